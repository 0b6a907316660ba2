/- The law ItemLong. -/
import Derived.Test.YtkbblbgiheclfaaDoorDW
namespace Go.Proofs.YtkbblbgiheclfaaDoor.Dr
open Go.RowKit Go.Proofs.YtkbblbgiheclfaaDoorW.PrintWords

def lenV : Value → Nat
  | .slice _ n _ => n
  | _ => 0
theorem take_B {w : World} {A : Option Addr} {l : List Int} (hC : kB.C w A l.length l) (n : Nat) : kB.C w A (l.take n).length (l.take n) := by
  by_cases h : n ≤ l.length
  · exact Kd.C_take hC h
  · rw [List.take_of_length_le (by omega)]; exact hC
def LgR (w : World) (v : Value) (wr : World) (xs : List Int) : Prop := Oct xs ∧ kB.R 5 wr w.heap.size (fun k => w.heap.size ≤ k) v xs ∧ Below w.heap.size w wr
theorem sub_may (o : Int) (l : List Int) (h0 : 0 ≤ o) (h1 : o ≤ 255) : mayI ⟨4, o, 0, l⟩ = decide (l.length ≤ 512) := by
  unfold mayI smI kindI partsI oct
  simp [h0, h1]
theorem sub_yes (o : Int) (l : List Int) (h0 : 0 ≤ o) (h1 : o ≤ 255) (hl : l.length ≤ 512) : ∃ L : Nat, (putsE [⟨4, o, 0, l⟩]).length = L ∧ errs [⟨4, o, 0, l⟩] = 0 ∧ l.length + 5 ≤ L ∧ L ≤ 2 * l.length + 5 := by
  have hm : mays [⟨4, o, 0, l⟩] = true := by
    simp only [mays, List.all_cons, List.all_nil, Bool.and_true]
    rw [sub_may o l h0 h1]
    exact decide_eq_true hl
  obtain ⟨he, hp⟩ := errs_yes hm
  have e : putsF [⟨4, o, 0, l⟩] = [255, 250, o] ++ dblF l ++ [255, 240] := by simp [putsF, putI]
  have h2 := dbl_len l
  have h3 := count_le l
  refine ⟨_, rfl, he, ?_⟩
  rw [hp, e]
  simp only [List.length_append, List.length_cons, List.length_nil]
  omega
theorem sub_no (o : Int) (l : List Int) (h0 : 0 ≤ o) (h1 : o ≤ 255) (hl : ¬ l.length ≤ 512) : (putsE [⟨4, o, 0, l⟩]).length = 0 ∧ errs [⟨4, o, 0, l⟩] = 1 := by
  have hm : mays [⟨4, o, 0, l⟩] = false := by
    simp only [mays, List.all_cons, List.all_nil, Bool.and_true]
    rw [sub_may o l h0 h1]
    exact decide_eq_false hl
  obtain ⟨he, hp⟩ := errs_no hm
  exact ⟨by rw [hp]; rfl, he⟩
set_option maxHeartbeats 4000000 in
set_option maxRecDepth 100000 in
theorem long_law (o more : Int) (A : Option Addr) (c : Nat) (b0 : List Int) (w : World) (h0 : 0 ≤ o ∧ o ≤ 255) (hm : 0 ≤ more ∧ more ≤ 255) (hB : kB.C w A b0.length b0) (hc : b0.length ≤ c) (ho : Oct b0) :
    Calls Tryd.prog 3 #[.int .u8 o, .slice A b0.length c, .int .u8 more] w (AwakeP w) := by
  have HFEW := Lib.hid (bfew_any A c b0 w hc hB.2.1)
  have HB := Lib.hid (take_B hB 200)
  have HO := Lib.hid (ho.take 200)
  have hbl : (b0.take 200).length ≤ 200 := by rw [List.length_take]; omega
  obtain ⟨ho0, ho1⟩ := h0
  obtain ⟨hm0, hm1⟩ := hm
  have hg0 : 0 ≤ more % 30 := Int.emod_nonneg _ (by decide)
  have hg1 : more % 30 < 30 := Int.emod_lt_of_pos _ (by decide)
  clear hB hc ho
  generalize b0.take 200 = b at *
  generalize b0.length = nb at *
  go_enter Tryd.func3, Tryd.ntmps3
  go_wp2_with (go_at_call 11; refine (HFEW.out).mono ?_; rintro e w' ⟨rfl, rfl⟩)
  go_loopw [7] (fun v7 wr => ∃ xs : List Int, (xs.length : Int) ≤ 500 + more % 30 ∧ LgR w v7 wr xs) (fun v7 _ => 600 - lenV v7)
  case atStart => exact ⟨[], by simp; omega, Oct.nil, Kd.R_nil _ _ _ _ _, Below.refl _ _⟩
  case round =>
    obtain ⟨xs, hxl, hox, hR, hb⟩ := hrel
    obtain ⟨A7, c7, rfl⟩ := Kd.R_slice hR
    have HR := Lib.hid hR
    have HBW := Lib.hid hb
    have HOX := Lib.hid hox
    clear hR hb hox
    by_cases hlt : (xs.length : Int) < 500 + more % 30
    · have hxm : 0 ≤ (xs.length : Int) % 256 ∧ (xs.length : Int) % 256 ≤ 255 := by omega
      have HOX2 := Lib.hid (HOX.out.app (Oct.one hxm.1 hxm.2))
      clear hxm
      go_wp2_with (at_builtin; refine Kd.R_append kB (w0 := w) w.heap.size rfl (.tmp 20) (.tmp 24) 22 5 (.int .u8 0) 1 rfl Tryd.underlying22 info_u8 rfl (by decide) (by omega) (.slice A7 xs.length c7) xs ((xs.length : Int) % 256) [.int .u8 ((xs.length : Int) % 256)] (fun k => w.heap.size ≤ k) (fun _ => False) rfl rfl rfl (fun _ hk => hk.elim) (fun k hk => Nat.le_trans HBW.out.size hk) HR.out HBW.out HBW.out.size (by omega) ?_; intro v1 w1 hr2 hb2 hg2 ho2; obtain ⟨A8, c8, rfl⟩ := Kd.R_slice hr2; have HG := Lib.hid (show LgR w (.slice A8 (xs ++ [(xs.length : Int) % 256]).length c8) w1 (xs ++ [(xs.length : Int) % 256]) from ⟨HOX2.out, hr2, hb2⟩); rw [List.length_append, List.length_singleton] at HG; clear hr2 hb2 hg2 ho2)
      go_roundw
      case rel => exact ⟨xs ++ [(xs.length : Int) % 256], by rw [List.length_append, List.length_singleton]; omega, HG.out⟩
      case measure => simp only [lenV]; omega
    · have hxl2 : xs.length ≤ 529 := by omega
      obtain ⟨ls, hls⟩ : ∃ ls, xs ++ b = ls := ⟨_, rfl⟩
      have HLS := Lib.hid hls
      have hll : xs.length + b.length = ls.length := by rw [← hls, List.length_append]
      have HLL := Lib.hid hll
      have hln : ls.length ≤ 729 := by omega
      have HOL := Lib.hid (show Oct ls from hls ▸ HOX.out.app HO.out)
      have HCB := Lib.hid (Kd.C_below HB.out HBW.out)
      clear hls hll HOX HO HB
      go_upto_region 6 with (at_builtin; refine Kd.R_append_rows kB (Rr := fun x cs => cs = [.int .u8 x]) (w0 := w) w.heap.size rfl (.tmp 26) (.tmp 27) 22 5 (.int .u8 0) 1 rfl Tryd.underlying22 info_u8 rfl (by decide) (by omega) (.slice A7 xs.length c7) xs b A b.length c (fun k => w.heap.size ≤ k) (fun _ => False) rfl rfl HR.out HCB.out (fun _ _ h => h) (fun _ h => h.elim) (fun k hk => Nat.le_trans HBW.out.size hk) HBW.out HBW.out.size (by omega) ?_; intro v1 w1 hr2 hb2 hg2 ho2; rw [HLS.out] at hr2; obtain ⟨A8, c8, rfl⟩ := Kd.R_slice hr2; have HR8 := Lib.hid hr2; have HB8 := Lib.hid hb2; clear hr2 hb2 hg2 ho2)
      clear HLS HLL HCB HR HBW hxl hxl2 hlt hbl
      have hrd := Kd.R_reads' HR8.out
      have hb1 := below_alloc (Below.refl _ w1) (.cells #[.int .i64 4, .int .i64 o, .int .i64 0, .slice A8 ls.length c8] 25)
      have hli := lit_I (w1.alloc (.cells #[.int .i64 4, .int .i64 o, .int .i64 0, .slice A8 ls.length c8] 25)) ⟨4, o, 0, ls⟩ A8 c8 hrd.2.1 (Kd.C_below hrd.2.2 hb1)
      rw [World.size_alloc] at hli
      have hb2 := hb1.trans ((below_alloc (Below.refl _ (w1.alloc (.cells #[.int .i64 4, .int .i64 o, .int .i64 0, .slice A8 ls.length c8] 25))) (.cells #[.int .i64 4, .int .i64 o, .int .i64 0, .slice A8 ls.length c8] 25)).mono hb1.size)
      have HB9 := Lib.hid (HB8.out.trans (hb2.mono HB8.out.size))
      have hsz := psize_any (some ⟨w1.heap.size + 1, 0, none⟩) 1 [⟨4, o, 0, ls⟩] _ hli (fun x hx => by rw [List.mem_singleton.1 hx]; exact HOL.out) (by simp)
      by_cases h5 : ls.length ≤ 512
      · obtain ⟨L, hL, he, hL1, hL2⟩ := sub_yes o ls ho0 ho1 h5
        rw [hL, he] at hsz
        have HSZ := Lib.hid (show Calls Tryd.prog 12 #[.slice (some ⟨w1.heap.size + 1, 0, none⟩) 1 1] _ _ from hsz)
        clear hrd hb1 hli hb2 hsz hL he HOL HR8 HB8
        go_wp2_with (first | (go_at_call 12; refine (HSZ.out).mono ?_; rintro e w2 ⟨rfl, hb⟩; have HB2 := Lib.hid (HB9.out.trans (hb.mono HB9.out.size)); clear hb) | (go_at_call 13; refine (awake_any _).mono ?_; rintro e w' ⟨rfl, hb⟩))
        go_ret
        exact ⟨rfl, HB2.out.trans (hb.mono HB2.out.size)⟩
      · obtain ⟨hL, he⟩ := sub_no o ls ho0 ho1 h5
        rw [hL, he] at hsz
        have HSZ := Lib.hid (show Calls Tryd.prog 12 #[.slice (some ⟨w1.heap.size + 1, 0, none⟩) 1 1] _ _ from hsz)
        clear hrd hb1 hli hb2 hsz hL he HOL HR8 HB8
        go_wp2_with (first | (go_at_call 12; refine (HSZ.out).mono ?_; rintro e w2 ⟨rfl, hb⟩; have HB2 := Lib.hid (HB9.out.trans (hb.mono HB9.out.size)); clear hb) | (go_at_call 13; refine (awake_any _).mono ?_; rintro e w' ⟨rfl, hb⟩))
        go_ret
        exact ⟨rfl, HB2.out.trans (hb.mono HB2.out.size)⟩
end Go.Proofs.YtkbblbgiheclfaaDoor.Dr
