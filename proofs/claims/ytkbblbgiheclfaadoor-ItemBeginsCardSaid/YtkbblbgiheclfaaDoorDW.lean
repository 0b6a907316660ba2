/- linnetlaw03.awake. -/
import Derived.Test.YtkbblbgiheclfaaDoorDH
import Derived.Test.YtkbblbgiheclfaaDoorRG
namespace Go.Proofs.YtkbblbgiheclfaaDoor.Dr
open Go.RowKit Go.Proofs.YtkbblbgiheclfaaDoorW.PrintWords

def aw1 : List It := [⟨3, 253, 34, []⟩]
def aw2 : List It := [⟨4, 34, 0, [1, 255]⟩]
theorem aw1_e : errs aw1 = 0 ∧ putsE aw1 = [255, 253, 34] := by decide +kernel
theorem aw2_e : errs aw2 = 0 ∧ putsE aw2 = [255, 250, 34, 1, 255, 255, 255, 240] := by decide +kernel
theorem aw3_e : errI ⟨2, 240, 0, []⟩ = 1 := by decide +kernel
theorem aw1_s : strOfNums [255, 253, 34] = ⟨#[255, 253, 34]⟩ := by kernel_rfl
theorem aw2_s : strOfNums [255, 250, 34, 1, 255, 255, 255, 240] = ⟨#[255, 250, 34, 1, 255, 255, 255, 240]⟩ := by kernel_rfl
theorem put_is {l : List It} {zs : List Int} (he : errs l = 0 ∧ putsE l = zs) (A : Option Addr) (n c m : Nat) (hn : l.length = n) (hm : zs.length = m) (w : World) (hC : kIt.C w A n l) (ho : Octs l) (hl : n ≤ 5000) :
    Calls Tryd.prog 15 #[.slice A n c] w (fun e w' => ∃ A' c', e = .returned (.tuple #[.slice A' m c', .int .i64 0]) ∧ kB.R 5 w' w.heap.size (fun k => w.heap.size ≤ k) (.slice A' m c') zs ∧ Below w.heap.size w w') := by
  subst hn
  subst hm
  refine (put_any A c l w hC ho hl).mono ?_
  rintro e w' ⟨v, rfl, hR, hb⟩
  rw [he.2] at hR
  obtain ⟨A', c', rfl⟩ := Kd.R_slice hR
  exact ⟨A', c', by rw [he.1], hR, hb⟩
def AwakeP (w : World) (e : Ending) (w' : World) : Prop := e = .returned (.bool true) ∧ Below w.heap.size w w'
set_option maxHeartbeats 4000000 in
set_option maxRecDepth 100000 in
theorem awake_any (w : World) : Calls Tryd.prog 13 #[] w (AwakeP w) := by
  have hb0 := below_alloc (Below.refl _ w) (.cells #[.int .i64 3, .int .i64 253, .int .i64 34, .slice none 0 0] 25)
  have H1 := Lib.hid (put_is aw1_e (some ⟨w.heap.size, 0, none⟩) 1 1 3 rfl rfl _ (lit_I w ⟨3, 253, 34, []⟩ none 0 (Nat.le_refl _) (Kd.C_nil _ _)) (fun x hx => by rw [List.mem_singleton.1 hx]; exact Oct.nil) (by omega))
  have HB0 := Lib.hid hb0
  clear hb0
  go_enter Tryd.func13, Tryd.ntmps13
  go_wp2_with fail
  refine (H1.out).mono ?_
  rintro e w1 ⟨A1, c1, rfl, hR1, hb1⟩
  have HR1 := Lib.hid hR1
  have HB1 := Lib.hid (HB0.out.trans (hb1.mono HB0.out.size))
  clear hR1 hb1 H1 HB0
  have hlb := oct_C w1 [1, 255] (by simp)
  have hba := below_alloc (Below.refl _ w1) (.cells #[.int .u8 1, .int .u8 255] 5)
  have hli := lit_I (w1.alloc (.cells #[.int .u8 1, .int .u8 255] 5)) ⟨4, 34, 0, [1, 255]⟩ (some ⟨w1.heap.size, 0, none⟩) 2 (Nat.le_refl _) hlb
  rw [World.size_alloc] at hli
  have hbb := hba.trans ((below_alloc (Below.refl _ (w1.alloc (.cells #[.int .u8 1, .int .u8 255] 5))) (.cells #[.int .i64 4, .int .i64 34, .int .i64 0, .slice (some ⟨w1.heap.size, 0, none⟩) 2 2] 25)).mono hba.size)
  have H2 := Lib.hid (put_is aw2_e (some ⟨w1.heap.size + 1, 0, none⟩) 1 1 8 rfl rfl _ hli (fun x hx => by rw [List.mem_singleton.1 hx]; intro y hy; simp at hy; omega) (by omega))
  have HB2 := Lib.hid hbb
  clear hlb hba hli hbb
  go_wp2_with fail
  refine (H2.out).mono ?_
  rintro e w2 ⟨A2, c2, rfl, hR2, hb2⟩
  have hs1 := bytes_str (c := c1) (n := 3) (Kd.R_reads' (Kd.R_below HR1.out (HB2.out.trans (hb2.mono HB2.out.size)))).2.2
  have hs2 := bytes_str (c := c2) (n := 8) (Kd.R_reads' hR2).2.2
  rw [aw1_s] at hs1
  rw [aw2_s] at hs2
  have HB3 := Lib.hid (HB1.out.trans ((HB2.out.trans (hb2.mono HB2.out.size)).mono HB1.out.size))
  have H3 := Lib.hid (fun W => check_any ⟨2, 240, 0, []⟩ none 0 W (Kd.C_nil _ _) Oct.nil)
  rw [aw3_e] at H3
  clear hR2 hb2 H2 HB2 HR1 HB1
  go_wp2_with (go_at_call 21; refine (H3.out _).mono ?_; rintro e w' ⟨rfl, hb⟩)
  go_ret
  exact ⟨rfl, HB3.out.trans (hb.mono HB3.out.size)⟩
end Go.Proofs.YtkbblbgiheclfaaDoor.Dr
