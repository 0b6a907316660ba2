/- The law ReaderLong. -/
import Derived.Test.YtkbblbgiheclfaaLK
import Derived.Test.YtkbblbgiheclfaaP3
import Derived.Deep.QuietTactic
import Derived.BigQuiet
namespace Go.Proofs.Ytkbblbgiheclfaa
open Go.RowKit Go.Proofs.YtkbblbgiheclfaaW.PrintWords

theorem quiet_left {P : Program} {f : FuncId} {args : Array Value} {w : World} {n : Nat} {v : Value}
    (h : Calls P f args (w.drewN n) fun e w' => e = .returned v ∧ w.drewN n = w') : Calls P f args (w.drewN n) fun e w'' => e = .returned v ∧ ∃ m, w'' = w.drewN m :=
  h.mono fun _ _ ⟨he, hm⟩ => ⟨he, n, hm.symm⟩
/-- All but the first. -/
theorem it_tail {w : World} {A : Option Addr} {c : Nat} {x : It} {ms : List It} (hC : kIt.C w A (ms.length + 1) (x :: ms)) (hc : ms.length + 1 ≤ c) :
    ∃ A', (∀ W1, (Instr.slice 30 (.slice A (ms.length + 1) c) (some (.int .i64 1)) none none).run Try.prog W1 = .ok (.slice A' ms.length (c - 1)) W1) ∧ kIt.C w A' ms.length ms := by
  obtain ⟨i0, hi, _, hsz, _⟩ := info_parts info_it
  have hcut := cut_from (P := Try.prog) 30 35 .i64 Try.underlying30 hi 4 hsz A (ms.length + 1) c 1 (by omega) (by omega)
  have hd := Kd.C_drop (m := 1) (c := c) hC (by simp) hc
  exact ⟨_, hcut, hd⟩
set_option maxHeartbeats 8000000 in
set_option maxRecDepth 100000 in
theorem long_law (o c0 nn : Int) (Bo : Option Addr) (d : Nat) (b0 : List Int) (w : World) (ho : 0 ≤ o ∧ o ≤ 255) (hc0 : 0 ≤ c0 ∧ c0 ≤ 255) (hnn : 0 ≤ nn ∧ nn ≤ 65535) (hB0 : kB.C w Bo b0.length b0) (hd0 : b0.length ≤ d) (hob0 : Oct b0) :
    Calls Try.prog 5 #[.agg #[.int .u8 o, .int .u8 c0, .int .u16 nn, .slice Bo b0.length d]] w (AwakeP w) := by
  have HFEW := Lib.hid (fun w' => bfew_any Bo d b0 w' hd0 hB0.2.1)
  have HB := Lib.hid (take_B hB0 200)
  have HOB := Lib.hid (hob0.take 200)
  have hbl : (b0.take 200).length ≤ 200 := by rw [List.length_take]; omega
  have hbd : (b0.take 200).length ≤ d := by rw [List.length_take]; omega
  obtain ⟨ho0, ho1⟩ := ho
  obtain ⟨hc00, hc01⟩ := hc0
  obtain ⟨hn0, hn1⟩ := hnn
  clear hB0 hd0 hob0
  generalize b0.length = nb at *
  generalize b0.take 200 = b at *
  go_enter Try.func5, Try.ntmps5
  go_wp2_with fail
  go_quiet ((go_at_call 7; with_reducible exact quiet_left (HFEW.out _)))
  have hk1 : ((w.alloc (.cells #[.int .u8 o, .int .u8 c0, .int .u16 nn, .slice Bo nb d] 45)).drewN nq).heap[w.heap.size]? = some (.cells #[.int .u8 o, .int .u8 c0, .int .u16 nn, .slice Bo nb d] 45 (0, 0)) := alloc_at w _
  have HB1 := Lib.hid (pw_below_drewN (below_alloc (Below.refl _ w) (.cells #[.int .u8 o, .int .u8 c0, .int .u16 nn, .slice Bo nb d] 45)) nq)
  obtain ⟨f0, f1, f2, f3, z0, z1, z2, z3⟩ := blk_facts4 hk1
  clear hk1 HFEW
  generalize (w.alloc (.cells #[.int .u8 o, .int .u8 c0, .int .u16 nn, .slice Bo nb d] 45)).drewN nq = w1 at *
  obtain ⟨n, hn⟩ := Int.eq_ofNat_of_zero_le (show 0 ≤ nn % 600 by omega)
  have HN := Lib.hid hn
  have hn600 : n < 600 := by omega
  clear hn
  go_upto_if 27 with fail
  rw [HN.out]
  clear f0 f1 f2 f3 z0 z1 z2 z3
  go_cut [4] (fun s4 wx => ∃ c : Int, s4 = .int .u8 c ∧ c ≠ 255 ∧ 0 ≤ c ∧ c ≤ 255 ∧ w1 = wx)
  case first =>
    by_cases h : c0 = 255
    · have hb : (c0 == 255) = true := beq_iff_eq.2 h
      clear h
      go_wp2_with fail
      go_meet
      exact ⟨254, rfl, by omega, by omega, by omega, rfl⟩
    · have hb : (c0 == 255) = false := beq_eq_false_iff_ne.2 h
      have HH := Lib.hid h
      clear h
      go_wp2_with fail
      go_meet
      exact ⟨c0, rfl, HH.out, hc00, hc01, rfl⟩
  case rest =>
    obtain ⟨c, rfl, hc255, hc0, hc1, rfl⟩ := hcut
    have HCN := Lib.hid hc255
    clear hc255
    go_wp2_with fail
    have hlit : kB.R 5 (w1.alloc (.cells #[.int .u8 255, .int .u8 250, .int .u8 o] 5)) w.heap.size (fun k => w.heap.size ≤ k) (.slice (some ⟨w1.heap.size, 0, none⟩) 3 3) (lp o c 0) :=
      Kd.R_of_own (h1 := fun _ => rfl) (ok := fun k => w.heap.size ≤ k) (own_lit_of (enc := Value.int .u8) w1 w.heap.size 5 [255, 250, o] HB1.out.size (by simp)) (fun k hk => by
        have : w1.heap.size = k := by simpa [Value.ownBlock] using hk
        have := HB1.out.size
        show w.heap.size ≤ k
        omega)
    have HLIT := Lib.hid hlit
    have HBA := Lib.hid (HB1.out.alloc HB1.out.size (.cells #[.int .u8 255, .int .u8 250, .int .u8 o] 5))
    clear hlit
    go_loopw [7, 8] (fun v i wr => ∃ k : Nat, k ≤ n ∧ i = .int .i64 k ∧ kB.R 5 wr w.heap.size (fun k => w.heap.size ≤ k) v (lp o c k) ∧ Below w.heap.size w wr) (fun _ i _ => n - (intOf i).toNat)
    case atStart => exact ⟨0, Nat.zero_le _, rfl, HLIT.out, HBA.out⟩
    case round =>
      obtain ⟨k, hk, rfl, hr, hb⟩ := hrel
      have HR := Lib.hid hr
      have HB2 := Lib.hid hb
      clear hr hb HLIT HBA
      by_cases hlt : k < n
      · have HS := Lib.hid (lp_succ o c k)
        have hll : (lp o c k).length ≤ 1000 := by rw [lp_len]; omega
        generalize lp o c k = t at *
        go_wp2_with (at_builtin; refine Kd.R_append kB (w0 := w) w.heap.size rfl (.tmp 35) (.tmp 37) 22 5 (.int .u8 0) 1 rfl Try.underlying22 info_u8 rfl (by decide) (by omega) _ t c [.int .u8 c] (fun k => w.heap.size ≤ k) (fun _ => False) rfl rfl rfl (fun _ hk => hk.elim) (fun k hk => Nat.le_trans HB2.out.size hk) HR.out HB2.out HB2.out.size (by omega) ?_; intro v1 w2 hr2 hb2 hg2 ho2; have HR4 := Lib.hid hr2; have HB4 := Lib.hid hb2; clear hr2 hb2 hg2 ho2)
        go_roundw
        case rel => exact ⟨k + 1, by omega, by go_num, by rw [← HS.out]; exact HR4.out, HB4.out⟩
        case measure => simp [intOf]; omega
      · obtain rfl : k = n := by omega
        have HLP := Lib.hid (lp_long o c k b)
        have HFL := Lib.hid (feed_long o c HCN.out k b)
        have HLL := Lib.hid (long_len o c k b)
        have HLO := Lib.hid (long_oct ⟨ho0, ho1⟩ ⟨hc0, hc1⟩ k HOB.out)
        have HGF := Lib.hid (good_feed b (inR 0) (by decide +kernel) Oct.nil HOB.out)
        have hmx := len_feed b (inR 0)
        obtain ⟨fr, hfr⟩ : ∃ fr, feedF (inR 0) b = fr := ⟨_, rfl⟩
        have HFB := Lib.hid hfr
        rw [hfr] at HFL HGF hmx
        clear hfr
        obtain ⟨r', ms⟩ := fr
        dsimp only at HFL hmx
        generalize longL o c k b = L at *
        have hll : (lp o c k).length ≤ 1000 := by rw [lp_len]; omega
        generalize lp o c k = t at *
        have hba := below_alloc (Below.refl _ wr) (.cells #[.int .u8 255, .int .u8 240] 5)
        have HR3 := Lib.hid (Kd.R_below HR.out hba)
        have HB3 := Lib.hid (HB2.out.trans (hba.mono HB2.out.size))
        have HL3 := Lib.hid (lit_B wr [255, 240] (by decide))
        clear hba
        go_wp2_with (first
          | (at_builtin; refine Kd.R_append_rows kB (Rr := fun x cs => cs = [.int .u8 x]) (w0 := w) w.heap.size rfl (.tmp 39) (.tmp 40) 22 5 (.int .u8 0) 1 rfl Try.underlying22 info_u8 rfl (by decide) (by omega) _ t [255, 240] (some ⟨wr.heap.size, 0, none⟩) 2 2 (fun k => w.heap.size ≤ k) (fun _ => False) rfl rfl HR3.out HL3.out (fun _ _ h => h) (fun _ h => h.elim) (fun k hk => Nat.le_trans HB3.out.size hk) HB3.out HB3.out.size (by omega) ?_; intro v2 w2 hr2 hb2 hg2 ho2; have HR4 := Lib.hid hr2; have HB4 := Lib.hid hb2; clear hr2 hb2 hg2 ho2)
          | (at_builtin; refine Kd.R_append_rows kB (Rr := fun x cs => cs = [.int .u8 x]) (w0 := w) w.heap.size rfl (.tmp 41) (.tmp 42) 22 5 (.int .u8 0) 1 rfl Try.underlying22 info_u8 rfl (by decide) (by omega) _ (t ++ [255, 240]) b Bo b.length d (fun k => w.heap.size ≤ k) (fun _ => False) rfl rfl HR4.out (Kd.C_below HB.out HB4.out) (fun _ _ h => h) (fun _ h => h.elim) (fun k hk => Nat.le_trans HB4.out.size hk) HB4.out HB4.out.size (by rw [List.length_append]; simp; omega) ?_; intro v3 w3 hr3 hb3 hg3 ho3; have HR5 := Lib.hid (show kB.R 5 w3 w.heap.size (fun k => w.heap.size ≤ k) v3 L from by rw [← HLP.out]; exact hr3); have HB5 := Lib.hid hb3; clear hr3 hb3 hg3 ho3))
        obtain ⟨A5, c5, rfl, hle5, hC5⟩ := Kd.R_reads HR5.out
        have hLl : L.length ≤ 1000 := by have := HLL.out; omega
        have HF1 := Lib.hid (feed_is (inR 0) _ _ none (some ⟨0, 0, none⟩) 0 0 0 0 [] w3 rfl rfl (Kd.C_nil _ _) (Nat.le_refl _) (by decide +kernel) ⟨rfl, by simp, fun h => absurd h (Nat.lt_irrefl 0)⟩ (by omega) Oct.nil (show feedF (inR 0) [] = (inR 0, []) from rfl))
        clear HF1
        have HF1 := Lib.hid (feed_is (inR 0) _ _ none A5 0 L.length 0 c5 L w3 rfl rfl (Kd.C_nil _ _) (Nat.le_refl _) (by decide +kernel) hC5 (by omega) HLO.out HFL.out)
        clear hC5 HR5 HR4 HB4 HR3 HB3 HL3 HR HB2 HLO HFL HLL HLP
        obtain ⟨xs, hxs⟩ : ∃ xs, (if k ≤ 512 then [(⟨4, o, 0, List.replicate k c⟩ : It)] else []) ++ ms = xs := ⟨_, rfl⟩
        rw [hxs] at HF1
        have HXS := Lib.hid hxs
        clear hxs
        go_wp2_with fail
        refine (HF1.out).mono ?_
        rintro e w4 ⟨A6, c6, B6, d6, rfl, hle6, hle7, hF6, hI6, hb6⟩
        have hba6 := below_alloc (Below.refl _ w4) (.cells #[.int .i64 r'.i, .int .i64 r'.v, .int .i64 r'.o, .slice A6 r'.l.length c6] 24)
        have HK6 := Lib.hid (alloc_at w4 (.cells #[.int .i64 r'.i, .int .i64 r'.v, .int .i64 r'.o, .slice A6 r'.l.length c6] 24))
        have HB6 := Lib.hid (HB5.out.trans ((hb6.trans (hba6.mono hb6.size)).mono HB5.out.size))
        have HF6 := Lib.hid (Kd.F_below hF6 hba6)
        have HI6 := Lib.hid (Kd.F_below hI6 hba6)
        have HF2 := Lib.hid (feed_is (inR 0) _ _ none Bo 0 b.length 0 d b (w4.alloc (.cells #[.int .i64 r'.i, .int .i64 r'.v, .int .i64 r'.o, .slice A6 r'.l.length c6] 24)) rfl rfl (Kd.C_nil _ _) (Nat.le_refl _) (by decide +kernel) (Kd.C_below HB.out HB6.out) (by omega) HOB.out HFB.out)
        clear hba6 hF6 hI6 hb6 HF1 HB5
        obtain ⟨i', v', o', l'⟩ := r'
        dsimp only at *
        go_wp2_with fail
        refine (HF2.out).mono ?_
        rintro e w5 ⟨A7, c7, B7, d7, rfl, hle8, hle9, hF7, hI7, hb7⟩
        dsimp only at *
        have hba7 := below_alloc (Below.refl _ w5) (.cells #[.int .i64 i', .int .i64 v', .int .i64 o', .slice A7 l'.length c7] 24)
        have hb67 := hb7.trans (hba7.mono hb7.size)
        have hk8 := (hb67.block w4.heap.size (by simp)).trans HK6.out
        have hlt5 : w4.heap.size + 1 ≤ w5.heap.size := by have := hb7.size; simpa using this
        have HB8 := Lib.hid (HB6.out.trans (hb67.mono HB6.out.size))
        have HF8 := Lib.hid (Kd.F_below HF6.out hb67)
        have HI8 := Lib.hid (Kd.F_below HI6.out hb67)
        have HF9 := Lib.hid (Kd.F_below hF7 hba7)
        have HI9 := Lib.hid (Kd.F_below hI7 hba7)
        have HK8 := Lib.hid hk8
        have hk9 := (hb7.block w4.heap.size (by simp)).trans HK6.out
        obtain ⟨f0, f1, f2, f3, z0, z1, z2, z3⟩ := blk_facts4 hk9
        have hlt6 : w4.heap.size < w5.heap.size := by omega
        have hne6 : ¬ w4.heap.size = w5.heap.size := by omega
        have hsm := rsame_any ⟨i', v', o', l'⟩ ⟨i', v', o', l'⟩ A6 A7 c6 c7 _ (Kd.F_now HF8.out) (Kd.F_now HF9.out) HGF.out.1 HGF.out.1
        rw [decide_eq_true rfl] at hsm
        have HSM := Lib.hid hsm
        clear hsm hba7 hF7 hI7 hb7 hb67 hk8 hk9 HF2 HK6 HB6 HF6 HI6 HF8 HF9 HK8
        go_wp2_with fail
        refine (HSM.out).mono ?_
        rintro e w6 ⟨rfl, hb6⟩
        have HB9 := Lib.hid (HB8.out.trans (hb6.mono HB8.out.size))
        have HIA := Lib.hid (Kd.F_now (Kd.F_below HI8.out hb6))
        have HIB := Lib.hid (Kd.F_now (Kd.F_below HI9.out hb6))
        clear HSM hb6 HB8 HI8 HI9 f0 f1 f2 f3 z0 z1 z2 z3
        by_cases hk5 : k ≤ 512
        · have hxe : ⟨4, o, 0, List.replicate k c⟩ :: ms = xs := by
            have := HXS.out
            rw [if_pos hk5] at this
            exact this
          subst hxe
          obtain ⟨A8, hcut, hC8⟩ := it_tail HIA.out hle7
          obtain ⟨ad, B1, c1, rfl, x0, x1, x2, x3, hle1, hB1⟩ := it_at HIA.out 0 (by simp)
          have hS := isame_any A8 B7 (d6 - 1) d7 ms ms w6 hC8 HIB.out HGF.out.2.1 HGF.out.2.1
          rw [decide_eq_true rfl] at hS
          have HS := Lib.hid hS
          have hd : decide ((512 : Int) < (k : Int)) = false := decide_eq_false (by omega)
          clear hS HXS HIA HIB HGF hC8 hB1 hle1
          rw [show ad.add (0 * 4) = ad by simp [Addr.add]] at x0 x1 x2 x3
          simp only [List.getD_cons_zero, List.length_replicate] at x0 x1 x2 x3
          go_wp2_with fail
          refine (HS.out).mono ?_
          rintro e w7 ⟨rfl, hb7⟩
          have HB10 := Lib.hid (HB9.out.trans (hb7.mono HB9.out.size))
          clear hb7 HS HB9
          go_wp2_with (go_at_call 9; refine (awake_any _).mono ?_; rintro e w' ⟨rfl, hb⟩)
          go_ret
          exact ⟨rfl, HB10.out.trans (hb.mono HB10.out.size)⟩
        · have hxe : ms = xs := by
            have := HXS.out
            rw [if_neg hk5] at this
            exact this
          subst hxe
          have hS := isame_any B6 B7 d6 d7 ms ms w6 HIA.out HIB.out HGF.out.2.1 HGF.out.2.1
          rw [decide_eq_true rfl] at hS
          have HS := Lib.hid hS
          have hd : decide ((512 : Int) < (k : Int)) = true := decide_eq_true (by omega)
          clear hS HXS HIA HIB HGF
          go_wp2_with fail
          refine (HS.out).mono ?_
          rintro e w7 ⟨rfl, hb7⟩
          have HB10 := Lib.hid (HB9.out.trans (hb7.mono HB9.out.size))
          clear hb7 HS HB9
          go_wp2_with (go_at_call 9; refine (awake_any _).mono ?_; rintro e w' ⟨rfl, hb⟩)
          go_ret
          exact ⟨rfl, HB10.out.trans (hb.mono HB10.out.size)⟩
end Go.Proofs.Ytkbblbgiheclfaa
