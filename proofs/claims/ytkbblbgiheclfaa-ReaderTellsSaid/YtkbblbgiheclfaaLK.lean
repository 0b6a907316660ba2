/- The law ReaderKeeps. -/
import Derived.Test.YtkbblbgiheclfaaRH
import Derived.Test.YtkbblbgiheclfaaP2
namespace Go.Proofs.Ytkbblbgiheclfaa
open Go.RowKit Go.Proofs.YtkbblbgiheclfaaW.PrintWords

theorem take_B {w : World} {A : Option Addr} {l : List Int} (hC : kB.C w A l.length l) (n : Nat) : kB.C w A (l.take n).length (l.take n) := by
  by_cases h : n ≤ l.length
  · exact Kd.C_take hC h
  · rw [List.take_of_length_le (by omega)]; exact hC

theorem blk_fourR {w : World} {g T : Nat} {a b c d : Value} (h : w.heap[g]? = some (.cells #[a, b, c, d] T (0, 0))) (a' b' c' d' : Value) :
    ((((w.setCell ⟨g, 0, none⟩ a').setCell ⟨g, 1, none⟩ b').setCell ⟨g, 2, none⟩ c').setCell ⟨g, 3, none⟩ d').heap[g]? = some (.cells #[a', b', c', d'] T (0, 0)) :=
  blk_set (blk_set (blk_set (blk_set h 0 a') 1 b') 2 c') 3 d'
theorem below_four {w0 w : World} {n g : Nat} (h : Below n w0 w) (hg : n ≤ g) (a b c d : Value) : Below n w0 ((((w.setCell ⟨g, 0, none⟩ a).setCell ⟨g, 1, none⟩ b).setCell ⟨g, 2, none⟩ c).setCell ⟨g, 3, none⟩ d) :=
  (((h.setCell (p := ⟨g, 0, none⟩) hg a).setCell (p := ⟨g, 1, none⟩) hg b).setCell (p := ⟨g, 2, none⟩) hg c).setCell (p := ⟨g, 3, none⟩) hg d

set_option maxHeartbeats 8000000 in
set_option maxRecDepth 100000 in
theorem keeps_law (r0 : Rd) (A Bo : Option Addr) (c d : Nat) (b0 : List Int) (again : Int) (w : World) (hC0 : kB.C w A r0.l.length r0.l) (hc0 : r0.l.length ≤ c) (ho0 : Oct r0.l) (hB0 : kB.C w Bo b0.length b0) (hd0 : b0.length ≤ d) (hob0 : Oct b0) (ha : 0 ≤ again ∧ again ≤ 255) :
    Calls Try.prog 3 #[.agg #[.int .i64 r0.i, .int .i64 r0.v, .int .i64 r0.o, .slice A r0.l.length c], .slice Bo b0.length d, .int .u8 again] w (AwakeP w) := by
  have HONE := Lib.hid (fun w' => ronecut_any r0 A c w' hc0 hC0.2.1)
  have HFEW := Lib.hid (fun w' => bfew_any Bo d b0 w' hd0 hB0.2.1)
  have HC := Lib.hid (take_B hC0 600)
  have HO := Lib.hid (ho0.take 600)
  have hcc : (r0.l.take 600).length ≤ c := by rw [List.length_take]; omega
  have HB := Lib.hid (take_B hB0 200)
  have HOB := Lib.hid (hob0.take 200)
  have hbl : (b0.take 200).length ≤ 200 := by rw [List.length_take]; omega
  have hbd : (b0.take 200).length ≤ d := by rw [List.length_take]; omega
  have HR : Hid (∃ r : Rd, r = ⟨r0.i, r0.v, r0.o, r0.l.take 600⟩) := Lib.hid ⟨_, rfl⟩
  clear hC0 hc0 ho0 hB0 hd0 hob0
  generalize b0.length = nb at *
  generalize b0.take 200 = b at *
  obtain ⟨i, v, o, l0⟩ := r0
  dsimp only at *
  generalize l0.length = n0 at *
  generalize l0.take 600 = l at *
  go_enter Try.func3, Try.ntmps3
  go_wp2_with fail
  refine (HONE.out _).mono ?_
  rintro e w1 ⟨rfl, hb1⟩
  have hk1 := (hb1.block w.heap.size (by simp)).trans (alloc_at w (.cells #[.int .i64 i, .int .i64 v, .int .i64 o, .slice A n0 c] 24))
  have hba := below_alloc (Below.refl _ w) (.cells #[.int .i64 i, .int .i64 v, .int .i64 o, .slice A n0 c] 24)
  have HB1 := Lib.hid (hba.trans (hb1.mono hba.size))
  obtain ⟨f0, f1, f2, f3, z0, z1, z2, z3⟩ := blk_facts4 hk1
  have HK1 := Lib.hid hk1
  clear hb1 hk1 hba HONE
  go_wp2_with fail
  refine (HFEW.out _).mono ?_
  rintro e w2 ⟨rfl, rfl⟩
  clear HFEW
  have hk2 := blk_fourR HK1.out (.int .i64 i) (.int .i64 v) (.int .i64 o) (.slice A l.length c)
  have hb2 := below_four HB1.out (Nat.le_refl _) (.int .i64 i) (.int .i64 v) (.int .i64 o) (.slice A l.length c)
  have HK2 := Lib.hid hk2
  have HB2 := Lib.hid hb2
  have HCK := Lib.hid (fun w' => rcheck_any ⟨i, v, o, l⟩ A c w')
  have HME := Lib.hid (show errR ⟨i, v, o, l⟩ = if mayR ⟨i, v, o, l⟩ = true then 0 else 1 from rfl)
  clear hk2 hb2 HK1 HB1
  go_upto_region 2 with fail
  generalize (((w1.setCell ⟨w.heap.size, 0, none⟩ (.int .i64 i)).setCell ⟨w.heap.size, 1, none⟩ (.int .i64 v)).setCell ⟨w.heap.size, 2, none⟩ (.int .i64 o)).setCell ⟨w.heap.size, 3, none⟩ (.slice A l.length c) = w2 at *
  clear f0 f1 f2 f3 z0 z1 z2 z3
  obtain ⟨f0, f1, f2, f3, z0, z1, z2, z3⟩ := blk_facts4 HK2.out
  go_wp2_with fail
  refine (HCK.out _).mono ?_
  rintro e w3 ⟨rfl, hb3⟩
  have HK3 := Lib.hid ((hb3.block w.heap.size (blk_lt HK2.out)).trans HK2.out)
  have HB3 := Lib.hid (HB2.out.trans (hb3.mono HB2.out.size))
  clear f0 f1 f2 f3 z0 z1 z2 z3 hb3 HK2 HB2 HCK
  by_cases hm : mayR ⟨i, v, o, l⟩ = true
  · have HM := Lib.hid hm
    have her : errR ⟨i, v, o, l⟩ = 0 := by rw [HME.out, if_pos hm]
    rw [her]
    clear her hm HME
    have HCF := Lib.hid (Kd.F_mono (Kd.F_below (Kd.C_F (Kd.heap_int .u8) HC.out) HB3.out) (fun k hk => (by omega : k ≠ w.heap.size)))
    clear HC HR
    have hag : 0 ≤ again % 6 ∧ again % 6 < 6 := ⟨Int.emod_nonneg _ (by decide), Int.emod_lt_of_pos _ (by decide)⟩
    obtain ⟨hag0, hag1⟩ := hag
    go_wp2_with fail
    go_loopw [7] (fun u wr => ∃ k : Nat, (k : Int) ≤ 1 + again % 6 ∧ u = .int .i64 k ∧ ∃ (r : Rd) (A : Option Addr) (c : Nat), wr.heap[w.heap.size]? = some (.cells #[.int .i64 r.i, .int .i64 r.v, .int .i64 r.o, .slice A r.l.length c] 24 (0, 0)) ∧ Kd.F kB wr (fun k => k ≠ w.heap.size) A r.l.length r.l ∧ r.l.length ≤ c ∧ mayR r = true ∧ Oct r.l ∧ Below w.heap.size w wr) (fun u _ => 8 - (intOf u).toNat)
    case atStart => exact ⟨0, by omega, rfl, ⟨i, v, o, l⟩, A, c, HK3.out, HCF.out, hcc, HM.out, HO.out, HB3.out⟩
    case round =>
      obtain ⟨k, hk, rfl, r, A', c', hbk, hF, hlc, hmr, hor, hbw⟩ := hrel
      clear HK3 HCF HB3 HM HO
      have HBW := Lib.hid hbw
      by_cases hlt : (k : Int) < 1 + again % 6
      · have HFD := Lib.hid (feed_yes r A' Bo c' d b wr (Kd.F_now hF) hlc hmr (Kd.C_below HB.out hbw) (by omega) HOB.out)
        have HG := Lib.hid (good_feed b r hmr hor HOB.out)
        have HMF := Lib.hid (may_feed b r hmr HOB.out)
        have HLN := Lib.hid (len_feed b r)
        obtain ⟨f0, f1, f2, f3, z0, z1, z2, z3⟩ := blk_facts4 hbk
        have HBK := Lib.hid hbk
        have hlt0 := blk_lt hbk
        clear hbw hF hmr hor hbk hlc
        obtain ⟨i, v, o, l⟩ := r
        dsimp only at f0 f1 f2 f3
        go_wp2_with fail
        refine (HFD.out).mono ?_
        rintro e w4 ⟨A4, c4, B4, d4, rfl, hle4, hle5, hF4, hI4, hb4⟩
        generalize hfr : feedF ⟨i, v, o, l⟩ b = fr at *
        obtain ⟨r', xs⟩ := fr
        dsimp only at *
        have hlt4 := hb4.size
        have HF4 := Lib.hid hF4
        have HI4 := Lib.hid hI4
        have HBK4 := Lib.hid ((hb4.block w.heap.size hlt0).trans HBK.out)
        have HBW4 := Lib.hid (HBW.out.trans (hb4.mono HBW.out.size))
        have HCK := Lib.hid (fun w' => rcheck_any r' A4 c4 w')
        have HER : Hid (errR r' = 0) := Lib.hid (by unfold errR; rw [HMF.out]; rfl)
        rw [HER.out] at HCK
        have hl512 : r'.l.length ≤ 512 := ((mayR_iff r').1 HMF.out).1.2.2.1
        have hxl : xs.length ≤ b.length := HLN.out
        clear hF4 hI4 hb4 HFD HBK HBW f0 f1 f2 f3 z0 z1 z2 z3 hfr HER HLN
        obtain ⟨i', v', o', l'⟩ := r'
        dsimp only at *
        go_wp2_with fail
        refine (HCK.out _).mono ?_
        rintro e w5 ⟨rfl, hb5⟩
        have hba := below_alloc (Below.refl _ w4) (.cells #[.int .i64 i', .int .i64 v', .int .i64 o', .slice A4 l'.length c4] 24)
        have hb45 := hba.trans (hb5.mono hba.size)
        have hk5 := (hb5.block w4.heap.size (by simp)).trans (alloc_at w4 (.cells #[.int .i64 i', .int .i64 v', .int .i64 o', .slice A4 l'.length c4] 24))
        obtain ⟨f0, f1, f2, f3, z0, z1, z2, z3⟩ := blk_facts4 hk5
        have hd1 : decide ((512 : Int) < (l'.length : Int)) = false := decide_eq_false (by omega)
        have hd2 : decide (b.length < xs.length) = false := decide_eq_false (by omega)
        have HK5 := Lib.hid hk5
        have HB45 := Lib.hid hb45
        have hlt5 := blk_lt hk5
        clear hb5 hk5 hba hb45 HCK
        go_wp2_with fail
        go_loopw [11] (fun u wr => ∃ j : Nat, j ≤ xs.length ∧ u = .int .i64 j ∧ Below w5.heap.size w5 wr) (fun u _ => xs.length - (intOf u).toNat)
        case atStart => exact ⟨0, Nat.zero_le _, rfl, Below.refl _ _⟩
        case round =>
          obtain ⟨j, hj, rfl, hb6⟩ := hrel
          have HB6 := Lib.hid hb6
          have HI6 := Lib.hid (Kd.F_now (Kd.F_below (Kd.F_below HI4.out HB45.out) hb6))
          clear f0 f1 f2 f3 z0 z1 z2 z3
          by_cases hjl : j < xs.length
          · obtain ⟨ad, B1, c1, rfl, x0, x1, x2, x3, hle1, hB1⟩ := it_at HI6.out j hjl
            have hmem := it_mem xs j hjl
            have hchk := fun w' h => check_any (xs.getD j zIt) B1 c1 w' h (HG.out.2.1 _ hmem)
            rw [may_err (HG.out.2.2 _ hmem)] at hchk
            have HCH := Lib.hid (hchk _ hB1)
            clear hchk hmem hB1 hb6
            generalize xs.getD j zIt = x at *
            go_wp2_with fail
            refine (HCH.out).mono ?_
            rintro e w7 ⟨rfl, hb7⟩
            have HB7 := Lib.hid (HB6.out.trans (hb7.mono HB6.out.size))
            clear hb7 HCH x0 x1 x2 x3
            go_wp2_with fail
            go_roundw
            case rel => exact ⟨j + 1, by omega, by go_num, HB7.out⟩
            case measure => simp [intOf]; omega
          · have hk6 := (hb6.block w4.heap.size hlt5).trans HK5.out
            have hbk6 := (hb6.block w.heap.size (by have := HB45.out.size; omega)).trans ((HB45.out.block w.heap.size (by omega)).trans HBK4.out)
            obtain ⟨f0, f1, f2, f3, z0, z1, z2, z3⟩ := blk_facts4 hk6
            obtain ⟨g0, g1, g2, g3, y0, y1, y2, y3⟩ := blk_facts4 hbk6
            have hk7 := blk_fourR hbk6 (.int .i64 i') (.int .i64 v') (.int .i64 o') (.slice A4 l'.length c4)
            have HK7 := Lib.hid hk7
            have hF6 := Kd.F_below (Kd.F_below HF4.out HB45.out) hb6
            have HF7 := Lib.hid (Kd.F_step hF6 (W1 := (((wr.setCell ⟨w.heap.size, 0, none⟩ (.int .i64 i')).setCell ⟨w.heap.size, 1, none⟩ (.int .i64 v')).setCell ⟨w.heap.size, 2, none⟩ (.int .i64 o')).setCell ⟨w.heap.size, 3, none⟩ (.slice A4 l'.length c4)) (fun k hk _ => blk_four_far (by omega) _ _ _ _))
            have HB7 := Lib.hid (below_four (HBW4.out.trans ((HB45.out.trans (hb6.mono HB45.out.size)).mono HBW4.out.size)) (Nat.le_refl _) (.int .i64 i') (.int .i64 v') (.int .i64 o') (.slice A4 l'.length c4))
            clear hk6 hbk6 hk7 hF6 hb6
            go_wp2_with fail
            go_roundw
            case rel => exact ⟨k + 1, by omega, by go_num, ⟨i', v', o', l'⟩, A4, c4, HK7.out, Kd.F_mono HF7.out (fun k hk => by omega), hle4, HMF.out, HG.out.1, HB7.out⟩
            case measure => simp [intOf]; omega
      · obtain ⟨k', hk'⟩ : ∃ k', k' = k := ⟨k, rfl⟩
        clear hk' k'
        go_wp2_with (go_at_call 9; refine (awake_any _).mono ?_; rintro e w' ⟨rfl, hb⟩)
        go_ret
        exact ⟨rfl, HBW.out.trans (hb.mono HBW.out.size)⟩
  · have her : errR ⟨i, v, o, l⟩ = 1 := by rw [HME.out, if_neg hm]
    rw [her]
    clear her hm HME
    go_wp2_with (go_at_call 9; refine (awake_any _).mono ?_; rintro e w' ⟨rfl, hb⟩)
    go_ret
    exact ⟨rfl, HB3.out.trans (hb.mono HB3.out.size)⟩
end Go.Proofs.Ytkbblbgiheclfaa
