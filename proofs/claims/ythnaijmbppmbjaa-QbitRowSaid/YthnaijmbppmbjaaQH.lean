/- The walk of the law QbitRow. -/
import Derived.Test.YthnaijmbppmbjaaQK
namespace Go.Proofs.Ythnaijmbppmbjaa
open Go.RowKit Go.Proofs.YthnaijmbppmbjaaW.PrintWords

/-- What holds of where it is, of what was said last, and of whether yes came. -/
def RowInv (q last : Int) (came : Bool) : Prop := 0 ≤ q ∧ q < 6 ∧ (q = 0 ∨ q = 2 ∨ q = 3 → last ≠ 1) ∧ (q = 1 → came = true)

set_option maxHeartbeats 20000000 in
set_option maxRecDepth 100000 in
theorem row_walk (m : Bool) (A : Option Addr) (cap : Nat) (l : List (Int × Bool × Bool)) (w : World) (hC : kAct.C w A l.length l) :
    Calls Try.prog 5 #[.bool m, .slice A l.length cap] w fun e w' => e = .returned (.bool true) ∧ Below w.heap.size w w' := by
  have hlen : l.length ≤ 9223372036854775807 := hC.2.1
  have HC := Lib.hid hC
  clear hC
  go_enter Try.func5, Try.ntmps5
  go_wp2_with fail
  go_loopw [5, 6, 7, 8] (fun q la ca i wr => ∃ (k : Nat) (qv last : Int) (came : Bool), k ≤ l.length ∧ k ≤ 100 ∧ i = .int .i64 k ∧ q = .int .i64 qv ∧ la = .int .i64 last ∧ ca = .bool came ∧ RowInv qv last came ∧ Below w.heap.size w wr) (fun _ _ _ i _ => l.length - (intOf i).toNat)
  case atStart => exact ⟨0, 0, 2, false, Nat.zero_le _, by omega, rfl, rfl, rfl, rfl, by unfold RowInv; omega, Below.refl _ _⟩
  case round =>
    obtain ⟨k, qv, last, came, hk, hk2, rfl, rfl, rfl, rfl, hinv, hb⟩ := hrel
    by_cases hlt : k < l.length ∧ k < 100
    · obtain ⟨h1, h2⟩ := hlt
      obtain ⟨ad, rfl, e0, e1, e2⟩ := act_at HC.out k h1
      have hbl0 : (ad.add (k * 3)).block < w.heap.size := block_lt_of_cell e0
      have hcell1 := (hb.cell (p := ⟨(ad.add (k * 3)).block, (ad.add (k * 3)).off + 1, none⟩) hbl0).trans e1
      have hcell2 := (hb.cell (p := ⟨(ad.add (k * 3)).block, (ad.add (k * 3)).off + 2, none⟩) hbl0).trans e2
      have hbl : (ad.add (k * 3)).block < wr.heap.size := Nat.lt_of_lt_of_le hbl0 hb.size
      clear e0 e1 e2 HC
      generalize (l.getD k zAct).2.1 = comes at *
      generalize (l.getD k zAct).2.2 = on at *
      obtain ⟨hq0, hq6, hi1, hi2⟩ := hinv
      rcases six qv hq0 hq6 with rfl | rfl | rfl | rfl | rfl | rfl <;> cases came <;> cases comes <;> cases on
      · as_aux_lemma =>
        have hl1 : last ≠ 1 := hi1 (by omega)
        clear hi1 hi2
        go_wp2_with fail
        refine (Ask_at 0 false (a := 0) (s := 0) (e := 5) (by rfl) _).mono ?_
        rintro e w1 ⟨rfl, hb1⟩
        go_wp2_with (go_at_call 13; refine (check_ok 0 (by omega) (by omega) _).mono ?_; rintro e w' ⟨rfl, rfl⟩)
        go_roundw
        case rel => exact ⟨k + 1, 0, last, false, by omega, by omega, by go_num, rfl, rfl, rfl, ⟨by omega, by omega, (fun h => by first | exact hl1 | omega), (fun h => by first | rfl | (exfalso; omega))⟩, hb.trans (hb1.mono hb.size)⟩
        case measure => simp [intOf]; omega
      · as_aux_lemma =>
        have hl1 : last ≠ 1 := hi1 (by omega)
        have hl : (last == 1) = false := by simp only [beq_eq_false_iff_ne]; exact hl1
        clear hi1 hi2
        go_wp2_with fail
        refine (Ask_at 0 true (a := 4) (s := 1) (e := 0) (by rfl) _).mono ?_
        rintro e w1 ⟨rfl, hb1⟩
        go_wp2_with (go_at_call 13; refine (check_ok 4 (by omega) (by omega) _).mono ?_; rintro e w' ⟨rfl, rfl⟩)
        go_roundw
        case rel => exact ⟨k + 1, 4, 1, false, by omega, by omega, by go_num, rfl, rfl, rfl, ⟨by omega, by omega, (fun h => by first | exact hl1 | omega), (fun h => by first | rfl | (exfalso; omega))⟩, hb.trans (hb1.mono hb.size)⟩
        case measure => simp [intOf]; omega
      · as_aux_lemma =>
        have hl1 : last ≠ 1 := hi1 (by omega)
        clear hi1 hi2
        go_wp2_with fail
        refine (Got_at 0 false m (a := 0) (s := 0) (e := 0) (by cases m <;> rfl) _).mono ?_
        rintro e w1 ⟨rfl, hb1⟩
        have hcell3 := (hb1.cell (p := ⟨(ad.add (k * 3)).block, (ad.add (k * 3)).off + 2, none⟩) hbl).trans hcell2
        go_wp2_with (go_at_call 13; refine (check_ok 0 (by omega) (by omega) _).mono ?_; rintro e w' ⟨rfl, rfl⟩)
        go_roundw
        case rel => exact ⟨k + 1, 0, last, false, by omega, by omega, by go_num, rfl, rfl, rfl, ⟨by omega, by omega, (fun h => by first | exact hl1 | omega), (fun h => by first | rfl | (exfalso; omega))⟩, hb.trans (hb1.mono hb.size)⟩
        case measure => simp [intOf]; omega
      · cases m
        · as_aux_lemma =>
          have hl1 : last ≠ 1 := hi1 (by omega)
          clear hi1 hi2
          go_wp2_with fail
          refine (Got_at 0 true false (a := 0) (s := 2) (e := 0) (by rfl) _).mono ?_
          rintro e w1 ⟨rfl, hb1⟩
          have hcell3 := (hb1.cell (p := ⟨(ad.add (k * 3)).block, (ad.add (k * 3)).off + 2, none⟩) hbl).trans hcell2
          go_wp2_with (go_at_call 13; refine (check_ok 0 (by omega) (by omega) _).mono ?_; rintro e w' ⟨rfl, rfl⟩)
          go_roundw
          case rel => exact ⟨k + 1, 0, 2, true, by omega, by omega, by go_num, rfl, rfl, rfl, ⟨by omega, by omega, (fun h => by first | exact hl1 | omega), (fun h => by first | rfl | (exfalso; omega))⟩, hb.trans (hb1.mono hb.size)⟩
          case measure => simp [intOf]; omega
        · as_aux_lemma =>
          have hl1 : last ≠ 1 := hi1 (by omega)
          have hl : (last == 1) = false := by simp only [beq_eq_false_iff_ne]; exact hl1
          clear hi1 hi2
          go_wp2_with fail
          refine (Got_at 0 true true (a := 1) (s := 1) (e := 0) (by rfl) _).mono ?_
          rintro e w1 ⟨rfl, hb1⟩
          have hcell3 := (hb1.cell (p := ⟨(ad.add (k * 3)).block, (ad.add (k * 3)).off + 2, none⟩) hbl).trans hcell2
          go_wp2_with (go_at_call 13; refine (check_ok 1 (by omega) (by omega) _).mono ?_; rintro e w' ⟨rfl, rfl⟩)
          go_roundw
          case rel => exact ⟨k + 1, 1, 1, true, by omega, by omega, by go_num, rfl, rfl, rfl, ⟨by omega, by omega, (fun h => by first | exact hl1 | omega), (fun h => by first | rfl | (exfalso; omega))⟩, hb.trans (hb1.mono hb.size)⟩
          case measure => simp [intOf]; omega
      · as_aux_lemma =>
        have hl1 : last ≠ 1 := hi1 (by omega)
        clear hi1 hi2
        go_wp2_with fail
        refine (Ask_at 0 false (a := 0) (s := 0) (e := 5) (by rfl) _).mono ?_
        rintro e w1 ⟨rfl, hb1⟩
        go_wp2_with (go_at_call 13; refine (check_ok 0 (by omega) (by omega) _).mono ?_; rintro e w' ⟨rfl, rfl⟩)
        go_roundw
        case rel => exact ⟨k + 1, 0, last, true, by omega, by omega, by go_num, rfl, rfl, rfl, ⟨by omega, by omega, (fun h => by first | exact hl1 | omega), (fun h => by first | rfl | (exfalso; omega))⟩, hb.trans (hb1.mono hb.size)⟩
        case measure => simp [intOf]; omega
      · as_aux_lemma =>
        have hl1 : last ≠ 1 := hi1 (by omega)
        have hl : (last == 1) = false := by simp only [beq_eq_false_iff_ne]; exact hl1
        clear hi1 hi2
        go_wp2_with fail
        refine (Ask_at 0 true (a := 4) (s := 1) (e := 0) (by rfl) _).mono ?_
        rintro e w1 ⟨rfl, hb1⟩
        go_wp2_with (go_at_call 13; refine (check_ok 4 (by omega) (by omega) _).mono ?_; rintro e w' ⟨rfl, rfl⟩)
        go_roundw
        case rel => exact ⟨k + 1, 4, 1, true, by omega, by omega, by go_num, rfl, rfl, rfl, ⟨by omega, by omega, (fun h => by first | exact hl1 | omega), (fun h => by first | rfl | (exfalso; omega))⟩, hb.trans (hb1.mono hb.size)⟩
        case measure => simp [intOf]; omega
      · as_aux_lemma =>
        have hl1 : last ≠ 1 := hi1 (by omega)
        clear hi1 hi2
        go_wp2_with fail
        refine (Got_at 0 false m (a := 0) (s := 0) (e := 0) (by cases m <;> rfl) _).mono ?_
        rintro e w1 ⟨rfl, hb1⟩
        have hcell3 := (hb1.cell (p := ⟨(ad.add (k * 3)).block, (ad.add (k * 3)).off + 2, none⟩) hbl).trans hcell2
        go_wp2_with (go_at_call 13; refine (check_ok 0 (by omega) (by omega) _).mono ?_; rintro e w' ⟨rfl, rfl⟩)
        go_roundw
        case rel => exact ⟨k + 1, 0, last, true, by omega, by omega, by go_num, rfl, rfl, rfl, ⟨by omega, by omega, (fun h => by first | exact hl1 | omega), (fun h => by first | rfl | (exfalso; omega))⟩, hb.trans (hb1.mono hb.size)⟩
        case measure => simp [intOf]; omega
      · cases m
        · as_aux_lemma =>
          have hl1 : last ≠ 1 := hi1 (by omega)
          clear hi1 hi2
          go_wp2_with fail
          refine (Got_at 0 true false (a := 0) (s := 2) (e := 0) (by rfl) _).mono ?_
          rintro e w1 ⟨rfl, hb1⟩
          have hcell3 := (hb1.cell (p := ⟨(ad.add (k * 3)).block, (ad.add (k * 3)).off + 2, none⟩) hbl).trans hcell2
          go_wp2_with (go_at_call 13; refine (check_ok 0 (by omega) (by omega) _).mono ?_; rintro e w' ⟨rfl, rfl⟩)
          go_roundw
          case rel => exact ⟨k + 1, 0, 2, true, by omega, by omega, by go_num, rfl, rfl, rfl, ⟨by omega, by omega, (fun h => by first | exact hl1 | omega), (fun h => by first | rfl | (exfalso; omega))⟩, hb.trans (hb1.mono hb.size)⟩
          case measure => simp [intOf]; omega
        · as_aux_lemma =>
          have hl1 : last ≠ 1 := hi1 (by omega)
          have hl : (last == 1) = false := by simp only [beq_eq_false_iff_ne]; exact hl1
          clear hi1 hi2
          go_wp2_with fail
          refine (Got_at 0 true true (a := 1) (s := 1) (e := 0) (by rfl) _).mono ?_
          rintro e w1 ⟨rfl, hb1⟩
          have hcell3 := (hb1.cell (p := ⟨(ad.add (k * 3)).block, (ad.add (k * 3)).off + 2, none⟩) hbl).trans hcell2
          go_wp2_with (go_at_call 13; refine (check_ok 1 (by omega) (by omega) _).mono ?_; rintro e w' ⟨rfl, rfl⟩)
          go_roundw
          case rel => exact ⟨k + 1, 1, 1, true, by omega, by omega, by go_num, rfl, rfl, rfl, ⟨by omega, by omega, (fun h => by first | exact hl1 | omega), (fun h => by first | rfl | (exfalso; omega))⟩, hb.trans (hb1.mono hb.size)⟩
          case measure => simp [intOf]; omega
      · as_aux_lemma =>
        exact absurd (hi2 rfl) (by simp)
      · as_aux_lemma =>
        exact absurd (hi2 rfl) (by simp)
      · as_aux_lemma =>
        exact absurd (hi2 rfl) (by simp)
      · as_aux_lemma =>
        exact absurd (hi2 rfl) (by simp)
      · as_aux_lemma =>
        clear hi1 hi2
        go_wp2_with fail
        refine (Ask_at 1 false (a := 2) (s := 2) (e := 0) (by rfl) _).mono ?_
        rintro e w1 ⟨rfl, hb1⟩
        go_wp2_with (go_at_call 13; refine (check_ok 2 (by omega) (by omega) _).mono ?_; rintro e w' ⟨rfl, rfl⟩)
        go_roundw
        case rel => exact ⟨k + 1, 2, 2, true, by omega, by omega, by go_num, rfl, rfl, rfl, ⟨by omega, by omega, (fun h => by first | exact hl1 | omega), (fun h => by first | rfl | (exfalso; omega))⟩, hb.trans (hb1.mono hb.size)⟩
        case measure => simp [intOf]; omega
      · as_aux_lemma =>
        clear hi1 hi2
        go_wp2_with fail
        refine (Ask_at 1 true (a := 1) (s := 0) (e := 5) (by rfl) _).mono ?_
        rintro e w1 ⟨rfl, hb1⟩
        go_wp2_with (go_at_call 13; refine (check_ok 1 (by omega) (by omega) _).mono ?_; rintro e w' ⟨rfl, rfl⟩)
        go_roundw
        case rel => exact ⟨k + 1, 1, last, true, by omega, by omega, by go_num, rfl, rfl, rfl, ⟨by omega, by omega, (fun h => by first | exact hl1 | omega), (fun h => by first | rfl | (exfalso; omega))⟩, hb.trans (hb1.mono hb.size)⟩
        case measure => simp [intOf]; omega
      · as_aux_lemma =>
        clear hi1 hi2
        go_wp2_with fail
        refine (Got_at 1 false m (a := 0) (s := 2) (e := 0) (by cases m <;> rfl) _).mono ?_
        rintro e w1 ⟨rfl, hb1⟩
        have hcell3 := (hb1.cell (p := ⟨(ad.add (k * 3)).block, (ad.add (k * 3)).off + 2, none⟩) hbl).trans hcell2
        go_wp2_with (go_at_call 13; refine (check_ok 0 (by omega) (by omega) _).mono ?_; rintro e w' ⟨rfl, rfl⟩)
        go_roundw
        case rel => exact ⟨k + 1, 0, 2, true, by omega, by omega, by go_num, rfl, rfl, rfl, ⟨by omega, by omega, (fun h => by first | exact hl1 | omega), (fun h => by first | rfl | (exfalso; omega))⟩, hb.trans (hb1.mono hb.size)⟩
        case measure => simp [intOf]; omega
      · as_aux_lemma =>
        clear hi1 hi2
        go_wp2_with fail
        refine (Got_at 1 true m (a := 1) (s := 0) (e := 0) (by cases m <;> rfl) _).mono ?_
        rintro e w1 ⟨rfl, hb1⟩
        have hcell3 := (hb1.cell (p := ⟨(ad.add (k * 3)).block, (ad.add (k * 3)).off + 2, none⟩) hbl).trans hcell2
        go_wp2_with (go_at_call 13; refine (check_ok 1 (by omega) (by omega) _).mono ?_; rintro e w' ⟨rfl, rfl⟩)
        go_roundw
        case rel => exact ⟨k + 1, 1, last, true, by omega, by omega, by go_num, rfl, rfl, rfl, ⟨by omega, by omega, (fun h => by first | exact hl1 | omega), (fun h => by first | rfl | (exfalso; omega))⟩, hb.trans (hb1.mono hb.size)⟩
        case measure => simp [intOf]; omega
      · as_aux_lemma =>
        have hl1 : last ≠ 1 := hi1 (by omega)
        clear hi1 hi2
        go_wp2_with fail
        refine (Ask_at 2 false (a := 2) (s := 0) (e := 5) (by rfl) _).mono ?_
        rintro e w1 ⟨rfl, hb1⟩
        go_wp2_with (go_at_call 13; refine (check_ok 2 (by omega) (by omega) _).mono ?_; rintro e w' ⟨rfl, rfl⟩)
        go_roundw
        case rel => exact ⟨k + 1, 2, last, false, by omega, by omega, by go_num, rfl, rfl, rfl, ⟨by omega, by omega, (fun h => by first | exact hl1 | omega), (fun h => by first | rfl | (exfalso; omega))⟩, hb.trans (hb1.mono hb.size)⟩
        case measure => simp [intOf]; omega
      · as_aux_lemma =>
        have hl1 : last ≠ 1 := hi1 (by omega)
        clear hi1 hi2
        go_wp2_with fail
        refine (Ask_at 2 true (a := 3) (s := 0) (e := 0) (by rfl) _).mono ?_
        rintro e w1 ⟨rfl, hb1⟩
        go_wp2_with (go_at_call 13; refine (check_ok 3 (by omega) (by omega) _).mono ?_; rintro e w' ⟨rfl, rfl⟩)
        go_roundw
        case rel => exact ⟨k + 1, 3, last, false, by omega, by omega, by go_num, rfl, rfl, rfl, ⟨by omega, by omega, (fun h => by first | exact hl1 | omega), (fun h => by first | rfl | (exfalso; omega))⟩, hb.trans (hb1.mono hb.size)⟩
        case measure => simp [intOf]; omega
      · as_aux_lemma =>
        have hl1 : last ≠ 1 := hi1 (by omega)
        clear hi1 hi2
        go_wp2_with fail
        refine (Got_at 2 false m (a := 0) (s := 0) (e := 0) (by cases m <;> rfl) _).mono ?_
        rintro e w1 ⟨rfl, hb1⟩
        have hcell3 := (hb1.cell (p := ⟨(ad.add (k * 3)).block, (ad.add (k * 3)).off + 2, none⟩) hbl).trans hcell2
        go_wp2_with (go_at_call 13; refine (check_ok 0 (by omega) (by omega) _).mono ?_; rintro e w' ⟨rfl, rfl⟩)
        go_roundw
        case rel => exact ⟨k + 1, 0, last, false, by omega, by omega, by go_num, rfl, rfl, rfl, ⟨by omega, by omega, (fun h => by first | exact hl1 | omega), (fun h => by first | rfl | (exfalso; omega))⟩, hb.trans (hb1.mono hb.size)⟩
        case measure => simp [intOf]; omega
      · as_aux_lemma =>
        have hl1 : last ≠ 1 := hi1 (by omega)
        clear hi1 hi2
        go_wp2_with fail
        refine (Got_at 2 true m (a := 0) (s := 0) (e := 5) (by cases m <;> rfl) _).mono ?_
        rintro e w1 ⟨rfl, hb1⟩
        have hcell3 := (hb1.cell (p := ⟨(ad.add (k * 3)).block, (ad.add (k * 3)).off + 2, none⟩) hbl).trans hcell2
        go_wp2_with (go_at_call 13; refine (check_ok 0 (by omega) (by omega) _).mono ?_; rintro e w' ⟨rfl, rfl⟩)
        go_roundw
        case rel => exact ⟨k + 1, 0, 0, true, by omega, by omega, by go_num, rfl, rfl, rfl, ⟨by omega, by omega, (fun h => by first | exact hl1 | omega), (fun h => by first | rfl | (exfalso; omega))⟩, hb.trans (hb1.mono hb.size)⟩
        case measure => simp [intOf]; omega
      · as_aux_lemma =>
        have hl1 : last ≠ 1 := hi1 (by omega)
        clear hi1 hi2
        go_wp2_with fail
        refine (Ask_at 2 false (a := 2) (s := 0) (e := 5) (by rfl) _).mono ?_
        rintro e w1 ⟨rfl, hb1⟩
        go_wp2_with (go_at_call 13; refine (check_ok 2 (by omega) (by omega) _).mono ?_; rintro e w' ⟨rfl, rfl⟩)
        go_roundw
        case rel => exact ⟨k + 1, 2, last, true, by omega, by omega, by go_num, rfl, rfl, rfl, ⟨by omega, by omega, (fun h => by first | exact hl1 | omega), (fun h => by first | rfl | (exfalso; omega))⟩, hb.trans (hb1.mono hb.size)⟩
        case measure => simp [intOf]; omega
      · as_aux_lemma =>
        have hl1 : last ≠ 1 := hi1 (by omega)
        clear hi1 hi2
        go_wp2_with fail
        refine (Ask_at 2 true (a := 3) (s := 0) (e := 0) (by rfl) _).mono ?_
        rintro e w1 ⟨rfl, hb1⟩
        go_wp2_with (go_at_call 13; refine (check_ok 3 (by omega) (by omega) _).mono ?_; rintro e w' ⟨rfl, rfl⟩)
        go_roundw
        case rel => exact ⟨k + 1, 3, last, true, by omega, by omega, by go_num, rfl, rfl, rfl, ⟨by omega, by omega, (fun h => by first | exact hl1 | omega), (fun h => by first | rfl | (exfalso; omega))⟩, hb.trans (hb1.mono hb.size)⟩
        case measure => simp [intOf]; omega
      · as_aux_lemma =>
        have hl1 : last ≠ 1 := hi1 (by omega)
        clear hi1 hi2
        go_wp2_with fail
        refine (Got_at 2 false m (a := 0) (s := 0) (e := 0) (by cases m <;> rfl) _).mono ?_
        rintro e w1 ⟨rfl, hb1⟩
        have hcell3 := (hb1.cell (p := ⟨(ad.add (k * 3)).block, (ad.add (k * 3)).off + 2, none⟩) hbl).trans hcell2
        go_wp2_with (go_at_call 13; refine (check_ok 0 (by omega) (by omega) _).mono ?_; rintro e w' ⟨rfl, rfl⟩)
        go_roundw
        case rel => exact ⟨k + 1, 0, last, true, by omega, by omega, by go_num, rfl, rfl, rfl, ⟨by omega, by omega, (fun h => by first | exact hl1 | omega), (fun h => by first | rfl | (exfalso; omega))⟩, hb.trans (hb1.mono hb.size)⟩
        case measure => simp [intOf]; omega
      · as_aux_lemma =>
        have hl1 : last ≠ 1 := hi1 (by omega)
        clear hi1 hi2
        go_wp2_with fail
        refine (Got_at 2 true m (a := 0) (s := 0) (e := 5) (by cases m <;> rfl) _).mono ?_
        rintro e w1 ⟨rfl, hb1⟩
        have hcell3 := (hb1.cell (p := ⟨(ad.add (k * 3)).block, (ad.add (k * 3)).off + 2, none⟩) hbl).trans hcell2
        go_wp2_with (go_at_call 13; refine (check_ok 0 (by omega) (by omega) _).mono ?_; rintro e w' ⟨rfl, rfl⟩)
        go_roundw
        case rel => exact ⟨k + 1, 0, 0, true, by omega, by omega, by go_num, rfl, rfl, rfl, ⟨by omega, by omega, (fun h => by first | exact hl1 | omega), (fun h => by first | rfl | (exfalso; omega))⟩, hb.trans (hb1.mono hb.size)⟩
        case measure => simp [intOf]; omega
      · as_aux_lemma =>
        have hl1 : last ≠ 1 := hi1 (by omega)
        clear hi1 hi2
        go_wp2_with fail
        refine (Ask_at 3 false (a := 2) (s := 0) (e := 0) (by rfl) _).mono ?_
        rintro e w1 ⟨rfl, hb1⟩
        go_wp2_with (go_at_call 13; refine (check_ok 2 (by omega) (by omega) _).mono ?_; rintro e w' ⟨rfl, rfl⟩)
        go_roundw
        case rel => exact ⟨k + 1, 2, last, false, by omega, by omega, by go_num, rfl, rfl, rfl, ⟨by omega, by omega, (fun h => by first | exact hl1 | omega), (fun h => by first | rfl | (exfalso; omega))⟩, hb.trans (hb1.mono hb.size)⟩
        case measure => simp [intOf]; omega
      · as_aux_lemma =>
        have hl1 : last ≠ 1 := hi1 (by omega)
        clear hi1 hi2
        go_wp2_with fail
        refine (Ask_at 3 true (a := 3) (s := 0) (e := 5) (by rfl) _).mono ?_
        rintro e w1 ⟨rfl, hb1⟩
        go_wp2_with (go_at_call 13; refine (check_ok 3 (by omega) (by omega) _).mono ?_; rintro e w' ⟨rfl, rfl⟩)
        go_roundw
        case rel => exact ⟨k + 1, 3, last, false, by omega, by omega, by go_num, rfl, rfl, rfl, ⟨by omega, by omega, (fun h => by first | exact hl1 | omega), (fun h => by first | rfl | (exfalso; omega))⟩, hb.trans (hb1.mono hb.size)⟩
        case measure => simp [intOf]; omega
      · as_aux_lemma =>
        have hl1 : last ≠ 1 := hi1 (by omega)
        have hl : (last == 1) = false := by simp only [beq_eq_false_iff_ne]; exact hl1
        clear hi1 hi2
        go_wp2_with fail
        refine (Got_at 3 false m (a := 4) (s := 1) (e := 0) (by cases m <;> rfl) _).mono ?_
        rintro e w1 ⟨rfl, hb1⟩
        have hcell3 := (hb1.cell (p := ⟨(ad.add (k * 3)).block, (ad.add (k * 3)).off + 2, none⟩) hbl).trans hcell2
        go_wp2_with (go_at_call 13; refine (check_ok 4 (by omega) (by omega) _).mono ?_; rintro e w' ⟨rfl, rfl⟩)
        go_roundw
        case rel => exact ⟨k + 1, 4, 1, false, by omega, by omega, by go_num, rfl, rfl, rfl, ⟨by omega, by omega, (fun h => by first | exact hl1 | omega), (fun h => by first | rfl | (exfalso; omega))⟩, hb.trans (hb1.mono hb.size)⟩
        case measure => simp [intOf]; omega
      · as_aux_lemma =>
        have hl1 : last ≠ 1 := hi1 (by omega)
        clear hi1 hi2
        go_wp2_with fail
        refine (Got_at 3 true m (a := 1) (s := 0) (e := 5) (by cases m <;> rfl) _).mono ?_
        rintro e w1 ⟨rfl, hb1⟩
        have hcell3 := (hb1.cell (p := ⟨(ad.add (k * 3)).block, (ad.add (k * 3)).off + 2, none⟩) hbl).trans hcell2
        go_wp2_with (go_at_call 13; refine (check_ok 1 (by omega) (by omega) _).mono ?_; rintro e w' ⟨rfl, rfl⟩)
        go_roundw
        case rel => exact ⟨k + 1, 1, 0, true, by omega, by omega, by go_num, rfl, rfl, rfl, ⟨by omega, by omega, (fun h => by first | exact hl1 | omega), (fun h => by first | rfl | (exfalso; omega))⟩, hb.trans (hb1.mono hb.size)⟩
        case measure => simp [intOf]; omega
      · as_aux_lemma =>
        have hl1 : last ≠ 1 := hi1 (by omega)
        clear hi1 hi2
        go_wp2_with fail
        refine (Ask_at 3 false (a := 2) (s := 0) (e := 0) (by rfl) _).mono ?_
        rintro e w1 ⟨rfl, hb1⟩
        go_wp2_with (go_at_call 13; refine (check_ok 2 (by omega) (by omega) _).mono ?_; rintro e w' ⟨rfl, rfl⟩)
        go_roundw
        case rel => exact ⟨k + 1, 2, last, true, by omega, by omega, by go_num, rfl, rfl, rfl, ⟨by omega, by omega, (fun h => by first | exact hl1 | omega), (fun h => by first | rfl | (exfalso; omega))⟩, hb.trans (hb1.mono hb.size)⟩
        case measure => simp [intOf]; omega
      · as_aux_lemma =>
        have hl1 : last ≠ 1 := hi1 (by omega)
        clear hi1 hi2
        go_wp2_with fail
        refine (Ask_at 3 true (a := 3) (s := 0) (e := 5) (by rfl) _).mono ?_
        rintro e w1 ⟨rfl, hb1⟩
        go_wp2_with (go_at_call 13; refine (check_ok 3 (by omega) (by omega) _).mono ?_; rintro e w' ⟨rfl, rfl⟩)
        go_roundw
        case rel => exact ⟨k + 1, 3, last, true, by omega, by omega, by go_num, rfl, rfl, rfl, ⟨by omega, by omega, (fun h => by first | exact hl1 | omega), (fun h => by first | rfl | (exfalso; omega))⟩, hb.trans (hb1.mono hb.size)⟩
        case measure => simp [intOf]; omega
      · as_aux_lemma =>
        have hl1 : last ≠ 1 := hi1 (by omega)
        have hl : (last == 1) = false := by simp only [beq_eq_false_iff_ne]; exact hl1
        clear hi1 hi2
        go_wp2_with fail
        refine (Got_at 3 false m (a := 4) (s := 1) (e := 0) (by cases m <;> rfl) _).mono ?_
        rintro e w1 ⟨rfl, hb1⟩
        have hcell3 := (hb1.cell (p := ⟨(ad.add (k * 3)).block, (ad.add (k * 3)).off + 2, none⟩) hbl).trans hcell2
        go_wp2_with (go_at_call 13; refine (check_ok 4 (by omega) (by omega) _).mono ?_; rintro e w' ⟨rfl, rfl⟩)
        go_roundw
        case rel => exact ⟨k + 1, 4, 1, true, by omega, by omega, by go_num, rfl, rfl, rfl, ⟨by omega, by omega, (fun h => by first | exact hl1 | omega), (fun h => by first | rfl | (exfalso; omega))⟩, hb.trans (hb1.mono hb.size)⟩
        case measure => simp [intOf]; omega
      · as_aux_lemma =>
        have hl1 : last ≠ 1 := hi1 (by omega)
        clear hi1 hi2
        go_wp2_with fail
        refine (Got_at 3 true m (a := 1) (s := 0) (e := 5) (by cases m <;> rfl) _).mono ?_
        rintro e w1 ⟨rfl, hb1⟩
        have hcell3 := (hb1.cell (p := ⟨(ad.add (k * 3)).block, (ad.add (k * 3)).off + 2, none⟩) hbl).trans hcell2
        go_wp2_with (go_at_call 13; refine (check_ok 1 (by omega) (by omega) _).mono ?_; rintro e w' ⟨rfl, rfl⟩)
        go_roundw
        case rel => exact ⟨k + 1, 1, 0, true, by omega, by omega, by go_num, rfl, rfl, rfl, ⟨by omega, by omega, (fun h => by first | exact hl1 | omega), (fun h => by first | rfl | (exfalso; omega))⟩, hb.trans (hb1.mono hb.size)⟩
        case measure => simp [intOf]; omega
      · as_aux_lemma =>
        clear hi1 hi2
        go_wp2_with fail
        refine (Ask_at 4 false (a := 5) (s := 0) (e := 0) (by rfl) _).mono ?_
        rintro e w1 ⟨rfl, hb1⟩
        go_wp2_with (go_at_call 13; refine (check_ok 5 (by omega) (by omega) _).mono ?_; rintro e w' ⟨rfl, rfl⟩)
        go_roundw
        case rel => exact ⟨k + 1, 5, last, false, by omega, by omega, by go_num, rfl, rfl, rfl, ⟨by omega, by omega, (fun h => by first | exact hl1 | omega), (fun h => by first | rfl | (exfalso; omega))⟩, hb.trans (hb1.mono hb.size)⟩
        case measure => simp [intOf]; omega
      · as_aux_lemma =>
        clear hi1 hi2
        go_wp2_with fail
        refine (Ask_at 4 true (a := 4) (s := 0) (e := 5) (by rfl) _).mono ?_
        rintro e w1 ⟨rfl, hb1⟩
        go_wp2_with (go_at_call 13; refine (check_ok 4 (by omega) (by omega) _).mono ?_; rintro e w' ⟨rfl, rfl⟩)
        go_roundw
        case rel => exact ⟨k + 1, 4, last, false, by omega, by omega, by go_num, rfl, rfl, rfl, ⟨by omega, by omega, (fun h => by first | exact hl1 | omega), (fun h => by first | rfl | (exfalso; omega))⟩, hb.trans (hb1.mono hb.size)⟩
        case measure => simp [intOf]; omega
      · as_aux_lemma =>
        clear hi1 hi2
        go_wp2_with fail
        refine (Got_at 4 false m (a := 0) (s := 0) (e := 0) (by cases m <;> rfl) _).mono ?_
        rintro e w1 ⟨rfl, hb1⟩
        have hcell3 := (hb1.cell (p := ⟨(ad.add (k * 3)).block, (ad.add (k * 3)).off + 2, none⟩) hbl).trans hcell2
        go_wp2_with (go_at_call 13; refine (check_ok 0 (by omega) (by omega) _).mono ?_; rintro e w' ⟨rfl, rfl⟩)
        go_roundw
        case rel => exact ⟨k + 1, 0, 0, false, by omega, by omega, by go_num, rfl, rfl, rfl, ⟨by omega, by omega, (fun h => by first | exact hl1 | omega), (fun h => by first | rfl | (exfalso; omega))⟩, hb.trans (hb1.mono hb.size)⟩
        case measure => simp [intOf]; omega
      · as_aux_lemma =>
        clear hi1 hi2
        go_wp2_with fail
        refine (Got_at 4 true m (a := 1) (s := 0) (e := 0) (by cases m <;> rfl) _).mono ?_
        rintro e w1 ⟨rfl, hb1⟩
        have hcell3 := (hb1.cell (p := ⟨(ad.add (k * 3)).block, (ad.add (k * 3)).off + 2, none⟩) hbl).trans hcell2
        go_wp2_with (go_at_call 13; refine (check_ok 1 (by omega) (by omega) _).mono ?_; rintro e w' ⟨rfl, rfl⟩)
        go_roundw
        case rel => exact ⟨k + 1, 1, last, true, by omega, by omega, by go_num, rfl, rfl, rfl, ⟨by omega, by omega, (fun h => by first | exact hl1 | omega), (fun h => by first | rfl | (exfalso; omega))⟩, hb.trans (hb1.mono hb.size)⟩
        case measure => simp [intOf]; omega
      · as_aux_lemma =>
        clear hi1 hi2
        go_wp2_with fail
        refine (Ask_at 4 false (a := 5) (s := 0) (e := 0) (by rfl) _).mono ?_
        rintro e w1 ⟨rfl, hb1⟩
        go_wp2_with (go_at_call 13; refine (check_ok 5 (by omega) (by omega) _).mono ?_; rintro e w' ⟨rfl, rfl⟩)
        go_roundw
        case rel => exact ⟨k + 1, 5, last, true, by omega, by omega, by go_num, rfl, rfl, rfl, ⟨by omega, by omega, (fun h => by first | exact hl1 | omega), (fun h => by first | rfl | (exfalso; omega))⟩, hb.trans (hb1.mono hb.size)⟩
        case measure => simp [intOf]; omega
      · as_aux_lemma =>
        clear hi1 hi2
        go_wp2_with fail
        refine (Ask_at 4 true (a := 4) (s := 0) (e := 5) (by rfl) _).mono ?_
        rintro e w1 ⟨rfl, hb1⟩
        go_wp2_with (go_at_call 13; refine (check_ok 4 (by omega) (by omega) _).mono ?_; rintro e w' ⟨rfl, rfl⟩)
        go_roundw
        case rel => exact ⟨k + 1, 4, last, true, by omega, by omega, by go_num, rfl, rfl, rfl, ⟨by omega, by omega, (fun h => by first | exact hl1 | omega), (fun h => by first | rfl | (exfalso; omega))⟩, hb.trans (hb1.mono hb.size)⟩
        case measure => simp [intOf]; omega
      · as_aux_lemma =>
        clear hi1 hi2
        go_wp2_with fail
        refine (Got_at 4 false m (a := 0) (s := 0) (e := 0) (by cases m <;> rfl) _).mono ?_
        rintro e w1 ⟨rfl, hb1⟩
        have hcell3 := (hb1.cell (p := ⟨(ad.add (k * 3)).block, (ad.add (k * 3)).off + 2, none⟩) hbl).trans hcell2
        go_wp2_with (go_at_call 13; refine (check_ok 0 (by omega) (by omega) _).mono ?_; rintro e w' ⟨rfl, rfl⟩)
        go_roundw
        case rel => exact ⟨k + 1, 0, 0, true, by omega, by omega, by go_num, rfl, rfl, rfl, ⟨by omega, by omega, (fun h => by first | exact hl1 | omega), (fun h => by first | rfl | (exfalso; omega))⟩, hb.trans (hb1.mono hb.size)⟩
        case measure => simp [intOf]; omega
      · as_aux_lemma =>
        clear hi1 hi2
        go_wp2_with fail
        refine (Got_at 4 true m (a := 1) (s := 0) (e := 0) (by cases m <;> rfl) _).mono ?_
        rintro e w1 ⟨rfl, hb1⟩
        have hcell3 := (hb1.cell (p := ⟨(ad.add (k * 3)).block, (ad.add (k * 3)).off + 2, none⟩) hbl).trans hcell2
        go_wp2_with (go_at_call 13; refine (check_ok 1 (by omega) (by omega) _).mono ?_; rintro e w' ⟨rfl, rfl⟩)
        go_roundw
        case rel => exact ⟨k + 1, 1, last, true, by omega, by omega, by go_num, rfl, rfl, rfl, ⟨by omega, by omega, (fun h => by first | exact hl1 | omega), (fun h => by first | rfl | (exfalso; omega))⟩, hb.trans (hb1.mono hb.size)⟩
        case measure => simp [intOf]; omega
      · as_aux_lemma =>
        clear hi1 hi2
        go_wp2_with fail
        refine (Ask_at 5 false (a := 5) (s := 0) (e := 5) (by rfl) _).mono ?_
        rintro e w1 ⟨rfl, hb1⟩
        go_wp2_with (go_at_call 13; refine (check_ok 5 (by omega) (by omega) _).mono ?_; rintro e w' ⟨rfl, rfl⟩)
        go_roundw
        case rel => exact ⟨k + 1, 5, last, false, by omega, by omega, by go_num, rfl, rfl, rfl, ⟨by omega, by omega, (fun h => by first | exact hl1 | omega), (fun h => by first | rfl | (exfalso; omega))⟩, hb.trans (hb1.mono hb.size)⟩
        case measure => simp [intOf]; omega
      · as_aux_lemma =>
        clear hi1 hi2
        go_wp2_with fail
        refine (Ask_at 5 true (a := 4) (s := 0) (e := 0) (by rfl) _).mono ?_
        rintro e w1 ⟨rfl, hb1⟩
        go_wp2_with (go_at_call 13; refine (check_ok 4 (by omega) (by omega) _).mono ?_; rintro e w' ⟨rfl, rfl⟩)
        go_roundw
        case rel => exact ⟨k + 1, 4, last, false, by omega, by omega, by go_num, rfl, rfl, rfl, ⟨by omega, by omega, (fun h => by first | exact hl1 | omega), (fun h => by first | rfl | (exfalso; omega))⟩, hb.trans (hb1.mono hb.size)⟩
        case measure => simp [intOf]; omega
      · as_aux_lemma =>
        clear hi1 hi2
        go_wp2_with fail
        refine (Got_at 5 false m (a := 0) (s := 0) (e := 0) (by cases m <;> rfl) _).mono ?_
        rintro e w1 ⟨rfl, hb1⟩
        have hcell3 := (hb1.cell (p := ⟨(ad.add (k * 3)).block, (ad.add (k * 3)).off + 2, none⟩) hbl).trans hcell2
        go_wp2_with (go_at_call 13; refine (check_ok 0 (by omega) (by omega) _).mono ?_; rintro e w' ⟨rfl, rfl⟩)
        go_roundw
        case rel => exact ⟨k + 1, 0, 0, false, by omega, by omega, by go_num, rfl, rfl, rfl, ⟨by omega, by omega, (fun h => by first | exact hl1 | omega), (fun h => by first | rfl | (exfalso; omega))⟩, hb.trans (hb1.mono hb.size)⟩
        case measure => simp [intOf]; omega
      · as_aux_lemma =>
        clear hi1 hi2
        go_wp2_with fail
        refine (Got_at 5 true m (a := 2) (s := 2) (e := 0) (by cases m <;> rfl) _).mono ?_
        rintro e w1 ⟨rfl, hb1⟩
        have hcell3 := (hb1.cell (p := ⟨(ad.add (k * 3)).block, (ad.add (k * 3)).off + 2, none⟩) hbl).trans hcell2
        go_wp2_with (go_at_call 13; refine (check_ok 2 (by omega) (by omega) _).mono ?_; rintro e w' ⟨rfl, rfl⟩)
        go_roundw
        case rel => exact ⟨k + 1, 2, 2, true, by omega, by omega, by go_num, rfl, rfl, rfl, ⟨by omega, by omega, (fun h => by first | exact hl1 | omega), (fun h => by first | rfl | (exfalso; omega))⟩, hb.trans (hb1.mono hb.size)⟩
        case measure => simp [intOf]; omega
      · as_aux_lemma =>
        clear hi1 hi2
        go_wp2_with fail
        refine (Ask_at 5 false (a := 5) (s := 0) (e := 5) (by rfl) _).mono ?_
        rintro e w1 ⟨rfl, hb1⟩
        go_wp2_with (go_at_call 13; refine (check_ok 5 (by omega) (by omega) _).mono ?_; rintro e w' ⟨rfl, rfl⟩)
        go_roundw
        case rel => exact ⟨k + 1, 5, last, true, by omega, by omega, by go_num, rfl, rfl, rfl, ⟨by omega, by omega, (fun h => by first | exact hl1 | omega), (fun h => by first | rfl | (exfalso; omega))⟩, hb.trans (hb1.mono hb.size)⟩
        case measure => simp [intOf]; omega
      · as_aux_lemma =>
        clear hi1 hi2
        go_wp2_with fail
        refine (Ask_at 5 true (a := 4) (s := 0) (e := 0) (by rfl) _).mono ?_
        rintro e w1 ⟨rfl, hb1⟩
        go_wp2_with (go_at_call 13; refine (check_ok 4 (by omega) (by omega) _).mono ?_; rintro e w' ⟨rfl, rfl⟩)
        go_roundw
        case rel => exact ⟨k + 1, 4, last, true, by omega, by omega, by go_num, rfl, rfl, rfl, ⟨by omega, by omega, (fun h => by first | exact hl1 | omega), (fun h => by first | rfl | (exfalso; omega))⟩, hb.trans (hb1.mono hb.size)⟩
        case measure => simp [intOf]; omega
      · as_aux_lemma =>
        clear hi1 hi2
        go_wp2_with fail
        refine (Got_at 5 false m (a := 0) (s := 0) (e := 0) (by cases m <;> rfl) _).mono ?_
        rintro e w1 ⟨rfl, hb1⟩
        have hcell3 := (hb1.cell (p := ⟨(ad.add (k * 3)).block, (ad.add (k * 3)).off + 2, none⟩) hbl).trans hcell2
        go_wp2_with (go_at_call 13; refine (check_ok 0 (by omega) (by omega) _).mono ?_; rintro e w' ⟨rfl, rfl⟩)
        go_roundw
        case rel => exact ⟨k + 1, 0, 0, true, by omega, by omega, by go_num, rfl, rfl, rfl, ⟨by omega, by omega, (fun h => by first | exact hl1 | omega), (fun h => by first | rfl | (exfalso; omega))⟩, hb.trans (hb1.mono hb.size)⟩
        case measure => simp [intOf]; omega
      · as_aux_lemma =>
        clear hi1 hi2
        go_wp2_with fail
        refine (Got_at 5 true m (a := 2) (s := 2) (e := 0) (by cases m <;> rfl) _).mono ?_
        rintro e w1 ⟨rfl, hb1⟩
        have hcell3 := (hb1.cell (p := ⟨(ad.add (k * 3)).block, (ad.add (k * 3)).off + 2, none⟩) hbl).trans hcell2
        go_wp2_with (go_at_call 13; refine (check_ok 2 (by omega) (by omega) _).mono ?_; rintro e w' ⟨rfl, rfl⟩)
        go_roundw
        case rel => exact ⟨k + 1, 2, 2, true, by omega, by omega, by go_num, rfl, rfl, rfl, ⟨by omega, by omega, (fun h => by first | exact hl1 | omega), (fun h => by first | rfl | (exfalso; omega))⟩, hb.trans (hb1.mono hb.size)⟩
        case measure => simp [intOf]; omega
    · by_cases h1 : k < l.length
      · have h2 : ¬ k < 100 := fun h2 => hlt ⟨h1, h2⟩
        clear hlt HC
        go_wp2_with (go_at_call 12; refine (awake_any _).mono ?_; rintro e w1 ⟨rfl, hb1⟩)
        go_ret
        exact ⟨rfl, hb.trans (hb1.mono hb.size)⟩
      · clear hlt HC
        go_wp2_with (go_at_call 12; refine (awake_any _).mono ?_; rintro e w1 ⟨rfl, hb1⟩)
        go_ret
        exact ⟨rfl, hb.trans (hb1.mono hb.size)⟩
end Go.Proofs.Ythnaijmbppmbjaa
