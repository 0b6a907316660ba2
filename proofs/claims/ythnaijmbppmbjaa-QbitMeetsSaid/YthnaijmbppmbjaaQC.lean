/- The contracts of qbit.Ask, qbit.Wanted, and of Got and Ask at all places. -/
import Derived.Test.YthnaijmbppmbjaaQB
namespace Go.Proofs.Ythnaijmbppmbjaa
open Go.RowKit

def aRow (q : Int) : Array Value := askC.extract (q.toNat * 6) (q.toNat * 6 + 6)
theorem aindex50 (q : Int) (h0 : 0 ≤ q) (h6 : q < 6) : ∀ w, (Instr.index 50 (.agg askC) (.int .i64 q)).run Try.prog w = .ok (.agg (aRow q)) w := by
  rcases six q h0 h6 with rfl | rfl | rfl | rfl | rfl | rfl <;> (intro w; kernel_rfl)
theorem aindex49 (q : Int) (h0 : 0 ≤ q) (h6 : q < 6) (y : Bool) : ∀ w, (Instr.index 49 (.agg (aRow q)) (.int .i64 (colV y))).run Try.prog w = .ok (.agg #[.int .i64 (aC q y 0), .int .i64 (aC q y 1), .int .i64 (aC q y 2)]) w := by
  cases y <;> rcases six q h0 h6 with rfl | rfl | rfl | rfl | rfl | rfl <;> (intro w; kernel_rfl)

set_option maxHeartbeats 1000000 in
set_option maxRecDepth 100000 in
theorem Ask_ok (q : Int) (y : Bool) (h0 : 0 ≤ q) (h6 : q < 6) (w : World) : Calls Try.prog 10 #[.int .i64 q, .bool y] w (GotP (aC q y 0, aC q y 1, aC q y 2) w) := by
  have i50 := aindex50 q h0 h6
  have i49 := aindex49 q h0 h6 y
  go_enter Try.func10, Try.ntmps10
  go_upto_region 4 with (go_at_call 13; refine (check_ok q h0 h6 _).mono ?_; rintro e w' ⟨rfl, rfl⟩)
  go_cut [8] (fun s10 wx => ∃ g : Nat, s10 = .pointer (some ⟨g, 0, none⟩) ∧ Nx w wx g (aC q y 0) (aC q y 1) (aC q y 2))
  case first =>
    go_region_with (first | (go_at_call 21; refine (ask_any _).mono ?_; rintro e w' ⟨rfl, hb⟩; obtain ⟨hc, hf⟩ := bcell hb) | (go_at_call 20; refine (column_any y _).mono ?_; rintro e w' ⟨rfl, rfl⟩))
    all_goals (go_wp2_with fail; go_meet)
    all_goals first
      | exact ⟨_, rfl, nxA hb _ _ _⟩
      | exact ⟨_, rfl, nxB hb _ _ _⟩
  case rest =>
    obtain ⟨g, rfl, hn⟩ := hcut
    obtain ⟨c0, c1, c2, f0, f1, f2⟩ := nx_cells hn.2.1
    have hb := hn.2.2
    have hg := hn.1
    clear i50 i49 hn
    generalize aC q y 0 = a at *
    generalize aC q y 1 = b at *
    generalize aC q y 2 = c at *
    go_wp2_with fail
    go_quiet (fail)
    go_wp2_with fail
    go_ret3
    exact ⟨rfl, below_drewN hb _⟩

theorem check_bad (q : Int) (h : q < 0 ∨ 6 ≤ q) (w : World) : Calls Try.prog 13 #[.int .i64 q] w fun e w' => e = .returned (.int .i64 1) ∧ w = w' := by
  have := check_any q w
  rwa [if_neg (by omega)] at this

theorem Got_bad (q : Int) (y m : Bool) (h : q < 0 ∨ 6 ≤ q) (w : World) : Calls Try.prog 9 #[.int .i64 q, .bool y, .bool m] w (GotP (q, 0, 1) w) := by
  go_enter Try.func9, Try.ntmps9
  go_wp2_with (go_at_call 13; refine (check_bad q h _).mono ?_; rintro e w' ⟨rfl, rfl⟩)
  go_ret3
  exact ⟨rfl, Below.refl _ _⟩

theorem Ask_bad (q : Int) (y : Bool) (h : q < 0 ∨ 6 ≤ q) (w : World) : Calls Try.prog 10 #[.int .i64 q, .bool y] w (GotP (q, 0, 1) w) := by
  go_enter Try.func10, Try.ntmps10
  go_wp2_with (go_at_call 13; refine (check_bad q h _).mono ?_; rintro e w' ⟨rfl, rfl⟩)
  go_ret3
  exact ⟨rfl, Below.refl _ _⟩

def wantB (q : Int) : Bool := q == 1 || q == 3 || q == 4
theorem wanted_any (q : Int) (w : World) : Calls Try.prog 17 #[.int .i64 q] w fun e w' => e = .returned (.bool (wantB q)) ∧ w = w' := by
  by_cases h1 : q = 1
  · subst h1
    go_enter Try.func17, Try.ntmps17
    go_wp2
    go_ret
    exact ⟨rfl, rfl⟩
  · by_cases h3 : q = 3
    · subst h3
      go_enter Try.func17, Try.ntmps17
      go_wp2
      go_ret
      exact ⟨rfl, rfl⟩
    · by_cases h4 : q = 4
      · subst h4
        go_enter Try.func17, Try.ntmps17
        go_wp2
        go_ret
        exact ⟨rfl, rfl⟩
      · have e1 : (q == 1) = false := by simpa using h1
        have e3 : (q == 3) = false := by simpa using h3
        have e4 : (q == 4) = false := by simpa using h4
        have hv : wantB q = false := by unfold wantB; rw [e1, e3, e4]; rfl
        rw [hv]
        clear hv
        go_enter Try.func17, Try.ntmps17
        go_wp2
        go_ret
        exact ⟨rfl, rfl⟩

theorem wanted_t (q : Int) (h : wantB q = true) (w : World) : Calls Try.prog 17 #[.int .i64 q] w fun e w' => e = .returned (.bool true) ∧ w = w' := by
  have := wanted_any q w
  rwa [h] at this
theorem wanted_f (q : Int) (h : wantB q = false) (w : World) : Calls Try.prog 17 #[.int .i64 q] w fun e w' => e = .returned (.bool false) ∧ w = w' := by
  have := wanted_any q w
  rwa [h] at this

/-- What Got and Ask answer, wherever it is. -/
def gotF (q : Int) (y m : Bool) : Int × Int × Int := if 0 ≤ q ∧ q < 6 then gotR m (gC q y 0) (gC q y 1) (gC q y 2) else (q, 0, 1)
def askF (q : Int) (y : Bool) : Int × Int × Int := if 0 ≤ q ∧ q < 6 then (aC q y 0, aC q y 1, aC q y 2) else (q, 0, 1)
theorem Got_any (q : Int) (y m : Bool) (w : World) : Calls Try.prog 9 #[.int .i64 q, .bool y, .bool m] w (GotP (gotF q y m) w) := by
  by_cases h : 0 ≤ q ∧ q < 6
  · have := Got_ok q y m h.1 h.2 w
    unfold gotF
    rwa [if_pos h]
  · have := Got_bad q y m (by omega) w
    unfold gotF
    rwa [if_neg h]
theorem Ask_any (q : Int) (y : Bool) (w : World) : Calls Try.prog 10 #[.int .i64 q, .bool y] w (GotP (askF q y) w) := by
  by_cases h : 0 ≤ q ∧ q < 6
  · have := Ask_ok q y h.1 h.2 w
    unfold askF
    rwa [if_pos h]
  · have := Ask_bad q y (by omega) w
    unfold askF
    rwa [if_neg h]
theorem Got_at (q : Int) (y m : Bool) {a s e : Int} (h : gotF q y m = (a, s, e)) (w : World) : Calls Try.prog 9 #[.int .i64 q, .bool y, .bool m] w fun r w' => r = .returned (.tuple #[.int .i64 a, .int .i64 s, .int .i64 e]) ∧ Below w.heap.size w w' := by
  have := Got_any q y m w
  rwa [h] at this
theorem Ask_at (q : Int) (y : Bool) {a s e : Int} (h : askF q y = (a, s, e)) (w : World) : Calls Try.prog 10 #[.int .i64 q, .bool y] w fun r w' => r = .returned (.tuple #[.int .i64 a, .int .i64 s, .int .i64 e]) ∧ Below w.heap.size w w' := by
  have := Ask_any q y w
  rwa [h] at this

set_option maxRecDepth 100000 in
theorem awake_any (w : World) : Calls Try.prog 12 #[] w fun e w' => e = .returned (.bool true) ∧ Below w.heap.size w w' := by
  go_enter Try.func12, Try.ntmps12
  go_wp2_with fail
  refine (Ask_at 0 true (a := 4) (s := 1) (e := 0) (by rfl) _).mono ?_
  rintro e w1 ⟨rfl, hb1⟩
  go_wp2_with fail
  refine (Got_at 4 true true (a := 1) (s := 0) (e := 0) (by rfl) _).mono ?_
  rintro e w2 ⟨rfl, hb2⟩
  go_wp2_with fail
  refine (Got_at 0 true false (a := 0) (s := 2) (e := 0) (by rfl) _).mono ?_
  rintro e w3 ⟨rfl, hb3⟩
  go_wp2_with fail
  go_ret
  exact ⟨rfl, hb1.trans ((hb2.mono hb1.size).trans (hb3.mono (Nat.le_trans hb1.size hb2.size)))⟩

end Go.Proofs.Ythnaijmbppmbjaa
