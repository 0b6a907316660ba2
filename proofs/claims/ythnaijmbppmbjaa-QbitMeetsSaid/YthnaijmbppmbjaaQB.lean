/- The contract of qbit.Got. -/
import Derived.Test.YthnaijmbppmbjaaQA
import Derived.WalkSmall
import Derived.Lib.Hide
namespace Go.Proofs.Ythnaijmbppmbjaa
open Go.RowKit

def gotR (m : Bool) (a b c : Int) : Int × Int × Int := if a = 1 ∧ b = 1 ∧ c = 0 ∧ m = false then (0, 2, 0) else (a, b, c)
def GotP (r : Int × Int × Int) (w : World) (e : Ending) (w' : World) : Prop := e = .returned (.tuple #[.int .i64 r.1, .int .i64 r.2.1, .int .i64 r.2.2]) ∧ Below w.heap.size w w'

theorem gotEnd {m : Bool} {a b c x y z : Int} {w w' : World} (h : gotR m a b c = (a, b, c)) (hx : x = a) (hy : y = b) (hz : z = c) (hb : Below w.heap.size w w') :
    GotP (gotR m a b c) w (.returned (.tuple #[.int .i64 x, .int .i64 y, .int .i64 z])) w' := by
  rw [h, hx, hy, hz]
  exact ⟨rfl, hb⟩
set_option maxHeartbeats 1000000 in
set_option maxRecDepth 100000 in
theorem Got_ok (q : Int) (y m : Bool) (h0 : 0 ≤ q) (h6 : q < 6) (w : World) : Calls Try.prog 9 #[.int .i64 q, .bool y, .bool m] w (GotP (gotR m (gC q y 0) (gC q y 1) (gC q y 2)) w) := by
  have i50 := index50 q h0 h6
  have i49 := index49 q h0 h6 y
  go_enter Try.func9, Try.ntmps9
  go_upto_region 4 with (go_at_call 13; refine (check_ok q h0 h6 _).mono ?_; rintro e w' ⟨rfl, rfl⟩)
  go_cut [10] (fun s10 wx => ∃ g : Nat, s10 = .pointer (some ⟨g, 0, none⟩) ∧ Nx w wx g (gC q y 0) (gC q y 1) (gC q y 2))
  case first =>
    go_region_with (first | (go_at_call 19; refine (got_any _).mono ?_; rintro e w' ⟨rfl, hb⟩; obtain ⟨hc, hf⟩ := bcell hb) | (go_at_call 20; refine (column_any y _).mono ?_; rintro e w' ⟨rfl, rfl⟩))
    all_goals (go_wp2_with fail; go_meet)
    all_goals first
      | exact ⟨_, rfl, nxA hb _ _ _⟩
      | exact ⟨_, rfl, nxB hb _ _ _⟩
  case rest =>
    obtain ⟨g, rfl, hn⟩ := hcut
    obtain ⟨c0, c1, c2, f0, f1, f2⟩ := nx_cells hn.2.1
    have hb := hn.2.2
    have hg := hn.1
    clear i50 i49 hn
    generalize gC q y 0 = a at *
    generalize gC q y 1 = b at *
    generalize gC q y 2 = c at *
    by_cases hT : a = 1 ∧ b = 1 ∧ c = 0 ∧ m = false
    · obtain ⟨rfl, rfl, rfl, rfl⟩ := hT
      go_wp2_with fail
      go_quiet (fail)
      go_wp2_with fail
      go_ret3
      exact ⟨rfl, below_drewN (((hb.setCell hg _).setCell hg _).setCell hg _) _⟩
    · have he : gotR m a b c = (a, b, c) := by unfold gotR; rw [if_neg hT]
      have H := Lib.hid hT
      have H2 := Lib.hid he
      clear hT he
      cases m
      all_goals
        go_wp2_with fail
        all_goals first
          | (exfalso; exact H.out ⟨by assumption, by assumption, by assumption, trivial⟩)
          | (go_quiet (fail); go_wp2_with fail; go_ret3; exact gotEnd H2.out (by first | rfl | (symm; assumption)) (by first | rfl | (symm; assumption)) (by first | rfl | (symm; assumption)) (below_drewN hb _))
end Go.Proofs.Ythnaijmbppmbjaa
