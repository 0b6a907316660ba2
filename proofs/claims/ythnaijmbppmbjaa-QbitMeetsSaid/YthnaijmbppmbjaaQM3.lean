/- QbitMeets, of a pair as it lies. -/
import Derived.Test.YthnaijmbppmbjaaQM2
namespace Go.Proofs.Ythnaijmbppmbjaa
open Go.RowKit Go.Proofs.YthnaijmbppmbjaaW.PrintWords

abbrev kPair : Kd (Bool × Bool × List (Int × Bool × Bool)) := Kd.pair Kd.bool (Kd.pair Kd.bool (Kd.slice 30 kAct))
theorem meets_row (cs : Array Value) (x : Bool × Bool × List (Int × Bool × Bool)) (w : World) (hK : kPair.K w x cs.toList) (hQ : ∀ p ∈ x.2.2, (Lit.int .u8 p.1).wf = true ∧ True ∧ True) :
    Calls Try.prog 3 #[.agg cs] w fun e w' => e = .returned (.bool true) ∧ Below w.heap.size w w' := by
  obtain ⟨A, B, l⟩ := x
  obtain ⟨c0, c1, hcs, h0, c2, c3, rfl, h1, Al, cap, h2, _, hC⟩ := hK
  have h0' : c0 = [.bool A] := h0
  have h1' : c2 = [.bool B] := h1
  subst h0' h1' h2
  obtain rfl : cs = #[.bool A, .bool B, .slice Al l.length cap] := by cases cs; simp_all
  refine meets_walk A B Al cap l w hC (fun p hp => ?_)
  have := (hQ p hp).1
  simp [Lit.wf, IntKind.min, IntKind.max, IntKind.signed, IntKind.bits] at this
  omega
end Go.Proofs.Ythnaijmbppmbjaa
