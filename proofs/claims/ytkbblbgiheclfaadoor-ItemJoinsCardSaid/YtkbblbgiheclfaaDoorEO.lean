/- Octets out of what the caller hands in. -/
import Derived.Test.YtkbblbgiheclfaaDoorDW
namespace Go.Proofs.YtkbblbgiheclfaaDoor.Dr
open Go.RowKit Go.Proofs.YtkbblbgiheclfaaDoorW.PrintWords

theorem wf_oct {x : Int} (h : (Lit.int .u8 x).wf = true) : 0 ≤ x ∧ x ≤ 255 := by
  simp [Lit.wf, IntKind.min, IntKind.max, IntKind.signed, IntKind.bits] at h
  omega
theorem wf_octs {l : List Int} (h : ∀ p ∈ l, (Lit.int .u8 p).wf = true) : Oct l := fun x hx => wf_oct (h x hx)
end Go.Proofs.YtkbblbgiheclfaaDoor.Dr
