/- Octets out of what the caller hands in. -/
import Derived.Test.YtkbblbgiheclfaaDoorIC
namespace Go.Proofs.YtkbblbgiheclfaaDoor.Dr
open Go.RowKit Go.Proofs.YtkbblbgiheclfaaDoorW.PrintWords

theorem wf_oct {x : Int} (h : (Lit.int .u8 x).wf = true) : 0 ≤ x ∧ x ≤ 255 := by
  simp [Lit.wf, IntKind.min, IntKind.max, IntKind.signed, IntKind.bits] at h
  omega
theorem wf_octs {l : List Int} (h : ∀ p ∈ l, (Lit.int .u8 p).wf = true) : Oct l := fun x hx => wf_oct (h x hx)
theorem wf_it1 {x : It} (h : (Lit.int .i64 x.k).wf = true ∧ (Lit.int .i64 x.a).wf = true ∧ (Lit.int .i64 x.b).wf = true ∧ ∀ p ∈ x.l, (Lit.int .u8 p).wf = true) : Oct x.l := wf_octs h.2.2.2
theorem wf_its1 {l : List It} (h : ∀ x ∈ l, (Lit.int .i64 x.k).wf = true ∧ (Lit.int .i64 x.a).wf = true ∧ (Lit.int .i64 x.b).wf = true ∧ ∀ p ∈ x.l, (Lit.int .u8 p).wf = true) : Octs l := fun x hx => wf_octs (h x hx).2.2.2
end Go.Proofs.YtkbblbgiheclfaaDoor.Dr
