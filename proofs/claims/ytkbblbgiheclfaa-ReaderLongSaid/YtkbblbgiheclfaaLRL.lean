/- An option told of, as an argument. -/
import Derived.Test.YtkbblbgiheclfaaLL
import Derived.Test.YtkbblbgiheclfaaLR
namespace Go.Proofs.Ytkbblbgiheclfaa
open Go.RowKit Go.Proofs.YtkbblbgiheclfaaW.PrintWords

abbrev kLn : Kd (Int × Int × Int × List Int) := Kd.pair (Kd.int .u8) (Kd.pair (Kd.int .u8) (Kd.pair (Kd.int .u16) (Kd.slice 5 kB)))
theorem ln_cells {w : World} {x : Int × Int × Int × List Int} {cs : Array Value} (h : kLn.K w x cs.toList) : ∃ A c, cs = #[.int .u8 x.1, .int .u8 x.2.1, .int .u16 x.2.2.1, .slice A x.2.2.2.length c] ∧ x.2.2.2.length ≤ c ∧ kB.C w A x.2.2.2.length x.2.2.2 := by
  obtain ⟨c0, c1, hcs, h0, c2, c3, rfl, h1, c4, c5, rfl, h2, A, c, h3, hle, hC⟩ := h
  have h0' : c0 = [.int .u8 x.1] := h0
  have h1' : c2 = [.int .u8 x.2.1] := h1
  have h2' : c4 = [.int .u16 x.2.2.1] := h2
  subst h0' h1' h2' h3
  exact ⟨A, c, by cases cs; simp_all, hle, hC⟩
theorem wf_16 {x : Int} (h : (Lit.int .u16 x).wf = true) : 0 ≤ x ∧ x ≤ 65535 := by
  simp [Lit.wf, IntKind.min, IntKind.max, IntKind.signed, IntKind.bits] at h
  omega
theorem long_row (cs : Array Value) (x : Int × Int × Int × List Int) (w : World) (hK : kLn.K w x cs.toList) (h1 : (Lit.int .u8 x.1).wf = true) (h2 : (Lit.int .u8 x.2.1).wf = true) (h3 : (Lit.int .u16 x.2.2.1).wf = true) (hQ : ∀ p ∈ x.2.2.2, (Lit.int .u8 p).wf = true) :
    Calls Try.prog 5 #[.agg cs] w (AwakeP w) := by
  obtain ⟨A, c, rfl, hle, hC⟩ := ln_cells hK
  exact long_law x.1 x.2.1 x.2.2.1 A c x.2.2.2 w (wf_oct h1) (wf_oct h2) (wf_16 h3) hC hle (wf_octs hQ)
end Go.Proofs.Ytkbblbgiheclfaa
