/- ReaderTells, of the row's arguments. -/
import Derived.Test.YtkbblbgiheclfaaTG
import Derived.Test.YtkbblbgiheclfaaLR
namespace Go.Proofs.Ytkbblbgiheclfaa
open Go.RowKit Go.Proofs.YtkbblbgiheclfaaW.PrintWords

theorem tells_row (cs : Array Value) (x : Int × Int × Int × List Int) (cs1 : Array Value) (y : Int × Int × Int × List Int) (Bo : Option Addr) (d : Nat) (b : List Int) (w : World) (hK : kRd.K w x cs.toList) (hQ : ∀ p ∈ x.2.2.2, (Lit.int .u8 p).wf = true) (hK1 : kRd.K w y cs1.toList) (hQ1 : ∀ p ∈ y.2.2.2, (Lit.int .u8 p).wf = true)
    (hB : kB.C w Bo b.length b) (hd : b.length ≤ d) (hob : ∀ p ∈ b, (Lit.int .u8 p).wf = true) : Calls Try.prog 4 #[.agg cs, .agg cs1, .slice Bo b.length d] w (AwakeP w) := by
  obtain ⟨A, c, rfl, hle, hC⟩ := rd_cells hK
  obtain ⟨A2, c2, rfl, hle2, hC2⟩ := rd_cells hK1
  exact tells_law ⟨x.1, x.2.1, x.2.2.1, x.2.2.2⟩ ⟨y.1, y.2.1, y.2.2.1, y.2.2.2⟩ A A2 Bo c c2 d b w hC hle (wf_octs hQ) hC2 hle2 (wf_octs hQ1) hB hd (wf_octs hob)
end Go.Proofs.Ytkbblbgiheclfaa
