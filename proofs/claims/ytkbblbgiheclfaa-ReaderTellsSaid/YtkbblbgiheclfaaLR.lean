/- A reader as an argument. -/
import Derived.Test.YtkbblbgiheclfaaLK
namespace Go.Proofs.Ytkbblbgiheclfaa
open Go.RowKit Go.Proofs.YtkbblbgiheclfaaW.PrintWords

abbrev kRd : Kd (Int × Int × Int × List Int) := Kd.pair (Kd.int .i64) (Kd.pair (Kd.int .i64) (Kd.pair (Kd.int .i64) (Kd.slice 5 kB)))
theorem rd_cells {w : World} {x : Int × Int × Int × List Int} {cs : Array Value} (h : kRd.K w x cs.toList) : ∃ A c, cs = #[.int .i64 x.1, .int .i64 x.2.1, .int .i64 x.2.2.1, .slice A x.2.2.2.length c] ∧ x.2.2.2.length ≤ c ∧ kB.C w A x.2.2.2.length x.2.2.2 := by
  obtain ⟨c0, c1, hcs, h0, c2, c3, rfl, h1, c4, c5, rfl, h2, A, c, h3, hle, hC⟩ := h
  have h0' : c0 = [.int .i64 x.1] := h0
  have h1' : c2 = [.int .i64 x.2.1] := h1
  have h2' : c4 = [.int .i64 x.2.2.1] := h2
  subst h0' h1' h2' h3
  exact ⟨A, c, by cases cs; simp_all, hle, hC⟩
theorem wf_oct {x : Int} (h : (Lit.int .u8 x).wf = true) : 0 ≤ x ∧ x ≤ 255 := by
  simp [Lit.wf, IntKind.min, IntKind.max, IntKind.signed, IntKind.bits] at h
  omega
theorem wf_octs {l : List Int} (h : ∀ p ∈ l, (Lit.int .u8 p).wf = true) : Oct l := fun x hx => wf_oct (h x hx)
theorem keeps_row (cs : Array Value) (x : Int × Int × Int × List Int) (Bo : Option Addr) (d : Nat) (b : List Int) (again : Int) (w : World) (hK : kRd.K w x cs.toList) (hQ : ∀ p ∈ x.2.2.2, (Lit.int .u8 p).wf = true)
    (hB : kB.C w Bo b.length b) (hd : b.length ≤ d) (hob : ∀ p ∈ b, (Lit.int .u8 p).wf = true) (ha : (Lit.int .u8 again).wf = true) : Calls Try.prog 3 #[.agg cs, .slice Bo b.length d, .int .u8 again] w (AwakeP w) := by
  obtain ⟨A, c, rfl, hle, hC⟩ := rd_cells hK
  exact keeps_law ⟨x.1, x.2.1, x.2.2.1, x.2.2.2⟩ A Bo c d b again w hC hle (wf_octs hQ) hB hd (wf_octs hob) (wf_oct ha)
end Go.Proofs.Ytkbblbgiheclfaa
