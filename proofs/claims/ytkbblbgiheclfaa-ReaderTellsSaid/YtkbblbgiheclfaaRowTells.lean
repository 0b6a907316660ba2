/- The row of the law ReaderTells: for every input it returns true, and its arguments read as they did. -/
import Derived.Test.YtkbblbgiheclfaaRows
import Derived.Test.YtkbblbgiheclfaaTR
import Derived.Test.YtkbblbgiheclfaaRO
import Derived.WalkKit
import Derived.ProofKit
import Derived.OpenShut
import Derived.ShutString
import Derived.ChangeOld
import Derived.Below
import Derived.SizedLaws
import Derived.Lib.SmallJoins
import Derived.Laws.Cover2
namespace Go.Proofs.Ytkbblbgiheclfaa.readerTells
open Go.ChangeShapes Go.WideShapes Go.ChangeAt Go.RowKit Go.Proofs.YtkbblbgiheclfaaW.PrintWords
theorem own : ownKnob Try.prog.godebug = none := by kernel_rfl
theorem laidOut : laidOutB Try.prog = true := by kernel_rfl
set_option maxRecDepth 100000 in
theorem lifted (os : Os) (started : os.Started) (H : Type) (enc : TypeId × Value → H) :
    ReturnsInHanded {} Try.checked os 4 .any (Rows.readerTellsSpec.pre6 enc Try.prog Try.f4 Rows.readerTellsRow.domain false) (Rows.readerTellsSpec.post enc Try.prog Try.f4 false true false false) := by
  refine returnsInHanded_of_change (C := Try.checked) own started (by kernel_rfl) Try.func4
    (ChangeSpec.witness6 (enc := enc) (C := Try.checked) false ⟨#[], #[.agg #[.int .i64 0, .int .i64 0, .int .i64 0, .slice none 0 0], .agg #[.int .i64 0, .int .i64 0, .int .i64 0, .slice none 0 0], .slice none 0 0], []⟩ 8 (by kernel_rfl) (by kernel_rfl) (by kernel_rfl) (by kernel_rfl)) ?_
  intro W base args ds gs before hval0 hW _hcnd _
  have hval : ∀ (j : Nat) t v, Try.f4.params[j]? = some t → args[j]? = some v → Value.okWide Try.prog W .any base t v := hval0
  have hW' := hW
  obtain ⟨p, q, hA0, hV, rfl, _hfz, _hnd⟩ := hW
  have hA : DataW.TrodAll enc Try.prog W 0 (fun _ => true) true Try.f4.params.toList args.toList ds p := hA0
  rw [Try.params4] at hA hval
  obtain ⟨v0, vs0, d0, ds0, p0, q0, hargs, rfl, rfl, h0, r0⟩ := trodAll_cons hA
  obtain ⟨v1, vs1, d1, ds1, p1, q1, rfl, rfl, rfl, h1, r1⟩ := trodAll_cons r0
  obtain ⟨v2, vs2, d2, ds2, p2, q2, rfl, rfl, rfl, h2, r2⟩ := trodAll_cons r1
  obtain ⟨rfl, rfl, rfl⟩ := trodAll_nil r2
  obtain rfl : args = #[v0, v1, v2] := by cases args; simp_all
  obtain ⟨rfl, rfl⟩ := trodVars_none hV
  obtain ⟨cs0, rfl, _⟩ := okWide_struct Try.underlying24 (hval 0 24 v0 rfl rfl)
  have k0 := h0
  have lt0 : ∀ x ∈ p0, x.block < W.heap.size := by obtain ⟨m, hm⟩ := k0; exact DataW.trod_lt m _ _ _ hm
  obtain ⟨x0, hK0, hQ0⟩ : ∃ x, (kRd).K W x cs0.toList ∧ (fun x => (Lit.int .i64 x.1).wf = true ∧ (Lit.int .i64 x.2.1).wf = true ∧ (Lit.int .i64 x.2.2.1).wf = true ∧ ∀ p ∈ x.2.2.2, (Lit.int .u8 p).wf = true) x := by
    obtain ⟨fuel, hf⟩ := h0
    exact RO.opens_struct4 (d0 := Kd.int .i64) (d1 := Kd.int .i64) (d2 := Kd.int .i64) (d3 := Kd.slice 5 (Kd.int .u8)) (Q0 := fun p => (Lit.int .i64 p).wf = true) (Q1 := fun p => (Lit.int .i64 p).wf = true) (Q2 := fun p => (Lit.int .i64 p).wf = true) (Q3 := fun l => ∀ p ∈ l, (Lit.int .u8 p).wf = true) Try.underlying24 (by kernel_rfl) ⟨rfl, by kernel_rfl, RO.opens_int Try.underlying3⟩ ⟨rfl, by kernel_rfl, RO.opens_int Try.underlying3⟩ ⟨rfl, by kernel_rfl, RO.opens_int Try.underlying3⟩ ⟨rfl, by kernel_rfl, RO.opens_slice (d := Kd.int .u8) Try.underlying22 (by kernel_rfl) (RO.opens_int Try.underlying5)⟩ fuel _ _ hf
  obtain ⟨cs1, rfl, _⟩ := okWide_struct Try.underlying24 (hval 1 24 v1 rfl rfl)
  have k1 := h1
  have lt1 : ∀ x ∈ p1, x.block < W.heap.size := by obtain ⟨m, hm⟩ := k1; exact DataW.trod_lt m _ _ _ hm
  obtain ⟨x1, hK1, hQ1⟩ : ∃ x, (kRd).K W x cs1.toList ∧ (fun x => (Lit.int .i64 x.1).wf = true ∧ (Lit.int .i64 x.2.1).wf = true ∧ (Lit.int .i64 x.2.2.1).wf = true ∧ ∀ p ∈ x.2.2.2, (Lit.int .u8 p).wf = true) x := by
    obtain ⟨fuel, hf⟩ := h1
    exact RO.opens_struct4 (d0 := Kd.int .i64) (d1 := Kd.int .i64) (d2 := Kd.int .i64) (d3 := Kd.slice 5 (Kd.int .u8)) (Q0 := fun p => (Lit.int .i64 p).wf = true) (Q1 := fun p => (Lit.int .i64 p).wf = true) (Q2 := fun p => (Lit.int .i64 p).wf = true) (Q3 := fun l => ∀ p ∈ l, (Lit.int .u8 p).wf = true) Try.underlying24 (by kernel_rfl) ⟨rfl, by kernel_rfl, RO.opens_int Try.underlying3⟩ ⟨rfl, by kernel_rfl, RO.opens_int Try.underlying3⟩ ⟨rfl, by kernel_rfl, RO.opens_int Try.underlying3⟩ ⟨rfl, by kernel_rfl, RO.opens_slice (d := Kd.int .u8) Try.underlying22 (by kernel_rfl) (RO.opens_int Try.underlying5)⟩ fuel _ _ hf
  obtain ⟨A2, len2, c2, rfl⟩ := okWide_slice Try.underlying22 (hval 2 22 v2 rfl rfl)
  have k2 := h2
  have lt2 : ∀ x ∈ p2, x.block < W.heap.size := by obtain ⟨m, hm⟩ := k2; exact DataW.trod_lt m _ _ _ hm
  obtain ⟨l2, hl2, hC2, hQ2, hcap2⟩ : ∃ l, len2 = List.length l ∧ (Kd.int .u8).C W A2 l.length l ∧ (∀ p ∈ l, (fun p => (Lit.int .u8 p).wf = true) p) ∧ l.length ≤ c2 := by
    obtain ⟨fuel, hf⟩ := h2
    obtain ⟨l, ⟨A, c, he, hcap, hC⟩, hQ⟩ := RO.opens_slice (d := Kd.int .u8) Try.underlying22 (by kernel_rfl) (RO.opens_int Try.underlying5) fuel _ _ hf
    simp only [Value.cells, List.cons.injEq, Value.slice.injEq, and_true] at he
    obtain ⟨rfl, rfl, rfl⟩ := he
    exact ⟨l, rfl, hC, hQ, hcap⟩
  subst hl2
  clear hA0 hval0
  refine (tells_row cs0 x0 cs1 x1 A2 c2 l2 W hK0 hQ0.2.2.2 hK1 hQ1.2.2.2 hC2 hcap2 hQ2).mono fun e W' ⟨he, bel⟩ => ?_
  subst he
  exact ⟨_, rfl, _, _, _, [], _, [], hW', trodAll_mk1 (shut_bool Try.underlying4 _), (trodAll_cons_mk (Below.trod laidOut (by kernel_rfl) (of_decide_eq_true (by kernel_rfl)) k0 bel lt0) (trodAll_cons_mk (Below.trod laidOut (by kernel_rfl) (of_decide_eq_true (by kernel_rfl)) k1 bel lt1) (trodAll_cons_mk (Below.trod laidOut (by kernel_rfl) (of_decide_eq_true (by kernel_rfl)) k2 bel lt2) trodAll_mk0))), rfl, bel.frame _, fun h => by cases h⟩
theorem over : Rows.readerTellsRow.holds Try.pinned (OpenSpec.ofChange Rows.readerTellsSpec) :=
  OpenClaim.holds_of_wide 4 Try.f4 rfl rfl rfl rfl rfl rfl rfl ⟨rfl, rfl, rfl, rfl, rfl⟩ rfl rfl rfl rfl rfl (by kernel_rfl) Try.func4 (by kernel_rfl)
    (of_decide_eq_true (by kernel_rfl)) (by unfold Func.isWrapper; first | (rw [if_pos (by decide +kernel)]; kernel_rfl) | (rw [if_neg (by decide +kernel)]; exact ⟨rfl, rfl⟩))
    (fun os started H enc _ => lifted os started H enc)
theorem proved : Rows.ReaderTellsSaid := over
end Go.Proofs.Ytkbblbgiheclfaa.readerTells
namespace Go.Proofs.Ytkbblbgiheclfaa
/-- The row, under a short name, for the claim. -/
theorem readerTells_holds : Rows.ReaderTellsSaid := readerTells.proved
#print axioms readerTells_holds
end Go.Proofs.Ytkbblbgiheclfaa
