/- The row of the law ReaderLong: for every input it returns true, and its arguments read as they did. -/
import Derived.Test.YtkbblbgiheclfaaRows
import Derived.Test.YtkbblbgiheclfaaLRL
import Derived.Test.YtkbblbgiheclfaaRO
import Derived.WalkKit
import Derived.ProofKit
import Derived.OpenShut
import Derived.ShutString
import Derived.ChangeOld
import Derived.Below
import Derived.SizedLaws
import Derived.Lib.SmallJoins
import Derived.Laws.Cover2
namespace Go.Proofs.Ytkbblbgiheclfaa.readerLong
open Go.ChangeShapes Go.WideShapes Go.ChangeAt Go.RowKit Go.Proofs.YtkbblbgiheclfaaW.PrintWords
theorem own : ownKnob Try.prog.godebug = none := by kernel_rfl
theorem laidOut : laidOutB Try.prog = true := by kernel_rfl
set_option maxRecDepth 100000 in
theorem lifted (os : Os) (started : os.Started) (H : Type) (enc : TypeId × Value → H) :
    ReturnsInHanded {} Try.checked os 5 .any (Rows.readerLongSpec.pre6 enc Try.prog Try.f5 Rows.readerLongRow.domain false) (Rows.readerLongSpec.post enc Try.prog Try.f5 false true false false) := by
  refine returnsInHanded_of_change (C := Try.checked) own started (by kernel_rfl) Try.func5
    (ChangeSpec.witness6 (enc := enc) (C := Try.checked) false ⟨#[], #[.agg #[.int .u8 0, .int .u8 0, .int .u16 0, .slice none 0 0]], []⟩ 8 (by kernel_rfl) (by kernel_rfl) (by kernel_rfl) (by kernel_rfl)) ?_
  intro W base args ds gs before hval0 hW _hcnd _
  have hval : ∀ (j : Nat) t v, Try.f5.params[j]? = some t → args[j]? = some v → Value.okWide Try.prog W .any base t v := hval0
  have hW' := hW
  obtain ⟨p, q, hA0, hV, rfl, _hfz, _hnd⟩ := hW
  have hA : DataW.TrodAll enc Try.prog W 0 (fun _ => true) true Try.f5.params.toList args.toList ds p := hA0
  rw [Try.params5] at hA hval
  obtain ⟨v0, vs0, d0, ds0, p0, q0, hargs, rfl, rfl, h0, r0⟩ := trodAll_cons hA
  obtain ⟨rfl, rfl, rfl⟩ := trodAll_nil r0
  obtain rfl : args = #[v0] := by cases args; simp_all
  obtain ⟨rfl, rfl⟩ := trodVars_none hV
  obtain ⟨cs0, rfl, _⟩ := okWide_struct Try.underlying45 (hval 0 45 v0 rfl rfl)
  have k0 := h0
  have lt0 : ∀ x ∈ p0, x.block < W.heap.size := by obtain ⟨m, hm⟩ := k0; exact DataW.trod_lt m _ _ _ hm
  obtain ⟨x0, hK0, hQ0⟩ : ∃ x, (kLn).K W x cs0.toList ∧ (fun x => (Lit.int .u8 x.1).wf = true ∧ (Lit.int .u8 x.2.1).wf = true ∧ (Lit.int .u16 x.2.2.1).wf = true ∧ ∀ p ∈ x.2.2.2, (Lit.int .u8 p).wf = true) x := by
    obtain ⟨fuel, hf⟩ := h0
    exact RO.opens_struct4 (d0 := Kd.int .u8) (d1 := Kd.int .u8) (d2 := Kd.int .u16) (d3 := Kd.slice 5 (Kd.int .u8)) (Q0 := (fun p => (Lit.int .u8 p).wf = true)) (Q1 := (fun p => (Lit.int .u8 p).wf = true)) (Q2 := (fun p => (Lit.int .u16 p).wf = true)) (Q3 := fun l => ∀ p ∈ l, (Lit.int .u8 p).wf = true) Try.underlying45 (by kernel_rfl) ⟨rfl, by kernel_rfl, RO.opens_int Try.underlying5⟩ ⟨rfl, by kernel_rfl, RO.opens_int Try.underlying5⟩ ⟨rfl, by kernel_rfl, RO.opens_int Try.underlying43⟩ ⟨rfl, by kernel_rfl, RO.opens_slice (d := Kd.int .u8) Try.underlying22 (by kernel_rfl) (RO.opens_int Try.underlying5)⟩ fuel _ _ hf
  clear hA0 hval0
  refine (long_row cs0 x0 W hK0 hQ0.1 hQ0.2.1 hQ0.2.2.1 hQ0.2.2.2).mono fun e W' ⟨he, bel⟩ => ?_
  subst he
  exact ⟨_, rfl, _, _, _, [], _, [], hW', trodAll_mk1 (shut_bool Try.underlying4 _), (trodAll_cons_mk (Below.trod laidOut (by kernel_rfl) (of_decide_eq_true (by kernel_rfl)) k0 bel lt0) trodAll_mk0), rfl, bel.frame _, fun h => by cases h⟩
theorem over : Rows.readerLongRow.holds Try.pinned (OpenSpec.ofChange Rows.readerLongSpec) :=
  OpenClaim.holds_of_wide 5 Try.f5 rfl rfl rfl rfl rfl rfl rfl ⟨rfl, rfl, rfl, rfl, rfl⟩ rfl rfl rfl rfl rfl (by kernel_rfl) Try.func5 (by kernel_rfl)
    (of_decide_eq_true (by kernel_rfl)) (by unfold Func.isWrapper; first | (rw [if_pos (by decide +kernel)]; kernel_rfl) | (rw [if_neg (by decide +kernel)]; exact ⟨rfl, rfl⟩))
    (fun os started H enc _ => lifted os started H enc)
theorem proved : Rows.ReaderLongSaid := over
end Go.Proofs.Ytkbblbgiheclfaa.readerLong
namespace Go.Proofs.Ytkbblbgiheclfaa
/-- The row, under a short name, for the claim. -/
theorem readerLong_holds : Rows.ReaderLongSaid := readerLong.proved
#print axioms readerLong_holds
end Go.Proofs.Ytkbblbgiheclfaa
