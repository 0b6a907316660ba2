/- The row of the law QbitRow: for every input it returns true, and its arguments read as they did. -/
import Derived.Test.YthnaijmbppmbjaaRows
import Derived.Test.YthnaijmbppmbjaaQH
import Derived.Test.YthnaijmbppmbjaaRO
import Derived.WalkKit
import Derived.ProofKit
import Derived.OpenShut
import Derived.ShutString
import Derived.ChangeOld
import Derived.Below
import Derived.SizedLaws
import Derived.Lib.SmallJoins
namespace Go.Proofs.Ythnaijmbppmbjaa.qbitRow
open Go.ChangeShapes Go.WideShapes Go.ChangeAt Go.RowKit Go.Proofs.YthnaijmbppmbjaaW.PrintWords
theorem own : ownKnob Try.prog.godebug = none := by kernel_rfl
theorem laidOut : laidOutB Try.prog = true := by kernel_rfl
set_option maxRecDepth 100000 in
theorem lifted (os : Os) (started : os.Started) (H : Type) (enc : TypeId × Value → H) :
    ReturnsInHanded {} Try.checked os 5 .any (Rows.qbitRowSpec.pre6 enc Try.prog Try.f5 Rows.qbitRowRow.domain false) (Rows.qbitRowSpec.post enc Try.prog Try.f5 false true false false) := by
  refine returnsInHanded_of_change (C := Try.checked) own started (by kernel_rfl) Try.func5
    (ChangeSpec.witness6 (enc := enc) (C := Try.checked) false ⟨#[], #[.bool false, .slice none 0 0], []⟩ 8 (by kernel_rfl) (by kernel_rfl) (by kernel_rfl) (by kernel_rfl)) ?_
  intro W base args ds gs before hval0 hW _hcnd _
  have hval : ∀ (j : Nat) t v, Try.f5.params[j]? = some t → args[j]? = some v → Value.okWide Try.prog W .any base t v := hval0
  have hW' := hW
  obtain ⟨p, q, hA0, hV, rfl, _hfz, _hnd⟩ := hW
  have hA : DataW.TrodAll enc Try.prog W 0 (fun _ => true) true Try.f5.params.toList args.toList ds p := hA0
  rw [Try.params5] at hA hval
  obtain ⟨v0, vs0, d0, ds0, p0, q0, hargs, rfl, rfl, h0, r0⟩ := trodAll_cons hA
  obtain ⟨v1, vs1, d1, ds1, p1, q1, rfl, rfl, rfl, h1, r1⟩ := trodAll_cons r0
  obtain ⟨rfl, rfl, rfl⟩ := trodAll_nil r1
  obtain rfl : args = #[v0, v1] := by cases args; simp_all
  obtain ⟨rfl, rfl⟩ := trodVars_none hV
  obtain ⟨a0, rfl, rfl, rfl⟩ := open_bool Try.underlying4 (hval 0 4 v0 rfl rfl) h0
  obtain ⟨A1, len1, c1, rfl⟩ := okWide_slice Try.underlying22 (hval 1 22 v1 rfl rfl)
  have k1 := h1
  have lt1 : ∀ x ∈ p1, x.block < W.heap.size := by obtain ⟨m, hm⟩ := k1; exact DataW.trod_lt m _ _ _ hm
  obtain ⟨l1, hl1, hC1, hQ1⟩ : ∃ l, len1 = List.length l ∧ (kAct).C W A1 l.length l ∧ ∀ p ∈ l, (fun p => (Lit.int .u8 p.1).wf = true ∧ True ∧ True) p := by
    obtain ⟨fuel, hf⟩ := h1
    obtain ⟨l, ⟨A, c, he, _, hC⟩, hQ⟩ := RO.opens_slice (d := kAct) Try.underlying22 (by kernel_rfl) (RO.opens_struct3 Try.underlying30 (by kernel_rfl) ⟨rfl, by kernel_rfl, RO.opens_int Try.underlying5⟩ ⟨rfl, by kernel_rfl, RO.opens_bool Try.underlying4⟩ ⟨rfl, by kernel_rfl, RO.opens_bool Try.underlying4⟩) fuel _ _ hf
    simp only [Value.cells, List.cons.injEq, Value.slice.injEq, and_true] at he
    obtain ⟨rfl, rfl, rfl⟩ := he
    exact ⟨l, rfl, hC, hQ⟩
  subst hl1
  clear hA0 hval0
  refine (row_walk a0 A1 c1 l1 W hC1).mono fun e W' ⟨he, bel⟩ => ?_
  subst he
  exact ⟨_, rfl, _, _, _, [], _, [], hW', trodAll_mk1 (shut_bool Try.underlying4 _), (trodAll_cons_mk (shut_bool Try.underlying4 _) (trodAll_cons_mk (Below.trod laidOut (by kernel_rfl) (of_decide_eq_true (by kernel_rfl)) k1 bel lt1) trodAll_mk0)), rfl, bel.frame _, fun h => by cases h⟩
theorem over : Rows.qbitRowRow.holds Try.pinned (OpenSpec.ofChange Rows.qbitRowSpec) :=
  OpenClaim.holds_of_wide 5 Try.f5 rfl rfl rfl rfl rfl rfl rfl ⟨rfl, rfl, rfl, rfl, rfl⟩ rfl rfl rfl rfl rfl (by kernel_rfl) Try.func5 (by kernel_rfl)
    (of_decide_eq_true (by kernel_rfl)) (by unfold Func.isWrapper; first | (rw [if_pos (by decide +kernel)]; kernel_rfl) | (rw [if_neg (by decide +kernel)]; exact ⟨rfl, rfl⟩))
    (fun os started H enc _ => lifted os started H enc)
theorem proved : Rows.QbitRowSaid := over
end Go.Proofs.Ythnaijmbppmbjaa.qbitRow
namespace Go.Proofs.Ythnaijmbppmbjaa
/-- The row, under a short name, for the claim. -/
theorem qbitRow_holds : Rows.QbitRowSaid := qbitRow.proved
#print axioms qbitRow_holds
end Go.Proofs.Ythnaijmbppmbjaa
