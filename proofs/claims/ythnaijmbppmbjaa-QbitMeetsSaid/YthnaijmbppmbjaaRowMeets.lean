/- The row of the law QbitMeets: for every input it returns true, and its arguments read as they did. -/
import Derived.Test.YthnaijmbppmbjaaRows
import Derived.Test.YthnaijmbppmbjaaQM3
import Derived.Test.YthnaijmbppmbjaaRO
import Derived.WalkKit
import Derived.ProofKit
import Derived.OpenShut
import Derived.ShutString
import Derived.ChangeOld
import Derived.Below
import Derived.SizedLaws
import Derived.Lib.SmallJoins
import Derived.Laws.Cover2
namespace Go.Proofs.Ythnaijmbppmbjaa.qbitMeets
open Go.ChangeShapes Go.WideShapes Go.ChangeAt Go.RowKit Go.Proofs.YthnaijmbppmbjaaW.PrintWords
theorem own : ownKnob Try.prog.godebug = none := by kernel_rfl
theorem laidOut : laidOutB Try.prog = true := by kernel_rfl
set_option maxRecDepth 100000 in
theorem lifted (os : Os) (started : os.Started) (H : Type) (enc : TypeId × Value → H) :
    ReturnsInHanded {} Try.checked os 3 .any (Rows.qbitMeetsSpec.pre6 enc Try.prog Try.f3 Rows.qbitMeetsRow.domain false) (Rows.qbitMeetsSpec.post enc Try.prog Try.f3 false true false false) := by
  refine returnsInHanded_of_change (C := Try.checked) own started (by kernel_rfl) Try.func3
    (ChangeSpec.witness6 (enc := enc) (C := Try.checked) false ⟨#[], #[.agg #[.bool false, .bool false, .slice none 0 0]], []⟩ 8 (by kernel_rfl) (by kernel_rfl) (by kernel_rfl) (by kernel_rfl)) ?_
  intro W base args ds gs before hval0 hW _hcnd _
  have hval : ∀ (j : Nat) t v, Try.f3.params[j]? = some t → args[j]? = some v → Value.okWide Try.prog W .any base t v := hval0
  have hW' := hW
  obtain ⟨p, q, hA0, hV, rfl, _hfz, _hnd⟩ := hW
  have hA : DataW.TrodAll enc Try.prog W 0 (fun _ => true) true Try.f3.params.toList args.toList ds p := hA0
  rw [Try.params3] at hA hval
  obtain ⟨v0, vs0, d0, ds0, p0, q0, hargs, rfl, rfl, h0, r0⟩ := trodAll_cons hA
  obtain ⟨rfl, rfl, rfl⟩ := trodAll_nil r0
  obtain rfl : args = #[v0] := by cases args; simp_all
  obtain ⟨rfl, rfl⟩ := trodVars_none hV
  obtain ⟨cs0, rfl, _⟩ := okWide_struct Try.underlying24 (hval 0 24 v0 rfl rfl)
  have k0 := h0
  have lt0 : ∀ x ∈ p0, x.block < W.heap.size := by obtain ⟨m, hm⟩ := k0; exact DataW.trod_lt m _ _ _ hm
  obtain ⟨x0, hK0, hQ0⟩ : ∃ x, (kPair).K W x cs0.toList ∧ (fun x => True ∧ True ∧ ∀ p ∈ x.2.2, (Lit.int .u8 p.1).wf = true ∧ True ∧ True) x := by
    obtain ⟨fuel, hf⟩ := h0
    exact RO.opens_struct3 (d0 := Kd.bool) (d1 := Kd.bool) (d2 := Kd.slice 30 kAct) (Q0 := fun _ => True) (Q1 := fun _ => True) (Q2 := fun l => ∀ p ∈ l, (Lit.int .u8 p.1).wf = true ∧ True ∧ True) Try.underlying24 (by kernel_rfl) ⟨rfl, by kernel_rfl, RO.opens_bool Try.underlying4⟩ ⟨rfl, by kernel_rfl, RO.opens_bool Try.underlying4⟩ ⟨rfl, by kernel_rfl, RO.opens_slice (d := kAct) Try.underlying22 (by kernel_rfl) (RO.opens_struct3 Try.underlying30 (by kernel_rfl) ⟨rfl, by kernel_rfl, RO.opens_int Try.underlying5⟩ ⟨rfl, by kernel_rfl, RO.opens_bool Try.underlying4⟩ ⟨rfl, by kernel_rfl, RO.opens_bool Try.underlying4⟩)⟩ fuel _ _ hf
  clear hA0 hval0
  refine (meets_row cs0 x0 W hK0 hQ0.2.2).mono fun e W' ⟨he, bel⟩ => ?_
  subst he
  exact ⟨_, rfl, _, _, _, [], _, [], hW', trodAll_mk1 (shut_bool Try.underlying4 _), (trodAll_cons_mk (Below.trod laidOut (by kernel_rfl) (of_decide_eq_true (by kernel_rfl)) k0 bel lt0) trodAll_mk0), rfl, bel.frame _, fun h => by cases h⟩
theorem over : Rows.qbitMeetsRow.holds Try.pinned (OpenSpec.ofChange Rows.qbitMeetsSpec) :=
  OpenClaim.holds_of_wide 3 Try.f3 rfl rfl rfl rfl rfl rfl rfl ⟨rfl, rfl, rfl, rfl, rfl⟩ rfl rfl rfl rfl rfl (by kernel_rfl) Try.func3 (by kernel_rfl)
    (of_decide_eq_true (by kernel_rfl)) (by unfold Func.isWrapper; first | (rw [if_pos (by decide +kernel)]; kernel_rfl) | (rw [if_neg (by decide +kernel)]; exact ⟨rfl, rfl⟩))
    (fun os started H enc _ => lifted os started H enc)
theorem proved : Rows.QbitMeetsSaid := over
end Go.Proofs.Ythnaijmbppmbjaa.qbitMeets
namespace Go.Proofs.Ythnaijmbppmbjaa
/-- The row, under a short name, for the claim. -/
theorem qbitMeets_holds : Rows.QbitMeetsSaid := qbitMeets.proved
#print axioms qbitMeets_holds
end Go.Proofs.Ythnaijmbppmbjaa
