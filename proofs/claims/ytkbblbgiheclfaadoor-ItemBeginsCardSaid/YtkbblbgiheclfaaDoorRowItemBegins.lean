/- The card of the law ItemBegins: for every input it returns true, and its arguments read as they did; the tables that the row lists are tied to the text of the program (the tie is given). -/
import Derived.Test.YtkbblbgiheclfaaDoorRows
import Derived.Test.YtkbblbgiheclfaaDoorEB
import Derived.Test.YtkbblbgiheclfaaDoorEP
import Derived.Test.YtkbblbgiheclfaaDoorRO
import Derived.Test.YtkbblbgiheclfaaDoorTie
import Derived.Test.YtkbblbgiheclfaaDoorCards
import Derived.Lay
import Derived.SevenTiedAt
import Derived.WalkKit
import Derived.ProofKit
import Derived.OpenShut
import Derived.ShutString
import Derived.ChangeOld
import Derived.Below
import Derived.SizedLaws
import Derived.Lib.SmallJoins
import Derived.Laws.Cover2
namespace Go.Proofs.YtkbblbgiheclfaaDoor.itemBegins
open Go.ChangeShapes Go.WideShapes Go.ChangeAt Go.RowKit Go.Proofs.YtkbblbgiheclfaaDoorW.PrintWords
theorem own : ownKnob Tryd.prog.godebug = none := by kernel_rfl
theorem laidOut : laidOutB Tryd.prog = true := by kernel_rfl
set_option maxRecDepth 100000 in
theorem lifted (os : Os) (started : os.Started) (H : Type) (enc : TypeId × Value → H) :
    ReturnsInHanded {} Tryd.checked os 6 .any (fun w args => (Rows.itemBeginsSpec.pre enc Tryd.prog Tryd.f6 [] false w args ∧ laidMetH Tryd.prog Rows.itemBeginsRow.laid w) ∧ sizedMet enc Tryd.prog Tryd.f6 (OpenSpec.ofChange Rows.itemBeginsSpec) false w args) (Rows.itemBeginsSpec.post enc Tryd.prog Tryd.f6 false true false false) := by
  refine returnsInHanded_of_change_and (C := Tryd.checked) (X := fun w _ => laidMetH Tryd.prog Rows.itemBeginsRow.laid w) (fun _ _ _ hh h => h.of_heap hh) own started (by kernel_rfl) Tryd.func6
    (ChangeSpec.witness_shaped (enc := enc) (C := Tryd.checked) (os := os) (X := fun w _ => laidMetH Tryd.prog Rows.itemBeginsRow.laid w) false (World.laidAll Tryd.prog os Rows.itemBeginsRow.laid) #[.agg #[.int .i64 0, .int .i64 0, .int .i64 0, .slice none 0 0]] 8 (World.laidAll_os _ _ _)
      (World.shaped_of_ZipB (by kernel_rfl) (by kernel_rfl)) (by kernel_rfl) (by kernel_rfl) (by kernel_rfl)
      (by rw [MakeChecks.laidMetH_plain _ _ _ (by kernel_rfl)]; exact laidMet_laidAll _ (by kernel_rfl) (by kernel_rfl))) ?_
  intro W base args ds gs before hval0 hW _hcnd _ _hL _
  have hval : ∀ (j : Nat) t v, Tryd.f6.params[j]? = some t → args[j]? = some v → Value.okWide Tryd.prog W .any base t v := hval0
  have hW' := hW
  obtain ⟨p, q, hA0, hV, rfl, _hfz, _hnd⟩ := hW
  have hA : DataW.TrodAll enc Tryd.prog W 0 (fun _ => true) true Tryd.f6.params.toList args.toList ds p := hA0
  rw [Tryd.params6] at hA hval
  obtain ⟨v0, vs0, d0, ds0, p0, q0, hargs, rfl, rfl, h0, r0⟩ := trodAll_cons hA
  obtain ⟨rfl, rfl, rfl⟩ := trodAll_nil r0
  obtain rfl : args = #[v0] := by cases args; simp_all
  obtain ⟨rfl, rfl⟩ := trodVars_none hV
  obtain ⟨cs0, rfl, _⟩ := okWide_struct Tryd.underlying25 (hval 0 25 v0 rfl rfl)
  have k0 := h0
  have lt0 : ∀ x ∈ p0, x.block < W.heap.size := by obtain ⟨m, hm⟩ := k0; exact DataW.trod_lt m _ _ _ hm
  obtain ⟨x0, hK0, hQ0⟩ : ∃ x, (kIt).K W x cs0.toList ∧ (fun x : It => (Lit.int .i64 x.k).wf = true ∧ (Lit.int .i64 x.a).wf = true ∧ (Lit.int .i64 x.b).wf = true ∧ ∀ p ∈ x.l, (Lit.int .u8 p).wf = true) x := by
    obtain ⟨fuel, hf⟩ := h0
    exact RO.opens_iso (fun x : It => (x.k, x.a, x.b, x.l)) (fun y => ⟨y.1, y.2.1, y.2.2.1, y.2.2.2⟩) (fun _ => rfl) (RO.opens_struct4 (d0 := Kd.int .i64) (d1 := Kd.int .i64) (d2 := Kd.int .i64) (d3 := Kd.slice 5 (Kd.int .u8)) (Q0 := (fun p => (Lit.int .i64 p).wf = true)) (Q1 := (fun p => (Lit.int .i64 p).wf = true)) (Q2 := (fun p => (Lit.int .i64 p).wf = true)) (Q3 := fun l => ∀ p ∈ l, (Lit.int .u8 p).wf = true) Tryd.underlying25 (by kernel_rfl) ⟨rfl, by kernel_rfl, RO.opens_int Tryd.underlying3⟩ ⟨rfl, by kernel_rfl, RO.opens_int Tryd.underlying3⟩ ⟨rfl, by kernel_rfl, RO.opens_int Tryd.underlying3⟩ ⟨rfl, by kernel_rfl, RO.opens_slice (d := Kd.int .u8) Tryd.underlying22 (by kernel_rfl) (RO.opens_int Tryd.underlying5)⟩) fuel _ _ hf
  clear hA0 hval0
  refine (Dr.begins_row cs0 x0 W hK0 hQ0).mono fun e W' ⟨he, bel⟩ => ?_
  subst he
  exact ⟨_, rfl, _, _, _, [], _, [], hW', trodAll_mk1 (shut_bool Tryd.underlying4 _), (trodAll_cons_mk (Below.trod laidOut (by kernel_rfl) (of_decide_eq_true (by kernel_rfl)) k0 bel lt0) trodAll_mk0), rfl, bel.frame _, fun h => by cases h⟩
theorem over : Rows.itemBeginsRow.holds Tryd.pinned (OpenSpec.ofChange Rows.itemBeginsSpec) :=
  OpenClaim.holds_of_wide 6 Tryd.f6 rfl rfl rfl rfl rfl rfl rfl ⟨rfl, rfl, rfl, rfl, rfl⟩ rfl rfl rfl rfl rfl (by kernel_rfl) Tryd.func6 (by kernel_rfl)
    (of_decide_eq_true (by kernel_rfl)) (by unfold Func.isWrapper; first | (rw [if_pos (by decide +kernel)]; kernel_rfl) | (rw [if_neg (by decide +kernel)]; exact ⟨rfl, rfl⟩))
    (fun os started H enc _ => lifted os started H enc)
theorem carded : Rows.ItemBeginsCardSaid :=
  Claim7.holds_tied_plain_at .later [] [.data, .pinned] true (true, "ad106a8fd1a7b2e0a29e7c3a5d07689af0f15ff704f61e2c37cad24b5a24582d") false over (fun _ h => by cases h) (by kernel_rfl) (fun _ h => by cases h) itemBegins_row_tie rfl ⟨rfl, rfl⟩ (by kernel_rfl) rfl
    (fun f fn hf hfn => by
      obtain rfl : f = 6 := Option.some.inj ((show Tryd.prog.funcNamed "linnet/linnetlaw03.ItemBegins" = some 6 by kernel_rfl).symm.trans hf) |>.symm
      obtain rfl : fn = Tryd.f6 := (Option.some.inj (Tryd.func6.symm.trans hfn)).symm
      exact ⟨by kernel_rfl, fun j t ht => by
        rw [Tryd.params6] at ht
        have hm : t ∈ [25] := by simpa using Array.mem_of_getElem? ht
        have hall : ([25].all fun u => !Tryd.prog.wantsStandIn u) = true := by kernel_rfl
        exact (show Tryd.prog.wantsStandIn t = false by simpa using List.all_eq_true.1 hall t hm)⟩)
    (by kernel_rfl)
end Go.Proofs.YtkbblbgiheclfaaDoor.itemBegins
namespace Go.Proofs.YtkbblbgiheclfaaDoor
/-- The card, under a short name, for the claim. -/
theorem itemBegins_holds : Rows.ItemBeginsCardSaid := itemBegins.carded
#print axioms itemBegins_holds
end Go.Proofs.YtkbblbgiheclfaaDoor
