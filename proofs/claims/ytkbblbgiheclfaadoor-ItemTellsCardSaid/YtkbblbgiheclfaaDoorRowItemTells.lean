/- The card of the law ItemTells: for every input it returns true, and its arguments read as they did; the tables that the row lists are tied to the text of the program (the tie is given). -/
import Derived.Test.YtkbblbgiheclfaaDoorRows
import Derived.Test.YtkbblbgiheclfaaDoorET
import Derived.Test.YtkbblbgiheclfaaDoorEP
import Derived.Test.YtkbblbgiheclfaaDoorRO
import Derived.Test.YtkbblbgiheclfaaDoorTie
import Derived.Test.YtkbblbgiheclfaaDoorCards
import Derived.Lay
import Derived.SevenTiedAt
import Derived.WalkKit
import Derived.ProofKit
import Derived.OpenShut
import Derived.ShutString
import Derived.ChangeOld
import Derived.Below
import Derived.SizedLaws
import Derived.Lib.SmallJoins
import Derived.Laws.Cover2
namespace Go.Proofs.YtkbblbgiheclfaaDoor.itemTells
open Go.ChangeShapes Go.WideShapes Go.ChangeAt Go.RowKit Go.Proofs.YtkbblbgiheclfaaDoorW.PrintWords
theorem own : ownKnob Tryd.prog.godebug = none := by kernel_rfl
theorem laidOut : laidOutB Tryd.prog = true := by kernel_rfl
set_option maxRecDepth 100000 in
theorem lifted (os : Os) (started : os.Started) (H : Type) (enc : TypeId × Value → H) :
    ReturnsInHanded {} Tryd.checked os 7 .any (fun w args => (Rows.itemTellsSpec.pre enc Tryd.prog Tryd.f7 [] false w args ∧ laidMetH Tryd.prog Rows.itemTellsRow.laid w) ∧ sizedMet enc Tryd.prog Tryd.f7 (OpenSpec.ofChange Rows.itemTellsSpec) false w args) (Rows.itemTellsSpec.post enc Tryd.prog Tryd.f7 false true false false) := by
  refine returnsInHanded_of_change_and (C := Tryd.checked) (X := fun w _ => laidMetH Tryd.prog Rows.itemTellsRow.laid w) (fun _ _ _ hh h => h.of_heap hh) own started (by kernel_rfl) Tryd.func7
    (ChangeSpec.witness_shaped (enc := enc) (C := Tryd.checked) (os := os) (X := fun w _ => laidMetH Tryd.prog Rows.itemTellsRow.laid w) false (World.laidAll Tryd.prog os Rows.itemTellsRow.laid) #[.slice none 0 0, .slice none 0 0, .slice none 0 0] 8 (World.laidAll_os _ _ _)
      (World.shaped_of_ZipB (by kernel_rfl) (by kernel_rfl)) (by kernel_rfl) (by kernel_rfl) (by kernel_rfl)
      (by rw [MakeChecks.laidMetH_plain _ _ _ (by kernel_rfl)]; exact laidMet_laidAll _ (by kernel_rfl) (by kernel_rfl))) ?_
  intro W base args ds gs before hval0 hW _hcnd _ _hL _
  have hval : ∀ (j : Nat) t v, Tryd.f7.params[j]? = some t → args[j]? = some v → Value.okWide Tryd.prog W .any base t v := hval0
  have hW' := hW
  obtain ⟨p, q, hA0, hV, rfl, _hfz, _hnd⟩ := hW
  have hA : DataW.TrodAll enc Tryd.prog W 0 (fun _ => true) true Tryd.f7.params.toList args.toList ds p := hA0
  rw [Tryd.params7] at hA hval
  obtain ⟨v0, vs0, d0, ds0, p0, q0, hargs, rfl, rfl, h0, r0⟩ := trodAll_cons hA
  obtain ⟨v1, vs1, d1, ds1, p1, q1, rfl, rfl, rfl, h1, r1⟩ := trodAll_cons r0
  obtain ⟨v2, vs2, d2, ds2, p2, q2, rfl, rfl, rfl, h2, r2⟩ := trodAll_cons r1
  obtain ⟨rfl, rfl, rfl⟩ := trodAll_nil r2
  obtain rfl : args = #[v0, v1, v2] := by cases args; simp_all
  obtain ⟨rfl, rfl⟩ := trodVars_none hV
  obtain ⟨A0, len0, c0, rfl⟩ := okWide_slice Tryd.underlying31 (hval 0 31 v0 rfl rfl)
  have k0 := h0
  have lt0 : ∀ x ∈ p0, x.block < W.heap.size := by obtain ⟨m, hm⟩ := k0; exact DataW.trod_lt m _ _ _ hm
  obtain ⟨l0, hl0, hC0, hQ0, hcap0⟩ : ∃ l, len0 = List.length l ∧ (kIt).C W A0 l.length l ∧ (∀ p ∈ l, (fun x : It => (Lit.int .i64 x.k).wf = true ∧ (Lit.int .i64 x.a).wf = true ∧ (Lit.int .i64 x.b).wf = true ∧ ∀ p ∈ x.l, (Lit.int .u8 p).wf = true) p) ∧ l.length ≤ c0 := by
    obtain ⟨fuel, hf⟩ := h0
    obtain ⟨l, ⟨A, c, he, hcap, hC⟩, hQ⟩ := RO.opens_slice (d := kIt) Tryd.underlying31 (by kernel_rfl) (RO.opens_iso (fun x : It => (x.k, x.a, x.b, x.l)) (fun y => ⟨y.1, y.2.1, y.2.2.1, y.2.2.2⟩) (fun _ => rfl) (RO.opens_struct4 (d0 := Kd.int .i64) (d1 := Kd.int .i64) (d2 := Kd.int .i64) (d3 := Kd.slice 5 (Kd.int .u8)) (Q0 := (fun p => (Lit.int .i64 p).wf = true)) (Q1 := (fun p => (Lit.int .i64 p).wf = true)) (Q2 := (fun p => (Lit.int .i64 p).wf = true)) (Q3 := fun l => ∀ p ∈ l, (Lit.int .u8 p).wf = true) Tryd.underlying25 (by kernel_rfl) ⟨rfl, by kernel_rfl, RO.opens_int Tryd.underlying3⟩ ⟨rfl, by kernel_rfl, RO.opens_int Tryd.underlying3⟩ ⟨rfl, by kernel_rfl, RO.opens_int Tryd.underlying3⟩ ⟨rfl, by kernel_rfl, RO.opens_slice (d := Kd.int .u8) Tryd.underlying22 (by kernel_rfl) (RO.opens_int Tryd.underlying5)⟩)) fuel _ _ hf
    simp only [Value.cells, List.cons.injEq, Value.slice.injEq, and_true] at he
    obtain ⟨rfl, rfl, rfl⟩ := he
    exact ⟨l, rfl, hC, hQ, hcap⟩
  subst hl0
  obtain ⟨A1, len1, c1, rfl⟩ := okWide_slice Tryd.underlying31 (hval 1 31 v1 rfl rfl)
  have k1 := h1
  have lt1 : ∀ x ∈ p1, x.block < W.heap.size := by obtain ⟨m, hm⟩ := k1; exact DataW.trod_lt m _ _ _ hm
  obtain ⟨l1, hl1, hC1, hQ1, hcap1⟩ : ∃ l, len1 = List.length l ∧ (kIt).C W A1 l.length l ∧ (∀ p ∈ l, (fun x : It => (Lit.int .i64 x.k).wf = true ∧ (Lit.int .i64 x.a).wf = true ∧ (Lit.int .i64 x.b).wf = true ∧ ∀ p ∈ x.l, (Lit.int .u8 p).wf = true) p) ∧ l.length ≤ c1 := by
    obtain ⟨fuel, hf⟩ := h1
    obtain ⟨l, ⟨A, c, he, hcap, hC⟩, hQ⟩ := RO.opens_slice (d := kIt) Tryd.underlying31 (by kernel_rfl) (RO.opens_iso (fun x : It => (x.k, x.a, x.b, x.l)) (fun y => ⟨y.1, y.2.1, y.2.2.1, y.2.2.2⟩) (fun _ => rfl) (RO.opens_struct4 (d0 := Kd.int .i64) (d1 := Kd.int .i64) (d2 := Kd.int .i64) (d3 := Kd.slice 5 (Kd.int .u8)) (Q0 := (fun p => (Lit.int .i64 p).wf = true)) (Q1 := (fun p => (Lit.int .i64 p).wf = true)) (Q2 := (fun p => (Lit.int .i64 p).wf = true)) (Q3 := fun l => ∀ p ∈ l, (Lit.int .u8 p).wf = true) Tryd.underlying25 (by kernel_rfl) ⟨rfl, by kernel_rfl, RO.opens_int Tryd.underlying3⟩ ⟨rfl, by kernel_rfl, RO.opens_int Tryd.underlying3⟩ ⟨rfl, by kernel_rfl, RO.opens_int Tryd.underlying3⟩ ⟨rfl, by kernel_rfl, RO.opens_slice (d := Kd.int .u8) Tryd.underlying22 (by kernel_rfl) (RO.opens_int Tryd.underlying5)⟩)) fuel _ _ hf
    simp only [Value.cells, List.cons.injEq, Value.slice.injEq, and_true] at he
    obtain ⟨rfl, rfl, rfl⟩ := he
    exact ⟨l, rfl, hC, hQ, hcap⟩
  subst hl1
  obtain ⟨A2, len2, c2, rfl⟩ := okWide_slice Tryd.underlying22 (hval 2 22 v2 rfl rfl)
  have k2 := h2
  have lt2 : ∀ x ∈ p2, x.block < W.heap.size := by obtain ⟨m, hm⟩ := k2; exact DataW.trod_lt m _ _ _ hm
  obtain ⟨l2, hl2, hC2, hQ2, hcap2⟩ : ∃ l, len2 = List.length l ∧ (Kd.int .u8).C W A2 l.length l ∧ (∀ p ∈ l, (fun p => (Lit.int .u8 p).wf = true) p) ∧ l.length ≤ c2 := by
    obtain ⟨fuel, hf⟩ := h2
    obtain ⟨l, ⟨A, c, he, hcap, hC⟩, hQ⟩ := RO.opens_slice (d := Kd.int .u8) Tryd.underlying22 (by kernel_rfl) (RO.opens_int Tryd.underlying5) fuel _ _ hf
    simp only [Value.cells, List.cons.injEq, Value.slice.injEq, and_true] at he
    obtain ⟨rfl, rfl, rfl⟩ := he
    exact ⟨l, rfl, hC, hQ, hcap⟩
  subst hl2
  clear hA0 hval0
  refine (Dr.tells_law A0 A1 A2 c0 c1 c2 l0 l1 l2 W hC0 hcap0 (Dr.wf_its hQ0) hC1 hcap1 (Dr.wf_its hQ1) hC2 hcap2 (Dr.wf_octs hQ2)).mono fun e W' ⟨he, bel⟩ => ?_
  subst he
  exact ⟨_, rfl, _, _, _, [], _, [], hW', trodAll_mk1 (shut_bool Tryd.underlying4 _), (trodAll_cons_mk (Below.trod laidOut (by kernel_rfl) (of_decide_eq_true (by kernel_rfl)) k0 bel lt0) (trodAll_cons_mk (Below.trod laidOut (by kernel_rfl) (of_decide_eq_true (by kernel_rfl)) k1 bel lt1) (trodAll_cons_mk (Below.trod laidOut (by kernel_rfl) (of_decide_eq_true (by kernel_rfl)) k2 bel lt2) trodAll_mk0))), rfl, bel.frame _, fun h => by cases h⟩
theorem over : Rows.itemTellsRow.holds Tryd.pinned (OpenSpec.ofChange Rows.itemTellsSpec) :=
  OpenClaim.holds_of_wide 7 Tryd.f7 rfl rfl rfl rfl rfl rfl rfl ⟨rfl, rfl, rfl, rfl, rfl⟩ rfl rfl rfl rfl rfl (by kernel_rfl) Tryd.func7 (by kernel_rfl)
    (of_decide_eq_true (by kernel_rfl)) (by unfold Func.isWrapper; first | (rw [if_pos (by decide +kernel)]; kernel_rfl) | (rw [if_neg (by decide +kernel)]; exact ⟨rfl, rfl⟩))
    (fun os started H enc _ => lifted os started H enc)
theorem carded : Rows.ItemTellsCardSaid :=
  Claim7.holds_tied_plain_at .later [] [.data, .pinned] true (true, "ad106a8fd1a7b2e0a29e7c3a5d07689af0f15ff704f61e2c37cad24b5a24582d") false over (fun _ h => by cases h) (by kernel_rfl) (fun _ h => by cases h) itemTells_row_tie rfl ⟨rfl, rfl⟩ (by kernel_rfl) rfl
    (fun f fn hf hfn => by
      obtain rfl : f = 7 := Option.some.inj ((show Tryd.prog.funcNamed "linnet/linnetlaw03.ItemTells" = some 7 by kernel_rfl).symm.trans hf) |>.symm
      obtain rfl : fn = Tryd.f7 := (Option.some.inj (Tryd.func7.symm.trans hfn)).symm
      exact ⟨by kernel_rfl, fun j t ht => by
        rw [Tryd.params7] at ht
        have hm : t ∈ [31, 31, 22] := by simpa using Array.mem_of_getElem? ht
        have hall : ([31, 31, 22].all fun u => !Tryd.prog.wantsStandIn u) = true := by kernel_rfl
        exact (show Tryd.prog.wantsStandIn t = false by simpa using List.all_eq_true.1 hall t hm)⟩)
    (by kernel_rfl)
end Go.Proofs.YtkbblbgiheclfaaDoor.itemTells
namespace Go.Proofs.YtkbblbgiheclfaaDoor
/-- The card, under a short name, for the claim. -/
theorem itemTells_holds : Rows.ItemTellsCardSaid := itemTells.carded
#print axioms itemTells_holds
end Go.Proofs.YtkbblbgiheclfaaDoor
