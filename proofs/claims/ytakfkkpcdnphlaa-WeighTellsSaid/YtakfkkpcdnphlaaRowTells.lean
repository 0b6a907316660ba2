/- The row of the law WeighTells: for every input it returns true, and its arguments read as they did. -/
import Derived.Test.YtakfkkpcdnphlaaRows
import Derived.Test.YtakfkkpcdnphlaaVE
import Derived.Test.YtakfkkpcdnphlaaRO
import Derived.WalkKit
import Derived.ProofKit
import Derived.OpenShut
import Derived.ShutString
import Derived.ChangeOld
import Derived.Below
import Derived.SizedLaws
import Derived.Lib.SmallJoins
import Derived.Laws.Cover2
namespace Go.Proofs.Ytakfkkpcdnphlaa.weighTells
open Go.ChangeShapes Go.WideShapes Go.ChangeAt Go.RowKit Go.Proofs.YtakfkkpcdnphlaaW.PrintWords
theorem wf_lt {x : Nat} (h : (Lit.float .f64 x).wf = true) : x < 2 * sgn := by
  simp only [Lit.wf, decide_eq_true_eq] at h
  rw [sgn_def]
  omega
theorem wf_oct {x : Int} (h : (Lit.int .u8 x).wf = true) : 0 ≤ x ∧ x ≤ 255 := by
  simp [Lit.wf, IntKind.min, IntKind.max, IntKind.signed, IntKind.bits] at h
  omega
theorem own : ownKnob Try.prog.godebug = none := by kernel_rfl
theorem laidOut : laidOutB Try.prog = true := by kernel_rfl
set_option maxRecDepth 100000 in
theorem lifted (os : Os) (started : os.Started) (H : Type) (enc : TypeId × Value → H) :
    ReturnsInHanded {} Try.checked os 8 .any (Rows.weighTellsSpec.pre6 enc Try.prog Try.f8 Rows.weighTellsRow.domain false) (Rows.weighTellsSpec.post enc Try.prog Try.f8 false true false false) := by
  refine returnsInHanded_of_change (C := Try.checked) own started (by kernel_rfl) Try.func8
    (ChangeSpec.witness6 (enc := enc) (C := Try.checked) false ⟨#[], #[.slice none 0 0, .int .u64 0, .slice none 0 0], []⟩ 8 (by kernel_rfl) (by kernel_rfl) (by kernel_rfl) (by kernel_rfl)) ?_
  intro W base args ds gs before hval0 hW _hcnd _
  have hval : ∀ (j : Nat) t v, Try.f8.params[j]? = some t → args[j]? = some v → Value.okWide Try.prog W .any base t v := hval0
  have hW' := hW
  obtain ⟨p, q, hA0, hV, rfl, _hfz, _hnd⟩ := hW
  have hA : DataW.TrodAll enc Try.prog W 0 (fun _ => true) true Try.f8.params.toList args.toList ds p := hA0
  rw [Try.params8] at hA hval
  obtain ⟨v0, vs0, d0, ds0, p0, q0, hargs, rfl, rfl, h0, r0⟩ := trodAll_cons hA
  obtain ⟨v1, vs1, d1, ds1, p1, q1, rfl, rfl, rfl, h1, r1⟩ := trodAll_cons r0
  obtain ⟨v2, vs2, d2, ds2, p2, q2, rfl, rfl, rfl, h2, r2⟩ := trodAll_cons r1
  obtain ⟨rfl, rfl, rfl⟩ := trodAll_nil r2
  obtain rfl : args = #[v0, v1, v2] := by cases args; simp_all
  obtain ⟨rfl, rfl⟩ := trodVars_none hV
  obtain ⟨A0, len0, c0, rfl⟩ := okWide_slice Try.underlying22 (hval 0 22 v0 rfl rfl)
  have k0 := h0
  have lt0 : ∀ x ∈ p0, x.block < W.heap.size := by obtain ⟨m, hm⟩ := k0; exact DataW.trod_lt m _ _ _ hm
  obtain ⟨l0, hl0, hC0, hQ0, hcap0⟩ : ∃ l, len0 = List.length l ∧ (kF).C W A0 l.length l ∧ (∀ p ∈ l, (fun p => (Lit.float .f64 p).wf = true) p) ∧ l.length ≤ c0 := by
    obtain ⟨fuel, hf⟩ := h0
    obtain ⟨l, ⟨A, c, he, hcap, hC⟩, hQ⟩ := RO.opens_slice (d := kF) Try.underlying22 (by kernel_rfl) (RO.opens_float Try.underlying28) fuel _ _ hf
    simp only [Value.cells, List.cons.injEq, Value.slice.injEq, and_true] at he
    obtain ⟨rfl, rfl, rfl⟩ := he
    exact ⟨l, rfl, hC, hQ, hcap⟩
  subst hl0
  obtain ⟨a1, rfl, rfl, rfl, w1⟩ := open_int Try.underlying23 (hval 1 23 v1 rfl rfl) h1
  obtain ⟨hn0_1, hn1_1⟩ : 0 ≤ a1 ∧ a1 < 18446744073709551616 := by simp [Lit.wf, IntKind.min, IntKind.max, IntKind.signed, IntKind.bits] at w1; omega
  obtain ⟨n1, rfl⟩ := Int.eq_ofNat_of_zero_le hn0_1
  have hn1 : n1 < 2 ^ 64 := by omega
  obtain ⟨A2, len2, c2, rfl⟩ := okWide_slice Try.underlying41 (hval 2 41 v2 rfl rfl)
  have k2 := h2
  have lt2 : ∀ x ∈ p2, x.block < W.heap.size := by obtain ⟨m, hm⟩ := k2; exact DataW.trod_lt m _ _ _ hm
  obtain ⟨l2, hl2, hC2, hQ2, hcap2⟩ : ∃ l, len2 = List.length l ∧ (Kd.int .u8).C W A2 l.length l ∧ (∀ p ∈ l, (fun p => (Lit.int .u8 p).wf = true) p) ∧ l.length ≤ c2 := by
    obtain ⟨fuel, hf⟩ := h2
    obtain ⟨l, ⟨A, c, he, hcap, hC⟩, hQ⟩ := RO.opens_slice (d := Kd.int .u8) Try.underlying41 (by kernel_rfl) (RO.opens_int Try.underlying5) fuel _ _ hf
    simp only [Value.cells, List.cons.injEq, Value.slice.injEq, and_true] at he
    obtain ⟨rfl, rfl, rfl⟩ := he
    exact ⟨l, rfl, hC, hQ, hcap⟩
  subst hl2
  clear hA0 hval0
  refine (tells_law A0 A2 c0 c2 l0 n1 l2 W hC0 hcap0 hC0.2.1 (fun x hx => wf_lt (hQ0 x hx)) hn1 hC2 hcap2 hC2.2.1 (fun x hx => wf_oct (hQ2 x hx))).mono fun e W' ⟨he, bel⟩ => ?_
  subst he
  exact ⟨_, rfl, _, _, _, [], _, [], hW', trodAll_mk1 (shut_bool Try.underlying4 _), (trodAll_cons_mk (Below.trod laidOut (by kernel_rfl) (of_decide_eq_true (by kernel_rfl)) k0 bel lt0) (trodAll_cons_mk (shut_int Try.underlying23 w1) (trodAll_cons_mk (Below.trod laidOut (by kernel_rfl) (of_decide_eq_true (by kernel_rfl)) k2 bel lt2) trodAll_mk0))), rfl, bel.frame _, fun h => by cases h⟩
theorem over : Rows.weighTellsRow.holds Try.pinned (OpenSpec.ofChange Rows.weighTellsSpec) :=
  OpenClaim.holds_of_wide 8 Try.f8 rfl rfl rfl rfl rfl rfl rfl ⟨rfl, rfl, rfl, rfl, rfl⟩ rfl rfl rfl rfl rfl (by kernel_rfl) Try.func8 (by kernel_rfl)
    (of_decide_eq_true (by kernel_rfl)) (by unfold Func.isWrapper; first | (rw [if_pos (by decide +kernel)]; kernel_rfl) | (rw [if_neg (by decide +kernel)]; exact ⟨rfl, rfl⟩))
    (fun os started H enc _ => lifted os started H enc)
theorem proved : Rows.WeighTellsSaid := over
end Go.Proofs.Ytakfkkpcdnphlaa.weighTells
namespace Go.Proofs.Ytakfkkpcdnphlaa
/-- The row, under a short name, for the claim. -/
theorem weighTells_holds : Rows.WeighTellsSaid := weighTells.proved
#print axioms weighTells_holds
end Go.Proofs.Ytakfkkpcdnphlaa
