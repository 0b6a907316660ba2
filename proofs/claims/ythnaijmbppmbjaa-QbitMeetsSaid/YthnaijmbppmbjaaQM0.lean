/- QbitMeets, the plain law: two sides and what is under way between them are in one of some fifty places, however it goes on. -/
import Derived.Test.YthnaijmbppmbjaaQC
namespace Go.Proofs.Ythnaijmbppmbjaa
open Go.RowKit

/-- A place: who may, where both sides are, what is under way to each of them, and how much may still be said unasked. -/
structure Pl where
  a : Bool
  b : Bool
  q0 : Int
  q1 : Int
  t0 : List Bool
  t1 : List Bool
  ph : Nat
deriving DecidableEq

def und (t : List Bool) (s : Int) : List Bool := if s = 0 then t else t ++ [s == 1]
def said (s : Int) : Nat := if s = 0 then 0 else 1
def okd (e : Int) : Nat := if e = 0 then 1 else 0

def places : List Pl := [
  ⟨false, false, 0, 0, [], [], 0⟩,
  ⟨false, true, 0, 0, [], [], 0⟩,
  ⟨false, true, 0, 4, [], [false], 0⟩,
  ⟨false, true, 0, 4, [true], [], 1⟩,
  ⟨false, true, 0, 5, [], [false], 0⟩,
  ⟨false, true, 0, 5, [true], [], 1⟩,
  ⟨true, false, 0, 0, [], [], 0⟩,
  ⟨true, false, 4, 0, [], [true], 1⟩,
  ⟨true, false, 4, 0, [false], [], 0⟩,
  ⟨true, false, 5, 0, [], [true], 1⟩,
  ⟨true, false, 5, 0, [false], [], 0⟩,
  ⟨true, true, 0, 0, [], [], 0⟩,
  ⟨true, true, 0, 2, [], [false], 0⟩,
  ⟨true, true, 0, 3, [], [false], 2⟩,
  ⟨true, true, 0, 4, [true], [], 1⟩,
  ⟨true, true, 0, 5, [true], [], 3⟩,
  ⟨true, true, 1, 1, [], [], 0⟩,
  ⟨true, true, 1, 2, [false], [], 1⟩,
  ⟨true, true, 1, 3, [false], [], 3⟩,
  ⟨true, true, 1, 4, [], [true], 0⟩,
  ⟨true, true, 1, 5, [], [true], 2⟩,
  ⟨true, true, 2, 0, [false], [], 0⟩,
  ⟨true, true, 2, 1, [], [false], 1⟩,
  ⟨true, true, 2, 2, [false], [false], 0⟩,
  ⟨true, true, 2, 3, [false], [false], 2⟩,
  ⟨true, true, 2, 4, [], [true, false], 1⟩,
  ⟨true, true, 2, 4, [false, true], [], 1⟩,
  ⟨true, true, 2, 5, [], [true, false], 1⟩,
  ⟨true, true, 2, 5, [false, true], [], 3⟩,
  ⟨true, true, 3, 0, [false], [], 2⟩,
  ⟨true, true, 3, 1, [], [false], 3⟩,
  ⟨true, true, 3, 2, [false], [false], 2⟩,
  ⟨true, true, 3, 3, [false], [false], 2⟩,
  ⟨true, true, 3, 4, [], [true, false], 3⟩,
  ⟨true, true, 3, 4, [false, true], [], 1⟩,
  ⟨true, true, 3, 5, [], [true, false], 3⟩,
  ⟨true, true, 3, 5, [false, true], [], 3⟩,
  ⟨true, true, 4, 0, [], [true], 1⟩,
  ⟨true, true, 4, 1, [true], [], 0⟩,
  ⟨true, true, 4, 2, [], [false, true], 1⟩,
  ⟨true, true, 4, 2, [true, false], [], 1⟩,
  ⟨true, true, 4, 3, [], [false, true], 1⟩,
  ⟨true, true, 4, 3, [true, false], [], 3⟩,
  ⟨true, true, 4, 4, [true], [true], 0⟩,
  ⟨true, true, 4, 5, [true], [true], 2⟩,
  ⟨true, true, 5, 0, [], [true], 3⟩,
  ⟨true, true, 5, 1, [true], [], 2⟩,
  ⟨true, true, 5, 2, [], [false, true], 3⟩,
  ⟨true, true, 5, 2, [true, false], [], 1⟩,
  ⟨true, true, 5, 3, [], [false, true], 3⟩,
  ⟨true, true, 5, 3, [true, false], [], 3⟩,
  ⟨true, true, 5, 4, [true], [true], 2⟩,
  ⟨true, true, 5, 5, [true], [true], 2⟩]

def inPl (a b : Bool) (q0 q1 : Int) (t0 t1 : List Bool) (bound : Nat) : Bool := places.any fun r => r.a == a && r.b == b && r.q0 == q0 && r.q1 == q1 && r.t0 == t0 && r.t1 == t1 && decide (r.ph ≤ bound)
theorem inPl_mem {a b : Bool} {q0 q1 : Int} {t0 t1 : List Bool} {n : Nat} (h : inPl a b q0 q1 t0 t1 n = true) : ∃ ph, ph ≤ n ∧ (⟨a, b, q0, q1, t0, t1, ph⟩ : Pl) ∈ places := by
  unfold inPl at h
  rw [List.any_eq_true] at h
  obtain ⟨r, hr, h⟩ := h
  simp only [Bool.and_eq_true, beq_iff_eq, decide_eq_true_eq] at h
  obtain ⟨⟨⟨⟨⟨⟨rfl, rfl⟩, rfl⟩, rfl⟩, rfl⟩, rfl⟩, hp⟩ := h
  exact ⟨r.ph, hp, hr⟩

def chk (r : Pl) : Bool :=
  decide (0 ≤ r.q0 ∧ r.q0 < 6 ∧ 0 ≤ r.q1 ∧ r.q1 < 6 ∧ r.t0.length + r.t1.length ≤ 2 ∧ r.ph ≤ 3)
  && (match r.t0 with | [] => true | y :: t => let x := gotF r.q0 y r.a; x.2.2 == 0 && decide (said x.2.1 ≤ r.ph) && inPl r.a r.b x.1 r.q1 t (und r.t1 x.2.1) (r.ph - said x.2.1))
  && (match r.t1 with | [] => true | y :: t => let x := gotF r.q1 y r.b; x.2.2 == 0 && decide (said x.2.1 ≤ r.ph) && inPl r.a r.b r.q0 x.1 (und r.t0 x.2.1) t (r.ph - said x.2.1))
  && [true, false].all (fun on => !(r.a || !on) || (let x := askF r.q0 on; decide (said x.2.1 ≤ r.ph + 2 * okd x.2.2) && inPl r.a r.b x.1 r.q1 r.t0 (und r.t1 x.2.1) (r.ph + 2 * okd x.2.2 - said x.2.1)))
  && [true, false].all (fun on => !(r.b || !on) || (let x := askF r.q1 on; decide (said x.2.1 ≤ r.ph + 2 * okd x.2.2) && inPl r.a r.b r.q0 x.1 (und r.t0 x.2.1) r.t1 (r.ph + 2 * okd x.2.2 - said x.2.1)))
  && (!(r.t0.isEmpty && r.t1.isEmpty) || ((r.q0 == r.q1) && (r.q0 == 0 || (r.q0 == 1 && r.a && r.b))))

set_option maxRecDepth 100000 in
theorem chk_all : places.all chk = true := by decide +kernel
theorem begins : ∀ a b : Bool, (⟨a, b, 0, 0, [], [], 0⟩ : Pl) ∈ places := by decide +kernel

section
variable {a b : Bool} {q0 q1 : Int} {t0 t1 : List Bool} {ph : Nat}
theorem chk_of (h : (⟨a, b, q0, q1, t0, t1, ph⟩ : Pl) ∈ places) : chk ⟨a, b, q0, q1, t0, t1, ph⟩ = true := List.all_eq_true.1 chk_all _ h
theorem pl_bounds (h : (⟨a, b, q0, q1, t0, t1, ph⟩ : Pl) ∈ places) : 0 ≤ q0 ∧ q0 < 6 ∧ 0 ≤ q1 ∧ q1 < 6 ∧ t0.length + t1.length ≤ 2 ∧ ph ≤ 3 := by
  have := chk_of h
  simp only [chk, Bool.and_eq_true, decide_eq_true_eq] at this
  exact this.1.1.1.1.1
theorem pl_came0 {y : Bool} {t : List Bool} (h : (⟨a, b, q0, q1, y :: t, t1, ph⟩ : Pl) ∈ places) : ∃ p s, gotF q0 y a = (p, s, 0) ∧ ∃ ph', ph' + said s ≤ ph ∧ (⟨a, b, p, q1, t, und t1 s, ph'⟩ : Pl) ∈ places := by
  have := chk_of h
  simp only [chk, Bool.and_eq_true, decide_eq_true_eq, beq_iff_eq] at this
  obtain ⟨⟨h1, h2⟩, h3⟩ := this.1.1.1.1.2
  obtain ⟨ph', hp, hm⟩ := inPl_mem h3
  exact ⟨_, _, by rw [← h1], ph', by omega, hm⟩
theorem pl_came1 {y : Bool} {t : List Bool} (h : (⟨a, b, q0, q1, t0, y :: t, ph⟩ : Pl) ∈ places) : ∃ p s, gotF q1 y b = (p, s, 0) ∧ ∃ ph', ph' + said s ≤ ph ∧ (⟨a, b, q0, p, und t0 s, t, ph'⟩ : Pl) ∈ places := by
  have := chk_of h
  simp only [chk, Bool.and_eq_true, decide_eq_true_eq, beq_iff_eq] at this
  obtain ⟨⟨h1, h2⟩, h3⟩ := this.1.1.1.2
  obtain ⟨ph', hp, hm⟩ := inPl_mem h3
  exact ⟨_, _, by rw [← h1], ph', by omega, hm⟩
theorem pl_ask0 (h : (⟨a, b, q0, q1, t0, t1, ph⟩ : Pl) ∈ places) (on : Bool) (hon : (a || !on) = true) : ∃ p s e, askF q0 on = (p, s, e) ∧ ∃ ph', ph' + said s ≤ ph + 2 * okd e ∧ (⟨a, b, p, q1, t0, und t1 s, ph'⟩ : Pl) ∈ places := by
  have := chk_of h
  simp only [chk, Bool.and_eq_true] at this
  have h1 := List.all_eq_true.1 this.1.1.2 on (by cases on <;> simp)
  simp only [hon, Bool.not_true, Bool.false_or, Bool.and_eq_true, decide_eq_true_eq] at h1
  obtain ⟨ph', hp, hm⟩ := inPl_mem h1.2
  exact ⟨(askF q0 on).1, (askF q0 on).2.1, (askF q0 on).2.2, rfl, ph', by omega, hm⟩
theorem pl_ask1 (h : (⟨a, b, q0, q1, t0, t1, ph⟩ : Pl) ∈ places) (on : Bool) (hon : (b || !on) = true) : ∃ p s e, askF q1 on = (p, s, e) ∧ ∃ ph', ph' + said s ≤ ph + 2 * okd e ∧ (⟨a, b, q0, p, und t0 s, t1, ph'⟩ : Pl) ∈ places := by
  have := chk_of h
  simp only [chk, Bool.and_eq_true] at this
  have h1 := List.all_eq_true.1 this.1.2 on (by cases on <;> simp)
  simp only [hon, Bool.not_true, Bool.false_or, Bool.and_eq_true, decide_eq_true_eq] at h1
  obtain ⟨ph', hp, hm⟩ := inPl_mem h1.2
  exact ⟨(askF q1 on).1, (askF q1 on).2.1, (askF q1 on).2.2, rfl, ph', by omega, hm⟩
theorem pl_rest (h : (⟨a, b, q0, q1, [], [], ph⟩ : Pl) ∈ places) : q1 = q0 ∧ (q0 = 0 ∨ q0 = 1 ∧ a = true ∧ b = true) := by
  have := chk_of h
  simp only [chk, Bool.and_eq_true] at this
  have h := this.2
  simp only [List.isEmpty_nil, Bool.and_self, Bool.not_true, Bool.false_or, Bool.and_eq_true, Bool.or_eq_true, beq_iff_eq] at h
  obtain ⟨h1, h2⟩ := h
  exact ⟨h1.symm, h2.imp id (fun h => ⟨h.1.1, h.1.2, h.2⟩)⟩
end
end Go.Proofs.Ythnaijmbppmbjaa
