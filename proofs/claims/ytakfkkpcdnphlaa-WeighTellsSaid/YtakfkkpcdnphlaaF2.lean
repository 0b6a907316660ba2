/- Floats, plain: what a word counts. -/
import Derived.Test.YtakfkkpcdnphlaaF1
namespace Go.Proofs.Ytakfkkpcdnphlaa
open Ieee

/-- What a weight counts. -/
def cnt (x : Nat) : Nat := if x ≤ inf then x else 0
theorem cnt_le (x : Nat) : cnt x ≤ inf := by unfold cnt; split <;> omega
theorem cnt_cnt (x : Nat) : cnt (cnt x) = cnt x := by
  have := cnt_le x
  show (if cnt x ≤ inf then cnt x else 0) = _
  rw [if_pos this]
theorem cnt_of_le {x : Nat} (h : x ≤ inf) : cnt x = x := by unfold cnt; rw [if_pos h]

theorem inf_sgn : inf + bin = sgn := by rfl

/-- A word's sign. -/
theorem read_nan (x : Nat) (h1 : inf < x) (h2 : x < sgn) : double.read x = .nan false (x - inf) := by
  unfold Format.read
  have es : double.signWeight = sgn := rfl
  have eb : double.binade = bin := rfl
  have ei : double.infRung = inf := rfl
  simp only [es, eb, ei]
  rw [Nat.div_eq_of_lt h2, Nat.mod_eq_of_lt h2]
  have hb : bin ≤ inf := by rw [inf_bin]; have := bin_pos; omega
  rw [if_neg (by omega), if_neg (by omega), if_neg (by omega)]
  rfl
theorem read_neg (x : Nat) (h1 : sgn ≤ x) (h2 : x < 2 * sgn) : ∃ y, y = x - sgn ∧ (y < inf → double.read x = .number true (mag y) (-1074 + (up y : Int))) ∧ (y = inf → double.read x = .infinity true) ∧ (inf < y → ∃ f, double.read x = .nan true f) := by
  refine ⟨x - sgn, rfl, ?_, ?_, ?_⟩
  all_goals
    intro hy
    unfold Format.read
    have es : double.signWeight = sgn := rfl
    have eb : double.binade = bin := rfl
    have ei : double.infRung = inf := rfl
    have e1 : x / sgn = 1 := by
      rw [Nat.div_eq_of_lt_le]
      · omega
      · omega
    have e2 : x % sgn = x - sgn := by
      rw [Nat.mod_eq_sub_mod h1, Nat.mod_eq_of_lt (by omega)]
    have hb : bin ≤ inf := by rw [inf_bin]; have := bin_pos; omega
    simp only [es, eb, ei, e1, e2, least_]
  · unfold mag up
    by_cases hyb : x - sgn < bin
    · simp only [hyb, if_true]
      rfl
    · simp only [hyb, hy, if_false, if_true]
      rfl
  · rw [if_neg (by omega), if_neg (by omega), if_pos hy]
    rfl
  · rw [if_neg (by omega), if_neg (by omega), if_neg (by omega)]
    exact ⟨_, rfl⟩

theorem signed_true (m u : Nat) : signed true m u = -((m * 2 ^ u : Nat) : Int) := by
  unfold signed
  simp [Nat.shiftLeft_eq]

/-- The tests that Count makes, by what a word is. -/
theorem order_self (x : Nat) (hx : x < 2 * sgn) : (double.order x x = some .eq) ∨ (double.order x x = none ∧ cnt x = 0) := by
  by_cases h1 : x ≤ inf
  · left
    rw [order_nn h1 h1, compare_nat, if_neg (by omega), if_pos rfl]
  · by_cases h2 : x < sgn
    · right
      unfold Format.order
      rw [read_nan x (by omega) h2]
      exact ⟨rfl, by unfold cnt; rw [if_neg h1]⟩
    · obtain ⟨y, hy, a, b, c⟩ := read_neg x (by omega) hx
      unfold Format.order
      by_cases hy1 : y < inf
      · left
        rw [a hy1]
        unfold Datum.order
        simp only [signed_true]
        congr 1
        show compareOfLessAndEq _ _ = _
        unfold compareOfLessAndEq
        rw [if_neg (by omega), if_pos rfl]
      · by_cases hy2 : y = inf
        · left
          rw [b hy2]
          rfl
        · right
          obtain ⟨f, hf⟩ := c (by omega)
          rw [hf]
          exact ⟨rfl, by unfold cnt; rw [if_neg h1]⟩

theorem order_zero (x : Nat) (hx : x < 2 * sgn) : (cnt x = 0 ∧ (double.order x 0 = some .lt ∨ double.order x 0 = some .eq ∨ double.order x 0 = none)) ∨ (0 < x ∧ x ≤ inf ∧ cnt x = x ∧ double.order x 0 = some .gt) := by
  by_cases h1 : x ≤ inf
  · by_cases h0 : x = 0
    · left
      subst h0
      refine ⟨by unfold cnt; rw [if_pos h1], .inr (.inl ?_)⟩
      rw [order_nn h1 h1, compare_nat, if_neg (by omega), if_pos rfl]
    · right
      refine ⟨by omega, h1, cnt_of_le h1, ?_⟩
      rw [order_nn h1 (Nat.zero_le _), compare_nat, if_neg (by omega), if_neg h0]
  · left
    refine ⟨by unfold cnt; rw [if_neg h1], ?_⟩
    unfold Format.order
    rw [read_zero]
    by_cases h2 : x < sgn
    · rw [read_nan x (by omega) h2]
      exact .inr (.inr rfl)
    · obtain ⟨y, hy, a, b, c⟩ := read_neg x (by omega) hx
      by_cases hy1 : y < inf
      · rw [a hy1]
        unfold Datum.order
        simp only [signed_true, signed_false]
        generalize (mag y * 2 ^ ((-1074 : Int) + up y - min ((-1074 : Int) + up y) (-1074)).toNat : Nat) = k
        rw [Nat.zero_mul]
        have hk : compare (-(k : Int)) (((0 : Nat) : Int)) = if 0 < k then .lt else .eq := by
          show compareOfLessAndEq _ _ = _
          unfold compareOfLessAndEq
          by_cases h : 0 < k
          · rw [if_pos (by omega), if_pos h]
          · rw [if_neg (by omega), if_neg h, if_pos (by omega)]
        rw [hk]
        split
        · exact .inl rfl
        · exact .inr (.inl rfl)
      · by_cases hy2 : y = inf
        · rw [b hy2]
          exact .inl rfl
        · obtain ⟨f, hf⟩ := c (by omega)
          rw [hf]
          exact .inr (.inr rfl)

/-- Is a word infinity (of no sign)? -/
def maxf : Nat := 9218868437227405311
theorem order_max (x : Nat) (hx : x < 2 * sgn) : (double.order x maxf == some .gt) = decide (x = inf) := by
  have hm : maxf ≤ inf := by unfold maxf; rw [inf_def]; omega
  have hmi : maxf + 1 = inf := by rfl
  by_cases h1 : x ≤ inf
  · rw [order_nn h1 hm, compare_nat]
    by_cases h : x = inf
    · subst h
      rw [if_neg (by omega), if_neg (by omega)]
      decide
    · rw [decide_eq_false h]
      split
      · rfl
      · split
        · rfl
        · omega
  · rw [decide_eq_false (by omega)]
    have hrm : double.read maxf = .number false (mag maxf) (-1074 + (up maxf : Int)) := read_fin maxf (by omega)
    unfold Format.order
    rw [hrm]
    by_cases h2 : x < sgn
    · rw [read_nan x (by omega) h2]
      rfl
    · obtain ⟨y, hy, a, b, c⟩ := read_neg x (by omega) hx
      by_cases hy1 : y < inf
      · rw [a hy1]
        unfold Datum.order
        simp only [signed_true, signed_false]
        generalize (mag y * 2 ^ _ : Nat) = k
        generalize (mag maxf * 2 ^ _ : Nat) = j
        have hk : compare (-(k : Int)) ((j : Nat) : Int) ≠ .gt := by
          show compareOfLessAndEq _ _ ≠ _
          unfold compareOfLessAndEq
          split
          · simp
          · split
            · simp
            · omega
        cases hc : compare (-(k : Int)) ((j : Nat) : Int) <;> first | rfl | exact absurd hc hk
      · by_cases hy2 : y = inf
        · rw [b hy2]
          rfl
        · obtain ⟨f, hf⟩ := c (by omega)
          rw [hf]
          rfl
end Go.Proofs.Ytakfkkpcdnphlaa
