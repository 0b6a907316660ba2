/- A weight times 2.0: what counts is doubled, what counts nothing counts nothing. -/
import Derived.Test.YtakfkkpcdnphlaaF9
namespace Go.Proofs.Ytakfkkpcdnphlaa
open Ieee

def two : Nat := 4611686018427387904
theorem two_fin : two < inf := by decide +kernel
theorem read_two : double.read two = .number false bin (-51) := by decide +kernel
theorem V_two : V two = B 1075 := by decide +kernel

theorem near_neg (n : Nat) (p : Int) : sgn ≤ double.nearest true n p ∧ double.nearest true n p < 2 * sgn := by
  have hs : double.signWeight = sgn := rfl
  have hi : double.infRung = inf := rfl
  have hlt : inf < sgn := by decide +kernel
  unfold Format.nearest
  split
  · unfold Format.word
    rw [if_pos rfl, hs]
    omega
  · unfold Format.word
    simp only [if_true, hs, hi]
    omega

theorem mul_big {x : Nat} (h1 : bin ≤ x) (h2 : x + bin < inf) : double.mul two x = some (x + bin) := by
  rw [mul_fin two_fin (by omega)]
  unfold fmul
  rw [V_two]
  have h0 : B 1075 = B 1 * B 1074 := B_add 1 1074
  have h1' : B 1 = 2 := rfl
  have e1 : B 1075 * V x = V x * 2 * B 1074 := by rw [h0, h1', Nat.mul_comm, Nat.mul_assoc]
  rw [e1, rnd_up (V x * 2) 1074 (-1074) (-2148) (by omega), ← V_dbl h1, rnd_V _ h2]

theorem mul_none {x : Nat} (hx : x < 2 * sgn) (hc : cnt x = 0) : double.mul two x = none ∨ ∃ y, double.mul two x = some y ∧ cnt y = 0 ∧ y < 2 * sgn := by
  have hlt : inf < sgn := by decide +kernel
  by_cases h1 : x ≤ inf
  · rw [cnt_of_le h1] at hc
    subst hc
    exact .inr ⟨0, by decide +kernel, rfl, by decide +kernel⟩
  · by_cases h2 : x < sgn
    · left
      unfold Format.mul
      rw [read_two, read_nan x (by omega) h2]
      rfl
    · obtain ⟨y, hy, a, b, c⟩ := read_neg x (by omega) hx
      have key : ∀ z, sgn ≤ z → z < 2 * sgn → cnt z = 0 ∧ z < 2 * sgn := fun z h3 h4 => ⟨by unfold cnt; rw [if_neg (by omega)], h4⟩
      by_cases hy1 : y < inf
      · right
        refine ⟨double.nearest true (bin * mag y) (-51 + (-1074 + (up y : Int))), ?_, key _ (near_neg _ _).1 (near_neg _ _).2⟩
        unfold Format.mul
        rw [read_two, a hy1]
        rfl
      · by_cases hy2 : y = inf
        · right
          refine ⟨sgn + inf, ?_, key _ (by omega) (by omega)⟩
          unfold Format.mul
          rw [read_two, b hy2]
          decide +kernel
        · left
          obtain ⟨f, hf⟩ := c (by omega)
          unfold Format.mul
          rw [read_two, hf]
          rfl

/-- 2.0 times x, where x may be doubled. -/
theorem mul_two {x : Nat} (hx : x < 2 * sgn) (h : In (cnt x) ∧ cnt x ≤ hi) : (double.mul two x = none ∧ cnt x = 0) ∨ ∃ y, double.mul two x = some y ∧ cnt y = dbl (cnt x) ∧ y < 2 * sgn := by
  by_cases hc : cnt x = 0
  · rw [hc]
    rcases mul_none hx hc with h1 | ⟨y, h1, h2, h3⟩
    · exact .inl ⟨h1, rfl⟩
    · exact .inr ⟨y, h1, h2, h3⟩
  · have h1 : x ≤ inf := by
      by_cases h2 : x ≤ inf
      · exact h2
      · exact absurd (by unfold cnt; rw [if_neg h2]) hc
    rw [cnt_of_le h1] at h hc ⊢
    have hlt := hi_lt
    have hlt2 : inf < sgn := by decide +kernel
    have hlo : lo ≤ x := by rcases h.1 with h2 | h2 <;> omega
    have hbl : bin ≤ lo := by decide +kernel
    exact .inr ⟨x + bin, mul_big (by omega) (by omega), by rw [cnt_of_le (by omega), dbl_pos hc], by omega⟩
end Go.Proofs.Ytakfkkpcdnphlaa
