/- What the loops of WeighMore keep. -/
import Derived.Test.YtakfkkpcdnphlaaF10
namespace Go.Proofs.Ytakfkkpcdnphlaa

/-- Weights, and others behind them that count nothing. -/
def MoreRel (l m : List Nat) (d : Nat) : Prop := (∀ x ∈ m, x < 2 * sgn) ∧ (0 < l.length → pickF m d = pickF l d) ∧ l.length ≤ m.length ∧ m.length ≤ 70
theorem more_start {l : List Nat} (d : Nat) (h : ∀ x ∈ l, x < 2 * sgn) (hl : l.length ≤ 70) : MoreRel l l d := ⟨h, fun _ => rfl, Nat.le_refl _, hl⟩
theorem more_step {l m : List Nat} {d z : Nat} (h : MoreRel l m d) (hz : cnt z = 0) (hz2 : z < 2 * sgn) (hm : m.length < 64) : MoreRel l (m ++ [z]) d := by
  obtain ⟨h1, h2, h3, h4⟩ := h
  refine ⟨?_, fun h0 => ?_, ?_, ?_⟩
  · intro x hx
    rcases List.mem_append.1 hx with hx | hx
    · exact h1 x hx
    · rw [List.mem_singleton] at hx; subst hx; exact hz2
  · rw [pick_snoc m z d hz (by omega) (by omega), h2 h0]
  · rw [List.length_append]; omega
  · rw [List.length_append, List.length_singleton]; omega

/-- The first k of the weights, doubled. -/
def TwiceRel (l t : List Nat) (k : Nat) : Prop := t.length = k ∧ t.map cnt = ((l.take k).map cnt).map dbl ∧ (∀ x ∈ t, x < 2 * sgn) ∧ ∀ x ∈ l.take k, In (cnt x) ∧ cnt x ≤ hi
theorem twice_start (l : List Nat) : TwiceRel l [] 0 := ⟨rfl, rfl, by simp, by simp⟩
theorem twice_step {l t : List Nat} {k y : Nat} (h : TwiceRel l t k) (hk : k < l.length) (h1 : In (cnt (l.getD k 0)) ∧ cnt (l.getD k 0) ≤ hi) (h2 : cnt y = dbl (cnt (l.getD k 0))) (h3 : y < 2 * sgn) : TwiceRel l (t ++ [y]) (k + 1) := by
  obtain ⟨a, b, c, e⟩ := h
  have ht : l.take (k + 1) = l.take k ++ [l.getD k 0] := by
    rw [List.take_succ_eq_append_getElem hk, List.getD_eq_getElem?_getD, List.getElem?_eq_getElem hk]
    rfl
  refine ⟨by rw [List.length_append, a]; rfl, ?_, ?_, ?_⟩
  · rw [ht, List.map_append, List.map_append, List.map_append, b]
    simp [h2]
  · intro x hx
    rcases List.mem_append.1 hx with hx | hx
    · exact c x hx
    · rw [List.mem_singleton] at hx; subst hx; exact h3
  · intro x hx
    rw [ht] at hx
    rcases List.mem_append.1 hx with hx | hx
    · exact e x hx
    · rw [List.mem_singleton] at hx; subst hx; exact h1
theorem twice_end {l t : List Nat} {d : Nat} (hd : d < 2 ^ 64) (h : TwiceRel l t l.length) : pickF t d = pickF l d := by
  obtain ⟨a, b, _, e⟩ := h
  rw [List.take_length] at b e
  exact pick_dbl l t d hd a b e

/-- What the law asks of a weight that is to be doubled. -/
theorem twice_ask (x : Nat) : cnt x = 0 ∨ (cnt x ≠ 0 ∧ hi < x ∧ x ≤ inf) ∨ (cnt x ≠ 0 ∧ x ≤ hi ∧ x < lo) ∨ (cnt x ≠ 0 ∧ x ≤ hi ∧ lo ≤ x) := by
  unfold cnt
  split
  · omega
  · exact .inl rfl
theorem hi_inf : hi ≤ inf := by decide +kernel
theorem lo_inf : lo ≤ inf := by decide +kernel
theorem ask_zero {x : Nat} (h : cnt x = 0) : In (cnt x) ∧ cnt x ≤ hi := by rw [h]; exact ⟨.inl rfl, Nat.zero_le _⟩
theorem ask_mid {x : Nat} (h1 : x ≤ hi) (h2 : lo ≤ x) : In (cnt x) ∧ cnt x ≤ hi := by
  rw [cnt_of_le (Nat.le_trans h1 hi_inf)]
  exact ⟨.inr h2, h1⟩
end Go.Proofs.Ytakfkkpcdnphlaa
