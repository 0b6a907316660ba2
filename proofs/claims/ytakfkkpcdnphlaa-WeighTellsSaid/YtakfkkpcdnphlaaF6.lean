/- One alone that counts. -/
import Derived.Test.YtakfkkpcdnphlaaF5
namespace Go.Proofs.Ytakfkkpcdnphlaa

def fill (x k : Nat) : Nat := if k % 3 = 1 then 9221120237041090561 else if k % 3 = 2 then x + sgn else 0
/-- The first k filled, of n. -/
def filled (x n k : Nat) : List Nat := (List.range n).map (fun j => if j < k then fill x j else 0)
def lone (x n p : Nat) : List Nat := (filled x n n).set p x
theorem filled_len (x n k : Nat) : (filled x n k).length = n := by simp [filled]
theorem lone_len (x n p : Nat) : (lone x n p).length = n := by simp [lone, filled_len]
theorem filled_zero (x n : Nat) : filled x n 0 = List.replicate n 0 := by
  apply List.ext_getElem
  · simp [filled]
  · intro i h1 h2; simp [filled]
theorem filled_get (x n k j : Nat) (h : j < n) : (filled x n k).getD j 0 = if j < k then fill x j else 0 := by
  rw [List.getD_eq_getElem?_getD, List.getElem?_eq_getElem (by rw [filled_len]; exact h)]
  simp [filled]
theorem filled_set (x n k : Nat) (_h : k < n) : (filled x n k).set k (fill x k) = filled x n (k + 1) := by
  apply List.ext_getElem
  · simp [filled]
  · intro i h1 h2
    have hi : i < n := by simpa [filled] using h2
    rw [List.getElem_set]
    by_cases e : k = i
    · subst e; simp [filled]
    · rw [if_neg e]
      simp only [filled, List.getElem_map, List.getElem_range]
      by_cases hik : i < k
      · rw [if_pos hik, if_pos (by omega)]
      · rw [if_neg hik, if_neg (by omega)]
theorem cnt_fill {x : Nat} (hx : 0 < x) (k : Nat) : cnt (fill x k) = 0 := by
  unfold fill
  split
  · decide +kernel
  · split
    · unfold cnt; rw [if_neg]; rw [inf_def, sgn_def]; omega
    · exact cnt_zero
theorem lone_get {x n p : Nat} (hx : 0 < x) (hx2 : x ≤ inf) (j : Nat) (hj : j < n) : cnt ((lone x n p).getD j 0) = if j = p then x else 0 := by
  unfold lone
  rw [List.getD_eq_getElem?_getD, List.getElem?_set]
  by_cases e : p = j
  · subst e
    rw [if_pos rfl, if_pos (by rw [filled_len]; exact hj), if_pos rfl]
    exact cnt_of_le hx2
  · rw [if_neg e, if_neg (fun h => e h.symm), ← List.getD_eq_getElem?_getD, filled_get x n n j hj, if_pos hj]
    exact cnt_fill hx j
theorem sum_lone {l : List Nat} {x p : Nat} (hx : x ≤ inf) (h : ∀ j, j < l.length → l.getD j 0 = if j = p then x else 0) : ∀ k, k ≤ l.length → sumC (l.take k) = if p < k then x else 0 := by
  intro k
  induction k with
  | zero => intro _; simp [sumC]
  | succ k ih =>
    intro hk
    rw [sumC_snoc l k (by omega), ih (by omega), h k (by omega)]
    by_cases e : k = p
    · subst e
      rw [if_neg (by omega), if_pos rfl, if_pos (by omega), zero_fadd hx]
    · rw [if_neg e]
      by_cases hp : p < k
      · rw [if_pos hp, if_pos (by omega), fadd_zero hx]
      · rw [if_neg hp, if_neg (by omega), fadd_zero (Nat.zero_le _)]
theorem lone_picked {x n p : Nat} (hx : 0 < x) (hx2 : x ≤ inf) (hp : p < n) (hn : n ≤ 64) (d : Nat) : pickF (lone x n p) d = ((p : Int), 0) ∧ sumC ((lone x n p).map cnt) = x := by
  have hl := lone_len x n p
  refine ⟨?_, ?_⟩
  · rcases pick_cases (lone x n p) d with ⟨_, h⟩ | ⟨_, h⟩ | ⟨j, he, hj, hc, _⟩
    · omega
    · have := h p (by omega)
      rw [lone_get hx hx2 p hp, if_pos rfl] at this
      omega
    · rw [lone_get hx hx2 j (by omega)] at hc
      by_cases e : j = p
      · rw [he, e]
      · rw [if_neg e] at hc; omega
  · have := sum_lone (l := (lone x n p).map cnt) (x := x) (p := p) hx2 (fun j hj => by
      rw [getD_map cnt cnt_zero]
      exact lone_get hx hx2 j (by rw [List.length_map, hl] at hj; exact hj)) n (by rw [List.length_map, hl]; exact Nat.le_refl _)
    rw [if_pos hp, List.take_of_length_le (by rw [List.length_map, hl]; exact Nat.le_refl _)] at this
    exact this
theorem lone_lt {x n p : Nat} (hx2 : x ≤ inf) : ∀ y ∈ lone x n p, y < 2 * sgn := by
  intro y hy
  rcases List.mem_or_eq_of_mem_set hy with h | h
  · unfold filled at h
    obtain ⟨j, _, rfl⟩ := List.mem_map.1 h
    split
    · unfold fill
      split
      · decide +kernel
      · split
        · rw [inf_def] at hx2; rw [sgn_def]; omega
        · rw [sgn_def]; omega
    · rw [sgn_def]; omega
  · rw [h]; exact lt2 hx2
end Go.Proofs.Ytakfkkpcdnphlaa
