/- Plain: no two items that may be lie alike, and none as the beginning of another. -/
import Derived.Test.YtkbblbgiheclfaaDoorEP
namespace Go.Proofs.YtkbblbgiheclfaaDoor.Dr
open Go.RowKit Go.Proofs.YtkbblbgiheclfaaDoorW.PrintWords

theorem dbl_free : ∀ (l l' t : List Int), dblF l ++ ([255, 240] ++ t) = dblF l' ++ [255, 240] → l = l' ∧ t = [] := by
  intro l
  induction l with
  | nil =>
    intro l' t h
    cases l' with
    | nil => exact ⟨rfl, by simpa [dblF] using h⟩
    | cons c l' =>
      rw [dbl_cons] at h
      unfold dblC at h
      by_cases hc : c = 255
      · rw [if_pos hc] at h; simp [dblF] at h
      · rw [if_neg hc] at h; simp [dblF] at h; omega
  | cons c l ih =>
    intro l' t h
    rw [dbl_cons] at h
    cases l' with
    | nil =>
      unfold dblC at h
      by_cases hc : c = 255
      · rw [if_pos hc] at h; simp [dblF] at h
      · rw [if_neg hc] at h; simp [dblF] at h; omega
    | cons c' l' =>
      rw [dbl_cons] at h
      unfold dblC at h
      by_cases hc : c = 255
      · rw [if_pos hc] at h
        by_cases hc' : c' = 255
        · rw [if_pos hc'] at h
          have h2 := ih l' t (by simpa using h)
          exact ⟨by rw [hc, hc', h2.1], h2.2⟩
        · rw [if_neg hc'] at h; simp at h; omega
      · rw [if_neg hc] at h
        by_cases hc' : c' = 255
        · rw [if_pos hc'] at h; simp at h; omega
        · rw [if_neg hc'] at h
          simp only [List.cons_append, List.nil_append, List.cons.injEq] at h
          have h2 := ih l' t (by simpa using h.2)
          exact ⟨by rw [h.1, h2.1], h2.2⟩
/-- Octets of an item: its first two, and what they tell. -/
theorem put_free {x y : It} (hx : mayI x = true) (hy : mayI y = true) {t : List Int} (h : putI x ++ t = putI y) : x = y := by
  have wx := wf_kind hx
  have wy := wf_kind hy
  obtain ⟨k, a, b, l⟩ := x
  obtain ⟨k', a', b', l'⟩ := y
  dsimp only at wx wy
  unfold putI at h
  dsimp only at h
  rcases wx with ⟨rfl, h0, h1, rfl, rfl⟩ | ⟨rfl, h0, h1, rfl, rfl⟩ | ⟨rfl, h0, h1, h2, h3, rfl⟩ | ⟨rfl, h0, h1, rfl, h3⟩ <;>
  rcases wy with ⟨rfl, g0, g1, rfl, rfl⟩ | ⟨rfl, g0, g1, rfl, rfl⟩ | ⟨rfl, g0, g1, g2, g3, rfl⟩ | ⟨rfl, g0, g1, rfl, g3⟩
  case inl.inl =>
    simp only [layF, List.flatMap_cons, List.flatMap_nil, List.append_nil, if_true, layC] at h
    have : a = a' := by
      split at h <;> split at h <;> (try split at h) <;> (try split at h) <;> simp at h <;> omega
    rw [this]
  case inr.inl.inr.inl => simp at h; rw [h.1]
  case inr.inr.inl.inr.inr.inl => simp at h; rw [h.1, h.2.1]
  case inr.inr.inr.inr.inr.inr =>
    simp at h
    obtain ⟨ha, h⟩ := h
    have := dbl_free l l' t (by simpa using h)
    rw [ha, this.1]
  all_goals
    exfalso
    simp [layF, layC] at h <;> first
    | omega
    | (split at h <;> (try split at h) <;> simp at h <;> omega)
theorem put_pos {x : It} (hx : mayI x = true) : 0 < (putI x).length := by
  unfold putI
  rcases wf_kind hx with h | h | h | h
  · rw [if_pos h.1]
    have := lay_two x.a
    simp only [layF, List.flatMap_cons, List.flatMap_nil, List.append_nil]
    split at this <;> omega
  · rw [if_neg (by omega), if_pos h.1]
    simp
  · rw [if_neg (by omega), if_neg (by omega), if_pos h.1]
    simp
  · rw [if_neg (by omega), if_neg (by omega), if_neg (by omega)]
    simp
end Go.Proofs.YtkbblbgiheclfaaDoor.Dr
