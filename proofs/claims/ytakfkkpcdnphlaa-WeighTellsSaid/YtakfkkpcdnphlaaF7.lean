/- What counts nothing, put behind, changes nothing. -/
import Derived.Test.YtakfkkpcdnphlaaF6
namespace Go.Proofs.Ytakfkkpcdnphlaa

theorem getD_append_left {l : List Nat} {z k : Nat} (h : k < l.length) : (l ++ [z]).getD k 0 = l.getD k 0 := by
  rw [List.getD_eq_getElem?_getD, List.getElem?_append_left h, List.getD_eq_getElem?_getD]
theorem getD_append_end {l : List Nat} {z : Nat} : (l ++ [z]).getD l.length 0 = z := by
  rw [List.getD_eq_getElem?_getD, List.getElem?_append_right (Nat.le_refl _), Nat.sub_self]
  rfl
theorem ends_snoc {l : List Nat} {z : Nat} (hz : z ≠ inf) : ends (l ++ [z]) (l.length + 1) = ends l l.length := by
  have he : ends (l ++ [z]) (l.length + 1) = if (l ++ [z]).getD l.length 0 = inf then ends (l ++ [z]) l.length ++ [(l.length : Int)] else ends (l ++ [z]) l.length := rfl
  rw [he, getD_append_end, if_neg hz]
  have key : ∀ k, k ≤ l.length → ends (l ++ [z]) k = ends l k := by
    intro k
    induction k with
    | zero => intro _; rfl
    | succ k ih =>
      intro hk
      show (if _ then _ else _) = (if _ then _ else _)
      rw [ih (by omega), getD_append_left (by omega)]
  exact key _ (Nat.le_refl _)
theorem lastC_snoc {l : List Nat} : ∀ k, k ≤ l.length → lastC (l ++ [0]) k = lastC l k := by
  intro k
  induction k with
  | zero => intro _; rfl
  | succ k ih =>
    intro hk
    show (if _ then _ else _) = (if _ then _ else _)
    rw [ih (by omega), getD_append_left (by omega)]
theorem take_snoc {l : List Nat} {z k : Nat} (h : k ≤ l.length) : (l ++ [z]).take k = l.take k := by
  rw [List.take_append_of_le_length h]
theorem scan_snoc {l : List Nat} (sh : Nat) : ∀ n k, k + n = l.length → ¬ sh < sumC (l.take k) → scan (l ++ [0]) sh k (n + 1) = scan l sh k n := by
  intro n
  induction n with
  | zero =>
    intro k hk hs
    obtain rfl : k = l.length := by omega
    rw [List.take_length] at hs
    have he : scan (l ++ [0]) sh l.length 1 = if sh < sumC ((l ++ [0]).take (l.length + 1)) then (l.length : Int) else lastC (l ++ [0]) (l.length + 1) := rfl
    rw [he, sumC_snoc _ _ (by simp), take_snoc (Nat.le_refl _), List.take_length, getD_append_end, fadd_zero (sumC_le _), if_neg hs]
    have hla : lastC (l ++ [0]) (l.length + 1) = if 0 < (l ++ [0]).getD l.length 0 then (l.length : Int) else lastC (l ++ [0]) l.length := rfl
    rw [hla, getD_append_end, if_neg (by omega), lastC_snoc _ (Nat.le_refl _)]
    rfl
  | succ n ih =>
    intro k hk hs
    have he : scan (l ++ [0]) sh k (n + 1 + 1) = if sh < sumC ((l ++ [0]).take (k + 1)) then (k : Int) else scan (l ++ [0]) sh (k + 1) (n + 1) := rfl
    have he2 : scan l sh k (n + 1) = if sh < sumC (l.take (k + 1)) then (k : Int) else scan l sh (k + 1) n := rfl
    rw [he, he2, take_snoc (by omega)]
    by_cases h : sh < sumC (l.take (k + 1))
    · rw [if_pos h, if_pos h]
    · rw [if_neg h, if_neg h, ih (k + 1) (by omega) h]
theorem sumC_zero (m : List Nat) : sumC (m ++ [0]) = sumC m := by
  have h : sumC (m ++ [0]) = fadd (sumC m) 0 := by unfold sumC; rw [List.foldl_append]; rfl
  rw [h, fadd_zero (sumC_le _)]
theorem fin_zero (m : List Nat) : fin (m ++ [0]) = fin m ++ [0] := by
  unfold fin
  rw [sumC_zero]
  split
  · rw [List.map_append]; simp [down_zero]
  · rfl
theorem maxC_zero (m : List Nat) : maxC (m ++ [0]) = maxC m := by
  unfold maxC
  rw [List.foldl_append]
  simp
theorem pick_snoc (l : List Nat) (z d : Nat) (hz : cnt z = 0) (h0 : 0 < l.length) (hl : l.length + 1 ≤ 64) : pickF (l ++ [z]) d = pickF l d := by
  have hm : (l ++ [z]).map cnt = l.map cnt ++ [0] := by rw [List.map_append]; simp [hz]
  have hlen : (l ++ [z]).length = l.length + 1 := by simp
  have hme : (l.map cnt).length = l.length := List.length_map ..
  have he : ends (l.map cnt ++ [0]) (l.length + 1) = ends (l.map cnt) l.length := by
    have := ends_snoc (l := l.map cnt) (z := 0) (by rw [inf_def]; omega)
    rwa [hme] at this
  unfold pickF
  rw [hm, hlen, he, maxC_zero, if_neg (show ¬ (l.length + 1 = 0 ∨ 64 < l.length + 1) by omega), if_neg (show ¬ (l.length = 0 ∨ 64 < l.length) by omega)]
  split
  · rfl
  · split
    · rfl
    · have hs : share (l.map cnt ++ [0]) d = share (l.map cnt) d := by
        unfold share
        rw [fin_zero, sumC_zero]
      rw [hs, fin_zero, scan_snoc _ _ _ (by rw [fin_len, hme]; omega) (by simp [sumC])]
end Go.Proofs.Ytakfkkpcdnphlaa
