/- What was read is laid as it was. -/
import Derived.Test.YtakfkkpcdnphlaaF12
namespace Go.Proofs.Ytakfkkpcdnphlaa

theorem digit_lo (p c a b : Nat) (h : b < a) : (p + c * 2 ^ (8 * a)) / 2 ^ (8 * b) % 256 = p / 2 ^ (8 * b) % 256 := by
  obtain ⟨d, rfl⟩ : ∃ d, a = b + (d + 1) := ⟨a - b - 1, by omega⟩
  have e : c * 2 ^ (8 * (b + (d + 1))) = (c * 2 ^ (8 * d) * 256) * 2 ^ (8 * b) := by
    have e1 : 8 * (b + (d + 1)) = 8 * d + 8 + 8 * b := by omega
    rw [e1, Nat.pow_add, Nat.pow_add, ← Nat.mul_assoc, ← Nat.mul_assoc]
  rw [e, Nat.add_mul_div_right _ _ (Nat.two_pow_pos _), Nat.add_mul_mod_self_right]
theorem digit_hi (p c a : Nat) (hp : p < 2 ^ (8 * a)) (hc : c ≤ 255) : (p + c * 2 ^ (8 * a)) / 2 ^ (8 * a) % 256 = c := by
  rw [Nat.add_mul_div_right _ _ (Nat.two_pow_pos _), Nat.div_eq_of_lt hp, Nat.zero_add, Nat.mod_eq_of_lt (by omega)]
theorem pv_digit {bs : List Int} (h : Oct bs) (o : Nat) : ∀ n j, j < n → pv bs o n / 2 ^ (8 * j) % 256 = (bs.getD (o + j) 0).toNat := by
  intro n
  induction n with
  | zero => intro j hj; omega
  | succ n ih =>
    intro j hj
    show (pv bs o n + (bs.getD (o + n) 0).toNat * 2 ^ (8 * n)) / 2 ^ (8 * j) % 256 = _
    by_cases hjn : j < n
    · rw [digit_lo _ _ n j hjn, ih j hjn]
    · obtain rfl : j = n := by omega
      have hx := Oct.at h (o + j)
      exact digit_hi _ _ _ (pv_lt h o j) (by omega)

theorem lay1_of {x : Nat} (h : nanq x = false) : lay1 x = x := by unfold lay1; rw [h]; rfl
theorem nanq_lay1 (x : Nat) : nanq (lay1 x) = nanq x := by
  unfold lay1
  split
  · rename_i h; rw [h]; decide +kernel
  · rfl
/-- What was read, where all are numbers, is laid as it was. -/
theorem lay_read {bs : List Int} (ho : Oct bs) (h8 : bs.length % 8 = 0) (h : ∀ k, k < (readF bs).length → nanq ((readF bs).getD k 0) = false) : layF (readF bs) (readF bs).length = bs := by
  have hl := readF_len bs
  apply List.ext_getElem
  · rw [layF_len, hl]; omega
  · intro i h1 h2
    have hk : i / 8 < bs.length / 8 := by omega
    have e0 : 8 * (i / 8) + i % 8 = i := by omega
    have e1 := layF_get (readF bs) (readF bs).length (i / 8) (i % 8) (by rw [hl]; exact hk) (by omega)
    rw [lay1_of (h _ (by rw [hl]; exact hk)), readF_get hk, pv_digit ho (8 * (i / 8)) 8 (i % 8) (by omega), e0] at e1
    have hx := Oct.at ho i
    have e2 : bs.getD i 0 = bs[i] := by rw [List.getD_eq_getElem?_getD, List.getElem?_eq_getElem h2]; rfl
    have e3 : (layF (readF bs) (readF bs).length).getD i 0 = (layF (readF bs) (readF bs).length)[i] := by rw [List.getD_eq_getElem?_getD, List.getElem?_eq_getElem h1]; rfl
    rw [e3, e2] at e1
    rw [e1]
    rw [e2] at hx
    omega
end Go.Proofs.Ytakfkkpcdnphlaa
