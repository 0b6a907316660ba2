/- Floats, plain: how the format's nearest word stands to the exact value; no program in sight. -/
import Ieee.Arith
namespace Go.Proofs.Ytakfkkpcdnphlaa
open Ieee

/-- n / g, to the nearest, ties to even. -/
def re (n g : Nat) : Nat := n / g + (if g < 2 * (n % g) ∨ (g = 2 * (n % g) ∧ n / g % 2 = 1) then 1 else 0)

theorem re_mono {n m : Nat} (g : Nat) (h : n ≤ m) : re n g ≤ re m g := by
  unfold re
  have h1 : n / g ≤ m / g := Nat.div_le_div_right h
  by_cases he : n / g = m / g
  · rw [he]
    have hn := Nat.div_add_mod n g
    have hm := Nat.div_add_mod m g
    rw [he] at hn
    have hr : n % g ≤ m % g := by omega
    split <;> split <;> omega
  · split <;> split <;> omega

theorem re_le {n g k : Nat} (hg : 0 < g) (h : n ≤ k * g) : re n g ≤ k := by
  have h1 := re_mono g h
  have h2 : re (k * g) g = k := by
    unfold re
    rw [Nat.mul_div_cancel _ hg, Nat.mul_mod_left]
    simp
    omega
  omega

theorem le_re {n g k : Nat} (hg : 0 < g) (h : k * g ≤ n) : k ≤ re n g := by
  have h1 := re_mono g h
  have h2 : re (k * g) g = k := by
    unfold re
    rw [Nat.mul_div_cancel _ hg, Nat.mul_mod_left]
    simp
    omega
  omega

theorem re_exact (k : Nat) {g : Nat} (hg : 0 < g) : re (k * g) g = k :=
  Nat.le_antisymm (re_le hg (Nat.le_refl _)) (le_re hg (Nat.le_refl _))

theorem re_scale (n g c : Nat) (hc : 0 < c) : re (n * c) (g * c) = re n g := by
  unfold re
  rw [Nat.mul_div_mul_right _ _ hc, Nat.mul_mod_mul_right]
  congr 1
  have e1 : (g * c < 2 * (n % g * c)) ↔ (g < 2 * (n % g)) := by
    rw [← Nat.mul_assoc]
    exact Nat.mul_lt_mul_right hc
  have e2 : (g * c = 2 * (n % g * c)) ↔ (g = 2 * (n % g)) := by
    rw [← Nat.mul_assoc]
    exact Nat.mul_left_inj (by omega)
  simp only [e1, e2]

theorem toNat_if (b : Bool) (p : Prop) [Decidable p] (h : b = true ↔ p) : b.toNat = if p then 1 else 0 := by
  by_cases hp : p
  · rw [if_pos hp, h.2 hp]; rfl
  · rw [if_neg hp]
    cases b with
    | true => exact absurd (h.1 rfl) hp
    | false => rfl

theorem cut_re (n drop : Nat) : Toward.even.cut false n drop = re n (2 ^ drop) := by
  have key : ∀ d, Toward.even.cut false n d = re n (2 ^ min d (n.log2 + 2)) := by
    intro d
    unfold Toward.cut re
    simp only [Nat.one_shiftLeft]
    congr 1
    refine toNat_if _ _ ?_
    simp only [Bool.or_eq_true, Bool.and_eq_true, beq_iff_eq, decide_eq_true_eq]
  rw [key]
  by_cases h : drop ≤ n.log2 + 2
  · rw [Nat.min_eq_left h]
  · rw [Nat.min_eq_right (by omega)]
    have hn : n < 2 ^ (n.log2 + 1) := Nat.lt_log2_self
    have hz : ∀ d, n.log2 + 2 ≤ d → re n (2 ^ d) = 0 := by
      intro d hd
      have hp : 2 ^ (n.log2 + 2) ≤ 2 ^ d := Nat.pow_le_pow_right (by omega) hd
      have h2 : 2 ^ (n.log2 + 2) = 2 * 2 ^ (n.log2 + 1) := by rw [Nat.pow_succ]; omega
      unfold re
      rw [Nat.div_eq_of_lt (by omega), Nat.mod_eq_of_lt (by omega), if_neg (by omega)]
    rw [hz _ (Nat.le_refl _), hz _ (by omega)]


/-! ### The nearest word of a double -/
theorem bin_ : double.binade = 4503599627370496 := by rfl
theorem inf_ : double.infRung = 9218868437227405312 := by rfl
theorem least_ : double.leastPlace = -1074 := by rfl
theorem frac_ : double.fractionBits = 52 := by rfl
theorem sw_ : double.signWeight = 9223372036854775808 := by rfl

/-- The word nearest to n * 2 ^ p. -/
def rnd (n : Nat) (p : Int) : Nat := double.nearest false n p
/-- The place of the last digit that is kept. -/
def lastP (n : Nat) (p : Int) : Int := max (p + n.log2 - 52) (-1074)
def keptN (n : Nat) (p : Int) : Nat := re (n * 2 ^ (p - lastP n p).toNat) (2 ^ (lastP n p - p).toNat)

theorem rnd_zero (p : Int) : rnd 0 p = 0 := by
  unfold rnd Format.nearest
  rfl

theorem rnd_eq (n : Nat) (p : Int) (hn : n ≠ 0) : rnd n p = min ((lastP n p + 1074).toNat * 4503599627370496 + keptN n p) 9218868437227405312 := by
  unfold rnd Format.nearest
  rw [if_neg hn]
  simp only [bin_, inf_, least_, frac_, cut_re, Nat.shiftLeft_eq]
  unfold Format.word
  simp only [Bool.false_eq_true, if_false]
  have e : max (p + (n.log2 : Int) - ((52 : Nat) : Int)) (-1074) = lastP n p := rfl
  rw [e]
  unfold keptN
  congr 2

theorem log2_scale (n j : Nat) (hn : n ≠ 0) : (n * 2 ^ j).log2 = n.log2 + j := by
  rw [Nat.log2_eq_iff (Nat.mul_ne_zero hn (by exact Nat.pos_iff_ne_zero.1 (Nat.two_pow_pos j)))]
  have h1 := Nat.log2_self_le hn
  have h2 := @Nat.lt_log2_self n
  constructor
  · rw [Nat.pow_add]
    exact Nat.mul_le_mul_right _ h1
  · have : 2 ^ (n.log2 + j + 1) = 2 ^ (n.log2 + 1) * 2 ^ j := by rw [← Nat.pow_add]; congr 1; omega
    rw [this]
    exact Nat.mul_lt_mul_of_pos_right h2 (Nat.two_pow_pos j)

theorem last_scale (n j : Nat) (p : Int) (hn : n ≠ 0) : lastP (n * 2 ^ j) (p - j) = lastP n p := by
  unfold lastP
  rw [log2_scale n j hn]
  congr 1
  omega

/-- A number's word hangs on its value alone. -/
theorem rnd_scale (n j : Nat) (p : Int) : rnd (n * 2 ^ j) (p - j) = rnd n p := by
  by_cases hn : n = 0
  · subst hn
    rw [Nat.zero_mul, rnd_zero, rnd_zero]
  · have hn2 : n * 2 ^ j ≠ 0 := Nat.mul_ne_zero hn (Nat.pos_iff_ne_zero.1 (Nat.two_pow_pos j))
    rw [rnd_eq _ _ hn, rnd_eq _ _ hn2, last_scale n j p hn]
    congr 2
    unfold keptN
    rw [last_scale n j p hn]
    by_cases h : lastP n p ≤ p
    · -- nothing is dropped
      obtain ⟨a, ha⟩ : ∃ a : Nat, p - lastP n p = a := ⟨(p - lastP n p).toNat, by omega⟩
      have e1 : (p - lastP n p).toNat = a := by omega
      have e2 : (lastP n p - p).toNat = 0 := by omega
      rw [e1, e2, Nat.pow_zero]
      by_cases hj : j ≤ a
      · have e3 : (p - j - lastP n p).toNat = a - j := by omega
        have e4 : (lastP n p - (p - j)).toNat = 0 := by omega
        rw [e3, e4, Nat.pow_zero, Nat.mul_assoc, ← Nat.pow_add]
        congr 3
        omega
      · have e3 : (p - j - lastP n p).toNat = 0 := by omega
        have e4 : (lastP n p - (p - j)).toNat = j - a := by omega
        rw [e3, e4, Nat.pow_zero, Nat.mul_one]
        have e5 : n * 2 ^ j = n * 2 ^ a * 2 ^ (j - a) := by rw [Nat.mul_assoc, ← Nat.pow_add]; congr 2; omega
        rw [e5, re_exact _ (Nat.two_pow_pos _)]
        have := re_exact (n * 2 ^ a) (g := 1) (by omega)
        rw [Nat.mul_one] at this
        exact this.symm
    · obtain ⟨a, ha⟩ : ∃ a : Nat, lastP n p - p = a := ⟨(lastP n p - p).toNat, by omega⟩
      have e1 : (p - lastP n p).toNat = 0 := by omega
      have e2 : (lastP n p - p).toNat = a := by omega
      have e3 : (p - j - lastP n p).toNat = 0 := by omega
      have e4 : (lastP n p - (p - j)).toNat = a + j := by omega
      rw [e1, e2, e3, e4, Nat.pow_zero, Nat.mul_one, Nat.mul_one, Nat.pow_add, re_scale _ _ _ (Nat.two_pow_pos j)]

/-- What is kept of a normal number has 53 digits, or is one more. -/
theorem kept_le (n : Nat) (p : Int) : keptN n p ≤ 9007199254740992 := by
  unfold keptN
  refine re_le (Nat.two_pow_pos _) ?_
  have h2 := @Nat.lt_log2_self n
  have hl : p + n.log2 - 52 ≤ lastP n p := by unfold lastP; omega
  -- n * 2 ^ (p - last) ≤ 2 ^ (log2 n + 1 + (p - last)) ≤ 2 ^ (53 + (last - p))
  have h3 : n * 2 ^ (p - lastP n p).toNat ≤ 2 ^ (n.log2 + 1 + (p - lastP n p).toNat) := by
    rw [Nat.pow_add]
    exact Nat.mul_le_mul_right _ (Nat.le_of_lt h2)
  have h4 : 2 ^ (n.log2 + 1 + (p - lastP n p).toNat) ≤ 2 ^ (53 + (lastP n p - p).toNat) := Nat.pow_le_pow_right (by omega) (by omega)
  rw [Nat.pow_add 2 53] at h4
  have h5 : (2 : Nat) ^ 53 = 9007199254740992 := by rfl
  rw [h5] at h4
  omega

theorem le_kept (n : Nat) (p : Int) (hn : n ≠ 0) (hl : -1074 < lastP n p) : 4503599627370496 ≤ keptN n p := by
  unfold keptN
  refine le_re (Nat.two_pow_pos _) ?_
  have h1 := Nat.log2_self_le hn
  have hl2 : lastP n p = p + n.log2 - 52 := by unfold lastP at *; omega
  have h3 : 2 ^ (n.log2 + (p - lastP n p).toNat) ≤ n * 2 ^ (p - lastP n p).toNat := by
    rw [Nat.pow_add]
    exact Nat.mul_le_mul_right _ h1
  have h4 : 2 ^ (52 + (lastP n p - p).toNat) ≤ 2 ^ (n.log2 + (p - lastP n p).toNat) := Nat.pow_le_pow_right (by omega) (by omega)
  rw [Nat.pow_add 2 52] at h4
  have h5 : (2 : Nat) ^ 52 = 4503599627370496 := by rfl
  rw [h5] at h4
  omega

theorem log2_mono {n m : Nat} (hn : n ≠ 0) (h : n ≤ m) : n.log2 ≤ m.log2 := by
  have h1 := Nat.log2_self_le hn
  have h2 := @Nat.lt_log2_self m
  have : 2 ^ n.log2 < 2 ^ (m.log2 + 1) := by omega
  have := (Nat.pow_lt_pow_iff_right (a := 2) (by omega)).1 this
  omega

theorem step_le {a b k k' : Nat} (h : a < b) (h1 : k ≤ 9007199254740992) (h2 : 4503599627370496 ≤ k') : a * 4503599627370496 + k ≤ b * 4503599627370496 + k' := by
  have e : (a + 1) * 4503599627370496 ≤ b * 4503599627370496 := Nat.mul_le_mul_right _ h
  rw [Nat.add_mul, Nat.one_mul] at e
  have e2 : (9007199254740992 : Nat) = 4503599627370496 + 4503599627370496 := rfl
  rw [e2] at h1
  generalize 4503599627370496 = B at *
  omega
theorem le_min_ {a b c : Nat} (h : a ≤ b) : min a c ≤ min b c := by omega

/-- A greater number has no smaller word. -/
theorem rnd_mono {n m : Nat} (p : Int) (h : n ≤ m) : rnd n p ≤ rnd m p := by
  by_cases hn : n = 0
  · subst hn
    rw [rnd_zero]
    omega
  · have hm : m ≠ 0 := by omega
    rw [rnd_eq _ _ hn, rnd_eq _ _ hm]
    have hlog := log2_mono hn h
    have hle : lastP n p ≤ lastP m p := by unfold lastP; omega
    have hge : -1074 ≤ lastP n p := by unfold lastP; omega
    have key : (lastP n p + 1074).toNat * 4503599627370496 + keptN n p ≤ (lastP m p + 1074).toNat * 4503599627370496 + keptN m p := by
      by_cases he : lastP n p = lastP m p
      · rw [he]
        have : keptN n p ≤ keptN m p := by
          unfold keptN
          rw [he]
          exact re_mono _ (Nat.mul_le_mul_right _ h)
        exact Nat.add_le_add_left this _
      · have h1 := kept_le n p
        have h2 := le_kept m p hm (by omega)
        exact step_le (by omega) h1 h2
    exact le_min_ key

end Go.Proofs.Ytakfkkpcdnphlaa
