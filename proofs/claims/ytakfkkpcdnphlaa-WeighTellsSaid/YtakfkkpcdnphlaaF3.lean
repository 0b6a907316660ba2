/- Floats, plain: products, quotients by powers of two, whole numbers, sums of what was held down. -/
import Derived.Test.YtakfkkpcdnphlaaF2
namespace Go.Proofs.Ytakfkkpcdnphlaa
open Ieee

/-! ### Products -/
def fmul (x y : Nat) : Nat := rnd (V x * V y) (-2148)
theorem mul_fin {x y : Nat} (hx : x < inf) (hy : y < inf) : double.mul x y = some (fmul x y) := by
  unfold Format.mul fmul
  rw [read_fin x hx, read_fin y hy]
  unfold Datum.product
  simp only [Option.map_some]
  congr 1
  show double.nearest false _ _ = _
  unfold V
  have e : mag x * 2 ^ up x * (mag y * 2 ^ up y) = mag x * mag y * 2 ^ (up x + up y) := by
    rw [Nat.pow_add]
    ac_rfl
  rw [e]
  have := rnd_scale (mag x * mag y) (up x + up y) (-1074 + (up x : Int) + (-1074 + (up y : Int)))
  rw [← show rnd (mag x * mag y) (-1074 + (up x : Int) + (-1074 + (up y : Int))) = double.nearest false (mag x * mag y) (-1074 + (up x : Int) + (-1074 + (up y : Int))) from rfl, ← this]
  congr 1
  omega

/-! ### Quotients by a power of two -/
theorem mag_log_le (x : Nat) : (mag x).log2 ≤ 52 := by
  by_cases h : x < bin
  · unfold mag
    rw [if_pos h]
    by_cases h0 : x = 0
    · subst h0; decide
    · have := (Nat.log2_lt h0).2 (by rw [← bin_pow]; exact h)
      omega
  · exact Nat.le_of_eq (mag_log x h)

theorem bin_log : bin.log2 = 52 := by
  rw [bin_pow]
  exact Nat.log2_two_pow

/-- The divisor d is 2 ^ j, j being its place and 52 digits more. -/
theorem div_pow {x d : Nat} (hx : x < inf) (j : Int) (hd : double.read d = .number false bin (j - 52)) : double.div x d = some (rnd (V x) (-1074 - j)) := by
  unfold Format.div
  rw [read_fin x hx, hd]
  unfold Datum.quotient
  have hb0 : ¬ bin = 0 := by have := bin_pos; omega
  simp only [if_neg hb0, frac_, bin_log, Nat.shiftLeft_eq, Option.map_some]
  congr 1
  show double.nearest _ _ _ = _
  have hl := mag_log_le x
  obtain ⟨a, ha⟩ : ∃ a, 52 + 2 + 52 - (mag x).log2 = 52 + a := ⟨54 - (mag x).log2, by omega⟩
  rw [ha]
  have e : mag x * 2 ^ (52 + a) = mag x * 2 ^ a * bin := by rw [Nat.pow_add, ← bin_pow]; ac_rfl
  rw [e, Nat.mul_div_cancel _ bin_pos, Nat.mul_mod_left]
  have eb : (((0 : Nat) != 0 : Bool)).toNat = 0 := rfl
  rw [eb, Nat.add_zero]
  have es : (false ^^ false) = false := rfl
  rw [es]
  show rnd (2 * (mag x * 2 ^ a)) (-1074 + (up x : Int) - (j - 52) - ((52 + a : Nat) : Int) - 1) = _
  have h1 := rnd_scale (mag x) (a + 1) (-1074 + (up x : Int) - j)
  have h2 := rnd_scale (mag x) (up x) (-1074 + (up x : Int) - j)
  have e1 : mag x * 2 ^ (a + 1) = 2 * (mag x * 2 ^ a) := by rw [Nat.pow_succ, ← Nat.mul_assoc, Nat.mul_comm]
  rw [e1] at h1
  have e2 : (-1074 + (up x : Int) - j) - ((a + 1 : Nat) : Int) = -1074 + (up x : Int) - (j - 52) - ((52 + a : Nat) : Int) - 1 := by omega
  have e3 : (-1074 + (up x : Int) - j) - (up x : Int) = -1074 - j := by omega
  rw [e2] at h1
  rw [e3] at h2
  rw [h1]
  exact h2.symm

def w128 : Nat := 4638707616191610880
def w53 : Nat := 4845873199050653696
theorem read_128 : double.read w128 = .number false bin (7 - 52) := by decide +kernel
theorem read_53 : double.read w53 = .number false bin (53 - 52) := by decide +kernel
/-- Held down by 128; a share of 2 ^ 53. -/
def down (x : Nat) : Nat := rnd (V x) (-1081)
def part (x : Nat) : Nat := rnd (V x) (-1127)
theorem div_128 {x : Nat} (hx : x < inf) : double.div x w128 = some (down x) := div_pow hx 7 read_128
theorem div_53 {x : Nat} (hx : x < inf) : double.div x w53 = some (part x) := div_pow hx 53 read_53

/-! ### What is met exactly -/
theorem V_rnd {n : Nat} {p : Int} (hn : n < 2 ^ 53) (hp : -1074 ≤ p) (hi : rnd n p < inf) : V (rnd n p) = n * 2 ^ (p + 1074).toNat := by
  by_cases h0 : n = 0
  · subst h0; rw [rnd_zero, V_zero, Nat.zero_mul]
  · rw [rnd_eq' n p h0] at hi ⊢
    have hmin : min ((lastP n p + 1074).toNat * bin + keptN n p) inf = (lastP n p + 1074).toNat * bin + keptN n p := by omega
    rw [hmin] at hi ⊢
    have hlog : n.log2 ≤ 52 := by
      have := (Nat.log2_lt h0).2 hn
      omega
    have hlp : lastP n p ≤ p := by unfold lastP; omega
    have hge : -1074 ≤ lastP n p := by unfold lastP; omega
    have hk : keptN n p = n * 2 ^ (p - lastP n p).toNat := by
      unfold keptN
      have e : (lastP n p - p).toNat = 0 := by omega
      rw [e, Nat.pow_zero]
      have := re_exact (n * 2 ^ (p - lastP n p).toNat) (g := 1) (by omega)
      rwa [Nat.mul_one] at this
    have hpow : keptN n p * 2 ^ (lastP n p + 1074).toNat = n * 2 ^ (p + 1074).toNat := by
      rw [hk, Nat.mul_assoc, ← Nat.pow_add]
      congr 2
      omega
    have hkb : keptN n p < 2 * bin := by
      have h1 := @Nat.lt_log2_self n
      have h2 : n * 2 ^ (p - lastP n p).toNat < 2 ^ (n.log2 + 1) * 2 ^ (p - lastP n p).toNat := Nat.mul_lt_mul_of_pos_right h1 (Nat.two_pow_pos _)
      rw [← Nat.pow_add] at h2
      have h3 : 2 ^ (n.log2 + 1 + (p - lastP n p).toNat) ≤ 2 ^ 53 := Nat.pow_le_pow_right (by omega) (by unfold lastP; omega)
      have h4 : (2 : Nat) ^ 53 = 2 * bin := by rfl
      rw [← hk] at h2
      omega
    rw [← hpow]
    by_cases hl : lastP n p = -1074
    · have ez : (lastP n p + 1074).toNat = 0 := by omega
      rw [ez, Nat.zero_mul, Nat.zero_add, Nat.pow_zero, Nat.mul_one]
      unfold V mag up
      by_cases hb : keptN n p < bin
      · rw [if_pos hb, if_pos hb, Nat.pow_zero, Nat.mul_one]
      · rw [if_neg hb, if_neg hb]
        have e1 : keptN n p / bin = 1 := by
          rw [Nat.div_eq_of_lt_le] <;> omega
        have e2 : keptN n p % bin = keptN n p - bin := by
          rw [Nat.mod_eq_sub_mod (by omega), Nat.mod_eq_of_lt (by omega)]
        rw [e1, e2, Nat.sub_self, Nat.pow_zero, Nat.mul_one]
        omega
    · have hkl := le_kept n p h0 (by omega)
      have hkl' : bin ≤ keptN n p := hkl
      obtain ⟨a, ha⟩ : ∃ a, (lastP n p + 1074).toNat = a := ⟨_, rfl⟩
      rw [ha]
      have hnb : ¬ a * bin + keptN n p < bin := by omega
      have e1 : (a * bin + keptN n p) / bin = a + 1 := by
        rw [Nat.div_eq_of_lt_le]
        · rw [Nat.add_mul, Nat.one_mul]; omega
        · rw [Nat.succ_mul, Nat.add_mul, Nat.one_mul]; omega
      have e2 : (a * bin + keptN n p) % bin = keptN n p - bin := by
        have e0 : a * bin + keptN n p = (keptN n p - bin) + bin * (a + 1) := by rw [Nat.mul_add, Nat.mul_one, Nat.mul_comm bin a]; omega
        rw [e0, Nat.add_mul_mod_self_left, Nat.mod_eq_of_lt (by omega)]
      unfold V mag up
      rw [if_neg hnb, if_neg hnb, e1, e2]
      have e3 : bin + (keptN n p - bin) = keptN n p := by omega
      rw [e3]
      rfl

/-! ### A draw's share; sums of what was held down are no infinity -/
def ofInt (n : Nat) : Nat := rnd n 0
theorem ofInt_mono {a b : Nat} (h : a ≤ b) : ofInt a ≤ ofInt b := rnd_mono 0 h
theorem ofInt_fin {n : Nat} (h : n < 2 ^ 64) : ofInt n < inf := by
  have h1 := ofInt_mono (show n ≤ 2 ^ 64 by omega)
  have h2 : ofInt (2 ^ 64) < inf := by decide +kernel
  omega
theorem part_le {x : Nat} (hx : x < inf) : part x ≤ x := by
  have h1 : rnd (V x) (-1127) ≤ rnd (V x * 2 ^ 53) (-1127) := rnd_mono _ (Nat.le_mul_of_pos_right _ (Nat.two_pow_pos _))
  have h2 := rnd_scale (V x) 53 (-1074)
  rw [show (-1074 : Int) - ((53 : Nat) : Int) = -1127 by omega] at h2
  rw [h2, rnd_V x hx] at h1
  exact h1
theorem down_le {x : Nat} (hx : x < inf) : down x ≤ x := by
  have h1 : rnd (V x) (-1081) ≤ rnd (V x * 2 ^ 7) (-1081) := rnd_mono _ (Nat.le_mul_of_pos_right _ (Nat.two_pow_pos _))
  have h2 := rnd_scale (V x) 7 (-1074)
  rw [show (-1074 : Int) - ((7 : Nat) : Int) = -1081 by omega] at h2
  rw [h2, rnd_V x hx] at h1
  exact h1
theorem part_mono {x y : Nat} (hx : x < inf) (hy : y < inf) (h : x ≤ y) : part x ≤ part y := rnd_mono _ ((V_le hx hy).2 h)
theorem fmul_mono {x x' y : Nat} (hx : x < inf) (hx' : x' < inf) (h : x ≤ x') : fmul x y ≤ fmul x' y := rnd_mono _ (Nat.mul_le_mul_right _ ((V_le hx hx').2 h))
theorem fmul_le_inf (x y : Nat) : fmul x y ≤ inf := rnd_le_inf _ _

/-- 2 ^ 1017, in units of the least place. -/
def U : Nat := 2 ^ 2091
theorem V_down {x : Nat} (hx : x < inf) : V (down x) ≤ U := by
  have hm : maxf < inf := by decide +kernel
  have h1 : down x ≤ down maxf := rnd_mono _ ((V_le hx hm).2 (by unfold maxf; rw [inf_def] at hx; omega))
  have h2 : down maxf < inf := by decide +kernel
  have h3 := (V_le (by omega) h2).2 h1
  have h4 : V (down maxf) ≤ U := by decide +kernel
  omega
theorem sum_down (k : Nat) (hk : k < 100) : rnd ((k + 1) * U) (-1074) < inf ∧ V (rnd ((k + 1) * U) (-1074)) = (k + 1) * U := by
  have e : rnd ((k + 1) * U) (-1074) = rnd (k + 1) 1017 := by
    have h0 := rnd_scale (k + 1) 2091 1017
    rw [show (1017 : Int) - ((2091 : Nat) : Int) = -1074 by omega] at h0
    unfold U
    exact h0
  have h1 : rnd (k + 1) 1017 ≤ rnd 128 1017 := rnd_mono _ (by omega)
  have h2 : rnd 128 1017 = inf ∨ rnd 128 1017 < inf := by have := rnd_le_inf 128 1017; omega
  have h3 : rnd 100 1017 < inf := by decide +kernel
  have h4 : rnd (k + 1) 1017 ≤ rnd 100 1017 := rnd_mono _ (by omega)
  have hlt : rnd (k + 1) 1017 < inf := by omega
  rw [e]
  refine ⟨hlt, ?_⟩
  have := V_rnd (n := k + 1) (p := 1017) (Nat.lt_of_le_of_lt (show k + 1 ≤ 100 by omega) (by decide)) (by omega) hlt
  have e3 : ((1017 : Int) + 1074).toNat = 2091 := by omega
  rw [e3] at this
  unfold U
  exact this
theorem foldl_down (l : List Nat) (h : ∀ x ∈ l, x < inf) : ∀ k s, k + l.length ≤ 100 → s < inf → V s ≤ k * U → (l.map down).foldl fadd s < inf ∧ V ((l.map down).foldl fadd s) ≤ (k + l.length) * U := by
  induction l with
  | nil => intro k s _ hs hv; exact ⟨hs, hv⟩
  | cons x l ih =>
    intro k s hk hs hv
    simp only [List.length_cons] at hk
    have hx := h x (by simp)
    have hd := V_down hx
    have hdl : down x < inf := Nat.lt_of_le_of_lt (down_le hx) hx
    have hsum : V s + V (down x) ≤ (k + 1) * U := by rw [Nat.add_mul, Nat.one_mul]; omega
    obtain ⟨g1, g2⟩ := sum_down k (by omega)
    have ha : fadd s (down x) = rnd (V s + V (down x)) (-1074) := by unfold fadd; rw [if_neg (by omega)]
    have hle : fadd s (down x) ≤ rnd ((k + 1) * U) (-1074) := by rw [ha]; exact rnd_mono _ hsum
    have hlt : fadd s (down x) < inf := by omega
    have hv2 : V (fadd s (down x)) ≤ (k + 1) * U := by
      have := (V_le hlt g1).2 hle
      rwa [g2] at this
    have := ih (fun y hy => h y (by simp [hy])) (k + 1) (fadd s (down x)) (by omega) hlt hv2
    simp only [List.map_cons, List.foldl_cons, List.length_cons]
    rw [show k + (l.length + 1) = k + 1 + l.length by omega]
    exact this
end Go.Proofs.Ytakfkkpcdnphlaa
