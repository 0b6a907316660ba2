/- Floats, plain: what a word from 0 to infinity stands for; how such words stand to each other; sums. -/
import Derived.Test.YtakfkkpcdnphlaaF0
namespace Go.Proofs.Ytakfkkpcdnphlaa
open Ieee

def inf : Nat := 9218868437227405312
def bin : Nat := 4503599627370496
def sgn : Nat := 9223372036854775808
theorem inf_def : inf = 9218868437227405312 := rfl
theorem bin_def : bin = 4503599627370496 := rfl
theorem sgn_def : sgn = 9223372036854775808 := rfl
theorem bin_pos : 0 < bin := by unfold bin; omega
theorem bin_pow : bin = 2 ^ 52 := by rfl
theorem inf_bin : inf = 2047 * bin := by rfl
theorem sgn_bin : sgn = 2048 * bin := by rfl

/-- A word's digits, and their place above the least. -/
def mag (r : Nat) : Nat := if r < bin then r else bin + r % bin
def up (r : Nat) : Nat := if r < bin then 0 else r / bin - 1
/-- What a word stands for, in units of the least place. -/
def V (r : Nat) : Nat := mag r * 2 ^ up r

theorem read_fin (r : Nat) (h : r < inf) : double.read r = .number false (mag r) (-1074 + (up r : Int)) := by
  unfold Format.read
  have hs : r < double.signWeight := by rw [sw_]; rw [inf_def] at h; omega
  have e1 : r / double.signWeight = 0 := Nat.div_eq_of_lt hs
  have e2 : r % double.signWeight = r := Nat.mod_eq_of_lt hs
  simp only [e1, e2, least_]
  have eb : double.binade = bin := rfl
  have ei : double.infRung = inf := rfl
  simp only [eb, ei]
  unfold mag up
  by_cases hb : r < bin
  · simp only [hb, if_true]
    rfl
  · simp only [hb, h, if_false, if_true]
    rfl
theorem read_inf : double.read inf = .infinity false := by decide +kernel
theorem read_zero : double.read 0 = .number false 0 (-1074) := by decide +kernel

theorem mag_log (r : Nat) (h : ¬ r < bin) : (mag r).log2 = 52 := by
  unfold mag
  rw [if_neg h]
  have hm : r % bin < bin := Nat.mod_lt _ bin_pos
  rw [Nat.log2_eq_iff (by have := bin_pos; omega)]
  rw [← bin_pow]
  have : (2 : Nat) ^ (52 + 1) = 2 * bin := by rfl
  rw [this]
  omega

theorem rung_split (r : Nat) (h : ¬ r < bin) : up r * bin + mag r = r := by
  unfold up mag
  rw [if_neg h, if_neg h]
  have h1 := Nat.div_add_mod r bin
  have h2 : 1 ≤ r / bin := (Nat.le_div_iff_mul_le bin_pos).2 (by omega)
  obtain ⟨k, hk⟩ : ∃ k, r / bin = k + 1 := ⟨r / bin - 1, by omega⟩
  rw [hk] at h1 ⊢
  rw [Nat.mul_comm, Nat.add_mul] at h1
  simp only [Nat.add_sub_cancel]
  omega

theorem rnd_eq' (n : Nat) (p : Int) (hn : n ≠ 0) : rnd n p = min ((lastP n p + 1074).toNat * bin + keptN n p) inf := rnd_eq n p hn

/-- A word's own value is met. -/
theorem rnd_V (r : Nat) (h : r < inf) : rnd (V r) (-1074) = r := by
  by_cases hb : r < bin
  · have e : V r = r := by unfold V mag up; rw [if_pos hb, if_pos hb, Nat.pow_zero, Nat.mul_one]
    rw [e]
    by_cases h0 : r = 0
    · subst h0; exact rnd_zero _
    · rw [rnd_eq' _ _ h0]
      have hl : r.log2 < 52 := (Nat.log2_lt h0).2 (by rw [← bin_pow]; exact hb)
      have el : lastP r (-1074) = -1074 := by unfold lastP; omega
      have ek : keptN r (-1074) = r := by
        unfold keptN
        rw [el]
        have := re_exact r (g := 1) (by omega)
        simpa using this
      rw [el, ek]
      have : ((-1074 : Int) + 1074).toNat = 0 := by rfl
      rw [this]
      omega
  · have hs := rung_split r hb
    have hm0 : mag r ≠ 0 := by unfold mag; rw [if_neg hb]; have := bin_pos; omega
    have e : rnd (V r) (-1074) = rnd (mag r) (-1074 + (up r : Int)) := by
      have := rnd_scale (mag r) (up r) (-1074 + (up r : Int))
      rw [← this]
      unfold V
      congr 1
      omega
    rw [e, rnd_eq' _ _ hm0]
    have el : lastP (mag r) (-1074 + (up r : Int)) = -1074 + (up r : Int) := by unfold lastP; rw [mag_log r hb]; omega
    have ek : keptN (mag r) (-1074 + (up r : Int)) = mag r := by
      unfold keptN
      rw [el]
      have := re_exact (mag r) (g := 1) (by omega)
      simpa using this
    rw [el, ek]
    have : ((-1074 : Int) + (up r : Int) + 1074).toNat = up r := by omega
    rw [this, hs]
    omega

theorem V_le {r s : Nat} (hr : r < inf) (hs : s < inf) : V r ≤ V s ↔ r ≤ s := by
  have key : ∀ {a b : Nat}, a < inf → b < inf → V a ≤ V b → a ≤ b := by
    intro a b ha hb h
    have := rnd_mono (-1074) h
    rwa [rnd_V a ha, rnd_V b hb] at this
  constructor
  · exact key hr hs
  · intro h
    by_cases hv : V r ≤ V s
    · exact hv
    · have := key hs hr (by omega)
      have e : r = s := by omega
      subst e
      omega
theorem V_lt {r s : Nat} (hr : r < inf) (hs : s < inf) : V r < V s ↔ r < s := by
  have := V_le hs hr
  omega
theorem V_inj {r s : Nat} (hr : r < inf) (hs : s < inf) (h : V r = V s) : r = s := by
  have h1 := (V_le hr hs).1 (by omega)
  have h2 := (V_le hs hr).1 (by omega)
  omega
theorem V_zero : V 0 = 0 := by decide +kernel

theorem rnd_le_inf (n : Nat) (p : Int) : rnd n p ≤ inf := by
  by_cases hn : n = 0
  · subst hn; rw [rnd_zero]; omega
  · rw [rnd_eq' _ _ hn]; omega

/-! ### Order -/
theorem compare_nat (a b : Nat) : compare a b = if a < b then .lt else if a = b then .eq else .gt := by
  rw [Nat.compare_eq_ite_lt]
  split
  · rfl
  · split <;> split <;> first | rfl | omega

theorem signed_false (m u : Nat) : signed false m u = ((m * 2 ^ u : Nat) : Int) := by
  unfold signed
  simp [Nat.shiftLeft_eq]

theorem scaled (r s : Nat) : ∃ c : Nat, mag r * 2 ^ (((-1074 : Int) + up r) - min ((-1074 : Int) + up r) ((-1074 : Int) + up s)).toNat * 2 ^ c = V r ∧ mag s * 2 ^ (((-1074 : Int) + up s) - min ((-1074 : Int) + up r) ((-1074 : Int) + up s)).toNat * 2 ^ c = V s ∧ min ((-1074 : Int) + up r) ((-1074 : Int) + up s) = -1074 + (c : Int) := by
  refine ⟨min (up r) (up s), ?_, ?_, by omega⟩
  · unfold V
    rw [Nat.mul_assoc, ← Nat.pow_add]
    congr 2
    omega
  · unfold V
    rw [Nat.mul_assoc, ← Nat.pow_add]
    congr 2
    omega

theorem order_fin {r s : Nat} (hr : r < inf) (hs : s < inf) : double.order r s = some (compare r s) := by
  unfold Format.order
  rw [read_fin r hr, read_fin s hs]
  unfold Datum.order
  simp only [signed_false]
  obtain ⟨c, e1, e2, _⟩ := scaled r s
  generalize mag r * 2 ^ (((-1074 : Int) + up r) - min ((-1074 : Int) + up r) ((-1074 : Int) + up s)).toNat = a at *
  generalize mag s * 2 ^ (((-1074 : Int) + up s) - min ((-1074 : Int) + up r) ((-1074 : Int) + up s)).toNat = b at *
  have hc : 0 < 2 ^ c := Nat.two_pow_pos c
  have hlt : a < b ↔ r < s := by
    rw [← V_lt hr hs, ← e1, ← e2]
    exact (Nat.mul_lt_mul_right hc).symm
  have heq : a = b ↔ r = s := by
    constructor
    · intro h
      exact V_inj hr hs (by rw [← e1, ← e2, h])
    · intro h
      have : a * 2 ^ c = b * 2 ^ c := by rw [e1, e2, h]
      exact Nat.eq_of_mul_eq_mul_right hc this
  congr 1
  have hci : compare (a : Int) (b : Int) = compare a b := by
    rw [compare_nat]
    show compareOfLessAndEq (a : Int) (b : Int) = _
    unfold compareOfLessAndEq
    by_cases h1 : a < b
    · rw [if_pos h1, if_pos (by omega)]
    · by_cases h2 : a = b
      · rw [if_neg h1, if_pos h2, if_neg (by omega), if_pos (by omega)]
      · rw [if_neg h1, if_neg h2, if_neg (by omega), if_neg (by omega)]
  rw [hci, compare_nat, compare_nat]
  simp only [hlt, heq]

theorem order_nn {r s : Nat} (hr : r ≤ inf) (hs : s ≤ inf) : double.order r s = some (compare r s) := by
  by_cases h1 : r < inf
  · by_cases h2 : s < inf
    · exact order_fin h1 h2
    · have e : s = inf := by omega
      subst e
      unfold Format.order
      rw [read_fin r h1, read_inf]
      unfold Datum.order
      rw [compare_nat, if_pos h1]
      rfl
  · have e : r = inf := by omega
    subst e
    unfold Format.order
    rw [read_inf]
    by_cases h2 : s < inf
    · rw [read_fin s h2]
      unfold Datum.order
      rw [compare_nat, if_neg (by omega), if_neg (by omega)]
      rfl
    · have e : s = inf := by omega
      subst e
      rw [read_inf]
      unfold Datum.order
      rw [compare_nat, if_neg (by omega), if_pos rfl]
      rfl

/-! ### Sums -/
def fadd (x y : Nat) : Nat := if x = inf ∨ y = inf then inf else rnd (V x + V y) (-1074)

theorem wr_inf : some (double.write (.infinity false)) = some inf := by decide +kernel

theorem add_nn {x y : Nat} (hx : x ≤ inf) (hy : y ≤ inf) : double.add x y = some (fadd x y) := by
  unfold Format.add fadd
  by_cases h1 : x < inf
  · by_cases h2 : y < inf
    · rw [if_neg (by omega), read_fin x h1, read_fin y h2]
      unfold Datum.sum
      simp only [signed_false, Option.map_some]
      congr 1
      obtain ⟨c, e1, e2, e3⟩ := scaled x y
      rw [e3] at e1 e2 ⊢
      generalize mag x * 2 ^ (((-1074 : Int) + up x) - (-1074 + (c : Int))).toNat = a at *
      generalize mag y * 2 ^ (((-1074 : Int) + up y) - (-1074 + (c : Int))).toNat = b at *
      have et : ((a : Int) + (b : Int)).natAbs = a + b := by omega
      have eneg : (if (a : Int) + (b : Int) = 0 then (false && false) else decide ((a : Int) + (b : Int) < 0)) = false := by
        split
        · rfl
        · exact decide_eq_false (by omega)
      show double.nearest _ _ _ = _
      rw [et, eneg, ← e1, ← e2, ← Nat.add_mul]
      have := rnd_scale (a + b) c (-1074 + (c : Int))
      rw [show (-1074 + (c : Int)) - c = -1074 by omega] at this
      exact this.symm
    · have e : y = inf := by omega
      subst e
      rw [if_pos (Or.inr rfl), read_fin x h1, read_inf]
      exact wr_inf
  · have e : x = inf := by omega
    subst e
    rw [if_pos (Or.inl rfl), read_inf]
    by_cases h2 : y < inf
    · rw [read_fin y h2]
      exact wr_inf
    · have e : y = inf := by omega
      subst e
      rw [read_inf]
      decide +kernel

theorem fadd_le_inf (x y : Nat) : fadd x y ≤ inf := by
  unfold fadd
  split
  · omega
  · exact rnd_le_inf _ _
theorem fadd_zero {x : Nat} (hx : x ≤ inf) : fadd x 0 = x := by
  unfold fadd
  have h0 : ¬ (0 : Nat) = inf := by rw [inf_def]; omega
  by_cases h : x = inf
  · rw [if_pos (Or.inl h), h]
  · rw [if_neg (by omega), V_zero, Nat.add_zero, rnd_V x (by omega)]
theorem fadd_comm (x y : Nat) : fadd x y = fadd y x := by
  unfold fadd
  rw [Nat.add_comm]
  simp only [Or.comm]
theorem zero_fadd {x : Nat} (hx : x ≤ inf) : fadd 0 x = x := by rw [fadd_comm, fadd_zero hx]
theorem fadd_mono {x x' y : Nat} (hx' : x' ≤ inf) (h : x ≤ x') : fadd x y ≤ fadd x' y := by
  unfold fadd
  by_cases h1 : x' = inf ∨ y = inf
  · rw [if_pos h1]
    split
    · omega
    · exact rnd_le_inf _ _
  · rw [if_neg h1, if_neg (by omega)]
    refine rnd_mono _ ?_
    have := (V_le (r := x) (s := x') (by omega) (by omega)).2 h
    omega
theorem le_fadd {x y : Nat} (hx : x ≤ inf) (hy : y ≤ inf) : x ≤ fadd x y := by
  have h := fadd_mono (x := 0) (x' := y) (y := x) hy (Nat.zero_le _)
  rw [zero_fadd hx, fadd_comm] at h
  exact h

end Go.Proofs.Ytakfkkpcdnphlaa
