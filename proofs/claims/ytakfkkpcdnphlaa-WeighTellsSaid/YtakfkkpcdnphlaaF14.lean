/- Plain: a share of a great sum is less than it; the last that counts, as the document has it. -/
import Derived.Test.YtakfkkpcdnphlaaF13
namespace Go.Proofs.Ytakfkkpcdnphlaa
open Ieee

theorem log_is {n k : Nat} (h1 : 2 ^ k ≤ n) (h2 : n < 2 ^ (k + 1)) : n.log2 = k := (Nat.log2_eq_iff (by have := Nat.two_pow_pos k; omega)).2 ⟨h1, h2⟩
theorem mag_bounds {S : Nat} (h : bin ≤ S) : bin ≤ mag S ∧ mag S < 2 * bin := by
  have := Nat.mod_lt S bin_pos
  unfold mag
  rw [if_neg (by omega)]
  omega
theorem re_top {M b : Nat} (h1 : b < M) (h2 : M < 2 * b) : re ((2 * b - 1) * M) (2 * b) = M - 1 := by
  have e : (2 * b - 1) * M = (2 * b - M) + 2 * b * (M - 1) := by
    rw [Nat.sub_mul, Nat.one_mul, Nat.mul_sub, Nat.mul_one]
    have : 2 * b ≤ 2 * b * M := Nat.le_mul_of_pos_right _ (by omega)
    omega
  unfold re
  rw [e, Nat.add_mul_mod_self_left, Nat.mod_eq_of_lt (by omega), Nat.add_mul_div_left _ _ (by omega), Nat.div_eq_of_lt (by omega), Nat.zero_add, if_neg (by omega)]
  omega
theorem min_lt_ {a c S : Nat} (h : a < S) : min a c < S := by omega
theorem near_top {u b M S : Nat} (h : u * b + M = S) (hM : b < M) : u * b + (M - 1) < S := by omega
theorem near_top' {v b S : Nat} (h : (v + 1) * b + b = S) (hb : 0 < b) : v * b + (2 * b - 1) < S := by
  rw [Nat.add_mul, Nat.one_mul] at h
  omega
theorem B53 : B 53 = 2 * bin := by decide +kernel
theorem pow104 : 2 ^ 104 = bin * bin := by decide +kernel
theorem pow105 : 2 ^ (104 + 1) = 2 * (bin * bin) := by decide +kernel
theorem pow105' : 2 ^ 105 = 2 * (bin * bin) := by decide +kernel
theorem pow106 : 2 ^ (105 + 1) = 4 * (bin * bin) := by decide +kernel
theorem pow53 : 2 ^ 53 = 2 * bin := by decide +kernel

theorem top_share {S : Nat} (hS : 2 * bin ≤ S) (_hi : S < inf) : rnd ((B 53 - 1) * B 1021 * V S) (-2148) < S := by
  have hb := bin_pos
  have hrs := rung_split S (by omega)
  obtain ⟨m1, m2⟩ := mag_bounds (S := S) (by omega)
  have hup : 1 ≤ up S := by
    unfold up
    rw [if_neg (by omega)]
    have : 2 ≤ S / bin := (Nat.le_div_iff_mul_le bin_pos).2 hS
    omega
  have hV : V S = mag S * B (up S) := rfl
  rw [hV]
  generalize mag S = M at *
  generalize up S = u at *
  have e : (B 53 - 1) * B 1021 * (M * B u) = (2 * bin - 1) * M * B (1021 + u) := by rw [B_add, B53]; generalize B 1021 = x; generalize B u = y; ac_rfl
  rw [e, rnd_up ((2 * bin - 1) * M) (1021 + u) (-1127 + (u : Int)) (-2148) (by omega)]
  have hN : (2 * bin - 1) * M = 2 * (bin * M) - M := by rw [Nat.sub_mul, Nat.one_mul, Nat.mul_assoc]
  have hMM : bin * bin ≤ bin * M := Nat.mul_le_mul_left _ m1
  have hMM2 : bin * M < bin * (2 * bin) := Nat.mul_lt_mul_of_pos_left m2 hb
  have hbb : bin ≤ bin * bin := Nat.le_mul_of_pos_right _ hb
  have e3 : bin * (2 * bin) = 2 * (bin * bin) := by ac_rfl
  have hne : (2 * bin - 1) * M ≠ 0 := by rw [hN]; omega
  rw [rnd_eq' _ _ hne]
  by_cases hM : bin < M
  · have hM3 : bin * (bin + 1) ≤ bin * M := Nat.mul_le_mul_left _ hM
    rw [Nat.mul_add, Nat.mul_one] at hM3
    have hlog : ((2 * bin - 1) * M).log2 = 105 := log_is (by rw [pow105', hN]; omega) (by rw [pow106, hN]; omega)
    have hl : lastP ((2 * bin - 1) * M) (-1127 + (u : Int)) = -1074 + (u : Int) := by unfold lastP; rw [hlog]; omega
    have hk : keptN ((2 * bin - 1) * M) (-1127 + (u : Int)) = M - 1 := by
      unfold keptN
      rw [hl]
      have g1 : (-1127 + (u : Int) - (-1074 + (u : Int))).toNat = 0 := by omega
      have g2 : (-1074 + (u : Int) - (-1127 + (u : Int))).toNat = 53 := by omega
      rw [g1, g2, Nat.pow_zero, Nat.mul_one, pow53]
      exact re_top hM m2
    rw [hl, hk]
    have g3 : (-1074 + (u : Int) + 1074).toNat = u := by omega
    rw [g3]
    exact min_lt_ (near_top hrs hM)
  · have hMe : M = bin := by omega
    subst hMe
    have hlog : ((2 * bin - 1) * bin).log2 = 104 := log_is (by rw [pow104, hN]; omega) (by rw [pow105, hN]; omega)
    have hl : lastP ((2 * bin - 1) * bin) (-1127 + (u : Int)) = -1075 + (u : Int) := by unfold lastP; rw [hlog]; omega
    have hk : keptN ((2 * bin - 1) * bin) (-1127 + (u : Int)) = 2 * bin - 1 := by
      unfold keptN
      rw [hl]
      have g1 : (-1127 + (u : Int) - (-1075 + (u : Int))).toNat = 0 := by omega
      have g2 : (-1075 + (u : Int) - (-1127 + (u : Int))).toNat = 52 := by omega
      rw [g1, g2, Nat.pow_zero, Nat.mul_one, ← bin_pow]
      exact re_exact _ hb
    rw [hl, hk]
    have g3 : (-1075 + (u : Int) + 1074).toNat = u - 1 := by omega
    rw [g3]
    obtain ⟨v, rfl⟩ : ∃ v, u = v + 1 := ⟨u - 1, by omega⟩
    rw [Nat.add_sub_cancel]
    exact min_lt_ (near_top' hrs hb)

theorem share_lt {n S : Nat} (hn : n < B 53) (h64 : n < 2 ^ 64) (hS : 2 * bin ≤ S) (hi : S < inf) : fmul (part (ofInt n)) S < S := by
  have h1 := top_share hS hi
  unfold fmul
  rw [V_part hn h64]
  have h2 : n * B 1021 * V S ≤ (B 53 - 1) * B 1021 * V S := Nat.mul_le_mul_right _ (Nat.mul_le_mul_right _ (by omega))
  have h3 := rnd_mono (-2148) h2
  omega

theorem foldl_ge (l : List Nat) (h : ∀ x ∈ l, x ≤ inf) : ∀ s, s ≤ inf → s ≤ l.foldl fadd s ∧ ∀ x ∈ l, x ≤ l.foldl fadd s := by
  induction l with
  | nil => intro s _; exact ⟨Nat.le_refl _, by simp⟩
  | cons x l ih =>
    intro s hs
    have hx := h x (by simp)
    obtain ⟨h1, h2⟩ := ih (fun y hy => h y (by simp [hy])) (fadd s x) (fadd_le_inf _ _)
    have g1 := le_fadd hs hx
    have g2 := le_fadd hx hs
    rw [fadd_comm] at g2
    rw [List.foldl_cons]
    refine ⟨by omega, fun y hy => ?_⟩
    rcases List.mem_cons.1 hy with rfl | hy
    · omega
    · exact h2 y hy
theorem down_big : 2 * bin ≤ down B900 := by decide +kernel
/-- Where the sum is infinite, held down it is great. -/
theorem fin_big {m : List Nat} (hf : ∀ j, j < m.length → m.getD j 0 < inf) (hl : m.length ≤ 64) (hs : sumC m = inf) : 2 * bin ≤ sumC (fin m) := by
  have hfm : ∀ x ∈ m, x < inf := by
    intro x hx
    obtain ⟨j, hj, rfl⟩ := List.mem_iff_getElem.1 hx
    have := hf j hj
    rwa [List.getD_eq_getElem?_getD, List.getElem?_eq_getElem hj] at this
  apply Classical.byContradiction
  intro hn
  have hfe : fin m = m.map down := by unfold fin; rw [if_pos hs]
  have hd : ∀ x ∈ m.map down, x ≤ inf := by
    intro x hx
    obtain ⟨y, _, rfl⟩ := List.mem_map.1 hx
    exact rnd_le_inf _ _
  have hz : ∀ x ∈ m, x ≤ B900 := by
    intro x hx
    apply Classical.byContradiction
    intro hb
    have h1 := down_mono B_fin (hfm x hx) (by omega)
    have h2 := (foldl_ge _ hd 0 (Nat.zero_le _)).2 (down x) (List.mem_map_of_mem hx)
    have h3 := down_big
    rw [hfe] at hn
    unfold sumC at hn
    omega
  have h1 := foldl_rep m hz 64 0 0 hl (Nat.le_refl _) (Nat.zero_le _)
  have h2 := sum_B
  have h3 : m.foldl fadd 0 = inf := hs
  omega

/-- The last, of the first k, that counts; -1: none does. -/
def lastD (l : List Nat) : Nat → Int
  | 0 => -1
  | k + 1 => if 0 < l.getD k 0 then (k : Int) else lastD l k
theorem lastD_neg {l : List Nat} : ∀ k, -1 ≤ lastD l k ∧ (lastD l k < 0 ↔ ∀ j, j < k → l.getD j 0 = 0) ∧ (0 ≤ lastD l k → lastC l k = lastD l k) ∧ lastD l k < k := by
  intro k
  induction k with
  | zero => exact ⟨by unfold lastD; omega, by simp [lastD], by simp [lastD], by simp [lastD]⟩
  | succ k ih =>
    have e : lastD l (k + 1) = if 0 < l.getD k 0 then (k : Int) else lastD l k := rfl
    have e2 : lastC l (k + 1) = if 0 < l.getD k 0 then (k : Int) else lastC l k := rfl
    rw [e, e2]
    by_cases h : 0 < l.getD k 0
    · rw [if_pos h, if_pos h]
      refine ⟨by omega, ⟨fun h2 => by omega, fun h2 => ?_⟩, fun _ => rfl, by omega⟩
      have := h2 k (by omega)
      omega
    · rw [if_neg h, if_neg h]
      refine ⟨ih.1, ⟨fun h2 j hj => ?_, fun h2 => ih.2.1.2 (fun j hj => h2 j (by omega))⟩, ih.2.2.1, by have := ih.2.2.2; omega⟩
      by_cases hjk : j = k
      · subst hjk; omega
      · exact ih.2.1.1 h2 j (by omega)
theorem le_max_ (l : List Nat) : ∀ s, s ≤ l.foldl max s ∧ ∀ x ∈ l, x ≤ l.foldl max s := by
  induction l with
  | nil => intro s; exact ⟨Nat.le_refl _, by simp⟩
  | cons x l ih =>
    intro s
    obtain ⟨h1, h2⟩ := ih (max s x)
    rw [List.foldl_cons]
    refine ⟨by omega, fun y hy => ?_⟩
    rcases List.mem_cons.1 hy with rfl | hy
    · omega
    · exact h2 y hy
theorem max_last (m : List Nat) : maxC m = 0 ↔ lastD m m.length < 0 := by
  rw [(lastD_neg m.length).2.1]
  constructor
  · intro h j hj
    have := (le_max_ m 0).2 (m.getD j 0) (getD_mem_ m j hj)
    unfold maxC at h
    omega
  · intro h
    apply Classical.byContradiction
    intro hn
    rcases max_pos m 0 hn with h0 | ⟨j, hj, hx⟩
    · exact h0 rfl
    · have := h j hj
      omega
theorem ends_pre (l : List Nat) (k : Nat) : ∀ n, k ≤ n → ∃ t, ends l n = ends l k ++ t := by
  intro n
  induction n with
  | zero => intro h; obtain rfl : k = 0 := by omega
            exact ⟨[], rfl⟩
  | succ n ih =>
    intro h
    by_cases hk : k = n + 1
    · subst hk; exact ⟨[], (List.append_nil _).symm⟩
    · obtain ⟨t, ht⟩ := ih (by omega)
      have e : ends l (n + 1) = if l.getD n 0 = inf then ends l n ++ [(n : Int)] else ends l n := rfl
      rw [e, ht]
      split
      · exact ⟨t ++ [(n : Int)], by rw [List.append_assoc]⟩
      · exact ⟨t, rfl⟩
theorem ends_at {l : List Nat} {k n : Nat} (hk : k < n) (h : l.getD k 0 = inf) : (ends l n).getD (ends l k).length 0 = (k : Int) := by
  obtain ⟨t, ht⟩ := ends_pre l (k + 1) n (by omega)
  have e : ends l (k + 1) = ends l k ++ [(k : Int)] := by show (if _ then _ else _) = _; rw [if_pos h]
  rw [ht, e, List.append_assoc, List.getD_eq_getElem?_getD, List.getElem?_append_right (Nat.le_refl _), Nat.sub_self]
  rfl

/-- Where the scan ends with the last one, it is the document's last one, or it does not come so far. -/
theorem last_fin {m : List Nat} {d : Nat} (hd : d < 2 ^ 64) (hf : ∀ j, j < m.length → m.getD j 0 < inf) (hl : m.length ≤ 64) (hm : maxC m ≠ 0) :
    lastC (fin m) m.length = lastD m m.length ∨ share m d < sumC (fin m) := by
  by_cases hs : sumC m = inf
  · right
    have h1 := fin_big hf hl hs
    have h2 := fin_fin hf hl
    have hdb : d / 2048 < B 53 := by
      have : (2 : Nat) ^ 64 = 2048 * B 53 := by decide +kernel
      rw [this] at hd
      exact Nat.div_lt_of_lt_mul hd
    exact share_lt hdb (Nat.lt_of_le_of_lt (Nat.div_le_self _ _) hd) h1 h2
  · left
    have he : fin m = m := by unfold fin; rw [if_neg hs]
    rw [he]
    refine (lastD_neg m.length).2.2.1 ?_
    have := mt (max_last m).2 hm
    omega
end Go.Proofs.Ytakfkkpcdnphlaa
