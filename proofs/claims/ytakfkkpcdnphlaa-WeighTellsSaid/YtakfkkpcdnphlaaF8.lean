/- Twice the weights: the same is picked. -/
import Derived.Test.YtakfkkpcdnphlaaF7
namespace Go.Proofs.Ytakfkkpcdnphlaa
open Ieee

theorem rnd_dbl (n : Nat) (p : Int) (hn : n ≠ 0) (h1 : 52 ≤ n.log2) (h2 : -1074 ≤ p + n.log2 - 52) (h3 : rnd n p + bin < inf) : rnd (n * 2) p = rnd n p + bin := by
  have hlog : (n * 2).log2 = n.log2 + 1 := log2_scale n 1 hn
  have hL : lastP n p = p + n.log2 - 52 := by unfold lastP; omega
  have hL2 : lastP (n * 2) p = lastP n p + 1 := by rw [hL]; unfold lastP; rw [hlog]; omega
  have hk : keptN (n * 2) p = keptN n p := by
    unfold keptN
    rw [hL2]
    have e1 : (p - (lastP n p + 1)).toNat = 0 := by rw [hL]; omega
    have e2 : (p - lastP n p).toNat = 0 := by rw [hL]; omega
    have e3 : (lastP n p + 1 - p).toNat = (lastP n p - p).toNat + 1 := by rw [hL]; omega
    rw [e1, e2, e3, Nat.pow_zero, Nat.mul_one, Nat.mul_one, Nat.pow_succ]
    exact re_scale n _ 2 (by omega)
  have e4 : (lastP n p + 1 + 1074).toNat = (lastP n p + 1074).toNat + 1 := by rw [hL]; omega
  rw [rnd_eq' n p hn] at h3 ⊢
  rw [rnd_eq' (n * 2) p (by omega), hL2, hk, e4, Nat.add_mul, Nat.one_mul]
  have hb := bin_pos
  clear hk hL hL2 hlog e4 h1 h2
  generalize (lastP n p + 1074).toNat * bin = a at *
  generalize keptN n p = k at *
  omega

theorem V_dbl {x : Nat} (h : bin ≤ x) : V (x + bin) = V x * 2 := by
  have hb := bin_pos
  unfold V
  have e1 : mag (x + bin) = mag x := by
    unfold mag
    rw [if_neg (by omega), if_neg (by omega), Nat.add_mod_right]
  have e2 : up (x + bin) = up x + 1 := by
    unfold up
    rw [if_neg (by omega), if_neg (by omega), Nat.add_div_right _ hb]
    have : 1 ≤ x / bin := (Nat.le_div_iff_mul_le hb).2 (by omega)
    omega
  rw [e1, e2, Nat.pow_succ, Nat.mul_assoc]

theorem V_bin : V bin = 2 ^ 52 := by decide +kernel
theorem V_ge {x : Nat} (h : bin ≤ x) (hi : x < inf) : 2 ^ 52 ≤ V x := by
  rw [← V_bin]
  exact (V_le (by rw [bin_def, inf_def]; omega) hi).2 h

def dbl (x : Nat) : Nat := if x = 0 then 0 else x + bin
theorem dbl_zero : dbl 0 = 0 := rfl
theorem dbl_pos {x : Nat} (h : x ≠ 0) : dbl x = x + bin := if_neg h
theorem dbl_lt {x y : Nat} : dbl x < dbl y ↔ x < y := by
  have hb := bin_pos
  unfold dbl
  split <;> split <;> omega
theorem dbl_eq0 {x : Nat} : dbl x = 0 ↔ x = 0 := by
  have hb := bin_pos
  unfold dbl
  split <;> omega

/-- The bounds of the weights that are doubled: 1e-290 and 1e290. -/
def lo : Nat := 268231017195544690
def hi : Nat := 8945421882333202015
theorem lo_def : lo = 268231017195544690 := rfl
theorem hi_def : hi = 8945421882333202015 := rfl
def In (x : Nat) : Prop := x = 0 ∨ lo ≤ x

theorem fadd_dbl {x y : Nat} (hx : In x) (hy : In y) (hxi : x ≤ inf) (hyi : y ≤ inf) (h : fadd x y + bin < inf) : fadd (dbl x) (dbl y) = dbl (fadd x y) ∧ In (fadd x y) := by
  have hb := bin_pos
  have hxl : x ≤ fadd x y := le_fadd hxi hyi
  have hyl : y ≤ fadd x y := by rw [fadd_comm]; exact le_fadd hyi hxi
  rcases hx with rfl | hx
  · rw [zero_fadd hyi] at *
    refine ⟨?_, hy⟩
    rw [dbl_zero]
    apply zero_fadd
    unfold dbl
    split <;> omega
  · have hin : In (fadd x y) := .inr (by omega)
    refine ⟨?_, hin⟩
    have hx0 : x ≠ 0 := by rw [lo_def] at hx; omega
    rcases hy with rfl | hy
    · rw [fadd_zero hxi, dbl_zero, fadd_zero]
      rw [fadd_zero hxi] at h
      rw [dbl_pos hx0]
      omega
    · have hy0 : y ≠ 0 := by rw [lo_def] at hy; omega
      have hbx : bin ≤ x := by rw [lo_def] at hx; rw [bin_def]; omega
      have hby : bin ≤ y := by rw [lo_def] at hy; rw [bin_def]; omega
      have hxi2 : x + bin < inf := by omega
      have hyi2 : y + bin < inf := by omega
      have e : fadd x y = rnd (V x + V y) (-1074) := by unfold fadd; rw [if_neg (by omega)]
      have e2 : fadd (x + bin) (y + bin) = rnd (V (x + bin) + V (y + bin)) (-1074) := by unfold fadd; rw [if_neg (by omega)]
      rw [dbl_pos hx0, dbl_pos hy0, dbl_pos (by omega), e2, e, V_dbl hbx, V_dbl hby, ← Nat.add_mul]
      rw [e] at h
      clear e e2 hxl hyl hin
      have h52 := V_ge hbx (by omega)
      have hne : V x + V y ≠ 0 := by
        have : 0 < 2 ^ 52 := Nat.two_pow_pos _
        omega
      have hl : 52 ≤ (V x + V y).log2 := (Nat.le_log2 hne).2 (by omega)
      exact rnd_dbl _ _ hne hl (by omega) h

theorem foldl_repB (B : Nat) (hB : B ≤ inf) (l : List Nat) (h : ∀ x ∈ l, x ≤ B) : ∀ n s t, l.length ≤ n → s ≤ t → t ≤ inf → l.foldl fadd s ≤ (List.replicate n B).foldl fadd t := by
  induction l with
  | nil =>
    intro n
    induction n with
    | zero => intro s t _ h _; exact h
    | succ n ih =>
      intro s t _ h ht
      rw [List.replicate_succ, List.foldl_cons]
      exact ih s _ (Nat.zero_le _) (Nat.le_trans h (le_fadd ht hB)) (fadd_le_inf _ _)
  | cons x l ih =>
    intro n s t hn hs ht
    obtain ⟨n, rfl⟩ : ∃ m, n = m + 1 := ⟨n - 1, by simp at hn; omega⟩
    rw [List.replicate_succ, List.foldl_cons, List.foldl_cons]
    exact ih (fun y hy => h y (by simp [hy])) n _ _ (by simpa using hn) (fadd_mono2 ht hB hs (h x (by simp))) (fadd_le_inf _ _)
theorem sum_hi : (List.replicate 64 hi).foldl fadd 0 + bin < inf := by decide +kernel
theorem hi_fin : hi ≤ inf := by decide +kernel

/-- Weights that may be doubled. -/
def Mid (m : List Nat) : Prop := m.length ≤ 64 ∧ ∀ x ∈ m, In x ∧ x ≤ hi
theorem sum_mid {m : List Nat} (h : Mid m) (k : Nat) : sumC (m.take k) + bin < inf := by
  have h1 : sumC (m.take k) ≤ (List.replicate 64 hi).foldl fadd 0 := foldl_repB hi hi_fin (m.take k) (fun x hx => (h.2 x (List.mem_of_mem_take hx)).2) 64 0 0 (by have := h.1; simp; omega) (Nat.le_refl _) (Nat.zero_le _)
  exact Nat.lt_of_le_of_lt (Nat.add_le_add_right h1 bin) sum_hi
theorem getD_dbl (m : List Nat) (k : Nat) : (m.map dbl).getD k 0 = dbl (m.getD k 0) := getD_map dbl dbl_zero m k
theorem sum_dbl {m : List Nat} (h : Mid m) : ∀ k, k ≤ m.length → sumC ((m.map dbl).take k) = dbl (sumC (m.take k)) ∧ In (sumC (m.take k)) := by
  intro k
  induction k with
  | zero => intro _; exact ⟨rfl, .inl rfl⟩
  | succ k ih =>
    intro hk
    obtain ⟨e, hin⟩ := ih (by omega)
    have hmem := h.2 _ (getD_mem_ m k (by omega))
    have hs := sum_mid h (k + 1)
    rw [sumC_snoc m k (by omega)] at hs ⊢
    rw [sumC_snoc _ k (by rw [List.length_map]; omega), e, getD_dbl]
    exact fadd_dbl hin hmem.1 (sumC_le _) (Nat.le_trans hmem.2 hi_fin) hs
end Go.Proofs.Ytakfkkpcdnphlaa
