/- Twice the weights: the same is picked, by the share that is twice as much. -/
import Derived.Test.YtakfkkpcdnphlaaF8
namespace Go.Proofs.Ytakfkkpcdnphlaa
open Ieee

/-- A power of two, under a name: too great to be reckoned. -/
def B (k : Nat) : Nat := 2 ^ k
theorem B_add (a b : Nat) : B (a + b) = B a * B b := Nat.pow_add 2 a b
theorem B_pos (k : Nat) : 0 < B k := Nat.two_pow_pos k
theorem rnd_B (n j : Nat) (p : Int) : rnd (n * B j) (p - j) = rnd n p := rnd_scale n j p
theorem rnd_up (n j : Nat) (p q : Int) (h : q = p - j) : rnd (n * B j) q = rnd n p := by rw [h, rnd_B]
theorem V_rndB {n j : Nat} {p : Int} (hn : n < B 53) (hp : -1074 ≤ p) (hi : rnd n p < inf) (hj : (p + 1074).toNat = j) : V (rnd n p) = n * B j := by
  have h := V_rnd (n := n) (p := p) hn hp hi
  rw [hj] at h
  exact h
theorem log_prod {a b i j : Nat} (ha : B i ≤ a) (hb : B j ≤ b) : a * b ≠ 0 ∧ i + j ≤ (a * b).log2 := by
  have h1 : B (i + j) ≤ a * b := by rw [B_add]; exact Nat.mul_le_mul ha hb
  have h0 := B_pos (i + j)
  have hne : a * b ≠ 0 := by omega
  exact ⟨hne, (Nat.le_log2 hne).2 h1⟩

theorem V_part {n : Nat} (hn : n < B 53) (h64 : n < 2 ^ 64) : V (part (ofInt n)) = n * B 1021 := by
  have hof : ofInt n < inf := ofInt_fin h64
  have h1 : V (ofInt n) = n * B 1074 := V_rndB (p := 0) hn (by omega) hof (by omega)
  have h2 : part (ofInt n) = rnd n (-53) := by
    unfold part
    rw [h1]
    exact rnd_up n 1074 (-53) (-1127) (by omega)
  have h3 : rnd n (-53) < inf := by rw [← h2]; exact Nat.lt_of_le_of_lt (part_le hof) hof
  rw [h2]
  exact V_rndB hn (by omega) h3 (by omega)

theorem V_lo : B 110 ≤ V lo := by decide +kernel
theorem lo_fin : lo < inf := by decide +kernel

theorem share_le {n S : Nat} (hn : n < B 53) (h64 : n < 2 ^ 64) (hS : S < inf) : fmul (part (ofInt n)) S ≤ S := by
  unfold fmul
  rw [V_part hn h64]
  have h0 : B 1074 = B 53 * B 1021 := B_add 53 1021
  have h1 : n * B 1021 * V S ≤ V S * B 1074 := by
    rw [Nat.mul_comm (V S), h0]
    exact Nat.mul_le_mul_right _ (Nat.mul_le_mul_right _ (Nat.le_of_lt hn))
  have h2 := rnd_mono (-2148) h1
  rw [rnd_up (V S) 1074 (-1074) (-2148) (by omega), rnd_V S hS] at h2
  exact h2

theorem share_dbl' {n S : Nat} (hn : n < B 53) (h64 : n < 2 ^ 64) (hS : In S) (hS2 : S + bin < inf) : fmul (part (ofInt n)) (dbl S) = dbl (fmul (part (ofInt n)) S) := by
  have hle := share_le hn h64 (show S < inf by omega)
  have hVp := V_part hn h64
  generalize part (ofInt n) = p at *
  rcases hS with rfl | hS
  · rw [dbl_zero]
    have e : fmul p 0 = 0 := by unfold fmul; rw [V_zero, Nat.mul_zero, rnd_zero]
    rw [e, dbl_zero]
  · by_cases h0 : n = 0
    · subst h0
      rw [Nat.zero_mul] at hVp
      unfold fmul
      rw [hVp, Nat.zero_mul, Nat.zero_mul, rnd_zero, dbl_zero]
    · have hbS : bin ≤ S := by rw [lo_def] at hS; rw [bin_def]; omega
      have hVS : B 110 ≤ V S := Nat.le_trans V_lo ((V_le lo_fin (by omega)).2 hS)
      have hVp2 : B 1021 ≤ V p := by
        rw [hVp]
        exact Nat.le_mul_of_pos_left _ (by omega)
      obtain ⟨hne, hlog⟩ := log_prod hVp2 hVS
      have hVd := V_dbl hbS
      have hS0 : S ≠ 0 := by have := bin_pos; omega
      clear hVp hVp2 hVS hn h64 hS
      unfold fmul at hle
      have hrd := rnd_dbl (V p * V S) (-2148) hne (by omega) (by omega) (by omega)
      have hnz : rnd (V p * V S) (-2148) ≠ 0 := by
        rw [rnd_eq' _ _ hne]
        have hk := le_kept (V p * V S) (-2148) hne (by unfold lastP; omega)
        have hi := inf_def
        omega
      rw [dbl_pos hS0]
      unfold fmul
      rw [dbl_pos hnz, hVd, ← Nat.mul_assoc]
      exact hrd
theorem share_dbl {d S : Nat} (hd : d < 2 ^ 64) (hS : In S) (hS2 : S + bin < inf) : fmul (part (ofInt (d / 2048))) (dbl S) = dbl (fmul (part (ofInt (d / 2048))) S) :=
  share_dbl' (show d / 2048 < 2 ^ 53 by omega) (by omega) hS hS2

theorem dbl_max (a b : Nat) : dbl (max a b) = max (dbl a) (dbl b) := by
  by_cases h : a < b
  · have := dbl_lt.2 h
    rw [Nat.max_eq_right (by omega), Nat.max_eq_right (by omega)]
  · have : ¬ dbl a < dbl b := fun h2 => h (dbl_lt.1 h2)
    rw [Nat.max_eq_left (by omega), Nat.max_eq_left (by omega)]
theorem max_dbl (m : List Nat) : ∀ s, (m.map dbl).foldl max (dbl s) = dbl (m.foldl max s) := by
  induction m with
  | nil => intro s; rfl
  | cons x m ih => intro s; rw [List.map_cons, List.foldl_cons, List.foldl_cons, ← dbl_max, ih]
theorem maxC_dbl (m : List Nat) : maxC (m.map dbl) = dbl (maxC m) := max_dbl m 0
theorem ends_none {m : List Nat} : ∀ k, (∀ j, j < k → m.getD j 0 ≠ inf) → ends m k = [] := by
  intro k
  induction k with
  | zero => intro _; rfl
  | succ k ih =>
    intro h
    have e : ends m (k + 1) = if m.getD k 0 = inf then ends m k ++ [(k : Int)] else ends m k := rfl
    rw [e, if_neg (h k (by omega)), ih (fun j hj => h j (by omega))]
theorem lastC_dbl (m : List Nat) : ∀ k, lastC (m.map dbl) k = lastC m k := by
  intro k
  induction k with
  | zero => rfl
  | succ k ih =>
    have e1 : lastC (m.map dbl) (k + 1) = if 0 < (m.map dbl).getD k 0 then (k : Int) else lastC (m.map dbl) k := rfl
    have e2 : lastC m (k + 1) = if 0 < m.getD k 0 then (k : Int) else lastC m k := rfl
    rw [e1, e2, ih, getD_dbl]
    have h : 0 < dbl (m.getD k 0) ↔ 0 < m.getD k 0 := by
      have := @dbl_eq0 (m.getD k 0)
      omega
    by_cases h0 : 0 < m.getD k 0
    · rw [if_pos h0, if_pos (h.2 h0)]
    · rw [if_neg h0, if_neg (fun h2 => h0 (h.1 h2))]
theorem scan_dbl {m : List Nat} (hm : Mid m) (sh : Nat) : ∀ n k, k + n = m.length → scan (m.map dbl) (dbl sh) k n = scan m sh k n := by
  intro n
  induction n with
  | zero => intro k _; exact lastC_dbl m k
  | succ n ih =>
    intro k hk
    have e1 : scan (m.map dbl) (dbl sh) k (n + 1) = if dbl sh < sumC ((m.map dbl).take (k + 1)) then (k : Int) else scan (m.map dbl) (dbl sh) (k + 1) n := rfl
    have e2 : scan m sh k (n + 1) = if sh < sumC (m.take (k + 1)) then (k : Int) else scan m sh (k + 1) n := rfl
    rw [e1, e2, (sum_dbl hm (k + 1) (by omega)).1, ih (k + 1) (by omega)]
    by_cases h0 : sh < sumC (m.take (k + 1))
    · rw [if_pos h0, if_pos (dbl_lt.2 h0)]
    · rw [if_neg h0, if_neg (fun h2 => h0 (dbl_lt.1 h2))]
theorem hi_lt : hi + bin < inf := by decide +kernel

theorem pick_dbl (l t : List Nat) (d : Nat) (hd : d < 2 ^ 64) (hlen : t.length = l.length) (hm : t.map cnt = (l.map cnt).map dbl) (h : ∀ x ∈ l, In (cnt x) ∧ cnt x ≤ hi) : pickF t d = pickF l d := by
  unfold pickF
  rw [hlen, hm, maxC_dbl]
  by_cases h1 : l.length = 0 ∨ 64 < l.length
  · rw [if_pos h1, if_pos h1]
  · rw [if_neg h1, if_neg h1]
    by_cases h2 : maxC (l.map cnt) = 0
    · rw [if_pos h2, if_pos (by rw [h2]; rfl)]
    · rw [if_neg h2, if_neg (fun h3 => h2 (dbl_eq0.1 h3))]
      have hmid : Mid (l.map cnt) := ⟨by rw [List.length_map]; omega, by
        intro x hx
        obtain ⟨y, hy, rfl⟩ := List.mem_map.1 hx
        exact h y hy⟩
      have hml : (l.map cnt).length = l.length := List.length_map ..
      generalize hmm : l.map cnt = m at *
      have hlt := hi_lt
      have hb := bin_pos
      have he1 : ends m l.length = [] := ends_none _ (fun j hj => by
        have := (hmid.2 _ (getD_mem_ m j (by omega))).2
        omega)
      have he2 : ends (m.map dbl) l.length = [] := ends_none _ (fun j hj => by
        rw [getD_dbl]
        have := (hmid.2 _ (getD_mem_ m j (by omega))).2
        unfold dbl
        split <;> omega)
      rw [he1, he2]
      simp only [List.length_nil, Nat.lt_irrefl, if_false]
      have hs := sum_mid hmid m.length
      have hsd := sum_dbl hmid m.length (Nat.le_refl _)
      rw [List.take_length] at hs hsd
      have hl2 : (m.map dbl).length = m.length := List.length_map ..
      rw [← hl2, List.take_length] at hsd
      obtain ⟨hsd, hin⟩ := hsd
      have hf1 : fin m = m := by unfold fin; rw [if_neg (by omega)]
      have hf2 : fin (m.map dbl) = m.map dbl := by
        unfold fin
        rw [if_neg]
        rw [hsd]
        unfold dbl
        split <;> omega
      unfold share
      rw [hf1, hf2, hsd, share_dbl hd hin hs, scan_dbl hmid _ _ _ (by omega)]
end Go.Proofs.Ytakfkkpcdnphlaa
