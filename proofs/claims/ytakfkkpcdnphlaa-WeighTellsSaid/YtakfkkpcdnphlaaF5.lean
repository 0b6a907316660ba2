/- A greater draw picks no earlier one; draw 0 picks the first that counts. -/
import Derived.Test.YtakfkkpcdnphlaaWF
namespace Go.Proofs.Ytakfkkpcdnphlaa

theorem lastC_ge {l : List Nat} {j : Nat} (h : 0 < l.getD j 0) : ∀ k, j < k → (j : Int) ≤ lastC l k := by
  intro k
  induction k with
  | zero => intro h; omega
  | succ k ih =>
    intro hj
    have he : lastC l (k + 1) = if 0 < l.getD k 0 then (k : Int) else lastC l k := rfl
    rw [he]
    split
    · omega
    · rename_i hk
      refine ih ?_
      by_cases e : j = k
      · subst e; exact absurd h hk
      · omega
theorem scan_ge {l : List Nat} {j k0 : Nat} (sh : Nat) (hj : j < l.length) (h : 0 < l.getD j 0) (h0 : k0 ≤ j) : ∀ n k, k + n = l.length → k0 ≤ k → (k0 : Int) ≤ scan l sh k n := by
  intro n
  induction n with
  | zero =>
    intro k hk hk0
    have : (j : Int) ≤ lastC l k := lastC_ge h k (by omega)
    show (k0 : Int) ≤ lastC l k
    omega
  | succ n ih =>
    intro k hk hk0
    have he : scan l sh k (n + 1) = if sh < sumC (l.take (k + 1)) then (k : Int) else scan l sh (k + 1) n := rfl
    rw [he]
    split
    · omega
    · exact ih (k + 1) (by omega) (by omega)
theorem scan_mono {l : List Nat} {sh sh' : Nat} (hs : sh ≤ sh') : ∀ n k, k + n = l.length → ¬ sh < sumC (l.take k) → scan l sh k n ≤ scan l sh' k n := by
  intro n
  induction n with
  | zero => intro k _ _; exact Int.le_refl _
  | succ n ih =>
    intro k hk hns
    have he : ∀ s, scan l s k (n + 1) = if s < sumC (l.take (k + 1)) then (k : Int) else scan l s (k + 1) n := fun _ => rfl
    by_cases h1 : sh < sumC (l.take (k + 1))
    · rw [he sh, if_pos h1]
      refine scan_ge (j := k) sh' (by omega) ?_ (Nat.le_refl _) _ _ hk (Nat.le_refl _)
      rcases Nat.eq_zero_or_pos (l.getD k 0) with hz | hz
      · rw [sumC_snoc l k (by omega), hz, fadd_zero (sumC_le _)] at h1
        exact absurd h1 hns
      · exact hz
    · rw [he sh, if_neg h1, he sh', if_neg (by omega)]
      exact ih (k + 1) (by omega) h1
theorem scan_zero {l : List Nat} (hl : ∀ x ∈ l, x ≤ inf) : ∀ n k, k + n = l.length → (∀ i, i < k → l.getD i 0 = 0) → ∀ i : Nat, (i : Int) < scan l 0 k n → i < l.length → l.getD i 0 = 0 := by
  intro n
  induction n with
  | zero => intro k hk hz i _ hi; exact hz i (by omega)
  | succ n ih =>
    intro k hk hz i hi hil
    have he : scan l 0 k (n + 1) = if 0 < sumC (l.take (k + 1)) then (k : Int) else scan l 0 (k + 1) n := rfl
    rw [he] at hi
    split at hi
    · exact hz i (by omega)
    · rename_i hs
      refine ih (k + 1) (by omega) ?_ i hi hil
      intro m hm
      by_cases hmk : m < k
      · exact hz m hmk
      · obtain rfl : m = k := by omega
        rw [sumC_snoc l m (by omega)] at hs
        have := le_fadd (hl _ (getD_mem_ l m (by omega))) (sumC_le (l.take m))
        rw [fadd_comm] at this
        omega

theorem part_fin {d : Nat} (hd : d < 2 ^ 64) : part (ofInt (d / 2048)) < inf :=
  have h := ofInt_fin (Nat.lt_of_le_of_lt (Nat.div_le_self d 2048) hd)
  Nat.lt_of_le_of_lt (part_le h) h
theorem share_mono (l : List Nat) {a b : Nat} (h : a ≤ b) (hb : b < 2 ^ 64) : share l a ≤ share l b := by
  have hq : a / 2048 ≤ b / 2048 := Nat.div_le_div_right h
  exact fmul_mono (part_fin (by omega)) (part_fin hb) (part_mono (ofInt_fin (Nat.lt_of_le_of_lt (Nat.div_le_self a 2048) (by omega))) (ofInt_fin (Nat.lt_of_le_of_lt (Nat.div_le_self b 2048) hb)) (ofInt_mono hq))
theorem part_nought : part (ofInt (0 / 2048)) = 0 := by decide +kernel
theorem share_zero (l : List Nat) : share l 0 = 0 := by
  unfold share
  rw [part_nought]
  unfold fmul
  rw [V_zero, Nat.zero_mul, rnd_zero]

/-- Which is the first, from place k on, that counts: -1 where none does. -/
def FirstP (l : List Nat) (k : Nat) (f : Int) : Prop :=
  (f = -1 ∧ ∀ j, k ≤ j → j < l.length → cnt (l.getD j 0) = 0) ∨ (∃ n : Nat, f = (n : Int) ∧ k ≤ n ∧ n < l.length ∧ 0 < cnt (l.getD n 0) ∧ ∀ j, k ≤ j → j < n → cnt (l.getD j 0) = 0)

theorem no_ends {l : List Nat} (h : ∀ j, j < l.length → l.getD j 0 ≠ inf) : ∀ k, k ≤ l.length → ends l k = [] := by
  intro k
  induction k with
  | zero => intro _; rfl
  | succ k ih =>
    intro hk
    have he : ends l (k + 1) = if l.getD k 0 = inf then ends l k ++ [(k : Int)] else ends l k := rfl
    rw [he, if_neg (h k (by omega)), ih (by omega)]

theorem pick_rises (l : List Nat) {a b : Nat} (hab : a ≤ b) (hb : b < 2 ^ 64) (hni : ∀ j, j < l.length → l.getD j 0 ≠ inf) (f : Int) (hf : FirstP l 0 f) :
    (∃ e : Int, e ≠ 0 ∧ pickF l a = (0, e) ∧ pickF l b = (0, e) ∧ pickF l 0 = (0, e)) ∨
    (∃ x y z n : Nat, pickF l a = ((x : Int), 0) ∧ pickF l b = ((y : Int), 0) ∧ pickF l 0 = ((z : Int), 0) ∧ x ≤ y ∧ z ≤ x ∧ f = (n : Int) ∧ n < l.length ∧ (z = n ∨ down (cnt (l.getD n 0)) = 0)) := by
  have hp : ∀ d, pickF l d = if l.length = 0 ∨ 64 < l.length then (0, 1) else if maxC (l.map cnt) = 0 then (0, 4) else (scan (fin (l.map cnt)) (share (l.map cnt) d) 0 l.length, 0) := by
    intro d
    unfold pickF
    rw [ends_cnt, no_ends hni _ (Nat.le_refl _)]
    rfl
  by_cases h1 : l.length = 0 ∨ 64 < l.length
  · exact .inl ⟨1, by omega, by rw [hp, if_pos h1], by rw [hp, if_pos h1], by rw [hp, if_pos h1]⟩
  by_cases h2 : maxC (l.map cnt) = 0
  · exact .inl ⟨4, by omega, by rw [hp, if_neg h1, if_pos h2], by rw [hp, if_neg h1, if_pos h2], by rw [hp, if_neg h1, if_pos h2]⟩
  right
  have hpos : ∃ j, j < (l.map cnt).length ∧ 0 < (l.map cnt).getD j 0 := by
    rcases max_pos (l.map cnt) 0 h2 with h | h
    · exact absurd rfl h
    · exact h
  have hmf : ∀ j, j < (l.map cnt).length → (l.map cnt).getD j 0 < inf := by
    intro j hj
    rw [getD_map cnt cnt_zero]
    have h3 := cnt_le (l.getD j 0)
    have h4 := hni j (by simpa using hj)
    have h5 : cnt (l.getD j 0) ≠ inf := fun h => h4 ((cnt_inf _).1 h)
    omega
  have hfp := fin_pos (m := l.map cnt) hmf (by simp; omega) hpos
  have hfl : (fin (l.map cnt)).length = l.length := by rw [fin_len, List.length_map]
  have hspec : ∀ d, ∃ j : Nat, pickF l d = ((j : Int), 0) ∧ scan (fin (l.map cnt)) (share (l.map cnt) d) 0 l.length = (j : Int) ∧ j < l.length ∧ 0 < cnt (l.getD j 0) := by
    intro d
    obtain ⟨j, hj, he, hx⟩ := scan_spec (share (l.map cnt) d) hfp l.length 0 (by rw [hfl]; omega) (by simp [sumC])
    refine ⟨j, by rw [hp, if_neg h1, if_neg h2, he], he, by omega, ?_⟩
    rw [← getD_map cnt cnt_zero]
    exact fin_get hx
  obtain ⟨x, px, sx, _, _⟩ := hspec a
  obtain ⟨y, py, sy, _, _⟩ := hspec b
  obtain ⟨z, pz, sz, hz1, hz2⟩ := hspec 0
  have hm : ∀ {c d : Nat}, c ≤ d → d < 2 ^ 64 → scan (fin (l.map cnt)) (share (l.map cnt) c) 0 l.length ≤ scan (fin (l.map cnt)) (share (l.map cnt) d) 0 l.length :=
    fun hcd hd => scan_mono (share_mono _ hcd hd) _ _ (by rw [hfl]; omega) (by simp [sumC])
  have hxy := hm hab hb
  have hzx := hm (Nat.zero_le a) (Nat.lt_of_le_of_lt hab hb)
  rw [sx, sy] at hxy
  rw [sx, sz] at hzx
  rcases hf with ⟨_, hall⟩ | ⟨n, hn, _, hnl, hn0, hnall⟩
  · exact absurd (hall z (Nat.zero_le _) hz1) (by omega)
  · refine ⟨x, y, z, n, px, py, pz, by omega, by omega, hn, hnl, ?_⟩
    by_cases hzn : z = n
    · exact .inl hzn
    · right
      have hnz : n < z := by
        apply Classical.byContradiction
        intro h
        have := hnall z (Nat.zero_le _) (by omega)
        omega
      rw [share_zero] at sz
      have := scan_zero (fin_le (cnts_le l)) l.length 0 (by rw [hfl]; omega) (fun i hi => absurd hi (by omega)) n (by rw [sz]; omega) (by rw [hfl]; omega)
      unfold fin at this
      split at this
      · rwa [getD_map down down_zero, getD_map cnt cnt_zero] at this
      · rw [getD_map cnt cnt_zero] at this
        omega
end Go.Proofs.Ytakfkkpcdnphlaa
