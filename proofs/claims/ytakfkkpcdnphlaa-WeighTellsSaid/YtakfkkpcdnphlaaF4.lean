/- What Pick picks: the plain law. -/
import Derived.Test.YtakfkkpcdnphlaaWD
namespace Go.Proofs.Ytakfkkpcdnphlaa

theorem ends_mem {l : List Nat} {x : Int} : ∀ k, x ∈ ends l k → ∃ j : Nat, j < k ∧ x = (j : Int) ∧ l.getD j 0 = inf := by
  intro k
  induction k with
  | zero => intro h; simp [ends] at h
  | succ k ih =>
    intro h
    have he : ends l (k + 1) = if l.getD k 0 = inf then ends l k ++ [(k : Int)] else ends l k := rfl
    rw [he] at h
    split at h
    · rename_i hi
      rcases List.mem_append.1 h with h | h
      · obtain ⟨j, h1, h2, h3⟩ := ih h
        exact ⟨j, by omega, h2, h3⟩
      · exact ⟨k, by omega, by simpa using h, hi⟩
    · obtain ⟨j, h1, h2, h3⟩ := ih h
      exact ⟨j, by omega, h2, h3⟩

theorem lastC_spec {l : List Nat} : ∀ k, (∃ j, j < k ∧ 0 < l.getD j 0) → ∃ j : Nat, j < k ∧ lastC l k = (j : Int) ∧ 0 < l.getD j 0 := by
  intro k
  induction k with
  | zero => rintro ⟨j, h, _⟩; omega
  | succ k ih =>
    rintro ⟨j, hj, h0⟩
    have he : lastC l (k + 1) = if 0 < l.getD k 0 then (k : Int) else lastC l k := rfl
    rw [he]
    split
    · rename_i hk
      exact ⟨k, by omega, rfl, hk⟩
    · rename_i hk
      have hne : j ≠ k := by rintro rfl; exact hk h0
      obtain ⟨i, h1, h2, h3⟩ := ih ⟨j, by omega, h0⟩
      exact ⟨i, by omega, h2, h3⟩

theorem scan_spec {l : List Nat} (sh : Nat) (h0 : ∃ j, j < l.length ∧ 0 < l.getD j 0) : ∀ n k, k + n = l.length → ¬ sh < sumC (l.take k) → ∃ j : Nat, j < l.length ∧ scan l sh k n = (j : Int) ∧ 0 < l.getD j 0 := by
  intro n
  induction n with
  | zero =>
    intro k hk _
    obtain rfl : k = l.length := by omega
    exact lastC_spec _ h0
  | succ n ih =>
    intro k hk hs
    have he : scan l sh k (n + 1) = if sh < sumC (l.take (k + 1)) then (k : Int) else scan l sh (k + 1) n := rfl
    rw [he]
    split
    · rename_i hlt
      refine ⟨k, by omega, rfl, ?_⟩
      rcases Nat.eq_zero_or_pos (l.getD k 0) with hz | hz
      · rw [sumC_snoc l k (by omega), hz, fadd_zero (sumC_le _)] at hlt
        exact absurd hlt hs
      · exact hz
    · rename_i hlt
      exact ih (k + 1) (by omega) hlt

theorem max_pos (l : List Nat) : ∀ s, l.foldl max s ≠ 0 → s ≠ 0 ∨ ∃ j, j < l.length ∧ 0 < l.getD j 0 := by
  induction l with
  | nil => intro s h; exact .inl h
  | cons x l ih =>
    intro s h
    rcases ih (max s x) h with h | ⟨j, hj, hx⟩
    · by_cases hs : s = 0
      · right
        refine ⟨0, by simp, ?_⟩
        show 0 < x
        subst hs
        omega
      · exact .inl hs
    · exact .inr ⟨j + 1, by simpa using hj, by simpa using hx⟩

def B900 : Nat := 1923 * bin
theorem down_B : 0 < down B900 := by decide +kernel
theorem B_fin : B900 < inf := by decide +kernel
theorem sum_B : (List.replicate 64 B900).foldl fadd 0 < inf := by decide +kernel
theorem down_mono {x y : Nat} (hx : x < inf) (hy : y < inf) (h : x ≤ y) : down x ≤ down y := rnd_mono _ ((V_le hx hy).2 h)
theorem down_zero : down 0 = 0 := by decide +kernel
theorem fadd_mono2 {x x' y y' : Nat} (hx' : x' ≤ inf) (hy' : y' ≤ inf) (h : x ≤ x') (h2 : y ≤ y') : fadd x y ≤ fadd x' y' := by
  refine Nat.le_trans (fadd_mono hx' h) ?_
  rw [fadd_comm x' y, fadd_comm x' y']
  exact fadd_mono hy' h2
theorem foldl_rep (l : List Nat) (h : ∀ x ∈ l, x ≤ B900) : ∀ n s t, l.length ≤ n → s ≤ t → t ≤ inf → l.foldl fadd s ≤ (List.replicate n B900).foldl fadd t := by
  induction l with
  | nil =>
    intro n
    induction n with
    | zero => intro s t _ h _; exact h
    | succ n ih =>
      intro s t _ h ht
      refine Nat.le_trans (ih s t (Nat.zero_le _) h ht) ?_
      rw [List.replicate_succ, List.foldl_cons]
      have hb : t ≤ fadd t B900 := le_fadd ht (Nat.le_of_lt B_fin)
      clear ih h
      have key : ∀ n s t, s ≤ t → t ≤ inf → (List.replicate n B900).foldl fadd s ≤ (List.replicate n B900).foldl fadd t := by
        intro n
        induction n with
        | zero => intro s t h _; exact h
        | succ n ih => intro s t h ht; rw [List.replicate_succ, List.foldl_cons, List.foldl_cons]; exact ih _ _ (fadd_mono ht h) (fadd_le_inf _ _)
      exact key n t _ hb (fadd_le_inf _ _)
  | cons x l ih =>
    intro n s t hn hs ht
    obtain ⟨n, rfl⟩ : ∃ m, n = m + 1 := ⟨n - 1, by simp at hn; omega⟩
    rw [List.replicate_succ, List.foldl_cons, List.foldl_cons]
    exact ih (fun y hy => h y (by simp [hy])) n _ _ (by simpa using hn) (fadd_mono2 ht (Nat.le_of_lt B_fin) hs (h x (by simp))) (fadd_le_inf _ _)

theorem getD_map (f : Nat → Nat) (h0 : f 0 = 0) (l : List Nat) (j : Nat) : (l.map f).getD j 0 = f (l.getD j 0) := by
  rw [List.getD_eq_getElem?_getD, List.getD_eq_getElem?_getD, List.getElem?_map]
  cases l[j]? with
  | none => exact h0.symm
  | some x => rfl

theorem fin_pos {m : List Nat} (hf : ∀ j, j < m.length → m.getD j 0 < inf) (hl : m.length ≤ 64) (h0 : ∃ j, j < m.length ∧ 0 < m.getD j 0) : ∃ j, j < (fin m).length ∧ 0 < (fin m).getD j 0 := by
  rw [fin_len]
  unfold fin
  split
  · rename_i hs
    apply Classical.byContradiction
    intro hn
    have hz : ∀ x ∈ m, x ≤ B900 := by
      intro x hx
      obtain ⟨j, hj, rfl⟩ := List.mem_iff_getElem.1 hx
      have he : m.getD j 0 = m[j] := by rw [List.getD_eq_getElem?_getD, List.getElem?_eq_getElem hj]; rfl
      apply Classical.byContradiction
      intro hb
      refine hn ⟨j, hj, ?_⟩
      rw [getD_map down down_zero, he]
      have h2 := hf j hj
      rw [he] at h2
      exact Nat.lt_of_lt_of_le down_B (down_mono B_fin h2 (by omega))
    have := foldl_rep m hz 64 0 0 hl (Nat.le_refl _) (Nat.zero_le _)
    have h2 := sum_B
    have h3 : m.foldl fadd 0 = inf := hs
    omega
  · exact h0

theorem fin_get {m : List Nat} {j : Nat} (h : 0 < (fin m).getD j 0) : 0 < m.getD j 0 := by
  unfold fin at h
  split at h
  · rw [getD_map down down_zero] at h
    rcases Nat.eq_zero_or_pos (m.getD j 0) with hz | hz
    · rw [hz, down_zero] at h; omega
    · exact hz
  · exact h

theorem cnt_zero : cnt 0 = 0 := by decide +kernel
theorem cnts_le (l : List Nat) : ∀ x ∈ l.map cnt, x ≤ inf := fun _ hx => map_cnt_mem hx

theorem pick_cases (l : List Nat) (draw : Nat) :
    (pickF l draw = (0, 1) ∧ (l.length = 0 ∨ 64 < l.length)) ∨
    (pickF l draw = (0, 4) ∧ ∀ j, j < l.length → cnt (l.getD j 0) = 0) ∨
    (∃ j : Nat, pickF l draw = ((j : Int), 0) ∧ j < l.length ∧ 0 < cnt (l.getD j 0) ∧ l.length ≤ 64) := by
  unfold pickF
  split
  · rename_i h
    exact .inl ⟨rfl, h⟩
  · rename_i h1
    split
    · rename_i h2
      refine .inr (.inl ⟨rfl, fun j hj => ?_⟩)
      rw [← getD_map cnt cnt_zero]
      have hm : ∀ (l : List Nat) s, l.foldl max s = 0 → s = 0 ∧ ∀ x ∈ l, x = 0 := by
        intro l
        induction l with
        | nil => intro s h; exact ⟨h, by simp⟩
        | cons x l ih =>
          intro s h
          obtain ⟨a, b⟩ := ih (max s x) h
          refine ⟨by omega, ?_⟩
          intro y hy
          rcases List.mem_cons.1 hy with rfl | hy
          · omega
          · exact b y hy
      exact (hm _ _ h2).2 _ (getD_mem_ _ _ (by simpa using hj))
    · rename_i h2
      refine .inr (.inr ?_)
      have hpos : ∃ j, j < (l.map cnt).length ∧ 0 < (l.map cnt).getD j 0 := by
        rcases max_pos (l.map cnt) 0 h2 with h | h
        · exact absurd rfl h
        · exact h
      split
      · rename_i h3
        have hlt : draw % (ends (l.map cnt) l.length).length < (ends (l.map cnt) l.length).length := Nat.mod_lt _ h3
        have hmem : (ends (l.map cnt) l.length).getD (draw % (ends (l.map cnt) l.length).length) 0 ∈ ends (l.map cnt) l.length := by
          rw [List.getD_eq_getElem?_getD, List.getElem?_eq_getElem hlt]
          exact List.getElem_mem _
        obtain ⟨j, hj, he, hi⟩ := ends_mem _ hmem
        refine ⟨j, by rw [he], hj, ?_, by omega⟩
        rw [← getD_map cnt cnt_zero, hi, inf_def]
        omega
      · rename_i h3
        have hni := noInf (cnts_le l) l.length (by simp) h3
        have hfp := fin_pos (m := l.map cnt) (fun j hj => hni j (by simpa using hj)) (by simp; omega) hpos
        obtain ⟨j, hj, he, hx⟩ := scan_spec (share (l.map cnt) draw) hfp l.length 0 (by rw [fin_len]; simp) (by simp [sumC])
        rw [fin_len, List.length_map] at hj
        refine ⟨j, by rw [he], hj, ?_, by omega⟩
        rw [← getD_map cnt cnt_zero]
        exact fin_get hx
end Go.Proofs.Ytakfkkpcdnphlaa
