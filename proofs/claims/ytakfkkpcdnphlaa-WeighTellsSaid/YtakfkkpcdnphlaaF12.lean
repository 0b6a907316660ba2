/- Octets of a word, and words of octets. -/
import Derived.Test.YtakfkkpcdnphlaaF11
namespace Go.Proofs.Ytakfkkpcdnphlaa

/-- Octets. -/
def Oct (bs : List Int) : Prop := ∀ x ∈ bs, 0 ≤ x ∧ x ≤ 255
theorem Oct.at {bs : List Int} (h : Oct bs) (i : Nat) : 0 ≤ bs.getD i 0 ∧ bs.getD i 0 ≤ 255 := by
  rw [List.getD_eq_getElem?_getD]
  cases hx : bs[i]? with
  | none => exact ⟨by simp, by simp⟩
  | some x => exact h x (List.mem_of_getElem? hx)

/-- The first j octets from place o on, the least first. -/
def pv (bs : List Int) (o : Nat) : Nat → Nat
  | 0 => 0
  | j + 1 => pv bs o j + (bs.getD (o + j) 0).toNat * 2 ^ (8 * j)
theorem pv_lt {bs : List Int} (h : Oct bs) (o : Nat) : ∀ j, pv bs o j < 2 ^ (8 * j) := by
  intro j
  induction j with
  | zero => simp [pv]
  | succ j ih =>
    have hx := Oct.at h (o + j)
    have e : 2 ^ (8 * (j + 1)) = 2 ^ (8 * j) * 256 := by rw [Nat.mul_add, Nat.pow_add]
    have h1 : (bs.getD (o + j) 0).toNat ≤ 255 := by omega
    have h2 : (bs.getD (o + j) 0).toNat * 2 ^ (8 * j) ≤ 255 * 2 ^ (8 * j) := Nat.mul_le_mul_right _ h1
    show pv bs o j + _ < _
    rw [e]
    generalize 2 ^ (8 * j) = p at *
    omega

/-- The words read. -/
def readF (bs : List Int) : List Nat := (List.range (bs.length / 8)).map (fun k => pv bs (8 * k) 8)
theorem readF_len (bs : List Int) : (readF bs).length = bs.length / 8 := by simp [readF]
theorem readF_lt {bs : List Int} (h : Oct bs) : ∀ x ∈ readF bs, x < 2 * sgn := by
  intro x hx
  obtain ⟨k, _, rfl⟩ := List.mem_map.1 hx
  exact Nat.lt_of_lt_of_le (pv_lt h (8 * k) 8) (by decide)
theorem readF_get {bs : List Int} {k : Nat} (h : k < bs.length / 8) : (readF bs).getD k 0 = pv bs (8 * k) 8 := by
  have e : (readF bs)[k]? = some (pv bs (8 * k) 8) := by
    unfold readF
    rw [List.getElem?_map, List.getElem?_range h, Option.map_some]
  rw [List.getD_eq_getElem?_getD, e, Option.getD_some]

/-- A word's octets, the least first. -/
def oc (n : Nat) : Nat → List Int
  | 0 => []
  | j + 1 => oc n j ++ [((n / 2 ^ (8 * j) % 256 : Nat) : Int)]
theorem oc_len (n : Nat) : ∀ j, (oc n j).length = j := by
  intro j
  induction j with
  | zero => rfl
  | succ j ih => show (oc n j ++ _).length = _; rw [List.length_append, ih]; rfl
theorem oc_get (n : Nat) : ∀ j i, i < j → (oc n j).getD i 0 = ((n / 2 ^ (8 * i) % 256 : Nat) : Int) := by
  intro j
  induction j with
  | zero => intro i h; omega
  | succ j ih =>
    intro i h
    show (oc n j ++ _).getD i 0 = _
    rw [List.getD_eq_getElem?_getD]
    by_cases hi : i < j
    · rw [List.getElem?_append_left (by rw [oc_len]; exact hi), ← List.getD_eq_getElem?_getD, ih i hi]
    · obtain rfl : i = j := by omega
      rw [List.getElem?_append_right (by rw [oc_len]; omega), oc_len, Nat.sub_self]
      rfl
theorem oc_oct (n : Nat) : ∀ j, Oct (oc n j) := by
  intro j
  induction j with
  | zero => intro x hx; cases hx
  | succ j ih =>
    intro x hx
    rcases List.mem_append.1 hx with hx | hx
    · exact ih x hx
    · rw [List.mem_singleton] at hx
      subst hx
      omega

/-- What is laid of a word: no number is one and the same. -/
def nanq (x : Nat) : Bool := decide ((inf < x ∧ x < sgn) ∨ (sgn + inf < x))
def lay1 (x : Nat) : Nat := if nanq x = true then 9221120237041090561 else x
def layF (l : List Nat) : Nat → List Int
  | 0 => []
  | k + 1 => layF l k ++ oc (lay1 (l.getD k 0)) 8
theorem layF_len (l : List Nat) : ∀ k, (layF l k).length = 8 * k := by
  intro k
  induction k with
  | zero => rfl
  | succ k ih => show (layF l k ++ _).length = _; rw [List.length_append, ih, oc_len]; omega
theorem layF_oct (l : List Nat) : ∀ k, Oct (layF l k) := by
  intro k
  induction k with
  | zero => intro x hx; cases hx
  | succ k ih =>
    intro x hx
    rcases List.mem_append.1 hx with hx | hx
    · exact ih x hx
    · exact oc_oct _ _ x hx
theorem layF_get (l : List Nat) : ∀ k i j, i < k → j < 8 → (layF l k).getD (8 * i + j) 0 = ((lay1 (l.getD i 0) / 2 ^ (8 * j) % 256 : Nat) : Int) := by
  intro k
  induction k with
  | zero => intro i j h; omega
  | succ k ih =>
    intro i j hi hj
    show (layF l k ++ _).getD _ 0 = _
    rw [List.getD_eq_getElem?_getD]
    by_cases h : i < k
    · rw [List.getElem?_append_left (by rw [layF_len]; omega), ← List.getD_eq_getElem?_getD, ih i j h hj]
    · obtain rfl : i = k := by omega
      rw [List.getElem?_append_right (by rw [layF_len]; omega), layF_len, Nat.add_sub_cancel_left, ← List.getD_eq_getElem?_getD, oc_get _ 8 j hj]

theorem digits {n : Nat} {bs : List Int} {o : Nat} (h : ∀ j, j < 8 → bs.getD (o + j) 0 = ((n / 2 ^ (8 * j) % 256 : Nat) : Int)) : ∀ j, j ≤ 8 → pv bs o j = n % 2 ^ (8 * j) := by
  intro j
  induction j with
  | zero => intro _; simp [pv, Nat.mod_one]
  | succ j ih =>
    intro hj
    show pv bs o j + _ = _
    rw [ih (by omega), h j (by omega), Int.toNat_natCast, Nat.mul_add, Nat.mul_one, Nat.pow_add]
    rw [Nat.mod_mul, Nat.mul_comm (n / 2 ^ (8 * j) % 256)]
theorem lay1_lt {x : Nat} (h : x < 2 * sgn) : lay1 x < 2 ^ 64 := by
  unfold lay1
  split
  · decide
  · exact h
/-- What was laid is read. -/
theorem read_lay {l : List Nat} (h : ∀ x ∈ l, x < 2 * sgn) : readF (layF l l.length) = l.map lay1 := by
  apply List.ext_getElem
  · rw [readF_len, layF_len, List.length_map]; omega
  · intro k h1 h2
    have hk : k < l.length := by rw [List.length_map] at h2; exact h2
    have e1 := readF_get (bs := layF l l.length) (k := k) (by rw [layF_len]; omega)
    rw [List.getD_eq_getElem?_getD, List.getElem?_eq_getElem h1] at e1
    have e2 := digits (n := lay1 (l.getD k 0)) (bs := layF l l.length) (o := 8 * k) (fun j hj => layF_get l l.length k j hk hj) 8 (Nat.le_refl _)
    have e3 : (readF (layF l l.length))[k] = pv (layF l l.length) (8 * k) 8 := e1
    rw [e3, e2, List.getElem_map]
    have e4 : l.getD k 0 = l[k] := by rw [List.getD_eq_getElem?_getD, List.getElem?_eq_getElem hk]; rfl
    rw [e4]
    exact Nat.mod_eq_of_lt (lay1_lt (h _ (List.getElem_mem _)))
end Go.Proofs.Ytakfkkpcdnphlaa
