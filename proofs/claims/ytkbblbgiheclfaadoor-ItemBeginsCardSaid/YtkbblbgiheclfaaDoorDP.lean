/- Plain: 255 told twice; what bytes.Count, bytes.Index answer. -/
import Derived.Test.YtkbblbgiheclfaaDoorD0
import Derived.Lib.BytesEntry
namespace Go.Proofs.YtkbblbgiheclfaaDoor.Dr
open Go.RowKit

/-- 255 told twice. -/
def dblC (c : Int) : List Int := if c = 255 then [255, 255] else [c]
def dblF (bs : List Int) : List Int := bs.flatMap dblC
theorem dbl_app (a b : List Int) : dblF (a ++ b) = dblF a ++ dblF b := List.flatMap_append
theorem dbl_none {bs : List Int} (h : bs.count 255 = 0) : dblF bs = bs := by
  induction bs with
  | nil => rfl
  | cons c bs ih =>
    have hc : c ≠ 255 := fun e => by subst e; simp at h
    rw [List.count_cons_of_ne hc] at h
    show dblC c ++ dblF bs = c :: bs
    rw [ih h, dblC, if_neg hc]
    rfl
theorem dbl_len (bs : List Int) : (dblF bs).length = bs.length + bs.count 255 := by
  induction bs with
  | nil => rfl
  | cons c bs ih =>
    show (dblC c ++ dblF bs).length = _
    rw [List.length_append, ih]
    by_cases hc : c = 255
    · subst hc
      rw [List.count_cons_self, dblC, if_pos rfl]
      simp
      omega
    · rw [List.count_cons_of_ne hc, dblC, if_neg hc]
      simp
      omega
theorem count_le (bs : List Int) : bs.count 255 ≤ bs.length := List.count_le_length
/-- An octet's byte. -/
theorem byte_eq {x : Int} (h : 0 ≤ x ∧ x ≤ 255) : (UInt8.ofNat x.toNat == (255 : Int).toNat.toUInt8) = decide (x = 255) := by
  obtain ⟨h0, h1⟩ := h
  by_cases e : x = 255
  · subst e
    decide
  · rw [decide_eq_false e, beq_eq_false_iff_ne]
    intro he
    have h3 := congrArg UInt8.toNat he
    simp at h3
    omega
theorem count_byte {bs : List Int} (h : Oct bs) : Lib.countByte (Lib.bytesOf bs) (255 : Int).toNat.toUInt8 = bs.count 255 := by
  unfold Lib.countByte Lib.bytesOf
  induction bs with
  | nil => rfl
  | cons c bs ih =>
    rw [List.map_cons, List.count_cons, List.count_cons, ih (fun x hx => h x (by simp [hx])), byte_eq (h c (by simp))]
    by_cases e : c = 255 <;> simp [e]
theorem index_byte {bs : List Int} (h : Oct bs) (hm : 0 < bs.count 255) : ∃ q : Nat, Lib.indexByte (Lib.bytesOf bs) (255 : Int).toNat.toUInt8 = (q : Int) ∧ q < bs.length ∧ (bs.take q).count 255 = 0 ∧ bs.take (q + 1) = bs.take q ++ [255] := by
  induction bs with
  | nil => simp at hm
  | cons c bs ih =>
    unfold Lib.bytesOf at ih ⊢
    rw [List.map_cons, Lib.indexByte, byte_eq (h c (by simp))]
    by_cases e : c = 255
    · subst e
      exact ⟨0, by simp, by simp, by simp, by simp⟩
    · rw [List.count_cons_of_ne e] at hm
      obtain ⟨q, h1, h2, h3, h4⟩ := ih (fun x hx => h x (by simp [hx])) hm
      refine ⟨q + 1, ?_, by simp; omega, ?_, ?_⟩
      · rw [h1, decide_eq_false e]
        have : ((q : Int) == -1) = false := beq_eq_false_iff_ne.2 (by omega)
        simp [this]
      · rw [List.take_succ_cons, List.count_cons_of_ne e, h3]
      · rw [List.take_succ_cons, h4]
        rfl
/-- Octets as values. -/
def obV (l : List Int) : List Value := l.map (Value.int .u8)
theorem obV_len (l : List Int) : (obV l).length = l.length := List.length_map ..
theorem obV_app (a b : List Int) : obV (a ++ b) = obV a ++ obV b := List.map_append
theorem obV_one (l : List Int) : ∀ v ∈ obV l, v.oneCell' = true := fun v hv => by
  obtain ⟨x, _, rfl⟩ := List.mem_map.1 hv
  rfl
/-- What lies behind what was written is turned. -/
theorem splice_next (a b : List Int) (n k : Nat) (hk : k = a.length) : splice (obV (a ++ List.replicate n 0)) k (obV b) = obV (a ++ b ++ List.replicate (n - b.length) 0) := by
  subst hk
  unfold splice
  rw [obV_app, obV_app, obV_app, obV_len]
  have h1 : (obV a ++ obV (List.replicate n 0)).take a.length = obV a := by
    rw [List.take_append_of_le_length (by rw [obV_len]; omega), List.take_of_length_le (by rw [obV_len]; omega)]
  have h2 : (obV a ++ obV (List.replicate n 0)).drop (a.length + b.length) = obV (List.replicate (n - b.length) 0) := by
    rw [← obV_len a, List.drop_append, obV_len]
    simp [obV]
  rw [h1, h2, List.append_assoc]
/-- One round: from start on to the next 255. -/
theorem round_dbl {xs : List Int} {s i q : Nat} (hi : (xs.take s).count 255 = i) (hq : q < (xs.drop s).length) (h0 : ((xs.drop s).take q).count 255 = 0) (h1 : (xs.drop s).take (q + 1) = (xs.drop s).take q ++ [255]) :
    dblF (xs.take (s + q + 1)) = dblF (xs.take s) ++ (xs.drop s).take q ++ [255, 255] ∧ (xs.take (s + q + 1)).count 255 = i + 1 := by
  have hs : s ≤ xs.length := by rw [List.length_drop] at hq; omega
  have e : xs.take (s + q + 1) = xs.take s ++ ((xs.drop s).take q ++ [255]) := by
    rw [← h1, Nat.add_assoc, List.take_add]
  constructor
  · rw [e, dbl_app, dbl_app, dbl_none h0, List.append_assoc]
    rfl
  · rw [e, List.count_append, List.count_append, hi, h0]
    simp
theorem split_count (xs : List Int) (s : Nat) : xs.count 255 = (xs.take s).count 255 + (xs.drop s).count 255 := by
  rw [← List.count_append, List.take_append_drop]
theorem last_dbl {xs : List Int} {s : Nat} (h : (xs.drop s).count 255 = 0) : dblF xs = dblF (xs.take s) ++ xs.drop s := by
  have := dbl_app (xs.take s) (xs.drop s)
  rw [List.take_append_drop, dbl_none h] at this
  exact this
end Go.Proofs.YtkbblbgiheclfaaDoor.Dr
