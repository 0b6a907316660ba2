/- Items and readers, plain: which may be, and what comes of an octet. -/
import Derived.Test.YtkbblbgiheclfaaDoorWMore
namespace Go.Proofs.YtkbblbgiheclfaaDoor

/-- An item. -/
structure It where
  k : Int
  a : Int
  b : Int
  l : List Int
deriving DecidableEq
/-- A reader. -/
structure Rd where
  i : Int
  v : Int
  o : Int
  l : List Int
deriving DecidableEq

def Oct (bs : List Int) : Prop := ∀ x ∈ bs, 0 ≤ x ∧ x ≤ 255
theorem Oct.at {bs : List Int} (h : Oct bs) (i : Nat) : 0 ≤ bs.getD i 0 ∧ bs.getD i 0 ≤ 255 := by
  rw [List.getD_eq_getElem?_getD]
  rcases Nat.lt_or_ge i bs.length with hi | hi
  · rw [List.getElem?_eq_getElem hi]
    exact h _ (List.getElem_mem hi)
  · rw [List.getElem?_eq_none hi]
    decide
theorem Oct.take {bs : List Int} (h : Oct bs) (n : Nat) : Oct (bs.take n) := fun x hx => h x (List.mem_of_mem_take hx)
theorem Oct.drop {bs : List Int} (h : Oct bs) (n : Nat) : Oct (bs.drop n) := fun x hx => h x (List.mem_of_mem_drop hx)
theorem Oct.nil : Oct [] := fun x hx => by cases hx
theorem Oct.app {a b : List Int} (h : Oct a) (k : Oct b) : Oct (a ++ b) := fun x hx => (List.mem_append.1 hx).elim (h x) (k x)
theorem Oct.one {c : Int} (h0 : 0 ≤ c) (h1 : c ≤ 255) : Oct [c] := fun x hx => by rw [List.mem_singleton.1 hx]; exact ⟨h0, h1⟩

/-- Octets are the same as text just if they are the same. -/
theorem str_eq {xs ys : List Int} (hx : Oct xs) (hy : Oct ys) : ((strOfNums xs).toList == (strOfNums ys).toList) = decide (xs = ys) := by
  by_cases h : xs = ys
  · subst h
    rw [decide_eq_true rfl]
    exact beq_self_eq_true _
  · rw [decide_eq_false h, beq_eq_false_iff_ne]
    intro e
    apply h
    rw [ByteArray.toList_eq, ByteArray.toList_eq] at e
    have key : ∀ a b : List Int, Oct a → Oct b → a.map (fun n => UInt8.ofNat n.toNat) = b.map (fun n => UInt8.ofNat n.toNat) → a = b := by
      intro a
      induction a with
      | nil => intro b _ _ h; cases b with
        | nil => rfl
        | cons y b => cases h
      | cons x a ih =>
        intro b ha hb h
        cases b with
        | nil => cases h
        | cons y b =>
          simp only [List.map_cons, List.cons.injEq] at h
          have h1 := ha x (by simp)
          have h2 := hb y (by simp)
          have hxy : x = y := by
            have h3 := congrArg UInt8.toNat h.1
            simp at h3
            omega
          rw [hxy, ih b (fun z hz => ha z (by simp [hz])) (fun z hz => hb z (by simp [hz])) h.2]
    exact key xs ys hx hy (by simpa [strOfNums] using e)
end Go.Proofs.YtkbblbgiheclfaaDoor
