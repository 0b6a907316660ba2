/- What comes of an octet, plain. -/
import Derived.Test.YtkbblbgiheclfaaDoorRA
namespace Go.Proofs.YtkbblbgiheclfaaDoor

def inR (i : Int) : Rd := ⟨i, 0, 0, []⟩
def dataF (c : Int) : Rd × List It := if c = 255 then (inR 2, []) else if c = 13 then (inR 1, [datI c]) else (inR 0, [datI c])
def cmdI (c : Int) : It := ⟨2, c, 0, []⟩
def cmdF (c : Int) : Rd × List It := if c = 255 then (inR 0, [datI c]) else if 251 ≤ c then (⟨3, c, 0, []⟩, []) else if c = 250 then (inR 4, []) else if mayI (cmdI c) = true then (inR 0, [cmdI c]) else (inR 0, [])
def keepF (r : Rd) (c : Int) : Rd × List It := if r.l.length = 512 then (inR 7, []) else (⟨5, r.v, r.o, r.l ++ [c]⟩, [])
def backF (c : Int) : Rd × List It := if c = 10 ∨ c = 0 then (inR 0, []) else dataF c
def verbF (r : Rd) (c : Int) : Rd × List It := (inR 0, [⟨3, r.v, c, []⟩])
def optF (c : Int) : Rd × List It := (⟨5, 0, c, []⟩, [])
def subF (r : Rd) (c : Int) : Rd × List It := if c = 255 then (⟨6, r.v, r.o, r.l⟩, []) else keepF r c
def endF (r : Rd) (c : Int) : Rd × List It := if c = 255 then keepF r c else if c = 240 then (inR 0, [⟨4, r.o, 0, r.l⟩]) else cmdF c
def skipF (r : Rd) (c : Int) : Rd × List It := if c = 255 then (inR 8, []) else (r, [])
def skeF (c : Int) : Rd × List It := if c = 255 then (inR 7, []) else if c = 240 then (inR 0, []) else cmdF c
def stepF (r : Rd) (c : Int) : Rd × List It :=
  if r.i = 0 then dataF c else if r.i = 1 then backF c else if r.i = 2 then cmdF c else if r.i = 3 then verbF r c else if r.i = 4 then optF c
  else if r.i = 5 then subF r c else if r.i = 6 then endF r c else if r.i = 7 then skipF r c else skeF c
def feedF : Rd → List Int → Rd × List It
  | r, [] => (r, [])
  | r, c :: bs => ((feedF (stepF r c).1 bs).1, (stepF r c).2 ++ (feedF (stepF r c).1 bs).2)
theorem feed_app (a b : List Int) : ∀ r, feedF r (a ++ b) = ((feedF (feedF r a).1 b).1, (feedF r a).2 ++ (feedF (feedF r a).1 b).2) := by
  induction a with
  | nil => intro r; rfl
  | cons c a ih =>
    intro r
    show ((feedF (stepF r c).1 (a ++ b)).1, (stepF r c).2 ++ (feedF (stepF r c).1 (a ++ b)).2) = _
    rw [ih]
    simp [feedF, List.append_assoc]
theorem feed_snoc (r : Rd) (bs : List Int) (k : Nat) (hk : k < bs.length) : feedF r (bs.take (k + 1)) = ((stepF (feedF r (bs.take k)).1 (bs.getD k 0)).1, (feedF r (bs.take k)).2 ++ (stepF (feedF r (bs.take k)).1 (bs.getD k 0)).2) := by
  have e : bs.take (k + 1) = bs.take k ++ [bs.getD k 0] := by
    rw [List.take_succ_eq_append_getElem hk, List.getD_eq_getElem?_getD, List.getElem?_eq_getElem hk]
    rfl
  rw [e, feed_app]
  simp [feedF]

theorem may_in (i : Int) (h0 : 0 ≤ i) (h9 : i < 9) (h3 : i ≠ 3) : mayR (inR i) = true := by
  unfold mayR okR verbR inR
  simp only [Bool.and_eq_true, decide_eq_true_eq]
  refine ⟨⟨h0, h9, by simp, .inr (by simp), by omega, by omega⟩, ?_⟩
  rw [if_neg h3]
  rfl
theorem mayR_iff (r : Rd) : mayR r = true ↔ (0 ≤ r.i ∧ r.i < 9 ∧ r.l.length ≤ 512 ∧ ((r.i = 5 ∨ r.i = 6) ∨ r.l.length = 0 ∧ r.o = 0) ∧ 0 ≤ r.o ∧ r.o ≤ 255) ∧ (r.i = 3 → 251 ≤ r.v ∧ r.v ≤ 254) ∧ (r.i ≠ 3 → r.v = 0) := by
  unfold mayR okR verbR
  by_cases h3 : r.i = 3
  · rw [if_pos h3]
    simp [h3]
  · rw [if_neg h3]
    simp [h3]
theorem may_data (c : Int) : mayR (dataF c).1 = true := by
  unfold dataF
  split
  · exact may_in 2 (by omega) (by omega) (by omega)
  · split
    · exact may_in 1 (by omega) (by omega) (by omega)
    · exact may_in 0 (by omega) (by omega) (by omega)
theorem may_cmd (c : Int) (hc : 0 ≤ c ∧ c ≤ 255) : mayR (cmdF c).1 = true := by
  unfold cmdF
  split
  · exact may_in 0 (by omega) (by omega) (by omega)
  · split
    · rw [mayR_iff]
      exact ⟨⟨by show (0 : Int) ≤ 3; omega, by show (3 : Int) < 9; omega, by simp, .inr ⟨by simp, rfl⟩, by show (0 : Int) ≤ 0; omega, by show (0 : Int) ≤ 255; omega⟩, fun _ => by show 251 ≤ c ∧ c ≤ 254; omega, fun h => absurd rfl h⟩
    · split
      · exact may_in 4 (by omega) (by omega) (by omega)
      · split <;> exact may_in 0 (by omega) (by omega) (by omega)
theorem may_keep (r : Rd) (h : mayR r = true) (hi : r.i = 5 ∨ r.i = 6) (c : Int) : mayR (keepF r c).1 = true := by
  unfold keepF
  rw [mayR_iff] at h
  split
  · exact may_in 7 (by omega) (by omega) (by omega)
  · rw [mayR_iff]
    refine ⟨⟨by show (0 : Int) ≤ 5; omega, by show (5 : Int) < 9; omega, by show (r.l ++ [c]).length ≤ 512; rw [List.length_append, List.length_singleton]; omega, .inl (.inl rfl), h.1.2.2.2.2.1, h.1.2.2.2.2.2⟩, fun h5 => ?_, fun _ => h.2.2 (by omega)⟩
    have h5' : (5 : Int) = 3 := h5
    omega
theorem may_step (r : Rd) (h : mayR r = true) (c : Int) (hc : 0 ≤ c ∧ c ≤ 255) : mayR (stepF r c).1 = true := by
  have h' := (mayR_iff r).1 h
  have n0 := may_in 0 (by omega) (by omega) (by omega)
  unfold stepF
  split
  · exact may_data c
  split
  · unfold backF
    split
    · exact n0
    · exact may_data c
  split
  · exact may_cmd c hc
  split
  · exact n0
  split
  · rw [mayR_iff]
    refine ⟨⟨by show (0 : Int) ≤ 5; omega, by show (5 : Int) < 9; omega, by simp [optF], .inl (.inl rfl), hc.1, hc.2⟩, fun h5 => ?_, fun _ => rfl⟩
    have h5' : (5 : Int) = 3 := h5
    omega
  split
  · rename_i h5
    unfold subF
    split
    · rw [mayR_iff]
      refine ⟨⟨by show (0 : Int) ≤ 6; omega, by show (6 : Int) < 9; omega, h'.1.2.2.1, .inl (.inr rfl), h'.1.2.2.2.2.1, h'.1.2.2.2.2.2⟩, fun h6 => ?_, fun _ => h'.2.2 (by omega)⟩
      have h6' : (6 : Int) = 3 := h6
      omega
    · exact may_keep r h (.inl h5) c
  split
  · rename_i h6
    unfold endF
    split
    · exact may_keep r h (.inr h6) c
    split
    · exact n0
    · exact may_cmd c hc
  split
  · unfold skipF
    split
    · exact may_in 8 (by omega) (by omega) (by omega)
    · exact h
  · unfold skeF
    split
    · exact may_in 7 (by omega) (by omega) (by omega)
    split
    · exact n0
    · exact may_cmd c hc
theorem may_feed : ∀ (bs : List Int) (r : Rd), mayR r = true → Oct bs → mayR (feedF r bs).1 = true := by
  intro bs
  induction bs with
  | nil => intro r h _; exact h
  | cons c bs ih => intro r h ho; exact ih _ (may_step r h c (ho c (by simp))) (fun x hx => ho x (by simp [hx]))

/-- Each octet tells one item at the most. -/
theorem one_data (c : Int) : (dataF c).2.length ≤ 1 := by
  unfold dataF
  split
  · simp
  · split <;> simp
theorem one_cmd (c : Int) : (cmdF c).2.length ≤ 1 := by
  unfold cmdF
  split
  · simp
  split
  · simp
  split
  · simp
  split <;> simp
theorem one_keep (r : Rd) (c : Int) : (keepF r c).2.length = 0 := by
  unfold keepF
  split <;> rfl
theorem one_step (r : Rd) (c : Int) : (stepF r c).2.length ≤ 1 := by
  unfold stepF
  split
  · exact one_data c
  split
  · unfold backF
    split
    · simp
    · exact one_data c
  split
  · exact one_cmd c
  split
  · simp [verbF]
  split
  · simp [optF]
  split
  · unfold subF
    split
    · simp
    · have := one_keep r c; omega
  split
  · unfold endF
    split
    · have := one_keep r c; omega
    split
    · simp
    · exact one_cmd c
  split
  · unfold skipF
    split <;> simp
  · unfold skeF
    split
    · simp
    split
    · simp
    · exact one_cmd c
theorem len_feed : ∀ (bs : List Int) (r : Rd), (feedF r bs).2.length ≤ bs.length := by
  intro bs
  induction bs with
  | nil => intro r; simp [feedF]
  | cons c bs ih =>
    intro r
    have h1 := one_step r c
    have h2 := ih (stepF r c).1
    simp only [feedF, List.length_append, List.length_cons]
    omega
end Go.Proofs.YtkbblbgiheclfaaDoor
