/- What is told of an option, long or not: plain. -/
import Derived.Test.YtkbblbgiheclfaaP2
namespace Go.Proofs.Ytkbblbgiheclfaa

theorem feed_tells (o c : Int) (hc : c ≠ 255) : ∀ k, feedF ⟨5, 0, o, []⟩ (List.replicate k c) = if k ≤ 512 then (⟨5, 0, o, List.replicate k c⟩, []) else (inR 7, []) := by
  have step : ∀ k, feedF ⟨5, 0, o, []⟩ (List.replicate (k + 1) c) = ((stepF (feedF ⟨5, 0, o, []⟩ (List.replicate k c)).1 c).1, (feedF ⟨5, 0, o, []⟩ (List.replicate k c)).2 ++ (stepF (feedF ⟨5, 0, o, []⟩ (List.replicate k c)).1 c).2) := by
    intro k
    have := feed_snoc ⟨5, 0, o, []⟩ (List.replicate (k + 1) c) k (by simp)
    rw [List.take_of_length_le (by simp)] at this
    rw [this]
    have e : (List.replicate (k + 1) c).take k = List.replicate k c := by rw [List.take_replicate]; congr 1; omega
    have e2 : (List.replicate (k + 1) c).getD k 0 = c := by rw [List.getD_eq_getElem?_getD, List.getElem?_replicate]; simp
    rw [e, e2]
  intro k
  induction k with
  | zero => rfl
  | succ k ih =>
    rw [step, ih]
    by_cases h1 : k ≤ 512
    · rw [if_pos h1]
      have hs : stepF ⟨5, 0, o, List.replicate k c⟩ c = keepF ⟨5, 0, o, List.replicate k c⟩ c := by
        simp [stepF, subF, hc]
      dsimp only
      rw [hs]
      unfold keepF
      by_cases h2 : k = 512
      · subst h2
        rw [if_pos (List.length_replicate ..), if_neg (by omega)]
        rfl
      · rw [if_neg (by rw [List.length_replicate]; omega), if_pos (by omega)]
        rw [List.replicate_succ']
        rfl
    · rw [if_neg h1, if_neg (by omega)]
      have hs : stepF (inR 7) c = (inR 7, []) := by simp [stepF, inR, skipF, hc]
      dsimp only
      rw [hs]
      rfl
/-- The whole of it. -/
def longL (o c : Int) (n : Nat) (b : List Int) : List Int := ([255, 250, o] ++ List.replicate n c) ++ [255, 240] ++ b
theorem feed_long (o c : Int) (hc : c ≠ 255) (n : Nat) (b : List Int) :
    feedF (inR 0) (longL o c n b) = ((feedF (inR 0) b).1, (if n ≤ 512 then [⟨4, o, 0, List.replicate n c⟩] else []) ++ (feedF (inR 0) b).2) := by
  unfold longL
  rw [feed_app, feed_app, feed_app]
  have h1 : feedF (inR 0) [255, 250, o] = (⟨5, 0, o, []⟩, []) := by simp [feedF, stepF, inR, dataF, cmdF, optF]
  rw [h1, feed_tells o c hc]
  by_cases h : n ≤ 512
  · rw [if_pos h, if_pos h]
    have h2 : feedF ⟨5, 0, o, List.replicate n c⟩ [255, 240] = (inR 0, [⟨4, o, 0, List.replicate n c⟩]) := by simp [feedF, stepF, subF, endF, inR]
    dsimp only
    rw [h2]
    rfl
  · rw [if_neg h, if_neg h]
    have h2 : feedF (inR 7) [255, 240] = (inR 0, []) := by simp [feedF, stepF, skipF, skeF, inR]
    dsimp only
    rw [h2]
    rfl
theorem long_len (o c : Int) (n : Nat) (b : List Int) : (longL o c n b).length = n + 5 + b.length := by simp [longL]; omega
theorem long_oct {o c : Int} (ho : 0 ≤ o ∧ o ≤ 255) (hc : 0 ≤ c ∧ c ≤ 255) (n : Nat) {b : List Int} (hb : Oct b) : Oct (longL o c n b) := by
  unfold longL
  refine Oct.app (Oct.app (Oct.app ?_ ?_) ?_) hb
  · intro x hx
    simp at hx
    omega
  · intro x hx
    rw [List.eq_of_mem_replicate hx]
    exact hc
  · intro x hx
    simp at hx
    omega
def lp (o c : Int) (k : Nat) : List Int := [255, 250, o] ++ List.replicate k c
theorem lp_zero (o c : Int) : lp o c 0 = [255, 250, o] := rfl
theorem lp_succ (o c : Int) (k : Nat) : lp o c k ++ [c] = lp o c (k + 1) := by
  unfold lp
  rw [List.replicate_succ', List.append_assoc]
theorem lp_len (o c : Int) (k : Nat) : (lp o c k).length = k + 3 := by simp [lp]
theorem lp_long (o c : Int) (n : Nat) (b : List Int) : lp o c n ++ [255, 240] ++ b = longL o c n b := rfl
end Go.Proofs.Ytkbblbgiheclfaa
