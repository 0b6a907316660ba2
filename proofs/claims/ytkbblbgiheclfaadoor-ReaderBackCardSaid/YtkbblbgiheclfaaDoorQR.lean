/- Plain: what is put comes again, and how long what comes is when it is put. -/
import Derived.Test.YtkbblbgiheclfaaDoorQS
import Derived.Test.YtkbblbgiheclfaaDoorP2
namespace Go.Proofs.YtkbblbgiheclfaaDoor.Dq
open Go.RowKit Go.Proofs.YtkbblbgiheclfaaDoorW.PrintWords Go.Proofs.YtkbblbgiheclfaaDoor.Dr

theorem feed_dbl (a v : Int) : ∀ (l pre : List Int), (pre ++ l).length ≤ 512 → feedF ⟨5, v, a, pre⟩ (dblF l) = (⟨5, v, a, pre ++ l⟩, []) := by
  intro l
  induction l with
  | nil => intro pre _; simp [dblF, feedF]
  | cons c l ih =>
    intro pre h
    rw [dbl_cons, feed_app]
    have hl : ¬ pre.length = 512 := by simp only [List.length_append, List.length_cons] at h; omega
    have h1 : feedF ⟨5, v, a, pre⟩ (dblC c) = (⟨5, v, a, pre ++ [c]⟩, []) := by
      unfold dblC
      by_cases hc : c = 255
      · subst hc
        simp [feedF, stepF, subF, endF, keepF, hl]
      · simp [hc, feedF, stepF, subF, keepF, hl]
    rw [h1]
    have h2 := ih (pre ++ [c]) (by simpa using h)
    dsimp only
    rw [h2]
    simp
theorem feed_put {x : It} (hm : mayI x = true) : feedF (inR 0) (putI x) = (inR 0, [x]) := by
  have hw := wf_kind hm
  obtain ⟨k, a, b, l⟩ := x
  dsimp only at hw
  unfold putI
  dsimp only
  rcases hw with ⟨rfl, h0, h1, rfl, rfl⟩ | ⟨rfl, h0, h1, rfl, rfl⟩ | ⟨rfl, h0, h1, h2, h3, rfl⟩ | ⟨rfl, h0, h1, rfl, h3⟩
  · simp only [if_true, layF, List.flatMap_cons, List.flatMap_nil, List.append_nil, layC]
    by_cases h255 : a = 255
    · subst h255
      decide +kernel
    · by_cases h13 : a = 13
      · subst h13
        decide +kernel
      · simp [h255, h13, feedF, stepF, dataF, inR, datI]
  · have n1 : ¬ a = 255 := by omega
    have n2 : ¬ 251 ≤ a := by omega
    have n3 : ¬ a = 250 := by omega
    have hm' : mayI (cmdI a) = true := hm
    simp [feedF, stepF, dataF, cmdF, inR, n1, n2, n3, hm']
    rfl
  · have n1 : ¬ a = 255 := by omega
    simp [feedF, stepF, dataF, cmdF, verbF, inR, n1, h0]
  · rw [if_neg (by decide), if_neg (by decide), if_neg (by decide), feed_app, feed_app]
    have e1 : feedF (inR 0) [255, 250, a] = (⟨5, 0, a, []⟩, []) := by
      simp [feedF, stepF, dataF, cmdF, optF, inR]
    rw [e1]
    dsimp only
    rw [feed_dbl a 0 l [] (by simpa using h3)]
    simp [feedF, stepF, subF, endF, inR]
theorem feed_puts : ∀ {l : List It}, mays l = true → feedF (inR 0) (putsF l) = (inR 0, l) := by
  intro l
  induction l with
  | nil => intro _; rfl
  | cons x l ih =>
    intro h
    unfold mays at h
    rw [List.all_cons, Bool.and_eq_true] at h
    show feedF (inR 0) (putI x ++ putsF l) = _
    rw [feed_app, feed_put h.1]
    dsimp only
    rw [ih h.2]
    rfl
/-- What a reader holds, as octets. -/
def holdR (r : Rd) : Nat := if r.i = 3 ∨ r.i = 4 then 1 else if r.i = 5 ∨ r.i = 6 then (dblF r.l).length + 3 else 0
def costF (p : Rd × List It) : Nat := (putsF p.2).length + holdR p.1
theorem put_dat (c : Int) : (putsF [datI c]).length = (layC c).length := by simp [putsF, putI, datI, layF]
theorem lay_le (c : Int) : (layC c).length ≤ 2 := by rw [lay_two]; split <;> omega
theorem cost_data (c : Int) : costF (dataF c) ≤ 2 := by
  unfold dataF costF
  by_cases h : c = 255
  · rw [if_pos h]; simp [putsF, holdR, inR]
  · rw [if_neg h]
    have := lay_le c
    by_cases h2 : c = 13
    · rw [if_pos h2]; dsimp only; rw [put_dat]; simp [holdR, inR]; omega
    · rw [if_neg h2]; dsimp only; rw [put_dat]; simp [holdR, inR]; omega
theorem cost_cmd (c : Int) : costF (cmdF c) ≤ 2 := by
  unfold cmdF costF
  by_cases h : c = 255
  · rw [if_pos h]; dsimp only; rw [put_dat]; have := lay_le c; simp [holdR, inR]; omega
  · rw [if_neg h]
    by_cases h2 : 251 ≤ c
    · rw [if_pos h2]; simp [putsF, holdR]
    · rw [if_neg h2]
      by_cases h3 : c = 250
      · rw [if_pos h3]; simp [putsF, holdR, inR]
      · rw [if_neg h3]
        by_cases h4 : mayI (cmdI c) = true
        · rw [if_pos h4]; simp [putsF, putI, cmdI, holdR, inR]
        · rw [if_neg h4]; simp [putsF, holdR, inR]
theorem dbl_snoc (l : List Int) (c : Int) : (dblF (l ++ [c])).length = (dblF l).length + if c = 255 then 2 else 1 := by
  unfold dblF
  rw [List.flatMap_append, List.length_append]
  congr 1
  simp only [List.flatMap_cons, List.flatMap_nil, List.append_nil, dblC]
  split <;> rfl
theorem cost_keep (r : Rd) (c : Int) : costF (keepF r c) ≤ (dblF r.l).length + 5 := by
  unfold keepF costF
  by_cases h : r.l.length = 512
  · rw [if_pos h]; simp [putsF, holdR, inR]
  · rw [if_neg h]
    have := dbl_snoc r.l c
    simp only [putsF, holdR, List.flatMap_nil, List.length_nil]
    simp
    split at this <;> omega
theorem cost_step (r : Rd) (c : Int) : costF (stepF r c) ≤ holdR r + 2 := by
  unfold stepF
  by_cases h0 : r.i = 0
  · rw [if_pos h0]; have := cost_data c; omega
  · rw [if_neg h0]
    by_cases h1 : r.i = 1
    · rw [if_pos h1]
      have := cost_data c
      unfold backF
      by_cases h : c = 10 ∨ c = 0
      · rw [if_pos h]; simp [costF, putsF, holdR, inR]
      · rw [if_neg h]; omega
    · rw [if_neg h1]
      by_cases h2 : r.i = 2
      · rw [if_pos h2]; have := cost_cmd c; omega
      · rw [if_neg h2]
        by_cases h3 : r.i = 3
        · rw [if_pos h3]; simp [verbF, costF, putsF, putI, holdR, inR, h3]
        · rw [if_neg h3]
          by_cases h4 : r.i = 4
          · rw [if_pos h4]; simp [optF, costF, putsF, holdR, h4, dblF]
          · rw [if_neg h4]
            by_cases h5 : r.i = 5
            · rw [if_pos h5]
              have hh : holdR r = (dblF r.l).length + 3 := by simp [holdR, h5]
              have := cost_keep r c
              unfold subF
              by_cases h : c = 255
              · rw [if_pos h]; simp [costF, putsF, holdR, h5]
              · rw [if_neg h]; omega
            · rw [if_neg h5]
              by_cases h6 : r.i = 6
              · rw [if_pos h6]
                have hh : holdR r = (dblF r.l).length + 3 := by simp [holdR, h6]
                have := cost_keep r c
                have h7 := cost_cmd c
                unfold endF
                by_cases h : c = 255
                · rw [if_pos h]; omega
                · rw [if_neg h]
                  by_cases h8 : c = 240
                  · rw [if_pos h8]; simp [costF, putsF, putI, holdR, inR, h6]
                  · rw [if_neg h8]; omega
              · rw [if_neg h6]
                have hh : holdR r = 0 := by simp [holdR, h3, h4, h5, h6]
                by_cases h7 : r.i = 7
                · rw [if_pos h7]
                  unfold skipF
                  by_cases h : c = 255
                  · rw [if_pos h]; simp [costF, putsF, holdR, inR]
                  · rw [if_neg h]; simp [costF, putsF, hh]
                · rw [if_neg h7]
                  have h9 := cost_cmd c
                  unfold skeF
                  split
                  · simp [costF, putsF, holdR, inR]
                  · split
                    · simp [costF, putsF, holdR, inR]
                    · omega
theorem cost_feed : ∀ (bs : List Int) (r : Rd), costF (feedF r bs) ≤ holdR r + 2 * bs.length := by
  intro bs
  induction bs with
  | nil => intro r; simp [feedF, costF, putsF]
  | cons c bs ih =>
    intro r
    have h1 := cost_step r c
    have h2 := ih (stepF r c).1
    unfold costF at *
    simp only [feedF, putsF, List.flatMap_append, List.length_append, List.length_cons] at *
    omega
theorem mays_of {l : List It} (h : Mays l) : mays l = true := List.all_eq_true.2 h
end Go.Proofs.YtkbblbgiheclfaaDoor.Dq
