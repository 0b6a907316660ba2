/- Plain: what the print's functions answer: the document's Lay, nvt.Size. -/
import Derived.Test.YtkbblbgiheclfaaDoorK1
import Derived.Test.YtkbblbgiheclfaaDoorK3
import Derived.Test.YtkbblbgiheclfaaDoorDB
namespace Go.Proofs.YtkbblbgiheclfaaDoor.Dr
open Go.RowKit Go.Proofs.YtkbblbgiheclfaaDoorW.PrintWords

theorem wrap_next {i n : Nat} (h : i < n) (hn : n ≤ 1000000000) : wrap64 ((i : Int) + 1) = ((i + 1 : Nat) : Int) := by
  unfold wrap64
  omega
theorem rd_nat (x : List Int) (i : Nat) : rd x (i : Int) = x.getD i 0 := by
  unfold rd
  rw [Int.toNat_natCast]
theorem drop_next (x : List Int) (i : Nat) (h : i < x.length) : x.drop i = x.getD i 0 :: x.drop (i + 1) := by
  rw [List.drop_eq_getElem_cons h, List.getD_eq_getElem?_getD, List.getElem?_eq_getElem h]
  rfl
theorem refLay_l0 (x0 : List Int) (hx : x0.length ≤ 1000000) : ∀ (k : Nat) (out : List Int) (i : Nat), i ≤ x0.length → x0.length - i < k → out.length + 2 * (x0.length - i) ≤ 1000000000 → PItemTells.linnetref02_Lay.l0 k x0 out i = some (out ++ layF (x0.drop i)) := by
  intro k
  induction k with
  | zero => intro out i _ h; omega
  | succ k ih =>
    intro out i hi hk hl
    rw [PItemTells.linnetref02_Lay.l0]
    by_cases h : i < x0.length
    · have hr := rd_nat x0 i
      have hw := wrap_next h (by omega)
      have hd := drop_next x0 i h
      rw [if_pos (by omega), if_pos (by omega), if_pos (by omega), hr, hw, hd]
      simp only [Option.bind_some]
      have hlay : layF (x0.getD i 0 :: x0.drop (i + 1)) = layC (x0.getD i 0) ++ layF (x0.drop (i + 1)) := rfl
      rw [hlay]
      unfold layC
      by_cases h1 : x0.getD i 0 = 255
      · rw [if_pos h1, if_pos (by simp only [List.length_append, List.length_cons, List.length_nil]; omega), if_neg (by omega), if_pos h1, ih _ (i + 1) (by omega) (by omega) (by simp only [List.length_append, List.length_cons, List.length_nil]; omega), h1]
        simp
      · rw [if_neg h1, if_neg h1]
        by_cases h2 : x0.getD i 0 = 13
        · rw [if_pos h2, if_pos h2, if_pos (by simp only [List.length_append, List.length_cons, List.length_nil]; omega), ih _ (i + 1) (by omega) (by omega) (by simp only [List.length_append, List.length_cons, List.length_nil]; omega), h2]
          simp
        · rw [if_neg h2, if_neg h2, ih _ (i + 1) (by omega) (by omega) (by simp only [List.length_append, List.length_cons, List.length_nil]; omega)]
          simp
    · rw [if_neg (by omega), List.drop_of_length_le (by omega)]
      simp [layF]
theorem refLay_f (x0 : List Int) (hx : x0.length ≤ 1000000) (k : Nat) (hk : x0.length < k) : PItemTells.linnetref02_Lay.f k x0 = some (layF x0) := by
  have := refLay_l0 x0 hx k [] 0 (by omega) (by omega) (by simp; omega)
  simpa [PItemTells.linnetref02_Lay.f] using this
theorem lay_two (c : Int) : (layC c).length = if c = 255 ∨ c = 13 then 2 else 1 := by
  unfold layC
  by_cases h1 : c = 255
  · rw [if_pos h1, if_pos (.inl h1)]
    rfl
  · rw [if_neg h1]
    by_cases h2 : c = 13
    · rw [if_pos h2, if_pos (.inr h2)]
      rfl
    · rw [if_neg h2, if_neg (by omega)]
      rfl
theorem size_l0 (x0 : List Int) (hx : x0.length ≤ 1000000) : ∀ (k n : Nat) (i : Nat), i ≤ x0.length → x0.length - i < k → n ≤ 1000000 + i → PItemTells.nvt_Size.l0 k n x0 x0.length i = some ((n : Int) + ((layF (x0.drop i)).length - (x0.length - i : Nat))) := by
  intro k
  induction k with
  | zero => intro n i _ h; omega
  | succ k ih =>
    intro n i hi hk hn
    rw [PItemTells.nvt_Size.l0]
    by_cases h : i < x0.length
    · have hr := rd_nat x0 i
      have hw := wrap_next h (by omega)
      have hwn := wrap_next (show n < 3000000 by omega) (by omega)
      have hd := drop_next x0 i h
      have h2 := lay_two (x0.getD i 0)
      rw [if_pos (by omega), if_pos (by omega), if_pos (by omega), hr, hw, hwn, hd]
      have hlay : layF (x0.getD i 0 :: x0.drop (i + 1)) = layC (x0.getD i 0) ++ layF (x0.drop (i + 1)) := rfl
      rw [hlay, List.length_append, h2]
      unfold PItemTells.nvt_two.f
      by_cases h1 : x0.getD i 0 = 255
      · rw [if_pos h1, Option.bind_some, if_pos rfl, if_pos (.inl h1), ih (n + 1) (i + 1) (by omega) (by omega) (by omega)]
        congr 1
        omega
      · rw [if_neg h1, Option.bind_some]
        by_cases h3 : x0.getD i 0 = 13
        · rw [if_pos (beq_iff_eq.2 h3), if_pos (.inr h3), ih (n + 1) (i + 1) (by omega) (by omega) (by omega)]
          congr 1
          omega
        · rw [if_neg (by rw [beq_iff_eq]; exact h3), if_neg (by omega), ih n (i + 1) (by omega) (by omega) (by omega)]
          congr 1
          omega
    · rw [if_neg (by omega), List.drop_of_length_le (by omega)]
      have : i = x0.length := by omega
      subst this
      simp [layF]
theorem size_f (x0 : List Int) (hx : x0.length ≤ 1000000) (k : Nat) (hk : x0.length < k) : PItemTells.nvt_Size.f k x0 = some ((layF x0).length : Int) := by
  have := size_l0 x0 hx k x0.length 0 (by omega) (by omega) (by omega)
  rw [PItemTells.nvt_Size.f]
  rw [show ((0 : Nat) : Int) = 0 from rfl] at this
  rw [this]
  simp
  omega
theorem row_base {w : World} {base : Nat} {ok : Nat → Prop} {v : Value} {xs : List Int} (h : kB.R 5 w base ok v xs) : kB.R 5 w base (fun k => base ≤ k) v xs := Kd.R_mono (Kd.R_tight rfl h) (fun k hk => Kd.R_base h k hk.symm)
theorem reflay_any (A : Option Addr) (c : Nat) (bs : List Int) (w : World) (hC : kB.C w A bs.length bs) (hc : bs.length ≤ c) (hl : bs.length ≤ 1000000) : Calls Tryd.prog 46 #[.slice A bs.length c] w (OctP w (layF bs)) :=
  (PItemTells.linnetref02_Lay.calls (bs.length + 1) A c bs (layF bs) w hC hc (refLay_f bs hl _ (by omega))).mono (fun e w' ⟨v, he, hR, hb⟩ => ⟨v, he, row_base hR, hb⟩)
theorem nsize_any (A : Option Addr) (c : Nat) (bs : List Int) (w : World) (hC : kB.C w A bs.length bs) (hc : bs.length ≤ c) (hl : bs.length ≤ 1000000) : Calls Tryd.prog 26 #[.slice A bs.length c] w (fun e w' => e = .returned (.int .i64 (layF bs).length) ∧ Below w.heap.size w w') := by
  refine (PItemTells.nvt_Size.calls (bs.length + 1) A c bs _ w hC hc (size_f bs hl _ (by omega))).mono ?_
  rintro e w' ⟨rfl, ⟨n, rfl⟩⟩
  exact ⟨rfl, pw_below_drewN (Below.refl _ _) n⟩
end Go.Proofs.YtkbblbgiheclfaaDoor.Dr
