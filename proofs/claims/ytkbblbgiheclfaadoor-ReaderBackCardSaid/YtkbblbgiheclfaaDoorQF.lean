/- Few of items, alone. -/
import Derived.Test.YtkbblbgiheclfaaDoorK1
import Derived.Test.YtkbblbgiheclfaaDoorID
namespace Go.Proofs.YtkbblbgiheclfaaDoor.Dq
open Go.RowKit Go.Proofs.YtkbblbgiheclfaaDoorW.PrintWords

abbrev S25 := PItemTells.S25
def ofI (x : It) : S25 := ⟨x.k, x.a, x.b, x.l⟩
theorem C_of {w : World} {A : Option Addr} {n : Nat} {l : List It} (h : kIt.C w A n l) : Kd.C PItemTells.k25 w A n (l.map ofI) :=
  ⟨by rw [List.length_map]; exact h.1, by have := h.2.1; exact this, fun hp => by
    obtain ⟨ad, e, hc⟩ := h.2.2 hp
    refine ⟨ad, e, fun j p hj => ?_⟩
    rw [List.getElem?_map] at hj
    obtain ⟨x, hx, rfl⟩ := Option.map_eq_some_iff.1 hj
    exact hc j x hx⟩
theorem C_to {w : World} {A : Option Addr} {n : Nat} {l : List It} (h : Kd.C PItemTells.k25 w A n (l.map ofI)) : kIt.C w A n l :=
  ⟨by have := h.1; rwa [List.length_map] at this, by have := h.2.1; exact this, fun hp => by
    obtain ⟨ad, e, hc⟩ := h.2.2 hp
    exact ⟨ad, e, fun j x hj => hc j (ofI x) (by rw [List.getElem?_map, hj]; rfl)⟩⟩
theorem rd_of (l : List It) (i : Nat) : PItemTells.rd_T25 (l.map ofI) (i : Int) = ofI (l.getD i zIt) := by
  unfold PItemTells.rd_T25
  rw [Int.toNat_natCast, List.getD_eq_getElem?_getD, List.getD_eq_getElem?_getD, List.getElem?_map]
  cases l[i]? <;> rfl
theorem drop_nextI (l : List It) (i : Nat) (h : i < l.length) : l.drop i = l.getD i zIt :: l.drop (i + 1) := by
  rw [List.drop_eq_getElem_cons h, List.getD_eq_getElem?_getD, List.getElem?_eq_getElem h]
  rfl
theorem wrap_next {i n : Nat} (h : i < n) (hn : n ≤ 1000000000) : wrap64 ((i : Int) + 1) = ((i + 1 : Nat) : Int) := by
  unfold wrap64
  omega
/-- Few of items. -/
def cutI (x : It) : It := ⟨x.k, x.a, x.b, x.l.take 600⟩
def fewI (l : List It) : List It := (l.take 40).map cutI
theorem few_l0 (l : List It) : ∀ (n k : Nat) (out : List S25) (i : Nat), i ≤ l.length → i ≤ 40 → min l.length 40 - i = n → 2 * n + 2 ≤ k → out.length + n ≤ 1000000 → PItemTells.linnetlaw03_Few.l0 k (l.map ofI) out i = some (out ++ (((l.take 40).drop i).map cutI).map ofI) := by
  intro n
  induction n with
  | zero =>
    intro k out i hi h40 hn hk ho
    obtain ⟨k, rfl⟩ : ∃ m, k = m + 2 := ⟨k - 2, by omega⟩
    have hd : (l.take 40).drop i = [] := List.drop_of_length_le (by rw [List.length_take]; omega)
    rw [PItemTells.linnetlaw03_Few.l0, hd, List.length_map]
    by_cases h : i < l.length
    · rw [if_pos (by omega), PItemTells.linnetlaw03_Few.j1, if_neg (by rw [decide_eq_true_eq]; omega)]
      simp
    · rw [if_neg (by omega), PItemTells.linnetlaw03_Few.j1, if_neg (by decide)]
      simp
  | succ n ih =>
    intro k out i hi h40 hn hk ho
    obtain ⟨k, rfl⟩ : ∃ m, k = m + 2 := ⟨k - 2, by omega⟩
    have h : i < l.length := by omega
    have hr := rd_of l i
    have hw := wrap_next (show i < 40 by omega) (by omega)
    have hd : (l.take 40).drop i = l.getD i zIt :: (l.take 40).drop (i + 1) := by
      rw [drop_nextI _ i (by rw [List.length_take]; omega), List.getD_eq_getElem?_getD, List.getD_eq_getElem?_getD, List.getElem?_take, if_pos (by omega)]
    rw [PItemTells.linnetlaw03_Few.l0, List.length_map, if_pos (by omega), PItemTells.linnetlaw03_Few.j1, if_pos (by rw [decide_eq_true_eq]; omega), List.length_map, if_pos (by omega), if_pos (by omega), hr, hw, hd]
    generalize l.getD i zIt = x
    show (if ((x.l.length : Nat) : Int) > 600 then (if 600 ≤ ((x.l.length : Nat) : Int) then (if out.length < 2932031007402 then PItemTells.linnetlaw03_Few.l0 k (l.map ofI) (out ++ [ofI (cutI x)]) ((i + 1 : Nat) : Int) else none) else none) else (if out.length < 2932031007402 then PItemTells.linnetlaw03_Few.l0 k (l.map ofI) (out ++ [ofI x]) ((i + 1 : Nat) : Int) else none)) = _
    by_cases h6 : 600 < x.l.length
    · rw [if_pos (by omega), if_pos (by omega), if_pos (by omega), ih k _ (i + 1) (by omega) (by omega) (by omega) (by omega) (by rw [List.length_append, List.length_singleton]; omega)]
      simp
    · have e : cutI x = x := by
        unfold cutI
        rw [List.take_of_length_le (by omega)]
      rw [if_neg (by omega), if_pos (by omega), ih k _ (i + 1) (by omega) (by omega) (by omega) (by omega) (by rw [List.length_append, List.length_singleton]; omega)]
      simp [e]
theorem few_f (l : List It) : PItemTells.linnetlaw03_Few.f 100 (l.map ofI) = some ((fewI l).map ofI) := by
  have h := few_l0 l (min l.length 40) 100 [] 0 (by omega) (by omega) (by omega) (by omega) (by simp only [List.length_nil]; omega)
  unfold PItemTells.linnetlaw03_Few.f
  rw [show ((0 : Nat) : Int) = 0 from rfl, List.drop_zero, List.nil_append] at h
  exact h
theorem few_len (l : List It) : (fewI l).length ≤ 40 := by
  rw [fewI, List.length_map, List.length_take]
  omega
theorem few_octs {l : List It} (h : Octs l) : Octs (fewI l) := by
  intro x hx
  obtain ⟨y, hy, rfl⟩ := List.mem_map.1 hx
  exact (h y (List.mem_of_mem_take hy)).take 600
theorem heap_k25 : Kd.Heap PItemTells.k25 := Kd.heap_iso _ (Kd.heap_pair (Kd.heap_int _) (Kd.heap_pair (Kd.heap_int _) (Kd.heap_pair (Kd.heap_int _) (Kd.heap_slice 5 (Kd.heap_int _)))))
theorem few_any (A : Option Addr) (c : Nat) (l : List It) (w : World) (hC : kIt.C w A l.length l) (hc : l.length ≤ c) :
    Calls Tryd.prog 14 #[.slice A l.length c] w (ItsP w (fewI l)) := by
  have e : (l.map ofI).length = l.length := List.length_map _
  have h0 := C_of hC
  have h1 : Kd.V PItemTells.k25 25 w w.heap.size (fun k => k < w.heap.size) (.slice A (l.map ofI).length c) (l.map ofI) := Kd.V_mk (by rw [e]; exact hc) (Kd.C_F heap_k25 (by rw [e]; exact h0))
  have h2 := PItemTells.linnetlaw03_Few.calls 100 _ A c _ _ w h1 (few_f l)
  rw [e] at h2
  refine h2.mono ?_
  rintro e w' ⟨v, rfl, hN, hb⟩
  obtain ⟨A', c', rfl, hc', hC'⟩ := Kd.N_reads hN
  rw [List.length_map] at hC' hc'
  refine ⟨A', c', by rw [List.length_map], hc', C_to hC', hb⟩
end Go.Proofs.YtkbblbgiheclfaaDoor.Dq
