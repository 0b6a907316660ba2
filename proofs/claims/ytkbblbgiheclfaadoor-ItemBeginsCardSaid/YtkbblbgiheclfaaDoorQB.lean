/- Plain: what the print's functions answer: Few of items, the document's May, lies, Put, Data; the same as contracts. -/
import Derived.Test.YtkbblbgiheclfaaDoorK2
import Derived.Test.YtkbblbgiheclfaaDoorQA
import Derived.Test.YtkbblbgiheclfaaDoorDH
namespace Go.Proofs.YtkbblbgiheclfaaDoor.Dr
open Go.RowKit Go.Proofs.YtkbblbgiheclfaaDoorW.PrintWords

abbrev S25 := PItemTells.S25
def ofI (x : It) : S25 := ⟨x.k, x.a, x.b, x.l⟩
theorem C_of {w : World} {A : Option Addr} {n : Nat} {l : List It} (h : kIt.C w A n l) : Kd.C PItemTells.k25 w A n (l.map ofI) :=
  ⟨by rw [List.length_map]; exact h.1, by have := h.2.1; exact this, fun hp => by
    obtain ⟨ad, e, hc⟩ := h.2.2 hp
    refine ⟨ad, e, fun j p hj => ?_⟩
    rw [List.getElem?_map] at hj
    obtain ⟨x, hx, rfl⟩ := Option.map_eq_some_iff.1 hj
    exact hc j x hx⟩
theorem C_to {w : World} {A : Option Addr} {n : Nat} {l : List It} (h : Kd.C PItemTells.k25 w A n (l.map ofI)) : kIt.C w A n l :=
  ⟨by have := h.1; rwa [List.length_map] at this, by have := h.2.1; exact this, fun hp => by
    obtain ⟨ad, e, hc⟩ := h.2.2 hp
    exact ⟨ad, e, fun j x hj => hc j (ofI x) (by rw [List.getElem?_map, hj]; rfl)⟩⟩
theorem rd_of (l : List It) (i : Nat) : PItemTells.rd_T25 (l.map ofI) (i : Int) = ofI (l.getD i zIt) := by
  unfold PItemTells.rd_T25
  rw [Int.toNat_natCast, List.getD_eq_getElem?_getD, List.getD_eq_getElem?_getD, List.getElem?_map]
  cases l[i]? <;> rfl
theorem may_f (x : It) : PItemTells.linnetref03_May.f x.k x.a x.b x.l = some (mayI x) := by
  obtain ⟨k, a, b, l⟩ := x
  unfold PItemTells.linnetref03_May.f mayI smI kindI partsI oct
  dsimp only
  have hl0 : ((l.length : Int) == 0) = decide (l = []) := by
    rw [Bool.eq_iff_iff]
    simp
  rw [hl0]
  by_cases k1 : k = 1
  · subst k1
    by_cases h1 : 0 ≤ a <;> by_cases h2 : a ≤ 255 <;> by_cases h3 : b = 0 <;> simp [h1, h2, h3]
  · by_cases k2 : k = 2
    · subst k2
      by_cases h1 : 236 ≤ a <;> by_cases h2 : a ≤ 249 <;> by_cases h3 : b = 0 <;> by_cases h4 : a = 240 <;> simp [h1, h2, h3, h4] <;> omega
    · by_cases k3 : k = 3
      · subst k3
        by_cases h1 : 251 ≤ a <;> by_cases h2 : a ≤ 254 <;> by_cases h3 : 0 ≤ b <;> by_cases h4 : b ≤ 255 <;> simp [h1, h2, h3, h4]
      · by_cases k4 : k = 4
        · subst k4
          by_cases h1 : 0 ≤ a <;> by_cases h2 : a ≤ 255 <;> by_cases h3 : b = 0 <;> simp [h1, h2, h3] <;> omega
        · simp [k1, k2, k3, k4]
theorem dbl_cons (c : Int) (l : List Int) : dblF (c :: l) = dblC c ++ dblF l := rfl
theorem lies_l0 (l : List Int) (hl : l.length ≤ 100000) (p q r : Int) : ∀ (k : Nat) (out : List Int) (i : Nat), i ≤ l.length → l.length - i < k → out.length + 2 * (l.length - i) ≤ 1000000000 → PItemTells.linnetref03_lies.l0 k out i p q r l = some (out ++ dblF (l.drop i) ++ [255, 240]) := by
  intro k
  induction k with
  | zero => intro out i _ h; omega
  | succ k ih =>
    intro out i hi hk ho
    rw [PItemTells.linnetref03_lies.l0]
    by_cases h : i < l.length
    · have hr := rd_nat l i
      have hw := wrap_next h (by omega)
      have hd := drop_next l i h
      rw [if_pos (by omega), if_pos (by omega), if_pos (by omega), hr, hw, hd, dbl_cons]
      simp only [Option.bind_some]
      unfold dblC
      by_cases h1 : l.getD i 0 = 255
      · rw [if_pos h1, if_pos h1, if_pos (by simp only [List.length_append, List.length_cons, List.length_nil]; omega), ih _ (i + 1) (by omega) (by omega) (by simp only [List.length_append, List.length_cons, List.length_nil]; omega), h1]
        simp
      · rw [if_neg h1, if_neg h1, ih _ (i + 1) (by omega) (by omega) (by simp only [List.length_append, List.length_cons, List.length_nil]; omega)]
        simp
    · rw [if_neg (by omega), List.drop_of_length_le (by omega), Option.bind_some, if_pos (by simp only [List.length_cons, List.length_nil]; omega)]
      simp [dblF]
theorem lies_f {x : It} (hm : mayI x = true) (k : Nat) (hk : 520 < k) : PItemTells.linnetref03_lies.f k x.k x.a x.b x.l = some (putI x) := by
  have hw := wf_kind hm
  obtain ⟨kk, a, b, l⟩ := x
  dsimp only at *
  unfold PItemTells.linnetref03_lies.f putI
  dsimp only
  rcases hw with ⟨rfl, h0, h1, rfl, rfl⟩ | ⟨rfl, h0, h1, rfl, rfl⟩ | ⟨rfl, h0, h1, h2, h3, rfl⟩ | ⟨rfl, h0, h1, rfl, hll⟩
  · rw [if_pos rfl, if_pos rfl, refLay_f _ (by simp) k (by simp; omega), Option.bind_some, show a % 256 = a by omega]
  · rw [if_neg (by decide), if_pos rfl, if_neg (by decide), if_pos rfl, show a % 256 = a by omega]
  · rw [if_neg (by decide), if_neg (by decide), if_pos rfl, if_neg (by decide), if_neg (by decide), if_pos rfl, show a % 256 = a by omega, show b % 256 = b by omega]
  · rw [if_neg (by decide), if_neg (by decide), if_neg (by decide), if_neg (by decide), if_neg (by decide), if_neg (by decide), show a % 256 = a by omega]
    have := lies_l0 l (by omega) 4 a 0 k [255, 250, a] 0 (by omega) (by omega) (by simp; omega)
    rw [show ((0 : Nat) : Int) = 0 from rfl, List.drop_zero] at this
    rw [this]
theorem drop_nextI (l : List It) (i : Nat) (h : i < l.length) : l.drop i = l.getD i zIt :: l.drop (i + 1) := by
  rw [List.drop_eq_getElem_cons h, List.getD_eq_getElem?_getD, List.getElem?_eq_getElem h]
  rfl
theorem refPut_l0 (l : List It) (hl : l.length ≤ 5000) : ∀ (k : Nat) (out : List Int) (i : Nat), i ≤ l.length → l.length - i + 600 < k → out.length + 1100 * (l.length - i) ≤ 1000000000 → PItemTells.linnetref03_Put.l0 k (l.map ofI) out i = some (if mays (l.drop i) = true then (out ++ putsF (l.drop i), true) else ([], false)) := by
  intro k
  induction k with
  | zero => intro out i _ h; omega
  | succ k ih =>
    intro out i hi hk ho
    rw [PItemTells.linnetref03_Put.l0, List.length_map]
    by_cases h : i < l.length
    · have hr := rd_of l i
      have hw := wrap_next h (by omega)
      have hd := drop_nextI l i h
      rw [if_pos (by omega), if_pos (by omega), hr, hw, hd]
      generalize l.getD i zIt = x
      show (PItemTells.linnetref03_May.f x.k x.a x.b x.l).bind _ = _
      rw [may_f, Option.bind_some]
      by_cases hm : mayI x = true
      · rw [if_pos hm]
        show (PItemTells.linnetref03_lies.f k x.k x.a x.b x.l).bind _ = _
        have hpl := put_len hm
        rw [lies_f hm k (by omega), Option.bind_some, if_pos (by omega), ih _ (i + 1) (by omega) (by omega) (by rw [List.length_append]; omega)]
        have e1 : mays (x :: l.drop (i + 1)) = mays (l.drop (i + 1)) := by simp [mays, hm]
        have e2 : putsF (x :: l.drop (i + 1)) = putI x ++ putsF (l.drop (i + 1)) := rfl
        rw [e1, e2, List.append_assoc]
      · have hmf : mayI x = false := by simpa using hm
        have e1 : mays (x :: l.drop (i + 1)) = false := by simp [mays, hmf]
        rw [if_neg hm, e1]
        rfl
    · rw [if_neg (by omega), List.drop_of_length_le (by omega)]
      simp [mays, putsF]
theorem refPut_f (l : List It) (hl : l.length ≤ 5000) : PItemTells.linnetref03_Put.f (l.length + 700) (l.map ofI) = some (putsE l, mays l) := by
  have h := refPut_l0 l hl (l.length + 700) [] 0 (by omega) (by omega) (by simp; omega)
  unfold PItemTells.linnetref03_Put.f
  rw [show ((0 : Nat) : Int) = 0 from rfl, List.drop_zero] at h
  rw [h]
  unfold putsE
  by_cases hm : mays l = true
  · rw [if_pos hm, if_pos hm, hm]
    rfl
  · rw [if_neg hm, if_neg hm]
    have : mays l = false := by simpa using hm
    rw [this]
theorem refData_l0 (x0 : List Int) (ho : Oct x0) (hx : x0.length ≤ 1000000) : ∀ (k : Nat) (out : List S25) (i : Nat), i ≤ x0.length → x0.length - i < k → out.length + (x0.length - i) ≤ 1000000000 → PItemTells.linnetref03_Data.l0 k x0 out i = some (out ++ ((x0.drop i).map datI).map ofI) := by
  intro k
  induction k with
  | zero => intro out i _ h; omega
  | succ k ih =>
    intro out i hi hk hl
    rw [PItemTells.linnetref03_Data.l0]
    by_cases h : i < x0.length
    · have hr := rd_nat x0 i
      have hw := wrap_next h (by omega)
      have hd := drop_next x0 i h
      have hoc := ho.at i
      have hw2 : wrap64 (x0.getD i 0) = x0.getD i 0 := by unfold wrap64; omega
      rw [if_pos (by omega), if_pos (by omega), if_pos (by omega), hr, hw, hw2, hd, ih _ (i + 1) (by omega) (by omega) (by simp only [List.length_append, List.length_cons, List.length_nil]; omega)]
      simp [ofI, datI]
    · rw [if_neg (by omega), List.drop_of_length_le (by omega)]
      simp
theorem refData_f (x0 : List Int) (ho : Oct x0) (hx : x0.length ≤ 1000000) : PItemTells.linnetref03_Data.f (x0.length + 1) x0 = some ((x0.map datI).map ofI) := by
  have h := refData_l0 x0 ho hx (x0.length + 1) [] 0 (by omega) (by omega) (by simp; omega)
  unfold PItemTells.linnetref03_Data.f
  rw [show ((0 : Nat) : Int) = 0 from rfl, List.drop_zero] at h
  simpa using h
/-- Few of items. -/
def cutI (x : It) : It := ⟨x.k, x.a, x.b, x.l.take 600⟩
def fewI (l : List It) : List It := (l.take 40).map cutI
theorem few_l0 (l : List It) : ∀ (n k : Nat) (out : List S25) (i : Nat), i ≤ l.length → i ≤ 40 → min l.length 40 - i = n → 2 * n + 2 ≤ k → out.length + n ≤ 1000000 → PItemTells.linnetlaw03_Few.l0 k (l.map ofI) out i = some (out ++ (((l.take 40).drop i).map cutI).map ofI) := by
  intro n
  induction n with
  | zero =>
    intro k out i hi h40 hn hk ho
    obtain ⟨k, rfl⟩ : ∃ m, k = m + 2 := ⟨k - 2, by omega⟩
    have hd : (l.take 40).drop i = [] := List.drop_of_length_le (by rw [List.length_take]; omega)
    rw [PItemTells.linnetlaw03_Few.l0, hd, List.length_map]
    by_cases h : i < l.length
    · rw [if_pos (by omega), PItemTells.linnetlaw03_Few.j1, if_neg (by rw [decide_eq_true_eq]; omega)]
      simp
    · rw [if_neg (by omega), PItemTells.linnetlaw03_Few.j1, if_neg (by decide)]
      simp
  | succ n ih =>
    intro k out i hi h40 hn hk ho
    obtain ⟨k, rfl⟩ : ∃ m, k = m + 2 := ⟨k - 2, by omega⟩
    have h : i < l.length := by omega
    have hr := rd_of l i
    have hw := wrap_next (show i < 40 by omega) (by omega)
    have hd : (l.take 40).drop i = l.getD i zIt :: (l.take 40).drop (i + 1) := by
      rw [drop_nextI _ i (by rw [List.length_take]; omega), List.getD_eq_getElem?_getD, List.getD_eq_getElem?_getD, List.getElem?_take, if_pos (by omega)]
    rw [PItemTells.linnetlaw03_Few.l0, List.length_map, if_pos (by omega), PItemTells.linnetlaw03_Few.j1, if_pos (by rw [decide_eq_true_eq]; omega), List.length_map, if_pos (by omega), if_pos (by omega), hr, hw, hd]
    generalize l.getD i zIt = x
    show (if ((x.l.length : Nat) : Int) > 600 then (if 600 ≤ ((x.l.length : Nat) : Int) then (if out.length < 2932031007402 then PItemTells.linnetlaw03_Few.l0 k (l.map ofI) (out ++ [ofI (cutI x)]) ((i + 1 : Nat) : Int) else none) else none) else (if out.length < 2932031007402 then PItemTells.linnetlaw03_Few.l0 k (l.map ofI) (out ++ [ofI x]) ((i + 1 : Nat) : Int) else none)) = _
    by_cases h6 : 600 < x.l.length
    · rw [if_pos (by omega), if_pos (by omega), if_pos (by omega), ih k _ (i + 1) (by omega) (by omega) (by omega) (by omega) (by rw [List.length_append, List.length_singleton]; omega)]
      simp
    · have e : cutI x = x := by
        unfold cutI
        rw [List.take_of_length_le (by omega)]
      rw [if_neg (by omega), if_pos (by omega), ih k _ (i + 1) (by omega) (by omega) (by omega) (by omega) (by rw [List.length_append, List.length_singleton]; omega)]
      simp [e]
theorem few_f (l : List It) : PItemTells.linnetlaw03_Few.f 100 (l.map ofI) = some ((fewI l).map ofI) := by
  have h := few_l0 l (min l.length 40) 100 [] 0 (by omega) (by omega) (by omega) (by omega) (by simp only [List.length_nil]; omega)
  unfold PItemTells.linnetlaw03_Few.f
  rw [show ((0 : Nat) : Int) = 0 from rfl, List.drop_zero, List.nil_append] at h
  exact h
theorem few_len (l : List It) : (fewI l).length ≤ 40 := by
  rw [fewI, List.length_map, List.length_take]
  omega
theorem few_octs {l : List It} (h : Octs l) : Octs (fewI l) := by
  intro x hx
  obtain ⟨y, hy, rfl⟩ := List.mem_map.1 hx
  exact (h y (List.mem_of_mem_take hy)).take 600
theorem heap_k25 : Kd.Heap PItemTells.k25 := Kd.heap_iso _ (Kd.heap_pair (Kd.heap_int _) (Kd.heap_pair (Kd.heap_int _) (Kd.heap_pair (Kd.heap_int _) (Kd.heap_slice 5 (Kd.heap_int _)))))
theorem few_any (A : Option Addr) (c : Nat) (l : List It) (w : World) (hC : kIt.C w A l.length l) (hc : l.length ≤ c) :
    Calls Tryd.prog 14 #[.slice A l.length c] w (ItsP w (fewI l)) := by
  have e : (l.map ofI).length = l.length := List.length_map _
  have h0 := C_of hC
  have h1 : Kd.V PItemTells.k25 25 w w.heap.size (fun k => k < w.heap.size) (.slice A (l.map ofI).length c) (l.map ofI) := Kd.V_mk (by rw [e]; exact hc) (Kd.C_F heap_k25 (by rw [e]; exact h0))
  have h2 := PItemTells.linnetlaw03_Few.calls 100 _ A c _ _ w h1 (few_f l)
  rw [e] at h2
  refine h2.mono ?_
  rintro e w' ⟨v, rfl, hN, hb⟩
  obtain ⟨A', c', rfl, hc', hC'⟩ := Kd.N_reads hN
  rw [List.length_map] at hC' hc'
  refine ⟨A', c', by rw [List.length_map], hc', C_to hC', hb⟩
theorem octets_any (A B : Option Addr) (c d : Nat) (xs ys : List Int) (w : World) (h1 : kB.C w A xs.length xs) (hc : xs.length ≤ c) (h2 : kB.C w B ys.length ys) (hd : ys.length ≤ d) (hx : Oct xs) (hy : Oct ys) :
    Calls Tryd.prog 17 #[.slice A xs.length c, .slice B ys.length d] w (BoolP w (decide (xs = ys))) := by
  refine (PItemTells.linnetref01_Octets.calls A c xs B d ys _ w h1 hc h2 hd rfl).mono ?_
  rintro e w' ⟨rfl, hb⟩
  refine ⟨?_, hb.below⟩
  rw [str_eq hx hy]
end Go.Proofs.YtkbblbgiheclfaaDoor.Dr
