/- The law ItemApart. -/
import Derived.Test.YtkbblbgiheclfaaDoorQC
import Derived.Test.YtkbblbgiheclfaaDoorRG
import Derived.Test.YtkbblbgiheclfaaDoorDW
namespace Go.Proofs.YtkbblbgiheclfaaDoor.Dr
open Go.RowKit Go.Proofs.YtkbblbgiheclfaaDoorW.PrintWords

theorem below_box {w0 w2 w3 : World} {o : Obj} (h : Below w0.heap.size w0 w2) (hb : Below (w2.alloc o).heap.size (w2.alloc o) w3) : Below w0.heap.size w0 w3 :=
  (below_alloc h o).trans (hb.mono (below_alloc h o).size)
/-- What lies outside the two boxes. -/
def OutS (s k : Nat) : Prop := k < s ∨ s + 2 ≤ k
theorem lit_at {W : World} {g : Nat} {x : It} {B : Option Addr} {c : Nat} (hk : W.heap[g]? = some (.cells #[.int .i64 x.k, .int .i64 x.a, .int .i64 x.b, .slice B x.l.length c] 25 (0, 0))) (hle : x.l.length ≤ c) (hB : kB.C W B x.l.length x.l) : kIt.C W (some ⟨g, 0, none⟩) 1 [x] := by
  refine ⟨rfl, by omega, fun _ => ⟨_, rfl, fun j p hj => ?_⟩⟩
  rcases j with _ | j
  · obtain rfl : x = p := by simpa using hj
    refine ⟨[.int .i64 x.k, .int .i64 x.a, .int .i64 x.b, .slice B x.l.length c], rfl, ⟨[.int .i64 x.k], _, rfl, rfl, [.int .i64 x.a], _, rfl, rfl, [.int .i64 x.b], _, rfl, rfl, B, c, rfl, hle, hB⟩, fun i u hu => ?_⟩
    rw [show (0 * kIt.sz + i) = i by simp, add_plain, blk_cell hk i]
    simpa using hu
  · simp at hj
theorem lit_F {w W : World} {x : It} {B : Option Addr} {c : Nat} (hle : x.l.length ≤ c) (hB : kB.C w B x.l.length x.l) (hb : Below w.heap.size w W) (hs : w.heap.size + 2 ≤ W.heap.size) : Kd.F kIt (W.alloc (.cells #[.int .i64 x.k, .int .i64 x.a, .int .i64 x.b, .slice B x.l.length c] 25)) (OutS w.heap.size) (some ⟨W.heap.size, 0, none⟩) 1 [x] := by
  intro W' hW
  refine lit_at (c := c) (B := B) ((hW W.heap.size (.inr hs) (by simp)).trans (alloc_at W _)) hle ?_
  refine Kd.C_F (Kd.heap_int .u8) hB W' (fun k hk _ => ?_)
  have h1 := hW k (.inl hk) (by simp; omega)
  have h2 := (below_alloc (Below.refl _ W) (.cells #[.int .i64 x.k, .int .i64 x.a, .int .i64 x.b, .slice B x.l.length c] 25)).block k (by omega)
  rw [h1, h2, hb.block k hk]
/-- Few of one item: where it lies, and how. -/
def OneP (s : Nat) (W : World) (x : It) (e : Ending) (w' : World) : Prop := ∃ g B c c', e = .returned (.slice (some ⟨g, 0, none⟩) 1 c') ∧ 1 ≤ c' ∧ s + 2 ≤ g ∧ w'.cell? ⟨g, 0, none⟩ = some (.int .i64 x.k) ∧ w'.cell? ⟨g, 1, none⟩ = some (.int .i64 x.a) ∧ w'.cell? ⟨g, 2, none⟩ = some (.int .i64 x.b) ∧ w'.cell? ⟨g, 3, none⟩ = some (.slice B x.l.length c) ∧ x.l.length ≤ c ∧ Kd.F kB w' (OutS s) B x.l.length x.l ∧ Below W.heap.size W w'
theorem one_few (s : Nat) (x : It) (g0 : Nat) (W : World) (hs : s + 2 ≤ W.heap.size) (h : Kd.F kIt W (OutS s) (some ⟨g0, 0, none⟩) 1 [x]) : Calls Tryd.prog 14 #[.slice (some ⟨g0, 0, none⟩) 1 1] W (OneP s W (cutI x)) := by
  have h1 : Kd.V PItemTells.k25 25 W W.heap.size (OutS s) (.slice (some ⟨g0, 0, none⟩) [ofI x].length 1) [ofI x] := Kd.V_mk (Nat.le_refl _) (Kd.F_imp h (fun W' h => C_of h))
  refine (PItemTells.linnetlaw03_Few.calls 100 _ (some ⟨g0, 0, none⟩) 1 [ofI x] [ofI (cutI x)] W h1 (few_f [x])).mono ?_
  rintro e w' ⟨v, rfl, hN, hb⟩
  obtain ⟨g, cap, rfl, hge, _, _⟩ := Kd.N_form hN (by simp)
  have hc := (Kd.N_reads' hN).2.1
  obtain ⟨cs, _, hFK, hcc, _⟩ := Kd.N_elem hN (ofI zIt) 0 (Int.le_refl _) (by simp)
  obtain ⟨B, c, rfl, hle, hB⟩ := PItemTells.k25_open (Kd.FK_now hFK)
  refine ⟨g, B, c, cap, rfl, hc, Nat.le_trans hs hge, hcc 0 _ rfl, hcc 1 _ rfl, hcc 2 _ rfl, hcc 3 _ rfl, hle, ?_, hb⟩
  intro W' hW
  have h3 := hFK W' (fun k hk hlt => hW k (by
    rcases hk.1 with h | h
    · exact h
    · exact .inr (by omega)) hlt)
  obtain ⟨B', c', he, _, hB'⟩ := PItemTells.k25_open h3
  have hBB : B = B' := by
    simp only [List.cons.injEq, Value.slice.injEq] at he
    exact he.2.2.2.1.1
  rw [hBB]
  exact hB'
theorem blk_fourR {w : World} {g T : Nat} {a b c d : Value} (h : w.heap[g]? = some (.cells #[a, b, c, d] T (0, 0))) (a' b' c' d' : Value) :
    ((((w.setCell ⟨g, 0, none⟩ a').setCell ⟨g, 1, none⟩ b').setCell ⟨g, 2, none⟩ c').setCell ⟨g, 3, none⟩ d').heap[g]? = some (.cells #[a', b', c', d'] T (0, 0)) :=
  blk_set (blk_set (blk_set (blk_set h 0 a') 1 b') 2 c') 3 d'
theorem below_four {w0 w : World} {n g : Nat} (h : Below n w0 w) (hg : n ≤ g) (a b c d : Value) : Below n w0 ((((w.setCell ⟨g, 0, none⟩ a).setCell ⟨g, 1, none⟩ b).setCell ⟨g, 2, none⟩ c).setCell ⟨g, 3, none⟩ d) :=
  (((h.setCell (p := ⟨g, 0, none⟩) hg a).setCell (p := ⟨g, 1, none⟩) hg b).setCell (p := ⟨g, 2, none⟩) hg c).setCell (p := ⟨g, 3, none⟩) hg d
theorem blk_four_far {w : World} {g k : Nat} (h : k ≠ g) (a b c d : Value) : ((((w.setCell ⟨g, 0, none⟩ a).setCell ⟨g, 1, none⟩ b).setCell ⟨g, 2, none⟩ c).setCell ⟨g, 3, none⟩ d).heap[k]? = w.heap[k]? := by
  rw [Below.heap_setCell _ ⟨g, 3, none⟩ _ k h, Below.heap_setCell _ ⟨g, 2, none⟩ _ k h, Below.heap_setCell _ ⟨g, 1, none⟩ _ k h, Below.heap_setCell _ ⟨g, 0, none⟩ _ k h]
/-- How the two lie, behind the cut. -/
def ApR (w : World) (x y : It) (wx : World) : Prop := ∃ A B c d, wx.heap[w.heap.size]? = some (.cells #[.int .i64 x.k, .int .i64 x.a, .int .i64 x.b, .slice A x.l.length c] 25 (0, 0)) ∧ wx.heap[w.heap.size + 1]? = some (.cells #[.int .i64 y.k, .int .i64 y.a, .int .i64 y.b, .slice B y.l.length d] 25 (0, 0)) ∧ x.l.length ≤ c ∧ y.l.length ≤ d ∧ kB.C wx A x.l.length x.l ∧ kB.C wx B y.l.length y.l ∧ Below w.heap.size w wx
theorem ApR.mk {w w3 : World} {x y : It} {A B : Option Addr} {c d : Nat} {a0 a1 a2 a3 b0 b1 b2 b3 : Value} (hk : w3.heap[w.heap.size]? = some (.cells #[a0, a1, a2, a3] 25 (0, 0))) (hk1 : w3.heap[w.heap.size + 1]? = some (.cells #[b0, b1, b2, b3] 25 (0, 0))) (hb : Below w.heap.size w w3)
    (hle1 : x.l.length ≤ c) (hle2 : y.l.length ≤ d) (hA : Kd.F kB w3 (OutS w.heap.size) A x.l.length x.l) (hB : Kd.F kB w3 (OutS w.heap.size) B y.l.length y.l) :
    ApR w x y ((((((((w3.setCell ⟨w.heap.size, 0, none⟩ (.int .i64 x.k)).setCell ⟨w.heap.size, 1, none⟩ (.int .i64 x.a)).setCell ⟨w.heap.size, 2, none⟩ (.int .i64 x.b)).setCell ⟨w.heap.size, 3, none⟩ (.slice A x.l.length c)).setCell ⟨w.heap.size + 1, 0, none⟩ (.int .i64 y.k)).setCell ⟨w.heap.size + 1, 1, none⟩ (.int .i64 y.a)).setCell ⟨w.heap.size + 1, 2, none⟩ (.int .i64 y.b)).setCell ⟨w.heap.size + 1, 3, none⟩ (.slice B y.l.length d)) := by
  have e0 := blk_fourR hk (.int .i64 x.k) (.int .i64 x.a) (.int .i64 x.b) (.slice A x.l.length c)
  have e1 := (blk_four_far (w := w3) (g := w.heap.size) (k := w.heap.size + 1) (by omega) (.int .i64 x.k) (.int .i64 x.a) (.int .i64 x.b) (.slice A x.l.length c)).trans hk1
  have hbb := below_four hb (Nat.le_refl _) (.int .i64 x.k) (.int .i64 x.a) (.int .i64 x.b) (.slice A x.l.length c)
  have hfar : ∀ k, OutS w.heap.size k → ((((w3.setCell ⟨w.heap.size, 0, none⟩ (.int .i64 x.k)).setCell ⟨w.heap.size, 1, none⟩ (.int .i64 x.a)).setCell ⟨w.heap.size, 2, none⟩ (.int .i64 x.b)).setCell ⟨w.heap.size, 3, none⟩ (.slice A x.l.length c)).heap[k]? = w3.heap[k]? := fun k hk => blk_four_far (by rcases hk with h | h <;> omega) _ _ _ _
  generalize (((w3.setCell ⟨w.heap.size, 0, none⟩ (.int .i64 x.k)).setCell ⟨w.heap.size, 1, none⟩ (.int .i64 x.a)).setCell ⟨w.heap.size, 2, none⟩ (.int .i64 x.b)).setCell ⟨w.heap.size, 3, none⟩ (.slice A x.l.length c) = w4 at *
  have hfar2 : ∀ k, OutS w.heap.size k → ((((w4.setCell ⟨w.heap.size + 1, 0, none⟩ (.int .i64 y.k)).setCell ⟨w.heap.size + 1, 1, none⟩ (.int .i64 y.a)).setCell ⟨w.heap.size + 1, 2, none⟩ (.int .i64 y.b)).setCell ⟨w.heap.size + 1, 3, none⟩ (.slice B y.l.length d)).heap[k]? = w3.heap[k]? := fun k hk => (blk_four_far (by rcases hk with h | h <;> omega) _ _ _ _).trans (hfar k hk)
  exact ⟨A, B, c, d, (blk_four_far (by omega) _ _ _ _).trans e0, blk_fourR e1 _ _ _ _, hle1, hle2, hA _ (fun k hk _ => hfar2 k hk), hB _ (fun k hk _ => hfar2 k hk), below_four hbb (Nat.le_succ _) _ _ _ _⟩
theorem may_one (x : It) : putsE [x] = (if mayI x = true then putI x else []) ∧ errs [x] = (if mayI x = true then 0 else 1) := by
  unfold putsE errs mays putsF
  by_cases h : mayI x = true
  · simp [h]
  · simp [h]
theorem put_one (x : It) (ho : Oct x.l) (A : Option Addr) (W : World) (h : kIt.C W A 1 [x]) : Calls Tryd.prog 15 #[.slice A 1 1] W (PutQ W (putsE [x]) (errs [x])) :=
  put_q A 1 [x] W h (fun y hy => by rw [List.mem_singleton.1 hy]; exact ho) (by simp)
/-- What putting the two says. -/
def ApP (ex ey : Int) (X Y : List Int) (q : Bool) : Prop := (ex = 0 ∧ ey = 0 ∧ 0 < X.length ∧ (X.length ≤ Y.length → decide (X = Y.take X.length) = q) ∧ (¬ X.length ≤ Y.length → q = false)) ∨ ex = 1 ∨ (ex = 0 ∧ ey = 1)
theorem apart_is (x y : It) : ApP (errs [x]) (errs [y]) (putsE [x]) (putsE [y]) (decide (x = y)) := by
  rw [(may_one x).1, (may_one x).2, (may_one y).1, (may_one y).2]
  by_cases hx : mayI x = true
  · by_cases hy : mayI y = true
    · left
      rw [if_pos hx, if_pos hx, if_pos hy, if_pos hy]
      refine ⟨rfl, rfl, put_pos hx, fun h => ?_, fun h => ?_⟩
      · by_cases he : x = y
        · subst he
          rw [decide_eq_true rfl, List.take_length]
          exact decide_eq_true rfl
        · rw [decide_eq_false he]
          refine decide_eq_false (fun h2 => he (put_free hx hy (t := (putI y).drop (putI x).length) ?_))
          conv => lhs; lhs; rw [h2]
          exact List.take_append_drop _ _
      · refine decide_eq_false (fun he => h ?_)
        rw [he]
        exact Nat.le_refl _
    · rw [if_pos hx, if_neg hy]
      exact .inr (.inr ⟨rfl, rfl⟩)
  · rw [if_neg hx]
    exact .inr (.inl rfl)
set_option maxHeartbeats 8000000 in
set_option maxRecDepth 100000 in
theorem apart_law (x0 y0 : It) (A0 B0 : Option Addr) (c0 d0 : Nat) (w : World) (hle1 : x0.l.length ≤ c0) (hle2 : y0.l.length ≤ d0) (hA : kB.C w A0 x0.l.length x0.l) (hB : kB.C w B0 y0.l.length y0.l) (ho1 : Oct x0.l) (ho2 : Oct y0.l) :
    Calls Tryd.prog 5 #[.agg #[.int .i64 x0.k, .int .i64 x0.a, .int .i64 x0.b, .slice A0 x0.l.length c0], .agg #[.int .i64 y0.k, .int .i64 y0.a, .int .i64 y0.b, .slice B0 y0.l.length d0]] w (AwakeP w) := by
  have HLX : Hid (∀ W g, g = W.heap.size → Below w.heap.size w W → w.heap.size + 2 ≤ W.heap.size → Kd.F kIt (W.alloc (.cells #[.int .i64 x0.k, .int .i64 x0.a, .int .i64 x0.b, .slice A0 x0.l.length c0] 25)) (OutS w.heap.size) (some ⟨g, 0, none⟩) 1 [x0]) := Lib.hid (fun W g hg h hs => hg ▸ lit_F hle1 hA h hs)
  have HLY : Hid (∀ W g, g = W.heap.size → Below w.heap.size w W → w.heap.size + 2 ≤ W.heap.size → Kd.F kIt (W.alloc (.cells #[.int .i64 y0.k, .int .i64 y0.a, .int .i64 y0.b, .slice B0 y0.l.length d0] 25)) (OutS w.heap.size) (some ⟨g, 0, none⟩) 1 [y0]) := Lib.hid (fun W g hg h hs => hg ▸ lit_F hle2 hB h hs)
  have HFX := Lib.hid (one_few w.heap.size x0)
  have HFY := Lib.hid (one_few w.heap.size y0)
  have ho1' : Oct (cutI x0).l := ho1.take 600
  have ho2' : Oct (cutI y0).l := ho2.take 600
  have HPX : Hid (∀ W A, kIt.C W A 1 [cutI x0] → Calls Tryd.prog 15 #[.slice A 1 1] W (PutQ W (putsE [cutI x0]) (errs [cutI x0]))) := Lib.hid (fun W A h => put_one _ ho1' A W h)
  have HPY : Hid (∀ W A, kIt.C W A 1 [cutI y0] → Calls Tryd.prog 15 #[.slice A 1 1] W (PutQ W (putsE [cutI y0]) (errs [cutI y0]))) := Lib.hid (fun W A h => put_one _ ho2' A W h)
  have HSM : Hid (∀ A B W, kIt.C W A 1 [cutI x0] → kIt.C W B 1 [cutI y0] → Calls Tryd.prog 19 #[.slice A 1 1, .slice B 1 1] W (BoolP W (decide (cutI x0 = cutI y0)))) := Lib.hid (fun A B W h1 h2 => by
    have h3 := isame_any A B 1 1 [cutI x0] [cutI y0] W h1 h2 (fun z hz => by rw [List.mem_singleton.1 hz]; exact ho1') (fun z hz => by rw [List.mem_singleton.1 hz]; exact ho2')
    rw [show decide ([cutI x0] = [cutI y0]) = decide (cutI x0 = cutI y0) by simp] at h3
    exact h3)
  have HJ := Lib.hid (apart_is (cutI x0) (cutI y0))
  have HOX : Hid (Oct (putsE [cutI x0])) := Lib.hid (putsE_oct (fun z hz => by rw [List.mem_singleton.1 hz]; exact ho1'))
  have HOY : Hid (Oct (putsE [cutI y0])) := Lib.hid (putsE_oct (fun z hz => by rw [List.mem_singleton.1 hz]; exact ho2'))
  have hXl : (putsE [cutI x0]).length ≤ 1100 := by have := putsE_len [cutI x0]; simpa using this
  have hYl : (putsE [cutI y0]).length ≤ 1100 := by have := putsE_len [cutI y0]; simpa using this
  clear hA hB ho1 ho2 ho1' ho2'
  generalize putsE [cutI x0] = X at *
  generalize putsE [cutI y0] = Y at *
  generalize errs [cutI x0] = ex at *
  generalize errs [cutI y0] = ey at *
  generalize decide (cutI x0 = cutI y0) = q at *
  generalize cutI x0 = x at *
  generalize cutI y0 = y at *
  obtain ⟨k, a, b, l⟩ := x0
  obtain ⟨k', a', b', l'⟩ := y0
  dsimp only at *
  generalize l.length = n at *
  generalize l'.length = n' at *
  go_enter Tryd.func5, Tryd.ntmps5
  go_upto_region 1 with fail
  have hsz : (w.alloc (.cells #[.int .i64 k, .int .i64 a, .int .i64 b, .slice A0 n c0] 25)).heap.size = w.heap.size + 1 := by simp
  have hk1 := alloc_at (w.alloc (.cells #[.int .i64 k, .int .i64 a, .int .i64 b, .slice A0 n c0] 25)) (.cells #[.int .i64 k', .int .i64 a', .int .i64 b', .slice B0 n' d0] 25)
  rw [hsz] at hk1
  have hk0 := ((below_alloc (Below.refl _ (w.alloc (.cells #[.int .i64 k, .int .i64 a, .int .i64 b, .slice A0 n c0] 25))) (.cells #[.int .i64 k', .int .i64 a', .int .i64 b', .slice B0 n' d0] 25)).block w.heap.size (by simp)).trans (alloc_at w (.cells #[.int .i64 k, .int .i64 a, .int .i64 b, .slice A0 n c0] 25))
  have hbz := (below_alloc (Below.refl _ w) (.cells #[.int .i64 k, .int .i64 a, .int .i64 b, .slice A0 n c0] 25)).trans ((below_alloc (Below.refl _ (w.alloc (.cells #[.int .i64 k, .int .i64 a, .int .i64 b, .slice A0 n c0] 25))) (.cells #[.int .i64 k', .int .i64 a', .int .i64 b', .slice B0 n' d0] 25)).mono (by simp))
  generalize (w.alloc (.cells #[.int .i64 k, .int .i64 a, .int .i64 b, .slice A0 n c0] 25)).alloc (.cells #[.int .i64 k', .int .i64 a', .int .i64 b', .slice B0 n' d0] 25) = wz at *
  obtain ⟨f0, f1, f2, f3, z0, z1, z2, z3⟩ := blk_facts4 hk0
  obtain ⟨g0, g1, g2, g3, y0, y1, y2, y3⟩ := blk_facts4 hk1
  have hlt0 := blk_lt hk0
  have hlt1 := blk_lt hk1
  have HK0 := Lib.hid hk0
  have HK1 := Lib.hid hk1
  have HBZ := Lib.hid hbz
  have hz2 : w.heap.size + 2 ≤ wz.heap.size := by omega
  have hzd : wz.drew.heap.size = wz.heap.size := rfl
  have HBD := Lib.hid (show Below w.heap.size w wz.drew from hbz.drew)
  have HZD := Lib.hid (show Below wz.heap.size wz wz.drew from below_drew (Below.refl _ wz))
  clear hk0 hk1 hbz hsz
  go_cut [] (fun wx => ApR w x y wx)
  case first =>
    clear HPX HPY HSM HJ HOX HOY
    go_region_with (first
      | (go_at_call 14; (refine Calls.mono (HFX.out _ _ (by first | omega | (simp; done) | (simp; omega)) (by first | exact HLX.out _ _ (by first | rfl | (simp; done)) (by repeat (first | exact HBZ.out | refine Below.drew ?_ | refine below_alloc ?_ _)) (by first | omega | (simp; done) | (simp; omega)) | exact Kd.F_drew (HLX.out _ _ (by first | rfl | (simp; done)) (by repeat (first | exact HBZ.out | refine Below.drew ?_ | refine below_alloc ?_ _)) (by first | omega | (simp; done) | (simp; omega))) | exact Kd.F_drew (Kd.F_alloc (HLX.out _ _ (by first | rfl | (simp; done)) (by repeat (first | exact HBZ.out | refine Below.drew ?_ | refine below_alloc ?_ _)) (by first | omega | (simp; done) | (simp; omega))) _) | exact Kd.F_alloc (HLX.out _ _ (by first | rfl | (simp; done)) (by repeat (first | exact HBZ.out | refine Below.drew ?_ | refine below_alloc ?_ _)) (by first | omega | (simp; done) | (simp; omega))) _)) ?_); rintro e w1 ⟨g5, B5, c5, c5', rfl, hc5, hg5, x0, x1, x2, x3, hle5, hF5, hb5⟩; have hzw : Below wz.heap.size wz w1 := Below.trans (by repeat (first | exact Below.refl _ wz | refine Below.drew ?_ | refine below_alloc ?_ _)) (hb5.mono (by first | omega | (simp; done) | (simp; omega))); have hz1 := hzw.size; have hp0 := (hzw.block _ hlt0).trans HK0.out; have hp1 := (hzw.block _ hlt1).trans HK1.out; obtain ⟨p0, p1, p2, p3, q0, q1, q2, q3⟩ := blk_facts4 hp0; obtain ⟨s0, s1, s2, s3, t0, t1, t2, t3⟩ := blk_facts4 hp1; have bx5 : g5 < w1.heap.size := cell_block x0; have n5 : ¬ g5 = w.heap.size := (by omega); have n5' : ¬ g5 = w.heap.size + 1 := (by omega); have HP0 := Lib.hid hp0; have HP1 := Lib.hid hp1; have HPRE := Lib.hid hb5; have HW1 := Lib.hid (HBZ.out.trans (hzw.mono HBZ.out.size)); have HF5 := Lib.hid hF5; clear hzw hp0 hp1 hb5 hF5)
      | (go_at_call 14; (refine Calls.mono (HFY.out _ _ (by first | omega | (simp; done) | (simp; omega)) (by first | exact HLY.out _ _ (by first | rfl | (simp; done)) (by repeat (first | exact HW1.out | refine Below.drew ?_ | refine below_alloc ?_ _)) (by first | omega | (simp; done) | (simp; omega)) | exact Kd.F_below (by first | exact HLY.out _ _ (by first | rfl | (simp; done)) (by repeat (first | exact HBZ.out | refine Below.drew ?_ | refine below_alloc ?_ _)) (by first | omega | (simp; done) | (simp; omega)) | exact Kd.F_drew (HLY.out _ _ (by first | rfl | (simp; done)) (by repeat (first | exact HBZ.out | refine Below.drew ?_ | refine below_alloc ?_ _)) (by first | omega | (simp; done) | (simp; omega))) | exact Kd.F_drew (Kd.F_alloc (HLY.out _ _ (by first | rfl | (simp; done)) (by repeat (first | exact HBZ.out | refine Below.drew ?_ | refine below_alloc ?_ _)) (by first | omega | (simp; done) | (simp; omega))) _) | exact Kd.F_alloc (HLY.out _ _ (by first | rfl | (simp; done)) (by repeat (first | exact HBZ.out | refine Below.drew ?_ | refine below_alloc ?_ _)) (by first | omega | (simp; done) | (simp; omega))) _) HPRE.out)) ?_); rintro e w2 ⟨g6, B6, c6, c6', rfl, hc6, hg6, u0, u1, u2, u3, hle6, hF6, hb6⟩; have h12 : Below w1.heap.size w1 w2 := Below.trans (by repeat (first | exact Below.refl _ _ | refine Below.drew ?_ | refine below_alloc ?_ _)) (hb6.mono (by first | omega | (simp; done) | (simp; omega))); have hp0 := (h12.block _ (blk_lt HP0.out)).trans HP0.out; have hp1 := (h12.block _ (blk_lt HP1.out)).trans HP1.out; obtain ⟨a0, a1, a2, a3, b0, b1, b2, b3⟩ := blk_facts4 hp0; obtain ⟨d0', d1, d2, d3, e0, e1, e2, e3⟩ := blk_facts4 hp1; have n6 : ¬ g6 = w.heap.size := (by omega); have n6' : ¬ g6 = w.heap.size + 1 := (by omega); have v0 := (h12.cell (p := ⟨g5, 0, none⟩) bx5).trans x0; have v1 := (h12.cell (p := ⟨g5, 1, none⟩) bx5).trans x1; have v2 := (h12.cell (p := ⟨g5, 2, none⟩) bx5).trans x2; have v3 := (h12.cell (p := ⟨g5, 3, none⟩) bx5).trans x3; have HW2 := Lib.hid (HW1.out.trans (h12.mono HW1.out.size)); have HF52 := Lib.hid (Kd.F_below HF5.out h12); have HF6 := Lib.hid hF6; have HP02 := Lib.hid hp0; have HP12 := Lib.hid hp1; clear h12 hp0 hp1 hb6 hF6))
    all_goals
      go_wp2_with fail
      go_meet
      exact ApR.mk HP02.out HP12.out HW2.out hle5 hle6 HF52.out HF6.out
  case rest =>
    obtain ⟨A, B, c, d, hk0, hk1, hlx, hly, hA, hB, hbw⟩ := hcut
    clear HK0 HK1 HBZ f0 f1 f2 f3 z0 z1 z2 z3 g0 g1 g2 g3 y0 y1 y2 y3 hlt0 hlt1 HFX HFY HLX HLY HBD HZD hz2 hzd
    obtain ⟨f0, f1, f2, f3, z0, z1, z2, z3⟩ := blk_facts4 hk0
    obtain ⟨g0, g1, g2, g3, y0, y1, y2, y3⟩ := blk_facts4 hk1
    have HK0 := Lib.hid hk0
    have HK1 := Lib.hid hk1
    have HA := Lib.hid hA
    have HB := Lib.hid hB
    have HBW := Lib.hid hbw
    clear hk0 hk1 hA hB hbw
    go_upto_region 4 with (first
      | (go_at_call 15; (with_reducible refine Calls.mono (HPX.out _ _ (lit_I wc x A c hlx HA.out)) ?_); rintro e w1 ⟨A5, c5, rfl, hc5, hC5, hb5⟩; have hz := below_box (Below.refl _ wc) hb5; have hp0 := (hz.block _ (blk_lt HK0.out)).trans HK0.out; have hp1 := (hz.block _ (blk_lt HK1.out)).trans HK1.out; obtain ⟨p0, p1, p2, p3, q0, q1, q2, q3⟩ := blk_facts4 hp0; obtain ⟨s0, s1, s2, s3, t0, t1, t2, t3⟩ := blk_facts4 hp1; have HP0 := Lib.hid hp0; have HP1 := Lib.hid hp1; have HA1 := Lib.hid (Kd.C_below HA.out hz); have HB1 := Lib.hid (Kd.C_below HB.out hz); have HBW1 := Lib.hid (HBW.out.trans (hz.mono HBW.out.size)); have HC5 := Lib.hid hC5; clear hb5 hz hp0 hp1 hC5)
      | (go_at_call 15; (with_reducible refine Calls.mono (HPY.out _ _ (lit_I w1 y B d hly HB1.out)) ?_); rintro e w2 ⟨A6, c6, rfl, hc6, hC6, hb6⟩; have hz := below_box (Below.refl _ w1) hb6; have hp0 := (hz.block _ (blk_lt HP0.out)).trans HP0.out; have hp1 := (hz.block _ (blk_lt HP1.out)).trans HP1.out; have HP02 := Lib.hid hp0; have HP12 := Lib.hid hp1; have HA2 := Lib.hid (Kd.C_below HA1.out hz); have HB2 := Lib.hid (Kd.C_below HB1.out hz); have HBW2 := Lib.hid (HBW1.out.trans (hz.mono HBW1.out.size)); have HC52 := Lib.hid (Kd.C_below HC5.out hz); have HC6 := Lib.hid hC6; clear hb6 hz hp0 hp1 hC6))
    clear f0 f1 f2 f3 z0 z1 z2 z3 g0 g1 g2 g3 y0 y1 y2 y3 p0 p1 p2 p3 q0 q1 q2 q3 s0 s1 s2 s3 t0 t1 t2 t3 HK0 HK1 HA HB HBW HP0 HP1 HA1 HB1 HBW1 HC5 HPX HPY
    rcases HJ.out with ⟨rfl, rfl, hpos, hq1, hq2⟩ | rfl | ⟨rfl, rfl⟩
    · obtain ⟨f0, f1, f2, f3, z0, z1, z2, z3⟩ := blk_facts4 HP02.out
      obtain ⟨g0, g1, g2, g3, y0, y1, y2, y3⟩ := blk_facts4 HP12.out
      have hlt0 := blk_lt HP02.out
      have hlt1 := blk_lt HP12.out
      have hl2 := lit_I (w2.alloc (.cells #[.int .i64 x.k, .int .i64 x.a, .int .i64 x.b, .slice A x.l.length c] 25)) y B d hly (Kd.C_alloc HB2.out _)
      rw [World.size_alloc] at hl2
      have HL2 := Lib.hid hl2
      have HL1 := Lib.hid (Kd.C_alloc (lit_I w2 x A c hlx HA2.out) (.cells #[.int .i64 y.k, .int .i64 y.a, .int .i64 y.b, .slice B y.l.length d] 25))
      have hb2 := (below_alloc (Below.refl _ w2) (.cells #[.int .i64 x.k, .int .i64 x.a, .int .i64 x.b, .slice A x.l.length c] 25))
      have HBA := Lib.hid (below_alloc hb2 (.cells #[.int .i64 y.k, .int .i64 y.a, .int .i64 y.b, .slice B y.l.length d] 25))
      clear hl2 hb2
      by_cases hle : X.length ≤ Y.length
      · have hmin : min (X.length : Int) (Y.length : Int) = (X.length : Int) := by omega
        obtain ⟨i0, hi, _⟩ := info_parts info_u8
        have hcut2 := cut_to (P := Tryd.prog) 22 5 .i64 Tryd.underlying22 hi A6 Y.length c6 (X.length : Int) (by omega) (by omega) hc6
        rw [Int.toNat_natCast] at hcut2
        have HOC : Hid (∀ W, kB.C W A5 X.length X → kB.C W A6 Y.length Y → Calls Tryd.prog 17 #[.slice A5 X.length c5, .slice A6 X.length c6] W (BoolP W q)) := Lib.hid (fun W h1 h2 => by
          have ht : (Y.take X.length).length = X.length := by rw [List.length_take]; omega
          have h3 := octets_any A5 A6 c5 c6 X (Y.take X.length) W h1 hc5 (Kd.C_take h2 (by omega)) (by omega) HOX.out (HOY.out.take _)
          rw [hq1 hle, ht] at h3
          exact h3)
        clear hi HJ HOX HOY hq1 hq2
        go_wp2_with (first
          | (go_at_call 19; (with_reducible refine Calls.mono (HSM.out _ _ _ HL1.out HL2.out) ?_); rintro e w3 ⟨rfl, hb7⟩; have hz := HBA.out.trans (hb7.mono HBA.out.size); have HC53 := Lib.hid (Kd.C_below HC52.out hz); have HC63 := Lib.hid (Kd.C_below HC6.out hz); have HB3 := Lib.hid (HBW2.out.trans (hz.mono HBW2.out.size)); clear hb7 hz)
          | (go_at_call 17; (with_reducible refine Calls.mono (HOC.out w3 HC53.out HC63.out) ?_); rintro e w4 ⟨rfl, hb8⟩; have HB4 := Lib.hid (HB3.out.trans (hb8.mono HB3.out.size)); clear hb8)
          | (go_at_call 13; refine (awake_any _).mono ?_; rintro e w5 ⟨rfl, hb9⟩; have HB5 := Lib.hid (HB4.out.trans (hb9.mono HB4.out.size)); clear hb9))
        go_ret
        exact ⟨rfl, HB5.out⟩
      · obtain rfl := hq2 hle
        have hle' : ¬ (X.length : Int) ≤ (Y.length : Int) := by omega
        clear HJ HOX HOY hq1 hq2
        go_wp2_with (first
          | (go_at_call 19; (with_reducible refine Calls.mono (HSM.out _ _ _ HL1.out HL2.out) ?_); rintro e w3 ⟨rfl, hb7⟩; have hz := HBA.out.trans (hb7.mono HBA.out.size); have HB3 := Lib.hid (HBW2.out.trans (hz.mono HBW2.out.size)); clear hb7 hz)
          | (go_at_call 13; refine (awake_any _).mono ?_; rintro e w5 ⟨rfl, hb9⟩; have HB5 := Lib.hid (HB3.out.trans (hb9.mono HB3.out.size)); clear hb9))
        go_ret
        exact ⟨rfl, HB5.out⟩
    · clear HJ HOX HOY HSM
      go_wp2_with (go_at_call 13; refine (awake_any _).mono ?_; rintro e w5 ⟨rfl, hb9⟩; have HB5 := Lib.hid (HBW2.out.trans (hb9.mono HBW2.out.size)); clear hb9)
      go_ret
      exact ⟨rfl, HB5.out⟩
    · clear HJ HOX HOY HSM
      go_wp2_with (go_at_call 13; refine (awake_any _).mono ?_; rintro e w5 ⟨rfl, hb9⟩; have HB5 := Lib.hid (HBW2.out.trans (hb9.mono HBW2.out.size)); clear hb9)
      go_ret
      exact ⟨rfl, HB5.out⟩
theorem apart_row (cs0 cs1 : Array Value) (x y : It) (w : World) (hK0 : kIt.K w x cs0.toList) (hQ0 : (Lit.int .i64 x.k).wf = true ∧ (Lit.int .i64 x.a).wf = true ∧ (Lit.int .i64 x.b).wf = true ∧ ∀ p ∈ x.l, (Lit.int .u8 p).wf = true) (hK1 : kIt.K w y cs1.toList) (hQ1 : (Lit.int .i64 y.k).wf = true ∧ (Lit.int .i64 y.a).wf = true ∧ (Lit.int .i64 y.b).wf = true ∧ ∀ p ∈ y.l, (Lit.int .u8 p).wf = true) :
    Calls Tryd.prog 5 #[.agg cs0, .agg cs1] w (AwakeP w) := by
  obtain ⟨A, c, h0, hle1, hA⟩ := it_cells hK0
  obtain ⟨B, d, h1, hle2, hB⟩ := it_cells hK1
  obtain rfl : cs0 = #[.int .i64 x.k, .int .i64 x.a, .int .i64 x.b, .slice A x.l.length c] := by cases cs0; simp_all
  obtain rfl : cs1 = #[.int .i64 y.k, .int .i64 y.a, .int .i64 y.b, .slice B y.l.length d] := by cases cs1; simp_all
  exact apart_law x y A B c d w hle1 hle2 hA hB (wf_it hQ0) (wf_it hQ1)
end Go.Proofs.YtkbblbgiheclfaaDoor.Dr
