/- The law ItemBegins. -/
import Derived.Test.YtkbblbgiheclfaaDoorEP
import Derived.Test.YtkbblbgiheclfaaDoorER
import Derived.Test.YtkbblbgiheclfaaDoorDW
namespace Go.Proofs.YtkbblbgiheclfaaDoor.Dr
open Go.RowKit Go.Proofs.YtkbblbgiheclfaaDoorW.PrintWords

theorem below_box {w0 w2 w3 : World} {o : Obj} (h : Below w0.heap.size w0 w2) (hb : Below (w2.alloc o).heap.size (w2.alloc o) w3) : Below w0.heap.size w0 w3 :=
  (below_alloc h o).trans (hb.mono (below_alloc h o).size)
/-- What lies outside the box. -/
def OutS (s k : Nat) : Prop := k ≠ s
theorem lit_at {W : World} {g : Nat} {x : It} {B : Option Addr} {c : Nat} (hk : W.heap[g]? = some (.cells #[.int .i64 x.k, .int .i64 x.a, .int .i64 x.b, .slice B x.l.length c] 25 (0, 0))) (hle : x.l.length ≤ c) (hB : kB.C W B x.l.length x.l) : kIt.C W (some ⟨g, 0, none⟩) 1 [x] := by
  refine ⟨rfl, by omega, fun _ => ⟨_, rfl, fun j p hj => ?_⟩⟩
  rcases j with _ | j
  · obtain rfl : x = p := by simpa using hj
    refine ⟨[.int .i64 x.k, .int .i64 x.a, .int .i64 x.b, .slice B x.l.length c], rfl, ⟨[.int .i64 x.k], _, rfl, rfl, [.int .i64 x.a], _, rfl, rfl, [.int .i64 x.b], _, rfl, rfl, B, c, rfl, hle, hB⟩, fun i u hu => ?_⟩
    rw [show (0 * kIt.sz + i) = i by simp, add_plain, blk_cell hk i]
    simpa using hu
  · simp at hj
theorem lit_F {w W : World} {x : It} {B : Option Addr} {c : Nat} (hle : x.l.length ≤ c) (hB : kB.C w B x.l.length x.l) (hb : Below w.heap.size w W) (hs : w.heap.size + 1 ≤ W.heap.size) : Kd.F kIt (W.alloc (.cells #[.int .i64 x.k, .int .i64 x.a, .int .i64 x.b, .slice B x.l.length c] 25)) (OutS w.heap.size) (some ⟨W.heap.size, 0, none⟩) 1 [x] := by
  intro W' hW
  refine lit_at (c := c) (B := B) ((hW W.heap.size (show W.heap.size ≠ w.heap.size by omega) (by simp)).trans (alloc_at W _)) hle ?_
  refine Kd.C_F (Kd.heap_int .u8) hB W' (fun k hk _ => ?_)
  have h1 := hW k (show k ≠ w.heap.size by omega) (by simp; omega)
  have h2 := (below_alloc (Below.refl _ W) (.cells #[.int .i64 x.k, .int .i64 x.a, .int .i64 x.b, .slice B x.l.length c] 25)).block k (by omega)
  rw [h1, h2, hb.block k hk]
/-- Few of one item: where it lies, and how. -/
def OneP (s : Nat) (W : World) (x : It) (e : Ending) (w' : World) : Prop := ∃ g B c c', e = .returned (.slice (some ⟨g, 0, none⟩) 1 c') ∧ 1 ≤ c' ∧ s + 1 ≤ g ∧ w'.cell? ⟨g, 0, none⟩ = some (.int .i64 x.k) ∧ w'.cell? ⟨g, 1, none⟩ = some (.int .i64 x.a) ∧ w'.cell? ⟨g, 2, none⟩ = some (.int .i64 x.b) ∧ w'.cell? ⟨g, 3, none⟩ = some (.slice B x.l.length c) ∧ x.l.length ≤ c ∧ Kd.F kB w' (OutS s) B x.l.length x.l ∧ Below W.heap.size W w'
theorem one_few (s : Nat) (x : It) (g0 : Nat) (W : World) (hs : s + 1 ≤ W.heap.size) (h : Kd.F kIt W (OutS s) (some ⟨g0, 0, none⟩) 1 [x]) : Calls Tryd.prog 14 #[.slice (some ⟨g0, 0, none⟩) 1 1] W (OneP s W (cutI x)) := by
  have h1 : Kd.V PItemTells.k25 25 W W.heap.size (OutS s) (.slice (some ⟨g0, 0, none⟩) [ofI x].length 1) [ofI x] := Kd.V_mk (Nat.le_refl _) (Kd.F_imp h (fun W' h => C_of h))
  refine (PItemTells.linnetlaw03_Few.calls 100 _ (some ⟨g0, 0, none⟩) 1 [ofI x] [ofI (cutI x)] W h1 (few_f [x])).mono ?_
  rintro e w' ⟨v, rfl, hN, hb⟩
  obtain ⟨g, cap, rfl, hge, _, _⟩ := Kd.N_form hN (by simp)
  have hc := (Kd.N_reads' hN).2.1
  obtain ⟨cs, _, hFK, hcc, _⟩ := Kd.N_elem hN (ofI zIt) 0 (Int.le_refl _) (by simp)
  obtain ⟨B, c, rfl, hle, hB⟩ := PItemTells.k25_open (Kd.FK_now hFK)
  refine ⟨g, B, c, cap, rfl, hc, Nat.le_trans hs hge, hcc 0 _ rfl, hcc 1 _ rfl, hcc 2 _ rfl, hcc 3 _ rfl, hle, ?_, hb⟩
  intro W' hW
  have h3 := hFK W' (fun k hk hlt => hW k (by
    rcases hk.1 with h | h
    · exact h
    · show k ≠ s
      omega) hlt)
  obtain ⟨B', c', he, _, hB'⟩ := PItemTells.k25_open h3
  have hBB : B = B' := by
    simp only [List.cons.injEq, Value.slice.injEq] at he
    exact he.2.2.2.1.1
  rw [hBB]
  exact hB'
theorem blk_fourR {w : World} {g T : Nat} {a b c d : Value} (h : w.heap[g]? = some (.cells #[a, b, c, d] T (0, 0))) (a' b' c' d' : Value) :
    ((((w.setCell ⟨g, 0, none⟩ a').setCell ⟨g, 1, none⟩ b').setCell ⟨g, 2, none⟩ c').setCell ⟨g, 3, none⟩ d').heap[g]? = some (.cells #[a', b', c', d'] T (0, 0)) :=
  blk_set (blk_set (blk_set (blk_set h 0 a') 1 b') 2 c') 3 d'
theorem below_four {w0 w : World} {n g : Nat} (h : Below n w0 w) (hg : n ≤ g) (a b c d : Value) : Below n w0 ((((w.setCell ⟨g, 0, none⟩ a).setCell ⟨g, 1, none⟩ b).setCell ⟨g, 2, none⟩ c).setCell ⟨g, 3, none⟩ d) :=
  (((h.setCell (p := ⟨g, 0, none⟩) hg a).setCell (p := ⟨g, 1, none⟩) hg b).setCell (p := ⟨g, 2, none⟩) hg c).setCell (p := ⟨g, 3, none⟩) hg d
theorem blk_four_far {w : World} {g k : Nat} (h : k ≠ g) (a b c d : Value) : ((((w.setCell ⟨g, 0, none⟩ a).setCell ⟨g, 1, none⟩ b).setCell ⟨g, 2, none⟩ c).setCell ⟨g, 3, none⟩ d).heap[k]? = w.heap[k]? := by
  rw [Below.heap_setCell _ ⟨g, 3, none⟩ _ k h, Below.heap_setCell _ ⟨g, 2, none⟩ _ k h, Below.heap_setCell _ ⟨g, 1, none⟩ _ k h, Below.heap_setCell _ ⟨g, 0, none⟩ _ k h]
theorem may_one (x : It) : putsE [x] = (if mayI x = true then putI x else []) ∧ errs [x] = (if mayI x = true then 0 else 1) := by
  unfold putsE errs mays putsF
  by_cases h : mayI x = true
  · simp [h]
  · simp [h]
theorem put_one (x : It) (ho : Oct x.l) (A : Option Addr) (W : World) (h : kIt.C W A 1 [x]) : Calls Tryd.prog 15 #[.slice A 1 1] W (PutQ W (putsE [x]) (errs [x])) :=
  put_q A 1 [x] W h (fun y hy => by rw [List.mem_singleton.1 hy]; exact ho) (by simp)
/-- How what an item lies as begins. -/
def BegR (k er : Int) (P : List Int) : Prop := (er = 1 ∧ P = []) ∨ (er = 0 ∧ k = 1 ∧ ∃ c, c ≠ 255 ∧ P = [c]) ∨ (er = 0 ∧ k = 1 ∧ ∃ y z, P = [y, z] ∧ ((y = 255 ∧ z = 255) ∨ (y = 13 ∧ z = 10))) ∨ (er = 0 ∧ k ≠ 1 ∧ 2 ≤ P.length ∧ P.getD 0 0 = 255 ∧ ¬ P.getD 1 0 = 255)
theorem begins_is (x : It) : BegR x.k (errs [x]) (putsE [x]) := by
  rw [(may_one x).1, (may_one x).2]
  by_cases hm : mayI x = true
  · rw [if_pos hm, if_pos hm]
    have hw := wf_kind hm
    obtain ⟨k, a, b, l⟩ := x
    dsimp only at hw
    unfold putI
    dsimp only
    rcases hw with ⟨rfl, h0, h1, rfl, rfl⟩ | ⟨rfl, h0, h1, rfl, rfl⟩ | ⟨rfl, h0, h1, h2, h3, rfl⟩ | ⟨rfl, h0, h1, rfl, h3⟩
    · simp only [if_true, layF, List.flatMap_cons, List.flatMap_nil, List.append_nil, layC]
      by_cases h255 : a = 255
      · rw [if_pos h255]
        exact .inr (.inr (.inl ⟨rfl, rfl, 255, 255, rfl, .inl ⟨rfl, rfl⟩⟩))
      · rw [if_neg h255]
        by_cases h13 : a = 13
        · rw [if_pos h13]
          exact .inr (.inr (.inl ⟨rfl, rfl, 13, 10, rfl, .inr ⟨rfl, rfl⟩⟩))
        · rw [if_neg h13]
          exact .inr (.inl ⟨rfl, rfl, a, h255, rfl⟩)
    · refine .inr (.inr (.inr ⟨rfl, by decide, by simp, rfl, ?_⟩))
      show ¬ a = 255
      omega
    · refine .inr (.inr (.inr ⟨rfl, by decide, by simp, rfl, ?_⟩))
      show ¬ a = 255
      omega
    · refine .inr (.inr (.inr ⟨rfl, by decide, by simp, rfl, ?_⟩))
      show ¬ (250 : Int) = 255
      omega
  · rw [if_neg hm, if_neg hm]
    exact .inl ⟨rfl, rfl⟩
set_option maxHeartbeats 4000000 in
set_option maxRecDepth 100000 in
theorem begins_law (x0 : It) (A0 : Option Addr) (c0 : Nat) (w : World) (hle1 : x0.l.length ≤ c0) (hA : kB.C w A0 x0.l.length x0.l) (ho1 : Oct x0.l) :
    Calls Tryd.prog 6 #[.agg #[.int .i64 x0.k, .int .i64 x0.a, .int .i64 x0.b, .slice A0 x0.l.length c0]] w (AwakeP w) := by
  have hbz := below_alloc (Below.refl _ w) (.cells #[.int .i64 x0.k, .int .i64 x0.a, .int .i64 x0.b, .slice A0 x0.l.length c0] 25)
  have hk := alloc_at w (.cells #[.int .i64 x0.k, .int .i64 x0.a, .int .i64 x0.b, .slice A0 x0.l.length c0] 25)
  have hsz : (w.alloc (.cells #[.int .i64 x0.k, .int .i64 x0.a, .int .i64 x0.b, .slice A0 x0.l.length c0] 25)).heap.size = w.heap.size + 1 := by simp
  have hF := lit_F hle1 hA hbz (by rw [hsz]; exact Nat.le_refl _)
  rw [hsz] at hF
  have HFX := Lib.hid (one_few w.heap.size x0 _ _ (by rw [World.size_alloc, hsz]; omega) hF)
  have ho1' : Oct (cutI x0).l := ho1.take 600
  have HPX : Hid (∀ W A, kIt.C W A 1 [cutI x0] → Calls Tryd.prog 15 #[.slice A 1 1] W (PutQ W (putsE [cutI x0]) (errs [cutI x0]))) := Lib.hid (fun W A h => put_one _ ho1' A W h)
  have HJ := Lib.hid (begins_is (cutI x0))
  have hPl : (putsE [cutI x0]).length ≤ 1100 := by have := putsE_len [cutI x0]; simpa using this
  clear hF hA ho1 ho1'
  generalize cutI x0 = x at *
  generalize putsE [x] = P at *
  generalize errs [x] = er at *
  obtain ⟨k, a, b, l⟩ := x0
  dsimp only at *
  generalize l.length = n at *
  go_enter Tryd.func6, Tryd.ntmps6
  go_upto_region 1 with fail
  generalize w.alloc (.cells #[.int .i64 k, .int .i64 a, .int .i64 b, .slice A0 n c0] 25) = wz at *
  obtain ⟨f0, f1, f2, f3, z0, z1, z2, z3⟩ := blk_facts4 hk
  have HK := Lib.hid hk
  have HBZ := Lib.hid hbz
  clear hk hbz
  go_upto_region 2 with (go_at_call 14; (with_reducible refine (HFX.out).mono ?_); rintro e w1 ⟨g5, B5, c5, c5', rfl, hc5, hg5, x0, x1, x2, x3, hle5, hF5, hb5⟩; have hz := below_box (Below.refl _ wz) hb5; have hp0 := (hz.block _ (blk_lt HK.out)).trans HK.out; obtain ⟨p0, p1, p2, p3, q0, q1, q2, q3⟩ := blk_facts4 hp0; have n5 : ¬ g5 = w.heap.size := (by omega); have HP := Lib.hid hp0; have HB1 := Lib.hid (HBZ.out.trans (hz.mono HBZ.out.size)); have HF5 := Lib.hid hF5; clear hz hp0 hb5 hF5)
  have hk2 := blk_fourR HP.out (.int .i64 x.k) (.int .i64 x.a) (.int .i64 x.b) (.slice B5 x.l.length c5)
  have hb2 := below_four HB1.out (Nat.le_refl _) (.int .i64 x.k) (.int .i64 x.a) (.int .i64 x.b) (.slice B5 x.l.length c5)
  have hC2 : kB.C ((((w1.setCell ⟨w.heap.size, 0, none⟩ (.int .i64 x.k)).setCell ⟨w.heap.size, 1, none⟩ (.int .i64 x.a)).setCell ⟨w.heap.size, 2, none⟩ (.int .i64 x.b)).setCell ⟨w.heap.size, 3, none⟩ (.slice B5 x.l.length c5)) B5 x.l.length x.l := HF5.out _ (fun k hk _ => blk_four_far hk _ _ _ _)
  generalize (((w1.setCell ⟨w.heap.size, 0, none⟩ (.int .i64 x.k)).setCell ⟨w.heap.size, 1, none⟩ (.int .i64 x.a)).setCell ⟨w.heap.size, 2, none⟩ (.int .i64 x.b)).setCell ⟨w.heap.size, 3, none⟩ (.slice B5 x.l.length c5) = w2 at *
  clear f0 f1 f2 f3 z0 z1 z2 z3 p0 p1 p2 p3 q0 q1 q2 q3 x0 x1 x2 x3 HK HBZ HP HB1 HF5 HFX
  obtain ⟨f0, f1, f2, f3, z0, z1, z2, z3⟩ := blk_facts4 hk2
  have HK := Lib.hid hk2
  have HB2 := Lib.hid hb2
  have HC2 := Lib.hid hC2
  clear hk2 hb2 hC2
  go_upto_region 3 with (go_at_call 15; (with_reducible refine Calls.mono (HPX.out _ _ (lit_I w2 x B5 c5 hle5 HC2.out)) ?_); rintro e w3 ⟨A6, c6, rfl, hc6, hC6, hb6⟩; have hz := below_box (Below.refl _ w2) hb6; have HP := Lib.hid ((hz.block _ (blk_lt HK.out)).trans HK.out); have HB3 := Lib.hid (HB2.out.trans (hz.mono HB2.out.size)); have HC6 := Lib.hid hC6; clear hz hb6 hC6)
  clear f0 f1 f2 f3 z0 z1 z2 z3 HK HB2 HC2 HPX
  obtain ⟨f0, _, _, _, _, _, _, _⟩ := blk_facts4 HP.out
  have bx := blk_lt HP.out
  clear HP
  rcases HJ.out with ⟨rfl, rfl⟩ | ⟨rfl, hk1, c, hc, rfl⟩ | ⟨rfl, hk1, y, z, rfl, hyz⟩ | ⟨rfl, hk1, h2, e0, e1⟩
  · clear HJ
    dsimp only [List.length_nil]
    go_wp2_with (go_at_call 13; refine (awake_any _).mono ?_; rintro e w5 ⟨rfl, hb9⟩; have HB5 := Lib.hid (HB3.out.trans (hb9.mono HB3.out.size)); clear hb9)
    go_ret
    exact ⟨rfl, HB5.out⟩
  · have HRD := Lib.hid (read_one A6 c6 c w3 HC6.out hc)
    rw [hk1] at f0
    clear HJ hc HC6
    dsimp only [List.length_cons, List.length_nil]
    go_wp2_with (first
      | (go_at_call 20; refine (HRD.out).mono ?_; rintro e w4 ⟨A7, c7, m7, rfl, hb7⟩; have g0 := (hb7.cell (p := ⟨w.heap.size, 0, none⟩) bx).trans f0; have HB4 := Lib.hid (HB3.out.trans (hb7.mono HB3.out.size)); clear hb7)
      | (go_at_call 13; refine (awake_any _).mono ?_; rintro e w5 ⟨rfl, hb9⟩; have HB5 := Lib.hid (HB4.out.trans (hb9.mono HB4.out.size)); clear hb9))
    go_ret
    exact ⟨rfl, HB5.out⟩
  · have HRD := Lib.hid (read_two A6 c6 y z w3 HC6.out hyz)
    obtain ⟨ad, rfl, u0⟩ := u8_at HC6.out 0 (by simp)
    obtain ⟨ad', he, u1⟩ := u8_at HC6.out 1 (by simp)
    obtain rfl : ad = ad' := by injection he
    have v0 : w3.cell? ad = some (.int .u8 y) := u0
    have v1 : w3.cell? ⟨ad.block, ad.off + 1, none⟩ = some (.int .u8 z) := u1
    rw [hk1] at f0
    clear HJ HC6 u0 u1 he
    dsimp only [List.length_cons, List.length_nil]
    rcases hyz with ⟨rfl, rfl⟩ | ⟨rfl, rfl⟩
    all_goals
      go_wp2_with (first
        | (go_at_call 20; refine (HRD.out).mono ?_; rintro e w4 ⟨A7, c7, m7, rfl, hb7⟩; have g0 := (hb7.cell (p := ⟨w.heap.size, 0, none⟩) bx).trans f0; have HB4 := Lib.hid (HB3.out.trans (hb7.mono HB3.out.size)); clear hb7)
        | (go_at_call 13; refine (awake_any _).mono ?_; rintro e w5 ⟨rfl, hb9⟩; have HB5 := Lib.hid (HB4.out.trans (hb9.mono HB4.out.size)); clear hb9))
      go_ret
      exact ⟨rfl, HB5.out⟩
  · have HRD := Lib.hid (read_no A6 c6 P w3 HC6.out h2 e0 e1)
    obtain ⟨ad, rfl, u0⟩ := u8_at HC6.out 0 (by omega)
    obtain ⟨ad', he, u1⟩ := u8_at HC6.out 1 (by omega)
    obtain rfl : ad = ad' := by injection he
    rw [e0] at u0
    have v0 : w3.cell? ad = some (.int .u8 255) := u0
    have v1 : w3.cell? ⟨ad.block, ad.off + 1, none⟩ = some (.int .u8 (P.getD 1 0)) := u1
    have hne : (P.getD 1 0 != 255) = true := bne_iff_ne.2 e1
    have hk2 : (x.k != 1) = true := bne_iff_ne.2 hk1
    have hk3 : (x.k == 1) = false := beq_eq_false_iff_ne.2 hk1
    have h0 : (0 : Int) < (P.length : Int) := by omega
    have h1 : (1 : Int) < (P.length : Int) := by omega
    clear HJ HC6 u0 u1 he e0
    generalize P.getD 1 0 = y at *
    go_wp2_with (first
      | (go_at_call 20; refine (HRD.out).mono ?_; rintro e w4 ⟨A7, c7, m7, rfl, hb7⟩; have g0 := (hb7.cell (p := ⟨w.heap.size, 0, none⟩) bx).trans f0; have HB4 := Lib.hid (HB3.out.trans (hb7.mono HB3.out.size)); clear hb7)
      | (go_at_call 13; refine (awake_any _).mono ?_; rintro e w5 ⟨rfl, hb9⟩; have HB5 := Lib.hid (HB4.out.trans (hb9.mono HB4.out.size)); clear hb9))
    go_ret
    exact ⟨rfl, HB5.out⟩
theorem begins_row (cs0 : Array Value) (x : It) (w : World) (hK0 : kIt.K w x cs0.toList) (hQ0 : (Lit.int .i64 x.k).wf = true ∧ (Lit.int .i64 x.a).wf = true ∧ (Lit.int .i64 x.b).wf = true ∧ ∀ p ∈ x.l, (Lit.int .u8 p).wf = true) :
    Calls Tryd.prog 6 #[.agg cs0] w (AwakeP w) := by
  obtain ⟨A, c, h0, hle1, hA⟩ := it_cells hK0
  obtain rfl : cs0 = #[.int .i64 x.k, .int .i64 x.a, .int .i64 x.b, .slice A x.l.length c] := by cases cs0; simp_all
  exact begins_law x A c w hle1 hA (wf_it hQ0)
end Go.Proofs.YtkbblbgiheclfaaDoor.Dr
