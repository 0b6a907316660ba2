/- item.Check. -/
import Derived.Test.YtkbblbgiheclfaaDoorIA
import Derived.Deep.RegionWith
namespace Go.Proofs.YtkbblbgiheclfaaDoor
open Go.RowKit Go.Proofs.YtkbblbgiheclfaaDoorW.PrintWords

theorem bcell {W w1 : World} (hb : Below W.heap.size W w1) : (∀ b o, b < W.heap.size → w1.cell? ⟨b, o, none⟩ = W.cell? ⟨b, o, none⟩) ∧ (∀ b o, b < W.heap.size → w1.frozen? ⟨b, o, none⟩ = W.frozen? ⟨b, o, none⟩) :=
  ⟨fun b o h => hb.cell (p := ⟨b, o, none⟩) h, fun b o h => hb.frozen (p := ⟨b, o, none⟩) h⟩
theorem bcell' {W w1 : World} {n : Nat} (hb : Below n W w1) : (∀ b o, b < n → w1.cell? ⟨b, o, none⟩ = W.cell? ⟨b, o, none⟩) ∧ (∀ b o, b < n → w1.frozen? ⟨b, o, none⟩ = W.frozen? ⟨b, o, none⟩) :=
  ⟨fun b o h => hb.cell (p := ⟨b, o, none⟩) h, fun b o h => hb.frozen (p := ⟨b, o, none⟩) h⟩
def partsI (x : It) : It := if x.k = 3 then ⟨x.k, x.a, x.b, []⟩ else if x.k = 4 then ⟨x.k, x.a, 0, x.l⟩ else ⟨x.k, x.a, 0, []⟩
def smI (x : It) : Bool := decide (x = partsI x)
theorem same_parts (x : It) (A : Option Addr) (c : Nat) (w : World) (h : kB.C w A x.l.length x.l) (hx : Oct x.l) :
    Calls Tryd.prog 33 #[.agg #[.int .i64 x.k, .int .i64 x.a, .int .i64 x.b, .slice A x.l.length c], partsV x.k x.a x.b A x.l.length c] w (BoolP w (smI x)) := by
  unfold smI partsI partsV
  by_cases h3 : x.k = 3
  · rw [if_pos h3, if_pos h3]
    exact same_any x ⟨x.k, x.a, x.b, []⟩ A none c 0 w h (Kd.C_nil _ _) hx Oct.nil
  · rw [if_neg h3, if_neg h3]
    by_cases h4 : x.k = 4
    · rw [if_pos h4, if_pos h4]
      exact same_any x ⟨x.k, x.a, 0, x.l⟩ A A c c w h h hx hx
    · rw [if_neg h4, if_neg h4]
      exact same_any x ⟨x.k, x.a, 0, []⟩ A none c 0 w h (Kd.C_nil _ _) hx Oct.nil

/-- What a kind asks of its parts. -/
def kindI (x : It) : Bool :=
  if x.k = 1 then oct x.a else if x.k = 2 then decide (236 ≤ x.a ∧ x.a < 250 ∧ x.a ≠ 240) else if x.k = 3 then decide (251 ≤ x.a ∧ x.a ≤ 254) && oct x.b else if x.k = 4 then oct x.a && decide (x.l.length ≤ 512) else false
def mayI (x : It) : Bool := smI x && kindI x
def errI (x : It) : Int := if mayI x then 0 else 1

def ErrP (w : World) (n : Int) (e : Ending) (w' : World) : Prop := e = .returned (.int .i64 n) ∧ Below w.heap.size w w'
theorem err_no (x : It) (h : smI x = false ∨ kindI x = false) : errI x = 1 := by
  unfold errI mayI
  rcases h with h | h <;> rw [h] <;> simp
theorem err_yes (x : It) (h : smI x = true) (h2 : kindI x = true) : errI x = 0 := by
  unfold errI mayI
  rw [h, h2]
  rfl
set_option maxHeartbeats 4000000 in
set_option maxRecDepth 100000 in
theorem check_any (x : It) (A : Option Addr) (c : Nat) (w : World) (h : kB.C w A x.l.length x.l) (hx : Oct x.l) :
    Calls Tryd.prog 21 #[.agg #[.int .i64 x.k, .int .i64 x.a, .int .i64 x.b, .slice A x.l.length c]] w (ErrP w (errI x)) := by
  have HSP := Lib.hid (fun w' h' => same_parts x A c w' h' hx)
  have HNO := Lib.hid (err_no x)
  have HYES := Lib.hid (err_yes x)
  have HK := Lib.hid (show kindI x = if x.k = 1 then oct x.a else if x.k = 2 then decide (236 ≤ x.a ∧ x.a < 250 ∧ x.a ≠ 240) else if x.k = 3 then decide (251 ≤ x.a ∧ x.a ≤ 254) && oct x.b else if x.k = 4 then oct x.a && decide (x.l.length ≤ 512) else false from rfl)
  have HC := Lib.hid h
  clear h hx
  generalize smI x = sm at *
  generalize kindI x = kd at *
  generalize errI x = er at *
  obtain ⟨k, a, b, l⟩ := x
  dsimp only at *
  go_enter Tryd.func21, Tryd.ntmps21
  have HB0 := Lib.hid ((Below.refl _ w).alloc (Nat.le_refl _) (.cells #[.int .i64 k, .int .i64 a, .int .i64 b, .slice A l.length c] 25))
  have HC0 := Lib.hid (Kd.C_alloc HC.out (.cells #[.int .i64 k, .int .i64 a, .int .i64 b, .slice A l.length c] 25))
  go_upto_region 2 with fail
  go_cut [3] (fun s3 wx => s3 = .bool sm ∧ Below (w.heap.size + 1) (w.alloc (.cells #[.int .i64 k, .int .i64 a, .int .i64 b, .slice A l.length c] 25)) wx)
  case first =>
    clear HK HNO HYES
    go_region_with (first
      | (go_at_call 34; refine (parts_any k a b A l.length c _).mono ?_; rintro e w1 ⟨rfl, hb1⟩; obtain ⟨hc1, hf1⟩ := bcell hb1; have hz1 := hb1.size; have HB1 := Lib.hid hb1; clear hb1)
      | (go_at_call 33; refine (HSP.out _ (Kd.C_below (Kd.C_drew HC0.out) HB1.out)).mono ?_; rintro e w2 ⟨rfl, hb2⟩))
    all_goals (go_wp2_with fail; go_meet; exact ⟨rfl, ((Below.refl _ _).drew.trans (HB1.out.mono (by simp))).trans (hb2.mono (by simp at hz1; omega))⟩)
  case rest =>
    obtain ⟨rfl, hb⟩ := hcut
    obtain ⟨hc1, hf1⟩ := bcell' hb
    have HB := Lib.hid (HB0.out.trans (hb.mono (by omega)))
    clear hb HB0 HC0 HSP
    cases sm
    · have HRES := Lib.hid (HNO.out (.inl rfl))
      by_cases hk1 : k = 1
      · subst hk1
        clear HK HNO HYES
        go_wp2_with fail
        go_ret
        exact ⟨by rw [HRES.out]; rfl, HB.out⟩
      · have hb1 : (k == 1) = false := beq_eq_false_iff_ne.2 hk1
        by_cases hk2 : k = 2
        · subst hk2
          clear HK HNO HYES
          go_wp2_with fail
          go_ret
          exact ⟨by rw [HRES.out]; rfl, HB.out⟩
        · have hb2 : (k == 2) = false := beq_eq_false_iff_ne.2 hk2
          by_cases hk3 : k = 3
          · subst hk3
            clear HK HNO HYES
            go_wp2_with fail
            go_ret
            exact ⟨by rw [HRES.out]; rfl, HB.out⟩
          · have hb3 : (k == 3) = false := beq_eq_false_iff_ne.2 hk3
            by_cases hk4 : k = 4
            · subst hk4
              clear HK HNO HYES
              go_wp2_with fail
              go_ret
              exact ⟨by rw [HRES.out]; rfl, HB.out⟩
            · have hb4 : (k == 4) = false := beq_eq_false_iff_ne.2 hk4
              clear hk1 hk2 hk3 hk4
              clear HK HNO HYES
              go_wp2_with fail
              go_ret
              exact ⟨by rw [HRES.out]; rfl, HB.out⟩
    · skip
      by_cases hk1 : k = 1
      · subst hk1
        have HOA := Lib.hid (octet_any a)
        have HK1 := Lib.hid (show kd = oct a by rw [HK.out]; rw [if_pos rfl])
        generalize oct a = oa at *
        cases oa
        · have HRES := Lib.hid (HNO.out (.inr HK1.out))
          clear HK HNO HYES
          go_wp2_with (go_at_call 35; refine (HOA.out _).mono ?_; rintro e w' ⟨rfl, rfl⟩)
          go_ret
          exact ⟨by rw [HRES.out]; rfl, HB.out⟩
        · have HRES := Lib.hid (HYES.out rfl HK1.out)
          clear HK HNO HYES
          go_wp2_with (go_at_call 35; refine (HOA.out _).mono ?_; rintro e w' ⟨rfl, rfl⟩)
          go_ret
          exact ⟨by rw [HRES.out]; rfl, HB.out⟩
      · have hb1 : (k == 1) = false := beq_eq_false_iff_ne.2 hk1
        by_cases hk2 : k = 2
        · subst hk2
          have HK1 := Lib.hid (show kd = decide (236 ≤ a ∧ a < 250 ∧ a ≠ 240) by rw [HK.out]; rw [if_neg (by decide), if_pos rfl])
          by_cases h1 : 236 ≤ a
          · by_cases h2 : a < 250
            · by_cases h3 : a = 240
              · have HRES := Lib.hid (HNO.out (.inr (by rw [HK1.out]; exact decide_eq_false (by omega))))
                subst h3
                clear h1 h2
                clear HK HNO HYES
                go_wp2_with fail
                go_ret
                exact ⟨by rw [HRES.out]; rfl, HB.out⟩
              · have HRES := Lib.hid (HYES.out rfl (by rw [HK1.out]; exact decide_eq_true ⟨h1, h2, h3⟩))
                have h3' : (a == 240) = false := beq_eq_false_iff_ne.2 h3
                have h3'' : (a != 240) = true := bne_iff_ne.2 h3
                clear h3
                clear HK HNO HYES
                go_wp2_with fail
                go_ret
                exact ⟨by rw [HRES.out]; rfl, HB.out⟩
            · have HRES := Lib.hid (HNO.out (.inr (by rw [HK1.out]; exact decide_eq_false (by omega))))
              clear HK HNO HYES
              go_wp2_with fail
              go_ret
              exact ⟨by rw [HRES.out]; rfl, HB.out⟩
          · have HRES := Lib.hid (HNO.out (.inr (by rw [HK1.out]; exact decide_eq_false (by omega))))
            clear HK HNO HYES
            go_wp2_with fail
            go_ret
            exact ⟨by rw [HRES.out]; rfl, HB.out⟩
        · have hb2 : (k == 2) = false := beq_eq_false_iff_ne.2 hk2
          by_cases hk3 : k = 3
          · subst hk3
            have HOA := Lib.hid (octet_any b)
            have HK1 := Lib.hid (show kd = (decide (251 ≤ a ∧ a ≤ 254) && oct b) by rw [HK.out]; rw [if_neg (by decide), if_neg (by decide), if_pos rfl])
            generalize oct b = ob at *
            by_cases h1 : 251 ≤ a
            · by_cases h2 : a ≤ 254
              · cases ob
                · have HRES := Lib.hid (HNO.out (.inr (by rw [HK1.out, Bool.and_false])))
                  clear HK HNO HYES
                  go_wp2_with (go_at_call 35; refine (HOA.out _).mono ?_; rintro e w' ⟨rfl, rfl⟩)
                  go_ret
                  exact ⟨by rw [HRES.out]; rfl, HB.out⟩
                · have HRES := Lib.hid (HYES.out rfl (by rw [HK1.out, decide_eq_true ⟨h1, h2⟩]; rfl))
                  clear HK HNO HYES
                  go_wp2_with (go_at_call 35; refine (HOA.out _).mono ?_; rintro e w' ⟨rfl, rfl⟩)
                  go_ret
                  exact ⟨by rw [HRES.out]; rfl, HB.out⟩
              · have HRES := Lib.hid (HNO.out (.inr (by rw [HK1.out, decide_eq_false (by omega)]; rfl)))
                clear HK HNO HYES
                go_wp2_with fail
                go_ret
                exact ⟨by rw [HRES.out]; rfl, HB.out⟩
            · have HRES := Lib.hid (HNO.out (.inr (by rw [HK1.out, decide_eq_false (by omega)]; rfl)))
              clear HK HNO HYES
              go_wp2_with fail
              go_ret
              exact ⟨by rw [HRES.out]; rfl, HB.out⟩
          · have hb3 : (k == 3) = false := beq_eq_false_iff_ne.2 hk3
            by_cases hk4 : k = 4
            · subst hk4
              have HOA := Lib.hid (octet_any a)
              have HK1 := Lib.hid (show kd = (oct a && decide (l.length ≤ 512)) by rw [HK.out]; rw [if_neg (by decide), if_neg (by decide), if_neg (by decide), if_pos rfl])
              generalize oct a = oa at *
              cases oa
              · have HRES := Lib.hid (HNO.out (.inr HK1.out))
                clear HK HNO HYES
                go_wp2_with (go_at_call 35; refine (HOA.out _).mono ?_; rintro e w' ⟨rfl, rfl⟩)
                go_ret
                exact ⟨by rw [HRES.out]; rfl, HB.out⟩
              · by_cases h1 : l.length ≤ 512
                · have HRES := Lib.hid (HYES.out rfl (by rw [HK1.out, decide_eq_true h1]; rfl))
                  have h1b : decide ((l.length : Int) ≤ 512) = true := decide_eq_true (by omega)
                  clear HK HNO HYES
                  go_wp2_with (go_at_call 35; refine (HOA.out _).mono ?_; rintro e w' ⟨rfl, rfl⟩)
                  go_ret
                  exact ⟨by rw [HRES.out]; rfl, HB.out⟩
                · have HRES := Lib.hid (HNO.out (.inr (by rw [HK1.out, decide_eq_false h1]; rfl)))
                  have h1b : decide ((l.length : Int) ≤ 512) = false := decide_eq_false (by omega)
                  clear HK HNO HYES
                  go_wp2_with (go_at_call 35; refine (HOA.out _).mono ?_; rintro e w' ⟨rfl, rfl⟩)
                  go_ret
                  exact ⟨by rw [HRES.out]; rfl, HB.out⟩
            · have hb4 : (k == 4) = false := beq_eq_false_iff_ne.2 hk4
              have HK0 := Lib.hid (show kd = false by rw [HK.out, if_neg hk1, if_neg hk2, if_neg hk3, if_neg hk4])
              have HRES := Lib.hid (HNO.out (.inr HK0.out))
              clear hk1 hk2 hk3 hk4
              clear HK HNO HYES
              go_wp2_with fail
              go_ret
              exact ⟨by rw [HRES.out]; rfl, HB.out⟩
end Go.Proofs.YtkbblbgiheclfaaDoor
