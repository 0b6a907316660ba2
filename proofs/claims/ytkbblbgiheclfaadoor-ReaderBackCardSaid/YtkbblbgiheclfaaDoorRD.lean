/- A reader at work: command, verb, option, keep. -/
import Derived.Test.YtkbblbgiheclfaaDoorRC
namespace Go.Proofs.YtkbblbgiheclfaaDoor
open Go.RowKit Go.Proofs.YtkbblbgiheclfaaDoorW.PrintWords

theorem wback_any (c : Int) {w0 w : World} {n g : Nat} {sp : Sps} {r : Rd} {vL vO : Value} {out : List It} (hc : 0 ≤ c ∧ c ≤ 255) (h : WS w0 n g sp w r vL vO out) (hl : out.length ≤ 1000000) :
    Calls Tryd.prog 48 #[.pointer (some ⟨g, 0, none⟩), .int .u8 c] w (WP w0 n g sp (backF c).1 (out ++ (backF c).2)) := by
  have HT := Lib.hid (h.to 0)
  have HD := Lib.hid (wdata_any c hc h hl)
  clear h
  have E1 := Lib.hid (show backF c = if c = 10 ∨ c = 0 then (inR 0, []) else dataF c from rfl)
  obtain ⟨hc0, hc1⟩ := hc
  by_cases h10 : c = 10
  · have HR := Lib.hid (show backF c = (inR 0, []) by rw [E1.out, if_pos (.inl h10)])
    have hb10 : (c == 10) = true := beq_iff_eq.2 h10
    clear h10 HD
    go_enter Tryd.func48, Tryd.ntmps48
    go_wp2_with (go_at_call 57; refine (HT.out).mono ?_; rintro e w' ⟨v, vL', vO', rfl, hws⟩; have HWS := Lib.hid hws; clear hws)
    refine bodyPost_ret (results_none rfl _ _ _) rfl ?_
    exact ⟨_, vL', vO', rfl, by rw [HR.out, List.append_nil]; exact HWS.out⟩
  · have hb10 : (c == 10) = false := beq_eq_false_iff_ne.2 h10
    by_cases h0 : c = 0
    · have HR := Lib.hid (show backF c = (inR 0, []) by rw [E1.out, if_pos (.inr h0)])
      have hb0 : (c == 0) = true := beq_iff_eq.2 h0
      clear h10 h0 HD
      go_enter Tryd.func48, Tryd.ntmps48
      go_wp2_with (go_at_call 57; refine (HT.out).mono ?_; rintro e w' ⟨v, vL', vO', rfl, hws⟩; have HWS := Lib.hid hws; clear hws)
      refine bodyPost_ret (results_none rfl _ _ _) rfl ?_
      exact ⟨_, vL', vO', rfl, by rw [HR.out, List.append_nil]; exact HWS.out⟩
    · have HR := Lib.hid (show backF c = dataF c by rw [E1.out, if_neg (by omega)])
      have hb0 : (c == 0) = false := beq_eq_false_iff_ne.2 h0
      clear h10 h0 HT
      go_enter Tryd.func48, Tryd.ntmps48
      go_wp2_with (go_at_call 47; refine (HD.out).mono ?_; rintro e w' ⟨v, vL', vO', rfl, hws⟩; have HWS := Lib.hid hws; clear hws)
      refine bodyPost_ret (results_none rfl _ _ _) rfl ?_
      exact ⟨_, vL', vO', rfl, by rw [HR.out]; exact HWS.out⟩

/-- The block's first four cells are written: the place is another one, what is told of an option is dropped. -/
theorem WS.put4 {w0 w : World} {n g : Nat} {sp : Sps} {r : Rd} {vL vO : Value} {out : List It} (h : WS w0 n g sp w r vL vO out) (i v o : Int) :
    WS w0 n g sp ((((w.setCell ⟨g, 0, none⟩ (.int .i64 i)).setCell ⟨g, 1, none⟩ (.int .i64 v)).setCell ⟨g, 2, none⟩ (.int .i64 o)).setCell ⟨g, 3, none⟩ (.slice none 0 0)) ⟨i, v, o, []⟩ (.slice none 0 0) vO out :=
  ⟨blk_four h.blk _ _ _ _, h.hg, Kd.R_nil _ _ _ _ _, Kd.N_mono (Kd.N_step h.rowO (fun _ hk _ => blk_four_far hk.1.2 _ _ _ _)) (fun k hk => ⟨hk.1, nil_own k⟩), (((h.below.setCell h.hg _).setCell h.hg _).setCell h.hg _).setCell h.hg _, h.spare.four h.blk _ _ _ _⟩
theorem WS.facts {w0 w : World} {n g : Nat} {sp : Sps} {r : Rd} {vL vO : Value} {out : List It} (h : WS w0 n g sp w r vL vO out) :
    w.cell? ⟨g, 0, none⟩ = some (.int .i64 r.i) ∧ w.cell? ⟨g, 1, none⟩ = some (.int .i64 r.v) ∧ w.cell? ⟨g, 2, none⟩ = some (.int .i64 r.o) ∧ w.cell? ⟨g, 3, none⟩ = some vL ∧ w.cell? ⟨g, 4, none⟩ = some vO ∧
      w.frozen? ⟨g, 0, none⟩ = false ∧ w.frozen? ⟨g, 1, none⟩ = false ∧ w.frozen? ⟨g, 2, none⟩ = false ∧ w.frozen? ⟨g, 3, none⟩ = false ∧ w.frozen? ⟨g, 4, none⟩ = false := blk_facts h.blk

theorem wverb_any (c : Int) {w0 w : World} {n g : Nat} {sp : Sps} {r : Rd} {vL vO : Value} {out : List It} (hc : 0 ≤ c ∧ c ≤ 255) (h : WS w0 n g sp w r vL vO out) (hl : out.length ≤ 1000000) :
    Calls Tryd.prog 50 #[.pointer (some ⟨g, 0, none⟩), .int .u8 c] w (WP w0 n g sp (verbF r c).1 (out ++ (verbF r c).2)) := by
  have HT := Lib.hid (h.tell ⟨3, r.v, c, []⟩ rfl none 0 hl)
  obtain ⟨_, f1, _, _, _, _, _, _, _, _⟩ := h.facts
  clear h
  obtain ⟨hc0, hc1⟩ := hc
  have HR := Lib.hid (show verbF r c = (inR 0, [⟨3, r.v, c, []⟩]) from rfl)
  generalize r.v = v at *
  go_enter Tryd.func50, Tryd.ntmps50
  go_wp2_with (go_at_call 58; refine (HT.out).mono ?_; rintro e w' ⟨v', vL', vO', rfl, hws⟩; have HWS := Lib.hid hws; clear hws)
  refine bodyPost_ret (results_none rfl _ _ _) rfl ?_
  exact ⟨_, vL', vO', rfl, by rw [HR.out]; exact HWS.out⟩

theorem wopt_any (c : Int) {w0 w : World} {n g : Nat} {sp : Sps} {r : Rd} {vL vO : Value} {out : List It} (hc : 0 ≤ c ∧ c ≤ 255) (h : WS w0 n g sp w r vL vO out) :
    Calls Tryd.prog 51 #[.pointer (some ⟨g, 0, none⟩), .int .u8 c] w (WP w0 n g sp (optF c).1 (out ++ (optF c).2)) := by
  have HP := Lib.hid (h.put4 5 0 c)
  obtain ⟨f0, f1, f2, f3, f4, z0, z1, z2, z3, z4⟩ := h.facts
  clear h
  obtain ⟨hc0, hc1⟩ := hc
  go_enter Tryd.func51, Tryd.ntmps51
  go_wp2_with fail
  refine bodyPost_ret (results_none rfl _ _ _) rfl ?_
  exact ⟨_, _, vO, rfl, by rw [show (optF c).2 = [] from rfl, List.append_nil]; exact HP.out⟩

set_option maxHeartbeats 4000000 in
set_option maxRecDepth 100000 in
theorem wcmd_any (c : Int) {w0 w : World} {n g : Nat} {sp : Sps} {r : Rd} {vL vO : Value} {out : List It} (hc : 0 ≤ c ∧ c ≤ 255) (h : WS w0 n g sp w r vL vO out) (hl : out.length ≤ 1000000) :
    Calls Tryd.prog 49 #[.pointer (some ⟨g, 0, none⟩), .int .u8 c] w (WP w0 n g sp (cmdF c).1 (out ++ (cmdF c).2)) := by
  have hlt := h.lt
  have E1 := Lib.hid (show cmdF c = if c = 255 then (inR 0, [datI c]) else if 251 ≤ c then (⟨3, c, 0, []⟩, []) else if c = 250 then (inR 4, []) else if mayI (cmdI c) = true then (inR 0, [cmdI c]) else (inR 0, []) from rfl)
  obtain ⟨hc0, hc1⟩ := hc
  have H := Lib.hid (h.below_ (below_alloc (Below.refl _ w) (.cells #[.int .i64 2, .int .i64 c, .int .i64 0, .slice none 0 0] 25)))
  have H0 := Lib.hid h
  clear h
  by_cases h255 : c = 255
  · subst h255
    have HR := Lib.hid (show cmdF 255 = (inR 0, [datI 255]) from rfl)
    have hd := data_one 255 hc0 hc1 (w.alloc (.cells #[.int .i64 2, .int .i64 255, .int .i64 0, .slice none 0 0] 25))
    rw [World.size_alloc] at hd
    have HD := Lib.hid hd
    clear hd
    clear E1
    go_enter Tryd.func49, Tryd.ntmps49
    go_wp2_with fail
    (with_reducible refine (HD.out).mono ?_)
    rintro e w1 ⟨ad, B, c3, c4, rfl, x0, x1, x2, x3, hb1⟩
    have HT := Lib.hid (WS.tell (datI 255) rfl B c4 (H.out.below_ (by rw [World.size_alloc]; exact hb1)) hl)
    clear HD H hb1
    go_wp2_with fail
    refine (HT.out).mono ?_
    rintro e w2 ⟨v, vL', vO', rfl, hws⟩
    have HWS := Lib.hid hws
    clear hws HT x0 x1 x2 x3
    go_wp2_with fail
    refine bodyPost_ret (results_none rfl _ _ _) rfl ?_
    exact ⟨_, vL', vO', rfl, by rw [HR.out]; exact HWS.out⟩
  · have hb255 : (c == 255) = false := beq_eq_false_iff_ne.2 h255
    by_cases h251 : 251 ≤ c
    · have HR := Lib.hid (show cmdF c = (⟨3, c, 0, []⟩, []) by rw [E1.out, if_neg h255, if_pos h251])
      have HP := Lib.hid ((H0.out.put4 3 c 0).below_ (below_alloc (Below.refl _ _) (.cells #[.int .i64 2, .int .i64 c, .int .i64 0, .slice none 0 0] 25)))
      obtain ⟨f0, f1, f2, f3, f4, z0, z1, z2, z3, z4⟩ := H0.out.facts
      clear h255 E1
      go_enter Tryd.func49, Tryd.ntmps49
      go_wp2_with fail
      refine bodyPost_ret (results_none rfl _ _ _) rfl ?_
      exact ⟨_, _, vO, rfl, by rw [HR.out, List.append_nil]; exact HP.out⟩
    · by_cases h250 : c = 250
      · have HR := Lib.hid (show cmdF c = (inR 4, []) by rw [E1.out, if_neg h255, if_neg h251, if_pos h250])
        have hb250 : (c == 250) = true := beq_iff_eq.2 h250
        have HT := Lib.hid (H.out.to 4)
        clear h255 E1 h250
        go_enter Tryd.func49, Tryd.ntmps49
        go_wp2_with (go_at_call 57; refine (HT.out).mono ?_; rintro e w' ⟨v', vL', vO', rfl, hws⟩; have HWS := Lib.hid hws; clear hws)
        refine bodyPost_ret (results_none rfl _ _ _) rfl ?_
        exact ⟨_, vL', vO', rfl, by rw [HR.out, List.append_nil]; exact HWS.out⟩
      · have hb250 : (c == 250) = false := beq_eq_false_iff_ne.2 h250
        have HCK := Lib.hid (check_any (cmdI c) none 0 (w.alloc (.cells #[.int .i64 2, .int .i64 c, .int .i64 0, .slice none 0 0] 25)) (Kd.C_nil _ _) Oct.nil)
        have HE := Lib.hid (show errI (cmdI c) = if mayI (cmdI c) = true then 0 else 1 from rfl)
        have E2 := Lib.hid (show cmdF c = if mayI (cmdI c) = true then (inR 0, [cmdI c]) else (inR 0, []) by rw [E1.out, if_neg h255, if_neg h251, if_neg h250])
        clear h255 E1 h250
        generalize errI (cmdI c) = er at *
        by_cases hm : mayI (cmdI c) = true
        · have HR := Lib.hid (show cmdF c = (inR 0, [cmdI c]) by rw [E2.out, if_pos hm])
          have her : er = 0 := by rw [HE.out, if_pos hm]
          subst her
          clear hm E2 HE
          go_enter Tryd.func49, Tryd.ntmps49
          go_wp2_with fail
          refine (HCK.out).mono ?_
          rintro e w1 ⟨rfl, hb1⟩
          have HT := Lib.hid (WS.tell (cmdI c) rfl none 0 (H.out.below_ hb1) hl)
          obtain ⟨hcl, hfr⟩ := bcell hb1
          clear HCK H hb1
          go_wp2_with fail
          refine (HT.out).mono ?_
          rintro e w2 ⟨v, vL', vO', rfl, hws⟩
          have HWS := Lib.hid hws
          clear hws HT
          go_wp2_with fail
          refine bodyPost_ret (results_none rfl _ _ _) rfl ?_
          exact ⟨_, vL', vO', rfl, by rw [HR.out]; exact HWS.out⟩
        · have HR := Lib.hid (show cmdF c = (inR 0, []) by rw [E2.out, if_neg hm])
          have her : er = 1 := by rw [HE.out, if_neg hm]
          subst her
          clear hm E2 HE
          go_enter Tryd.func49, Tryd.ntmps49
          go_wp2_with fail
          refine (HCK.out).mono ?_
          rintro e w1 ⟨rfl, hb1⟩
          have HT := Lib.hid ((H.out.below_ hb1).to 0)
          clear HCK H hb1
          go_wp2_with fail
          refine (HT.out).mono ?_
          rintro e w2 ⟨v, vL', vO', rfl, hws⟩
          have HWS := Lib.hid hws
          clear hws HT
          go_wp2_with fail
          refine bodyPost_ret (results_none rfl _ _ _) rfl ?_
          exact ⟨_, vL', vO', rfl, by rw [HR.out, List.append_nil]; exact HWS.out⟩
end Go.Proofs.YtkbblbgiheclfaaDoor
