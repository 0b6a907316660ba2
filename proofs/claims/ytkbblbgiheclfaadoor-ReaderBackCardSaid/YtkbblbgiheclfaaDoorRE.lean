/- A reader at work: what is told of an option, and what is too long. -/
import Derived.Test.YtkbblbgiheclfaaDoorRD
namespace Go.Proofs.YtkbblbgiheclfaaDoor
open Go.RowKit Go.Proofs.YtkbblbgiheclfaaDoorW.PrintWords

theorem WS.slice_ {w0 w : World} {n g : Nat} {sp : Sps} {r : Rd} {vL vO : Value} {out : List It} (h : WS w0 n g sp w r vL vO out) : ∃ A c, vL = .slice A r.l.length c ∧ r.l.length ≤ c := by
  obtain ⟨A, c, e, hle, _⟩ := Kd.R_reads h.rowL
  exact ⟨A, c, e, hle⟩
set_option maxHeartbeats 4000000 in
set_option maxRecDepth 100000 in
theorem wkeep_any (c : Int) {w0 w : World} {n g : Nat} {sp : Sps} {r : Rd} {vL vO : Value} {out : List It} (h : WS w0 n g sp w r vL vO out) (hl : r.l.length ≤ 1000000) :
    Calls Tryd.prog 59 #[.pointer (some ⟨g, 0, none⟩), .int .u8 c] w (WP w0 n g sp (keepF r c).1 (out ++ (keepF r c).2)) := by
  have hlt := h.lt
  have E1 := Lib.hid (show keepF r c = if r.l.length = 512 then (inR 7, []) else (⟨5, r.v, r.o, r.l ++ [c]⟩, []) from rfl)
  obtain ⟨A, cp, rfl, hle⟩ := h.slice_
  obtain ⟨f0, f1, f2, f3, f4, z0, z1, z2, z3, z4⟩ := h.facts
  have H := Lib.hid h
  clear h
  by_cases h512 : r.l.length = 512
  · have HR := Lib.hid (show keepF r c = (inR 7, []) by rw [E1.out, if_pos h512])
    have hb : ((r.l.length : Int) == 512) = true := beq_iff_eq.2 (by omega)
    have HT := Lib.hid (H.out.to 7)
    clear h512 E1 H
    generalize r.l.length = ln at *
    go_enter Tryd.func59, Tryd.ntmps59
    go_wp2_with (go_at_call 57; refine (HT.out).mono ?_; rintro e w' ⟨v', vL', vO', rfl, hws⟩; have HWS := Lib.hid hws; clear hws)
    refine bodyPost_ret (results_none rfl _ _ _) rfl ?_
    exact ⟨_, vL', vO', rfl, by rw [HR.out, List.append_nil]; exact HWS.out⟩
  · have HR := Lib.hid (show keepF r c = (⟨5, r.v, r.o, r.l ++ [c]⟩, []) by rw [E1.out, if_neg h512])
    have hb : ((r.l.length : Int) == 512) = false := beq_eq_false_iff_ne.2 (by omega)
    clear h512 E1
    go_enter Tryd.func59, Tryd.ntmps59
    have hL5 := Kd.R_move H.out.rowL (w1 := w.setCell ⟨g, 0, none⟩ (.int .i64 5)) (fun k hk => Below.heap_setCell w ⟨g, 0, none⟩ _ k hk.2)
    have hO5 := Kd.N_step H.out.rowO (w1 := w.setCell ⟨g, 0, none⟩ (.int .i64 5)) (fun k hk _ => Below.heap_setCell w ⟨g, 0, none⟩ _ k hk.1.2)
    have hB5 := H.out.below.setCell (p := ⟨g, 0, none⟩) H.out.hg (.int .i64 5)
    have hK5 := blk_set H.out.blk 0 (.int .i64 5)
    have hgn := H.out.hg
    have hsz : (w.setCell ⟨g, 0, none⟩ (.int .i64 5)).heap.size = w.heap.size := by simp
    have HL5 := Lib.hid hL5
    have HO5 := Lib.hid hO5
    have HB5 := Lib.hid hB5
    have HK5 := Lib.hid hK5
    have HSZ := Lib.hid hsz
    have HS5 := Lib.hid (H.out.spare.set H.out.blk 0 (.int .i64 5))
    clear hL5 hO5 hB5 hK5 hsz H
    go_wp2_with (at_builtin; refine Kd.R_append kB (w0 := w0) n rfl (.tmp 22) (.tmp 24) 22 5 (.int .u8 0) 1 rfl Tryd.underlying22 info_u8 rfl (by decide) (by omega) (.slice A r.l.length cp) r.l c [.int .u8 c] (fun k => n ≤ k ∧ k ≠ g) (fun _ => False) rfl (by simp [Act.eval]) rfl (fun _ hk => hk.elim) (fun k hk => by have := HSZ.out; omega) HL5.out HB5.out (by have := HSZ.out; omega) (by omega) ?_; intro v1 w1 hr2 hb2 hg2 ho2; obtain ⟨A1, c1, rfl, _⟩ := Kd.R_reads hr2; have hk1 := blk_grown HK5.out hg2 (Kd.R_away HL5.out (fun k hk => hk.2)); have HO6 := Lib.hid (Kd.N_after HO5.out hg2 ho2); rw [List.length_append, List.length_singleton] at hr2; have HL6 := Lib.hid hr2; have HB6 := Lib.hid hb2; have HK6 := Lib.hid hk1; have HS6 := Lib.hid (HS5.out.grownR HL5.out hg2); obtain ⟨_, _, _, y3, _, _, _, _, q3, _⟩ := blk_facts hk1; clear hr2 hb2 hg2 ho2 hk1)
    refine bodyPost_ret (results_none rfl _ _ _) rfl ?_
    refine ⟨_, .slice A1 (r.l.length + 1) c1, vO, rfl, ?_⟩
    rw [HR.out, List.append_nil]
    refine ⟨blk_set HK6.out 3 _, hgn, ?_, ?_, HB6.out.setCell hgn _, HS6.out.set HK6.out 3 _⟩
    · exact Kd.R_move HL6.out (fun k hk => Below.heap_setCell w1 ⟨g, 3, none⟩ _ k hk.2)
    · have := HO6.out
      rw [List.length_append, List.length_singleton] at this
      exact Kd.N_step this (fun k hk _ => Below.heap_setCell w1 ⟨g, 3, none⟩ _ k hk.1.2)

theorem wsub_any (c : Int) {w0 w : World} {n g : Nat} {sp : Sps} {r : Rd} {vL vO : Value} {out : List It} (h : WS w0 n g sp w r vL vO out) (hl : r.l.length ≤ 1000000) :
    Calls Tryd.prog 52 #[.pointer (some ⟨g, 0, none⟩), .int .u8 c] w (WP w0 n g sp (subF r c).1 (out ++ (subF r c).2)) := by
  have E1 := Lib.hid (show subF r c = if c = 255 then (⟨6, r.v, r.o, r.l⟩, []) else keepF r c from rfl)
  have HKP := Lib.hid (wkeep_any c h hl)
  obtain ⟨f0, f1, f2, f3, f4, z0, z1, z2, z3, z4⟩ := h.facts
  have H := Lib.hid h
  clear h
  by_cases h255 : c = 255
  · have HR := Lib.hid (show subF r c = (⟨6, r.v, r.o, r.l⟩, []) by rw [E1.out, if_pos h255])
    have hb : (c == 255) = true := beq_iff_eq.2 h255
    clear h255 E1 HKP
    go_enter Tryd.func52, Tryd.ntmps52
    go_wp2_with fail
    refine bodyPost_ret (results_none rfl _ _ _) rfl ?_
    refine ⟨_, vL, vO, rfl, ?_⟩
    rw [HR.out, List.append_nil]
    refine ⟨blk_set H.out.blk 0 _, H.out.hg, ?_, ?_, H.out.below.setCell H.out.hg _, H.out.spare.set H.out.blk 0 _⟩
    · exact Kd.R_move H.out.rowL (fun k hk => Below.heap_setCell w ⟨g, 0, none⟩ _ k hk.2)
    · exact Kd.N_step H.out.rowO (fun k hk _ => Below.heap_setCell w ⟨g, 0, none⟩ _ k hk.1.2)
  · have HR := Lib.hid (show subF r c = keepF r c by rw [E1.out, if_neg h255])
    have hb : (c == 255) = false := beq_eq_false_iff_ne.2 h255
    clear h255 E1 H
    go_enter Tryd.func52, Tryd.ntmps52
    go_wp2_with (go_at_call 59; refine (HKP.out).mono ?_; rintro e w' ⟨v', vL', vO', rfl, hws⟩; have HWS := Lib.hid hws; clear hws)
    refine bodyPost_ret (results_none rfl _ _ _) rfl ?_
    exact ⟨_, vL', vO', rfl, by rw [HR.out]; exact HWS.out⟩

theorem wskip_any (c : Int) {w0 w : World} {n g : Nat} {sp : Sps} {r : Rd} {vL vO : Value} {out : List It} (h : WS w0 n g sp w r vL vO out) :
    Calls Tryd.prog 54 #[.pointer (some ⟨g, 0, none⟩), .int .u8 c] w (WP w0 n g sp (skipF r c).1 (out ++ (skipF r c).2)) := by
  have E1 := Lib.hid (show skipF r c = if c = 255 then (inR 8, []) else (r, []) from rfl)
  have HT := Lib.hid (h.to 8)
  have H := Lib.hid h
  clear h
  by_cases h255 : c = 255
  · have HR := Lib.hid (show skipF r c = (inR 8, []) by rw [E1.out, if_pos h255])
    have hb : (c == 255) = true := beq_iff_eq.2 h255
    clear h255 E1 H
    go_enter Tryd.func54, Tryd.ntmps54
    go_wp2_with (go_at_call 57; refine (HT.out).mono ?_; rintro e w' ⟨v', vL', vO', rfl, hws⟩; have HWS := Lib.hid hws; clear hws)
    refine bodyPost_ret (results_none rfl _ _ _) rfl ?_
    exact ⟨_, vL', vO', rfl, by rw [HR.out, List.append_nil]; exact HWS.out⟩
  · have HR := Lib.hid (show skipF r c = (r, []) by rw [E1.out, if_neg h255])
    have hb : (c == 255) = false := beq_eq_false_iff_ne.2 h255
    clear h255 E1 HT
    go_enter Tryd.func54, Tryd.ntmps54
    go_wp2_with fail
    refine bodyPost_ret (results_none rfl _ _ _) rfl ?_
    exact ⟨_, vL, vO, rfl, by rw [HR.out, List.append_nil]; exact H.out⟩

theorem wske_any (c : Int) {w0 w : World} {n g : Nat} {sp : Sps} {r : Rd} {vL vO : Value} {out : List It} (hc : 0 ≤ c ∧ c ≤ 255) (h : WS w0 n g sp w r vL vO out) (hl : out.length ≤ 1000000) :
    Calls Tryd.prog 55 #[.pointer (some ⟨g, 0, none⟩), .int .u8 c] w (WP w0 n g sp (skeF c).1 (out ++ (skeF c).2)) := by
  have E1 := Lib.hid (show skeF c = if c = 255 then (inR 7, []) else if c = 240 then (inR 0, []) else cmdF c from rfl)
  have HT7 := Lib.hid (h.to 7)
  have HT0 := Lib.hid (h.to 0)
  have HCM := Lib.hid (wcmd_any c hc h hl)
  clear h
  by_cases h255 : c = 255
  · have HR := Lib.hid (show skeF c = (inR 7, []) by rw [E1.out, if_pos h255])
    have hb : (c == 255) = true := beq_iff_eq.2 h255
    clear h255 E1 HCM HT0
    go_enter Tryd.func55, Tryd.ntmps55
    go_wp2_with (go_at_call 57; refine (HT7.out).mono ?_; rintro e w' ⟨v', vL', vO', rfl, hws⟩; have HWS := Lib.hid hws; clear hws)
    refine bodyPost_ret (results_none rfl _ _ _) rfl ?_
    exact ⟨_, vL', vO', rfl, by rw [HR.out, List.append_nil]; exact HWS.out⟩
  · have hb : (c == 255) = false := beq_eq_false_iff_ne.2 h255
    by_cases h240 : c = 240
    · have HR := Lib.hid (show skeF c = (inR 0, []) by rw [E1.out, if_neg h255, if_pos h240])
      have hb2 : (c == 240) = true := beq_iff_eq.2 h240
      clear h255 h240 E1 HCM HT7
      go_enter Tryd.func55, Tryd.ntmps55
      go_wp2_with (go_at_call 57; refine (HT0.out).mono ?_; rintro e w' ⟨v', vL', vO', rfl, hws⟩; have HWS := Lib.hid hws; clear hws)
      refine bodyPost_ret (results_none rfl _ _ _) rfl ?_
      exact ⟨_, vL', vO', rfl, by rw [HR.out, List.append_nil]; exact HWS.out⟩
    · have HR := Lib.hid (show skeF c = cmdF c by rw [E1.out, if_neg h255, if_neg h240])
      have hb2 : (c == 240) = false := beq_eq_false_iff_ne.2 h240
      clear h255 h240 E1 HT7 HT0
      go_enter Tryd.func55, Tryd.ntmps55
      go_wp2_with (go_at_call 49; refine (HCM.out).mono ?_; rintro e w' ⟨v', vL', vO', rfl, hws⟩; have HWS := Lib.hid hws; clear hws)
      refine bodyPost_ret (results_none rfl _ _ _) rfl ?_
      exact ⟨_, vL', vO', rfl, by rw [HR.out]; exact HWS.out⟩

/-- What was told of an option so far, as an item. -/
theorem WS.tellL {w0 w : World} {n g : Nat} {sp : Sps} {r : Rd} {A : Option Addr} {c : Nat} {vO : Value} {out : List It} (h : WS w0 n g sp w r (.slice A r.l.length c) vO out) (hl : out.length ≤ 1000000) :
    Calls Tryd.prog 58 #[.pointer (some ⟨g, 0, none⟩), .agg #[.int .i64 4, .int .i64 r.o, .int .i64 0, .slice A r.l.length c]] w (WP w0 n g sp (inR 0) (out ++ [⟨4, r.o, 0, r.l⟩])) := by
  have ht := Kd.R_tight2 rfl h.rowL
  have hle := (Kd.R_reads' ht).2.1
  refine tell_any ⟨4, r.o, 0, r.l⟩ A c _ h.blk h.hg (Kd.N_mono h.rowO (fun _ hk => hk.1)) h.below (it_FK hle (Kd.R_F ht)) (fun k hk => ⟨hk.2, fun e => ?_⟩) hl h.spare
  exact (h.rowO.1 k e.symm).2 hk.1
set_option maxHeartbeats 4000000 in
set_option maxRecDepth 100000 in
theorem wend_any (c : Int) {w0 w : World} {n g : Nat} {sp : Sps} {r : Rd} {vL vO : Value} {out : List It} (hc : 0 ≤ c ∧ c ≤ 255) (h : WS w0 n g sp w r vL vO out) (hl : out.length ≤ 1000000) (hl2 : r.l.length ≤ 1000000) :
    Calls Tryd.prog 53 #[.pointer (some ⟨g, 0, none⟩), .int .u8 c] w (WP w0 n g sp (endF r c).1 (out ++ (endF r c).2)) := by
  have E1 := Lib.hid (show endF r c = if c = 255 then keepF r c else if c = 240 then (inR 0, [⟨4, r.o, 0, r.l⟩]) else cmdF c from rfl)
  have HKP := Lib.hid (wkeep_any c h hl2)
  have HCM := Lib.hid (wcmd_any c hc h hl)
  obtain ⟨A, cp, rfl, hle⟩ := h.slice_
  obtain ⟨f0, f1, f2, f3, f4, z0, z1, z2, z3, z4⟩ := h.facts
  have hlt := h.lt
  by_cases h255 : c = 255
  · have HR := Lib.hid (show endF r c = keepF r c by rw [E1.out, if_pos h255])
    have hb : (c == 255) = true := beq_iff_eq.2 h255
    clear h255 E1 HCM h
    go_enter Tryd.func53, Tryd.ntmps53
    go_wp2_with (go_at_call 59; refine (HKP.out).mono ?_; rintro e w' ⟨v', vL', vO', rfl, hws⟩; have HWS := Lib.hid hws; clear hws)
    refine bodyPost_ret (results_none rfl _ _ _) rfl ?_
    exact ⟨_, vL', vO', rfl, by rw [HR.out]; exact HWS.out⟩
  · have hb : (c == 255) = false := beq_eq_false_iff_ne.2 h255
    by_cases h240 : c = 240
    · have HR := Lib.hid (show endF r c = (inR 0, [⟨4, r.o, 0, r.l⟩]) by rw [E1.out, if_neg h255, if_pos h240])
      have hb2 : (c == 240) = true := beq_iff_eq.2 h240
      have H := Lib.hid (h.below_ (below_drew (Below.refl _ w)))
      clear h255 h240 E1 HCM HKP h
      go_enter Tryd.func53, Tryd.ntmps53
      go_wp2_with fail
      go_region_with (go_at_call 58; refine (H.out.tellL hl).mono ?_; rintro e w' ⟨v', vL', vO', rfl, hws⟩; have HWS := Lib.hid hws; clear hws)
      all_goals
        go_wp2_with fail
        refine bodyPost_ret (results_none rfl _ _ _) rfl ?_
        exact ⟨_, vL', vO', rfl, by rw [HR.out]; exact HWS.out⟩
    · have HR := Lib.hid (show endF r c = cmdF c by rw [E1.out, if_neg h255, if_neg h240])
      have hb2 : (c == 240) = false := beq_eq_false_iff_ne.2 h240
      clear h255 h240 E1 HKP h
      go_enter Tryd.func53, Tryd.ntmps53
      go_wp2_with (go_at_call 49; refine (HCM.out).mono ?_; rintro e w' ⟨v', vL', vO', rfl, hws⟩; have HWS := Lib.hid hws; clear hws)
      refine bodyPost_ret (results_none rfl _ _ _) rfl ?_
      exact ⟨_, vL', vO', rfl, by rw [HR.out]; exact HWS.out⟩
end Go.Proofs.YtkbblbgiheclfaaDoor
