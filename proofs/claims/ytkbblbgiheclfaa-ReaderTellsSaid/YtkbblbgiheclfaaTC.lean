/- The document, of readers: inCommand. -/
import Derived.Test.YtkbblbgiheclfaaTB
namespace Go.Proofs.Ytkbblbgiheclfaa
open Go.RowKit Go.Proofs.YtkbblbgiheclfaaW.PrintWords

set_option maxHeartbeats 4000000 in
set_option maxRecDepth 100000 in
theorem dinCmd_any (c : Int) (ok : Nat → Prop) (w : World) (h : 0 ≤ c ∧ c ≤ 255) : Calls Try.prog 38 #[.int .u8 c] w (StP w ok (cmdF c)) := by
  obtain ⟨h0, h1⟩ := h
  have HIN := Lib.hid in_any
  have HD := Lib.hid (fun w' => ddata_f c w' ⟨h0, h1⟩)
  have HMY := Lib.hid (fun w' => imay_any (cmdI c) none 0 w')
  have E1 := Lib.hid (show cmdF c = if c = 255 then (inR 0, [datI c]) else if 251 ≤ c then (⟨3, c, 0, []⟩, []) else if c = 250 then (inR 4, []) else if mayI (cmdI c) = true then (inR 0, [cmdI c]) else (inR 0, []) from rfl)
  by_cases h255 : c = 255
  · have HR := Lib.hid (show (inR 0, [datI c]) = cmdF c by rw [E1.out, if_pos h255])
    have hb : (c == 255) = true := beq_iff_eq.2 h255
    clear h255 E1 HMY
    go_enter Try.func38, Try.ntmps38
    go_wp2_with fail
    refine (HIN.out 0 _).mono ?_
    rintro e w1 ⟨rfl, hb1⟩
    have hk1 := (hb1.block w.heap.size (by simp)).trans (alloc_at w _)
    have HBW := Lib.hid ((below_alloc (Below.refl _ w) _).trans (hb1.mono (by simp)))
    have HK1 := Lib.hid hk1
    clear hb1 hk1
    go_wp2_with fail
    refine (HD.out _).mono ?_
    rintro e w2 ⟨rfl, hf2, hb2⟩
    have hk2 := (hb2.block w.heap.size (blk_lt HK1.out)).trans HK1.out
    have hlt := blk_lt HK1.out
    obtain ⟨f0, f1, f2, f3, z0, z1, z2, z3⟩ := blk_facts4 hk2
    have HLF := Lib.hid hf2
    have HB2 := Lib.hid (HBW.out.trans (hb2.mono HBW.out.size))
    have hsz := HBW.out.size
    clear hk2 HK1 HBW hf2 hb2
    go_wp2_with fail
    refine bodyPost_ret (v := .tuple #[.agg #[.int .i64 0, .int .i64 0, .int .i64 0, .slice none 0 0], .slice (some ⟨w1.heap.size, 0, none⟩) 1 1]) (by simp [results, Try.results38, go_sem, f0, f1, f2, f3]) rfl ?_
    exact StP.imp (StP.fill (r := inR 0) (xs := [datI c]) (Nat.le_refl _) (Nat.le_refl _) (Nat.le_refl _) F_nilb (Kd.F_mono HLF.out (fun k hk => by subst hk; exact ⟨.inr hsz, by omega⟩)) HB2.out _ _ _ _) HR.out
  · have hb : (c == 255) = false := beq_eq_false_iff_ne.2 h255
    have hk1 := alloc_at w (.cells #[.int .i64 0, .int .i64 0, .int .i64 0, .slice none 0 0] 24)
    have HBA := Lib.hid (below_alloc (Below.refl _ w) (.cells #[.int .i64 0, .int .i64 0, .int .i64 0, .slice none 0 0] 24))
    by_cases h251 : 251 ≤ c
    · have HR := Lib.hid (show (⟨3, c, 0, []⟩, []) = cmdF c by rw [E1.out, if_neg h255, if_pos h251])
      clear h255 E1 HMY HD HIN hk1
      go_enter Try.func38, Try.ntmps38
      go_wp2_with fail
      refine bodyPost_ret (v := .tuple #[.agg #[.int .i64 3, .int .i64 c, .int .i64 0, .slice none 0 0], .slice none 0 0]) (by simp [results, Try.results38, go_sem]) rfl ?_
      refine StP.imp ⟨none, 0, none, 0, rfl, Nat.le_refl _, Nat.le_refl _, F_nilb, F_niln, ?_⟩ HR.out
      repeat (first | exact Below.refl _ _ | (refine Below.setCell ?_ (by first | omega | (simp; done) | (simp; omega)) _) | (refine Below.alloc ?_ (by first | omega | (simp; done) | (simp; omega)) _))
    · by_cases h250 : c = 250
      · have HR := Lib.hid (show (inR 4, []) = cmdF c by rw [E1.out, if_neg h255, if_neg h251, if_pos h250])
        have hb2 : (c == 250) = true := beq_iff_eq.2 h250
        clear h255 E1 HMY HD h250 hk1
        go_enter Try.func38, Try.ntmps38
        go_wp2_with fail
        refine (HIN.out 4 _).mono ?_
        rintro e w1 ⟨rfl, hb1⟩
        have hk1 := (hb1.block w.heap.size (by simp)).trans (alloc_at w _)
        obtain ⟨f0, f1, f2, f3, z0, z1, z2, z3⟩ := blk_facts4 hk1
        have HBW := Lib.hid ((below_alloc (Below.refl _ w) _).trans (hb1.mono (by simp)))
        clear hb1 hk1
        go_wp2_with fail
        refine bodyPost_ret (v := .tuple #[.agg #[.int .i64 4, .int .i64 0, .int .i64 0, .slice none 0 0], .slice none 0 0]) (by simp [results, Try.results38, go_sem, f0, f1, f2, f3]) rfl ?_
        exact StP.imp (StP.fill (r := inR 4) (xs := []) (Nat.le_refl _) (Nat.le_refl _) (Nat.le_refl _) F_nilb F_niln HBW.out _ _ _ _) HR.out
      · have hb2 : (c == 250) = false := beq_eq_false_iff_ne.2 h250
        have E2 := Lib.hid (show cmdF c = if mayI (cmdI c) = true then (inR 0, [cmdI c]) else (inR 0, []) by rw [E1.out, if_neg h255, if_neg h251, if_neg h250])
        clear h255 E1 h250
        obtain ⟨m, hm⟩ : ∃ m, mayI (cmdI c) = m := ⟨_, rfl⟩
        rw [hm] at HMY E2
        clear hm
        go_enter Try.func38, Try.ntmps38
        go_wp2_with fail
        refine (HMY.out _).mono ?_
        rintro e w1 ⟨rfl, hb1⟩
        have hkk := (below_alloc (Below.refl _ (w.alloc (.cells #[.int .i64 0, .int .i64 0, .int .i64 0, .slice none 0 0] 24))) (.cells #[.int .i64 2, .int .i64 c, .int .i64 0, .slice none 0 0] 35)).block w.heap.size (by simp)
        have hk2 := (hb1.block w.heap.size (by simp; omega)).trans (hkk.trans hk1)
        have hka := alloc_at (w.alloc (.cells #[.int .i64 0, .int .i64 0, .int .i64 0, .slice none 0 0] 24)) (.cells #[.int .i64 2, .int .i64 c, .int .i64 0, .slice none 0 0] 35)
        have hk3 := (hb1.block _ (by simp)).trans hka
        rw [World.size_alloc] at hk3
        have HBW := Lib.hid (HBA.out.trans (((below_alloc (Below.refl _ _) (.cells #[.int .i64 2, .int .i64 c, .int .i64 0, .slice none 0 0] 35)).trans (hb1.mono (by simp))).mono HBA.out.size))
        have HK2 := Lib.hid hk2
        have HK3 := Lib.hid hk3
        clear hkk hk1 hk2 hka hk3 hb1 HBA HMY
        have hlt := blk_lt HK2.out
        have hlt3 := blk_lt HK3.out
        cases m
        · have HR := Lib.hid (show (inR 0, []) = cmdF c from E2.out.symm)
          clear E2 HD
          go_wp2_with fail
          refine (HIN.out 0 _).mono ?_
          rintro e w2 ⟨rfl, hb2⟩
          have hk4 := (hb2.block w.heap.size hlt).trans HK2.out
          obtain ⟨f0, f1, f2, f3, z0, z1, z2, z3⟩ := blk_facts4 hk4
          have HBX := Lib.hid (HBW.out.trans (hb2.mono HBW.out.size))
          have hlt4 := blk_lt hk4
          clear hk4 hb2 HK2 HK3 HBW
          go_wp2_with fail
          refine bodyPost_ret (v := .tuple #[.agg #[.int .i64 0, .int .i64 0, .int .i64 0, .slice none 0 0], .slice none 0 0]) (by simp [results, Try.results38, go_sem, f0, f1, f2, f3]) rfl ?_
          exact StP.imp (StP.fill (r := inR 0) (xs := []) (Nat.le_refl _) (Nat.le_refl _) (Nat.le_refl _) F_nilb F_niln HBX.out _ _ _ _) HR.out
        · have HR := Lib.hid (show (inR 0, [cmdI c]) = cmdF c from E2.out.symm)
          clear E2 HD
          obtain ⟨g0, g1, g2, g3, y0, y1, y2, y3⟩ := blk_facts4 HK3.out
          have hsz := HBW.out.size
          go_wp2_with fail
          have HBA := Lib.hid (HBW.out.drew.alloc HBW.out.drew.size (.cells #[.int .i64 2, .int .i64 c, .int .i64 0, .slice none 0 0] 35))
          have HKA := Lib.hid (((below_alloc (Below.refl _ w1.drew) (.cells #[.int .i64 2, .int .i64 c, .int .i64 0, .slice none 0 0] 35)).block w.heap.size hlt).trans (show w1.drew.heap[w.heap.size]? = _ from HK2.out))
          have HKB := Lib.hid (((below_alloc (Below.refl _ w1.drew) (.cells #[.int .i64 2, .int .i64 c, .int .i64 0, .slice none 0 0] 35)).block (w.heap.size + 1) hlt3).trans (show w1.drew.heap[w.heap.size + 1]? = _ from HK3.out))
          have HLA := Lib.hid (lit_F w1.drew (cmdI c) none 0 (fun _ => False) (Nat.le_refl _) F_nilb)
          go_region_with (go_at_call 37; refine (HIN.out 0 _).mono ?_; rintro e w2 ⟨rfl, hb2⟩; have hk4 := (hb2.block w.heap.size (by first | exact hlt | (simp; omega))).trans (by first | exact HK2.out | exact HKA.out); obtain ⟨f0, f1, f2, f3, z0, z1, z2, z3⟩ := blk_facts4 hk4; have hk5 := (hb2.block (w.heap.size + 1) (by first | exact hlt3 | (simp; omega))).trans (by first | exact HK3.out | exact HKB.out); obtain ⟨x0, x1, x2, x3, _, _, _, _⟩ := blk_facts4 hk5; have hlt4 := blk_lt hk4; have HS := Lib.hid hb2; clear hk4 hk5 hb2)
          all_goals
            have hsz2 := HS.out.size
            have hb3 : Below w.heap.size w w2 := by first | exact HBW.out.drew.trans (HS.out.mono hsz) | exact HBA.out.trans (HS.out.mono (by simp; omega))
            have HB3 := Lib.hid hb3
            first
              | (have HI := Lib.hid ((HS.out.block w1.heap.size (by simp)).trans (alloc_at w1.drew (.cells #[.int .i64 2, .int .i64 c, .int .i64 0, .slice none 0 0] 35)))
                 have HP := Lib.hid (StP.imp (StP.fillB (ok := ok) (r := inR 0) (x := cmdI c) (A := none) (B := none) (c := 0) (d := 0) (g := w.heap.size) (g' := w1.heap.size) (Nat.le_refl _) hsz (by omega) HI.out HB3.out (Nat.le_refl _) (Nat.le_refl _) F_nilb F_nilb (.int .i64 0) (.int .i64 0) (.int .i64 0) (.slice none 0 0)) HR.out)
                 clear HBA HK2 HK3 HKA HKB HIN HS hb3 HI
                 go_wp2_with fail
                 refine bodyPost_ret (v := .tuple #[.agg #[.int .i64 0, .int .i64 0, .int .i64 0, .slice none 0 0], .slice (some ⟨w1.heap.size, 0, none⟩) 1 1]) (by simp [results, Try.results38, go_sem, f0, f1, f2, f3]; done) rfl HP.out)
              | (have HP := Lib.hid (StP.imp (StP.fillA (ok := ok) (r := inR 0) (x := cmdI c) (A := none) (B := none) (c := 0) (d := 0) (g := w.heap.size) (Nat.le_refl _) HB3.out (Nat.le_refl _) (Nat.le_refl _) F_nilb F_nilb (.int .i64 0) (.int .i64 0) (.int .i64 0) (.slice none 0 0)) HR.out)
                 clear HBA HK2 HK3 HKA HKB HIN HS hb3
                 go_wp2_with fail
                 refine bodyPost_ret (v := .tuple #[.agg #[.int .i64 0, .int .i64 0, .int .i64 0, .slice none 0 0], .slice (some ⟨w2.heap.size, 0, none⟩) 1 1]) (by simp [results, Try.results38, go_sem, f0, f1, f2, f3, hlt4, World.cell?_alloc_past]; done) rfl HP.out)
end Go.Proofs.Ytkbblbgiheclfaa
