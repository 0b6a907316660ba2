/- The document, of readers: One. -/
import Derived.Test.YtkbblbgiheclfaaTD
import Derived.Deep.RegionHeld3
namespace Go.Proofs.Ytkbblbgiheclfaa
open Go.RowKit Go.Proofs.YtkbblbgiheclfaaW.PrintWords

theorem okz {W : World} {n : Nat} {ok : Nat → Prop} (h : W.heap.size = n + 2) {k : Nat} (hk : okX W.heap.size (fun _ => False) k) : okX n ok k ∧ k ≠ n + 1 := by
  rcases hk with hk | hk
  · exact hk.1.elim
  · rw [h] at hk; exact ⟨.inr (by omega), by omega⟩
theorem one_keep_eq (r : Rd) (c : Int) (hv : r.v = 0) : (keptF r c, ([] : List It)) = keepF r c := by
  unfold keptF keepF
  split
  · rfl
  · rw [hv]
set_option maxHeartbeats 8000000 in
set_option maxRecDepth 100000 in
theorem oned_any (r : Rd) (A : Option Addr) (c : Nat) (cc : Int) (ok : Nat → Prop) (w : World) (hm : mayR r = true) (hF : Kd.F kB w ok A r.l.length r.l) (hc : r.l.length ≤ c) (hcc : 0 ≤ cc ∧ cc ≤ 255) :
    Calls Try.prog 24 #[.agg #[.int .i64 r.i, .int .i64 r.v, .int .i64 r.o, .slice A r.l.length c], .int .u8 cc] w (StP w ok (stepF r cc)) := by
  obtain ⟨h0, h1⟩ := hcc
  have hm2 := (mayR_iff r).1 hm
  obtain ⟨i, v, o, l⟩ := r
  dsimp only at *
  have hk0 := alloc_at w (.cells #[.int .i64 i, .int .i64 v, .int .i64 o, .slice A l.length c] 24)
  have hk1 := alloc_at (w.alloc (.cells #[.int .i64 i, .int .i64 v, .int .i64 o, .slice A l.length c] 24)) (.cells #[.int .i64 0, .int .i64 0, .int .i64 0, .slice none 0 0] 24)
  have hk2 := (below_alloc (Below.refl _ (w.alloc (.cells #[.int .i64 i, .int .i64 v, .int .i64 o, .slice A l.length c] 24))) (.cells #[.int .i64 0, .int .i64 0, .int .i64 0, .slice none 0 0] 24)).block w.heap.size (by simp)
  have hbz := (below_alloc (Below.refl _ w) (.cells #[.int .i64 i, .int .i64 v, .int .i64 o, .slice A l.length c] 24)).trans ((below_alloc (Below.refl _ (w.alloc (.cells #[.int .i64 i, .int .i64 v, .int .i64 o, .slice A l.length c] 24))) (.cells #[.int .i64 0, .int .i64 0, .int .i64 0, .slice none 0 0] 24)).mono (by simp))
  have hkb := hk2.trans hk0
  rw [World.size_alloc] at hk1
  have hFz := Kd.F_below (Kd.F_bound hF) hbz
  have HKP := Lib.hid (kept_any ⟨i, v, o, l⟩ A c cc _ (Kd.F_now hFz) hc (by show l.length ≤ 1000; omega) ⟨h0, h1⟩)
  have HC := Lib.hid hFz
  have HF0 := Lib.hid (Kd.F_bound hF)
  have HBZ := Lib.hid hbz
  have HK1 := Lib.hid hk1
  have HKB := Lib.hid hkb
  have HIN := Lib.hid in_any
  have hsz : ((w.alloc (.cells #[.int .i64 i, .int .i64 v, .int .i64 o, .slice A l.length c] 24)).alloc (.cells #[.int .i64 0, .int .i64 0, .int .i64 0, .slice none 0 0] 24)).heap.size = w.heap.size + 2 := by simp
  have HSZ := Lib.hid hsz
  clear hk0 hk1 hk2 hbz hkb hFz hF hsz hm
  have hcases : i = 0 ∨ i = 1 ∨ i = 2 ∨ i = 3 ∨ i = 4 ∨ i = 5 ∨ i = 6 ∨ i = 7 ∨ i = 8 := by omega
  rcases hcases with rfl | rfl | rfl | rfl | rfl | rfl | rfl | rfl | rfl
  · clear hm2
    obtain ⟨q, hq⟩ : ∃ q, dataF cc = q := ⟨_, rfl⟩
    have HRQ := Lib.hid (show q = stepF _ cc from hq.symm.trans (step_0 v o l cc).symm)
    have HST := Lib.hid (show ∀ w1, Calls Try.prog 36 #[.int .u8 cc] w1 (StP w1 (fun _ => False) q) from fun w1 => hq ▸ dinData_any cc _ w1 ⟨h0, h1⟩)
    clear hq HC HKP HIN
    obtain ⟨⟨i1, v1, o1, l1⟩, xs⟩ := q
    go_enter Try.func24, Try.ntmps24
    go_wp2_with fail
    refine (HST.out _).mono ?_
    rintro e w2 ⟨A1, c1, B1, d1, rfl, hle, hld, hF, hI, hb2⟩
    have hk4 := (hb2.block (w.heap.size + 1) (by simp)).trans HK1.out
    obtain ⟨f0, f1, f2, f3, z0, z1, z2, z3⟩ := blk_facts4 hk4
    have HBX := Lib.hid (HBZ.out.trans (hb2.mono HBZ.out.size))
    have hlt4 := blk_lt hk4
    have HP := Lib.hid (StP.imp (StP.fill (w := w) (ok := ok) (g := w.heap.size + 1) (by omega) hle hld (Kd.F_mono hF (fun k hk => okz HSZ.out hk)) (Kd.F_mono hI (fun k hk => okz HSZ.out hk)) HBX.out (.int .i64 i1) (.int .i64 v1) (.int .i64 o1) (.slice A1 l1.length c1)) HRQ.out)
    dsimp only at *
    clear hk4 hb2 hF hI HBX HBZ HK1 HKB HSZ HST HRQ
    go_wp2_with fail
    refine bodyPost_ret (v := .tuple #[.agg #[.int .i64 i1, .int .i64 v1, .int .i64 o1, .slice A1 l1.length c1], .slice B1 xs.length d1]) (by simp [results, Try.results24, go_sem, f0, f1, f2, f3]) rfl HP.out
  · clear hm2
    by_cases h10 : cc = 10
    · have b10 : (cc == 10) = true := beq_iff_eq.2 h10
      have HR := Lib.hid (show (inR 0, []) = stepF ⟨1, v, o, l⟩ cc by rw [step_1, backF, if_pos (by omega)])
      clear h10
      have HI1 := Lib.hid (HIN.out 0)
      clear HC HKP HIN
      go_enter Try.func24, Try.ntmps24
      go_wp2_with fail
      refine (HI1.out _).mono ?_
      rintro e w2 ⟨rfl, hb2⟩
      have hk4 := (hb2.block (w.heap.size + 1) (by simp)).trans HK1.out
      obtain ⟨f0, f1, f2, f3, z0, z1, z2, z3⟩ := blk_facts4 hk4
      have HBX := Lib.hid (HBZ.out.trans (hb2.mono HBZ.out.size))
      have hlt4 := blk_lt hk4
      have HP := Lib.hid (StP.imp (StP.fill (w := w) (ok := ok) (r := inR 0) (xs := []) (A := none) (B := none) (c := 0) (d := 0) (g := w.heap.size + 1) (by omega) (Nat.le_refl _) (Nat.le_refl _) F_nilb F_niln HBX.out (.int .i64 0) (.int .i64 0) (.int .i64 0) (.slice none 0 0)) HR.out)
      clear hk4 hb2 HBX HBZ HK1 HKB HSZ HI1
      go_wp2_with fail
      refine bodyPost_ret (v := .tuple #[.agg #[.int .i64 0, .int .i64 0, .int .i64 0, .slice none 0 0], .slice none 0 0]) (by simp [results, Try.results24, go_sem, f0, f1, f2, f3]) rfl HP.out
    · have b10 : (cc == 10) = false := beq_eq_false_iff_ne.2 h10
      by_cases hz : cc = 0
      · have bz : (cc == 0) = true := beq_iff_eq.2 hz
        have HR := Lib.hid (show (inR 0, []) = stepF ⟨1, v, o, l⟩ cc by rw [step_1, backF, if_pos (by omega)])
        clear h10
        have HI1 := Lib.hid (HIN.out 0)
        clear HC HKP HIN
        go_enter Try.func24, Try.ntmps24
        go_wp2_with fail
        refine (HI1.out _).mono ?_
        rintro e w2 ⟨rfl, hb2⟩
        have hk4 := (hb2.block (w.heap.size + 1) (by simp)).trans HK1.out
        obtain ⟨f0, f1, f2, f3, z0, z1, z2, z3⟩ := blk_facts4 hk4
        have HBX := Lib.hid (HBZ.out.trans (hb2.mono HBZ.out.size))
        have hlt4 := blk_lt hk4
        have HP := Lib.hid (StP.imp (StP.fill (w := w) (ok := ok) (r := inR 0) (xs := []) (A := none) (B := none) (c := 0) (d := 0) (g := w.heap.size + 1) (by omega) (Nat.le_refl _) (Nat.le_refl _) F_nilb F_niln HBX.out (.int .i64 0) (.int .i64 0) (.int .i64 0) (.slice none 0 0)) HR.out)
        clear hk4 hb2 HBX HBZ HK1 HKB HSZ HI1
        go_wp2_with fail
        refine bodyPost_ret (v := .tuple #[.agg #[.int .i64 0, .int .i64 0, .int .i64 0, .slice none 0 0], .slice none 0 0]) (by simp [results, Try.results24, go_sem, f0, f1, f2, f3]) rfl HP.out
      · have bz : (cc == 0) = false := beq_eq_false_iff_ne.2 hz
        have HR := Lib.hid (show dataF cc = stepF ⟨1, v, o, l⟩ cc by rw [step_1, backF, if_neg (by omega)])
        obtain ⟨q, hq⟩ : ∃ q, dataF cc = q := ⟨_, rfl⟩
        have HRQ := Lib.hid (show q = stepF _ cc from hq.symm.trans HR.out)
        have HST := Lib.hid (show ∀ w1, Calls Try.prog 36 #[.int .u8 cc] w1 (StP w1 (fun _ => False) q) from fun w1 => hq ▸ dinData_any cc _ w1 ⟨h0, h1⟩)
        clear hq HC HKP HIN
        obtain ⟨⟨i1, v1, o1, l1⟩, xs⟩ := q
        go_enter Try.func24, Try.ntmps24
        go_wp2_with fail
        refine (HST.out _).mono ?_
        rintro e w2 ⟨A1, c1, B1, d1, rfl, hle, hld, hF, hI, hb2⟩
        have hk4 := (hb2.block (w.heap.size + 1) (by simp)).trans HK1.out
        obtain ⟨f0, f1, f2, f3, z0, z1, z2, z3⟩ := blk_facts4 hk4
        have HBX := Lib.hid (HBZ.out.trans (hb2.mono HBZ.out.size))
        have hlt4 := blk_lt hk4
        have HP := Lib.hid (StP.imp (StP.fill (w := w) (ok := ok) (g := w.heap.size + 1) (by omega) hle hld (Kd.F_mono hF (fun k hk => okz HSZ.out hk)) (Kd.F_mono hI (fun k hk => okz HSZ.out hk)) HBX.out (.int .i64 i1) (.int .i64 v1) (.int .i64 o1) (.slice A1 l1.length c1)) HRQ.out)
        dsimp only at *
        clear hk4 hb2 hF hI HBX HBZ HK1 HKB HSZ HST HRQ
        go_wp2_with fail
        refine bodyPost_ret (v := .tuple #[.agg #[.int .i64 i1, .int .i64 v1, .int .i64 o1, .slice A1 l1.length c1], .slice B1 xs.length d1]) (by simp [results, Try.results24, go_sem, f0, f1, f2, f3]) rfl HP.out
  · clear hm2
    obtain ⟨q, hq⟩ : ∃ q, cmdF cc = q := ⟨_, rfl⟩
    have HRQ := Lib.hid (show q = stepF _ cc from hq.symm.trans (step_2 v o l cc).symm)
    have HST := Lib.hid (show ∀ w1, Calls Try.prog 38 #[.int .u8 cc] w1 (StP w1 (fun _ => False) q) from fun w1 => hq ▸ dinCmd_any cc _ w1 ⟨h0, h1⟩)
    clear hq HC HKP HIN
    obtain ⟨⟨i1, v1, o1, l1⟩, xs⟩ := q
    go_enter Try.func24, Try.ntmps24
    go_wp2_with fail
    refine (HST.out _).mono ?_
    rintro e w2 ⟨A1, c1, B1, d1, rfl, hle, hld, hF, hI, hb2⟩
    have hk4 := (hb2.block (w.heap.size + 1) (by simp)).trans HK1.out
    obtain ⟨f0, f1, f2, f3, z0, z1, z2, z3⟩ := blk_facts4 hk4
    have HBX := Lib.hid (HBZ.out.trans (hb2.mono HBZ.out.size))
    have hlt4 := blk_lt hk4
    have HP := Lib.hid (StP.imp (StP.fill (w := w) (ok := ok) (g := w.heap.size + 1) (by omega) hle hld (Kd.F_mono hF (fun k hk => okz HSZ.out hk)) (Kd.F_mono hI (fun k hk => okz HSZ.out hk)) HBX.out (.int .i64 i1) (.int .i64 v1) (.int .i64 o1) (.slice A1 l1.length c1)) HRQ.out)
    dsimp only at *
    clear hk4 hb2 hF hI HBX HBZ HK1 HKB HSZ HST HRQ
    go_wp2_with fail
    refine bodyPost_ret (v := .tuple #[.agg #[.int .i64 i1, .int .i64 v1, .int .i64 o1, .slice A1 l1.length c1], .slice B1 xs.length d1]) (by simp [results, Try.results24, go_sem, f0, f1, f2, f3]) rfl HP.out
  · clear hm2
    have hwr : IntKind.i64.wrap cc = cc := by rw [IntKind.wrap_i64]; omega
    have HI1 := Lib.hid (HIN.out 0)
    clear HKP HIN
    go_enter Try.func24, Try.ntmps24
    go_wp2_with fail
    generalize ((w.alloc (.cells #[.int .i64 3, .int .i64 v, .int .i64 o, .slice A l.length c] 24)).alloc (.cells #[.int .i64 0, .int .i64 0, .int .i64 0, .slice none 0 0] 24)) = wz at *
    have hsz := HSZ.out
    obtain ⟨g0, g1, g2, g3, y0, y1, y2, y3⟩ := blk_facts4 HKB.out
    have hlt := blk_lt HK1.out
    have hlt3 := blk_lt HKB.out
    have HBA := Lib.hid (HBZ.out.drew.alloc HBZ.out.drew.size (.cells #[.int .i64 3, .int .i64 v, .int .i64 cc, .slice none 0 0] 35))
    have HKA := Lib.hid (((below_alloc (Below.refl _ wz.drew) (.cells #[.int .i64 3, .int .i64 v, .int .i64 cc, .slice none 0 0] 35)).block (w.heap.size + 1) hlt).trans (show wz.drew.heap[w.heap.size + 1]? = _ from HK1.out))
    have HKC := Lib.hid (((below_alloc (Below.refl _ wz.drew) (.cells #[.int .i64 3, .int .i64 v, .int .i64 cc, .slice none 0 0] 35)).block w.heap.size hlt3).trans (show wz.drew.heap[w.heap.size]? = _ from HKB.out))
    go_region_held3 (fun wx => wx.cell? ⟨w.heap.size, 1, none⟩ = some (.int .i64 v)) (go_keep) (first | (go_at_call 37; refine (HI1.out _).mono ?_; rintro e w2 ⟨rfl, hb2⟩; have hk4 := (hb2.block (w.heap.size + 1) (by first | exact hlt | (simp; omega))).trans (by first | exact HK1.out | exact HKA.out); obtain ⟨f0, f1, f2, f3, z0, z1, z2, z3⟩ := blk_facts4 hk4; have hk5 := (hb2.block w.heap.size (by first | exact hlt3 | (simp; omega))).trans (by first | exact HKB.out | exact HKC.out); obtain ⟨x0, x1, x2, x3, _, _, _, _⟩ := blk_facts4 hk5; have hlt4 := blk_lt hk4; have HS := Lib.hid hb2; clear hk4 hk5 hb2))
    all_goals
      have hb3 : Below w.heap.size w w2 := by first | exact HBZ.out.drew.trans (HS.out.mono HBZ.out.size) | exact HBA.out.trans (HS.out.mono (by simp; omega))
      have HB3 := Lib.hid hb3
      first
        | (have HI := Lib.hid ((HS.out.block wz.heap.size (by simp)).trans (alloc_at wz.drew (.cells #[.int .i64 3, .int .i64 v, .int .i64 cc, .slice none 0 0] 35)))
           have HP := Lib.hid (StP.imp (StP.fillB (ok := ok) (r := inR 0) (x := ⟨3, v, cc, []⟩) (A := none) (B := none) (c := 0) (d := 0) (g := w.heap.size + 1) (g' := wz.heap.size) (Nat.le_succ _) (by omega) (by omega) HI.out HB3.out (Nat.le_refl _) (Nat.le_refl _) F_nilb F_nilb (.int .i64 0) (.int .i64 0) (.int .i64 0) (.slice none 0 0)) (step_3 v o l cc).symm)
           clear HBA HK1 HKB HKA HKC HS hb3 HC HF0 HBZ HSZ
           go_wp2_with fail
           refine bodyPost_ret (v := .tuple #[.agg #[.int .i64 0, .int .i64 0, .int .i64 0, .slice none 0 0], .slice (some ⟨wz.heap.size, 0, none⟩) 1 1]) (by simp [results, Try.results24, go_sem, f0, f1, f2, f3]; done) rfl HP.out)
        | (skip
           have HP := Lib.hid (StP.imp (StP.fillA (ok := ok) (r := inR 0) (x := ⟨3, v, cc, []⟩) (A := none) (B := none) (c := 0) (d := 0) (g := w.heap.size + 1) (Nat.le_succ _) HB3.out (Nat.le_refl _) (Nat.le_refl _) F_nilb F_nilb (.int .i64 0) (.int .i64 0) (.int .i64 0) (.slice none 0 0)) (step_3 v o l cc).symm)
           clear HBA HK1 HKB HKA HKC HS hb3 HC HF0 HBZ HSZ
           go_wp2_with fail
           refine bodyPost_ret (v := .tuple #[.agg #[.int .i64 0, .int .i64 0, .int .i64 0, .slice none 0 0], .slice (some ⟨w2.heap.size, 0, none⟩) 1 1]) (by simp [results, Try.results24, go_sem, f0, f1, f2, f3, hlt4, World.cell?_alloc_past]; done) rfl HP.out)
  · clear hm2
    clear HC HKP HIN HBZ HK1 HKB HSZ
    go_enter Try.func24, Try.ntmps24
    go_wp2_with fail
    refine bodyPost_ret (v := .tuple #[.agg #[.int .i64 5, .int .i64 0, .int .i64 cc, .slice none 0 0], .slice none 0 0]) (by simp [results, Try.results24, go_sem]) rfl ?_
    refine StP.imp (p := (⟨5, 0, cc, []⟩, [])) ⟨none, 0, none, 0, rfl, Nat.le_refl _, Nat.le_refl _, F_nilb, F_niln, ?_⟩ (step_4 v o l cc).symm
    repeat (first | exact Below.refl _ _ | (refine Below.setCell ?_ (by first | omega | (simp; done) | (simp; omega)) _) | (refine Below.alloc ?_ (by first | omega | (simp; done) | (simp; omega)) _))
  · skip
    obtain rfl : v = 0 := hm2.2.2 (by decide)
    clear hm2
    by_cases h255 : cc = 255
    · have b255 : (cc == 255) = true := beq_iff_eq.2 h255
      have HR := Lib.hid (show (⟨6, 0, o, l⟩, []) = stepF ⟨5, 0, o, l⟩ cc by rw [step_5, subF, if_pos h255])
      clear h255
      clear HC HKP HIN HBZ HK1 HKB HSZ
      go_enter Try.func24, Try.ntmps24
      go_wp2_with fail
      refine bodyPost_ret (v := .tuple #[.agg #[.int .i64 6, .int .i64 0, .int .i64 o, .slice A l.length c], .slice none 0 0]) (by simp [results, Try.results24, go_sem]) rfl ?_
      refine StP.imp (p := (⟨6, 0, o, l⟩, [])) ⟨A, c, none, 0, rfl, hc, Nat.le_refl _, Kd.F_mono (Kd.F_alloc (Kd.F_alloc HF0.out _) _) (fun k hk => .inl hk), F_niln, ?_⟩ HR.out
      repeat (first | exact Below.refl _ _ | (refine Below.setCell ?_ (by first | omega | (simp; done) | (simp; omega)) _) | (refine Below.alloc ?_ (by first | omega | (simp; done) | (simp; omega)) _))
    · have b255 : (cc == 255) = false := beq_eq_false_iff_ne.2 h255
      have HR := Lib.hid (show (keptF ⟨5, 0, o, l⟩ cc, ([] : List It)) = stepF ⟨5, 0, o, l⟩ cc by rw [step_5, subF, if_neg h255]; exact one_keep_eq _ _ rfl)
      clear h255
      obtain ⟨q, hq⟩ : ∃ q, keptF ⟨5, 0, o, l⟩ cc = q := ⟨_, rfl⟩
      have HRQ := Lib.hid (show (q, []) = stepF _ cc from (congrArg (fun x => (x, ([] : List It))) hq).symm.trans HR.out)
      rw [hq] at HKP
      clear hq HC HIN
      obtain ⟨i1, v1, o1, l1⟩ := q
      go_enter Try.func24, Try.ntmps24
      go_wp2_with fail
      refine (HKP.out).mono ?_
      rintro e w2 ⟨A1, c1, rfl, hle, hF, hb2⟩
      have hk4 := (hb2.block (w.heap.size + 1) (by simp)).trans HK1.out
      obtain ⟨f0, f1, f2, f3, z0, z1, z2, z3⟩ := blk_facts4 hk4
      have HBX := Lib.hid (HBZ.out.trans (hb2.mono HBZ.out.size))
      have hlt4 := blk_lt hk4
      have HP := Lib.hid (StP.imp (StP.fill (w := w) (ok := ok) (xs := []) (B := none) (d := 0) (g := w.heap.size + 1) (by omega) hle (Nat.le_refl _) (Kd.F_mono hF (fun k hk => by rw [HSZ.out] at hk; exact ⟨.inr (by omega), by omega⟩)) F_niln HBX.out (.int .i64 i1) (.int .i64 v1) (.int .i64 o1) (.slice A1 l1.length c1)) HRQ.out)
      dsimp only at *
      clear hk4 hb2 hF HBX HBZ HK1 HKB HSZ HKP HRQ
      go_wp2_with fail
      refine bodyPost_ret (v := .tuple #[.agg #[.int .i64 i1, .int .i64 v1, .int .i64 o1, .slice A1 l1.length c1], .slice none 0 0]) (by simp [results, Try.results24, go_sem, f0, f1, f2, f3]) rfl HP.out
  · skip
    obtain rfl : v = 0 := hm2.2.2 (by decide)
    clear hm2
    by_cases h255 : cc = 255
    · have b255 : (cc == 255) = true := beq_iff_eq.2 h255
      have HR := Lib.hid (show (keptF ⟨6, 0, o, l⟩ cc, ([] : List It)) = stepF ⟨6, 0, o, l⟩ cc by rw [step_6, endF, if_pos h255]; exact one_keep_eq _ _ rfl)
      clear h255
      obtain ⟨q, hq⟩ : ∃ q, keptF ⟨6, 0, o, l⟩ cc = q := ⟨_, rfl⟩
      have HRQ := Lib.hid (show (q, []) = stepF _ cc from (congrArg (fun x => (x, ([] : List It))) hq).symm.trans HR.out)
      rw [hq] at HKP
      clear hq HC HIN
      obtain ⟨i1, v1, o1, l1⟩ := q
      go_enter Try.func24, Try.ntmps24
      go_wp2_with fail
      refine (HKP.out).mono ?_
      rintro e w2 ⟨A1, c1, rfl, hle, hF, hb2⟩
      have hk4 := (hb2.block (w.heap.size + 1) (by simp)).trans HK1.out
      obtain ⟨f0, f1, f2, f3, z0, z1, z2, z3⟩ := blk_facts4 hk4
      have HBX := Lib.hid (HBZ.out.trans (hb2.mono HBZ.out.size))
      have hlt4 := blk_lt hk4
      have HP := Lib.hid (StP.imp (StP.fill (w := w) (ok := ok) (xs := []) (B := none) (d := 0) (g := w.heap.size + 1) (by omega) hle (Nat.le_refl _) (Kd.F_mono hF (fun k hk => by rw [HSZ.out] at hk; exact ⟨.inr (by omega), by omega⟩)) F_niln HBX.out (.int .i64 i1) (.int .i64 v1) (.int .i64 o1) (.slice A1 l1.length c1)) HRQ.out)
      dsimp only at *
      clear hk4 hb2 hF HBX HBZ HK1 HKB HSZ HKP HRQ
      go_wp2_with fail
      refine bodyPost_ret (v := .tuple #[.agg #[.int .i64 i1, .int .i64 v1, .int .i64 o1, .slice A1 l1.length c1], .slice none 0 0]) (by simp [results, Try.results24, go_sem, f0, f1, f2, f3]) rfl HP.out
    · have b255 : (cc == 255) = false := beq_eq_false_iff_ne.2 h255
      by_cases h240 : cc = 240
      · have b240 : (cc == 240) = true := beq_iff_eq.2 h240
        have HR := Lib.hid (show (inR 0, [⟨4, o, 0, l⟩]) = stepF ⟨6, 0, o, l⟩ cc by rw [step_6, endF, if_neg h255, if_pos h240])
        clear h255 h240
        have HI1 := Lib.hid (HIN.out 0)
        clear HKP HIN
        go_enter Try.func24, Try.ntmps24
        go_wp2_with fail
        generalize ((w.alloc (.cells #[.int .i64 6, .int .i64 0, .int .i64 o, .slice A l.length c] 24)).alloc (.cells #[.int .i64 0, .int .i64 0, .int .i64 0, .slice none 0 0] 24)) = wz at *
        have hsz := HSZ.out
        obtain ⟨g0, g1, g2, g3, y0, y1, y2, y3⟩ := blk_facts4 HKB.out
        have hlt := blk_lt HK1.out
        have hlt3 := blk_lt HKB.out
        have HBA := Lib.hid (HBZ.out.drew.alloc HBZ.out.drew.size (.cells #[.int .i64 4, .int .i64 o, .int .i64 0, .slice A l.length c] 35))
        have HKA := Lib.hid (((below_alloc (Below.refl _ wz.drew) (.cells #[.int .i64 4, .int .i64 o, .int .i64 0, .slice A l.length c] 35)).block (w.heap.size + 1) hlt).trans (show wz.drew.heap[w.heap.size + 1]? = _ from HK1.out))
        have HKC := Lib.hid (((below_alloc (Below.refl _ wz.drew) (.cells #[.int .i64 4, .int .i64 o, .int .i64 0, .slice A l.length c] 35)).block w.heap.size hlt3).trans (show wz.drew.heap[w.heap.size]? = _ from HKB.out))
        go_region_held3 (fun wx => wx.cell? ⟨w.heap.size, 2, none⟩ = some (.int .i64 o) ∧ wx.cell? ⟨w.heap.size, 3, none⟩ = some (.slice A l.length c)) (go_keep) (first | (go_at_call 37; refine (HI1.out _).mono ?_; rintro e w2 ⟨rfl, hb2⟩; have hk4 := (hb2.block (w.heap.size + 1) (by first | exact hlt | (simp; omega))).trans (by first | exact HK1.out | exact HKA.out); obtain ⟨f0, f1, f2, f3, z0, z1, z2, z3⟩ := blk_facts4 hk4; have hk5 := (hb2.block w.heap.size (by first | exact hlt3 | (simp; omega))).trans (by first | exact HKB.out | exact HKC.out); obtain ⟨x0, x1, x2, x3, _, _, _, _⟩ := blk_facts4 hk5; have hlt4 := blk_lt hk4; have HS := Lib.hid hb2; clear hk4 hk5 hb2))
        all_goals
          have hb3 : Below w.heap.size w w2 := by first | exact HBZ.out.drew.trans (HS.out.mono HBZ.out.size) | exact HBA.out.trans (HS.out.mono (by simp; omega))
          have HB3 := Lib.hid hb3
          first
            | (have HI := Lib.hid ((HS.out.block wz.heap.size (by simp)).trans (alloc_at wz.drew (.cells #[.int .i64 4, .int .i64 o, .int .i64 0, .slice A l.length c] 35)))
               have HP := Lib.hid (StP.imp (StP.fillB (ok := ok) (r := inR 0) (x := ⟨4, o, 0, l⟩) (A := none) (B := A) (c := 0) (d := c) (g := w.heap.size + 1) (g' := wz.heap.size) (Nat.le_succ _) (by omega) (by omega) HI.out HB3.out (Nat.le_refl _) hc F_nilb (Kd.F_mono (Kd.F_below HF0.out hb3) (fun k hk => ⟨.inl hk, by omega⟩)) (.int .i64 0) (.int .i64 0) (.int .i64 0) (.slice none 0 0)) HR.out)
               clear HBA HK1 HKB HKA HKC HS hb3 HC HF0 HBZ HSZ
               go_wp2_with fail
               refine bodyPost_ret (v := .tuple #[.agg #[.int .i64 0, .int .i64 0, .int .i64 0, .slice none 0 0], .slice (some ⟨wz.heap.size, 0, none⟩) 1 1]) (by simp [results, Try.results24, go_sem, f0, f1, f2, f3]; done) rfl HP.out)
            | (skip
               have HP := Lib.hid (StP.imp (StP.fillA (ok := ok) (r := inR 0) (x := ⟨4, o, 0, l⟩) (A := none) (B := A) (c := 0) (d := c) (g := w.heap.size + 1) (Nat.le_succ _) HB3.out (Nat.le_refl _) hc F_nilb (Kd.F_mono (Kd.F_below HF0.out hb3) (fun k hk => ⟨.inl hk, by omega⟩)) (.int .i64 0) (.int .i64 0) (.int .i64 0) (.slice none 0 0)) HR.out)
               clear HBA HK1 HKB HKA HKC HS hb3 HC HF0 HBZ HSZ
               go_wp2_with fail
               refine bodyPost_ret (v := .tuple #[.agg #[.int .i64 0, .int .i64 0, .int .i64 0, .slice none 0 0], .slice (some ⟨w2.heap.size, 0, none⟩) 1 1]) (by simp [results, Try.results24, go_sem, f0, f1, f2, f3, hlt4, World.cell?_alloc_past]; done) rfl HP.out)
      · have b240 : (cc == 240) = false := beq_eq_false_iff_ne.2 h240
        have HR := Lib.hid (show cmdF cc = stepF ⟨6, 0, o, l⟩ cc by rw [step_6, endF, if_neg h255, if_neg h240])
        clear h255 h240
        obtain ⟨q, hq⟩ : ∃ q, cmdF cc = q := ⟨_, rfl⟩
        have HRQ := Lib.hid (show q = stepF _ cc from hq.symm.trans HR.out)
        have HST := Lib.hid (show ∀ w1, Calls Try.prog 38 #[.int .u8 cc] w1 (StP w1 (fun _ => False) q) from fun w1 => hq ▸ dinCmd_any cc _ w1 ⟨h0, h1⟩)
        clear hq HC HKP HIN
        obtain ⟨⟨i1, v1, o1, l1⟩, xs⟩ := q
        go_enter Try.func24, Try.ntmps24
        go_wp2_with fail
        refine (HST.out _).mono ?_
        rintro e w2 ⟨A1, c1, B1, d1, rfl, hle, hld, hF, hI, hb2⟩
        have hk4 := (hb2.block (w.heap.size + 1) (by simp)).trans HK1.out
        obtain ⟨f0, f1, f2, f3, z0, z1, z2, z3⟩ := blk_facts4 hk4
        have HBX := Lib.hid (HBZ.out.trans (hb2.mono HBZ.out.size))
        have hlt4 := blk_lt hk4
        have HP := Lib.hid (StP.imp (StP.fill (w := w) (ok := ok) (g := w.heap.size + 1) (by omega) hle hld (Kd.F_mono hF (fun k hk => okz HSZ.out hk)) (Kd.F_mono hI (fun k hk => okz HSZ.out hk)) HBX.out (.int .i64 i1) (.int .i64 v1) (.int .i64 o1) (.slice A1 l1.length c1)) HRQ.out)
        dsimp only at *
        clear hk4 hb2 hF hI HBX HBZ HK1 HKB HSZ HST HRQ
        go_wp2_with fail
        refine bodyPost_ret (v := .tuple #[.agg #[.int .i64 i1, .int .i64 v1, .int .i64 o1, .slice A1 l1.length c1], .slice B1 xs.length d1]) (by simp [results, Try.results24, go_sem, f0, f1, f2, f3]) rfl HP.out
  · skip
    obtain rfl : v = 0 := hm2.2.2 (by decide)
    obtain ⟨hl0, rfl⟩ : l.length = 0 ∧ o = 0 := hm2.1.2.2.2.1.resolve_left (by decide)
    have hln := List.eq_nil_of_length_eq_zero hl0
    clear hm2 hl0
    by_cases h255 : cc = 255
    · have b255 : (cc == 255) = true := beq_iff_eq.2 h255
      have HR := Lib.hid (show (inR 8, []) = stepF ⟨7, 0, 0, l⟩ cc by rw [step_7, skipF, if_pos h255])
      clear h255 hln
      have HI1 := Lib.hid (HIN.out 8)
      clear HC HKP HIN
      go_enter Try.func24, Try.ntmps24
      go_wp2_with fail
      refine (HI1.out _).mono ?_
      rintro e w2 ⟨rfl, hb2⟩
      have hk4 := (hb2.block (w.heap.size + 1) (by simp)).trans HK1.out
      obtain ⟨f0, f1, f2, f3, z0, z1, z2, z3⟩ := blk_facts4 hk4
      have HBX := Lib.hid (HBZ.out.trans (hb2.mono HBZ.out.size))
      have hlt4 := blk_lt hk4
      have HP := Lib.hid (StP.imp (StP.fill (w := w) (ok := ok) (r := inR 8) (xs := []) (A := none) (B := none) (c := 0) (d := 0) (g := w.heap.size + 1) (by omega) (Nat.le_refl _) (Nat.le_refl _) F_nilb F_niln HBX.out (.int .i64 8) (.int .i64 0) (.int .i64 0) (.slice none 0 0)) HR.out)
      clear hk4 hb2 HBX HBZ HK1 HKB HSZ HI1
      go_wp2_with fail
      refine bodyPost_ret (v := .tuple #[.agg #[.int .i64 8, .int .i64 0, .int .i64 0, .slice none 0 0], .slice none 0 0]) (by simp [results, Try.results24, go_sem, f0, f1, f2, f3]) rfl HP.out
    · have b255 : (cc == 255) = false := beq_eq_false_iff_ne.2 h255
      have HR := Lib.hid (show (inR 7, []) = stepF ⟨7, 0, 0, l⟩ cc by rw [step_7, skipF, if_neg h255, hln]; rfl)
      clear h255 hln
      have HI1 := Lib.hid (HIN.out 7)
      clear HC HKP HIN
      go_enter Try.func24, Try.ntmps24
      go_wp2_with fail
      refine (HI1.out _).mono ?_
      rintro e w2 ⟨rfl, hb2⟩
      have hk4 := (hb2.block (w.heap.size + 1) (by simp)).trans HK1.out
      obtain ⟨f0, f1, f2, f3, z0, z1, z2, z3⟩ := blk_facts4 hk4
      have HBX := Lib.hid (HBZ.out.trans (hb2.mono HBZ.out.size))
      have hlt4 := blk_lt hk4
      have HP := Lib.hid (StP.imp (StP.fill (w := w) (ok := ok) (r := inR 7) (xs := []) (A := none) (B := none) (c := 0) (d := 0) (g := w.heap.size + 1) (by omega) (Nat.le_refl _) (Nat.le_refl _) F_nilb F_niln HBX.out (.int .i64 7) (.int .i64 0) (.int .i64 0) (.slice none 0 0)) HR.out)
      clear hk4 hb2 HBX HBZ HK1 HKB HSZ HI1
      go_wp2_with fail
      refine bodyPost_ret (v := .tuple #[.agg #[.int .i64 7, .int .i64 0, .int .i64 0, .slice none 0 0], .slice none 0 0]) (by simp [results, Try.results24, go_sem, f0, f1, f2, f3]) rfl HP.out
  · clear hm2
    by_cases h255 : cc = 255
    · have b255 : (cc == 255) = true := beq_iff_eq.2 h255
      have HR := Lib.hid (show (inR 7, []) = stepF ⟨8, v, o, l⟩ cc by rw [step_8, skeF, if_pos h255])
      clear h255
      have HI1 := Lib.hid (HIN.out 7)
      clear HC HKP HIN
      go_enter Try.func24, Try.ntmps24
      go_wp2_with fail
      refine (HI1.out _).mono ?_
      rintro e w2 ⟨rfl, hb2⟩
      have hk4 := (hb2.block (w.heap.size + 1) (by simp)).trans HK1.out
      obtain ⟨f0, f1, f2, f3, z0, z1, z2, z3⟩ := blk_facts4 hk4
      have HBX := Lib.hid (HBZ.out.trans (hb2.mono HBZ.out.size))
      have hlt4 := blk_lt hk4
      have HP := Lib.hid (StP.imp (StP.fill (w := w) (ok := ok) (r := inR 7) (xs := []) (A := none) (B := none) (c := 0) (d := 0) (g := w.heap.size + 1) (by omega) (Nat.le_refl _) (Nat.le_refl _) F_nilb F_niln HBX.out (.int .i64 7) (.int .i64 0) (.int .i64 0) (.slice none 0 0)) HR.out)
      clear hk4 hb2 HBX HBZ HK1 HKB HSZ HI1
      go_wp2_with fail
      refine bodyPost_ret (v := .tuple #[.agg #[.int .i64 7, .int .i64 0, .int .i64 0, .slice none 0 0], .slice none 0 0]) (by simp [results, Try.results24, go_sem, f0, f1, f2, f3]) rfl HP.out
    · have b255 : (cc == 255) = false := beq_eq_false_iff_ne.2 h255
      by_cases h240 : cc = 240
      · have b240 : (cc == 240) = true := beq_iff_eq.2 h240
        have HR := Lib.hid (show (inR 0, []) = stepF ⟨8, v, o, l⟩ cc by rw [step_8, skeF, if_neg h255, if_pos h240])
        clear h255 h240
        have HI1 := Lib.hid (HIN.out 0)
        clear HC HKP HIN
        go_enter Try.func24, Try.ntmps24
        go_wp2_with fail
        refine (HI1.out _).mono ?_
        rintro e w2 ⟨rfl, hb2⟩
        have hk4 := (hb2.block (w.heap.size + 1) (by simp)).trans HK1.out
        obtain ⟨f0, f1, f2, f3, z0, z1, z2, z3⟩ := blk_facts4 hk4
        have HBX := Lib.hid (HBZ.out.trans (hb2.mono HBZ.out.size))
        have hlt4 := blk_lt hk4
        have HP := Lib.hid (StP.imp (StP.fill (w := w) (ok := ok) (r := inR 0) (xs := []) (A := none) (B := none) (c := 0) (d := 0) (g := w.heap.size + 1) (by omega) (Nat.le_refl _) (Nat.le_refl _) F_nilb F_niln HBX.out (.int .i64 0) (.int .i64 0) (.int .i64 0) (.slice none 0 0)) HR.out)
        clear hk4 hb2 HBX HBZ HK1 HKB HSZ HI1
        go_wp2_with fail
        refine bodyPost_ret (v := .tuple #[.agg #[.int .i64 0, .int .i64 0, .int .i64 0, .slice none 0 0], .slice none 0 0]) (by simp [results, Try.results24, go_sem, f0, f1, f2, f3]) rfl HP.out
      · have b240 : (cc == 240) = false := beq_eq_false_iff_ne.2 h240
        have HR := Lib.hid (show cmdF cc = stepF ⟨8, v, o, l⟩ cc by rw [step_8, skeF, if_neg h255, if_neg h240])
        clear h255 h240
        obtain ⟨q, hq⟩ : ∃ q, cmdF cc = q := ⟨_, rfl⟩
        have HRQ := Lib.hid (show q = stepF _ cc from hq.symm.trans HR.out)
        have HST := Lib.hid (show ∀ w1, Calls Try.prog 38 #[.int .u8 cc] w1 (StP w1 (fun _ => False) q) from fun w1 => hq ▸ dinCmd_any cc _ w1 ⟨h0, h1⟩)
        clear hq HC HKP HIN
        obtain ⟨⟨i1, v1, o1, l1⟩, xs⟩ := q
        go_enter Try.func24, Try.ntmps24
        go_wp2_with fail
        refine (HST.out _).mono ?_
        rintro e w2 ⟨A1, c1, B1, d1, rfl, hle, hld, hF, hI, hb2⟩
        have hk4 := (hb2.block (w.heap.size + 1) (by simp)).trans HK1.out
        obtain ⟨f0, f1, f2, f3, z0, z1, z2, z3⟩ := blk_facts4 hk4
        have HBX := Lib.hid (HBZ.out.trans (hb2.mono HBZ.out.size))
        have hlt4 := blk_lt hk4
        have HP := Lib.hid (StP.imp (StP.fill (w := w) (ok := ok) (g := w.heap.size + 1) (by omega) hle hld (Kd.F_mono hF (fun k hk => okz HSZ.out hk)) (Kd.F_mono hI (fun k hk => okz HSZ.out hk)) HBX.out (.int .i64 i1) (.int .i64 v1) (.int .i64 o1) (.slice A1 l1.length c1)) HRQ.out)
        dsimp only at *
        clear hk4 hb2 hF hI HBX HBZ HK1 HKB HSZ HST HRQ
        go_wp2_with fail
        refine bodyPost_ret (v := .tuple #[.agg #[.int .i64 i1, .int .i64 v1, .int .i64 o1, .slice A1 l1.length c1], .slice B1 xs.length d1]) (by simp [results, Try.results24, go_sem, f0, f1, f2, f3]) rfl HP.out
end Go.Proofs.Ytkbblbgiheclfaa
