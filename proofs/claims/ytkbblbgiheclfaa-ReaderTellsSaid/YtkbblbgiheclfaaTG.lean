/- The law ReaderTells. -/
import Derived.Test.YtkbblbgiheclfaaTF
import Derived.Test.YtkbblbgiheclfaaLK
namespace Go.Proofs.Ytkbblbgiheclfaa
open Go.RowKit Go.Proofs.YtkbblbgiheclfaaW.PrintWords

/-- Behind the first statement: both readers cut. -/
def CutR (w : World) (r o : Rd) (A A2 : Option Addr) (c c2 : Nat) (wx : World) : Prop := wx.heap[w.heap.size]? = some (.cells #[.int .i64 r.i, .int .i64 r.v, .int .i64 r.o, .slice A r.l.length c] 24 (0, 0)) ∧
  wx.heap[w.heap.size + 1]? = some (.cells #[.int .i64 o.i, .int .i64 o.v, .int .i64 o.o, .slice A2 o.l.length c2] 24 (0, 0)) ∧ Below w.heap.size w wx
theorem CutR.mk {w wz w3 : World} {r o : Rd} {A A2 : Option Addr} {c c2 : Nat} {a0 a1 a2 a3 b0 b1 b2 b3 : Value} (hk : wz.heap[w.heap.size]? = some (.cells #[a0, a1, a2, a3] 24 (0, 0))) (hk1 : wz.heap[w.heap.size + 1]? = some (.cells #[b0, b1, b2, b3] 24 (0, 0))) (hb : Below w.heap.size w wz) (h3 : Below wz.heap.size wz w3) :
    CutR w r o A A2 c c2 ((((((((w3.setCell ⟨w.heap.size, 0, none⟩ (.int .i64 r.i)).setCell ⟨w.heap.size, 1, none⟩ (.int .i64 r.v)).setCell ⟨w.heap.size, 2, none⟩ (.int .i64 r.o)).setCell ⟨w.heap.size, 3, none⟩ (.slice A r.l.length c)).setCell ⟨w.heap.size + 1, 0, none⟩ (.int .i64 o.i)).setCell ⟨w.heap.size + 1, 1, none⟩ (.int .i64 o.v)).setCell ⟨w.heap.size + 1, 2, none⟩ (.int .i64 o.o)).setCell ⟨w.heap.size + 1, 3, none⟩ (.slice A2 o.l.length c2)) := by
  have g0 := (h3.block w.heap.size (blk_lt hk)).trans hk
  have g1 := (h3.block (w.heap.size + 1) (blk_lt hk1)).trans hk1
  have e0 := blk_fourR g0 (.int .i64 r.i) (.int .i64 r.v) (.int .i64 r.o) (.slice A r.l.length c)
  have e1 := (blk_four_far (w := w3) (g := w.heap.size) (k := w.heap.size + 1) (by omega) (.int .i64 r.i) (.int .i64 r.v) (.int .i64 r.o) (.slice A r.l.length c)).trans g1
  have hbb := below_four (hb.trans (h3.mono hb.size)) (Nat.le_refl _) (.int .i64 r.i) (.int .i64 r.v) (.int .i64 r.o) (.slice A r.l.length c)
  generalize (((w3.setCell ⟨w.heap.size, 0, none⟩ (.int .i64 r.i)).setCell ⟨w.heap.size, 1, none⟩ (.int .i64 r.v)).setCell ⟨w.heap.size, 2, none⟩ (.int .i64 r.o)).setCell ⟨w.heap.size, 3, none⟩ (.slice A r.l.length c) = w4 at *
  exact ⟨(blk_four_far (by omega) _ _ _ _).trans e0, blk_fourR e1 _ _ _ _, below_four hbb (Nat.le_succ _) _ _ _ _⟩

set_option maxHeartbeats 8000000 in
set_option maxRecDepth 100000 in
theorem tells_law (r0 o0 : Rd) (A A2 Bo : Option Addr) (c c2 d : Nat) (b0 : List Int) (w : World) (hC0 : kB.C w A r0.l.length r0.l) (hc0 : r0.l.length ≤ c) (ho0 : Oct r0.l) (hC2 : kB.C w A2 o0.l.length o0.l) (hc2 : o0.l.length ≤ c2) (ho2 : Oct o0.l) (hB0 : kB.C w Bo b0.length b0) (hd0 : b0.length ≤ d) (hob0 : Oct b0) :
    Calls Try.prog 4 #[.agg #[.int .i64 r0.i, .int .i64 r0.v, .int .i64 r0.o, .slice A r0.l.length c], .agg #[.int .i64 o0.i, .int .i64 o0.v, .int .i64 o0.o, .slice A2 o0.l.length c2], .slice Bo b0.length d] w (AwakeP w) := by
  have HON1 := Lib.hid (fun w' => ronecut_any r0 A c w' hc0 hC0.2.1)
  have HON2 := Lib.hid (fun w' => ronecut_any o0 A2 c2 w' hc2 hC2.2.1)
  have HFEW := Lib.hid (fun w' => bfew_any Bo d b0 w' hd0 hB0.2.1)
  have HC := Lib.hid (take_B hC0 600)
  have HC2 := Lib.hid (take_B hC2 600)
  have HO := Lib.hid (ho0.take 600)
  have HO2 := Lib.hid (ho2.take 600)
  have hcc : (r0.l.take 600).length ≤ c := by rw [List.length_take]; omega
  have HB := Lib.hid (take_B hB0 200)
  have HOB := Lib.hid (hob0.take 200)
  have hbl : (b0.take 200).length ≤ 200 := by rw [List.length_take]; omega
  clear hC0 hc0 ho0 hB0 hd0 hob0 hC2 hc2 ho2
  generalize b0.length = nb at *
  generalize b0.take 200 = b at *
  obtain ⟨i, v, o, l0⟩ := r0
  obtain ⟨i', v', o', l2⟩ := o0
  dsimp only at *
  generalize l0.length = n0 at *
  generalize l0.take 600 = l at *
  generalize l2.length = n2 at *
  generalize l2.take 600 = l' at *
  go_enter Try.func4, Try.ntmps4
  go_upto_region 1 with fail
  have hsz : (w.alloc (.cells #[.int .i64 i, .int .i64 v, .int .i64 o, .slice A n0 c] 24)).heap.size = w.heap.size + 1 := by simp
  have hk1 := alloc_at (w.alloc (.cells #[.int .i64 i, .int .i64 v, .int .i64 o, .slice A n0 c] 24)) (.cells #[.int .i64 i', .int .i64 v', .int .i64 o', .slice A2 n2 c2] 24)
  rw [hsz] at hk1
  have hk0 := ((below_alloc (Below.refl _ (w.alloc (.cells #[.int .i64 i, .int .i64 v, .int .i64 o, .slice A n0 c] 24))) (.cells #[.int .i64 i', .int .i64 v', .int .i64 o', .slice A2 n2 c2] 24)).block w.heap.size (by simp)).trans (alloc_at w (.cells #[.int .i64 i, .int .i64 v, .int .i64 o, .slice A n0 c] 24))
  have hbz := (below_alloc (Below.refl _ w) (.cells #[.int .i64 i, .int .i64 v, .int .i64 o, .slice A n0 c] 24)).trans ((below_alloc (Below.refl _ (w.alloc (.cells #[.int .i64 i, .int .i64 v, .int .i64 o, .slice A n0 c] 24))) (.cells #[.int .i64 i', .int .i64 v', .int .i64 o', .slice A2 n2 c2] 24)).mono (by simp))
  generalize (w.alloc (.cells #[.int .i64 i, .int .i64 v, .int .i64 o, .slice A n0 c] 24)).alloc (.cells #[.int .i64 i', .int .i64 v', .int .i64 o', .slice A2 n2 c2] 24) = wz at *
  obtain ⟨f0, f1, f2, f3, z0, z1, z2, z3⟩ := blk_facts4 hk0
  obtain ⟨g0, g1, g2, g3, y0, y1, y2, y3⟩ := blk_facts4 hk1
  have hlt0 := blk_lt hk0
  have hlt1 := blk_lt hk1
  have HK0 := Lib.hid hk0
  have HK1 := Lib.hid hk1
  have HBZ := Lib.hid hbz
  clear hk0 hk1 hbz hsz
  go_cut [2] (fun s2 wx => s2 = .slice Bo b.length d ∧ CutR w ⟨i, v, o, l⟩ ⟨i', v', o', l'⟩ A A2 c c2 wx)
  case first =>
    clear HC HC2 HO HO2 HB HOB hbl hcc
    go_region_with (first
      | (go_at_call 6; ((with_reducible refine (HON1.out _).mono ?_); rintro e w1 ⟨rfl, hb1⟩); have hb1' : Below wz.heap.size wz w1 := (below_drew (Below.refl _ wz)).trans hb1; have hp1 := (hb1'.block (w.heap.size + 1) hlt1).trans HK1.out; have hp0 := (hb1'.block w.heap.size hlt0).trans HK0.out; obtain ⟨p0, p1, p2, p3, q0, q1, q2, q3⟩ := blk_facts4 hp0; obtain ⟨s0, s1, s2, s3, t0, t1, t2, t3⟩ := blk_facts4 hp1; have hl0 := blk_lt hp0; have hl1 := blk_lt hp1; have HP0 := Lib.hid hp0; have HP1 := Lib.hid hp1; have HB1 := Lib.hid hb1'; clear hb1 hb1' hp0 hp1)
      | (go_at_call 6; ((with_reducible refine (HON2.out _).mono ?_); rintro e w2 ⟨rfl, hb2⟩); have hp1 := (hb2.block (w.heap.size + 1) hl1).trans HP1.out; have hp0 := (hb2.block w.heap.size hl0).trans HP0.out; obtain ⟨a0, a1, a2, a3, b0, b1, b2, b3⟩ := blk_facts4 hp0; obtain ⟨d0, d1, d2, d3, e0, e1, e2, e3⟩ := blk_facts4 hp1; have HB2 := Lib.hid (HB1.out.trans (hb2.mono HB1.out.size)); have hl3 := blk_lt hp0; have hl4 := blk_lt hp1; clear hb2 hp0 hp1)
      | (go_at_call 7; ((with_reducible refine (HFEW.out _).mono ?_); rintro e w3 ⟨rfl, rfl⟩)))
    all_goals
      go_wp2_with fail
      go_meet
      exact ⟨rfl, CutR.mk (r := ⟨i, v, o, l⟩) (o := ⟨i', v', o', l'⟩) HK0.out HK1.out HBZ.out HB2.out⟩
  case rest =>
    obtain ⟨rfl, hk0, hk1, hbw⟩ := hcut
    clear HK0 HK1 HBZ f0 f1 f2 f3 z0 z1 z2 z3 g0 g1 g2 g3 y0 y1 y2 y3 hlt0 hlt1 HON1 HON2 HFEW
    dsimp only at hk0 hk1
    have HK0 := Lib.hid hk0
    have HK1 := Lib.hid hk1
    have HBW := Lib.hid hbw
    have HCK := Lib.hid (fun w' => rcheck_any ⟨i, v, o, l⟩ A c w')
    have HMY := Lib.hid (fun w' => rmay_any ⟨i, v, o, l⟩ A c w')
    have HRS := Lib.hid (fun w' h1 h2 => rsame_any ⟨i, v, o, l⟩ ⟨i', v', o', l'⟩ A A2 c c2 w' h1 h2 HO.out HO2.out)
    have HDS := Lib.hid (fun w' h1 h2 => dsame_any ⟨i, v, o, l⟩ ⟨i', v', o', l'⟩ A A2 c c2 w' h1 h2 HO.out HO2.out)
    obtain ⟨bb, hbb⟩ : ∃ bb, decide ((⟨i, v, o, l⟩ : Rd) = ⟨i', v', o', l'⟩) = bb := ⟨_, rfl⟩
    rw [hbb] at HRS HDS
    clear hbb
    obtain ⟨f0, f1, f2, f3, z0, z1, z2, z3⟩ := blk_facts4 hk0
    obtain ⟨g0, g1, g2, g3, y0, y1, y2, y3⟩ := blk_facts4 hk1
    have hlt0 := blk_lt hk0
    have hlt1 := blk_lt hk1
    have HME := Lib.hid (show errR ⟨i, v, o, l⟩ = if mayR ⟨i, v, o, l⟩ = true then 0 else 1 from rfl)
    clear hk0 hk1 hbw
    by_cases hm : mayR ⟨i, v, o, l⟩ = true
    · have HM := Lib.hid hm
      have her : errR ⟨i, v, o, l⟩ = 0 := by rw [HME.out, if_pos hm]
      rw [her] at HCK
      rw [hm] at HMY
      clear her hm HME
      have HFD := Lib.hid (feed_yes ⟨i, v, o, l⟩ A Bo c d b wc (Kd.C_below HC.out (HBW.out)) hcc HM.out (Kd.C_below HB.out HBW.out) (by omega) HOB.out)
      have HG := Lib.hid (good_feed b ⟨i, v, o, l⟩ HM.out HO.out HOB.out)
      have HDF := Lib.hid (fun wq (hb : Below w.heap.size w wq) => dfeed_any ⟨i, v, o, l⟩ A Bo c d b wq (Kd.C_below HC.out hb) hcc HM.out (Kd.C_below HB.out hb) (by omega) HOB.out)
      go_wp2_with fail
      refine (HFD.out).mono ?_
      rintro e w4 ⟨A4, c4, B4, d4, rfl, hle4, hle5, hF4, hI4, hb4⟩
      generalize feedF ⟨i, v, o, l⟩ b = fr at *
      obtain ⟨⟨i4, v4, o4, l4⟩, xs⟩ := fr
      dsimp only at *
      have HF4 := Lib.hid hF4
      have HI4 := Lib.hid hI4
      have HK04 := Lib.hid ((hb4.block w.heap.size hlt0).trans HK0.out)
      have HK14 := Lib.hid ((hb4.block (w.heap.size + 1) hlt1).trans HK1.out)
      have HBW4 := Lib.hid (HBW.out.trans (hb4.mono HBW.out.size))
      clear hF4 hI4 hb4 HFD HK0 HK1 HBW f0 f1 f2 f3 z0 z1 z2 z3 g0 g1 g2 g3 y0 y1 y2 y3
      go_upto_region 3 with fail
      have hal := below_alloc (Below.refl _ w4) (.cells #[.int .i64 i4, .int .i64 v4, .int .i64 o4, .slice A4 l4.length c4] 24)
      have HAL := Lib.hid hal
      have HBQ := Lib.hid (HBW4.out.trans (hal.mono HBW4.out.size))
      have HKN := Lib.hid (alloc_at w4 (.cells #[.int .i64 i4, .int .i64 v4, .int .i64 o4, .slice A4 l4.length c4] 24))
      have hq0 := (hal.block w.heap.size (blk_lt HK04.out)).trans HK04.out
      have hq1 := (hal.block (w.heap.size + 1) (blk_lt HK14.out)).trans HK14.out
      generalize w4.alloc (.cells #[.int .i64 i4, .int .i64 v4, .int .i64 o4, .slice A4 l4.length c4] 24) = wq at *
      have HP0 := Lib.hid (show wq.drew.heap[w.heap.size]? = _ from hq0)
      have HP1 := Lib.hid (show wq.drew.heap[w.heap.size + 1]? = _ from hq1)
      have HBB := Lib.hid (show Below wq.heap.size wq wq.drew from below_drew (Below.refl _ wq))
      have hl0 : w.heap.size < wq.drew.heap.size := blk_lt hq0
      have hl1 : w.heap.size + 1 < wq.drew.heap.size := blk_lt hq1
      have HQ0 := Lib.hid hq0
      have HQ1 := Lib.hid hq1
      have hCA := fun wp (hb : Below wq.heap.size wq wp) => Kd.C_below HC.out (HBQ.out.trans (hb.mono HBQ.out.size))
      have hCA2 := fun wp (hb : Below wq.heap.size wq wp) => Kd.C_below HC2.out (HBQ.out.trans (hb.mono HBQ.out.size))
      have HCA := Lib.hid hCA
      have HCA2 := Lib.hid hCA2
      obtain ⟨f0, f1, f2, f3, z0, z1, z2, z3⟩ := blk_facts4 hq0
      obtain ⟨g0, g1, g2, g3, y0, y1, y2, y3⟩ := blk_facts4 hq1
      clear hal hq0 hq1 HK04 HK14 hCA hCA2
      go_cut [39] (fun s39 wx => s39 = .bool false ∧ Below wq.heap.size wq wx)
      case first =>
        go_region_held3 (fun wx => (wx.cell? ⟨w.heap.size, 0, none⟩ = some (.int .i64 i) ∧ wx.cell? ⟨w.heap.size, 1, none⟩ = some (.int .i64 v) ∧ wx.cell? ⟨w.heap.size, 2, none⟩ = some (.int .i64 o) ∧ wx.cell? ⟨w.heap.size, 3, none⟩ = some (.slice A l.length c)) ∧ wx.cell? ⟨w.heap.size + 1, 0, none⟩ = some (.int .i64 i') ∧ wx.cell? ⟨w.heap.size + 1, 1, none⟩ = some (.int .i64 v') ∧ wx.cell? ⟨w.heap.size + 1, 2, none⟩ = some (.int .i64 o') ∧ wx.cell? ⟨w.heap.size + 1, 3, none⟩ = some (.slice A2 l'.length c2)) (go_keep) (first
          | (go_at_call 8; ((with_reducible refine (HCK.out _).mono ?_); rintro e wn ⟨rfl, hbn⟩); have hp1 := (hbn.block (w.heap.size + 1) hl1).trans HP1.out; have hp0 := (hbn.block w.heap.size hl0).trans HP0.out; clear f0 f1 f2 f3 z0 z1 z2 z3 g0 g1 g2 g3 y0 y1 y2 y3; obtain ⟨f0, f1, f2, f3, z0, z1, z2, z3⟩ := blk_facts4 hp0; obtain ⟨g0, g1, g2, g3, y0, y1, y2, y3⟩ := blk_facts4 hp1; have hbn2 := HBB.out.trans (hbn.mono HBB.out.size); clear HP0 HP1 HBB hl0 hl1; have hl0 := blk_lt hp0; have hl1 := blk_lt hp1; have HP0 := Lib.hid hp0; have HP1 := Lib.hid hp1; have HBB := Lib.hid hbn2; clear hbn hbn2 hp0 hp1)
          | (go_at_call 12; ((with_reducible refine (HMY.out _).mono ?_); rintro e wn ⟨rfl, hbn⟩); have hp1 := (hbn.block (w.heap.size + 1) hl1).trans HP1.out; have hp0 := (hbn.block w.heap.size hl0).trans HP0.out; clear f0 f1 f2 f3 z0 z1 z2 z3 g0 g1 g2 g3 y0 y1 y2 y3; obtain ⟨f0, f1, f2, f3, z0, z1, z2, z3⟩ := blk_facts4 hp0; obtain ⟨g0, g1, g2, g3, y0, y1, y2, y3⟩ := blk_facts4 hp1; have hbn2 := HBB.out.trans (hbn.mono HBB.out.size); clear HP0 HP1 HBB hl0 hl1; have hl0 := blk_lt hp0; have hl1 := blk_lt hp1; have HP0 := Lib.hid hp0; have HP1 := Lib.hid hp1; have HBB := Lib.hid hbn2; clear hbn hbn2 hp0 hp1)
          | (go_at_call 13; ((with_reducible refine (HRS.out _ (HCA.out _ HBB.out) (HCA2.out _ HBB.out)).mono ?_); rintro e wn ⟨rfl, hbn⟩); have hp1 := (hbn.block (w.heap.size + 1) hl1).trans HP1.out; have hp0 := (hbn.block w.heap.size hl0).trans HP0.out; clear f0 f1 f2 f3 z0 z1 z2 z3 g0 g1 g2 g3 y0 y1 y2 y3; obtain ⟨f0, f1, f2, f3, z0, z1, z2, z3⟩ := blk_facts4 hp0; obtain ⟨g0, g1, g2, g3, y0, y1, y2, y3⟩ := blk_facts4 hp1; have hbn2 := HBB.out.trans (hbn.mono HBB.out.size); clear HP0 HP1 HBB hl0 hl1; have hl0 := blk_lt hp0; have hl1 := blk_lt hp1; have HP0 := Lib.hid hp0; have HP1 := Lib.hid hp1; have HBB := Lib.hid hbn2; clear hbn hbn2 hp0 hp1)
          | (go_at_call 14; ((with_reducible refine (HDS.out _ (HCA.out _ HBB.out) (HCA2.out _ HBB.out)).mono ?_); rintro e wn ⟨rfl, hbn⟩); have hp1 := (hbn.block (w.heap.size + 1) hl1).trans HP1.out; have hp0 := (hbn.block w.heap.size hl0).trans HP0.out; clear f0 f1 f2 f3 z0 z1 z2 z3 g0 g1 g2 g3 y0 y1 y2 y3; obtain ⟨f0, f1, f2, f3, z0, z1, z2, z3⟩ := blk_facts4 hp0; obtain ⟨g0, g1, g2, g3, y0, y1, y2, y3⟩ := blk_facts4 hp1; have hbn2 := HBB.out.trans (hbn.mono HBB.out.size); clear HP0 HP1 HBB hl0 hl1; have hl0 := blk_lt hp0; have hl1 := blk_lt hp1; have HP0 := Lib.hid hp0; have HP1 := Lib.hid hp1; have HBB := Lib.hid hbn2; clear hbn hbn2 hp0 hp1))
        all_goals
          go_wp2_with fail
          go_meet
          exact ⟨rfl, HBB.out⟩
      case rest =>
        obtain ⟨rfl, hbx⟩ := hcut
        clear f0 f1 f2 f3 z0 z1 z2 z3 g0 g1 g2 g3 y0 y1 y2 y3
        have HBX := Lib.hid hbx
        have hq0 := (hbx.block w.heap.size (blk_lt HQ0.out)).trans HQ0.out
        obtain ⟨f0, f1, f2, f3, z0, z1, z2, z3⟩ := blk_facts4 hq0
        have hlt0 := blk_lt hq0
        have HQX := Lib.hid hq0
        clear hbx hq0 HP0 HP1 HBB hl0 hl1 HQ0 HQ1 HCA HCA2 HRS HDS HCK
        go_wp2_with fail
        refine (HMY.out _).mono ?_
        rintro e w5 ⟨rfl, hb5⟩
        have hq5 := (hb5.block w.heap.size hlt0).trans HQX.out
        clear f0 f1 f2 f3 z0 z1 z2 z3 hlt0
        obtain ⟨f0, f1, f2, f3, z0, z1, z2, z3⟩ := blk_facts4 hq5
        have HB5 := Lib.hid (HBX.out.trans (hb5.mono HBX.out.size))
        have hlt0 := blk_lt hq5
        clear hb5 hq5 HBX HQX HMY
        go_wp2_with fail
        refine (HDF.out _ (HBQ.out.trans (HB5.out.mono HBQ.out.size))).mono ?_
        rintro e w6 ⟨A6, c6, B6, d6, rfl, hle6, hld6, hC6, hI6, hb6⟩
        dsimp only at hle6 hld6 hC6 hI6
        have HB6 := Lib.hid (HB5.out.trans (hb6.mono HB5.out.size))
        have hal := below_alloc (Below.refl _ w6) (.cells #[.int .i64 i4, .int .i64 v4, .int .i64 o4, .slice A6 l4.length c6] 24)
        have HB7 := Lib.hid (HB6.out.trans (hal.mono HB6.out.size))
        have hk7 := (HB7.out.block w4.heap.size (blk_lt HKN.out)).trans HKN.out
        have hk10 := alloc_at w6 (.cells #[.int .i64 i4, .int .i64 v4, .int .i64 o4, .slice A6 l4.length c6] 24)
        have HC6 := Lib.hid (Kd.C_below hC6 hal)
        have HI6 := Lib.hid (Kd.C_below hI6 hal)
        have HAF := Lib.hid (Kd.F_now (Kd.F_below (Kd.F_below HF4.out HAL.out) HB7.out))
        have HAI := Lib.hid (Kd.F_now (Kd.F_below (Kd.F_below HI4.out HAL.out) HB7.out))
        clear hb6 hal hC6 hI6 HB5 HB6 HKN HF4 HI4 HAL HDF f0 f1 f2 f3 z0 z1 z2 z3 hlt0
        have hlen7 := blk_lt hk7
        have hlen10 := blk_lt hk10
        have HB8 := Lib.hid (HBQ.out.trans (HB7.out.mono HBQ.out.size))
        have HDS := Lib.hid (dsame_any ⟨i4, v4, o4, l4⟩ ⟨i4, v4, o4, l4⟩ A4 A6 c4 c6 _ HAF.out HC6.out HG.out.1 HG.out.1)
        rw [decide_eq_true rfl] at HDS
        obtain ⟨f0, f1, f2, f3, z0, z1, z2, z3⟩ := blk_facts4 hk7
        obtain ⟨g0, g1, g2, g3, y0, y1, y2, y3⟩ := blk_facts4 hk10
        clear hk7 hk10
        go_wp2_with fail
        refine (HDS.out).mono ?_
        rintro e w8 ⟨rfl, hb8⟩
        have HIS := Lib.hid (rsames_any B4 B6 d4 d6 xs xs w8 (Kd.C_below HAI.out hb8) (Kd.C_below HI6.out hb8) HG.out.2.1 HG.out.2.1)
        rw [decide_eq_true rfl] at HIS
        have HB9 := Lib.hid (HB8.out.trans (hb8.mono HB8.out.size))
        clear hb8 HDS HAI HI6 HB8 HB7 HAF HC6 HBQ f0 f1 f2 f3 z0 z1 z2 z3 g0 g1 g2 g3 y0 y1 y2 y3
        go_wp2_with fail
        refine (HIS.out).mono ?_
        rintro e w9 ⟨rfl, hb9⟩
        have HB10 := Lib.hid (HB9.out.trans (hb9.mono HB9.out.size))
        clear hb9 HIS HB9
        go_wp2_with (go_at_call 9; refine (awake_any _).mono ?_; rintro e w' ⟨rfl, hb⟩)
        go_ret
        exact ⟨rfl, HB10.out.trans (hb.mono HB10.out.size)⟩
    · have hmf : mayR ⟨i, v, o, l⟩ = false := by simpa using hm
      have HM := Lib.hid hmf
      have her : errR ⟨i, v, o, l⟩ = 1 := by rw [HME.out, if_neg hm]
      rw [her] at HCK
      rw [hmf] at HMY
      clear her hm hmf HME
      have HFD := Lib.hid (feed_no ⟨i, v, o, l⟩ A Bo c d b.length wc HM.out)
      dsimp only at HFD
      clear HB HOB
      go_wp2_with fail
      refine (HFD.out).mono ?_
      rintro e w4 ⟨rfl, hb4⟩
      have HK04 := Lib.hid ((hb4.block w.heap.size hlt0).trans HK0.out)
      have HK14 := Lib.hid ((hb4.block (w.heap.size + 1) hlt1).trans HK1.out)
      have HBW4 := Lib.hid (HBW.out.trans (hb4.mono HBW.out.size))
      clear hb4 HFD HK0 HK1 HBW f0 f1 f2 f3 z0 z1 z2 z3 g0 g1 g2 g3 y0 y1 y2 y3
      go_upto_region 3 with fail
      have hal := below_alloc (Below.refl _ w4) (.cells #[.int .i64 i, .int .i64 v, .int .i64 o, .slice A l.length c] 24)
      have HAL := Lib.hid hal
      have HBQ := Lib.hid (HBW4.out.trans (hal.mono HBW4.out.size))
      have HKN := Lib.hid (alloc_at w4 (.cells #[.int .i64 i, .int .i64 v, .int .i64 o, .slice A l.length c] 24))
      have hq0 := (hal.block w.heap.size (blk_lt HK04.out)).trans HK04.out
      have hq1 := (hal.block (w.heap.size + 1) (blk_lt HK14.out)).trans HK14.out
      generalize w4.alloc (.cells #[.int .i64 i, .int .i64 v, .int .i64 o, .slice A l.length c] 24) = wq at *
      have HP0 := Lib.hid (show wq.drew.heap[w.heap.size]? = _ from hq0)
      have HP1 := Lib.hid (show wq.drew.heap[w.heap.size + 1]? = _ from hq1)
      have HBB := Lib.hid (show Below wq.heap.size wq wq.drew from below_drew (Below.refl _ wq))
      have hl0 : w.heap.size < wq.drew.heap.size := blk_lt hq0
      have hl1 : w.heap.size + 1 < wq.drew.heap.size := blk_lt hq1
      have HQ0 := Lib.hid hq0
      have HQ1 := Lib.hid hq1
      have hCA := fun wp (hb : Below wq.heap.size wq wp) => Kd.C_below HC.out (HBQ.out.trans (hb.mono HBQ.out.size))
      have hCA2 := fun wp (hb : Below wq.heap.size wq wp) => Kd.C_below HC2.out (HBQ.out.trans (hb.mono HBQ.out.size))
      have HCA := Lib.hid hCA
      have HCA2 := Lib.hid hCA2
      obtain ⟨f0, f1, f2, f3, z0, z1, z2, z3⟩ := blk_facts4 hq0
      obtain ⟨g0, g1, g2, g3, y0, y1, y2, y3⟩ := blk_facts4 hq1
      clear hal hq0 hq1 HK04 HK14 hCA hCA2
      go_cut [39] (fun s39 wx => s39 = .bool false ∧ Below wq.heap.size wq wx)
      case first =>
        go_region_held3 (fun wx => (wx.cell? ⟨w.heap.size, 0, none⟩ = some (.int .i64 i) ∧ wx.cell? ⟨w.heap.size, 1, none⟩ = some (.int .i64 v) ∧ wx.cell? ⟨w.heap.size, 2, none⟩ = some (.int .i64 o) ∧ wx.cell? ⟨w.heap.size, 3, none⟩ = some (.slice A l.length c)) ∧ wx.cell? ⟨w.heap.size + 1, 0, none⟩ = some (.int .i64 i') ∧ wx.cell? ⟨w.heap.size + 1, 1, none⟩ = some (.int .i64 v') ∧ wx.cell? ⟨w.heap.size + 1, 2, none⟩ = some (.int .i64 o') ∧ wx.cell? ⟨w.heap.size + 1, 3, none⟩ = some (.slice A2 l'.length c2)) (go_keep) (first
          | (go_at_call 8; ((with_reducible refine (HCK.out _).mono ?_); rintro e wn ⟨rfl, hbn⟩); have hp1 := (hbn.block (w.heap.size + 1) hl1).trans HP1.out; have hp0 := (hbn.block w.heap.size hl0).trans HP0.out; clear f0 f1 f2 f3 z0 z1 z2 z3 g0 g1 g2 g3 y0 y1 y2 y3; obtain ⟨f0, f1, f2, f3, z0, z1, z2, z3⟩ := blk_facts4 hp0; obtain ⟨g0, g1, g2, g3, y0, y1, y2, y3⟩ := blk_facts4 hp1; have hbn2 := HBB.out.trans (hbn.mono HBB.out.size); clear HP0 HP1 HBB hl0 hl1; have hl0 := blk_lt hp0; have hl1 := blk_lt hp1; have HP0 := Lib.hid hp0; have HP1 := Lib.hid hp1; have HBB := Lib.hid hbn2; clear hbn hbn2 hp0 hp1)
          | (go_at_call 12; ((with_reducible refine (HMY.out _).mono ?_); rintro e wn ⟨rfl, hbn⟩); have hp1 := (hbn.block (w.heap.size + 1) hl1).trans HP1.out; have hp0 := (hbn.block w.heap.size hl0).trans HP0.out; clear f0 f1 f2 f3 z0 z1 z2 z3 g0 g1 g2 g3 y0 y1 y2 y3; obtain ⟨f0, f1, f2, f3, z0, z1, z2, z3⟩ := blk_facts4 hp0; obtain ⟨g0, g1, g2, g3, y0, y1, y2, y3⟩ := blk_facts4 hp1; have hbn2 := HBB.out.trans (hbn.mono HBB.out.size); clear HP0 HP1 HBB hl0 hl1; have hl0 := blk_lt hp0; have hl1 := blk_lt hp1; have HP0 := Lib.hid hp0; have HP1 := Lib.hid hp1; have HBB := Lib.hid hbn2; clear hbn hbn2 hp0 hp1)
          | (go_at_call 13; ((with_reducible refine (HRS.out _ (HCA.out _ HBB.out) (HCA2.out _ HBB.out)).mono ?_); rintro e wn ⟨rfl, hbn⟩); have hp1 := (hbn.block (w.heap.size + 1) hl1).trans HP1.out; have hp0 := (hbn.block w.heap.size hl0).trans HP0.out; clear f0 f1 f2 f3 z0 z1 z2 z3 g0 g1 g2 g3 y0 y1 y2 y3; obtain ⟨f0, f1, f2, f3, z0, z1, z2, z3⟩ := blk_facts4 hp0; obtain ⟨g0, g1, g2, g3, y0, y1, y2, y3⟩ := blk_facts4 hp1; have hbn2 := HBB.out.trans (hbn.mono HBB.out.size); clear HP0 HP1 HBB hl0 hl1; have hl0 := blk_lt hp0; have hl1 := blk_lt hp1; have HP0 := Lib.hid hp0; have HP1 := Lib.hid hp1; have HBB := Lib.hid hbn2; clear hbn hbn2 hp0 hp1)
          | (go_at_call 14; ((with_reducible refine (HDS.out _ (HCA.out _ HBB.out) (HCA2.out _ HBB.out)).mono ?_); rintro e wn ⟨rfl, hbn⟩); have hp1 := (hbn.block (w.heap.size + 1) hl1).trans HP1.out; have hp0 := (hbn.block w.heap.size hl0).trans HP0.out; clear f0 f1 f2 f3 z0 z1 z2 z3 g0 g1 g2 g3 y0 y1 y2 y3; obtain ⟨f0, f1, f2, f3, z0, z1, z2, z3⟩ := blk_facts4 hp0; obtain ⟨g0, g1, g2, g3, y0, y1, y2, y3⟩ := blk_facts4 hp1; have hbn2 := HBB.out.trans (hbn.mono HBB.out.size); clear HP0 HP1 HBB hl0 hl1; have hl0 := blk_lt hp0; have hl1 := blk_lt hp1; have HP0 := Lib.hid hp0; have HP1 := Lib.hid hp1; have HBB := Lib.hid hbn2; clear hbn hbn2 hp0 hp1))
        all_goals
          go_wp2_with fail
          go_meet
          exact ⟨rfl, HBB.out⟩
      case rest =>
        obtain ⟨rfl, hbx⟩ := hcut
        clear f0 f1 f2 f3 z0 z1 z2 z3 g0 g1 g2 g3 y0 y1 y2 y3
        have HBX := Lib.hid hbx
        have hq0 := (hbx.block w.heap.size (blk_lt HQ0.out)).trans HQ0.out
        have hq7 := (hbx.block w4.heap.size (blk_lt HKN.out)).trans HKN.out
        obtain ⟨f0, f1, f2, f3, z0, z1, z2, z3⟩ := blk_facts4 hq0
        have hlt0 := blk_lt hq0
        have hlt7 := blk_lt hq7
        have HQX := Lib.hid hq0
        have HQ7 := Lib.hid hq7
        clear hbx hq0 hq7 HP0 HP1 HBB hl0 hl1 HQ0 HQ1 HCA HCA2 HRS HDS HCK HKN
        go_wp2_with fail
        refine (HMY.out _).mono ?_
        rintro e w5 ⟨rfl, hb5⟩
        have hq5 := (hb5.block w.heap.size hlt0).trans HQX.out
        have hq7 := (hb5.block w4.heap.size hlt7).trans HQ7.out
        clear f0 f1 f2 f3 z0 z1 z2 z3 hlt0 hlt7
        obtain ⟨f0, f1, f2, f3, z0, z1, z2, z3⟩ := blk_facts4 hq5
        obtain ⟨g0, g1, g2, g3, y0, y1, y2, y3⟩ := blk_facts4 hq7
        have HB5 := Lib.hid (HBQ.out.trans ((HBX.out.trans (hb5.mono HBX.out.size)).mono HBQ.out.size))
        have hC5 := Kd.C_below HC.out HB5.out
        have HDS := Lib.hid (dsame_any ⟨i, v, o, l⟩ ⟨i, v, o, l⟩ A A c c _ hC5 hC5 HO.out HO.out)
        rw [decide_eq_true rfl] at HDS
        clear hb5 hq5 hq7 HBX HQX HMY HQ7 HBQ hC5 HC
        go_wp2_with fail
        refine (HDS.out).mono ?_
        rintro e w8 ⟨rfl, hb8⟩
        have HB8 := Lib.hid (HB5.out.trans (hb8.mono HB5.out.size))
        clear hb8 HDS HB5 f0 f1 f2 f3 z0 z1 z2 z3 g0 g1 g2 g3 y0 y1 y2 y3
        go_wp2_with (go_at_call 9; refine (awake_any _).mono ?_; rintro e w' ⟨rfl, hb⟩)
        go_ret
        exact ⟨rfl, HB8.out.trans (hb.mono HB8.out.size)⟩
end Go.Proofs.Ytkbblbgiheclfaa
