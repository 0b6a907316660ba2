/- (*gather).item: what is told of an option; all kinds. -/
import Derived.Test.YtkbblbgiheclfaaDoorDF
import Derived.Deep.DeepCutAuto
namespace Go.Proofs.YtkbblbgiheclfaaDoor.Dr
open Go.RowKit Go.Proofs.YtkbblbgiheclfaaDoorW.PrintWords

/-- What was gathered, and the item's own block. -/
def GaX (w0 : World) (g gx : Nat) (xs : List Int) (cs : Array Value) (wx : World) : Prop := GaR w0 g xs wx ∧ wx.heap[gx]? = some (.cells cs 25 (0, 0))
theorem GaX.put {w0 w1 : World} {g gx : Nat} {a v1 : Value} {xs : List Int} {cs : Array Value} (hk : w1.heap[g]? = some (.cells #[a] 55 (0, 0))) (hR : kB.R 5 w1 w0.heap.size (fun k => w0.heap.size ≤ k ∧ k ≠ g) v1 xs) (hb : Below w0.heap.size w0 w1) (hg : w0.heap.size ≤ g) (hx : w1.heap[gx]? = some (.cells cs 25 (0, 0))) : GaX w0 g gx xs cs (w1.setCell ⟨g, 0, none⟩ v1) :=
  ⟨GaR.put hk hR hb hg, (Below.heap_setCell w1 ⟨g, 0, none⟩ _ gx (blk_ne hx hk (by decide))).trans hx⟩
theorem two_lits (W : World) (l1 l2 : List Int) (h1 : l1.length ≤ 1000) (h2 : l2.length ≤ 1000) : Below W.heap.size W ((W.alloc (.cells (l1.map (Value.int .u8)).toArray 5)).alloc (.cells (l2.map (Value.int .u8)).toArray 5)).drew ∧ kB.C ((W.alloc (.cells (l1.map (Value.int .u8)).toArray 5)).alloc (.cells (l2.map (Value.int .u8)).toArray 5)).drew (some ⟨W.heap.size, 0, none⟩) l1.length l1 ∧ kB.C ((W.alloc (.cells (l1.map (Value.int .u8)).toArray 5)).alloc (.cells (l2.map (Value.int .u8)).toArray 5)).drew (some ⟨W.heap.size + 1, 0, none⟩) l2.length l2 := by
  have b1 := below_alloc (Below.refl _ W) (.cells (l1.map (Value.int .u8)).toArray 5)
  have b2 := (below_alloc (Below.refl _ (W.alloc (.cells (l1.map (Value.int .u8)).toArray 5))) (.cells (l2.map (Value.int .u8)).toArray 5)).drew
  have c2 := oct_C (W.alloc (.cells (l1.map (Value.int .u8)).toArray 5)) l2 (by omega)
  rw [World.size_alloc] at c2
  exact ⟨b1.trans (b2.mono b1.size), Kd.C_below (oct_C W l1 (by omega)) b2, Kd.C_below c2 (below_drew (Below.refl _ _))⟩
set_option maxHeartbeats 16000000 in
set_option maxRecDepth 100000 in
theorem gsub_any (a : Int) (l : List Int) (B : Option Addr) (c : Nat) {w0 w : World} {g : Nat} {xs : List Int} (h0 : 0 ≤ a) (h1 : a ≤ 255) (hB : kB.C w0 B l.length l) (hlc : l.length ≤ c) (hll : l.length ≤ 1000) (ho : Oct l) (hG : GaR w0 g xs w) (hg : w0.heap.size ≤ g) (hl : xs.length ≤ 10000000) :
    Calls Tryd.prog 30 #[.pointer (some ⟨g, 0, none⟩), .agg #[.int .i64 4, .int .i64 a, .int .i64 0, .slice B l.length c]] w (GaP w0 g (xs ++ [255, 250, a] ++ dblF l ++ [255, 240])) := by
  obtain ⟨v, hk, hR, hb⟩ := hG
  have hal := below_alloc (Below.refl _ w) (.cells #[.int .i64 4, .int .i64 a, .int .i64 0, .slice B l.length c] 25)
  have hkx := alloc_at w (.cells #[.int .i64 4, .int .i64 a, .int .i64 0, .slice B l.length c] 25)
  have hkg := (hal.block g (blk_lt hk)).trans hk
  obtain ⟨A, cv, rfl⟩ := Kd.R_slice hR
  have HR0 := Lib.hid (Kd.R_below hR hal)
  have HB0 := Lib.hid (hb.trans (hal.mono hb.size))
  have HKG0 := Lib.hid hkg
  have HKX0 := Lib.hid hkx
  have hlt := blk_lt hk
  have hdl := dbl_len l
  have hcl := count_le l
  have HDL := Lib.hid (show (dblF l).length ≤ 2000 by omega)
  have HLC := Lib.hid hlc
  have HLL := Lib.hid hll
  have HL := Lib.hid hl
  have HLB := Lib.hid hB
  have HO := Lib.hid ho
  have HZL := Lib.hid (show (xs ++ [255, 250, a]).length ≤ 10000003 by
    rw [List.length_append]
    simp only [List.length_cons, List.length_nil]
    omega)
  obtain ⟨zs, hzs⟩ : ∃ zs, xs ++ [255, 250, a] = zs := ⟨_, rfl⟩
  obtain ⟨ys, hys⟩ : ∃ ys, dblF l = ys := ⟨_, rfl⟩
  rw [hzs, hys]
  rw [hzs] at HZL
  rw [hys] at HDL
  have HZ := Lib.hid hzs
  have HY := Lib.hid hys
  clear hk hR hb hkg hkx hal hdl hcl hlc hll hl hB ho hzs hys
  go_enter Tryd.func30, Tryd.ntmps30
  obtain ⟨f0, f1, f2, f3, _, _, _, _⟩ := blk_facts4 HKX0.out
  go_upto_region 9 with fail
  generalize hgx : w.heap.size = gx at *
  generalize w.alloc (.cells #[.int .i64 4, .int .i64 a, .int .i64 0, .slice B l.length c] 25) = wz at *
  clear hgx f0 f2 f3
  go_cut [] (fun wx => GaX w0 g gx zs #[.int .i64 4, .int .i64 a, .int .i64 0, .slice B l.length c] wx)
  case first =>
    have g0 := blk_cell HKG0.out 0
    have y0 := blk_frozen HKG0.out 0
    have hlg := blk_lt HKG0.out
    have hwr := wrap_oct h0 h1
    have hl2 := HL.out
    have hal := below_alloc (Below.refl _ wz) (.cells #[.int .u8 255, .int .u8 250, .int .u8 a] 5)
    have hald := hal.drew
    have HU := Lib.hid (Kd.C_below (oct_C wz [255, 250, a] (by simp)) (below_drew (Below.refl _ _)))
    have HR := Lib.hid (Kd.R_below HR0.out hald)
    have HB := Lib.hid (HB0.out.trans (hald.mono HB0.out.size))
    have HKG := Lib.hid ((hald.block g hlg).trans HKG0.out)
    have HKX := Lib.hid ((hald.block gx (blk_lt HKX0.out)).trans HKX0.out)
    clear hal hald HR0 HB0 HKX0 HLB HO HDL HLC HLL HL
    go_region_law (refine Kd.R_append_rows_step kB (Rr := fun x cs => cs = [.int .u8 x]) (w0 := w0) (W := (wz.alloc (.cells #[.int .u8 255, .int .u8 250, .int .u8 a] 5)).drew) w0.heap.size rfl (.tmp 58) (.tmp 62) 22 5 (.int .u8 0) 1 rfl Tryd.underlying22 info_u8 rfl (by decide) (by omega) (.slice A xs.length cv) xs [255, 250, a] (some ⟨wz.heap.size, 0, none⟩) 3 3 (fun k => w0.heap.size ≤ k ∧ k ≠ g) (fun _ => False) (by go_simp) (by go_simp) HR.out HU.out (fun _ _ h => h) (fun _ h => h.elim) (fun k hk => by have := blk_lt HKG.out; have := HB.out.size; omega) HB.out HB.out.size (by omega) ?_; intro v1 w5 hr2 hb2 hg2 ho2; have hk5 := blk_grown HKG.out hg2 (Kd.R_away HR.out (fun k hk => hk.2)); have hx5 := blk_grown HKX.out hg2 (Kd.R_ne HR.out HKX.out (by decide)); have x2 := blk_cell hk5 0; have xz2 := blk_frozen hk5 0; obtain ⟨A5, c5, rfl⟩ := Kd.R_slice hr2; rw [List.length_append] at hr2; have HG5 := Lib.hid (GaX.put hk5 hr2 hb2 hg hx5); clear hr2 hb2 hg2 ho2 hk5 hx5)
    all_goals
      go_wp2_with fail
      go_meet
      exact HZ.out ▸ HG5.out
  case rest =>
    obtain ⟨⟨v, hk, hR, hb⟩, hx⟩ := hcut
    clear HKG0 HKX0 HR0 HB0 f1
    have hzl := HZL.out
    obtain ⟨A, cv, rfl⟩ := Kd.R_slice hR
    obtain ⟨b1, c1, c2⟩ := two_lits wc [255] [255, 255] (by simp) (by simp)
    obtain ⟨b2, c3, c4⟩ := two_lits wc [255, 255] [255] (by simp) (by simp)
    have HBA := Lib.hid b1
    have HBB := Lib.hid b2
    have HRA := Lib.hid (show Calls Tryd.prog 43 #[.slice B l.length c, .slice (some ⟨wc.heap.size, 0, none⟩) 1 1, .slice (some ⟨wc.heap.size + 1, 0, none⟩) 2 2] ((wc.alloc (.cells #[.int .u8 255] 5)).alloc (.cells #[.int .u8 255, .int .u8 255] 5)).drew (OctP _ (dblF l)) from replAll_any B c wc.heap.size (wc.heap.size + 1) 1 2 l _ (Kd.C_below HLB.out (hb.trans (b1.mono hb.size))) HLC.out (by have := HLL.out; omega) HO.out (u8_all c1 0 (by simp)) c2)
    have HRB := Lib.hid (show Calls Tryd.prog 43 #[.slice B l.length c, .slice (some ⟨wc.heap.size + 1, 0, none⟩) 1 1, .slice (some ⟨wc.heap.size, 0, none⟩) 2 2] ((wc.alloc (.cells #[.int .u8 255, .int .u8 255] 5)).alloc (.cells #[.int .u8 255] 5)).drew (OctP _ (dblF l)) from replAll_any B c (wc.heap.size + 1) wc.heap.size 1 2 l _ (Kd.C_below HLB.out (hb.trans (b2.mono hb.size))) HLC.out (by have := HLL.out; omega) HO.out (u8_all c4 0 (by simp)) c3)
    rw [HY.out] at HRA HRB
    have HR := Lib.hid hR
    have HB := Lib.hid hb
    have HKG := Lib.hid hk
    have HKX := Lib.hid hx
    have hlg := blk_lt hk
    have hlx := blk_lt hx
    have hyl := HDL.out
    clear hR hb hk hx b1 b2 c1 c2 c3 c4 HLB HO HLC HLL HL HDL HY HZ HZL
    go_upto_region 10 with fail
    go_cut [] (fun wx => GaX w0 g gx (zs ++ ys) #[.int .i64 4, .int .i64 a, .int .i64 0, .slice B l.length c] wx)
    case first =>
      have g0 := blk_cell HKG.out 0
      have y0 := blk_frozen HKG.out 0
      have f3 := blk_cell HKX.out 3
      go_region_law (first
        | (refine wanted_pos rfl ?_; go_simp; go_at_call 43; ((with_reducible refine (HRA.out).mono ?_); rintro e w4 ⟨u, rfl, hRu, hbu⟩); obtain ⟨Au, cu, rfl⟩ := Kd.R_slice hRu; have hz4 := HBA.out.trans (hbu.mono HBA.out.size); have hq0 := (hz4.block g hlg).trans HKG.out; have hq1 := (hz4.block gx hlx).trans HKX.out; have x0 := blk_cell hq0 0; have x1 := blk_cell hq1 3; have xz := blk_frozen hq0 0; have HR4 := Lib.hid (Kd.R_below HR.out hz4); have HB4 := Lib.hid (HB.out.trans (hz4.mono HB.out.size)); have HK4 := Lib.hid hq0; have HX4 := Lib.hid hq1; have HU4 := Lib.hid (Kd.R_reads' hRu).2.2; clear hRu hbu hz4 hq0 hq1)
        | (refine wanted_pos rfl ?_; go_simp; go_at_call 43; ((with_reducible refine (HRB.out).mono ?_); rintro e w4 ⟨u, rfl, hRu, hbu⟩); obtain ⟨Au, cu, rfl⟩ := Kd.R_slice hRu; have hz4 := HBB.out.trans (hbu.mono HBB.out.size); have hq0 := (hz4.block g hlg).trans HKG.out; have hq1 := (hz4.block gx hlx).trans HKX.out; have x0 := blk_cell hq0 0; have x1 := blk_cell hq1 3; have xz := blk_frozen hq0 0; have HR4 := Lib.hid (Kd.R_below HR.out hz4); have HB4 := Lib.hid (HB.out.trans (hz4.mono HB.out.size)); have HK4 := Lib.hid hq0; have HX4 := Lib.hid hq1; have HU4 := Lib.hid (Kd.R_reads' hRu).2.2; clear hRu hbu hz4 hq0 hq1)
        | (refine Kd.R_append_rows_step kB (Rr := fun x cs => cs = [.int .u8 x]) (w0 := w0) (W := w4) w0.heap.size rfl (.tmp 70) (.tmp 75) 22 5 (.int .u8 0) 1 rfl Tryd.underlying22 info_u8 rfl (by decide) (by omega) (.slice A zs.length cv) zs ys Au ys.length cu (fun k => w0.heap.size ≤ k ∧ k ≠ g) (fun _ => False) (by go_simp) (by go_simp) HR4.out HU4.out (fun _ _ h => h) (fun _ h => h.elim) (fun k hk => by have := blk_lt HK4.out; have := HB4.out.size; omega) HB4.out HB4.out.size (by omega) ?_; intro v1 w5 hr2 hb2 hg2 ho2; have hk5 := blk_grown HK4.out hg2 (Kd.R_away HR4.out (fun k hk => hk.2)); have hx5 := blk_grown HX4.out hg2 (Kd.R_ne HR4.out HX4.out (by decide)); have x2 := blk_cell hk5 0; have xz2 := blk_frozen hk5 0; obtain ⟨A5, c5, rfl⟩ := Kd.R_slice hr2; rw [List.length_append] at hr2; have HG5 := Lib.hid (GaX.put hk5 hr2 hb2 hg hx5); clear hr2 hb2 hg2 ho2 hk5 hx5))
      all_goals
        go_wp2_with fail
        go_meet
        exact HG5.out
    case rest =>
      obtain ⟨⟨v2, hk, hR, hb⟩, hx⟩ := hcut
      clear HKG HKX HR HB HRA HRB HBA HBB hlg hlx
      obtain ⟨A2, cv2, rfl⟩ := Kd.R_slice hR
      have hzy : (zs ++ ys).length ≤ 10002003 := by rw [List.length_append]; omega
      obtain ⟨us, hus⟩ : ∃ us, zs ++ ys = us := ⟨_, rfl⟩
      rw [hus] at hR hk hzy
      have HUS := Lib.hid hus
      clear hus
      have g0 := blk_cell hk 0
      have y0 := blk_frozen hk 0
      have hlg := blk_lt hk
      have hal := below_alloc (Below.refl _ wc) (.cells #[.int .u8 255, .int .u8 240] 5)
      have HU := Lib.hid (oct_C wc [255, 240] (by simp))
      have HR := Lib.hid (Kd.R_below hR hal)
      have HB := Lib.hid (hb.trans (hal.mono hb.size))
      have HKG := Lib.hid ((hal.block g hlg).trans hk)
      clear hal hR hb hk hx
      go_wp2_with (at_builtin; refine Kd.R_append_rows kB (Rr := fun x cs => cs = [.int .u8 x]) (w0 := w0) (W := wc.alloc (.cells #[.int .u8 255, .int .u8 240] 5)) w0.heap.size rfl (.tmp 83) (.tmp 84) 22 5 (.int .u8 0) 1 rfl Tryd.underlying22 info_u8 rfl (by decide) (by omega) (.slice A2 us.length cv2) us [255, 240] (some ⟨wc.heap.size, 0, none⟩) 2 2 (fun k => w0.heap.size ≤ k ∧ k ≠ g) (fun _ => False) rfl rfl HR.out HU.out (fun _ _ h => h) (fun _ h => h.elim) (fun k hk => by have := blk_lt HKG.out; have := HB.out.size; omega) HB.out HB.out.size (by omega) ?_; intro v1 w5 hr2 hb2 hg2 ho2; have hk5 := blk_grown HKG.out hg2 (Kd.R_away HR.out (fun k hk => hk.2)); have x2 := blk_cell hk5 0; have xz2 := blk_frozen hk5 0; obtain ⟨A5, c5, rfl⟩ := Kd.R_slice hr2; rw [List.length_append] at hr2; have HG5 := Lib.hid (GaR.put hk5 hr2 hb2 hg); clear hr2 hb2 hg2 ho2 hk5)
      refine bodyPost_ret (results_none rfl _ _ _) rfl ?_
      exact ⟨rfl, by rw [HUS.out]; exact HG5.out⟩

/-- What lies behind whatever item that may be. -/
theorem gitem_any (x : It) (B : Option Addr) (c : Nat) {w0 w : World} {g : Nat} {xs : List Int} (hB : kB.C w0 B x.l.length x.l) (hle : x.l.length ≤ c) (ho : Oct x.l) (hm : mayI x = true) (hG : GaR w0 g xs w) (hg : w0.heap.size ≤ g) (hl : xs.length ≤ 10000000) :
    Calls Tryd.prog 30 #[.pointer (some ⟨g, 0, none⟩), .agg #[.int .i64 x.k, .int .i64 x.a, .int .i64 x.b, .slice B x.l.length c]] w (GaP w0 g (xs ++ putI x)) := by
  have hw := wf_kind hm
  obtain ⟨k, a, b, l⟩ := x
  dsimp only at *
  rcases hw with ⟨rfl, h0, h1, rfl, rfl⟩ | ⟨rfl, h0, h1, rfl, rfl⟩ | ⟨rfl, h0, h1, h2, h3, rfl⟩ | ⟨rfl, h0, h1, rfl, hll⟩
  · exact gdata_any a B c ⟨h0, h1⟩ hG hg hl
  · exact gcmd_any a B c (by omega) (by omega) hG hg hl
  · exact gopt_any a b B c (by omega) (by omega) h2 h3 hG hg hl
  · have e : xs ++ putI ⟨4, a, 0, l⟩ = xs ++ [255, 250, a] ++ dblF l ++ [255, 240] := by
      show xs ++ ([255, 250, a] ++ dblF l ++ [255, 240]) = _
      simp
    rw [e]
    exact gsub_any a l B c h0 h1 hB hle (by omega) ho hG hg hl
end Go.Proofs.YtkbblbgiheclfaaDoor.Dr
