/- (*gather).item: what lies. -/
import Derived.Test.YtkbblbgiheclfaaDoorDE
namespace Go.Proofs.YtkbblbgiheclfaaDoor.Dr
open Go.RowKit Go.Proofs.YtkbblbgiheclfaaDoorW.PrintWords

/-- How an item lies. -/
def putI (x : It) : List Int := if x.k = 1 then layF [x.a] else if x.k = 2 then [255, x.a] else if x.k = 3 then [255, x.a, x.b] else [255, 250, x.a] ++ dblF x.l ++ [255, 240]
/-- What was gathered (block g). -/
def GaR (w0 : World) (g : Nat) (xs : List Int) (wx : World) : Prop := ∃ v, wx.heap[g]? = some (.cells #[v] 55 (0, 0)) ∧ kB.R 5 wx w0.heap.size (fun k => w0.heap.size ≤ k ∧ k ≠ g) v xs ∧ Below w0.heap.size w0 wx
def GaP (w0 : World) (g : Nat) (xs : List Int) (e : Ending) (w' : World) : Prop := e = .returned (.tuple #[]) ∧ GaR w0 g xs w'
theorem GaR.put {w0 w1 : World} {g : Nat} {a v1 : Value} {xs : List Int} (hk : w1.heap[g]? = some (.cells #[a] 55 (0, 0))) (hR : kB.R 5 w1 w0.heap.size (fun k => w0.heap.size ≤ k ∧ k ≠ g) v1 xs) (hb : Below w0.heap.size w0 w1) (hg : w0.heap.size ≤ g) : GaR w0 g xs (w1.setCell ⟨g, 0, none⟩ v1) :=
  ⟨v1, blk_set hk 0 v1, Kd.R_move hR (fun k hk => Below.heap_setCell w1 ⟨g, 0, none⟩ _ k hk.2), hb.setCell hg _⟩
theorem wf_kind {x : It} (h : mayI x = true) : (x.k = 1 ∧ 0 ≤ x.a ∧ x.a ≤ 255 ∧ x.b = 0 ∧ x.l = []) ∨ (x.k = 2 ∧ 236 ≤ x.a ∧ x.a < 250 ∧ x.b = 0 ∧ x.l = []) ∨ (x.k = 3 ∧ 251 ≤ x.a ∧ x.a ≤ 254 ∧ 0 ≤ x.b ∧ x.b ≤ 255 ∧ x.l = []) ∨ (x.k = 4 ∧ 0 ≤ x.a ∧ x.a ≤ 255 ∧ x.b = 0 ∧ x.l.length ≤ 512) := by
  obtain ⟨k, a, b, l⟩ := x
  unfold mayI smI kindI partsI at h
  dsimp only at h ⊢
  rw [Bool.and_eq_true, decide_eq_true_eq] at h
  obtain ⟨h1, h2⟩ := h
  by_cases k1 : k = 1
  · subst k1
    simp [oct] at h1 h2
    exact .inl ⟨rfl, h2.1, h2.2, h1.1, h1.2⟩
  · by_cases k2 : k = 2
    · subst k2
      simp at h1 h2
      exact .inr (.inl ⟨rfl, h2.1, h2.2.1, h1.1, h1.2⟩)
    · by_cases k3 : k = 3
      · subst k3
        simp [oct] at h1 h2
        exact .inr (.inr (.inl ⟨rfl, h2.1.1, h2.1.2, h2.2.1, h2.2.2, h1⟩))
      · by_cases k4 : k = 4
        · subst k4
          simp [oct] at h1 h2
          exact .inr (.inr (.inr ⟨rfl, h2.1.1, h2.1.2, h1, h2.2⟩))
        · rw [if_neg k1, if_neg k2, if_neg k3, if_neg k4] at h2
          cases h2
theorem wanted_pos {c A B : Prop} [Decidable c] (h : c) (ha : A) : if c then A else B := by rw [if_pos h]; exact ha
theorem wrap_oct {a : Int} (h0 : 0 ≤ a) (h1 : a ≤ 255) : IntKind.u8.wrap a = a := by
  simp [IntKind.wrap, IntKind.signed, IntKind.bits]
  omega
set_option maxHeartbeats 4000000 in
set_option maxRecDepth 100000 in
theorem gdata_any (a : Int) (B : Option Addr) (c : Nat) {w0 w : World} {g : Nat} {xs : List Int} (ha : 0 ≤ a ∧ a ≤ 255) (hG : GaR w0 g xs w) (hg : w0.heap.size ≤ g) (hl : xs.length ≤ 10000000) :
    Calls Tryd.prog 30 #[.pointer (some ⟨g, 0, none⟩), .agg #[.int .i64 1, .int .i64 a, .int .i64 0, .slice B 0 c]] w (GaP w0 g (xs ++ layF [a])) := by
  obtain ⟨v, hk, hR, hb⟩ := hG
  obtain ⟨h0, h1⟩ := ha
  have hal := below_alloc (Below.refl _ w) (.cells #[.int .i64 1, .int .i64 a, .int .i64 0, .slice B 0 c] 25)
  have hkx := alloc_at w (.cells #[.int .i64 1, .int .i64 a, .int .i64 0, .slice B 0 c] 25)
  have hkg := (hal.block g (blk_lt hk)).trans hk
  have hlen := lay_len [a]
  obtain ⟨A, cv, rfl⟩ := Kd.R_slice hR
  have HR := Lib.hid (Kd.R_below hR hal)
  have HB := Lib.hid (hb.trans (hal.mono hb.size))
  have HKG := Lib.hid hkg
  have HKX := Lib.hid hkx
  have hlt := blk_lt hk
  clear hk hR hb hkg hkx hal
  go_enter Tryd.func30, Tryd.ntmps30
  obtain ⟨f0, f1, f2, f3, _, _, _, _⟩ := blk_facts4 HKX.out
  go_upto_region 3 with fail
  generalize hgx : w.heap.size = gx at *
  generalize w.alloc (.cells #[.int .i64 1, .int .i64 a, .int .i64 0, .slice B 0 c] 25) = wz at *
  clear hgx f0 f2 f3
  have g0 := blk_cell HKG.out 0
  have y0 := blk_frozen HKG.out 0
  have hlg := blk_lt HKG.out
  have hlx := blk_lt HKX.out
  have hal := below_alloc (Below.refl _ wz) (.cells #[.int .u8 a] 5)
  have HAL := Lib.hid hal.drew
  have HLAY := Lib.hid (show Calls Tryd.prog 18 #[.slice (some ⟨wz.heap.size, 0, none⟩) 1 1] (wz.alloc (.cells #[.int .u8 a] 5)).drew (OctP _ (layF [a])) from lay_any (some ⟨wz.heap.size, 0, none⟩) 1 [a] _ (Kd.C_below (oct_C wz [a] (by simp)) (below_drew (Below.refl _ _))) (by simp) (Oct.one h0 h1))
  have hwr := wrap_oct h0 h1
  have hlen2 : (layF [a]).length ≤ 2 := by simpa using hlen
  clear hal hlen
  generalize layF [a] = ys at *
  go_region_law (first
    | (refine wanted_pos rfl ?_; go_simp; go_at_call 18; ((with_reducible refine (HLAY.out).mono ?_); rintro e w4 ⟨u, rfl, hRu, hbu⟩); obtain ⟨Au, cu, rfl⟩ := Kd.R_slice hRu; have hz4 := HAL.out.trans (hbu.mono HAL.out.size); have hq0 := (hz4.block g hlg).trans HKG.out; have hq1 := (hz4.block gx hlx).trans HKX.out; have x0 := blk_cell hq0 0; have x1 := blk_cell hq1 1; have xz := blk_frozen hq0 0; have HR4 := Lib.hid (Kd.R_below HR.out hz4); have HB4 := Lib.hid (HB.out.trans (hz4.mono HB.out.size)); have HK4 := Lib.hid hq0; have HX4 := Lib.hid hq1; have HU4 := Lib.hid (Kd.R_reads' hRu).2.2; clear hRu hbu hz4 hq0 hq1)
    | (refine Kd.R_append_rows_step kB (Rr := fun x cs => cs = [.int .u8 x]) (w0 := w0) (W := w4) w0.heap.size rfl (.tmp 12) (.tmp 17) 22 5 (.int .u8 0) 1 rfl Tryd.underlying22 info_u8 rfl (by decide) (by omega) (.slice A xs.length cv) xs ys Au ys.length cu (fun k => w0.heap.size ≤ k ∧ k ≠ g) (fun _ => False) (by go_simp) (by go_simp) HR4.out HU4.out (fun _ _ h => h) (fun _ h => h.elim) (fun k hk => by have := blk_lt HK4.out; have := HB4.out.size; omega) HB4.out HB4.out.size (by omega) ?_; intro v1 w5 hr2 hb2 hg2 ho2; have hk5 := blk_grown HK4.out hg2 (Kd.R_away HR4.out (fun k hk => hk.2)); have hx5 := blk_grown HX4.out hg2 (Kd.R_ne HR4.out HX4.out (by decide)); have x3 := blk_cell hx5 1; have x2 := blk_cell hk5 0; have xz2 := blk_frozen hk5 0; obtain ⟨A5, c5, rfl⟩ := Kd.R_slice hr2; rw [List.length_append] at hr2; have HG5 := Lib.hid (GaR.put hk5 hr2 hb2 hg); clear hr2 hb2 hg2 ho2 hk5 hx5))
  all_goals
    go_wp2_with fail
    refine bodyPost_ret (results_none rfl _ _ _) rfl ?_
    exact ⟨rfl, HG5.out⟩
set_option maxHeartbeats 4000000 in
set_option maxRecDepth 100000 in
theorem gcmd_any (a : Int) (B : Option Addr) (c : Nat) {w0 w : World} {g : Nat} {xs : List Int} (h0 : 0 ≤ a) (h1 : a ≤ 255) (hG : GaR w0 g xs w) (hg : w0.heap.size ≤ g) (hl : xs.length ≤ 10000000) :
    Calls Tryd.prog 30 #[.pointer (some ⟨g, 0, none⟩), .agg #[.int .i64 2, .int .i64 a, .int .i64 0, .slice B 0 c]] w (GaP w0 g (xs ++ [255, a])) := by
  obtain ⟨v, hk, hR, hb⟩ := hG
  have hal := below_alloc (Below.refl _ w) (.cells #[.int .i64 2, .int .i64 a, .int .i64 0, .slice B 0 c] 25)
  have hkx := alloc_at w (.cells #[.int .i64 2, .int .i64 a, .int .i64 0, .slice B 0 c] 25)
  have hkg := (hal.block g (blk_lt hk)).trans hk
  obtain ⟨A, cv, rfl⟩ := Kd.R_slice hR
  have HR0 := Lib.hid (Kd.R_below hR hal)
  have HB0 := Lib.hid (hb.trans (hal.mono hb.size))
  have HKG0 := Lib.hid hkg
  have HKX := Lib.hid hkx
  have hlt := blk_lt hk
  clear hk hR hb hkg hkx hal
  go_enter Tryd.func30, Tryd.ntmps30
  obtain ⟨f0, f1, f2, f3, _, _, _, _⟩ := blk_facts4 HKX.out
  go_upto_region 5 with fail
  generalize hgx : w.heap.size = gx at *
  generalize w.alloc (.cells #[.int .i64 2, .int .i64 a, .int .i64 0, .slice B 0 c] 25) = wz at *
  clear hgx f0 f3
  have g0 := blk_cell HKG0.out 0
  have y0 := blk_frozen HKG0.out 0
  have hlg := blk_lt HKG0.out
  have hwr := wrap_oct h0 h1
  have hal := below_alloc (Below.refl _ wz) (.cells #[.int .u8 255, .int .u8 a] 5)
  have hald := hal.drew
  have HU := Lib.hid (Kd.C_below (oct_C wz [255, a] (by simp)) (below_drew (Below.refl _ _)))
  have HR := Lib.hid (Kd.R_below HR0.out hald)
  have HB := Lib.hid (HB0.out.trans (hald.mono HB0.out.size))
  have HKG := Lib.hid ((hald.block g hlg).trans HKG0.out)
  clear hal hald HR0 HB0 HKX
  go_region_law (refine Kd.R_append_rows_step kB (Rr := fun x cs => cs = [.int .u8 x]) (w0 := w0) (W := (wz.alloc (.cells #[.int .u8 255, .int .u8 a] 5)).drew) w0.heap.size rfl (.tmp 27) (.tmp 31) 22 5 (.int .u8 0) 1 rfl Tryd.underlying22 info_u8 rfl (by decide) (by omega) (.slice A xs.length cv) xs [255, a] (some ⟨wz.heap.size, 0, none⟩) 2 2 (fun k => w0.heap.size ≤ k ∧ k ≠ g) (fun _ => False) (by go_simp) (by go_simp) HR.out HU.out (fun _ _ h => h) (fun _ h => h.elim) (fun k hk => by have := blk_lt HKG.out; have := HB.out.size; omega) HB.out HB.out.size (by omega) ?_; intro v1 w5 hr2 hb2 hg2 ho2; have hk5 := blk_grown HKG.out hg2 (Kd.R_away HR.out (fun k hk => hk.2)); have x2 := blk_cell hk5 0; have xz2 := blk_frozen hk5 0; obtain ⟨A5, c5, rfl⟩ := Kd.R_slice hr2; rw [List.length_append] at hr2; have HG5 := Lib.hid (GaR.put hk5 hr2 hb2 hg); clear hr2 hb2 hg2 ho2 hk5)
  all_goals
    go_wp2_with fail
    refine bodyPost_ret (results_none rfl _ _ _) rfl ?_
    exact ⟨rfl, HG5.out⟩
set_option maxHeartbeats 4000000 in
set_option maxRecDepth 100000 in
theorem gopt_any (a b : Int) (B : Option Addr) (c : Nat) {w0 w : World} {g : Nat} {xs : List Int} (h0 : 0 ≤ a) (h1 : a ≤ 255) (h2 : 0 ≤ b) (h3 : b ≤ 255) (hG : GaR w0 g xs w) (hg : w0.heap.size ≤ g) (hl : xs.length ≤ 10000000) :
    Calls Tryd.prog 30 #[.pointer (some ⟨g, 0, none⟩), .agg #[.int .i64 3, .int .i64 a, .int .i64 b, .slice B 0 c]] w (GaP w0 g (xs ++ [255, a, b])) := by
  obtain ⟨v, hk, hR, hb⟩ := hG
  have hal := below_alloc (Below.refl _ w) (.cells #[.int .i64 3, .int .i64 a, .int .i64 b, .slice B 0 c] 25)
  have hkx := alloc_at w (.cells #[.int .i64 3, .int .i64 a, .int .i64 b, .slice B 0 c] 25)
  have hkg := (hal.block g (blk_lt hk)).trans hk
  obtain ⟨A, cv, rfl⟩ := Kd.R_slice hR
  have HR0 := Lib.hid (Kd.R_below hR hal)
  have HB0 := Lib.hid (hb.trans (hal.mono hb.size))
  have HKG0 := Lib.hid hkg
  have HKX := Lib.hid hkx
  have hlt := blk_lt hk
  clear hk hR hb hkg hkx hal
  go_enter Tryd.func30, Tryd.ntmps30
  obtain ⟨f0, f1, f2, f3, _, _, _, _⟩ := blk_facts4 HKX.out
  go_upto_region 7 with fail
  generalize hgx : w.heap.size = gx at *
  generalize w.alloc (.cells #[.int .i64 3, .int .i64 a, .int .i64 b, .slice B 0 c] 25) = wz at *
  clear hgx f0 f3
  have g0 := blk_cell HKG0.out 0
  have y0 := blk_frozen HKG0.out 0
  have hlg := blk_lt HKG0.out
  have hwr := wrap_oct h0 h1
  have hwr2 := wrap_oct h2 h3
  have hal := below_alloc (Below.refl _ wz) (.cells #[.int .u8 255, .int .u8 a, .int .u8 b] 5)
  have hald := hal.drew
  have HU := Lib.hid (Kd.C_below (oct_C wz [255, a, b] (by simp)) (below_drew (Below.refl _ _)))
  have HR := Lib.hid (Kd.R_below HR0.out hald)
  have HB := Lib.hid (HB0.out.trans (hald.mono HB0.out.size))
  have HKG := Lib.hid ((hald.block g hlg).trans HKG0.out)
  clear hal hald HR0 HB0 HKX
  go_region_law (refine Kd.R_append_rows_step kB (Rr := fun x cs => cs = [.int .u8 x]) (w0 := w0) (W := (wz.alloc (.cells #[.int .u8 255, .int .u8 a, .int .u8 b] 5)).drew) w0.heap.size rfl (.tmp 41) (.tmp 48) 22 5 (.int .u8 0) 1 rfl Tryd.underlying22 info_u8 rfl (by decide) (by omega) (.slice A xs.length cv) xs [255, a, b] (some ⟨wz.heap.size, 0, none⟩) 3 3 (fun k => w0.heap.size ≤ k ∧ k ≠ g) (fun _ => False) (by go_simp) (by go_simp) HR.out HU.out (fun _ _ h => h) (fun _ h => h.elim) (fun k hk => by have := blk_lt HKG.out; have := HB.out.size; omega) HB.out HB.out.size (by omega) ?_; intro v1 w5 hr2 hb2 hg2 ho2; have hk5 := blk_grown HKG.out hg2 (Kd.R_away HR.out (fun k hk => hk.2)); have x2 := blk_cell hk5 0; have xz2 := blk_frozen hk5 0; obtain ⟨A5, c5, rfl⟩ := Kd.R_slice hr2; rw [List.length_append] at hr2; have HG5 := Lib.hid (GaR.put hk5 hr2 hb2 hg); clear hr2 hb2 hg2 ho2 hk5)
  all_goals
    go_wp2_with fail
    refine bodyPost_ret (results_none rfl _ _ _) rfl ?_
    exact ⟨rfl, HG5.out⟩
end Go.Proofs.YtkbblbgiheclfaaDoor.Dr
