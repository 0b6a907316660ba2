/- awake of the reader laws (the seat without one). -/
import Derived.Test.YtkbblbgiheclfaaDoorRF
import Derived.Test.YtkbblbgiheclfaaDoorRG
namespace Go.Proofs.YtkbblbgiheclfaaDoor
open Go.RowKit Go.Proofs.YtkbblbgiheclfaaDoorW.PrintWords

/-- Feed, of what may be. -/
theorem feed_is (r r' : Rd) (xs : List It) (A Bo : Option Addr) (n m c d : Nat) (bs : List Int) (w : World) (hn : r.l.length = n) (hmm : bs.length = m) (hC : kB.C w A n r.l) (hc : n ≤ c) (hm : mayR r = true) (hb : kB.C w Bo m bs) (hl : m ≤ 100000) (ho : Oct bs) (h : feedF r bs = (r', xs)) :
    Calls Tryd.prog 27 #[.agg #[.int .i64 r.i, .int .i64 r.v, .int .i64 r.o, .slice A n c], .slice Bo m d] w (FeedP w r' xs 0) := by
  subst hn
  subst hmm
  have := feed_yes r A Bo c d bs w hC hc hm hb hl ho
  rw [h] at this
  exact this

theorem aw1 : feedF (inR 0) [1, 13, 10, 2] = (inR 0, [datI 1, datI 13, datI 2]) := by decide +kernel
theorem aw2 : feedF (inR 0) [255, 250, 34, 1, 255] = (⟨6, 0, 34, [1]⟩, []) := by decide +kernel
theorem aw3 : feedF ⟨6, 0, 34, [1]⟩ [240] = (inR 0, [⟨4, 34, 0, [1]⟩]) := by decide +kernel
theorem oct1 : Oct [1, 13, 10, 2] := by intro x hx; simp at hx; omega
theorem oct2 : Oct [255, 250, 34, 1, 255] := by intro x hx; simp at hx; omega
theorem oct3 : Oct [240] := by intro x hx; simp at hx; omega

def AwakeP (w : World) (e : Ending) (w' : World) : Prop := e = .returned (.bool true) ∧ Below w.heap.size w w'
set_option maxHeartbeats 4000000 in
set_option maxRecDepth 100000 in
theorem awake_any (w : World) : Calls Tryd.prog 28 #[] w (AwakeP w) := by
  have H1 := Lib.hid (feed_is (inR 0) (inR 0) _ none (some ⟨w.heap.size, 0, none⟩) 0 4 0 4 [1, 13, 10, 2] (w.alloc (.cells #[.int .u8 1, .int .u8 13, .int .u8 10, .int .u8 2] 5)) rfl rfl (Kd.C_nil _ _) (Nat.le_refl _) (by decide +kernel) (lit_B w [1, 13, 10, 2] (by decide)) (by omega) oct1 aw1)
  have hba := below_alloc (Below.refl _ w) (.cells #[.int .u8 1, .int .u8 13, .int .u8 10, .int .u8 2] 5)
  have HBA := Lib.hid hba
  clear hba
  go_enter Tryd.func28, Tryd.ntmps28
  go_wp2_with fail
  refine (H1.out).mono ?_
  rintro e w1 ⟨A1, c1, B1, d1, rfl, _, _, _, _, hb1⟩
  have HB1 := Lib.hid (HBA.out.trans (hb1.mono HBA.out.size))
  clear hb1 H1 HBA
  have hs2 := lit_B (w1.alloc (.cells #[.int .i64 0, .int .i64 0, .int .i64 0, .slice A1 0 c1] 48)) [255, 250, 34, 1, 255] (by decide)
  rw [World.size_alloc] at hs2
  have H2 := Lib.hid (feed_is (inR 0) ⟨6, 0, 34, [1]⟩ _ none (some ⟨w1.heap.size + 1, 0, none⟩) 0 5 0 5 [255, 250, 34, 1, 255] _ rfl rfl (Kd.C_nil _ _) (Nat.le_refl _) (by decide +kernel) hs2 (by omega) oct2 aw2)
  have hba2 := (below_alloc (Below.refl _ w1) (.cells #[.int .i64 0, .int .i64 0, .int .i64 0, .slice A1 0 c1] 48)).trans ((below_alloc (Below.refl _ _) (.cells #[.int .u8 255, .int .u8 250, .int .u8 34, .int .u8 1, .int .u8 255] 5)).mono (by simp))
  have HBA2 := Lib.hid hba2
  clear hs2 hba2
  go_wp2_with fail
  refine (H2.out).mono ?_
  rintro e w2 ⟨A2, c2, B2, d2, rfl, hle2, _, hC2, _, hb2⟩
  have HB2 := Lib.hid (HB1.out.trans ((HBA2.out.trans (hb2.mono HBA2.out.size)).mono HB1.out.size))
  have hC2' : kB.C w2 A2 1 [1] := Kd.F_now hC2
  have hle2' : 1 ≤ c2 := hle2
  have hba3 := (below_alloc (Below.refl _ w2) (.cells #[.int .i64 6, .int .i64 0, .int .i64 34, .slice A2 1 c2] 48))
  have hba4 := hba3.trans ((below_alloc (Below.refl _ _) (.cells #[.int .u8 240] 5)).mono hba3.size)
  have hs3 := lit_B (w2.alloc (.cells #[.int .i64 6, .int .i64 0, .int .i64 34, .slice A2 1 c2] 48)) [240] (by decide)
  rw [World.size_alloc] at hs3
  have H3 := Lib.hid (feed_is ⟨6, 0, 34, [1]⟩ (inR 0) _ A2 (some ⟨w2.heap.size + 1, 0, none⟩) 1 1 c2 1 [240] _ rfl rfl (Kd.C_below hC2' hba4) hle2' (by decide +kernel) hs3 (by omega) oct3 aw3)
  have HBA4 := Lib.hid hba4
  have HK4 := Lib.hid (((below_alloc (Below.refl _ _) (.cells #[.int .u8 240] 5)).block w2.heap.size (by simp)).trans (alloc_at w2 (.cells #[.int .i64 6, .int .i64 0, .int .i64 34, .slice A2 1 c2] 48)))
  clear hb2 H2 HBA2 HB1 hC2 hC2' hle2 hle2' hba3 hba4 hs3
  go_wp2_with fail
  refine (H3.out).mono ?_
  rintro e w3 ⟨A3, c3, B3, d3, rfl, _, hle3, _, hC3, hb3⟩
  have hlt3 : w2.heap.size + 2 ≤ w3.heap.size := by have := hb3.size; simpa using this
  have hk5 := (hb3.block w2.heap.size (by simp; omega)).trans HK4.out
  have HB3 := Lib.hid (HB2.out.trans ((HBA4.out.trans (hb3.mono HBA4.out.size)).mono HB2.out.size))
  obtain ⟨f0, f1, f2, f3, _, _, _, _⟩ := blk_facts4 hk5
  have HC3 := Lib.hid (Kd.F_now hC3)
  have hlt5 : w2.heap.size < w3.heap.size := by omega
  have hlt6 : ¬ w2.heap.size = w3.heap.size := by omega
  clear hb3 H3 HBA4 HB2 HK4 hk5 hC3 f1 f2 f3
  have hq1 := below_alloc (Below.refl _ w3) (.cells #[.int .i64 0, .int .i64 0, .int .i64 0, .slice A3 0 c3] 48)
  have hq2 := hq1.trans ((below_alloc (Below.refl _ (w3.alloc (.cells #[.int .i64 0, .int .i64 0, .int .i64 0, .slice A3 0 c3] 48))) (.cells #[.int .u8 1] 5)).mono hq1.size)
  have hq3 := hq2.trans ((below_alloc (Below.refl _ ((w3.alloc (.cells #[.int .i64 0, .int .i64 0, .int .i64 0, .slice A3 0 c3] 48)).alloc (.cells #[.int .u8 1] 5))) (.cells #[.int .i64 4, .int .i64 34, .int .i64 0, .slice (some ⟨w3.heap.size + 1, 0, none⟩) 1 1] 25)).mono hq2.size)
  have hlb := lit_B (w3.alloc (.cells #[.int .i64 0, .int .i64 0, .int .i64 0, .slice A3 0 c3] 48)) [1] (by decide)
  rw [World.size_alloc] at hlb
  have hli := lit_I _ ⟨4, 34, 0, [1]⟩ (some ⟨w3.heap.size + 1, 0, none⟩) 1 (Nat.le_refl _) hlb
  rw [World.size_alloc, World.size_alloc] at hli
  have H4 := Lib.hid (rsames_any B3 _ d3 1 [⟨4, 34, 0, [1]⟩] [⟨4, 34, 0, [1]⟩] _ (Kd.C_below HC3.out hq3) hli (fun x hx => by rw [List.mem_singleton.1 hx]; exact Oct.one (by omega) (by omega)) (fun x hx => by rw [List.mem_singleton.1 hx]; exact Oct.one (by omega) (by omega)))
  have HQ3 := Lib.hid hq3
  clear hq1 hq2 hq3 hlb hli HC3
  go_wp2_with fail
  refine (H4.out).mono ?_
  rintro e w4 ⟨rfl, hb4⟩
  have HB4 := Lib.hid (HB3.out.trans ((HQ3.out.trans (hb4.mono HQ3.out.size)).mono HB3.out.size))
  have f0' := (hb4.cell (p := ⟨w2.heap.size, 0, none⟩) (by simp; omega)).trans ((HQ3.out.cell (p := ⟨w2.heap.size, 0, none⟩) hlt5).trans f0)
  clear H4 HQ3 hb4
  go_wp2_with fail
  go_ret
  exact ⟨by simp, HB4.out⟩
end Go.Proofs.YtkbblbgiheclfaaDoor
