/- Feed. -/
import Derived.Test.YtkbblbgiheclfaaDoorRE
namespace Go.Proofs.YtkbblbgiheclfaaDoor
open Go.RowKit Go.Proofs.YtkbblbgiheclfaaDoorW.PrintWords

theorem run_store_func {P : Program} {w : World} {a : Addr} {m : Mode} (f : Fn) (x y : Array Value) : (store a (.func f x y) m).run P w = stored P w a (.func f x y) m := run_store P w a _ m rfl
attribute [local go_sem] run_store_func

def stepsA : Array Value := #[.func (.func 47) #[] #[], .func (.func 48) #[] #[], .func (.func 49) #[] #[], .func (.func 50) #[] #[], .func (.func 51) #[] #[], .func (.func 52) #[] #[], .func (.func 53) #[] #[], .func (.func 54) #[] #[], .func (.func 55) #[] #[]]
theorem steps_any (w : World) : Calls Tryd.prog 41 #[] w (ValP w (.agg #[.func (.func 47) #[] #[], .func (.func 48) #[] #[], .func (.func 49) #[] #[], .func (.func 50) #[] #[], .func (.func 51) #[] #[], .func (.func 52) #[] #[], .func (.func 53) #[] #[], .func (.func 54) #[] #[], .func (.func 55) #[] #[]])) := by
  go_enter Tryd.func41, Tryd.ntmps41
  go_wp2
  refine bodyPost_ret (v := .agg #[.func (.func 47) #[] #[], .func (.func 48) #[] #[], .func (.func 49) #[] #[], .func (.func 50) #[] #[], .func (.func 51) #[] #[], .func (.func 52) #[] #[], .func (.func 53) #[] #[], .func (.func 54) #[] #[], .func (.func 55) #[] #[]]) (by simp [results, Tryd.results41, go_sem]) rfl ⟨rfl, ?_⟩
  exact (Below.refl _ w).alloc (Nat.le_refl _) _

/-- What Feed answers. -/
def FeedP (w : World) (r : Rd) (xs : List It) (er : Int) (e : Ending) (w' : World) : Prop := ∃ A c B d, e = .returned (.tuple #[.agg #[.int .i64 r.i, .int .i64 r.v, .int .i64 r.o, .slice A r.l.length c], .slice B xs.length d, .int .i64 er]) ∧
  r.l.length ≤ c ∧ xs.length ≤ d ∧ Kd.F kB w' (fun k => w.heap.size ≤ k) A r.l.length r.l ∧ Kd.F kIt w' (fun k => w.heap.size ≤ k) B xs.length xs ∧ Below w.heap.size w w'

set_option maxHeartbeats 4000000 in
set_option maxRecDepth 100000 in
theorem feed_no (r : Rd) (A Bo : Option Addr) (c d m : Nat) (w : World) (hm : mayR r = false) :
    Calls Tryd.prog 27 #[.agg #[.int .i64 r.i, .int .i64 r.v, .int .i64 r.o, .slice A r.l.length c], .slice Bo m d] w (ValP w (.tuple #[.agg #[.int .i64 r.i, .int .i64 r.v, .int .i64 r.o, .slice A r.l.length c], .slice none 0 0, .int .i64 1])) := by
  have HCK := Lib.hid (fun w' => rcheck_any r A c w')
  have HE : Hid (errR r = 1) := Lib.hid (by unfold errR; rw [hm]; rfl)
  rw [HE.out] at HCK
  clear hm HE
  obtain ⟨i, v, o, l⟩ := r
  dsimp only at *
  go_enter Tryd.func27, Tryd.ntmps27
  go_wp2_with fail
  refine (HCK.out _).mono ?_
  rintro e w1 ⟨rfl, hb1⟩
  obtain ⟨hcl, hfr⟩ := bcell hb1
  have HB1 := Lib.hid hb1
  clear hb1 HCK
  go_wp2_with fail
  refine bodyPost_ret (v := .tuple #[.agg #[.int .i64 i, .int .i64 v, .int .i64 o, .slice A l.length c], .slice none 0 0, .int .i64 1]) (by simp [results, Tryd.results27, go_sem, hcl]) rfl ?_
  have hbw : Below w.heap.size w w1 := (((Below.refl _ w).alloc (Nat.le_refl _) _).alloc (by simp) _).trans (HB1.out.mono (by simp; omega))
  have hb2 := (((hbw.setCell (p := ⟨w.heap.size + 1, 0, none⟩) (Nat.le_succ _) (.int .i64 i)).setCell (p := ⟨w.heap.size + 1, 1, none⟩) (Nat.le_succ _) (.int .i64 v)).setCell (p := ⟨w.heap.size + 1, 2, none⟩) (Nat.le_succ _) (.int .i64 o)).setCell (p := ⟨w.heap.size + 1, 3, none⟩) (Nat.le_succ _) (.slice A l.length c)
  exact ⟨rfl, hb2⟩

theorem blk_facts4 {w : World} {g T : Nat} {a b c d : Value} (h : w.heap[g]? = some (.cells #[a, b, c, d] T (0, 0))) :
    w.cell? ⟨g, 0, none⟩ = some a ∧ w.cell? ⟨g, 1, none⟩ = some b ∧ w.cell? ⟨g, 2, none⟩ = some c ∧ w.cell? ⟨g, 3, none⟩ = some d ∧
      w.frozen? ⟨g, 0, none⟩ = false ∧ w.frozen? ⟨g, 1, none⟩ = false ∧ w.frozen? ⟨g, 2, none⟩ = false ∧ w.frozen? ⟨g, 3, none⟩ = false :=
  ⟨blk_cell h 0, blk_cell h 1, blk_cell h 2, blk_cell h 3, blk_frozen h 0, blk_frozen h 1, blk_frozen h 2, blk_frozen h 3⟩
theorem alloc_at (w : World) (o : Obj) : (w.alloc o).heap[w.heap.size]? = some o := by
  show (w.heap.push o)[w.heap.size]? = some o
  simp
theorem step_0 (v o : Int) (l : List Int) (c : Int) : stepF ⟨0, v, o, l⟩ c = dataF c := by simp [stepF]
theorem step_1 (v o : Int) (l : List Int) (c : Int) : stepF ⟨1, v, o, l⟩ c = backF c := by simp [stepF]
theorem step_2 (v o : Int) (l : List Int) (c : Int) : stepF ⟨2, v, o, l⟩ c = cmdF c := by simp [stepF]
theorem step_3 (v o : Int) (l : List Int) (c : Int) : stepF ⟨3, v, o, l⟩ c = verbF ⟨3, v, o, l⟩ c := by simp [stepF]
theorem step_4 (v o : Int) (l : List Int) (c : Int) : stepF ⟨4, v, o, l⟩ c = optF c := by simp [stepF]
theorem step_5 (v o : Int) (l : List Int) (c : Int) : stepF ⟨5, v, o, l⟩ c = subF ⟨5, v, o, l⟩ c := by simp [stepF]
theorem step_6 (v o : Int) (l : List Int) (c : Int) : stepF ⟨6, v, o, l⟩ c = endF ⟨6, v, o, l⟩ c := by simp [stepF]
theorem step_7 (v o : Int) (l : List Int) (c : Int) : stepF ⟨7, v, o, l⟩ c = skipF ⟨7, v, o, l⟩ c := by simp [stepF]
theorem step_8 (v o : Int) (l : List Int) (c : Int) : stepF ⟨8, v, o, l⟩ c = skeF c := by simp [stepF]
set_option maxHeartbeats 4000000 in
set_option maxRecDepth 100000 in
theorem feed_yes (r : Rd) (A Bo : Option Addr) (c d : Nat) (bs : List Int) (w : World) (hC : kB.C w A r.l.length r.l) (hc : r.l.length ≤ c) (hm : mayR r = true) (hb : kB.C w Bo bs.length bs) (hl : bs.length ≤ 100000) (ho : Oct bs) :
    Calls Tryd.prog 27 #[.agg #[.int .i64 r.i, .int .i64 r.v, .int .i64 r.o, .slice A r.l.length c], .slice Bo bs.length d] w (FeedP w (feedF r bs).1 (feedF r bs).2 0) := by
  have HCK := Lib.hid (fun w' => rcheck_any r A c w')
  have HE : Hid (errR r = 0) := Lib.hid (by unfold errR; rw [hm]; rfl)
  rw [HE.out] at HCK
  have HC := Lib.hid hC
  have HBS := Lib.hid hb
  have HO := Lib.hid ho
  have HM := Lib.hid hm
  have hl512 := ((mayR_iff r).1 hm).1.2.2.1
  have HF := Lib.hid (show ∃ r' xs, feedF r bs = (r', xs) from ⟨_, _, rfl⟩)
  clear hm hC HE hb ho
  have HR : Hid (∃ q : Rd, q = r) := Lib.hid ⟨r, rfl⟩
  obtain ⟨q, hq⟩ := HR.out
  have HQ := Lib.hid hq
  clear hq HR
  obtain ⟨i, v, o, l⟩ := r
  dsimp only at *
  go_enter Tryd.func27, Tryd.ntmps27
  go_wp2_with fail
  refine (HCK.out _).mono ?_
  rintro e w1 ⟨rfl, hb1⟩
  have hk1 : w1.heap[w.heap.size]? = some (.cells #[.int .i64 i, .int .i64 v, .int .i64 o, .slice A l.length c] 48 (0, 0)) :=
    (hb1.block w.heap.size (by simp; omega)).trans (((below_alloc (Below.refl _ (w.alloc (.cells #[.int .i64 i, .int .i64 v, .int .i64 o, .slice A l.length c] 48))) (.cells #[.int .i64 0, .int .i64 0, .int .i64 0, .slice none 0 0] 48)).block w.heap.size (by simp)).trans (alloc_at w _))
  have hj1 : w1.heap[w.heap.size + 1]? = some (.cells #[.int .i64 0, .int .i64 0, .int .i64 0, .slice none 0 0] 48 (0, 0)) :=
    (hb1.block (w.heap.size + 1) (by simp)).trans (by
      have := alloc_at (w.alloc (.cells #[.int .i64 i, .int .i64 v, .int .i64 o, .slice A l.length c] 48)) (.cells #[.int .i64 0, .int .i64 0, .int .i64 0, .slice none 0 0] 48)
      rw [World.size_alloc] at this
      exact this)
  have hsz := hb1.size
  have hbw : Below w.heap.size w w1 := (((Below.refl _ w).alloc (Nat.le_refl _) _).alloc (by simp) _).trans (hb1.mono (by simp; omega))
  have hsz2 : w.heap.size + 2 ≤ w1.heap.size := by simpa using hsz
  clear hsz
  have HBW := Lib.hid hbw
  have HCL := Lib.hid (clone_any A c l w1 (Kd.C_below HC.out hbw) (by omega))
  obtain ⟨b0, b1, b2, b3, d0, d1, d2, d3⟩ := blk_facts4 hk1
  have HK1 := Lib.hid hk1
  have HJ1 := Lib.hid hj1
  clear hb1 HCK hbw hk1 hj1
  go_wp2_with fail
  refine (HCL.out).mono ?_
  rintro e w2 ⟨vL, rfl, hrL, hb2⟩
  clear b0 b1 b2 b3 d0 d1 d2 d3
  have hk2 := (hb2.block _ (by omega)).trans HK1.out
  have hj2 := (hb2.block _ (by omega)).trans HJ1.out
  obtain ⟨A1, c1, rfl, hle1, hC1⟩ := Kd.R_reads hrL
  have hk2' := blk_set hk2 3 (.slice A1 l.length c1)
  obtain ⟨b0, b1, b2, b3, d0, d1, d2, d3⟩ := blk_facts4 hk2
  have hsz3 := hb2.size
  have hlt3 : w.heap.size < w2.heap.size := by omega
  have hlt5 : ¬ w.heap.size = w2.heap.size := by omega
  have HK2 := Lib.hid hk2'
  have HJ2 := Lib.hid (blk_far hj2 (p := ⟨w.heap.size, 3, none⟩) (Nat.succ_ne_self _) (.slice A1 l.length c1))
  have HRL := Lib.hid (Kd.R_move hrL (w1 := w2.setCell ⟨w.heap.size, 3, none⟩ (.slice A1 l.length c1)) (fun k hk => Below.heap_setCell w2 ⟨w.heap.size, 3, none⟩ _ k (by show k ≠ w.heap.size; omega)))
  have HBW2 := Lib.hid ((HBW.out.trans (hb2.mono (by omega))).setCell (p := ⟨w.heap.size, 3, none⟩) (Nat.le_refl _) (.slice A1 l.length c1))
  have hg2 : (w2.setCell ⟨w.heap.size, 3, none⟩ (.slice A1 l.length c1)).heap.size = w2.heap.size := by simp
  have HG2 := Lib.hid hg2
  clear hrL hb2 hC1 HCL hk2 hj2 hk2' HBW HK1 HJ1 hg2
  skip
  go_wp2_with fail
  refine (steps_any _).mono ?_
  rintro e w5 ⟨rfl, hb5⟩
  have hsz5 := hb5.size
  rw [World.size_alloc, HG2.out] at hsz5
  have hK5 : w5.heap[w2.heap.size]? = some (.cells #[.int .i64 i, .int .i64 v, .int .i64 o, .slice A1 l.length c1, .slice none 0 0] 67 (0, 0)) := (hb5.block _ (by rw [World.size_alloc, HG2.out]; omega)).trans (by rw [← HG2.out]; exact alloc_at _ _)
  have hba := below_alloc (Below.refl _ (w2.setCell ⟨w.heap.size, 3, none⟩ (.slice A1 l.length c1))) (.cells #[.int .i64 i, .int .i64 v, .int .i64 o, .slice A1 l.length c1, .slice none 0 0] 67)
  have hb6 := hba.trans (hb5.mono hba.size)
  have hJ5 := (hb6.block _ (by rw [HG2.out]; omega)).trans HJ2.out
  have hbw5 := HBW2.out.trans (hb6.mono (by rw [HG2.out]; omega))
  have hlt7 : w2.heap.size < w5.heap.size := by omega
  have hlt8 : w.heap.size + 1 < w5.heap.size := by omega
  have hal := below_alloc (Below.refl _ w5) (.cells stepsA 69)
  have HBW6 := Lib.hid (hbw5.trans (hal.mono (by omega)))
  have HWS0 : Hid (WS (w5.alloc (.cells stepsA 69)) w1.heap.size w2.heap.size (fun b fs T => (b = w.heap.size + 1 ∧ fs = #[.int .i64 0, .int .i64 0, .int .i64 0, .slice none 0 0] ∧ T = 48) ∨ (b = w5.heap.size ∧ fs = stepsA ∧ T = 69)) (w5.alloc (.cells stepsA 69)) (feedF q (bs.take 0)).1 (.slice A1 l.length c1) (.slice none 0 0) (feedF q (bs.take 0)).2) := Lib.hid (by
    rw [HQ.out, List.take_zero]
    refine ⟨(hal.block _ hlt7).trans hK5, hsz3, ?_, Kd.N_nil _ _ _ _ _, Below.refl _ _, ?_⟩
    · exact Kd.R_mono (Kd.R_below (Kd.R_below (Kd.R_bound HRL.out) hb6) hal) (fun k hk => ⟨hk.1, by have := hk.2.2.1; rw [HG2.out] at this; omega⟩)
    · rintro b fs T (⟨rfl, rfl, rfl⟩ | ⟨rfl, rfl, rfl⟩)
      · exact ⟨(hal.block _ hlt8).trans hJ5, by decide, by decide, by decide⟩
      · exact ⟨alloc_at _ _, by decide, by decide, by decide⟩)
  clear hb5 hK5 hba hb6 hJ5 hbw5 hal HRL HK2 HJ2 HBW2 b0 b1 b2 b3 d0 d1 d2 d3 hle1
  have hMQ : mayR q = true := by rw [HQ.out]; exact HM.out
  have HMQ := Lib.hid hMQ
  have HFE := Lib.hid (show feedF (⟨i, v, o, l⟩ : Rd) bs = feedF q bs from by rw [HQ.out])
  clear hMQ HM HF HQ
  have hsp : w5.heap.size = w5.heap.size := rfl
  clear hsp
  go_wp2_with fail
  generalize hw6 : w5.alloc (.cells stepsA 69) = w6 at *
  have hw6' : w5.alloc (.cells #[.func (.func 47) #[] #[], .func (.func 48) #[] #[], .func (.func 49) #[] #[], .func (.func 50) #[] #[], .func (.func 51) #[] #[], .func (.func 52) #[] #[], .func (.func 53) #[] #[], .func (.func 54) #[] #[], .func (.func 55) #[] #[]] 69) = w6 := hw6
  try rw [hw6']
  clear hw6 hw6'
  go_loopw [28] (fun u28 wr => ∃ k : Nat, k ≤ bs.length ∧ u28 = .int .i64 k ∧ ∃ vL vO, WS w6 w1.heap.size w2.heap.size (fun b fs T => (b = w.heap.size + 1 ∧ fs = #[.int .i64 0, .int .i64 0, .int .i64 0, .slice none 0 0] ∧ T = 48) ∨ (b = w5.heap.size ∧ fs = stepsA ∧ T = 69)) wr (feedF q (bs.take k)).1 vL vO (feedF q (bs.take k)).2) (fun u28 _ => bs.length - (intOf u28).toNat)
  case atStart => exact ⟨0, Nat.zero_le _, rfl, _, _, HWS0.out⟩
  case round =>
    obtain ⟨k, hk, rfl, vL, vO, hws⟩ := hrel
    clear HWS0
    have hmr := may_feed (bs.take k) q HMQ.out (HO.out.take k)
    have hln := len_feed (bs.take k) q
    have hlt9 : (bs.take k).length ≤ bs.length := by rw [List.length_take]; omega
    have hlo : (feedF q (bs.take k)).2.length ≤ 1000000 := by omega
    by_cases hlt : k < bs.length
    · have hsn := feed_snoc q bs k hlt
      obtain ⟨ad, rfl, hx⟩ := u8_at HBS.out k hlt
      have hbw := HBW6.out.trans (hws.below.mono (by omega))
      have hcell := (hbw.cell (cell_block hx)).trans hx
      have hc := HO.out.at k
      obtain ⟨hsp1, _⟩ := hws.spare w5.heap.size stepsA 69 (.inr ⟨rfl, rfl, rfl⟩)
      clear hx hbw hln hlt9
      have HSN := Lib.hid hsn
      clear hsn
      generalize bs.getD k 0 = cc at *
      generalize (feedF q (bs.take k)).2 = out at *
      generalize (feedF q (bs.take k)).1 = r' at *
      obtain ⟨i', v', o', l'⟩ := r'
      have hm2 := (mayR_iff _).1 hmr
      have hll : l'.length ≤ 1000000 := by have := hm2.1.2.2.1; dsimp only at this; omega
      have hi0 : 0 ≤ i' := hm2.1.1
      have hi9 : i' < 9 := hm2.1.2.1
      have H := Lib.hid hws
      obtain ⟨f0, _, _, _, _, _, _, _, _, _⟩ := hws.facts
      dsimp only at f0
      clear hm2 hmr hws
      have hcases : i' = 0 ∨ i' = 1 ∨ i' = 2 ∨ i' = 3 ∨ i' = 4 ∨ i' = 5 ∨ i' = 6 ∨ i' = 7 ∨ i' = 8 := by omega
      rcases hcases with rfl | rfl | rfl | rfl | rfl | rfl | rfl | rfl | rfl
      · have hfn : wr.cell? ⟨w5.heap.size, 0, none⟩ = some (.func (.func 47) #[] #[]) := blk_cell hsp1 0
        have HST := Lib.hid (step_0 v' o' l' cc)
        have HMC := Lib.hid (wdata_any cc hc H.out hlo)
        clear hsp1 hi0 hi9 H hll
        go_wp2_with (go_at_call 47; refine (HMC.out).mono ?_; rintro e w' ⟨v2, vL', vO', rfl, hws⟩; have HWS := Lib.hid hws; clear hws)
        go_roundw
        case rel => exact ⟨k + 1, by omega, by go_num, vL', vO', by rw [HSN.out, HST.out]; exact HWS.out⟩
        case measure => simp [intOf]; omega
      · have hfn : wr.cell? ⟨w5.heap.size, 1, none⟩ = some (.func (.func 48) #[] #[]) := blk_cell hsp1 1
        have HST := Lib.hid (step_1 v' o' l' cc)
        have HMC := Lib.hid (wback_any cc hc H.out hlo)
        clear hsp1 hi0 hi9 H hll
        go_wp2_with (go_at_call 48; refine (HMC.out).mono ?_; rintro e w' ⟨v2, vL', vO', rfl, hws⟩; have HWS := Lib.hid hws; clear hws)
        go_roundw
        case rel => exact ⟨k + 1, by omega, by go_num, vL', vO', by rw [HSN.out, HST.out]; exact HWS.out⟩
        case measure => simp [intOf]; omega
      · have hfn : wr.cell? ⟨w5.heap.size, 2, none⟩ = some (.func (.func 49) #[] #[]) := blk_cell hsp1 2
        have HST := Lib.hid (step_2 v' o' l' cc)
        have HMC := Lib.hid (wcmd_any cc hc H.out hlo)
        clear hsp1 hi0 hi9 H hll
        go_wp2_with (go_at_call 49; refine (HMC.out).mono ?_; rintro e w' ⟨v2, vL', vO', rfl, hws⟩; have HWS := Lib.hid hws; clear hws)
        go_roundw
        case rel => exact ⟨k + 1, by omega, by go_num, vL', vO', by rw [HSN.out, HST.out]; exact HWS.out⟩
        case measure => simp [intOf]; omega
      · have hfn : wr.cell? ⟨w5.heap.size, 3, none⟩ = some (.func (.func 50) #[] #[]) := blk_cell hsp1 3
        have HST := Lib.hid (step_3 v' o' l' cc)
        have HMC := Lib.hid (wverb_any cc hc H.out hlo)
        clear hsp1 hi0 hi9 H hll
        go_wp2_with (go_at_call 50; refine (HMC.out).mono ?_; rintro e w' ⟨v2, vL', vO', rfl, hws⟩; have HWS := Lib.hid hws; clear hws)
        go_roundw
        case rel => exact ⟨k + 1, by omega, by go_num, vL', vO', by rw [HSN.out, HST.out]; exact HWS.out⟩
        case measure => simp [intOf]; omega
      · have hfn : wr.cell? ⟨w5.heap.size, 4, none⟩ = some (.func (.func 51) #[] #[]) := blk_cell hsp1 4
        have HST := Lib.hid (step_4 v' o' l' cc)
        have HMC := Lib.hid (wopt_any cc hc H.out)
        clear hsp1 hi0 hi9 H hll
        go_wp2_with (go_at_call 51; refine (HMC.out).mono ?_; rintro e w' ⟨v2, vL', vO', rfl, hws⟩; have HWS := Lib.hid hws; clear hws)
        go_roundw
        case rel => exact ⟨k + 1, by omega, by go_num, vL', vO', by rw [HSN.out, HST.out]; exact HWS.out⟩
        case measure => simp [intOf]; omega
      · have hfn : wr.cell? ⟨w5.heap.size, 5, none⟩ = some (.func (.func 52) #[] #[]) := blk_cell hsp1 5
        have HST := Lib.hid (step_5 v' o' l' cc)
        have HMC := Lib.hid (wsub_any cc H.out hll)
        clear hsp1 hi0 hi9 H hll
        go_wp2_with (go_at_call 52; refine (HMC.out).mono ?_; rintro e w' ⟨v2, vL', vO', rfl, hws⟩; have HWS := Lib.hid hws; clear hws)
        go_roundw
        case rel => exact ⟨k + 1, by omega, by go_num, vL', vO', by rw [HSN.out, HST.out]; exact HWS.out⟩
        case measure => simp [intOf]; omega
      · have hfn : wr.cell? ⟨w5.heap.size, 6, none⟩ = some (.func (.func 53) #[] #[]) := blk_cell hsp1 6
        have HST := Lib.hid (step_6 v' o' l' cc)
        have HMC := Lib.hid (wend_any cc hc H.out hlo hll)
        clear hsp1 hi0 hi9 H hll
        go_wp2_with (go_at_call 53; refine (HMC.out).mono ?_; rintro e w' ⟨v2, vL', vO', rfl, hws⟩; have HWS := Lib.hid hws; clear hws)
        go_roundw
        case rel => exact ⟨k + 1, by omega, by go_num, vL', vO', by rw [HSN.out, HST.out]; exact HWS.out⟩
        case measure => simp [intOf]; omega
      · have hfn : wr.cell? ⟨w5.heap.size, 7, none⟩ = some (.func (.func 54) #[] #[]) := blk_cell hsp1 7
        have HST := Lib.hid (step_7 v' o' l' cc)
        have HMC := Lib.hid (wskip_any cc H.out)
        clear hsp1 hi0 hi9 H hll
        go_wp2_with (go_at_call 54; refine (HMC.out).mono ?_; rintro e w' ⟨v2, vL', vO', rfl, hws⟩; have HWS := Lib.hid hws; clear hws)
        go_roundw
        case rel => exact ⟨k + 1, by omega, by go_num, vL', vO', by rw [HSN.out, HST.out]; exact HWS.out⟩
        case measure => simp [intOf]; omega
      · have hfn : wr.cell? ⟨w5.heap.size, 8, none⟩ = some (.func (.func 55) #[] #[]) := blk_cell hsp1 8
        have HST := Lib.hid (step_8 v' o' l' cc)
        have HMC := Lib.hid (wske_any cc hc H.out hlo)
        clear hsp1 hi0 hi9 H hll
        go_wp2_with (go_at_call 55; refine (HMC.out).mono ?_; rintro e w' ⟨v2, vL', vO', rfl, hws⟩; have HWS := Lib.hid hws; clear hws)
        go_roundw
        case rel => exact ⟨k + 1, by omega, by go_num, vL', vO', by rw [HSN.out, HST.out]; exact HWS.out⟩
        case measure => simp [intOf]; omega
    · obtain rfl : k = bs.length := by omega
      rw [List.take_length] at hws
      have hml : (feedF q bs).1.l.length ≤ 512 := by rw [List.take_length] at hmr; exact ((mayR_iff _).1 hmr).1.2.2.1
      obtain ⟨hsp1, _⟩ := hws.spare (w.heap.size + 1) _ _ (.inl ⟨rfl, rfl, rfl⟩)
      have hll2 := len_feed bs q
      clear hmr hln hlo hlt9
      obtain ⟨xL, cL, rfl, hleL⟩ := hws.slice_
      obtain ⟨xO, cO, rfl⟩ := Kd.N_slice hws.rowO
      obtain ⟨f0, f1, f2, f3, f4, _, _, _, _, _⟩ := hws.facts
      obtain ⟨g0, g1, g2, g3, z0, z1, z2, z3⟩ := blk_facts4 hsp1
      have hne : ¬ w2.heap.size = w.heap.size + 1 := by omega
      have H := Lib.hid hws
      have HBWR := Lib.hid (HBW6.out.trans (hws.below.mono (by omega)))
      clear hws hsp1
      have HEQ := Lib.hid (show feedF (⟨i, v, o, l⟩ : Rd) bs = ((feedF q bs).1, (feedF q bs).2) from HFE.out)
      clear HFE
      generalize (feedF q bs).2 = out at *
      generalize (feedF q bs).1 = r' at *
      obtain ⟨i', v', o', l'⟩ := r'
      dsimp only at *
      go_wp2_with fail
      go_region
      all_goals
        go_wp2_with fail
        refine bodyPost_ret (v := .tuple #[.agg #[.int .i64 i', .int .i64 v', .int .i64 o', .slice xL l'.length cL], .slice xO out.length cO, .int .i64 0]) (by simp [results, Tryd.results27, go_sem, g0, g1, g2, g3]) rfl ?_
        have hb9 := ((((HBWR.out.setCell (p := ⟨w.heap.size + 1, 0, none⟩) (Nat.le_succ _) (.int .i64 i')).setCell (p := ⟨w.heap.size + 1, 1, none⟩) (Nat.le_succ _) (.int .i64 v')).setCell (p := ⟨w.heap.size + 1, 2, none⟩) (Nat.le_succ _) (.int .i64 o')).setCell (p := ⟨w.heap.size + 1, 3, none⟩) (Nat.le_succ _) (.slice xL l'.length cL)).drew
        have hLL := Kd.R_move H.out.rowL (w1 := ((((wr.setCell ⟨w.heap.size + 1, 0, none⟩ (.int .i64 i')).setCell ⟨w.heap.size + 1, 1, none⟩ (.int .i64 v')).setCell ⟨w.heap.size + 1, 2, none⟩ (.int .i64 o')).setCell ⟨w.heap.size + 1, 3, none⟩ (.slice xL l'.length cL)).drew) (fun k hk => blk_four_far (by omega) _ _ _ _)
        have hOO := Kd.N_step H.out.rowO (w1 := ((((wr.setCell ⟨w.heap.size + 1, 0, none⟩ (.int .i64 i')).setCell ⟨w.heap.size + 1, 1, none⟩ (.int .i64 v')).setCell ⟨w.heap.size + 1, 2, none⟩ (.int .i64 o')).setCell ⟨w.heap.size + 1, 3, none⟩ (.slice xL l'.length cL)).drew) (fun k hk _ => blk_four_far (by omega) _ _ _ _)
        rw [HEQ.out]
        exact ⟨xL, cL, xO, cO, rfl, hleL, (Kd.N_reads' hOO).2.1, Kd.F_mono (Kd.R_F hLL) (fun k hk => by have := hk.1; omega), Kd.F_mono (Kd.N_F hOO) (fun k hk => by have := hk.1.1; omega), hb9⟩
      end Go.Proofs.YtkbblbgiheclfaaDoor
