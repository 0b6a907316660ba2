/- nvt.Lay. -/
import Derived.Test.YtkbblbgiheclfaaDoorDA
namespace Go.Proofs.YtkbblbgiheclfaaDoor.Dr
open Go.RowKit Go.Proofs.YtkbblbgiheclfaaDoorW.PrintWords

def OctP (w : World) (bs : List Int) (e : Ending) (w' : World) : Prop := ∃ v, e = .returned v ∧ kB.R 5 w' w.heap.size (fun k => w.heap.size ≤ k) v bs ∧ Below w.heap.size w w'
theorem LawB.bound {w : World} {ok : Nat → Prop} {p : Nat} {ys : List Int} (h : LawB w ok p ys) : LawB w (fun k => ok k ∧ k < w.heap.size) p ys := by
  obtain ⟨hp, B, cc, hk, hF⟩ := h
  exact ⟨⟨hp, blk_lt hk⟩, B, cc, hk, Kd.F_bound hF⟩
theorem LawsA.bound {w : World} {ok : Nat → Prop} {fs : Array Value} {k : Nat} {f : Nat → List Int} (h : LawsA w ok fs k f) : LawsA w (fun k => ok k ∧ k < w.heap.size) fs k f :=
  ⟨h.1, h.2.1, fun c hc => by obtain ⟨p, h1, h2⟩ := h.2.2 c hc; exact ⟨p, h1, h2.bound⟩⟩
theorem lay_snoc (bs : List Int) (k : Nat) (hk : k < bs.length) : layF (bs.take (k + 1)) = layF (bs.take k) ++ layC (bs.getD k 0) := by
  rw [List.take_succ_eq_append_getElem hk, layF, List.flatMap_append, List.getD_eq_getElem?_getD, List.getElem?_eq_getElem hk]
  simp [layF]
theorem lay_len (bs : List Int) : (layF bs).length ≤ 2 * bs.length := by
  induction bs with
  | nil => simp [layF]
  | cons c bs ih =>
    have h : (layC c).length ≤ 2 := by
      unfold layC
      split
      · simp
      · split <;> simp
    simp only [layF, List.flatMap_cons, List.length_append, List.length_cons] at ih ⊢
    omega
/-- Behind k octets: the laws in block g, what was laid in v. -/
def LyR (w : World) (g : Nat) (fs : Array Value) (xs : List Int) (v : Value) (wr : World) : Prop := kB.R 5 wr w.heap.size (fun x => g < x) v xs ∧ LawsA wr (fun x => w.heap.size ≤ x ∧ x < g) fs 256 (fun c => layC c) ∧ wr.heap[g]? = some (.cells fs 57 (0, 0)) ∧ Below w.heap.size w wr
set_option maxHeartbeats 4000000 in
set_option maxRecDepth 100000 in
theorem lay_any (A : Option Addr) (c : Nat) (bs : List Int) (w : World) (hC : kB.C w A bs.length bs) (hl : bs.length ≤ 1000000) (ho : Oct bs) : Calls Tryd.prog 18 #[.slice A bs.length c] w (OctP w (layF bs)) := by
  have HLW := Lib.hid laws_any
  have HC := Lib.hid hC
  have HO := Lib.hid ho
  clear hC ho
  obtain ⟨i0, hi, hi1, hi2, hi3⟩ := info_parts info_u8
  have HI := Lib.hid (And.intro hi (And.intro hi1 (And.intro hi2 hi3)))
  clear hi hi1 hi2 hi3
  go_enter Tryd.func18, Tryd.ntmps18
  go_wp2_with fail
  refine (HLW.out _).mono ?_
  rintro e w1 ⟨fs, rfl, hA, hb1⟩
  have hb0 := hb1.trans ((below_alloc (Below.refl _ w1) (.cells Tryd.zeroCells57 57)).mono hb1.size)
  have hk := alloc_at w1 (.cells Tryd.zeroCells57 57)
  have hA1 := LawsA.step (w1 := w1.alloc (.cells Tryd.zeroCells57 57)) hA.bound (fun x hx _ => (below_alloc (Below.refl _ w1) (.cells Tryd.zeroCells57 57)).block x hx.2)
  have hsz2 : (Tryd.prog.info? 57).map (·.size) = some fs.size := by rw [hA.1]; exact info57
  have hold : Tryd.zeroCells57.size = fs.size := by rw [hA.1]; kernel_rfl
  have hall : fs.all (fun v => v.oneCell') = true := Array.all_eq_true.2 (fun j hj => hA.2.1 j _ (Array.getElem?_eq_getElem hj))
  have hlt1 := hb1.size
  have HK := Lib.hid hk
  have HG := Lib.hid (setRow_heap _ w1.heap.size _ fs 57 (0, 0) hk)
  have HA := Lib.hid (LawsA.step (w1 := (w1.alloc (.cells Tryd.zeroCells57 57)).setRow w1.heap.size fs) hA1 (fun x hx _ => setRow_other _ w1.heap.size x fs (by omega)))
  have HB := Lib.hid (below_setRow hb0 hb1.size fs)
  have HSZ := Lib.hid (show ((w1.alloc (.cells Tryd.zeroCells57 57)).setRow w1.heap.size fs).heap.size = w1.heap.size + 1 by rw [setRow_size, World.size_alloc])
  have HS2 := Lib.hid hsz2
  have HOLD := Lib.hid hold
  have HALL := Lib.hid hall
  clear hb1 hb0 hA hA1 hk hsz2 hold hall
  go_wp2_with (first
    | (refine wpList_store_row rfl 57 (.tmp 3) (.tmp 7) rfl w1.heap.size fs rfl rfl 57 _ HK.out HS2.out HOLD.out HALL.out ?_; generalize hw2 : (w1.alloc (.cells Tryd.zeroCells57 57)).setRow w1.heap.size fs = w2 at *; clear hw2)
    | (refine wpList_make_own w2 rfl (.const (.int .i64 0)) (.tmp 9) 22 rfl w.heap.size 5 i0 (.int .u8 0) 1 Tryd.underlying22 HI.out.1 HI.out.2.1 HI.out.2.2.1 .i64 .i64 bs.length bs.length rfl rfl rfl (by rw [HI.out.2.2.2]; omega) (by unfold maxLen; omega) HB.out.size ?_; intro w3 hown hg3; have HOWN := Lib.hid hown; have HG3 := Lib.hid hg3; clear hown hg3))
  have hlt2 : w1.heap.size < w2.heap.size := by rw [HSZ.out]; omega
  have HREL : Hid (LyR w w1.heap.size fs (layF (bs.take 0)) (.slice (some ⟨w2.heap.size, 0, none⟩) 0 bs.length) w3) := Lib.hid ⟨Kd.R_of_own (h1 := fun _ => rfl) HOWN.out (fun k hk => by
      have : w2.heap.size = k := by simpa [Value.ownBlock] using hk
      omega), HA.out.step (fun x _ hx => HG3.out.block x hx (by simp)), (HG3.out.block _ hlt2 (by simp)).trans HG.out, HB.out.grown HG3.out HB.out.size (fun k hk => by cases hk)⟩
  clear HOWN HG3 HG HA HB HSZ HK HS2 HOLD HALL HLW HI
  go_loopw [4, 13] (fun v4 v13 wr => ∃ k : Nat, k ≤ bs.length ∧ v13 = .int .i64 k ∧ LyR w w1.heap.size fs (layF (bs.take k)) v4 wr) (fun _ v13 _ => bs.length - (intOf v13).toNat)
  case atStart => exact ⟨0, Nat.zero_le _, rfl, HREL.out⟩
  case round =>
    obtain ⟨k, hk, rfl, hR, hA, hg, hb⟩ := hrel
    clear HREL
    obtain ⟨A4, c4, rfl⟩ := Kd.R_slice hR
    by_cases hlt : k < bs.length
    · obtain ⟨ad, rfl, hx⟩ := u8_at HC.out k hlt
      have hbx := World.block_lt_of_cell? w _ hx
      have hcell := (hb.cell hbx).trans hx
      have hlen := lay_len (bs.take k)
      have htk : (bs.take k).length ≤ k := by rw [List.length_take]; omega
      have HSN := Lib.hid (lay_snoc bs k hlt)
      obtain ⟨hc0, hc1⟩ := HO.out.at k
      obtain ⟨m, hm⟩ := Int.eq_ofNat_of_zero_le hc0
      rw [hm] at hcell HSN hc1
      obtain ⟨p, hp, hL⟩ : ∃ p, fs[m]? = some (lawV p) ∧ LawB wr (fun x => w.heap.size ≤ x ∧ x < w1.heap.size) p (layC (m : Int)) := hA.2.2 m (by omega)
      have hfn := (blk_cell hg m).trans hp
      have hm2 : (layC (m : Int)).length ≤ 2 := by
        unfold layC
        split
        · simp
        · split <;> simp
      have HE := Lib.hid (ext_any (w0 := w) hR hL (fun k hk => by have := blk_lt hg; omega) hb hb.size (by omega))
      have HA := Lib.hid hA
      have HG := Lib.hid hg
      have hokv : ∀ x, (Value.slice A4 (layF (bs.take k)).length c4).ownBlock = some x → w1.heap.size < x := hR.1
      have HOK := Lib.hid hokv
      clear hx hR hA hg hb hp hL hm hbx hokv
      go_wp2_with (go_at_call 45; refine (HE.out).mono ?_; rintro e w4 ⟨v1, rfl, hR1, hb1, hg1, ho1⟩; have HX := Lib.hid (show LyR w w1.heap.size fs (layF (bs.take (k + 1))) v1 w4 from ⟨by rw [HSN.out]; exact hR1, HA.out.step (fun x hx hlt => hg1.block x hlt (fun he => by have := HOK.out x he.symm; omega)), (hg1.block _ (blk_lt HG.out) (fun he => by have := HOK.out _ he.symm; omega)).trans HG.out, hb1⟩); clear hR1 hb1 hg1 ho1)
      go_roundw
      case rel => exact ⟨k + 1, by omega, by go_num, HX.out⟩
      case measure => simp [intOf]; omega
    · have hke : bs.take k = bs := List.take_of_length_le (by omega)
      rw [hke] at hR
      have HP := Lib.hid (show OctP w (layF bs) (.returned (.slice A4 (layF bs).length c4)) wr from ⟨_, rfl, Kd.R_mono hR (fun k hk => by omega), hb⟩)
      clear hR hA hg hb
      rw [hke]
      go_wp2_with fail
      go_ret
      exact HP.out
end Go.Proofs.YtkbblbgiheclfaaDoor.Dr
