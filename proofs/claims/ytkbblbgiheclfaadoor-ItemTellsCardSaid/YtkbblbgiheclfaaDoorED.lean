/- The law ItemData. -/
import Derived.Test.YtkbblbgiheclfaaDoorQB
import Derived.Test.YtkbblbgiheclfaaDoorEL
import Derived.Deep.RegionHeld3
namespace Go.Proofs.YtkbblbgiheclfaaDoor.Dr
open Go.RowKit Go.Proofs.YtkbblbgiheclfaaDoorW.PrintWords

theorem dat_may {c : Int} (h0 : 0 ≤ c) (h1 : c ≤ 255) : mayI (datI c) = true := by
  unfold mayI smI kindI partsI oct datI
  simp [h0, h1]
theorem dat_mays {bs : List Int} (ho : Oct bs) : mays (bs.map datI) = true := by
  unfold mays
  rw [List.all_eq_true]
  intro x hx
  obtain ⟨c, hc, rfl⟩ := List.mem_map.1 hx
  exact dat_may (ho c hc).1 (ho c hc).2
theorem dat_puts (bs : List Int) : putsF (bs.map datI) = layF bs := by
  induction bs with
  | nil => rfl
  | cons c l ih =>
    show putI (datI c) ++ putsF (l.map datI) = layC c ++ layF l
    rw [ih]
    congr 1
    simp [putI, datI, layF]
theorem dat_octs (bs : List Int) : Octs (bs.map datI) := by
  intro x hx
  obtain ⟨c, _, rfl⟩ := List.mem_map.1 hx
  exact Oct.nil
theorem dat_inj (a b : List Int) : decide (a.map datI = b.map datI) = decide (a = b) := by
  have : ∀ a b : List Int, a.map datI = b.map datI → a = b := by
    intro a
    induction a with
    | nil => intro b h; cases b with
      | nil => rfl
      | cons => cases h
    | cons x a ih => intro b h; cases b with
      | nil => cases h
      | cons y b =>
        rw [List.map_cons, List.map_cons] at h
        injection h with h1 h2
        injection h1 with _ h3
        rw [h3, ih b h2]
  by_cases h : a = b
  · rw [h, decide_eq_true rfl, decide_eq_true rfl]
  · rw [decide_eq_false h, decide_eq_false (fun e => h (this a b e))]
theorem dat_get (a : List Int) (k : Nat) (h : k < a.length) : (a.map datI).getD k zIt = datI (a.getD k 0) := by
  rw [List.getD_eq_getElem?_getD, List.getD_eq_getElem?_getD, List.getElem?_map, List.getElem?_eq_getElem h]
  rfl
theorem dat_err {c : Int} (h0 : 0 ≤ c) (h1 : c ≤ 255) : errI (datI c) = 0 := by
  unfold errI
  rw [dat_may h0 h1]
  rfl
theorem wrap_oct64 {a : Int} (h0 : 0 ≤ a) (h1 : a ≤ 255) : IntKind.i64.wrap a = a := by
  simp [IntKind.wrap, IntKind.signed, IntKind.bits]
  omega
set_option maxHeartbeats 4000000 in
set_option maxRecDepth 100000 in
theorem data_law (A1 A2 : Option Addr) (c1 c2 : Nat) (a0 b0 : List Int) (w : World) (hA : kB.C w A1 a0.length a0) (hc1 : a0.length ≤ c1) (hoa : Oct a0) (hB : kB.C w A2 b0.length b0) (hc2 : b0.length ≤ c2) (hob : Oct b0) :
    Calls Tryd.prog 8 #[.slice A1 a0.length c1, .slice A2 b0.length c2] w (AwakeP w) := by
  have HFA := Lib.hid (bfew_any A1 c1 a0 w hc1 hA.2.1)
  have HFB := Lib.hid (bfew_any A2 c2 b0 w hc2 hB.2.1)
  have hA2 := take_B hA 200
  have hB2 := take_B hB 200
  have hoa2 := hoa.take 200
  have hob2 := hob.take 200
  have hal : (a0.take 200).length ≤ 200 := by rw [List.length_take]; omega
  have hbl : (b0.take 200).length ≤ 200 := by rw [List.length_take]; omega
  have hac : (a0.take 200).length ≤ c1 := by rw [List.length_take]; omega
  have hbc : (b0.take 200).length ≤ c2 := by rw [List.length_take]; omega
  clear hA hc1 hoa hB hc2 hob
  generalize a0.take 200 = a at *
  generalize b0.take 200 = b at *
  generalize a0.length = na at *
  generalize b0.length = nb at *
  have HDA : Hid (Calls Tryd.prog 16 #[.slice A1 a.length c1] w (ItsP w (a.map datI))) := Lib.hid (data_any A1 c1 a w hA2 (by omega) hoa2)
  have HDB : Hid (∀ w', Below w.heap.size w w' → Calls Tryd.prog 16 #[.slice A2 b.length c2] w' (ItsP w' (b.map datI))) := Lib.hid (fun w' h => data_any A2 c2 b w' (Kd.C_below hB2 h) (by omega) hob2)
  have HSZ : Hid (∀ A c w', kIt.C w' A a.length (a.map datI) → Calls Tryd.prog 12 #[.slice A a.length c] w' (fun e w'' => e = .returned (.tuple #[.int .i64 (layF a).length, .int .i64 0]) ∧ Below w'.heap.size w' w'')) := Lib.hid (fun A c w' h => by
    have h2 := psize_any A c (a.map datI) w' (by rw [List.length_map]; exact h) (dat_octs a) (by rw [List.length_map]; omega)
    rw [(errs_yes (dat_mays hoa2)).1, (errs_yes (dat_mays hoa2)).2, dat_puts, List.length_map] at h2
    exact h2)
  have HNS : Hid (∀ w', Below w.heap.size w w' → Calls Tryd.prog 26 #[.slice A1 a.length c1] w' (fun e w'' => e = .returned (.int .i64 (layF a).length) ∧ Below w'.heap.size w' w'')) := Lib.hid (fun w' h => nsize_any A1 c1 a w' (Kd.C_below hA2 h) hac (by omega))
  have HSM : Hid (∀ A B c d w', kIt.C w' A a.length (a.map datI) → kIt.C w' B b.length (b.map datI) → Calls Tryd.prog 19 #[.slice A a.length c, .slice B b.length d] w' (BoolP w' (decide (a = b)))) := Lib.hid (fun A B c d w' h1 h2 => by
    have h3 := isame_any A B c d (a.map datI) (b.map datI) w' (by rw [List.length_map]; exact h1) (by rw [List.length_map]; exact h2) (dat_octs a) (dat_octs b)
    rw [dat_inj, List.length_map, List.length_map] at h3
    exact h3)
  have HOC : Hid (∀ w', Below w.heap.size w w' → Calls Tryd.prog 17 #[.slice A1 a.length c1, .slice A2 b.length c2] w' (BoolP w' (decide (a = b)))) := Lib.hid (fun w' h => octets_any A1 A2 c1 c2 a b w' (Kd.C_below hA2 h) hac (Kd.C_below hB2 h) hbc hoa2 hob2)
  have HGT : Hid (∀ k, k < a.length → (a.map datI).getD k zIt = datI (a.getD k 0)) := Lib.hid (fun k h => dat_get a k h)
  have HA := Lib.hid hA2
  have HO := Lib.hid hoa2
  have HAM : Hid ((a.map datI).length = a.length) := Lib.hid (List.length_map _)
  have HBM : Hid ((b.map datI).length = b.length) := Lib.hid (List.length_map _)
  clear hA2 hB2 hoa2 hob2
  generalize (layF a).length = L at *
  generalize decide (a = b) = q at *
  generalize a.map datI = xs at *
  generalize b.map datI = ys at *
  go_enter Tryd.func8, Tryd.ntmps8
  go_upto_region 4 with (first
    | (go_at_call 11; (with_reducible refine (HFA.out).mono ?_); rintro e w' ⟨rfl, rfl⟩)
    | (go_at_call 11; (with_reducible refine (HFB.out).mono ?_); rintro e w' ⟨rfl, rfl⟩)
    | (go_at_call 16; (with_reducible refine (HDA.out).mono ?_); rintro e w1 ⟨A5, c5, rfl, hc5, hC5, hb5⟩; rw [HAM.out] at hC5 hc5 ⊢; have HC5 := Lib.hid hC5; have HB5 := Lib.hid hb5; clear hC5 hb5)
    | (go_at_call 16; (with_reducible refine (HDB.out w1 HB5.out).mono ?_); rintro e w2 ⟨A6, c6, rfl, hc6, hC6, hb6⟩; rw [HBM.out] at hC6 hc6 ⊢; have HC6 := Lib.hid hC6; have HC52 := Lib.hid (Kd.C_below HC5.out hb6); have HB6 := Lib.hid (HB5.out.trans (hb6.mono HB5.out.size)); clear hC6 hb6)
    | (go_at_call 12; (with_reducible refine (HSZ.out A5 c5 w2 HC52.out).mono ?_); rintro e w3 ⟨rfl, hb7⟩; have HC53 := Lib.hid (Kd.C_below HC52.out hb7); have HC63 := Lib.hid (Kd.C_below HC6.out hb7); have HB7 := Lib.hid (HB6.out.trans (hb7.mono HB6.out.size)); clear hb7))
  clear HFA HFB HDA HDB HSZ HC5 HC6 HC52 HB5 HB6
  have HA3 := Lib.hid (Kd.C_below HA.out HB7.out)
  clear HA
  go_wp2_with fail
  go_loopw [9] (fun i wr => ∃ k : Nat, k ≤ a.length ∧ i = .int .i64 k ∧ Below w3.heap.size w3 wr) (fun i _ => a.length - (intOf i).toNat)
  case atStart => exact ⟨0, Nat.zero_le _, rfl, Below.refl _ _⟩
  case round =>
    obtain ⟨k, hk, rfl, hb⟩ := hrel
    have HBR := Lib.hid hb
    clear hb
    by_cases hlt : k < a.length
    · obtain ⟨ad, B1, c7, rfl, x0, x1, x2, x3, hle1, hB1⟩ := it_at (Kd.C_below HC53.out HBR.out) k hlt
      obtain ⟨ae, rfl, y0⟩ := u8_at (Kd.C_below HA3.out HBR.out) k hlt
      obtain ⟨hv0, hv1⟩ := HO.out.at k
      rw [HGT.out k hlt] at x0 x1 x2 x3 hB1 hle1
      generalize a.getD k 0 = v at *
      have hbw := HBR.out.drew
      have hck := check_any (datI v) B1 c7 wr.drew (Kd.C_below hB1 (Below.refl _ wr).drew) Oct.nil
      have HBW := Lib.hid hbw
      clear hbw
      rw [dat_err hv0 hv1] at hck
      dsimp only [datI, List.length_nil] at x0 x1 x2 x3 hck
      have HCK := Lib.hid hck
      have bx := cell_block x0
      have by' := cell_block y0
      have hki : (k : Int) < (a.length : Int) := by omega
      have hkz : (0 : Int) ≤ (k : Int) := by omega
      clear hck hB1 hle1
      have hne : (v != v) = false := by simp
      have hwr : IntKind.i64.wrap v = v := wrap_oct64 hv0 hv1
      clear HSM HNS HOC
      go_wp2_with fail
      go_region_held3 (fun wx => (wx.cell? (ad.add (k * 4)) = some (.int .i64 1) ∧ wx.cell? ⟨(ad.add (k * 4)).block, (ad.add (k * 4)).off + 1, none⟩ = some (.int .i64 v) ∧ wx.cell? ⟨(ad.add (k * 4)).block, (ad.add (k * 4)).off + 2, none⟩ = some (.int .i64 0) ∧ wx.cell? ⟨(ad.add (k * 4)).block, (ad.add (k * 4)).off + 3, none⟩ = some (.slice B1 0 c7)) ∧ wx.cell? (ae.add k) = some (.int .u8 v)) (first | exact ⟨⟨x0, x1, x2, x3⟩, y0⟩ | exact ⟨⟨z0, z1, z2, z3⟩, zy⟩ | go_keep) (first
        | (go_at_call 21; refine (HCK.out).mono ?_; rintro e w4 ⟨rfl, hb2⟩; have z0 := (hb2.cell bx).trans x0; have z1 := (hb2.cell (p := ⟨(ad.add (k * 4)).block, (ad.add (k * 4)).off + 1, none⟩) bx).trans x1; have z2 := (hb2.cell (p := ⟨(ad.add (k * 4)).block, (ad.add (k * 4)).off + 2, none⟩) bx).trans x2; have z3 := (hb2.cell (p := ⟨(ad.add (k * 4)).block, (ad.add (k * 4)).off + 3, none⟩) bx).trans x3; have zy := (hb2.cell by').trans y0; have HW2 := Lib.hid (HBW.out.trans (hb2.mono HBW.out.size)); clear hb2))
      all_goals
        go_wp2_with fail
        go_roundw
        case rel => exact ⟨k + 1, by omega, by go_num, HW2.out⟩
        case measure => simp [intOf]; omega
    · obtain rfl : k = a.length := by omega
      have HB8 := Lib.hid (HB7.out.trans (HBR.out.mono HB7.out.size))
      clear HGT HO HAM HBM HA3
      have HC54 := Lib.hid (Kd.C_below HC53.out HBR.out)
      have HC64 := Lib.hid (Kd.C_below HC63.out HBR.out)
      clear HC53 HC63 HB7 HBR
      go_wp2_with (first
        | (go_at_call 26; (with_reducible refine (HNS.out wr HB8.out).mono ?_); rintro e w4 ⟨rfl, hb2⟩; have HC55 := Lib.hid (Kd.C_below HC54.out hb2); have HC65 := Lib.hid (Kd.C_below HC64.out hb2); have HB9 := Lib.hid (HB8.out.trans (hb2.mono HB8.out.size)); clear hb2)
        | (go_at_call 19; (with_reducible refine (HSM.out A5 A6 c5 c6 w4 HC55.out HC65.out).mono ?_); rintro e w5 ⟨rfl, hb3⟩; have HBA := Lib.hid (HB9.out.trans (hb3.mono HB9.out.size)); clear hb3)
        | (go_at_call 17; (with_reducible refine (HOC.out w5 HBA.out).mono ?_); rintro e w6 ⟨rfl, hb4⟩; have HBB := Lib.hid (HBA.out.trans (hb4.mono HBA.out.size)); clear hb4)
        | (go_at_call 13; refine (awake_any _).mono ?_; rintro e w7 ⟨rfl, hb9⟩; have HBC := Lib.hid (HBB.out.trans (hb9.mono HBB.out.size)); clear hb9))
      go_ret
      exact ⟨rfl, HBC.out⟩
end Go.Proofs.YtkbblbgiheclfaaDoor.Dr
