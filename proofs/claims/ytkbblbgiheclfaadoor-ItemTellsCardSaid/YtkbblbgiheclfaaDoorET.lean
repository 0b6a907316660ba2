/- The law ItemTells. -/
import Derived.Test.YtkbblbgiheclfaaDoorEP
import Derived.Test.YtkbblbgiheclfaaDoorED
namespace Go.Proofs.YtkbblbgiheclfaaDoor.Dr
open Go.RowKit Go.Proofs.YtkbblbgiheclfaaDoorW.PrintWords

theorem may_any (x : It) (A : Option Addr) (c : Nat) (w : World) (h : kB.C w A x.l.length x.l) (hc : x.l.length ≤ c) : Calls Tryd.prog 22 #[.agg #[.int .i64 x.k, .int .i64 x.a, .int .i64 x.b, .slice A x.l.length c]] w (BoolP w (mayI x)) :=
  PItemTells.linnetref03_May.calls x.k x.a x.b A c x.l (mayI x) w h hc (may_f x)
/-- The document's Put. -/
def RefQ (w : World) (bs : List Int) (ok : Bool) (e : Ending) (w' : World) : Prop := ∃ A c, e = .returned (.tuple #[.slice A bs.length c, .bool ok]) ∧ bs.length ≤ c ∧ kB.C w' A bs.length bs ∧ Below w.heap.size w w'
theorem refput_any (A : Option Addr) (c : Nat) (l : List It) (w : World) (hC : kIt.C w A l.length l) (hc : l.length ≤ c) (hl : l.length ≤ 5000) : Calls Tryd.prog 23 #[.slice A l.length c] w (RefQ w (putsE l) (mays l)) := by
  have e : (l.map ofI).length = l.length := List.length_map _
  have h0 := C_of hC
  have h2 := PItemTells.linnetref03_Put.calls (l.length + 700) A c (l.map ofI) (putsE l) (mays l) w (by rw [e]; exact h0) (by rw [e]; exact hc) (refPut_f l hl)
  rw [e] at h2
  refine h2.mono ?_
  rintro e w' ⟨v, rfl, hR, hb⟩
  obtain ⟨A', c', rfl⟩ := Kd.R_slice hR
  obtain ⟨_, h3, h4⟩ := Kd.R_reads' hR
  exact ⟨A', c', rfl, h3, h4, hb⟩
theorem refdata_any (A : Option Addr) (c : Nat) (bs : List Int) (w : World) (hC : kB.C w A bs.length bs) (hc : bs.length ≤ c) (hl : bs.length ≤ 1000000) (ho : Oct bs) : Calls Tryd.prog 25 #[.slice A bs.length c] w (ItsP w (bs.map datI)) := by
  refine (PItemTells.linnetref03_Data.calls (bs.length + 1) A c bs ((bs.map datI).map ofI) w hC hc (refData_f bs ho hl)).mono ?_
  rintro e w' ⟨v, rfl, hS, hb⟩
  obtain ⟨A', c', rfl, hc', hC'⟩ := Kd.N_reads (Kd.S_N hS)
  rw [List.length_map] at hC' hc'
  exact ⟨A', c', by rw [List.length_map], hc', C_to hC', hb⟩
/-- What is said of a row. -/
def SaidR (P : List Int) (er : Int) (ok : Bool) : Prop := (er = 0 ∧ ok = true) ∨ (er = 1 ∧ ok = false ∧ P = [])
theorem said_is (l : List It) : SaidR (putsE l) (errs l) (mays l) := by
  unfold SaidR errs putsE
  by_cases h : mays l = true
  · rw [h]; exact .inl ⟨rfl, rfl⟩
  · have h2 : mays l = false := by simpa using h
    rw [h2]; exact .inr ⟨rfl, rfl, rfl⟩
set_option maxHeartbeats 4000000 in
set_option maxRecDepth 100000 in
theorem tells_law (A0 A1 A2 : Option Addr) (c0 c1 c2 : Nat) (a0 b0 : List It) (d0 : List Int) (w : World) (hA : kIt.C w A0 a0.length a0) (hc0 : a0.length ≤ c0) (hoa : Octs a0) (hB : kIt.C w A1 b0.length b0) (hc1 : b0.length ≤ c1) (hob : Octs b0) (hD : kB.C w A2 d0.length d0) (hc2 : d0.length ≤ c2) (hod : Oct d0) :
    Calls Tryd.prog 7 #[.slice A0 a0.length c0, .slice A1 b0.length c1, .slice A2 d0.length c2] w (AwakeP w) := by
  have HFA : Hid (Calls Tryd.prog 14 #[.slice A0 a0.length c0] w (ItsP w (fewI a0))) := Lib.hid (few_any A0 c0 a0 w hA hc0)
  have HFB : Hid (∀ w', Below w.heap.size w w' → Calls Tryd.prog 14 #[.slice A1 b0.length c1] w' (ItsP w' (fewI b0))) := Lib.hid (fun w' h => few_any A1 c1 b0 w' (Kd.C_below hB h) hc1)
  have HFD := Lib.hid (fun w' => bfew_any A2 c2 d0 w' hc2 hD.2.1)
  have hD2 := take_B hD 200
  have hod2 := hod.take 200
  have hoa2 := few_octs hoa
  have hob2 := few_octs hob
  have hal := few_len a0
  have hbl := few_len b0
  have hdl : (d0.take 200).length ≤ 200 := by rw [List.length_take]; omega
  have hdc : (d0.take 200).length ≤ c2 := by rw [List.length_take]; omega
  clear hA hc0 hoa hB hc1 hob hD hc2 hod
  generalize fewI a0 = a at *
  generalize fewI b0 = b at *
  generalize d0.take 200 = d at *
  generalize a0.length = na at *
  generalize b0.length = nb at *
  generalize d0.length = nd at *
  have HSD := Lib.hid (said_is a)
  have HPA : Hid (∀ A c w', kIt.C w' A a.length a → Calls Tryd.prog 15 #[.slice A a.length c] w' (PutQ w' (putsE a) (errs a))) := Lib.hid (fun A c w' h => put_q A c a w' h hoa2 (by omega))
  have HSZ : Hid (∀ A c w', kIt.C w' A a.length a → Calls Tryd.prog 12 #[.slice A a.length c] w' (fun e w'' => e = .returned (.tuple #[.int .i64 (putsE a).length, .int .i64 (errs a)]) ∧ Below w'.heap.size w' w'')) := Lib.hid (fun A c w' h => psize_any A c a w' h hoa2 (by omega))
  have HRP : Hid (∀ A c w', a.length ≤ c → kIt.C w' A a.length a → Calls Tryd.prog 23 #[.slice A a.length c] w' (RefQ w' (putsE a) (mays a))) := Lib.hid (fun A c w' hc h => refput_any A c a w' h hc (by omega))
  have HSM : Hid (∀ A B c d w', kIt.C w' A a.length a → kIt.C w' B b.length b → Calls Tryd.prog 19 #[.slice A a.length c, .slice B b.length d] w' (BoolP w' (decide (a = b)))) := Lib.hid (fun A B c d w' h1 h2 => isame_any A B c d a b w' h1 h2 hoa2 hob2)
  have HRS : Hid (∀ A B c d w', kIt.C w' A a.length a → kIt.C w' B b.length b → Calls Tryd.prog 24 #[.slice A a.length c, .slice B b.length d] w' (BoolP w' (decide (a = b)))) := Lib.hid (fun A B c d w' h1 h2 => rsames_any A B c d a b w' h1 h2 hoa2 hob2)
  have HDA : Hid (∀ w', Below w.heap.size w w' → Calls Tryd.prog 16 #[.slice A2 d.length c2] w' (ItsP w' (d.map datI))) := Lib.hid (fun w' h => data_any A2 c2 d w' (Kd.C_below hD2 h) (by omega) hod2)
  have HRD : Hid (∀ w', Below w.heap.size w w' → Calls Tryd.prog 25 #[.slice A2 d.length c2] w' (ItsP w' (d.map datI))) := Lib.hid (fun w' h => refdata_any A2 c2 d w' (Kd.C_below hD2 h) hdc (by omega) hod2)
  have HDS : Hid (∀ A B c e w', kIt.C w' A (d.map datI).length (d.map datI) → kIt.C w' B (d.map datI).length (d.map datI) → Calls Tryd.prog 24 #[.slice A (d.map datI).length c, .slice B (d.map datI).length e] w' (BoolP w' true)) := Lib.hid (fun A B c e w' h1 h2 => by
    have h3 := rsames_any A B c e (d.map datI) (d.map datI) w' h1 h2 (dat_octs d) (dat_octs d)
    rw [decide_eq_true rfl] at h3
    exact h3)
  have hop := putsE_oct hoa2
  have HOE : Hid (∀ A B c e w', (putsE a).length ≤ c → (putsE a).length ≤ e → kB.C w' A (putsE a).length (putsE a) → kB.C w' B (putsE a).length (putsE a) → Calls Tryd.prog 17 #[.slice A (putsE a).length c, .slice B (putsE a).length e] w' (BoolP w' true)) := Lib.hid (fun A B c e w' hc he h1 h2 => by
    have h3 := octets_any A B c e (putsE a) (putsE a) w' h1 hc h2 he hop hop
    rw [decide_eq_true rfl] at h3
    exact h3)
  have hpl : (putsE a).length ≤ 44000 := by have := putsE_len a; omega
  have HOA := Lib.hid hoa2
  have hdml : (d.map datI).length ≤ 200 := by rw [List.length_map]; omega
  clear hD2 hod2 hoa2 hob2 hop
  generalize putsE a = P at *
  generalize errs a = er at *
  generalize mays a = ok at *
  generalize decide (a = b) = q at *
  generalize d.map datI = ds at *
  go_enter Tryd.func7, Tryd.ntmps7
  go_upto_region 2 with (first
    | (go_at_call 14; (with_reducible refine (HFA.out).mono ?_); rintro e w1 ⟨A5, c5, rfl, hc5, hC5, hb5⟩; have HC5 := Lib.hid hC5; have HB5 := Lib.hid hb5; clear hC5 hb5)
    | (go_at_call 14; (with_reducible refine (HFB.out w1 HB5.out).mono ?_); rintro e w2 ⟨A6, c6, rfl, hc6, hC6, hb6⟩; have HC6 := Lib.hid hC6; have HC52 := Lib.hid (Kd.C_below HC5.out hb6); have HB6 := Lib.hid (HB5.out.trans (hb6.mono HB5.out.size)); clear hC6 hb6)
    | (go_at_call 11; (with_reducible refine (HFD.out _).mono ?_); rintro e w' ⟨rfl, rfl⟩))
  clear HFA HFB HFD HC5 HB5
  go_wp2_with fail
  go_loopw [7] (fun i wr => ∃ k : Nat, k ≤ a.length ∧ i = .int .i64 k ∧ Below w2.heap.size w2 wr) (fun i _ => a.length - (intOf i).toNat)
  case atStart => exact ⟨0, Nat.zero_le _, rfl, Below.refl _ _⟩
  case round =>
    obtain ⟨k, hk, rfl, hb⟩ := hrel
    have HBR := Lib.hid hb
    clear hb
    by_cases hlt : k < a.length
    · obtain ⟨ad, B1, c7, rfl, x0, x1, x2, x3, hle1, hB1⟩ := it_at (Kd.C_below HC52.out HBR.out) k hlt
      have hox := HOA.out _ (it_mem a k hlt)
      generalize a.getD k zIt = x at *
      have HBD := Lib.hid (show Below w2.heap.size w2 wr.drew from HBR.out.drew)
      have HCK := Lib.hid (check_any x B1 c7 wr.drew (Kd.C_below hB1 (below_drew (Below.refl _ wr))) hox)
      have HMY := Lib.hid (fun w' (h : Below wr.heap.size wr w') => may_any x B1 c7 w' (Kd.C_below hB1 h) hle1)
      have HME := Lib.hid (show errI x = if mayI x then 0 else 1 from rfl)
      have bx := cell_block x0
      have hki : (k : Int) < (a.length : Int) := by omega
      have hkz : (0 : Int) ≤ (k : Int) := by omega
      clear HSD HPA HSZ HRP HSM HRS HDA HRD HDS HOE hB1 hox HOA
      generalize mayI x = mb at *
      generalize errI x = ex at *
      go_wp2_with fail
      cases mb
      · have hex : ex = 1 := HME.out
        subst hex
        go_region_held3 (fun wx => wx.cell? (ad.add (k * 4)) = some (.int .i64 x.k) ∧ wx.cell? ⟨(ad.add (k * 4)).block, (ad.add (k * 4)).off + 1, none⟩ = some (.int .i64 x.a) ∧ wx.cell? ⟨(ad.add (k * 4)).block, (ad.add (k * 4)).off + 2, none⟩ = some (.int .i64 x.b) ∧ wx.cell? ⟨(ad.add (k * 4)).block, (ad.add (k * 4)).off + 3, none⟩ = some (.slice B1 x.l.length c7)) (first | exact ⟨x0, x1, x2, x3⟩ | exact ⟨v0, v1, v2, v3⟩ | exact ⟨z0, z1, z2, z3⟩ | go_keep) (first
          | (go_at_call 21; refine (HCK.out).mono ?_; rintro e w4 ⟨rfl, hb2⟩; have hz : Below wr.heap.size wr w4 := (below_drew (Below.refl _ wr)).trans hb2; have z0 := (hz.cell bx).trans x0; have z1 := (hz.cell (p := ⟨(ad.add (k * 4)).block, (ad.add (k * 4)).off + 1, none⟩) bx).trans x1; have z2 := (hz.cell (p := ⟨(ad.add (k * 4)).block, (ad.add (k * 4)).off + 2, none⟩) bx).trans x2; have z3 := (hz.cell (p := ⟨(ad.add (k * 4)).block, (ad.add (k * 4)).off + 3, none⟩) bx).trans x3; have HZ := Lib.hid hz; clear hb2 hz)
          | (go_at_call 22; refine (HMY.out w4 HZ.out).mono ?_; rintro e w5 ⟨rfl, hb3⟩; have hz : Below wr.heap.size wr w5 := HZ.out.trans (hb3.mono HZ.out.size); have v0 := (hz.cell bx).trans x0; have v1 := (hz.cell (p := ⟨(ad.add (k * 4)).block, (ad.add (k * 4)).off + 1, none⟩) bx).trans x1; have v2 := (hz.cell (p := ⟨(ad.add (k * 4)).block, (ad.add (k * 4)).off + 2, none⟩) bx).trans x2; have v3 := (hz.cell (p := ⟨(ad.add (k * 4)).block, (ad.add (k * 4)).off + 3, none⟩) bx).trans x3; have HZ2 := Lib.hid (HBR.out.trans (hz.mono HBR.out.size)); clear hb3 hz))
        all_goals
          go_wp2_with fail
          go_roundw
          case rel => exact ⟨k + 1, by omega, by go_num, HZ2.out⟩
          case measure => simp [intOf]; omega
      · have hex : ex = 0 := HME.out
        subst hex
        go_region_held3 (fun wx => wx.cell? (ad.add (k * 4)) = some (.int .i64 x.k) ∧ wx.cell? ⟨(ad.add (k * 4)).block, (ad.add (k * 4)).off + 1, none⟩ = some (.int .i64 x.a) ∧ wx.cell? ⟨(ad.add (k * 4)).block, (ad.add (k * 4)).off + 2, none⟩ = some (.int .i64 x.b) ∧ wx.cell? ⟨(ad.add (k * 4)).block, (ad.add (k * 4)).off + 3, none⟩ = some (.slice B1 x.l.length c7)) (first | exact ⟨x0, x1, x2, x3⟩ | exact ⟨v0, v1, v2, v3⟩ | exact ⟨z0, z1, z2, z3⟩ | go_keep) (first
          | (go_at_call 21; refine (HCK.out).mono ?_; rintro e w4 ⟨rfl, hb2⟩; have hz : Below wr.heap.size wr w4 := (below_drew (Below.refl _ wr)).trans hb2; have z0 := (hz.cell bx).trans x0; have z1 := (hz.cell (p := ⟨(ad.add (k * 4)).block, (ad.add (k * 4)).off + 1, none⟩) bx).trans x1; have z2 := (hz.cell (p := ⟨(ad.add (k * 4)).block, (ad.add (k * 4)).off + 2, none⟩) bx).trans x2; have z3 := (hz.cell (p := ⟨(ad.add (k * 4)).block, (ad.add (k * 4)).off + 3, none⟩) bx).trans x3; have HZ := Lib.hid hz; clear hb2 hz)
          | (go_at_call 22; refine (HMY.out w4 HZ.out).mono ?_; rintro e w5 ⟨rfl, hb3⟩; have hz : Below wr.heap.size wr w5 := HZ.out.trans (hb3.mono HZ.out.size); have v0 := (hz.cell bx).trans x0; have v1 := (hz.cell (p := ⟨(ad.add (k * 4)).block, (ad.add (k * 4)).off + 1, none⟩) bx).trans x1; have v2 := (hz.cell (p := ⟨(ad.add (k * 4)).block, (ad.add (k * 4)).off + 2, none⟩) bx).trans x2; have v3 := (hz.cell (p := ⟨(ad.add (k * 4)).block, (ad.add (k * 4)).off + 3, none⟩) bx).trans x3; have HZ2 := Lib.hid (HBR.out.trans (hz.mono HBR.out.size)); clear hb3 hz))
        all_goals
          go_wp2_with fail
          go_roundw
          case rel => exact ⟨k + 1, by omega, by go_num, HZ2.out⟩
          case measure => simp [intOf]; omega
    · obtain rfl : k = a.length := by omega
      have HB7 := Lib.hid (HB6.out.trans (HBR.out.mono HB6.out.size))
      have HCA := Lib.hid (Kd.C_below HC52.out HBR.out)
      have HCB := Lib.hid (Kd.C_below HC6.out HBR.out)
      clear HOA HC52 HC6 HB6 HBR
      go_upto_region 10 with (first
        | (go_at_call 15; (with_reducible refine (HPA.out A5 c5 wr HCA.out).mono ?_); rintro e w3 ⟨A7, c7, rfl, hc7, hC7, hb7⟩; have HCA3 := Lib.hid (Kd.C_below HCA.out hb7); have HCB3 := Lib.hid (Kd.C_below HCB.out hb7); have HC7 := Lib.hid hC7; have HB3 := Lib.hid (HB7.out.trans (hb7.mono HB7.out.size)); clear hb7 hC7)
        | (go_at_call 12; (with_reducible refine (HSZ.out A5 c5 w3 HCA3.out).mono ?_); rintro e w4 ⟨rfl, hb8⟩; have HCA4 := Lib.hid (Kd.C_below HCA3.out hb8); have HCB4 := Lib.hid (Kd.C_below HCB3.out hb8); have HC74 := Lib.hid (Kd.C_below HC7.out hb8); have HB4 := Lib.hid (HB3.out.trans (hb8.mono HB3.out.size)); clear hb8)
        | (go_at_call 23; (with_reducible refine (HRP.out A5 c5 w4 hc5 HCA4.out).mono ?_); rintro e w5 ⟨A8, c8, rfl, hc8, hC8, hb9⟩; have HCA5 := Lib.hid (Kd.C_below HCA4.out hb9); have HCB5 := Lib.hid (Kd.C_below HCB4.out hb9); have HC75 := Lib.hid (Kd.C_below HC74.out hb9); have HC8 := Lib.hid hC8; have HB5 := Lib.hid (HB4.out.trans (hb9.mono HB4.out.size)); clear hb9 hC8))
      clear HCA HCB HB7 HCA3 HCB3 HC7 HB3 HCA4 HCB4 HC74 HB4 HPA HSZ HRP
      rcases HSD.out with ⟨rfl, rfl⟩ | ⟨rfl, rfl, hP⟩
      · clear HSD
        cases q
        all_goals
          go_wp2_with (first
            | (go_at_call 19; (with_reducible refine (HSM.out A5 A6 c5 c6 w5 HCA5.out HCB5.out).mono ?_); rintro e w6 ⟨rfl, hb10⟩; have HCA6 := Lib.hid (Kd.C_below HCA5.out hb10); have HCB6 := Lib.hid (Kd.C_below HCB5.out hb10); have HC76 := Lib.hid (Kd.C_below HC75.out hb10); have HC86 := Lib.hid (Kd.C_below HC8.out hb10); have HB6 := Lib.hid (HB5.out.trans (hb10.mono HB5.out.size)); clear hb10)
            | (go_at_call 24; (with_reducible refine (HRS.out A5 A6 c5 c6 w6 HCA6.out HCB6.out).mono ?_); rintro e w7 ⟨rfl, hb10⟩; have HC77 := Lib.hid (Kd.C_below HC76.out hb10); have HC87 := Lib.hid (Kd.C_below HC86.out hb10); have HB7 := Lib.hid (HB6.out.trans (hb10.mono HB6.out.size)); clear hb10)
            | (go_at_call 16; (with_reducible refine (HDA.out w7 HB7.out).mono ?_); rintro e w8 ⟨A9, c9, rfl, hc9, hC9, hb10⟩; have HC9 := Lib.hid hC9; have HC78 := Lib.hid (Kd.C_below HC77.out hb10); have HC88 := Lib.hid (Kd.C_below HC87.out hb10); have HB8 := Lib.hid (HB7.out.trans (hb10.mono HB7.out.size)); clear hb10 hC9)
            | (go_at_call 25; (with_reducible refine (HRD.out w8 HB8.out).mono ?_); rintro e w9 ⟨A10, c10, rfl, hc10, hC10, hb10⟩; have HC10 := Lib.hid hC10; have HC99 := Lib.hid (Kd.C_below HC9.out hb10); have HC79 := Lib.hid (Kd.C_below HC78.out hb10); have HC89 := Lib.hid (Kd.C_below HC88.out hb10); have HB9 := Lib.hid (HB8.out.trans (hb10.mono HB8.out.size)); clear hb10 hC10)
            | (go_at_call 24; (with_reducible refine (HDS.out A9 A10 c9 c10 w9 HC99.out HC10.out).mono ?_); rintro e w10 ⟨rfl, hb10⟩; have HC7A := Lib.hid (Kd.C_below HC79.out hb10); have HC8A := Lib.hid (Kd.C_below HC89.out hb10); have HBA := Lib.hid (HB9.out.trans (hb10.mono HB9.out.size)); clear hb10)
            | (go_at_call 17; (with_reducible refine (HOE.out A7 A8 c7 c8 w10 hc7 hc8 HC7A.out HC8A.out).mono ?_); rintro e w11 ⟨rfl, hb10⟩; have HBC := Lib.hid (HBA.out.trans (hb10.mono HBA.out.size)); clear hb10)
            | (go_at_call 13; refine (awake_any _).mono ?_; rintro e w12 ⟨rfl, hb9⟩; have HBE := Lib.hid (HBC.out.trans (hb9.mono HBC.out.size)); clear hb9))
          go_ret
          exact ⟨rfl, HBE.out⟩
      · subst hP
        clear HSD HOE
        dsimp only [List.length_nil]
        cases q
        all_goals
          go_wp2_with (first
            | (go_at_call 19; (with_reducible refine (HSM.out A5 A6 c5 c6 w5 HCA5.out HCB5.out).mono ?_); rintro e w6 ⟨rfl, hb10⟩; have HCA6 := Lib.hid (Kd.C_below HCA5.out hb10); have HCB6 := Lib.hid (Kd.C_below HCB5.out hb10); have HB6 := Lib.hid (HB5.out.trans (hb10.mono HB5.out.size)); clear hb10)
            | (go_at_call 24; (with_reducible refine (HRS.out A5 A6 c5 c6 w6 HCA6.out HCB6.out).mono ?_); rintro e w7 ⟨rfl, hb10⟩; have HB7 := Lib.hid (HB6.out.trans (hb10.mono HB6.out.size)); clear hb10)
            | (go_at_call 16; (with_reducible refine (HDA.out w7 HB7.out).mono ?_); rintro e w8 ⟨A9, c9, rfl, hc9, hC9, hb10⟩; have HC9 := Lib.hid hC9; have HB8 := Lib.hid (HB7.out.trans (hb10.mono HB7.out.size)); clear hb10 hC9)
            | (go_at_call 25; (with_reducible refine (HRD.out w8 HB8.out).mono ?_); rintro e w9 ⟨A10, c10, rfl, hc10, hC10, hb10⟩; have HC10 := Lib.hid hC10; have HC99 := Lib.hid (Kd.C_below HC9.out hb10); have HB9 := Lib.hid (HB8.out.trans (hb10.mono HB8.out.size)); clear hb10 hC10)
            | (go_at_call 24; (with_reducible refine (HDS.out A9 A10 c9 c10 w9 HC99.out HC10.out).mono ?_); rintro e w10 ⟨rfl, hb10⟩; have HBA := Lib.hid (HB9.out.trans (hb10.mono HB9.out.size)); clear hb10)
            | (go_at_call 13; refine (awake_any _).mono ?_; rintro e w12 ⟨rfl, hb9⟩; have HBE := Lib.hid (HBA.out.trans (hb9.mono HBA.out.size)); clear hb9))
          go_ret
          exact ⟨rfl, HBE.out⟩
end Go.Proofs.YtkbblbgiheclfaaDoor.Dr
