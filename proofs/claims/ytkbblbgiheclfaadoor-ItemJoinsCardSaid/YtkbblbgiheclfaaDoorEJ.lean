/- The law ItemJoins. -/
import Derived.Test.YtkbblbgiheclfaaDoorEP
import Derived.Test.YtkbblbgiheclfaaDoorED
namespace Go.Proofs.YtkbblbgiheclfaaDoor.Dr
open Go.RowKit Go.Proofs.YtkbblbgiheclfaaDoorW.PrintWords

/-- What putting two rows, and both, says. -/
def JoinR (ea eb eab : Int) (pa pb pab : List Int) : Prop := (ea = 0 ∧ eb = 0 ∧ eab = 0 ∧ pab = pa ++ pb) ∨ (ea = 1 ∧ eab = 1 ∧ pab = []) ∨ (ea = 0 ∧ eb = 1 ∧ eab = 1 ∧ pab = [])
theorem join_is (a b : List It) : JoinR (errs a) (errs b) (errs (a ++ b)) (putsE a) (putsE b) (putsE (a ++ b)) := by
  unfold JoinR errs putsE
  rw [mays_app]
  by_cases ha : mays a = true
  · by_cases hb : mays b = true
    · left
      rw [ha, hb]
      refine ⟨rfl, rfl, rfl, ?_⟩
      show putsF (a ++ b) = putsF a ++ putsF b
      simp [putsF]
    · have hb2 : mays b = false := by simpa using hb
      rw [ha, hb2]
      exact .inr (.inr ⟨rfl, rfl, rfl, rfl⟩)
  · have ha2 : mays a = false := by simpa using ha
    rw [ha2]
    exact .inr (.inl ⟨rfl, rfl, rfl⟩)
set_option maxHeartbeats 4000000 in
set_option maxRecDepth 100000 in
theorem joins_law (A0 A1 A2 : Option Addr) (c0 c1 c2 : Nat) (a0 b0 : List It) (d0 : List Int) (w : World) (hA : kIt.C w A0 a0.length a0) (hc0 : a0.length ≤ c0) (hoa : Octs a0) (hB : kIt.C w A1 b0.length b0) (hc1 : b0.length ≤ c1) (hob : Octs b0) (hD : kB.C w A2 d0.length d0) (hc2 : d0.length ≤ c2) (hod : Oct d0) :
    Calls Tryd.prog 4 #[.slice A0 a0.length c0, .slice A1 b0.length c1, .slice A2 d0.length c2] w (AwakeP w) := by
  have HFA : Hid (Calls Tryd.prog 14 #[.slice A0 a0.length c0] w (ItsP w (fewI a0))) := Lib.hid (few_any A0 c0 a0 w hA hc0)
  have HFB : Hid (∀ w', Below w.heap.size w w' → Calls Tryd.prog 14 #[.slice A1 b0.length c1] w' (ItsP w' (fewI b0))) := Lib.hid (fun w' h => few_any A1 c1 b0 w' (Kd.C_below hB h) hc1)
  have HFD := Lib.hid (fun w' => bfew_any A2 c2 d0 w' hc2 hD.2.1)
  have hD2 := take_B hD 200
  have hod2 := hod.take 200
  have hoa2 := few_octs hoa
  have hob2 := few_octs hob
  have hal := few_len a0
  have hbl := few_len b0
  have hdl : (d0.take 200).length ≤ 200 := by rw [List.length_take]; omega
  have hdc : (d0.take 200).length ≤ c2 := by rw [List.length_take]; omega
  clear hA hc0 hoa hB hc1 hob hD hc2 hod
  generalize fewI a0 = a at *
  generalize fewI b0 = b at *
  generalize d0.take 200 = d at *
  generalize a0.length = na at *
  generalize b0.length = nb at *
  generalize d0.length = nd at *
  have HJ := Lib.hid (join_is a b)
  obtain ⟨ab, hab⟩ : ∃ ab, a ++ b = ab := ⟨_, rfl⟩
  rw [hab] at HJ
  have hoab : Octs ab := by
    rw [← hab]
    intro x hx
    rcases List.mem_append.1 hx with h | h
    · exact hoa2 x h
    · exact hob2 x h
  have habl : a.length + b.length = ab.length := by rw [← hab, List.length_append]
  have HPA : Hid (∀ A c w', kIt.C w' A a.length a → Calls Tryd.prog 15 #[.slice A a.length c] w' (PutQ w' (putsE a) (errs a))) := Lib.hid (fun A c w' h => put_q A c a w' h hoa2 (by omega))
  have HPB : Hid (∀ A c w', kIt.C w' A b.length b → Calls Tryd.prog 15 #[.slice A b.length c] w' (PutQ w' (putsE b) (errs b))) := Lib.hid (fun A c w' h => put_q A c b w' h hob2 (by omega))
  have HPC : Hid (∀ A c w', kIt.C w' A ab.length ab → Calls Tryd.prog 15 #[.slice A ab.length c] w' (PutQ w' (putsE ab) (errs ab))) := Lib.hid (fun A c w' h => put_q A c ab w' h hoab (by omega))
  have HDA : Hid (∀ w', Below w.heap.size w w' → Calls Tryd.prog 16 #[.slice A2 d.length c2] w' (ItsP w' (d.map datI))) := Lib.hid (fun w' h => data_any A2 c2 d w' (Kd.C_below hD2 h) (by omega) hod2)
  have HPD : Hid (∀ A c w', kIt.C w' A d.length (d.map datI) → Calls Tryd.prog 15 #[.slice A d.length c] w' (PutQ w' (layF d) 0)) := Lib.hid (fun A c w' h => by
    have h2 := put_q A c (d.map datI) w' (by rw [List.length_map]; exact h) (dat_octs d) (by rw [List.length_map]; omega)
    rw [(errs_yes (dat_mays hod2)).1, (errs_yes (dat_mays hod2)).2, dat_puts, List.length_map] at h2
    exact h2)
  have HLY : Hid (∀ w', Below w.heap.size w w' → Calls Tryd.prog 18 #[.slice A2 d.length c2] w' (OctQ w' (layF d))) := Lib.hid (fun w' h => lay_q A2 c2 d w' (Kd.C_below hD2 h) (by omega) hod2)
  have hol := lay_oct hod2
  have HOE : Hid (∀ A B c e w', (layF d).length ≤ c → (layF d).length ≤ e → kB.C w' A (layF d).length (layF d) → kB.C w' B (layF d).length (layF d) → Calls Tryd.prog 17 #[.slice A (layF d).length c, .slice B (layF d).length e] w' (BoolP w' true)) := Lib.hid (fun A B c e w' hc he h1 h2 => by
    have h3 := octets_any A B c e (layF d) (layF d) w' h1 hc h2 he hol hol
    rw [decide_eq_true rfl] at h3
    exact h3)
  have HOZ : Hid (Oct (putsE ab)) := Lib.hid (putsE_oct hoab)
  have hpl : (putsE a).length ≤ 44000 := by have := putsE_len a; omega
  have hql : (putsE b).length ≤ 44000 := by have := putsE_len b; omega
  have HAB := Lib.hid hab
  have HABL := Lib.hid habl
  have HDM : Hid ((d.map datI).length = d.length) := Lib.hid (List.length_map _)
  have hablm : ab.length ≤ 80 := by omega
  clear hD2 hod2 hoa2 hob2 hoab hab habl hol
  generalize putsE a = pa at *
  generalize putsE b = pb at *
  generalize putsE ab = pab at *
  generalize errs a = ea at *
  generalize errs b = eb at *
  generalize errs ab = eab at *
  generalize layF d = ld at *
  generalize d.map datI = ds at *
  go_enter Tryd.func4, Tryd.ntmps4
  go_upto_region 4 with (first
    | (go_at_call 14; (with_reducible refine (HFA.out).mono ?_); rintro e w1 ⟨A5, c5, rfl, hc5, hC5, hb5⟩; have HC5 := Lib.hid hC5; have HB5 := Lib.hid hb5; clear hC5 hb5)
    | (go_at_call 14; (with_reducible refine (HFB.out w1 HB5.out).mono ?_); rintro e w2 ⟨A6, c6, rfl, hc6, hC6, hb6⟩; have HC6 := Lib.hid hC6; have HC52 := Lib.hid (Kd.C_below HC5.out hb6); have HB6 := Lib.hid (HB5.out.trans (hb6.mono HB5.out.size)); clear hC6 hb6)
    | (go_at_call 11; (with_reducible refine (HFD.out _).mono ?_); rintro e w' ⟨rfl, rfl⟩)
    | (go_at_call 15; (with_reducible refine (HPA.out A5 c5 w2 HC52.out).mono ?_); rintro e w3 ⟨A7, c7, rfl, hc7, hC7, hb7⟩; have HC53 := Lib.hid (Kd.C_below HC52.out hb7); have HC63 := Lib.hid (Kd.C_below HC6.out hb7); have HC7 := Lib.hid hC7; have HB7 := Lib.hid (HB6.out.trans (hb7.mono HB6.out.size)); clear hb7 hC7)
    | (go_at_call 15; (with_reducible refine (HPB.out A6 c6 w3 HC63.out).mono ?_); rintro e w4 ⟨A8, c8, rfl, hc8, hC8, hb8⟩; have HC54 := Lib.hid (Kd.C_below HC53.out hb8); have HC64 := Lib.hid (Kd.C_below HC63.out hb8); have HC74 := Lib.hid (Kd.C_below HC7.out hb8); have HC84 := Lib.hid hC8; have HB8 := Lib.hid (HB7.out.trans (hb8.mono HB7.out.size)); clear hb8 hC8))
  clear HFA HFB HFD HC5 HC6 HC52 HB5 HB6 HPA HPB HC53 HC63 HC7 HB7
  have HZ := Lib.hid (Kd.R_N (R_zero kIt 25 w4))
  have hba := below_alloc (Below.refl _ w4) (.cells #[] 25)
  have HBZ := Lib.hid hba
  have HF5 := Lib.hid (Kd.F_below (Kd.C_F heap_It HC54.out) hba)
  have HF6 := Lib.hid (Kd.C_F heap_It HC64.out)
  clear HC54 HC64 hba
  go_upto_region 6 with (first
    | ((with_reducible refine gate_builtin (b := .append) (xs := #[.tmp 32, .tmp 33]) rfl ?_); at_builtin; refine Kd.N_append_rows kIt (w0 := w4) w4.heap.size rfl (.tmp 32) (.tmp 33) 31 25 (.agg #[.int .i64 0, .int .i64 0, .int .i64 0, .slice none 0 0]) 48 rfl Tryd.underlying31 info_it rfl (by decide) (by omega) (.slice (some ⟨w4.heap.size, 0, none⟩) 0 0) [] a A5 a.length c5 (fun _ => True) (fun k => k < w4.heap.size) rfl rfl (Kd.N_mono HZ.out (fun _ _ => trivial)) HF5.out (fun k hk => ⟨trivial, by simp [Value.ownBlock]; omega⟩) (fun _ _ => trivial) HBZ.out HBZ.out.size (by simp only [List.length_nil]; omega) ?_; intro v1 wx hr hb hg hat; rw [List.nil_append] at hr; obtain ⟨A9, c9, rfl⟩ := Kd.N_slice hr; have HR9 := Lib.hid hr; have HF6x := Lib.hid (Kd.F_below HF6.out hb); have HBX := Lib.hid hb; have HNE := Lib.hid (show ∀ k, k < w4.heap.size → True ∧ some k ≠ (Value.slice A9 a.length c9).ownBlock from fun k hk => ⟨trivial, by rcases hat with h | ⟨b, h, hb2⟩ <;> rw [h] <;> simp [Value.ownBlock] <;> (have := HBZ.out.size; omega)⟩); clear hr hb hg hat)
    | ((with_reducible refine gate_builtin (b := .append) (xs := #[.tmp 34, .tmp 35]) rfl ?_); at_builtin; refine Kd.N_append_rows kIt (w0 := w4) w4.heap.size rfl (.tmp 34) (.tmp 35) 31 25 (.agg #[.int .i64 0, .int .i64 0, .int .i64 0, .slice none 0 0]) 48 rfl Tryd.underlying31 info_it rfl (by decide) (by omega) (.slice A9 a.length c9) a b A6 b.length c6 (fun _ => True) (fun k => k < w4.heap.size) rfl rfl HR9.out HF6x.out HNE.out (fun _ _ => trivial) HBX.out HBX.out.size (by omega) ?_; intro v1 wy hr hb hg hat; rw [HAB.out] at hr; obtain ⟨A10, c10, rfl, hc10, hC10⟩ := Kd.N_reads hr; have HC10 := Lib.hid hC10; have HBY := Lib.hid (HB8.out.trans (hb.mono HB8.out.size)); have HC7Y := Lib.hid (Kd.C_below HC74.out hb); have HC8Y := Lib.hid (Kd.C_below HC84.out hb); clear hr hb hg hat hC10)
    | (go_at_call 15; (with_reducible refine (HPC.out A10 c10 wy HC10.out).mono ?_); rintro e w5 ⟨A11, c11, rfl, hc11, hC11, hb11⟩; have HC11 := Lib.hid hC11; have HC75 := Lib.hid (Kd.C_below HC7Y.out hb11); have HC85 := Lib.hid (Kd.C_below HC8Y.out hb11); have HB9 := Lib.hid (HBY.out.trans (hb11.mono HBY.out.size)); clear hb11 hC11)
    | (go_at_call 16; (with_reducible refine (HDA.out w5 HB9.out).mono ?_); rintro e w6 ⟨A12, c12, rfl, hc12, hC12, hb12⟩; rw [HDM.out] at hC12 hc12 ⊢; have HC12 := Lib.hid hC12; have HC116 := Lib.hid (Kd.C_below HC11.out hb12); have HC76 := Lib.hid (Kd.C_below HC75.out hb12); have HC86 := Lib.hid (Kd.C_below HC85.out hb12); have HB10 := Lib.hid (HB9.out.trans (hb12.mono HB9.out.size)); clear hb12 hC12)
    | (go_at_call 15; (with_reducible refine (HPD.out A12 c12 w6 HC12.out).mono ?_); rintro e w7 ⟨A13, c13, rfl, hc13, hC13, hb13⟩; have HC13 := Lib.hid hC13; have HC117 := Lib.hid (Kd.C_below HC116.out hb13); have HC77 := Lib.hid (Kd.C_below HC76.out hb13); have HC87 := Lib.hid (Kd.C_below HC86.out hb13); have HB11 := Lib.hid (HB10.out.trans (hb13.mono HB10.out.size)); clear hb13 hC13))
  clear HDA HDM HPD HPC HZ HBZ HF5 HF6 HR9 HF6x HBX HNE HC10 HBY HC7Y HC8Y HC11 HC75 HC85 HB9 HC12 HC116 HC76 HC86 HB10 HC74 HC84 HB8 HAB
  go_upto_region 8 with (first
    | (go_at_call 18; (with_reducible refine (HLY.out w7 HB11.out).mono ?_); rintro e w8 ⟨A14, c14, rfl, hc14, hC14, hb14⟩; have HC14 := Lib.hid hC14; have HC138 := Lib.hid (Kd.C_below HC13.out hb14); have HC118 := Lib.hid (Kd.C_below HC117.out hb14); have HC78 := Lib.hid (Kd.C_below HC77.out hb14); have HC88 := Lib.hid (Kd.C_below HC87.out hb14); have HB12 := Lib.hid (HB11.out.trans (hb14.mono HB11.out.size)); clear hb14 hC14)
    | (go_at_call 17; (with_reducible refine (HOE.out A13 A14 c13 c14 w8 hc13 hc14 HC138.out HC14.out).mono ?_); rintro e w9 ⟨rfl, hb15⟩; have HC119 := Lib.hid (Kd.C_below HC118.out hb15); have HC79 := Lib.hid (Kd.C_below HC78.out hb15); have HC89 := Lib.hid (Kd.C_below HC88.out hb15); have HB13 := Lib.hid (HB12.out.trans (hb15.mono HB12.out.size)); clear hb15))
  clear HLY HOE HC13 HC117 HC77 HC87 HB11 HC14 HC138 HC118 HC78 HC88 HB12
  rcases HJ.out with ⟨rfl, rfl, rfl, hp⟩ | ⟨rfl, rfl, hp⟩ | ⟨rfl, rfl, rfl, hp⟩
  · have HP := Lib.hid hp.symm
    have HZ := Lib.hid (R_zero kB 5 w9)
    have hba := below_alloc (Below.refl _ w9) (.cells #[] 5)
    have HBZ := Lib.hid hba
    have HX := Lib.hid (Kd.C_below HC79.out hba)
    have HOC : Hid (∀ A c w', pab.length ≤ c → kB.C w' A pab.length pab → kB.C w' A11 pab.length pab → Calls Tryd.prog 17 #[.slice A11 pab.length c11, .slice A pab.length c] w' (BoolP w' true)) := Lib.hid (fun A c w' hc h1 h2 => by
      have h3 := octets_any A11 A c11 c pab pab w' h2 hc11 h1 hc HOZ.out HOZ.out
      rw [decide_eq_true rfl] at h3
      exact h3)
    clear hp hba HC79 HJ HOZ
    go_wp2_with (first
      | ((with_reducible refine gate_builtin (b := .append) (xs := #[.tmp 75, .tmp 76]) rfl ?_); refine list_step rfl ?_; refine Kd.R_append_rows_step kB (Rr := fun x cs => cs = [.int .u8 x]) (w0 := w9) w9.heap.size rfl (.tmp 75) (.tmp 76) 22 5 (.int .u8 0) 1 rfl Tryd.underlying22 info_u8 rfl (by decide) (by omega) (.slice (some ⟨w9.heap.size, 0, none⟩) 0 0) [] pa A7 pa.length c7 (fun k => w9.heap.size ≤ k) (fun _ => False) rfl rfl HZ.out HX.out (fun _ _ h => h) (fun _ h => h.elim) (fun k hk => Nat.le_trans HBZ.out.size hk) HBZ.out HBZ.out.size (by simp only [List.length_nil]; omega) ?_; intro v1 wx hr hb hg hat; rw [List.nil_append] at hr; obtain ⟨A15, c15, rfl⟩ := Kd.R_slice hr; have HR9 := Lib.hid hr; have HBX := Lib.hid hb; have HY := Lib.hid (Kd.C_below HC89.out hb); clear hr hb hg hat)
      | ((with_reducible refine gate_builtin (b := .append) (xs := #[.tmp 77, .tmp 78]) rfl ?_); refine list_step rfl ?_; refine Kd.R_append_rows_step kB (Rr := fun x cs => cs = [.int .u8 x]) (w0 := w9) w9.heap.size rfl (.tmp 77) (.tmp 78) 22 5 (.int .u8 0) 1 rfl Tryd.underlying22 info_u8 rfl (by decide) (by omega) (.slice A15 pa.length c15) pa pb A8 pb.length c8 (fun k => w9.heap.size ≤ k) (fun _ => False) rfl rfl HR9.out HY.out (fun _ _ h => h) (fun _ h => h.elim) (fun k hk => Nat.le_trans HBX.out.size hk) HBX.out HBX.out.size (by omega) ?_; intro v1 wy hr hb hg hat; rw [HP.out] at hr; obtain ⟨A16, c16, rfl⟩ := Kd.R_slice hr; have HR10 := Lib.hid (Kd.R_reads' hr).2; have HC11Y := Lib.hid (Kd.C_below HC119.out hb); have HB14 := Lib.hid (HB13.out.trans (hb.mono HB13.out.size)); clear hr hb hg hat)
      | (go_at_call 17; (with_reducible refine (HOC.out A16 c16 wy HR10.out.1 HR10.out.2 HC11Y.out).mono ?_); rintro e w10 ⟨rfl, hb16⟩; have HB15 := Lib.hid (HB14.out.trans (hb16.mono HB14.out.size)); clear hb16)
      | (go_at_call 13; refine (awake_any _).mono ?_; rintro e w11 ⟨rfl, hb17⟩; have HB16 := Lib.hid (HB15.out.trans (hb17.mono HB15.out.size)); clear hb17))
    go_ret
    exact ⟨rfl, HB16.out⟩
  · subst hp
    clear HJ HC79 HC89 HC119 HOZ
    dsimp only [List.length_nil]
    go_wp2_with (go_at_call 13; refine (awake_any _).mono ?_; rintro e w11 ⟨rfl, hb17⟩; have HB16 := Lib.hid (HB13.out.trans (hb17.mono HB13.out.size)); clear hb17)
    go_ret
    exact ⟨rfl, HB16.out⟩
  · subst hp
    clear HJ HC79 HC89 HC119 HOZ
    dsimp only [List.length_nil]
    go_wp2_with (go_at_call 13; refine (awake_any _).mono ?_; rintro e w11 ⟨rfl, hb17⟩; have HB16 := Lib.hid (HB13.out.trans (hb17.mono HB13.out.size)); clear hb17)
    go_ret
    exact ⟨rfl, HB16.out⟩
end Go.Proofs.YtkbblbgiheclfaaDoor.Dr
