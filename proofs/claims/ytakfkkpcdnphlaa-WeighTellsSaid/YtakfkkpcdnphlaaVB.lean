/- The document's answer: Pick. -/
import Derived.Test.YtakfkkpcdnphlaaVA
namespace Go.Proofs.Ytakfkkpcdnphlaa
open Go.RowKit Go.Proofs.YtakfkkpcdnphlaaW.PrintWords
attribute [local go_sem] run_store_float

theorem rpick_len (A : Option Addr) (cap : Nat) (l : List Nat) (draw : Int) (w : World) (hl : l.length = 0 ∨ 64 < l.length) (hl2 : l.length ≤ 9223372036854775807) : Calls Try.prog 21 #[.slice A l.length cap, .int .u64 draw] w (PickP w (0, 1)) := by
  rcases hl with hl | hl
  · rw [hl]
    clear hl hl2
    go_enter Try.func21, Try.ntmps21
    go_wp2_with fail
    go_ret2
    exact ⟨rfl, Below.refl _ _⟩
  · have hne : ((l.length : Int) == 0) = false := by simp only [beq_eq_false_iff_ne]; omega
    go_enter Try.func21, Try.ntmps21
    go_wp2_with fail
    go_ret2
    exact ⟨rfl, Below.refl _ _⟩

/-- The first k held down. -/
def dg (l : List Nat) (k : Nat) : List Nat := (l.take k).map (fun x => down (cnt x)) ++ l.drop k
theorem dg_zero (l : List Nat) : dg l 0 = l := by simp [dg]
theorem dg_all (l : List Nat) : dg l l.length = (l.map cnt).map down := by simp [dg]
theorem dg_len (l : List Nat) (k : Nat) (h : k ≤ l.length) : (dg l k).length = l.length := by simp [dg]; omega
theorem dg_get (l : List Nat) (k : Nat) (h : k < l.length) : (dg l k).getD k 0 = l.getD k 0 := by
  have hl : ((l.take k).map (fun x => down (cnt x))).length = k := by simp; omega
  unfold dg
  rw [List.getD_eq_getElem?_getD, List.getElem?_append_right (by omega), hl, Nat.sub_self]
  simp [List.getD_eq_getElem?_getD, List.getElem?_drop]
theorem dg_set (l : List Nat) (k : Nat) (h : k < l.length) : (dg l k).set k (down (cnt (l.getD k 0))) = dg l (k + 1) := by
  have hl : ((l.take k).map (fun x => down (cnt x))).length = k := by simp; omega
  unfold dg
  rw [List.set_append_right _ _ (by omega), hl, Nat.sub_self, List.drop_eq_getElem_cons h, List.set_cons_zero, List.take_succ_eq_append_getElem h, List.map_append, List.append_assoc]
  simp [List.getD_eq_getElem?_getD, List.getElem?_eq_getElem h]
theorem downs_le (m : List Nat) : ∀ x ∈ m.map down, x ≤ inf := by
  intro x hx
  obtain ⟨y, _, rfl⟩ := List.mem_map.1 hx
  exact rnd_le_inf _ _
theorem cnts_of_le {m : List Nat} (h : ∀ x ∈ m, x ≤ inf) : m.map cnt = m := by
  have : ∀ x ∈ m, cnt x = x := fun x hx => cnt_of_le (h x hx)
  rw [List.map_congr_left this, List.map_id']

set_option maxHeartbeats 4000000 in
set_option maxRecDepth 100000 in
theorem rpick_some (A : Option Addr) (cap : Nat) (l : List Nat) (draw : Nat) (w : World) (hC : kF.C w A l.length l) (hl : 0 < l.length) (hl2 : l.length ≤ 64) (hw : ∀ x ∈ l, x < 2 * sgn) (hd : draw < 2 ^ 64) (r : Int × Int) (hr : pickF l draw = r) :
    Calls Try.prog 21 #[.slice A l.length cap, .int .u64 draw] w (PickP w r) := by
  have hpk : r = if lastD (l.map cnt) l.length < 0 then (0, 4) else if 0 < (ends l l.length).length then ((ends l l.length).getD (draw % (ends l l.length).length) 0, 0) else (scan (fin (l.map cnt)) (share (l.map cnt) draw) 0 l.length, 0) := by
    rw [← hr]
    unfold pickF
    rw [if_neg (by omega)]
    have e := max_last (l.map cnt)
    rw [List.length_map] at e
    by_cases h : maxC (l.map cnt) = 0
    · rw [if_pos h, if_pos (e.1 h)]
    · rw [if_neg h, if_neg (fun h2 => h (e.2 h2)), ends_cnt]
  have HPK := Lib.hid hpk
  have HC := Lib.hid hC
  have HW := Lib.hid hw
  have hne : ((l.length : Int) == 0) = false := by simp only [beq_eq_false_iff_ne]; omega
  have HLE := Lib.hid (show ∀ x ∈ l.map cnt, x ≤ inf from fun x hx => map_cnt_mem hx)
  have HLN := Lib.hid (show (l.map cnt).length = l.length from List.length_map ..)
  have HGD := Lib.hid (show ∀ k, (l.map cnt).getD k 0 = cnt (l.getD k 0) from fun k => getD_map cnt cnt_zero l k)
  clear hC hw hpk hr
  go_enter Try.func21, Try.ntmps21
  go_wp2_with fail
  go_loop [6, 7] (fun la i => ∃ k : Nat, k ≤ l.length ∧ i = .int .i64 k ∧ la = .int .i64 (lastD (l.map cnt) k)) (fun _ i => l.length - (intOf i).toNat)
  case atStart => exact ⟨0, Nat.zero_le _, rfl, rfl⟩
  case round =>
    obtain ⟨k, hk, rfl, rfl⟩ := hrel
    by_cases hlt : k < l.length
    · obtain ⟨ad, rfl, hx⟩ := float_at HC.out k hlt
      have HCn := Lib.hid (fun w => rcount_any (l.getD k 0) (HW.out _ (getD_mem_ l k hlt)) w)
      have hla : lastD (l.map cnt) (k + 1) = if 0 < cnt (l.getD k 0) then (k : Int) else lastD (l.map cnt) k := by rw [← HGD.out k]; rfl
      have hcx := cnt_le (l.getD k 0)
      clear HPK
      by_cases h0 : cnt (l.getD k 0) = 0
      · rw [h0] at HCn
        have HLA : Hid (lastD (l.map cnt) (k + 1) = lastD (l.map cnt) k) := Lib.hid (by rw [hla, if_neg (by omega)])
        have h00 : FloatKind.f64.format.order 0 0 = some .eq := by decide +kernel
        clear hla h0 hcx
        generalize l.getD k 0 = x at *
        go_wp2_with (go_at_call 20; refine (HCn.out _).mono ?_; rintro e w' ⟨rfl, rfl⟩)
        go_round
        case rel => exact ⟨k + 1, by omega, by go_num, by rw [HLA.out]⟩
        case measure => simp [intOf]; omega
      · have HLA : Hid (lastD (l.map cnt) (k + 1) = (k : Int)) := Lib.hid (by rw [hla, if_pos (by omega)])
        have ho := order_zero_pos hcx h0
        clear hla h0 hcx
        generalize cnt (l.getD k 0) = c at *
        generalize l.getD k 0 = x at *
        go_wp2_with (go_at_call 20; refine (HCn.out _).mono ?_; rintro e w' ⟨rfl, rfl⟩)
        go_round
        case rel => exact ⟨k + 1, by omega, by go_num, by rw [HLA.out]⟩
        case measure => simp [intOf]; omega
    · obtain rfl : k = l.length := by omega
      by_cases hneg : lastD (l.map cnt) l.length < 0
      · have HRES : Hid (r = (0, 4)) := Lib.hid (by rw [HPK.out, if_pos hneg])
        clear HPK
        generalize lastD (l.map cnt) l.length = la at *
        go_wp2_with fail
        go_ret2
        exact ⟨by rw [HRES.out]; rfl, Below.refl _ _⟩
      · have HPK2 := Lib.hid (by have := HPK.out; rw [if_neg hneg] at this; exact this)
        have HMX : Hid (maxC (l.map cnt) ≠ 0) := Lib.hid (fun h => by have := (max_last (l.map cnt)).1 h; rw [HLN.out] at this; exact hneg this)
        have hel := ends_len l l.length
        clear HPK
        obtain ⟨la, hlae⟩ : ∃ la, lastD (l.map cnt) l.length = la := ⟨_, rfl⟩
        rw [hlae] at hneg ⊢
        have HLA := Lib.hid hlae
        clear hlae
        by_cases hen : 0 < (ends l l.length).length
        · have HRES : Hid (r = ((ends l l.length).getD (draw % (ends l l.length).length) 0, 0)) := Lib.hid (by rw [HPK2.out, if_pos hen])
          have HKT := Lib.hid (fun w' h => kth_any A cap (draw % (ends l l.length).length) l w' h (by omega) HW.out (Nat.mod_lt _ hen))
          have HMANY := Lib.hid (many_any A cap l w HC.out (by omega) HW.out)
          clear HPK2
          generalize ends l l.length = en at *
          have HCM := Lib.hid (show ((draw : Int) % (en.length : Int)) = ((draw % en.length : Nat) : Int) by omega)
          have hn0 : ¬ (en.length : Int) = 0 := by omega
          have hnu : (en.length : Int) ≤ 64 := by omega
          go_wp2_with fail
          refine (HMANY.out).mono ?_
          rintro e w' ⟨rfl, rfl⟩
          go_wp2_with fail
          rw [HCM.out]
          refine (HKT.out _ HC.out).mono ?_
          rintro e w' ⟨rfl, rfl⟩
          go_wp2_with fail
          go_ret2
          exact ⟨by rw [HRES.out]; rfl, Below.refl _ _⟩
        · have HNM : Hid ((ends l l.length).length = 0) := Lib.hid (by omega)
          have HRES : Hid (r = (scan (fin (l.map cnt)) (share (l.map cnt) draw) 0 l.length, 0)) := Lib.hid (by rw [HPK2.out, if_neg hen])
          have HMANY := Lib.hid (many_any A cap l w HC.out (by omega) HW.out)
          rw [HNM.out] at HMANY
          have HIN : Hid (∀ j, j < (l.map cnt).length → (l.map cnt).getD j 0 < inf) := Lib.hid (noInf HLE.out _ (Nat.le_refl _) (by rw [ends_cnt, HLN.out]; exact hen))
          have HLF := Lib.hid (last_fin (m := l.map cnt) hd HIN.out (by rw [HLN.out]; exact hl2) HMX.out)
          rw [HLN.out, HLA.out] at HLF
          clear HPK2 HLA HMX hel hen HNM
          go_wp2_with fail
          refine (HMANY.out).mono ?_
          rintro e w' ⟨rfl, rfl⟩
          clear HMANY
          have hlit : kF.R 28 (w.alloc (.cells #[] 28)) w.heap.size (fun k => w.heap.size ≤ k) (.slice (some ⟨w.heap.size, 0, none⟩) 0 0) [] :=
            Kd.R_of_own (h1 := fun _ => rfl) (ok := fun k => w.heap.size ≤ k) (own_lit_of (enc := Value.float .f64) w w.heap.size 28 [] (Nat.le_refl _) (by simp)) (fun k hk => by
              have : w.heap.size = k := by simpa [Value.ownBlock] using hk
              show w.heap.size ≤ k
              omega)
          have HLIT := Lib.hid hlit
          have HBA := Lib.hid ((Below.refl _ w).alloc (Nat.le_refl _) (.cells #[] 28))
          have HCA := Lib.hid (Kd.C_below HC.out HBA.out)
          clear hlit
          obtain ⟨bd, hbd⟩ : ∃ bd, bd = decide (sumC (l.map cnt) = inf) := ⟨_, rfl⟩
          have HBD := Lib.hid hbd
          clear hbd
          go_upto_if 52 with (first
            | (at_builtin; refine Kd.R_append_rows kF (Rr := fun x cs => cs = [.float .f64 x]) (w0 := w) w.heap.size rfl (.tmp 47) (.tmp 48) 22 28 (.float .f64 0) 8 rfl Try.underlying22 info28 rfl (by decide) (by omega) _ [] l A l.length cap (fun k => w.heap.size ≤ k) (fun _ => False) rfl rfl HLIT.out HCA.out (fun _ _ h => h) (fun _ h => h.elim) (fun k hk => Nat.le_trans HBA.out.size hk) HBA.out HBA.out.size (by simp only [List.length_nil]; omega) ?_; intro v1 w2 hr2 hb2 hg2 ho2; have hr3 : kF.R 28 w2 w.heap.size (fun k => w.heap.size ≤ k) v1 l := hr2; obtain ⟨g, c1, rfl, hg, _, _⟩ := Kd.R_form hr3 hl; have HR2 := Lib.hid hr3; have HB2 := Lib.hid hb2; clear hr2 hr3 hb2 hg2 ho2)
            | (go_at_call 24; (with_reducible refine (rsum_any (some ⟨g, 0, none⟩) c1 l.length l _ rfl (Kd.R_reads' HR2.out).2.2 (by omega) HW.out).mono ?_); rintro e w' ⟨rfl, rfl⟩)
            | (go_at_call 36; refine (rend_is (sumC (l.map cnt)) (lt2 (sumC_le _)) _).mono ?_; rw [← HBD.out]; rintro e w' ⟨rfl, rfl⟩))
          clear HLIT HBA HCA
          go_cut [9] (fun s9 wx => s9 = .slice (some ⟨g, 0, none⟩) l.length c1 ∧ ∃ f : List Nat, f.length = l.length ∧ f.map cnt = fin (l.map cnt) ∧ (∀ x ∈ f, x < 2 * sgn) ∧ kF.R 28 wx w.heap.size (fun k => w.heap.size ≤ k) (.slice (some ⟨g, 0, none⟩) l.length c1) f ∧ Below w.heap.size w wx)
          case first =>
            cases bd
            case false =>
              have hfin : fin (l.map cnt) = l.map cnt := by unfold fin; rw [if_neg (of_decide_eq_false HBD.out.symm)]
              have HF := Lib.hid hfin
              clear hfin
              go_wp2_with fail
              go_meet
              exact ⟨rfl, l, rfl, HF.out.symm, HW.out, HR2.out, HB2.out⟩
            case true =>
              have hfin : fin (l.map cnt) = (l.map cnt).map down := by unfold fin; rw [if_pos (of_decide_eq_true HBD.out.symm)]
              have HF := Lib.hid hfin
              clear hfin
              go_wp2_with fail
              go_loopw [10] (fun i wr => ∃ k : Nat, k ≤ l.length ∧ i = .int .i64 k ∧ kF.R 28 wr w.heap.size (fun k => w.heap.size ≤ k) (.slice (some ⟨g, 0, none⟩) l.length c1) (dg l k) ∧ Below w.heap.size w wr) (fun i _ => l.length - (intOf i).toNat)
              case atStart => exact ⟨0, Nat.zero_le _, rfl, by rw [dg_zero]; exact HR2.out, HB2.out⟩
              case round =>
                obtain ⟨k, hk, rfl, hr, hb⟩ := hrel
                have hlk := dg_len l k hk
                have hr2 : kF.R 28 wr w.heap.size (fun k => w.heap.size ≤ k) (.slice (some ⟨g, 0, none⟩) (dg l k).length c1) (dg l k) := by rw [hlk]; exact hr
                by_cases hlt : k < l.length
                · have hxi := HIN.out k (by rw [HLN.out]; exact hlt)
                  rw [HGD.out] at hxi
                  obtain ⟨d1, f1⟩ := Kd.R_cell (enc := Value.float .f64) (h1 := fun _ => rfl) 0 hr2 (k : Int) (by omega) (by omega)
                  obtain ⟨hp, hg2⟩ := Kd.R_put (enc := Value.float .f64) (h1 := fun _ => rfl) hr2 (k : Int) (down (cnt (l.getD k 0)))
                  have e : (k : Int).toNat = k := by omega
                  rw [e] at d1 f1 hp hg2
                  rw [dg_set l k hlt, hlk] at hp
                  have e2 : rdOf 0 (dg l k) (k : Int) = l.getD k 0 := by
                    show (dg l k).getD (k : Int).toNat 0 = _
                    rw [e, dg_get l k hlt]
                  rw [e2] at d1
                  have HP := Lib.hid hp
                  have HB4 := Lib.hid (hb.setCell (p := ⟨g, k, none⟩) hg (.float .f64 (down (cnt (l.getD k 0)))))
                  have hdiv := run_fdiv128 hxi
                  have HCn := Lib.hid (fun w => rcount_any (l.getD k 0) (HW.out _ (getD_mem_ l k hlt)) w)
                  clear hp hg2 hr hr2 hlk e e2 hb hxi HR2 HB2 HIN HBD
                  generalize down (cnt (l.getD k 0)) = dc at *
                  generalize cnt (l.getD k 0) = c at *
                  generalize l.getD k 0 = x at *
                  go_wp2_with (go_at_call 20; refine (HCn.out _).mono ?_; rintro e w' ⟨rfl, rfl⟩)
                  go_roundw
                  case rel => exact ⟨k + 1, by omega, by go_num, HP.out, HB4.out⟩
                  case measure => simp [intOf]; omega
                · obtain rfl : k = l.length := by omega
                  rw [dg_all] at hr
                  have HR4 := Lib.hid hr
                  have HB4 := Lib.hid hb
                  clear hr hr2 hlk HR2 HB2
                  go_wp2_with fail
                  go_meet
                  exact ⟨rfl, _, by rw [List.length_map, HLN.out], by rw [HF.out, cnts_of_le (downs_le _)], fun x hx => lt2 (downs_le _ x hx), HR4.out, HB4.out⟩
          case rest =>
            obtain ⟨rfl, f, hfl, hfc, hfw, hr, hb⟩ := hcut
            have hr2 : kF.R 28 wc w.heap.size (fun k => w.heap.size ≤ k) (.slice (some ⟨g, 0, none⟩) f.length c1) f := by rw [hfl]; exact hr
            obtain ⟨_, hfc1, hCf⟩ := Kd.R_reads' hr2
            rw [hfl] at hfc1
            have hCf' : kF.C wc (some ⟨g, 0, none⟩) l.length f := by rw [← hfl]; exact hCf
            have HSM := Lib.hid (rsum_any (some ⟨g, 0, none⟩) c1 l.length f wc hfl hCf' (by omega) hfw)
            rw [hfc] at HSM
            have HFL := Lib.hid hfl
            have HFC := Lib.hid hfc
            have HFW := Lib.hid hfw
            have HCF := Lib.hid hCf
            have HB4 := Lib.hid hb
            have hconv : floatOfInt FloatKind.f64 ((draw : Int) / 2048) = ofInt (draw / 2048) := by rw [← floatOfInt_nat]; congr 1
            have hof : ofInt (draw / 2048) < inf := ofInt_fin (Nat.lt_of_le_of_lt (Nat.div_le_self _ _) hd)
            have hq := run_fdiv53 hof
            have hsf := fin_fin HIN.out (by rw [HLN.out]; omega)
            have hmul := run_fmul (Nat.lt_of_le_of_lt (part_le hof) hof) hsf
            have hsh : fmul (part (ofInt (draw / 2048))) (sumC (fin (l.map cnt))) = share (l.map cnt) draw := rfl
            have hshi : share (l.map cnt) draw ≤ inf := fmul_le_inf _ _
            rw [hsh] at hmul
            have HSI := Lib.hid hshi
            clear hr hr2 hCf hCf' hfc hfl hfw hb hof hsf hsh hshi HR2 HB2 HBD HW HC HIN HGD HLE
            go_upto_region 23 with (go_at_call 24; refine (HSM.out).mono ?_; rintro e w' ⟨rfl, rfl⟩)
            clear HSM hq hmul hconv
            generalize share (l.map cnt) draw = sh at *
            clear HLN
            generalize fin (l.map cnt) = m at *
            go_wp2_with fail
            go_loop [14] (fun i => ∃ k : Nat, k ≤ l.length ∧ i = .int .i64 k ∧ Hid (¬ sh < sumC (m.take k) ∧ scan m sh 0 l.length = scan m sh k (l.length - k))) (fun i => l.length - (intOf i).toNat)
            case atStart => exact ⟨0, Nat.zero_le _, rfl, Lib.hid ⟨by show ¬ sh < 0; omega, rfl⟩⟩
            case round =>
              obtain ⟨k, hk, rfl, HSC⟩ := hrel
              by_cases hlt : k < l.length
              · obtain ⟨i0, hi, _⟩ := info_parts info28
                have hcut := cut_to (P := Try.prog) 22 28 .i64 Try.underlying22 hi (some ⟨g, 0, none⟩) l.length c1 ((k : Int) + 1) (by omega) (by omega) hfc1
                have ek : ((k : Int) + 1).toNat = k + 1 := by omega
                rw [ek] at hcut
                have htl : (f.take (k + 1)).length = k + 1 := by rw [List.length_take, HFL.out]; omega
                have hCk : kF.C wc (some ⟨g, 0, none⟩) (k + 1) (f.take (k + 1)) := by
                  have := take_C HCF.out (k + 1)
                  rwa [htl] at this
                have HSK := Lib.hid (rsum_any (some ⟨g, 0, none⟩) c1 (k + 1) (f.take (k + 1)) wc htl hCk (by omega) (take_lt HFW.out (k + 1)))
                rw [List.map_take, HFC.out] at HSK
                have hfar := sumC_le (m.take (k + 1))
                have hcm : FloatKind.f64.format.order sh (sumC (m.take (k + 1))) = some (compare sh (sumC (m.take (k + 1)))) := order_nn HSI.out hfar
                have hln : l.length - k = (l.length - (k + 1)) + 1 := by omega
                have hsc : scan m sh k (l.length - k) = if sh < sumC (m.take (k + 1)) then (k : Int) else scan m sh (k + 1) (l.length - (k + 1)) := by rw [hln]; rfl
                have HSC2 := Lib.hid hsc
                rw [compare_nat] at hcm
                clear hsc hln ek htl hCk hfar hi
                by_cases hlt2 : sh < sumC (m.take (k + 1))
                · rw [if_pos hlt2] at hcm
                  have HFIN : Hid (r = ((k : Int), 0)) := Lib.hid (by rw [HRES.out, HSC.out.2, HSC2.out, if_pos hlt2])
                  clear hlt2
                  generalize sumC (m.take (k + 1)) = far at *
                  go_wp2_with (go_at_call 24; refine (HSK.out).mono ?_; rintro e w' ⟨rfl, rfl⟩)
                  go_ret2
                  exact ⟨by rw [HFIN.out]; rfl, HB4.out⟩
                · have hne2 : ∃ o, o ≠ .lt ∧ FloatKind.f64.format.order sh (sumC (m.take (k + 1))) = some o := by
                    rw [hcm, if_neg hlt2]
                    split
                    · exact ⟨.eq, by simp, rfl⟩
                    · exact ⟨.gt, by simp, rfl⟩
                  obtain ⟨o, ho1, ho2⟩ := hne2
                  have hbo : (some o == some Ordering.lt) = false := by cases o <;> simp_all
                  have HRN := Lib.hid (And.intro hlt2 (show scan m sh 0 l.length = scan m sh (k + 1) (l.length - (k + 1)) from by rw [HSC.out.2, HSC2.out, if_neg hlt2]))
                  clear hlt2 hcm ho1
                  generalize hfe : sumC (m.take (k + 1)) = far at *
                  have HFE := Lib.hid hfe
                  clear hfe
                  go_wp2_with (go_at_call 24; refine (HSK.out).mono ?_; rintro e w' ⟨rfl, rfl⟩)
                  go_round
                  case rel => exact ⟨k + 1, by omega, by go_num, Lib.hid ⟨by rw [HFE.out]; exact HRN.out.1, HRN.out.2⟩⟩
                  case measure => simp [intOf]; omega
              · obtain rfl : k = l.length := by omega
                have hml : m.length = l.length := by rw [← HFC.out, List.length_map, HFL.out]
                have HFIN : Hid (r = (la, 0)) := Lib.hid (by
                  rw [HRES.out, HSC.out.2, Nat.sub_self]
                  rcases HLF.out with h | h
                  · rw [← h]; rfl
                  · exact absurd h (by have := HSC.out.1; rwa [← hml, List.take_length] at this))
                clear hml
                go_wp2_with fail
                go_ret2
                exact ⟨by rw [HFIN.out]; rfl, HB4.out⟩

theorem rpick_any (A : Option Addr) (cap : Nat) (l : List Nat) (draw : Nat) (w : World) (hC : kF.C w A l.length l) (hl : l.length ≤ 9223372036854775807) (hw : ∀ x ∈ l, x < 2 * sgn) (hd : draw < 2 ^ 64) (r : Int × Int) (hr : pickF l draw = r) :
    Calls Try.prog 21 #[.slice A l.length cap, .int .u64 draw] w (PickP w r) := by
  by_cases h1 : l.length = 0 ∨ 64 < l.length
  · obtain rfl : r = (0, 1) := by rw [← hr]; unfold pickF; rw [if_pos h1]
    exact rpick_len A cap l draw w h1 hl
  · exact rpick_some A cap l draw w hC (by omega) (by omega) hw hd r hr
end Go.Proofs.Ytakfkkpcdnphlaa
