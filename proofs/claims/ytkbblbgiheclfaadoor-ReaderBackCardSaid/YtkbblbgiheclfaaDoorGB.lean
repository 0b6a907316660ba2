/- The law ReaderBack. -/
import Derived.Test.YtkbblbgiheclfaaDoorQR
import Derived.Test.YtkbblbgiheclfaaDoorRW
import Derived.Test.YtkbblbgiheclfaaDoorQF
namespace Go.Proofs.YtkbblbgiheclfaaDoor.Dq
open Go.RowKit Go.Proofs.YtkbblbgiheclfaaDoorW.PrintWords Go.Proofs.YtkbblbgiheclfaaDoor.Dr

theorem Octs_app {a b : List It} (ha : Octs a) (hb : Octs b) : Octs (a ++ b) := fun x hx => (List.mem_append.1 hx).elim (ha x) (hb x)
/-- Feed, back to waiting for data. -/
def Feed0 (w : World) (l : List It) (e : Ending) (w' : World) : Prop := ∃ A c B d, e = .returned (.tuple #[.agg #[.int .i64 0, .int .i64 0, .int .i64 0, .slice A 0 c], .slice B l.length d, .int .i64 0]) ∧ kB.C w' A 0 [] ∧ l.length ≤ d ∧ kIt.C w' B l.length l ∧ Below w.heap.size w w'
theorem one_err (l : List It) : errs l = if mays l = true then 0 else 1 := rfl
set_option maxHeartbeats 4000000 in
set_option maxRecDepth 100000 in
theorem back_law (A0 A1 : Option Addr) (c0 c1 : Nat) (l0 : List It) (m0 : List Int) (w : World) (hL : kIt.C w A0 l0.length l0) (hc0 : l0.length ≤ c0) (hol : Octs l0) (hM : kB.C w A1 m0.length m0) (hc1 : m0.length ≤ c1) (hom : Oct m0) :
    Calls Tryd.prog 10 #[.slice A0 l0.length c0, .slice A1 m0.length c1] w (AwakeP w) := by
  have HFA : Hid (Calls Tryd.prog 14 #[.slice A0 l0.length c0] w (ItsP w (fewI l0))) := Lib.hid (few_any A0 c0 l0 w hL hc0)
  have HFD := Lib.hid (fun w' => bfew_any A1 c1 m0 w' hc1 hM.2.1)
  have hM2 := take_B hM 200
  have hom2 := hom.take 200
  have hol2 := few_octs hol
  have hll := few_len l0
  have hml : (m0.take 200).length ≤ 200 := by rw [List.length_take]; omega
  have hmc : (m0.take 200).length ≤ c1 := by rw [List.length_take]; omega
  clear hL hc0 hol hM hc1 hom
  generalize fewI l0 = l at *
  generalize m0.take 200 = m at *
  generalize l0.length = nl at *
  generalize m0.length = nm at *
  have HPT : Hid (∀ A c w', kIt.C w' A l.length l → Calls Tryd.prog 15 #[.slice A l.length c] w' (PutQ w' (putsE l) (errs l))) := Lib.hid (fun A c w' h => put_q A c l w' h hol2 (by omega))
  have hop := putsE_oct hol2
  have hpl : (putsE l).length ≤ 44000 := by have := putsE_len l; omega
  by_cases hms : mays l = true
  · have her := (errs_yes hms).1
    have hpe := (errs_yes hms).2
    have hfp := feed_puts hms
    rw [← hpe] at hfp
    rw [her] at HPT
    clear her hpe hms
    generalize putsE l = p at *
    have hmr0 : mayR (inR 0) = true := by decide +kernel
    obtain ⟨_, hoy, _⟩ := good_feed m (inR 0) hmr0 Oct.nil hom2
    have hly := len_feed m (inR 0)
    have hfpm : feedF (inR 0) (p ++ m) = ((feedF (inR 0) m).1, l ++ (feedF (inR 0) m).2) := by rw [feed_app, hfp]
    have hopm : Oct (p ++ m) := hop.app hom2
    obtain ⟨pm, hpm⟩ : ∃ pm, p ++ m = pm := ⟨_, rfl⟩
    rw [hpm] at hfpm hopm
    have hpml : pm.length ≤ 45000 := by rw [← hpm, List.length_append]; omega
    have HF1 : Hid (∀ A c w', kB.C w' A p.length p → Calls Tryd.prog 27 #[.agg #[.int .i64 0, .int .i64 0, .int .i64 0, .slice none 0 0], .slice A p.length c] w' (Feed0 w' l)) := Lib.hid (fun A c w' h => (feed_is (inR 0) (inR 0) l none A 0 _ 0 c p w' rfl rfl (Kd.C_nil _ _) (Nat.le_refl _) hmr0 h (by omega) hop hfp).mono (fun e w'' ⟨A', c', B', d', he, _, hx, hR, hI, hb⟩ => ⟨A', c', B', d', he, Kd.F_now hR, hx, Kd.F_now hI, hb⟩))
    have HF2 : Hid (∀ A c w', kB.C w' A pm.length pm → Calls Tryd.prog 27 #[.agg #[.int .i64 0, .int .i64 0, .int .i64 0, .slice none 0 0], .slice A pm.length c] w' (FeedP w' (feedF (inR 0) m).1 (l ++ (feedF (inR 0) m).2) 0)) := Lib.hid (fun A c w' h => feed_is (inR 0) _ _ none A 0 _ 0 c pm w' rfl rfl (Kd.C_nil _ _) (Nat.le_refl _) hmr0 h (by omega) hopm hfpm)
    have HF3 : Hid (∀ w', Below w.heap.size w w' → Calls Tryd.prog 27 #[.agg #[.int .i64 0, .int .i64 0, .int .i64 0, .slice none 0 0], .slice A1 m.length c1] w' (FeedP w' (feedF (inR 0) m).1 (feedF (inR 0) m).2 0)) := Lib.hid (fun w' h => feed_is (inR 0) _ _ none A1 0 _ 0 c1 m w' rfl rfl (Kd.C_nil _ _) (Nat.le_refl _) hmr0 (Kd.C_below hM2 h) (by omega) hom2 rfl)
    have HRS : Hid (∀ A B c d w', kB.C w' A 0 [] → kB.C w' B 0 [] → Calls Tryd.prog 29 #[.agg #[.int .i64 0, .int .i64 0, .int .i64 0, .slice A 0 c], .agg #[.int .i64 0, .int .i64 0, .int .i64 0, .slice B 0 d]] w' (BoolP w' true)) := Lib.hid (fun A B c d w' h1 h2 => by
      have h3 := rsame_any (inR 0) (inR 0) A B c d w' h1 h2 Oct.nil Oct.nil
      rw [decide_eq_true rfl] at h3
      exact h3)
    have HSM : Hid (∀ A B c d w', kIt.C w' A l.length l → kIt.C w' B l.length l → Calls Tryd.prog 19 #[.slice A l.length c, .slice B l.length d] w' (BoolP w' true)) := Lib.hid (fun A B c d w' h1 h2 => by
      have h3 := isame_any A B c d l l w' h1 h2 hol2 hol2
      rw [decide_eq_true rfl] at h3
      exact h3)
    have HM := Lib.hid hM2
    have HPM := Lib.hid hpm
    clear hop hfp hfpm hopm hmr0 hM2 hom2 hpm
    generalize feedF (inR 0) m = fr at *
    obtain ⟨⟨i, v, o, lr⟩, y⟩ := fr
    dsimp only at *
    obtain ⟨ly, hly2⟩ : ∃ ly, l ++ y = ly := ⟨_, rfl⟩
    rw [hly2] at HF2
    have holy : Octs ly := hly2 ▸ Octs_app hol2 hoy
    have HSM2 : Hid (∀ A B c d w', kIt.C w' A ly.length ly → kIt.C w' B ly.length ly → Calls Tryd.prog 19 #[.slice A ly.length c, .slice B ly.length d] w' (BoolP w' true)) := Lib.hid (fun A B c d w' h1 h2 => by
      have h3 := isame_any A B c d ly ly w' h1 h2 holy holy
      rw [decide_eq_true rfl] at h3
      exact h3)
    have HLY := Lib.hid hly2
    clear holy hly2 hoy hol2
    go_enter Tryd.func10, Tryd.ntmps10
    go_upto_region 6 with (first
      | (go_at_call 14; (with_reducible refine (HFA.out).mono ?_); rintro e w1 ⟨A5, c5, rfl, hc5, hC5, hb5⟩; have HC5 := Lib.hid hC5; have HB5 := Lib.hid hb5; clear hC5 hb5)
      | (go_at_call 11; (with_reducible refine (HFD.out _).mono ?_); rintro e w' ⟨rfl, rfl⟩)
      | (go_at_call 15; (with_reducible refine (HPT.out A5 c5 w1 HC5.out).mono ?_); rintro e w2 ⟨A6, c6, rfl, hc6, hC6, hb6⟩; have HC6 := Lib.hid hC6; have HC52 := Lib.hid (Kd.C_below HC5.out hb6); have HB6 := Lib.hid (HB5.out.trans (hb6.mono HB5.out.size)); clear hC6 hb6)
      | (go_at_call 27; (with_reducible refine Calls.mono (HF1.out A6 c6 _ HC6.out) ?_); rintro e w3 ⟨A7, c7, B7, d7, rfl, hR7, hlx7, hI7, hb7⟩; have HR7 := Lib.hid hR7; have HI7 := Lib.hid hI7; have HC53 := Lib.hid (Kd.C_below HC52.out hb7); have HC63 := Lib.hid (Kd.C_below HC6.out hb7); have HB7 := Lib.hid (HB6.out.trans (hb7.mono HB6.out.size)); clear hI7 hR7 hb7))
    have hk := alloc_at w3 (.cells #[.int .i64 0, .int .i64 0, .int .i64 0, .slice A7 0 c7] 48)
    have hba := below_alloc (Below.refl _ w3) (.cells #[.int .i64 0, .int .i64 0, .int .i64 0, .slice A7 0 c7] 48)
    have HR8 := Lib.hid (Kd.C_below HR7.out hba)
    have HI8 := Lib.hid (Kd.C_below HI7.out hba)
    have HC54 := Lib.hid (Kd.C_below HC53.out hba)
    have HC64 := Lib.hid (Kd.C_below HC63.out hba)
    have HB8 := Lib.hid (HB7.out.trans (hba.mono HB7.out.size))
    generalize w3.alloc (.cells #[.int .i64 0, .int .i64 0, .int .i64 0, .slice A7 0 c7] 48) = w4 at *
    generalize w3.heap.size = g at *
    have HK := Lib.hid hk
    clear hk hba HR7 HI7 HC53 HC63 HB7 HFA HFD HPT HC5 HB5 HC6 HC52 HB6 HF1
    go_upto_region 8 with (first
      | (go_at_call 19; (with_reducible refine (HSM.out B7 A5 d7 c5 w4 HI8.out HC54.out).mono ?_); rintro e w5 ⟨rfl, hb8⟩; have hk5 := (hb8.block g (blk_lt HK.out)).trans HK.out; obtain ⟨f0, f1, f2, f3, z0, z1, z2, z3⟩ := blk_facts4 hk5; have HR9 := Lib.hid (Kd.C_below HR8.out hb8); have HC55 := Lib.hid (Kd.C_below HC54.out hb8); have HC65 := Lib.hid (Kd.C_below HC64.out hb8); have HB9 := Lib.hid (HB8.out.trans (hb8.mono HB8.out.size)); clear hb8 hk5)
      | (go_at_call 29; (with_reducible refine Calls.mono (HRS.out A7 none c7 0 w5 HR9.out (Kd.C_nil kB _)) ?_); rintro e w6 ⟨rfl, hb9⟩; have HC56 := Lib.hid (Kd.C_below HC55.out hb9); have HC66 := Lib.hid (Kd.C_below HC65.out hb9); have HB10 := Lib.hid (HB9.out.trans (hb9.mono HB9.out.size)); clear hb9))
    clear f0 f1 f2 f3 z0 z1 z2 z3 HR8 HI8 HC54 HC64 HB8 HR9 HC55 HC65 HB9 HRS HSM HK
    have HZ := Lib.hid (R_zero kB 5 w6)
    have hba := below_alloc (Below.refl _ w6) (.cells #[] 5)
    have HBZ := Lib.hid hba
    have HX := Lib.hid (Kd.C_below HC66.out hba)
    have HMZ := Lib.hid (Kd.C_below HM.out HB10.out)
    clear hba HC66 HM
    go_upto_region 10 with (first
      | ((with_reducible refine gate_builtin (b := .append) (xs := #[.tmp 51, .tmp 52]) rfl ?_); at_builtin; refine Kd.R_append_rows kB (Rr := fun x cs => cs = [.int .u8 x]) (w0 := w6) w6.heap.size rfl (.tmp 51) (.tmp 52) 22 5 (.int .u8 0) 1 rfl Tryd.underlying22 info_u8 rfl (by decide) (by omega) (.slice (some ⟨w6.heap.size, 0, none⟩) 0 0) [] p A6 p.length c6 (fun k => w6.heap.size ≤ k) (fun _ => False) rfl rfl HZ.out HX.out (fun _ _ h => h) (fun _ h => h.elim) (fun k hk => Nat.le_trans HBZ.out.size hk) HBZ.out HBZ.out.size (by simp only [List.length_nil]; omega) ?_; intro v1 wx hr hb hg hat; rw [List.nil_append] at hr; obtain ⟨A8, c8, rfl⟩ := Kd.R_slice hr; have HRX := Lib.hid hr; have HBX := Lib.hid hb; have HMX := Lib.hid (Kd.C_below HMZ.out hb); clear hr hb hg hat)
      | ((with_reducible refine gate_builtin (b := .append) (xs := #[.tmp 53, .tmp 54]) rfl ?_); at_builtin; refine Kd.R_append_rows kB (Rr := fun x cs => cs = [.int .u8 x]) (w0 := w6) w6.heap.size rfl (.tmp 53) (.tmp 54) 22 5 (.int .u8 0) 1 rfl Tryd.underlying22 info_u8 rfl (by decide) (by omega) (.slice A8 p.length c8) p m A1 m.length c1 (fun k => w6.heap.size ≤ k) (fun _ => False) rfl rfl HRX.out HMX.out (fun _ _ h => h) (fun _ h => h.elim) (fun k hk => Nat.le_trans HBX.out.size hk) HBX.out HBX.out.size (by omega) ?_; intro v1 wy hr hb hg hat; rw [HPM.out] at hr; obtain ⟨A9, c9, rfl⟩ := Kd.R_slice hr; have HRY := Lib.hid (Kd.R_reads' hr).2.2; have HC5Y := Lib.hid (Kd.C_below HC56.out hb); have HBY := Lib.hid (HB10.out.trans (hb.mono HB10.out.size)); clear hr hb hg hat)
      | (go_at_call 27; (with_reducible refine Calls.mono (HF2.out A9 c9 wy HRY.out) ?_); rintro e w7 ⟨A10, c10, B10, d10, rfl, _, hlx10, _, hI10, hb10⟩; have HI10 := Lib.hid (Kd.F_now hI10); have HC57 := Lib.hid (Kd.C_below HC5Y.out hb10); have HB11 := Lib.hid (HBY.out.trans (hb10.mono HBY.out.size)); clear hI10 hb10)
      | (go_at_call 27; (with_reducible refine Calls.mono (HF3.out _ (below_alloc HB11.out _)) ?_); rintro e w8 ⟨A11, c11, B11, d11, rfl, _, hlx11, _, hI11, hb11⟩; have HI11 := Lib.hid (Kd.F_now hI11); have HI108 := Lib.hid (Kd.C_below (Kd.C_alloc HI10.out _) hb11); have HC58 := Lib.hid (Kd.C_below (Kd.C_alloc HC57.out _) hb11); have HB12 := Lib.hid (below_box HB11.out hb11); clear hI11 hb11))
    have hba := below_alloc (Below.refl _ w8) (.cells #[.int .i64 i, .int .i64 v, .int .i64 o, .slice A11 lr.length c11] 48)
    have HI11 := Lib.hid (Kd.C_below HI11.out hba)
    have HI109 := Lib.hid (Kd.C_below HI108.out hba)
    have HC59 := Lib.hid (Kd.C_below HC58.out hba)
    have HB13 := Lib.hid (HB12.out.trans (hba.mono HB12.out.size))
    generalize w8.alloc (.cells #[.int .i64 i, .int .i64 v, .int .i64 o, .slice A11 lr.length c11] 48) = w9 at *
    clear hba HI108 HC58 HB12 HZ HBZ HX HMZ HRX HBX HMX HRY HC5Y HBY HI10 HC57 HB11 HF2 HF3 HPM HC56 HB10
    have HZ := Lib.hid (Kd.R_N (R_zero kIt 25 w9))
    have hba := below_alloc (Below.refl _ w9) (.cells #[] 25)
    have HBZ := Lib.hid hba
    have HF5 := Lib.hid (Kd.F_below (Kd.C_F heap_It HC59.out) hba)
    have HF6 := Lib.hid (Kd.C_F heap_It HI11.out)
    clear hba HC59 HI11
    go_wp2_with (first
      | ((with_reducible refine gate_builtin (b := .append) (xs := #[.tmp 75, .tmp 76]) rfl ?_); refine list_step rfl ?_; refine Kd.N_append_rows_step kIt (w0 := w9) w9.heap.size rfl (.tmp 75) (.tmp 76) 31 25 (.agg #[.int .i64 0, .int .i64 0, .int .i64 0, .slice none 0 0]) 48 rfl Tryd.underlying31 info_it rfl (by decide) (by omega) (.slice (some ⟨w9.heap.size, 0, none⟩) 0 0) [] l A5 l.length c5 (fun _ => True) (fun k => k < w9.heap.size) rfl rfl (Kd.N_mono HZ.out (fun _ _ => trivial)) HF5.out (fun k hk => ⟨trivial, by simp [Value.ownBlock]; omega⟩) (fun _ _ => trivial) HBZ.out HBZ.out.size (by simp only [List.length_nil]; omega) ?_; intro v1 wx hr hb hg hat; rw [List.nil_append] at hr; obtain ⟨A14, c14, rfl⟩ := Kd.N_slice hr; have HR9 := Lib.hid hr; have HF6x := Lib.hid (Kd.F_below HF6.out hb); have HBX := Lib.hid hb; have HNE := Lib.hid (show ∀ k, k < w9.heap.size → True ∧ some k ≠ (Value.slice A14 l.length c14).ownBlock from fun k hk => ⟨trivial, by rcases hat with h | ⟨b, h, hb2⟩ <;> rw [h] <;> simp [Value.ownBlock] <;> (have := HBZ.out.size; omega)⟩); clear hr hb hg hat)
      | ((with_reducible refine gate_builtin (b := .append) (xs := #[.tmp 77, .tmp 78]) rfl ?_); refine list_step rfl ?_; refine Kd.N_append_rows_step kIt (w0 := w9) w9.heap.size rfl (.tmp 77) (.tmp 78) 31 25 (.agg #[.int .i64 0, .int .i64 0, .int .i64 0, .slice none 0 0]) 48 rfl Tryd.underlying31 info_it rfl (by decide) (by omega) (.slice A14 l.length c14) l y B11 y.length d11 (fun _ => True) (fun k => k < w9.heap.size) rfl rfl HR9.out HF6x.out HNE.out (fun _ _ => trivial) HBX.out HBX.out.size (by omega) ?_; intro v1 wy2 hr hb hg hat; rw [HLY.out] at hr; obtain ⟨A15, c15, rfl, hc15, hC15⟩ := Kd.N_reads hr; have HC15 := Lib.hid hC15; have HBY := Lib.hid (HB13.out.trans (hb.mono HB13.out.size)); have HI10Y := Lib.hid (Kd.C_below HI109.out hb); clear hr hb hg hat hC15)
      | (go_at_call 19; (with_reducible refine (HSM2.out B10 A15 d10 c15 wy2 HI10Y.out HC15.out).mono ?_); rintro e w10 ⟨rfl, hb15⟩; have HB14 := Lib.hid (HBY.out.trans (hb15.mono HBY.out.size)); clear hb15)
      | (go_at_call 28; refine (awake_any _).mono ?_; rintro e w11 ⟨rfl, hb9⟩; have HB15 := Lib.hid (HB14.out.trans (hb9.mono HB14.out.size)); clear hb9))
    go_ret
    exact ⟨rfl, HB15.out⟩
  · have hmf : mays l = false := by simpa using hms
    have her := (errs_no hmf).1
    rw [her] at HPT
    clear her hmf hms hop hM2 hom2 hol2
    generalize putsE l = p at *
    go_enter Tryd.func10, Tryd.ntmps10
    go_wp2_with (first
      | (go_at_call 14; (with_reducible refine (HFA.out).mono ?_); rintro e w1 ⟨A5, c5, rfl, hc5, hC5, hb5⟩; have HC5 := Lib.hid hC5; have HB5 := Lib.hid hb5; clear hC5 hb5)
      | (go_at_call 11; (with_reducible refine (HFD.out _).mono ?_); rintro e w' ⟨rfl, rfl⟩)
      | (go_at_call 15; (with_reducible refine (HPT.out A5 c5 w1 HC5.out).mono ?_); rintro e w2 ⟨A6, c6, rfl, hc6, hC6, hb6⟩; have HB6 := Lib.hid (HB5.out.trans (hb6.mono HB5.out.size)); clear hC6 hb6)
      | (go_at_call 28; refine (awake_any _).mono ?_; rintro e w11 ⟨rfl, hb9⟩; have HB15 := Lib.hid (HB6.out.trans (hb9.mono HB6.out.size)); clear hb9))
    go_ret
    exact ⟨rfl, HB15.out⟩
end Go.Proofs.YtkbblbgiheclfaaDoor.Dq
