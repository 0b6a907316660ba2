/- The law WeighMore. -/
import Derived.Test.YtakfkkpcdnphlaaF11
import Derived.Test.YtakfkkpcdnphlaaWG
namespace Go.Proofs.Ytakfkkpcdnphlaa
open Go.RowKit Go.Proofs.YtakfkkpcdnphlaaW.PrintWords
attribute [local go_sem] run_store_float

theorem nan_cut (a x t : Nat) : (Question.nanBits .f64 a x).cut t = (t % 2) * 2 ^ 63 + 9218868437227405312 + 1 + (t / 2) % (2 ^ 52 - 1) := rfl
theorem run_two {x : Nat} (hx : x < 2 * sgn) (h : In (cnt x) ∧ cnt x ≤ hi) (w : World) : ∃ y w', (binOp .mul 28 (.float .f64 4611686018427387904) (.float .f64 x)).run Try.prog w = .ok (.float .f64 y) w' ∧ cnt y = dbl (cnt x) ∧ y < 2 * sgn ∧ Below w.heap.size w w' := by
  rcases mul_two hx h with ⟨h1, h2⟩ | ⟨y, h1, h2, h3⟩
  · have h1' : FloatKind.f64.format.mul 4611686018427387904 x = none := h1
    refine ⟨(Question.nanBits .f64 4611686018427387904 x).cut (w.tape w.drawn (Question.nanBits .f64 4611686018427387904 x)), w.drew, ?_, ?_, ?_, (Below.refl _ w).drew⟩
    · simp [binOp, Op.floatArith, h1', Question.forced]
    · rw [h2]
      unfold cnt
      rw [if_neg]
      · rfl
      · rw [nan_cut, inf_def]
        omega
    · rw [nan_cut, sgn_def]
      have := Nat.mod_lt ((w.tape w.drawn (Question.nanBits .f64 4611686018427387904 x)) / 2) (show 0 < 2 ^ 52 - 1 by decide)
      have := Nat.mod_lt (w.tape w.drawn (Question.nanBits .f64 4611686018427387904 x)) (show 0 < 2 by decide)
      omega
  · exact ⟨y, w, run_float_arith w .mul 28 .f64 two x y h1, h2, h3, Below.refl _ w⟩

set_option maxHeartbeats 4000000 in
set_option maxRecDepth 100000 in
theorem more_law (A Bo : Option Addr) (cap capb : Nat) (l0 o : List Nat) (d : Nat) (w : World) (hC0 : kF.C w A l0.length l0) (hcap : l0.length ≤ cap) (hl : l0.length ≤ 9223372036854775807) (hw0 : ∀ x ∈ l0, x < 2 * sgn) (hd : d < 2 ^ 64)
    (hCo : kF.C w Bo o.length o) (hlo : o.length ≤ 9223372036854775807) (hwo : ∀ x ∈ o, x < 2 * sgn) :
    Calls Try.prog 5 #[.slice A l0.length cap, .int .u64 d, .slice Bo o.length capb] w (AwakeP w) := by
  have HC := Lib.hid (take_C hC0 70)
  have HW := Lib.hid (take_lt hw0 70)
  have HN := Lib.hid (show (l0.take 70).length ≤ 70 by simp; omega)
  have HF := Lib.hid (few_any A cap l0 w hcap hl)
  have HCO := Lib.hid hCo
  have HWO := Lib.hid hwo
  clear hC0 hw0 hcap hl hCo hwo
  generalize l0.length = n0 at *
  generalize l0.take 70 = l at *
  go_enter Try.func5, Try.ntmps5
  go_wp2_with fail
  refine (HF.out).mono ?_
  rintro e w1 ⟨rfl, rfl⟩
  clear HF
  have hn := HN.out
  have HPK : Hid (∃ r, pickF l d = r) := Lib.hid ⟨_, rfl⟩
  obtain ⟨r, hr⟩ := HPK.out
  obtain ⟨ri, re⟩ := r
  have HPK := Lib.hid hr
  have HP0 := Lib.hid (pick_any' A cap l.length l d w rfl HC.out (by omega) HW.out hd _ hr)
  clear hr
  go_wp2_with fail
  refine (HP0.out).mono ?_
  rintro e w1 ⟨rfl, hb⟩
  clear HP0
  have HB1 := Lib.hid hb
  clear hb
  have hlit : kF.R 28 (w1.alloc (.cells #[] 28)) w.heap.size (fun k => w.heap.size ≤ k) (.slice (some ⟨w1.heap.size, 0, none⟩) 0 0) [] :=
    Kd.R_of_own (h1 := fun _ => rfl) (ok := fun k => w.heap.size ≤ k) (own_lit_of (enc := Value.float .f64) w1 w.heap.size 28 [] HB1.out.size (by simp)) (fun k hk => by
      have : w1.heap.size = k := by simpa [Value.ownBlock] using hk
      have := HB1.out.size
      show w.heap.size ≤ k
      omega)
  have HLIT := Lib.hid hlit
  have HBA := Lib.hid (HB1.out.alloc HB1.out.size (.cells #[] 28))
  have HCA := Lib.hid (Kd.C_below HC.out HBA.out)
  clear hlit
  go_upto_block 0 with (at_builtin; refine Kd.R_append_rows kF (Rr := fun x cs => cs = [.float .f64 x]) (w0 := w) w.heap.size rfl (.tmp 25) (.tmp 26) 22 28 (.float .f64 0) 8 rfl Try.underlying22 info28 rfl (by decide) (by omega) _ [] l A l.length cap (fun k => w.heap.size ≤ k) (fun _ => False) rfl rfl HLIT.out HCA.out (fun _ _ h => h) (fun _ h => h.elim) (fun k hk => Nat.le_trans HBA.out.size hk) HBA.out HBA.out.size (by simp only [List.length_nil]; omega) ?_; intro v1 w2 hr2 hb2 hg2 ho2; have HR2 := Lib.hid hr2; have HB2 := Lib.hid hb2; have HG2 := Lib.hid hg2; clear hr2 hb2 hg2 ho2)
  clear HLIT HBA HCA
  go_cut [9] (fun v wx => ∃ m : List Nat, kF.R 28 wx w.heap.size (fun k => w.heap.size ≤ k) v m ∧ Below w.heap.size w wx ∧ Hid (MoreRel l m d))
  case first =>
    go_wp2_with fail
    go_loopg [9, 10] o.length (fun g v i wr => ∃ (k : Nat) (m : List Nat), k ≤ o.length ∧ o.length - k ≤ g ∧ i = .int .i64 k ∧ kF.R 28 wr w.heap.size (fun k => w.heap.size ≤ k) v m ∧ Below w.heap.size w wr ∧ Hid (MoreRel l m d))
    case atStart => exact ⟨0, l, Nat.zero_le _, Nat.le_refl _, rfl, HR2.out, HB2.out, Lib.hid (more_start d HW.out HN.out)⟩
    case round =>
      obtain ⟨k, m, hk, hgk, rfl, hr, hb, HM⟩ := hrel
      clear HR2 HB2 HG2
      have HR3 := Lib.hid hr
      have HB3 := Lib.hid hb
      have hm70 := HM.out.2.2.2
      obtain ⟨A3, c3, rfl⟩ := Kd.R_slice hr
      clear hr hb
      by_cases hlt : k < o.length
      · by_cases h64 : m.length < 64
        · obtain ⟨ad, rfl, hx⟩ := float_at HCO.out k hlt
          have hcell := (HB3.out.cell (block_lt_of_cell hx)).trans hx
          have hmem := HWO.out _ (getD_mem_ o k hlt)
          have HCn := Lib.hid (fun w => count_any (o.getD k 0) hmem w)
          by_cases h0 : cnt (o.getD k 0) = 0
          · have HM2 := Lib.hid (more_step HM.out h0 hmem h64)
            rw [h0] at HCn
            clear hx hmem h0 HM
            generalize o.getD k 0 = x at *
            have h00 : FloatKind.f64.format.order 0 0 = some .eq := by decide +kernel
            go_wp2_with (first
              | (go_at_call 15; refine (HCn.out _).mono ?_; rintro e w' ⟨rfl, rfl⟩)
              | (at_builtin; refine Kd.R_append kF (w0 := w) w.heap.size rfl (.tmp 45) (.tmp 50) 22 28 (.float .f64 0) 8 rfl Try.underlying22 info28 rfl (by decide) (by omega) _ m x [.float .f64 x] (fun k => w.heap.size ≤ k) (fun _ => False) rfl rfl rfl (fun _ hk => hk.elim) (fun k hk => Nat.le_trans HB3.out.size hk) HR3.out HB3.out HB3.out.size (by omega) ?_; intro v1 w1 hr2 hb2 hg2 ho2; have HR4 := Lib.hid hr2; have HB4 := Lib.hid hb2; clear hr2 hb2 hg2 ho2))
            go_roundg (o.length - (k + 1))
            case measure => omega
            case rel => exact ⟨k + 1, _, by omega, by omega, by go_num, HR4.out, HB4.out, HM2⟩
          · have ho := order_zero_pos (cnt_le (o.getD k 0)) h0
            clear hx hmem h0
            generalize o.getD k 0 = x at *
            go_wp2_with (go_at_call 15; refine (HCn.out _).mono ?_; rintro e w' ⟨rfl, rfl⟩)
            go_roundg (o.length - (k + 1))
            case measure => omega
            case rel => exact ⟨k + 1, _, by omega, by omega, by go_num, HR3.out, HB3.out, HM⟩
        · go_wp2_with fail
          go_meet
          exact ⟨m, HR3.out, HB3.out, HM⟩
      · go_wp2_with fail
        go_meet
        exact ⟨m, HR3.out, HB3.out, HM⟩
  case rest =>
    obtain ⟨m, hr, hb, HM⟩ := hcut
    clear HR2 HB2 HG2 HCO HWO
    have hm70 := HM.out.2.2.2
    have hlm := HM.out.2.2.1
    obtain ⟨A3, c3, rfl, _, hC3⟩ := Kd.R_reads hr
    have HB3 := Lib.hid hb
    have HC3 := Lib.hid hC3
    clear hr hb hC3
    obtain ⟨qi, qe, hq, hqr⟩ : ∃ qi qe, pickF m d = (qi, qe) ∧ (0 < l.length → qi = ri ∧ qe = re) := by
      refine ⟨(pickF m d).1, (pickF m d).2, rfl, fun h0 => ?_⟩
      rw [HM.out.2.1 h0, HPK.out]
      exact ⟨rfl, rfl⟩
    have HP1 := Lib.hid (pick_any' A3 c3 m.length m d _ rfl HC3.out (by omega) HM.out.1 hd _ hq)
    have HQR := Lib.hid hqr
    clear hq hqr HM
    go_wp2_with fail
    refine (HP1.out).mono ?_
    rintro e w3 ⟨rfl, hb3⟩
    have HB4 := Lib.hid (HB3.out.trans (hb3.mono HB3.out.size))
    clear hb3 HP1 HC3 HB3
    go_upto_region 10 with fail
    go_cut [70] (fun s70 wx => s70 = .bool false ∧ w3 = wx)
    case first =>
      by_cases h0 : 0 < l.length
      · obtain ⟨rfl, rfl⟩ := HQR.out h0
        go_wp2_with fail
        go_meet
        exact ⟨rfl, rfl⟩
      · go_wp2_with fail
        go_meet
        exact ⟨rfl, rfl⟩
    case rest =>
      obtain ⟨rfl, rfl⟩ := hcut
      clear HQR hlm hm70
      go_wp2_with fail
      have HEND := Lib.hid (fun t (h : TwiceRel l t l.length) => (twice_end hd h).trans HPK.out)
      go_loopw [13, 14] (fun v i wr => ∃ (k : Nat) (t : List Nat), k ≤ l.length ∧ i = .int .i64 k ∧ kF.R 28 wr w.heap.size (fun k => w.heap.size ≤ k) v t ∧ Below w.heap.size w wr ∧ Hid (TwiceRel l t k)) (fun _ i _ => l.length - (intOf i).toNat)
      case atStart => exact ⟨0, [], Nat.zero_le _, rfl, Kd.R_nil _ _ _ _ _, HB4.out, Lib.hid (twice_start l)⟩
      case round =>
        obtain ⟨k, t, hk, rfl, hr, hb, HT⟩ := hrel
        have HR5 := Lib.hid hr
        have HB5 := Lib.hid hb
        have htk := HT.out.1
        clear hr hb HB4
        by_cases hlt : k < l.length
        · obtain ⟨ad, rfl, hx⟩ := float_at HC.out k hlt
          have hcell := (HB5.out.cell (block_lt_of_cell hx)).trans hx
          have hmem := HW.out _ (getD_mem_ l k hlt)
          have HCn := Lib.hid (fun w => count_any (l.getD k 0) hmem w)
          have HST := Lib.hid (fun (y : Nat) h1 h2 h3 => twice_step (y := y) HT.out hlt h1 h2 h3)
          have HTW := Lib.hid (fun h w => run_two hmem h w)
          have HTK := Lib.hid htk
          clear hx hmem HT htk
          generalize l.getD k 0 = x at *
          have h00 : FloatKind.f64.format.order 0 0 = some .eq := by decide +kernel
          rcases twice_ask x with h0 | ⟨h0, h1, h2⟩ | ⟨h0, h1, h2⟩ | ⟨h0, h1, h2⟩
          · obtain ⟨y, w4, hmul, hy1, hy2, hb4⟩ := HTW.out (ask_zero h0) wr
            have HST2 := Lib.hid (HST.out y (ask_zero h0) hy1 hy2)
            have HR6 := Lib.hid (Kd.R_below HR5.out hb4)
            have HB6 := Lib.hid (HB5.out.trans (hb4.mono HB5.out.size))
            have htl : t.length ≤ 70 := by have := HTK.out; omega
            rw [h0] at HCn
            clear h0 hy1 hy2 hb4 HST HTW HTK
            go_wp2_with (first
              | (go_at_call 15; refine (HCn.out _).mono ?_; rintro e w' ⟨rfl, rfl⟩)
              | (at_builtin; refine Kd.R_append kF (w0 := w) w.heap.size rfl (.tmp 98) (.tmp 104) 22 28 (.float .f64 0) 8 rfl Try.underlying22 info28 rfl (by decide) (by omega) _ t y [.float .f64 y] (fun k => w.heap.size ≤ k) (fun _ => False) rfl rfl rfl (fun _ hk => hk.elim) (fun k hk => Nat.le_trans HB6.out.size hk) HR6.out HB6.out HB6.out.size (by omega) ?_; intro v1 w1 hr2 hb2 hg2 ho2; have HR4 := Lib.hid hr2; have HB4 := Lib.hid hb2; clear hr2 hb2 hg2 ho2))
            go_roundw
            case rel => exact ⟨k + 1, _, by omega, by go_num, HR4.out, HB4.out, HST2⟩
            case measure => simp [intOf]; omega
          · have ho := order_zero_pos (cnt_le x) h0
            have hg1 : FloatKind.f64.format.order x 8945421882333202015 = some .gt := by
              rw [ord_eq, show (8945421882333202015 : Nat) = hi from rfl, order_nn h2 hi_inf, compare_nat, if_neg (by omega), if_neg (by omega)]
            clear h0 h1 h2 HST HTW HTK
            go_wp2_with (first
              | (go_at_call 15; refine (HCn.out _).mono ?_; rintro e w' ⟨rfl, rfl⟩)
              | (go_at_call 11; refine (awake_any _).mono ?_; rintro e w' ⟨rfl, hb⟩))
            go_ret
            exact ⟨rfl, HB5.out.trans (hb.mono HB5.out.size)⟩
          · have ho := order_zero_pos (cnt_le x) h0
            obtain ⟨o1, ho1, hne1⟩ : ∃ o1, FloatKind.f64.format.order x 8945421882333202015 = o1 ∧ (o1 == some Ordering.gt) = false := by
              rw [ord_eq, show (8945421882333202015 : Nat) = hi from rfl, order_nn (Nat.le_trans h1 hi_inf) hi_inf, compare_nat]
              refine ⟨_, rfl, ?_⟩
              split
              · rfl
              · rw [if_pos (by omega)]; rfl
            have hl1 : FloatKind.f64.format.order x 268231017195544690 = some .lt := by
              rw [ord_eq, show (268231017195544690 : Nat) = lo from rfl, order_nn (Nat.le_trans h1 hi_inf) lo_inf, compare_nat, if_pos h2]
            clear h0 h1 h2 HST HTW HTK
            go_wp2_with (first
              | (go_at_call 15; refine (HCn.out _).mono ?_; rintro e w' ⟨rfl, rfl⟩)
              | (go_at_call 11; refine (awake_any _).mono ?_; rintro e w' ⟨rfl, hb⟩))
            go_ret
            exact ⟨rfl, HB5.out.trans (hb.mono HB5.out.size)⟩
          · have ho := order_zero_pos (cnt_le x) h0
            obtain ⟨o1, ho1, hne1⟩ : ∃ o1, FloatKind.f64.format.order x 8945421882333202015 = o1 ∧ (o1 == some Ordering.gt) = false := by
              rw [ord_eq, show (8945421882333202015 : Nat) = hi from rfl, order_nn (Nat.le_trans h1 hi_inf) hi_inf, compare_nat]
              refine ⟨_, rfl, ?_⟩
              split
              · rfl
              · rw [if_pos (by omega)]; rfl
            obtain ⟨o2, ho2, hne2⟩ : ∃ o2, FloatKind.f64.format.order x 268231017195544690 = o2 ∧ (o2 == some Ordering.lt) = false := by
              rw [ord_eq, show (268231017195544690 : Nat) = lo from rfl, order_nn (Nat.le_trans h1 hi_inf) lo_inf, compare_nat]
              refine ⟨_, rfl, ?_⟩
              rw [if_neg (by omega)]
              split <;> rfl
            obtain ⟨y, w4, hmul, hy1, hy2, hb4⟩ := HTW.out (ask_mid h1 h2) wr
            have HST2 := Lib.hid (HST.out y (ask_mid h1 h2) hy1 hy2)
            have HR6 := Lib.hid (Kd.R_below HR5.out hb4)
            have HB6 := Lib.hid (HB5.out.trans (hb4.mono HB5.out.size))
            have htl : t.length ≤ 70 := by have := HTK.out; omega
            clear h0 h1 h2 hy1 hy2 hb4 HST HTW HTK
            go_wp2_with (first
              | (go_at_call 15; refine (HCn.out _).mono ?_; rintro e w' ⟨rfl, rfl⟩)
              | (at_builtin; refine Kd.R_append kF (w0 := w) w.heap.size rfl (.tmp 98) (.tmp 104) 22 28 (.float .f64 0) 8 rfl Try.underlying22 info28 rfl (by decide) (by omega) _ t y [.float .f64 y] (fun k => w.heap.size ≤ k) (fun _ => False) rfl rfl rfl (fun _ hk => hk.elim) (fun k hk => Nat.le_trans HB6.out.size hk) HR6.out HB6.out HB6.out.size (by omega) ?_; intro v1 w1 hr2 hb2 hg2 ho2; have HR4 := Lib.hid hr2; have HB4 := Lib.hid hb2; clear hr2 hb2 hg2 ho2))
            go_roundw
            case rel => exact ⟨k + 1, _, by omega, by go_num, HR4.out, HB4.out, HST2⟩
            case measure => simp [intOf]; omega
        · obtain rfl : k = l.length := by omega
          obtain ⟨A5, c5, rfl, _, hC5⟩ := Kd.R_reads HR5.out
          have HC5 := Lib.hid hC5
          have htl : t.length ≤ 70 := by omega
          have HP5 := Lib.hid (pick_any' A5 c5 t.length t d _ rfl HC5.out (by omega) HT.out.2.2.1 hd _ (HEND.out t HT.out))
          clear hC5 HR5 HT htk HEND HPK
          go_wp2_with fail
          refine (HP5.out).mono ?_
          rintro e w4 ⟨rfl, hb4⟩
          have HB6 := Lib.hid (HB5.out.trans (hb4.mono HB5.out.size))
          clear hb4 HP5 HC5
          go_wp2_with (go_at_call 11; refine (awake_any _).mono ?_; rintro e w' ⟨rfl, hb⟩)
          go_ret
          exact ⟨rfl, HB6.out.trans (hb.mono HB6.out.size)⟩
end Go.Proofs.Ytakfkkpcdnphlaa
