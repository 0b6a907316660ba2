/- The contract of Lay. -/
import Derived.Test.YtakfkkpcdnphlaaF12
import Derived.Test.YtakfkkpcdnphlaaWI
namespace Go.Proofs.Ytakfkkpcdnphlaa
open Go.RowKit Go.Proofs.YtakfkkpcdnphlaaW.PrintWords
attribute [local go_sem] run_store_float

theorem order_nanq (x : Nat) (hx : x < 2 * sgn) : (Ieee.double.order x x != some .eq) = nanq x := by
  have hlt : inf < sgn := by decide +kernel
  unfold nanq
  by_cases h1 : x ≤ inf
  · rw [order_nn h1 h1, compare_nat, if_neg (by omega), if_pos rfl, decide_eq_false (by omega)]
    rfl
  · by_cases h2 : x < sgn
    · rw [decide_eq_true (.inl ⟨by omega, h2⟩)]
      unfold Ieee.Format.order
      rw [read_nan x (by omega) h2]
      rfl
    · obtain ⟨y, hy, a, b, c⟩ := read_neg x (by omega) hx
      by_cases hy1 : y < inf
      · rcases order_self x hx with h | ⟨h, _⟩
        · rw [h, decide_eq_false (by omega)]
          rfl
        · exfalso
          unfold Ieee.Format.order at h
          rw [a hy1] at h
          cases h
      · by_cases hy2 : y = inf
        · rw [decide_eq_false (by omega)]
          unfold Ieee.Format.order
          rw [b hy2]
          rfl
        · obtain ⟨f, hf⟩ := c (by omega)
          rw [decide_eq_true (.inr (by omega))]
          unfold Ieee.Format.order
          rw [hf]
          rfl
theorem isnan_is (x : Nat) (hx : x < 2 * sgn) (w : World) : Calls Try.prog 17 #[.float .f64 x] w fun e w' => e = .returned (.bool (nanq x)) ∧ w = w' := by
  have := isnan_any x w
  rw [ord_eq, order_nanq x hx] at this
  exact this

theorem info5 : (Try.prog.info? 5).map (fun i => (i.zero, i.size, i.bytes)) = some (some (.int .u8 0), 1, 1) := by kernel_rfl
def LayP (w : World) (bs : List Int) (e : Ending) (w' : World) : Prop := ∃ A c, e = .returned (.slice A bs.length c) ∧ bs.length ≤ c ∧ (Kd.int .u8).C w' A bs.length bs ∧ Below w.heap.size w w'

set_option maxHeartbeats 4000000 in
set_option maxRecDepth 100000 in
theorem lay_any (A : Option Addr) (cap : Nat) (l : List Nat) (w : World) (hC : kF.C w A l.length l) (hl : l.length ≤ 100) (hw : ∀ x ∈ l, x < 2 * sgn) : Calls Try.prog 26 #[.slice A l.length cap] w (LayP w (layF l l.length)) := by
  have HC := Lib.hid hC
  have HW := Lib.hid hw
  clear hC hw
  go_enter Try.func26, Try.ntmps26
  go_wp2_with fail
  go_loopw [3, 10] (fun v i wr => ∃ k : Nat, k ≤ l.length ∧ i = .int .i64 k ∧ (Kd.int .u8).R 5 wr w.heap.size (fun k => w.heap.size ≤ k) v (layF l k) ∧ Below w.heap.size w wr) (fun _ i _ => l.length - (intOf i).toNat)
  case atStart => exact ⟨0, Nat.zero_le _, rfl, Kd.R_nil _ _ _ _ _, Below.refl _ _⟩
  case round =>
    obtain ⟨k, hk, rfl, hr, hb⟩ := hrel
    have HR := Lib.hid hr
    have HB := Lib.hid hb
    have hlf := layF_len l k
    clear hr hb
    by_cases hlt : k < l.length
    · obtain ⟨ad, rfl, hx⟩ := float_at HC.out k hlt
      have hcell := (HB.out.cell (block_lt_of_cell hx)).trans hx
      have hx2 : l.getD k 0 < 2 * sgn := HW.out _ (getD_mem_ l k hlt)
      have HE := Lib.hid (show layF l (k + 1) = layF l k ++ oc (lay1 (l.getD k 0)) 8 from rfl)
      have HNAN := Lib.hid (fun w => isnan_is (l.getD k 0) hx2 w)
      have HEX := ext19 (l.getD k 0)
      have HLF := Lib.hid hlf
      have HLT := Lib.hid (lay1_lt hx2)
      obtain ⟨bn, hbn⟩ : ∃ bn, bn = nanq (l.getD k 0) := ⟨_, rfl⟩
      have HL1 := Lib.hid (show lay1 (l.getD k 0) = if bn = true then 9221120237041090561 else l.getD k 0 by rw [hbn]; rfl)
      rw [← hbn] at HNAN
      clear hx hx2 hlf hbn
      generalize layF l k = bs at *
      generalize lay1 (l.getD k 0) = y at *
      generalize l.getD k 0 = x at *
      go_upto_if 17 with (go_at_call 17; refine (HNAN.out _).mono ?_; rintro e w' ⟨rfl, rfl⟩)
      go_cut [6] (fun s6 wx => s6 = .int .u64 (y : Int) ∧ wr = wx)
      case first =>
        cases bn
        · have hxy : y = x := by rw [HL1.out]; rfl
          subst hxy
          go_wp2_with fail
          go_meet
          exact ⟨rfl, rfl⟩
        · have hxy : y = 9221120237041090561 := by rw [HL1.out]; rfl
          subst hxy
          go_wp2_with fail
          go_meet
          exact ⟨rfl, rfl⟩
      case rest =>
        obtain ⟨rfl, rfl⟩ := hcut
        clear HNAN HEX HL1
        have hylt : (y : Int) ≤ 18446744073709551615 := by have := HLT.out; omega
        go_wp2_with fail
        go_loopw [3, 18] (fun v i wr => ∃ j : Nat, j ≤ 8 ∧ i = .int .i64 j ∧ (Kd.int .u8).R 5 wr w.heap.size (fun k => w.heap.size ≤ k) v (bs ++ oc y j) ∧ Below w.heap.size w wr) (fun _ i _ => 8 - (intOf i).toNat)
        case atStart => exact ⟨0, Nat.zero_le _, rfl, by show (Kd.int .u8).R _ _ _ _ _ (bs ++ []); rw [List.append_nil]; exact HR.out, HB.out⟩
        case round =>
          obtain ⟨j, hj, rfl, hr, hb⟩ := hrel
          have HR2 := Lib.hid hr
          have HB2 := Lib.hid hb
          clear hr hb HR HB
          by_cases hjlt : j < 8
          · have HO := Lib.hid (show (bs ++ oc y j) ++ [(y : Int) / 2 ^ (8 * j) % 256] = bs ++ oc y (j + 1) by
              have e : oc y (j + 1) = oc y j ++ [((y / 2 ^ (8 * j) % 256 : Nat) : Int)] := rfl
              rw [e, List.append_assoc]
              simp)
            have HOL := Lib.hid (show (bs ++ oc y j).length ≤ 1000 by have := HLF.out; rw [List.length_append, oc_len]; omega)
            go_wp2_with (at_builtin; refine Kd.R_append (Kd.int .u8) (w0 := w) w.heap.size rfl (.tmp 21) (.tmp 27) 41 5 (.int .u8 0) 1 rfl Try.underlying41 info5 rfl (by decide) (by omega) _ (bs ++ oc y j) ((y : Int) / 2 ^ (8 * j) % 256) [.int .u8 ((y : Int) / 2 ^ (8 * j) % 256)] (fun k => w.heap.size ≤ k) (fun _ => False) rfl rfl rfl (fun _ hk => hk.elim) (fun k hk => Nat.le_trans HB2.out.size hk) HR2.out HB2.out HB2.out.size (by have := HOL.out; omega) ?_; intro v1 w1 hr2 hb2 hg2 ho2; have HR4 := Lib.hid hr2; have HB4 := Lib.hid hb2; clear hr2 hb2 hg2 ho2)
            go_roundw
            case rel => exact ⟨j + 1, by omega, by go_num, by rw [← HO.out]; exact HR4.out, HB4.out⟩
            case measure => simp [intOf]; omega
          · obtain rfl : j = 8 := by omega
            go_wp2_with fail
            go_roundw
            case rel => exact ⟨k + 1, by omega, by go_num, by rw [HE.out]; exact HR2.out, HB2.out⟩
            case measure => simp [intOf]; omega
    · obtain rfl : k = l.length := by omega
      obtain ⟨A1, c1, rfl, hc1, hC1⟩ := Kd.R_reads HR.out
      have HC1 := Lib.hid hC1
      clear hC1 HR
      go_wp2_with fail
      go_ret
      exact ⟨A1, c1, rfl, hc1, HC1.out, HB.out⟩
end Go.Proofs.Ytakfkkpcdnphlaa
