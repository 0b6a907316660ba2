/- The law WeighTells. -/
import Derived.Test.YtakfkkpcdnphlaaVC
import Derived.Test.YtakfkkpcdnphlaaWM
namespace Go.Proofs.Ytakfkkpcdnphlaa
open Go.RowKit Go.Proofs.YtakfkkpcdnphlaaW.PrintWords
attribute [local go_sem] run_store_float

set_option maxHeartbeats 8000000 in
set_option maxRecDepth 100000 in
theorem tells_law (A Bo : Option Addr) (cap capb : Nat) (l0 : List Nat) (d : Nat) (b0 : List Int) (w : World) (hC0 : kF.C w A l0.length l0) (hcap : l0.length ≤ cap) (hl : l0.length ≤ 9223372036854775807) (hw0 : ∀ x ∈ l0, x < 2 * sgn) (hd : d < 2 ^ 64)
    (hCb : (Kd.int .u8).C w Bo b0.length b0) (hcb : b0.length ≤ capb) (hlb : b0.length ≤ 9223372036854775807) (hob : Oct b0) :
    Calls Try.prog 8 #[.slice A l0.length cap, .int .u64 d, .slice Bo b0.length capb] w (AwakeP w) := by
  have HC := Lib.hid (take_C hC0 70)
  have HW := Lib.hid (take_lt hw0 70)
  have HN := Lib.hid (show (l0.take 70).length ≤ 70 by simp; omega)
  have HF := Lib.hid (few_any A cap l0 w hcap hl)
  have HCB := Lib.hid (take_Cb hCb 100)
  have HOB := Lib.hid (take_oct hob 100)
  have HNB := Lib.hid (show (b0.take 100).length = min 100 b0.length from List.length_take ..)
  clear hC0 hw0 hcap hl hCb hob
  generalize l0.length = n0 at *
  generalize l0.take 70 = l at *
  generalize hb : b0.take 100 = b at *
  generalize b0.length = nb at *
  clear hb
  go_enter Try.func8, Try.ntmps8
  go_wp2_with fail
  (with_reducible refine (HF.out).mono ?_)
  rintro e w1 ⟨rfl, rfl⟩
  clear HF
  have hn := HN.out
  obtain ⟨i0, hi, _⟩ := info_parts info5
  have hcut8 := cut_to (P := Try.prog) 41 5 .i64 Try.underlying41 hi Bo nb capb 100
  clear hi
  go_upto_if 20 with fail
  go_cut [2] (fun s1 wx => s1 = .slice Bo b.length capb ∧ w = wx)
  case first =>
    by_cases h100 : 100 < nb
    · have hc100 := hcut8 (by omega) (by omega) hcb
      have E := Lib.hid (show b.length = 100 by have := HNB.out; omega)
      go_wp2_with fail
      go_meet
      exact ⟨by rw [E.out], rfl⟩
    · have E := Lib.hid (show b.length = nb by have := HNB.out; omega)
      go_wp2_with fail
      go_meet
      exact ⟨by rw [E.out], rfl⟩
  case rest =>
    obtain ⟨rfl, rfl⟩ := hcut
    have hnb : b.length ≤ 100 := by have := HNB.out; omega
    have hbc : b.length ≤ capb := by have := HNB.out; omega
    clear hcb hlb HNB hcut8
    go_wp2_with fail
    go_loopw [7] (fun i wr => ∃ k : Nat, k ≤ l.length ∧ i = .int .i64 k ∧ Below w.heap.size w wr) (fun i _ => l.length - (intOf i).toNat)
    case atStart => exact ⟨0, Nat.zero_le _, rfl, Below.refl _ _⟩
    case round =>
      obtain ⟨k, hk, rfl, hb⟩ := hrel
      have HB := Lib.hid hb
      clear hb
      by_cases hlt : k < l.length
      · obtain ⟨ad, rfl, hx⟩ := float_at HC.out k hlt
        have hcx := (HB.out.cell (block_lt_of_cell hx)).trans hx
        have HNX := Lib.hid (fun w => count_any (l.getD k 0) (HW.out _ (getD_mem_ l k hlt)) w)
        have HNY := Lib.hid (fun w => rcount_any (l.getD k 0) (HW.out _ (getD_mem_ l k hlt)) w)
        have h19 := ext19 (cnt (l.getD k 0))
        clear hx
        generalize cnt (l.getD k 0) = y at *
        generalize l.getD k 0 = x at *
        have hki : (k : Int) < (l.length : Int) := by omega
        have hkz : (0 : Int) ≤ (k : Int) := by omega
        go_wp2_with fail
        go_quiet ((first | (go_at_call 15; with_reducible exact quiet_left (HNX.out _)) | (go_at_call 20; with_reducible exact quiet_left (HNY.out _))))
        go_wp2_with fail
        go_roundw
        case rel => exact ⟨k + 1, by omega, by go_num, pw_below_drewN HB.out _⟩
        case measure => simp [intOf]; omega
      · obtain rfl : k = l.length := by omega
        obtain ⟨r, hr⟩ : ∃ r, pickF l d = r := ⟨_, rfl⟩
        obtain ⟨ri, re⟩ := r
        have HCW := Lib.hid (Kd.C_below HC.out HB.out)
        have HP := Lib.hid (pick_any' A cap l.length l d wr rfl HCW.out (by omega) HW.out hd _ hr)
        have HR := Lib.hid hr
        clear hr
        go_wp2_with fail
        (with_reducible refine (HP.out).mono ?_)
        rintro e w2 ⟨rfl, hb2⟩
        have HC2 := Lib.hid (Kd.C_below HCW.out hb2)
        have HB2 := Lib.hid (HB.out.trans (hb2.mono HB.out.size))
        clear HP HCW HB hb2
        have HRP := Lib.hid (rpick_any A cap l d w2 HC2.out (by omega) HW.out hd _ HR.out)
        clear HR
        go_wp2_with fail
        (with_reducible refine (HRP.out).mono ?_)
        rintro e w3 ⟨rfl, hb3⟩
        have HC3 := Lib.hid (Kd.C_below HC2.out hb3)
        have HB3 := Lib.hid (HB2.out.trans (hb3.mono HB2.out.size))
        clear HRP HC2 HB2 hb3
        have HCB3 := Lib.hid (Kd.C_below HCB.out HB3.out)
        obtain ⟨rl, er, ok, hre, hrd, hok⟩ : ∃ rl er ok, readE b = (rl, er) ∧ ((b.length % 8 = 0 ∧ rl = readF b ∧ ok = true) ∨ (b.length % 8 ≠ 0 ∧ rl = [] ∧ ok = false)) ∧ ((ok = true ∧ er = 0) ∨ (ok = false ∧ er = 2)) := by
          unfold readE
          by_cases h8 : b.length % 8 = 0
          · rw [if_pos h8]; exact ⟨_, _, true, rfl, .inl ⟨h8, rfl, rfl⟩, .inl ⟨rfl, rfl⟩⟩
          · rw [if_neg h8]; exact ⟨_, _, false, rfl, .inr ⟨h8, rfl, rfl⟩, .inr ⟨rfl, rfl⟩⟩
        have HLT : Hid (∀ x ∈ rl, x < 2 * sgn) := Lib.hid (by
          rcases hrd with ⟨_, rfl, _⟩ | ⟨_, rfl, _⟩
          · exact readF_lt HOB.out
          · simp)
        have hrl : rl.length ≤ 100 := by
          rcases hrd with ⟨_, rfl, _⟩ | ⟨_, rfl, _⟩
          · rw [readF_len]; omega
          · simp
        have HRA := Lib.hid (read_any Bo capb b w3 HCB3.out hbc (by omega) HOB.out _ hre)
        have HRD := Lib.hid hrd
        have HOK := Lib.hid hok
        clear hre hrd hok
        go_wp2_with fail
        (with_reducible refine (HRA.out).mono ?_)
        rintro e w4 ⟨A4, c4, rfl, hc4, hC4, hb4⟩
        have HG4 := Lib.hid hC4
        have HC4 := Lib.hid (Kd.C_below HC3.out hb4)
        have HCB4 := Lib.hid (Kd.C_below HCB3.out hb4)
        have HB4 := Lib.hid (HB3.out.trans (hb4.mono HB3.out.size))
        clear HRA HC3 HCB3 HB3 hC4 hb4
        have HRR := Lib.hid (rread_any Bo capb b w4 HCB4.out (by omega) HOB.out rl ok HRD.out)
        clear HRD
        go_wp2_with fail
        (with_reducible refine (HRR.out).mono ?_)
        rintro e w5 ⟨A5, c5, rfl, hc5, hC5, hb5⟩
        have HW5 := Lib.hid hC5
        have HG5 := Lib.hid (Kd.C_below HG4.out hb5)
        have HC5 := Lib.hid (Kd.C_below HC4.out hb5)
        have HB5 := Lib.hid (HB4.out.trans (hb5.mono HB4.out.size))
        clear HRR HG4 HC4 HCB4 HB4 HCB hC5 hb5
        have h19 := ext19 (sumC (l.map cnt))
        have HS1 := Lib.hid (sum_any A cap l w5 HC5.out (by omega) HW.out)
        generalize hsm : sumC (l.map cnt) = sm at *
        have HSM := Lib.hid hsm
        clear hsm
        rcases HOK.out with ⟨rfl, rfl⟩ | ⟨rfl, rfl⟩
        all_goals
          go_wp2_with fail
          (with_reducible refine (HS1.out).mono ?_)
          rintro e w6 ⟨rfl, hb6⟩
          have HW6 := Lib.hid (Kd.C_below HW5.out hb6)
          have HG6 := Lib.hid (Kd.C_below HG5.out hb6)
          have HC6 := Lib.hid (Kd.C_below HC5.out hb6)
          have HB6 := Lib.hid (HB5.out.trans (hb6.mono HB5.out.size))
          have HS2 := Lib.hid (rsum_any A cap l.length l w6 rfl HC6.out (by omega) HW.out)
          rw [HSM.out] at HS2
          clear HS1 HW5 HG5 HC5 HB5 hb6
          go_wp2_with fail
          (with_reducible refine (HS2.out).mono ?_)
          rintro e w7 ⟨rfl, rfl⟩
          clear HS2
          have HY1 := Lib.hid (lay_any A cap l w6 HC6.out (by omega) HW.out)
          go_wp2_with fail
          (with_reducible refine (HY1.out).mono ?_)
          rintro e w7 ⟨A7, c7, rfl, hc7, hC7, hb7⟩
          have HL7 := Lib.hid hC7
          have HW7 := Lib.hid (Kd.C_below HW6.out hb7)
          have HG7 := Lib.hid (Kd.C_below HG6.out hb7)
          have HC7 := Lib.hid (Kd.C_below HC6.out hb7)
          have HB7 := Lib.hid (HB6.out.trans (hb7.mono HB6.out.size))
          clear HY1 HW6 HG6 HC6 HB6 hb7 hC7
          have HY2 := Lib.hid (rlay_any A cap l w7 HC7.out (by omega) HW.out)
          go_wp2_with fail
          (with_reducible refine (HY2.out).mono ?_)
          rintro e w8 ⟨A8, c8, rfl, hc8, hC8, hb8⟩
          have HL8 := Lib.hid hC8
          have HM8 := Lib.hid (Kd.C_below HL7.out hb8)
          have HW8 := Lib.hid (Kd.C_below HW7.out hb8)
          have HG8 := Lib.hid (Kd.C_below HG7.out hb8)
          have HB8 := Lib.hid (HB7.out.trans (hb8.mono HB7.out.size))
          clear HY2 HL7 HW7 HG7 HC7 HB7 hb8 hC8
          go_wp2_with fail
          (with_reducible refine (octets_same A7 A8 c7 c8 _ _ _ HM8.out HL8.out).mono ?_)
          rintro e w' ⟨rfl, rfl⟩
          clear HM8 HL8
          have HY3 := Lib.hid (lay_any A4 c4 rl w8 HG8.out hrl HLT.out)
          go_wp2_with fail
          (with_reducible refine (HY3.out).mono ?_)
          rintro e w9 ⟨A9, c9, rfl, hc9, hC9, hb9⟩
          have HL9 := Lib.hid hC9
          have HW9 := Lib.hid (Kd.C_below HW8.out hb9)
          have HB9 := Lib.hid (HB8.out.trans (hb9.mono HB8.out.size))
          clear HY3 HW8 HG8 HB8 hb9 hC9
          have HY4 := Lib.hid (rlay_any A5 c5 rl w9 HW9.out hrl HLT.out)
          go_wp2_with fail
          (with_reducible refine (HY4.out).mono ?_)
          rintro e w10 ⟨A10, c10, rfl, hc10, hC10, hb10⟩
          have HL10 := Lib.hid hC10
          have HM10 := Lib.hid (Kd.C_below HL9.out hb10)
          have HB10 := Lib.hid (HB9.out.trans (hb10.mono HB9.out.size))
          clear HY4 HL9 HW9 HB9 hb10 hC10
          go_wp2_with fail
          (with_reducible refine (octets_same A9 A10 c9 c10 _ _ _ HM10.out HL10.out).mono ?_)
          rintro e w' ⟨rfl, rfl⟩
          clear HM10 HL10
          go_wp2_with (go_at_call 11; refine (awake_any _).mono ?_; rintro e w' ⟨rfl, hb⟩)
          go_ret
          exact ⟨rfl, HB10.out.trans (hb.mono HB10.out.size)⟩
end Go.Proofs.Ytakfkkpcdnphlaa
