/- The law WeighBack. -/
import Derived.Test.YtakfkkpcdnphlaaF13
import Derived.Test.YtakfkkpcdnphlaaWK
import Derived.Deep.QuietTactic
import Derived.BigQuiet
namespace Go.Proofs.Ytakfkkpcdnphlaa
open Go.RowKit Go.Proofs.YtakfkkpcdnphlaaW.PrintWords
attribute [local go_sem] run_store_float

theorem take_Cb {w : World} {A : Option Addr} {l : List Int} (hC : (Kd.int .u8).C w A l.length l) (n : Nat) : (Kd.int .u8).C w A (l.take n).length (l.take n) := by
  by_cases h : n ≤ l.length
  · exact Kd.C_take hC h
  · rw [List.take_of_length_le (by omega)]; exact hC
theorem take_oct {l : List Int} (h : Oct l) (n : Nat) : Oct (l.take n) := fun x hx => h x (List.mem_of_mem_take hx)

theorem quiet_left {P : Program} {f : FuncId} {args : Array Value} {w : World} {n : Nat} {v : Value}
    (h : Calls P f args (w.drewN n) fun e w' => e = .returned v ∧ w.drewN n = w') : Calls P f args (w.drewN n) fun e w'' => e = .returned v ∧ ∃ m, w'' = w.drewN m :=
  h.mono fun _ _ ⟨he, hm⟩ => ⟨he, n, hm.symm⟩

/-- Read, of whatever. -/
def readE (bs : List Int) : List Nat × Int := if bs.length % 8 = 0 then (readF bs, 0) else ([], 2)
theorem read_any (A : Option Addr) (cap : Nat) (bs : List Int) (w : World) (hC : (Kd.int .u8).C w A bs.length bs) (hcap : bs.length ≤ cap) (hl : bs.length ≤ 1000) (ho : Oct bs) (r : List Nat × Int) (hr : readE bs = r) : Calls Try.prog 22 #[.slice A bs.length cap] w (ReadP w r.1 r.2) := by
  subst hr
  unfold readE
  by_cases h : bs.length % 8 = 0
  · rw [if_pos h]; exact read_even A cap (bs.length / 8) bs w (by omega) hC hcap hl ho
  · rw [if_neg h]; exact read_odd A cap bs.length w hl h

set_option maxHeartbeats 8000000 in
set_option maxRecDepth 100000 in
theorem back_law (A Bo : Option Addr) (cap capb : Nat) (l0 : List Nat) (b0 : List Int) (w : World) (hC0 : kF.C w A l0.length l0) (hcap : l0.length ≤ cap) (hl : l0.length ≤ 9223372036854775807) (hw0 : ∀ x ∈ l0, x < 2 * sgn)
    (hCb : (Kd.int .u8).C w Bo b0.length b0) (hcb : b0.length ≤ capb) (hlb : b0.length ≤ 9223372036854775807) (hob : Oct b0) :
    Calls Try.prog 9 #[.slice A l0.length cap, .slice Bo b0.length capb] w (AwakeP w) := by
  have HC := Lib.hid (take_C hC0 70)
  have HW := Lib.hid (take_lt hw0 70)
  have HN := Lib.hid (show (l0.take 70).length ≤ 70 by simp; omega)
  have HF := Lib.hid (few_any A cap l0 w hcap hl)
  have HCB := Lib.hid (take_Cb hCb 100)
  have HOB := Lib.hid (take_oct hob 100)
  have HNB := Lib.hid (show (b0.take 100).length = min 100 b0.length from List.length_take ..)
  clear hC0 hw0 hcap hl hCb hob
  generalize l0.length = n0 at *
  generalize l0.take 70 = l at *
  generalize hb : b0.take 100 = b at *
  generalize b0.length = nb at *
  clear hb
  go_enter Try.func9, Try.ntmps9
  go_wp2_with fail
  (with_reducible refine (HF.out).mono ?_)
  rintro e w1 ⟨rfl, rfl⟩
  clear HF
  have hn := HN.out
  obtain ⟨i0, hi, _⟩ := info_parts info5
  have hcut8 := cut_to (P := Try.prog) 41 5 .i64 Try.underlying41 hi Bo nb capb 100
  clear hi
  go_upto_if 17 with fail
  go_cut [1] (fun s1 wx => s1 = .slice Bo b.length capb ∧ w = wx)
  case first =>
    by_cases h100 : 100 < nb
    · have hc100 := hcut8 (by omega) (by omega) hcb
      have E := Lib.hid (show b.length = 100 by have := HNB.out; omega)
      go_wp2_with fail
      go_meet
      exact ⟨by rw [E.out], rfl⟩
    · have E := Lib.hid (show b.length = nb by have := HNB.out; omega)
      go_wp2_with fail
      go_meet
      exact ⟨by rw [E.out], rfl⟩
  case rest =>
    obtain ⟨rfl, rfl⟩ := hcut
    have hnb : b.length ≤ 100 := by have := HNB.out; omega
    have hbc : b.length ≤ capb := by have := HNB.out; omega
    clear hcb hlb HNB hcut8
    have HLAY := Lib.hid (lay_any A cap l w HC.out (by omega) HW.out)
    have HLO := Lib.hid (layF_oct l l.length)
    have HLL := Lib.hid (layF_len l l.length)
    have HRE := Lib.hid (show readE (layF l l.length) = (l.map lay1, 0) by
      unfold readE
      rw [if_pos (by rw [layF_len]; omega), read_lay HW.out])
    generalize layF l l.length = bs at *
    have hbl : bs.length ≤ 1000 := by have := HLL.out; omega
    go_wp2_with fail
    (with_reducible refine (HLAY.out).mono ?_)
    rintro e w1 ⟨A1, c1, rfl, hc1, hC1, hb1⟩
    have HC1 := Lib.hid hC1
    have HB1 := Lib.hid hb1
    clear hC1 hb1 HLAY
    go_wp2_with fail
    with_reducible refine (read_any A1 c1 bs _ HC1.out hc1 (by omega) HLO.out _ HRE.out).mono ?_
    rintro e w2 ⟨A2, c2, rfl, hc2, hC2, hb2⟩
    have HC2 := Lib.hid hC2
    have HB2 := Lib.hid (HB1.out.trans (hb2.mono HB1.out.size))
    have hml : (l.map lay1).length = l.length := List.length_map ..
    have hml' : (l.map lay1).length = l.length := List.length_map ..
    clear hC2 hb2 HC1 HB1 HRE HLO hml
    have e8 : ((bs.length : Int) == 8 * (l.length : Int)) = true := by simp only [beq_iff_eq]; have := HLL.out; omega
    have e8n : ((bs.length : Int) != 8 * (l.length : Int)) = false := by simp; have := HLL.out; omega
    have e9 : (((l.map lay1).length : Int) != (l.length : Int)) = false := by simp
    have HC3 := Lib.hid (show kF.C w2 A2 l.length (l.map lay1) by have h := HC2.out; rwa [hml'] at h)
    clear HC2 hml' HLL
    go_wp2_with fail
    go_loopw [8] (fun i wr => ∃ k : Nat, k ≤ l.length ∧ i = .int .i64 k ∧ Below w.heap.size w wr ∧ kF.C wr A2 l.length (l.map lay1)) (fun i _ => l.length - (intOf i).toNat)
    case atStart => exact ⟨0, Nat.zero_le _, rfl, HB2.out, HC3.out⟩
    case round =>
      obtain ⟨k, hk, rfl, hb, hC⟩ := hrel
      have HB4 := Lib.hid hb
      have HC4 := Lib.hid hC
      clear hb hC HC3 HB2
      by_cases hlt : k < l.length
      · obtain ⟨ad, rfl, hx⟩ := float_at HC.out k hlt
        have hcx := (HB4.out.cell (block_lt_of_cell hx)).trans hx
        obtain ⟨ad2, rfl, hcy⟩ := float_at HC4.out k hlt
        rw [getD_map lay1 rfl] at hcy
        have hmem := HW.out _ (getD_mem_ l k hlt)
        have hmy : lay1 (l.getD k 0) < 2 * sgn := lay1_lt hmem
        have HNX := Lib.hid (fun w => isnan_is (l.getD k 0) hmem w)
        have HNY := Lib.hid (fun w => isnan_is (lay1 (l.getD k 0)) hmy w)
        rw [nanq_lay1] at HNY
        have HEQ := Lib.hid (fun h => lay1_of (x := l.getD k 0) h)
        clear hx hmem hmy
        generalize lay1 (l.getD k 0) = y at *
        generalize l.getD k 0 = x at *
        generalize nanq x = bq at *
        cases bq
        · obtain rfl : y = x := HEQ.out rfl
          have h19 := ext19 y
          clear HEQ HNY
          have hki : (k : Int) < (l.length : Int) := by omega
          have hkz : (0 : Int) ≤ (k : Int) := by omega
          go_wp2_with fail
          go_quiet ((go_at_call 17; exact quiet_left (HNX.out _)))
          go_wp2_with fail
          go_roundw
          case rel => exact ⟨k + 1, by omega, by go_num, pw_below_drewN HB4.out _, Kd.C_below HC4.out (pw_below_drewN (Below.refl _ _) _)⟩
          case measure => simp [intOf]; omega
        · clear HEQ
          have hki : (k : Int) < (l.length : Int) := by omega
          have hkz : (0 : Int) ≤ (k : Int) := by omega
          go_wp2_with fail
          go_quiet ((first | (go_at_call 17; with_reducible exact quiet_left (HNX.out _)) | (go_at_call 17; with_reducible exact quiet_left (HNY.out _))))
          go_wp2_with fail
          go_roundw
          case rel => exact ⟨k + 1, by omega, by go_num, pw_below_drewN HB4.out _, Kd.C_below HC4.out (pw_below_drewN (Below.refl _ _) _)⟩
          case measure => simp [intOf]; omega
      · obtain rfl : k = l.length := by omega
        have HCB2 := Lib.hid (Kd.C_below HCB.out HB4.out)
        clear HC4
        obtain ⟨r, hr⟩ : ∃ r, readE b = r := ⟨_, rfl⟩
        have HR := Lib.hid hr
        have HRD := Lib.hid (read_any Bo capb b wr HCB2.out hbc (by omega) HOB.out r hr)
        clear hr
        obtain ⟨rl, re⟩ := r
        go_wp2_with fail
        (with_reducible refine (HRD.out).mono ?_)
        rintro e w3 ⟨A3, c3, rfl, hc3, hC3, hb3⟩
        have HC3 := Lib.hid hC3
        have HCB3 := Lib.hid (Kd.C_below HCB2.out hb3)
        have HB5 := Lib.hid (HB4.out.trans (hb3.mono HB4.out.size))
        clear hC3 hb3 HRD HCB2 HB4
        by_cases h8 : b.length % 8 = 0
        · have hre : re = 0 := by have := HR.out; unfold readE at this; rw [if_pos h8] at this; exact (congrArg Prod.snd this).symm
          have HRL : Hid (rl = readF b) := Lib.hid (by have := HR.out; unfold readE at this; rw [if_pos h8] at this; exact (congrArg Prod.fst this).symm)
          subst hre
          clear HR
          have HLEN : Hid (rl.length = b.length / 8) := Lib.hid (by rw [HRL.out, readF_len])
          have HLT : Hid (∀ x ∈ rl, x < 2 * sgn) := Lib.hid (by rw [HRL.out]; exact readF_lt HOB.out)
          have HLR : Hid ((∀ k, k < rl.length → nanq (rl.getD k 0) = false) → layF rl rl.length = b) := Lib.hid (by rw [HRL.out]; exact fun h => lay_read HOB.out h8 h)
          have hrl : rl.length ≤ 100 := by have := HLEN.out; omega
          have hq : ((rl.length : Int) == (b.length : Int) / 8) = true := by simp only [beq_iff_eq]; have := HLEN.out; omega
          clear HRL h8
          go_wp2_with fail
          go_loop [11, 12] (fun nb i => ∃ (k : Nat) (bq : Bool), k ≤ rl.length ∧ i = .int .i64 k ∧ nb = .bool bq ∧ Hid (bq = true → ∀ j, j < k → nanq (rl.getD j 0) = false)) (fun _ i => rl.length - (intOf i).toNat)
          case atStart => exact ⟨0, true, Nat.zero_le _, rfl, rfl, Lib.hid (fun _ j hj => by omega)⟩
          case round =>
            obtain ⟨k, bq, hk, rfl, rfl, HNN⟩ := hrel
            by_cases hlt : k < rl.length
            · obtain ⟨ad, rfl, hx⟩ := float_at HC3.out k hlt
              have hmem := HLT.out _ (getD_mem_ rl k hlt)
              have HNX := Lib.hid (fun w => isnan_is (rl.getD k 0) hmem w)
              have HST : Hid (bq = true → nanq (rl.getD k 0) = false → ∀ j, j < k + 1 → nanq (rl.getD j 0) = false) := Lib.hid (fun h1 h2 j hj => by
                by_cases e : j = k
                · subst e; exact h2
                · exact HNN.out h1 j (by omega))
              obtain ⟨bx, hbx⟩ : ∃ bx, nanq (rl.getD k 0) = bx := ⟨_, rfl⟩
              rw [hbx] at HNX HST
              clear hmem hbx HNN
              generalize rl.getD k 0 = x at *
              cases bq
              · clear HST
                go_wp2_with fail
                go_round
                case rel => exact ⟨k + 1, false, by omega, by go_num, rfl, Lib.hid (fun h => by cases h)⟩
                case measure => simp [intOf]; omega
              · cases bx
                · have HS2 := Lib.hid (HST.out rfl rfl)
                  clear HST
                  go_wp2_with (go_at_call 17; refine (HNX.out _).mono ?_; rintro e w' ⟨rfl, rfl⟩)
                  go_round
                  case rel => exact ⟨k + 1, true, by omega, by go_num, rfl, Lib.hid (fun _ => HS2.out)⟩
                  case measure => simp [intOf]; omega
                · clear HST
                  go_wp2_with (go_at_call 17; refine (HNX.out _).mono ?_; rintro e w' ⟨rfl, rfl⟩)
                  go_round
                  case rel => exact ⟨k + 1, false, by omega, by go_num, rfl, Lib.hid (fun h => by cases h)⟩
                  case measure => simp [intOf]; omega
            · obtain rfl : k = rl.length := by omega
              cases bq
              · clear HNN HLR
                go_wp2_with (go_at_call 11; refine (awake_any _).mono ?_; rintro e w' ⟨rfl, hb⟩)
                go_ret
                exact ⟨rfl, HB5.out.trans (hb.mono HB5.out.size)⟩
              · have hly := lay_any A3 c3 rl w3 HC3.out hrl HLT.out
                rw [HLR.out (HNN.out rfl)] at hly
                have HLY := Lib.hid hly
                clear hly HNN HLR
                go_wp2_with (first
                  | (go_at_call 26; (with_reducible refine (HLY.out).mono ?_); rintro e w4 ⟨A4, c4, rfl, hc4, hC4, hb4⟩; have HC4 := Lib.hid hC4; have HCB4 := Lib.hid (Kd.C_below HCB3.out hb4); have HB6 := Lib.hid (HB5.out.trans (hb4.mono HB5.out.size)); clear hC4 hb4 HLY)
                  | (go_at_call 25; (with_reducible refine (octets_same A4 Bo c4 capb b.length b _ HC4.out HCB4.out).mono ?_); rintro e w' ⟨rfl, rfl⟩)
                  | (go_at_call 11; refine (awake_any _).mono ?_; rintro e w' ⟨rfl, hb⟩))
                go_ret
                exact ⟨rfl, HB6.out.trans (hb.mono HB6.out.size)⟩
        · have hre : re = 2 := by have := HR.out; unfold readE at this; rw [if_neg h8] at this; exact (congrArg Prod.snd this).symm
          have hrl : rl = [] := by have := HR.out; unfold readE at this; rw [if_neg h8] at this; exact (congrArg Prod.fst this).symm
          subst hre
          subst hrl
          have h8i : ((b.length : Int) % 8 == 0) = false := by simp only [beq_eq_false_iff_ne]; omega
          have h8j : ((b.length : Int) % 8 != 0) = true := by simp only [bne_iff_ne]; omega
          clear HR
          go_wp2_with (go_at_call 11; refine (awake_any _).mono ?_; rintro e w' ⟨rfl, hb⟩)
          go_ret
          exact ⟨rfl, HB5.out.trans (hb.mono HB5.out.size)⟩
end Go.Proofs.Ytakfkkpcdnphlaa
