/- The law WeighRises. -/
import Derived.Test.YtakfkkpcdnphlaaF5
namespace Go.Proofs.Ytakfkkpcdnphlaa
open Go.RowKit Go.Proofs.YtakfkkpcdnphlaaW.PrintWords
attribute [local go_sem] run_store_float

def PickAny (w : World) (A : Option Addr) (cap n d : Nat) (r : Int × Int) : Prop := Calls Try.prog 13 #[.slice A n cap, .int .u64 d] w (PickP w r)

set_option maxRecDepth 100000 in
theorem rises_law (A : Option Addr) (cap : Nat) (l0 : List Nat) (a b : Nat) (w : World) (hC0 : kF.C w A l0.length l0) (hcap : l0.length ≤ cap) (hl : l0.length ≤ 9223372036854775807) (hw0 : ∀ x ∈ l0, x < 2 * sgn) (ha : a < 2 ^ 64) (hb : b < 2 ^ 64) :
    Calls Try.prog 4 #[.slice A l0.length cap, .int .u64 a, .int .u64 b] w (AwakeP w) := by
  have HC := Lib.hid (take_C hC0 70)
  have HW := Lib.hid (take_lt hw0 70)
  have HN := Lib.hid (show (l0.take 70).length ≤ 70 by simp; omega)
  have HF := Lib.hid (few_any A cap l0 w hcap hl)
  clear hC0 hw0 hcap hl
  generalize l0.length = n0 at *
  generalize l0.take 70 = l at *
  go_enter Try.func4, Try.ntmps4
  go_wp2_with fail
  refine (HF.out).mono ?_
  rintro e w1 ⟨rfl, rfl⟩
  clear HF
  have hn := HN.out
  go_wp2_with fail
  go_loop [7, 8] (fun f i => ∃ (k : Nat) (f' : Int), k ≤ l.length ∧ i = .int .i64 ((k : Int) - 1) ∧ f = .int .i64 f' ∧ Hid (FirstP l k f') ∧ Hid (∀ j, k ≤ j → j < l.length → l.getD j 0 ≠ inf)) (fun _ i => (intOf i + 1).toNat)
  case atStart => exact ⟨l.length, -1, Nat.le_refl _, rfl, rfl, Lib.hid (.inl ⟨rfl, fun j h1 h2 => by omega⟩), Lib.hid (fun j h1 h2 => by omega)⟩
  case round =>
    obtain ⟨k, f', hk, rfl, rfl, HFP, HNI⟩ := hrel
    by_cases hlt : 0 < k
    · obtain ⟨k, rfl⟩ : ∃ m, k = m + 1 := ⟨k - 1, by omega⟩
      have e1 : ((k + 1 : Nat) : Int) - 1 = (k : Int) := by omega
      rw [e1]
      clear e1 hlt
      have hlt : k < l.length := by omega
      obtain ⟨ad, rfl, hx⟩ := float_at HC.out k hlt
      have hmem := HW.out _ (getD_mem_ l k hlt)
      have HX := Lib.hid (isinf_is (l.getD k 0) hmem w)
      have HCn := Lib.hid (count_any (l.getD k 0) hmem w)
      clear hmem
      by_cases hi : l.getD k 0 = inf
      · rw [hi] at hx HX
        rw [decide_eq_true rfl] at HX
        clear HCn hi HFP HNI
        go_wp2_with (first
          | (go_at_call 12; refine (HX.out).mono ?_; rintro e w' ⟨rfl, rfl⟩)
          | (go_at_call 11; refine (awake_any _).mono ?_; rintro e w' ⟨rfl, hb⟩))
        go_ret
        exact ⟨rfl, hb⟩
      · have HNI2 : Hid (∀ j, k ≤ j → j < l.length → l.getD j 0 ≠ inf) := Lib.hid (fun j h1 h2 => by
          by_cases e : j = k
          · subst e; exact hi
          · exact HNI.out j (by omega) h2)
        rw [decide_eq_false hi] at HX
        by_cases h0 : cnt (l.getD k 0) = 0
        · have HF2 : Hid (FirstP l k f') := Lib.hid (by
            rcases HFP.out with ⟨h1, h2⟩ | ⟨n, h1, h2, h3, h4, h5⟩
            · refine .inl ⟨h1, fun j hj1 hj2 => ?_⟩
              by_cases e : j = k
              · subst e; exact h0
              · exact h2 j (by omega) hj2
            · refine .inr ⟨n, h1, by omega, h3, h4, fun j hj1 hj2 => ?_⟩
              by_cases e : j = k
              · subst e; exact h0
              · exact h5 j (by omega) hj2)
          have h00 : FloatKind.f64.format.order 0 0 = some .eq := by decide +kernel
          rw [h0] at HCn
          clear hi h0 HFP HNI
          generalize l.getD k 0 = x at *
          go_wp2_with (first
            | (go_at_call 12; refine (HX.out).mono ?_; rintro e w' ⟨rfl, rfl⟩)
            | (go_at_call 15; refine (HCn.out).mono ?_; rintro e w' ⟨rfl, rfl⟩))
          go_round
          case rel => exact ⟨k, f', by omega, by go_num, rfl, HF2, HNI2⟩
          case measure => first | (simp [intOf]; done) | (simp [intOf]; omega)
        · have HF2 : Hid (FirstP l k (k : Int)) := Lib.hid (.inr ⟨k, rfl, Nat.le_refl _, hlt, by omega, fun j h1 h2 => by omega⟩)
          have ho := order_zero_pos (cnt_le (l.getD k 0)) h0
          clear hi h0 HFP HNI
          generalize l.getD k 0 = x at *
          go_wp2_with (first
            | (go_at_call 12; refine (HX.out).mono ?_; rintro e w' ⟨rfl, rfl⟩)
            | (go_at_call 15; refine (HCn.out).mono ?_; rintro e w' ⟨rfl, rfl⟩))
          go_round
          case rel => exact ⟨k, (k : Int), by omega, by go_num, rfl, HF2, HNI2⟩
          case measure => first | (simp [intOf]; done) | (simp [intOf]; omega)
    · obtain rfl : k = 0 := by omega
      have HPA := Lib.hid (fun d (hd : d < 2 ^ 64) w hC => pick_any A cap l d w hC (by omega) HW.out hd)
      have HR := Lib.hid (fun (a b : Nat) (hab : a ≤ b) (hb : b < 2 ^ 64) => pick_rises l hab hb (fun j hj => HNI.out j (Nat.zero_le _) hj) f' HFP.out)
      clear HFP HNI
      go_upto_if 39 with fail
      go_cut [1, 2] (fun s1 s2 wx => w = wx ∧ ∃ x y : Nat, s1 = .int .u64 x ∧ s2 = .int .u64 y ∧ x ≤ y ∧ y < 18446744073709551616)
      case first =>
        by_cases hab : b < a
        · go_wp2_with fail
          go_meet
          exact ⟨rfl, b, a, rfl, rfl, by omega, by omega⟩
        · go_wp2_with fail
          go_meet
          exact ⟨rfl, a, b, rfl, rfl, by omega, by omega⟩
      case rest =>
        obtain ⟨rfl, x, y, rfl, rfl, hxy, hy⟩ := hcut
        have HRR := Lib.hid (HR.out x y hxy hy)
        have HPx := Lib.hid (HPA.out x (by omega) w HC.out)
        have HPy := Lib.hid (fun w hC => HPA.out y (by omega) w hC)
        have HPz := Lib.hid (fun w hC => HPA.out 0 (by omega) w hC)
        clear HR HPA ha hb
        rcases HRR.out with ⟨e, he0, h1, h2, h3⟩ | ⟨px, py, pz, n, h1, h2, h3, h4, h5, rfl, hnl, hd⟩
        · rw [h1] at HPx
          simp only [h2] at HPy
          simp only [h3] at HPz
          have hbe : (e == 0) = false := by simp only [beq_eq_false_iff_ne]; exact he0
          clear h1 h2 h3 HRR
          go_wp2_with fail
          refine (HPx.out).mono ?_
          rintro e' w2 ⟨rfl, hb2⟩
          have HB2 := Lib.hid hb2
          have HC2 := Lib.hid (Kd.C_below HC.out hb2)
          clear hb2
          go_wp2_with fail
          refine (HPy.out _ HC2.out).mono ?_
          rintro e' w3 ⟨rfl, hb3⟩
          have HB3 := Lib.hid (HB2.out.trans (hb3.mono HB2.out.size))
          have HC3 := Lib.hid (Kd.C_below HC2.out hb3)
          clear hb3
          go_wp2_with fail
          refine (HPz.out _ HC3.out).mono ?_
          rintro e' w4 ⟨rfl, hb4⟩
          have HB4 := Lib.hid (HB3.out.trans (hb4.mono HB3.out.size))
          clear hb4
          go_wp2_with (go_at_call 11; refine (awake_any _).mono ?_; rintro e w' ⟨rfl, hb⟩)
          go_ret
          exact ⟨rfl, HB4.out.trans (hb.mono HB4.out.size)⟩
        · rw [h1] at HPx
          simp only [h2] at HPy
          simp only [h3] at HPz
          obtain ⟨ad, rfl, hxc⟩ := float_at HC.out n hnl
          have hmem := HW.out _ (getD_mem_ l n hnl)
          have HX := Lib.hid hxc
          have HCn := Lib.hid (fun w => count_any (l.getD n 0) hmem w)
          have HD : pz ≠ n → Hid (∀ w, (binOp .quo 28 (.float .f64 (cnt (l.getD n 0))) (.float .f64 4638707616191610880)).run Try.prog w = .ok (.float .f64 0) w) := fun hne => Lib.hid (by
            rcases hd with h | h
            · exact absurd h hne
            · have hlt : cnt (l.getD n 0) < inf := by
                have := cnt_le (l.getD n 0)
                have h6 : cnt (l.getD n 0) ≠ inf := by
                  intro h7
                  rw [h7] at h
                  exact absurd h (by decide +kernel)
                omega
              have := run_fdiv128 hlt
              rwa [h] at this)
          clear h1 h2 h3 HRR hd hxc hmem
          generalize l.getD n 0 = xv at *
          go_wp2_with fail
          refine (HPx.out).mono ?_
          rintro e' w2 ⟨rfl, hb2⟩
          have HB2 := Lib.hid hb2
          have HC2 := Lib.hid (Kd.C_below HC.out hb2)
          clear hb2
          go_wp2_with fail
          refine (HPy.out _ HC2.out).mono ?_
          rintro e' w3 ⟨rfl, hb3⟩
          have HB3 := Lib.hid (HB2.out.trans (hb3.mono HB2.out.size))
          have HC3 := Lib.hid (Kd.C_below HC2.out hb3)
          clear hb3
          go_wp2_with fail
          refine (HPz.out _ HC3.out).mono ?_
          rintro e' w4 ⟨rfl, hb4⟩
          have HB4 := Lib.hid (HB3.out.trans (hb4.mono HB3.out.size))
          have hx4 := pw_cell_below HB4.out HX.out
          clear hb4
          by_cases hzn : pz = n
          · subst hzn
            clear HD
            go_wp2_with (go_at_call 11; refine (awake_any _).mono ?_; rintro e w' ⟨rfl, hb⟩)
            go_ret
            exact ⟨rfl, HB4.out.trans (hb.mono HB4.out.size)⟩
          · have hq := (HD hzn).out
            have h00 : FloatKind.f64.format.order 0 0 = some .eq := by decide +kernel
            have hzb : ((pz : Int) == (n : Int)) = false := by simp only [beq_eq_false_iff_ne]; omega
            clear HD
            go_wp2_with (first
              | (go_at_call 15; refine (HCn.out _).mono ?_; rintro e w' ⟨rfl, rfl⟩)
              | (go_at_call 11; refine (awake_any _).mono ?_; rintro e w' ⟨rfl, hb⟩))
            go_ret
            exact ⟨rfl, HB4.out.trans (hb.mono HB4.out.size)⟩
end Go.Proofs.Ytakfkkpcdnphlaa
