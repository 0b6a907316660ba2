/- The law WeighCounts. -/
import Derived.Test.YtakfkkpcdnphlaaF4
namespace Go.Proofs.Ytakfkkpcdnphlaa
open Go.RowKit Go.Proofs.YtakfkkpcdnphlaaW.PrintWords
attribute [local go_sem] run_store_float

theorem signbit_nn (x : Nat) (hx : x ≤ inf) (w : World) : Calls Try.prog 18 #[.float .f64 x] w fun e w' => e = .returned (.bool false) ∧ w = w' := by
  have h19 := ext19 x
  have hx' : x ≤ 9218868437227405312 := hx
  go_enter Try.func18, Try.ntmps18
  go_wp2
  go_ret
  exact ⟨rfl, rfl⟩

theorem isnan_nn (x : Nat) (hx : x ≤ inf) (w : World) : Calls Try.prog 17 #[.float .f64 x] w fun e w' => e = .returned (.bool false) ∧ w = w' := by
  refine (isnan_any x w).mono ?_
  rintro e w' ⟨rfl, rfl⟩
  have h : FloatKind.f64.format.order x x = some .eq := by rw [ord_eq, order_nn hx hx, compare_nat, if_neg (by omega), if_pos rfl]
  rw [h]
  exact ⟨rfl, rfl⟩

theorem take_C {w : World} {A : Option Addr} {l : List Nat} (hC : kF.C w A l.length l) (n : Nat) : kF.C w A (l.take n).length (l.take n) := by
  by_cases h : n ≤ l.length
  · exact Kd.C_take hC h
  · rw [List.take_of_length_le (by omega)]; exact hC
theorem take_lt {l : List Nat} (h : ∀ x ∈ l, x < 2 * sgn) (n : Nat) : ∀ x ∈ l.take n, x < 2 * sgn := fun x hx => h x (List.mem_of_mem_take hx)

set_option maxRecDepth 100000 in
theorem counts_law (A : Option Addr) (cap : Nat) (l0 : List Nat) (draw : Nat) (w : World) (hC0 : kF.C w A l0.length l0) (hcap : l0.length ≤ cap) (hl : l0.length ≤ 9223372036854775807) (hw0 : ∀ x ∈ l0, x < 2 * sgn) (hd : draw < 2 ^ 64) :
    Calls Try.prog 7 #[.slice A l0.length cap, .int .u64 draw] w (AwakeP w) := by
  have HC := Lib.hid (take_C hC0 70)
  have HW := Lib.hid (take_lt hw0 70)
  have HN := Lib.hid (show (l0.take 70).length ≤ 70 by simp; omega)
  have HF := Lib.hid (few_any A cap l0 w hcap hl)
  clear hC0 hw0 hcap hl
  generalize l0.length = n0 at *
  generalize l0.take 70 = l at *
  go_enter Try.func7, Try.ntmps7
  go_wp2_with fail
  refine (HF.out).mono ?_
  rintro e w1 ⟨rfl, rfl⟩
  clear HF
  have hn := HN.out
  go_wp2_with fail
  refine (pick_any A cap l draw w HC.out (by omega) HW.out hd).mono ?_
  rintro e w1 ⟨rfl, hb⟩
  have HC1 := Lib.hid (Kd.C_below HC.out hb)
  have HB := Lib.hid hb
  have HP := Lib.hid (pick_cases l draw)
  clear hb HC
  generalize pickF l draw = r at *
  obtain ⟨ri, re⟩ := r
  go_wp2_with fail
  go_loop [7, 8] (fun sm i => ∃ (k : Nat) (b : Bool), k ≤ l.length ∧ i = .int .i64 k ∧ sm = .bool b ∧ Hid (b = true → ∃ j, j < l.length ∧ cnt (l.getD j 0) ≠ 0)) (fun _ i => l.length - (intOf i).toNat)
  case atStart => exact ⟨0, false, Nat.zero_le _, rfl, rfl, Lib.hid (by simp)⟩
  case round =>
    obtain ⟨k, b, hk, rfl, rfl, HX⟩ := hrel
    by_cases hlt : k < l.length
    · obtain ⟨ad, rfl, hx⟩ := float_at HC1.out k hlt
      have hmem := HW.out _ (getD_mem_ l k hlt)
      have HM := Lib.hid hmem
      have HCn := Lib.hid (count_any (l.getD k 0) hmem w1)
      have HZ := Lib.hid (order_zero (l.getD k 0) hmem)
      have HK := Lib.hid (show cnt (l.getD k 0) ≠ 0 → ∃ j, j < l.length ∧ cnt (l.getD j 0) ≠ 0 from fun h => ⟨k, hlt, h⟩)
      clear hmem
      generalize l.getD k 0 = x at *
      rcases HZ.out with ⟨hc, ho⟩ | ⟨h0, hi, hc, ho⟩
      · have h00 : FloatKind.f64.format.order 0 0 = some .eq := by decide +kernel
        rw [hc] at HCn
        rw [← ord_eq] at ho
        obtain ⟨o, ho, hne⟩ : ∃ o, FloatKind.f64.format.order x 0 = o ∧ (o == some Ordering.gt) = false := by
          rcases ho with ho | ho | ho <;> exact ⟨_, ho, rfl⟩
        clear hc HZ HK HP
        cases b
        · go_wp2_with (first
            | (go_at_call 15; refine (HCn.out).mono ?_; rintro e w' ⟨rfl, rfl⟩)
            | (go_at_call 17; refine (isnan_nn 0 (Nat.zero_le _) _).mono ?_; rintro e w' ⟨rfl, rfl⟩)
            | (go_at_call 18; refine (signbit_nn 0 (Nat.zero_le _) _).mono ?_; rintro e w' ⟨rfl, rfl⟩))
          go_round
          case rel => exact ⟨k + 1, _, by omega, by go_num, rfl, HX⟩
          case measure => simp [intOf]; omega
        · go_wp2_with (first
            | (go_at_call 15; refine (HCn.out).mono ?_; rintro e w' ⟨rfl, rfl⟩)
            | (go_at_call 17; refine (isnan_nn 0 (Nat.zero_le _) _).mono ?_; rintro e w' ⟨rfl, rfl⟩)
            | (go_at_call 18; refine (signbit_nn 0 (Nat.zero_le _) _).mono ?_; rintro e w' ⟨rfl, rfl⟩))
          go_round
          case rel => exact ⟨k + 1, _, by omega, by go_num, rfl, Lib.hid (fun _ => HX.out trivial)⟩
          case measure => simp [intOf]; omega
      · have hself : FloatKind.f64.format.order x x = some .eq := by rw [ord_eq, order_nn hi hi, compare_nat, if_neg (by omega), if_pos rfl]
        have HK2 := Lib.hid (HK.out (by rw [hc]; omega))
        have HI := Lib.hid hi
        rw [hc] at HCn
        rw [← ord_eq] at ho
        clear hc HZ HK HP h0 hi
        cases b
        · go_wp2_with (first
            | (go_at_call 15; refine (HCn.out).mono ?_; rintro e w' ⟨rfl, rfl⟩)
            | (go_at_call 17; refine (isnan_nn x HI.out _).mono ?_; rintro e w' ⟨rfl, rfl⟩)
            | (go_at_call 18; refine (signbit_nn x HI.out _).mono ?_; rintro e w' ⟨rfl, rfl⟩))
          go_round
          case rel => exact ⟨k + 1, _, by omega, by go_num, rfl, Lib.hid (fun _ => HK2.out)⟩
          case measure => simp [intOf]; omega
        · go_wp2_with (first
            | (go_at_call 15; refine (HCn.out).mono ?_; rintro e w' ⟨rfl, rfl⟩)
            | (go_at_call 17; refine (isnan_nn x HI.out _).mono ?_; rintro e w' ⟨rfl, rfl⟩)
            | (go_at_call 18; refine (signbit_nn x HI.out _).mono ?_; rintro e w' ⟨rfl, rfl⟩))
          go_round
          case rel => exact ⟨k + 1, _, by omega, by go_num, rfl, Lib.hid (fun _ => HX.out trivial)⟩
          case measure => simp [intOf]; omega
    · obtain rfl : k = l.length := by omega
      rcases HP.out with ⟨he, h64⟩ | ⟨he, hz⟩ | ⟨j, he, hj, hx, h64⟩
      · cases he
        clear HP HX h64
        go_wp2_with (go_at_call 11; refine (awake_any _).mono ?_; rintro e w' ⟨rfl, hb⟩)
        go_ret
        exact ⟨rfl, HB.out.trans (hb.mono HB.out.size)⟩
      · cases he
        have hbf : b = false := by
          cases b
          · rfl
          · obtain ⟨j, hj, hx⟩ := HX.out rfl
            exact absurd (hz j hj) hx
        subst hbf
        clear HP HX hz
        go_wp2_with (go_at_call 11; refine (awake_any _).mono ?_; rintro e w' ⟨rfl, hb⟩)
        go_ret
        exact ⟨rfl, HB.out.trans (hb.mono HB.out.size)⟩
      · cases he
        obtain ⟨ad, rfl, hxc⟩ := float_at HC1.out j hj
        have hmem := HW.out _ (getD_mem_ l j hj)
        have ho := order_zero_pos (cnt_le (l.getD j 0)) (by omega)
        have HCn := Lib.hid (count_any (l.getD j 0) hmem w1)
        clear HP HX hmem hx
        generalize l.getD j 0 = x at *
        go_wp2_with (first
          | (go_at_call 11; refine (awake_any _).mono ?_; rintro e w' ⟨rfl, hb⟩)
          | (go_at_call 15; refine (HCn.out).mono ?_; rintro e w' ⟨rfl, rfl⟩))
        go_ret
        exact ⟨rfl, HB.out.trans (hb.mono HB.out.size)⟩
end Go.Proofs.Ytakfkkpcdnphlaa
