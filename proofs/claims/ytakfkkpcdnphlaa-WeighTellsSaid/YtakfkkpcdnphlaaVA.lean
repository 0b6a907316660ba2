/- The document's answer: Count, Endless, Sum, many, endless. -/
import Derived.Test.YtakfkkpcdnphlaaF14
import Derived.Test.YtakfkkpcdnphlaaWK
namespace Go.Proofs.Ytakfkkpcdnphlaa
open Go.RowKit Go.Proofs.YtakfkkpcdnphlaaW.PrintWords
attribute [local go_sem] run_store_float

theorem rcount_any (x : Nat) (hx : x < 2 * sgn) (w : World) : Calls Try.prog 20 #[.float .f64 x] w fun e w' => e = .returned (.float .f64 (cnt x)) ∧ w = w' := by
  have h2 := order_zero x hx
  rw [← ord_eq] at h2
  clear hx
  rcases h2 with ⟨hc, h2⟩ | ⟨h0, hi, hc, h2⟩
  · rw [hc]
    clear hc
    rcases h2 with h2 | h2 | h2
    · go_enter Try.func20, Try.ntmps20
      go_wp2
      go_ret
      exact ⟨rfl, rfl⟩
    · go_enter Try.func20, Try.ntmps20
      go_wp2
      go_ret
      exact ⟨rfl, rfl⟩
    · go_enter Try.func20, Try.ntmps20
      go_wp2
      go_ret
      exact ⟨rfl, rfl⟩
  · rw [hc]
    clear hc h0 hi
    go_enter Try.func20, Try.ntmps20
    go_wp2
    go_ret
    exact ⟨rfl, rfl⟩

theorem rend_any (x : Nat) (w : World) : Calls Try.prog 36 #[.float .f64 x] w fun e w' => e = .returned (.bool (FloatKind.f64.format.order x 9218868437227405311 == some .gt)) ∧ w = w' := by
  go_enter Try.func36, Try.ntmps36
  go_wp2
  go_ret
  exact ⟨rfl, rfl⟩
theorem rend_is (x : Nat) (hx : x < 2 * sgn) (w : World) : Calls Try.prog 36 #[.float .f64 x] w fun e w' => e = .returned (.bool (decide (x = inf))) ∧ w = w' := by
  have := rend_any x w
  rw [ord_eq] at this
  rw [← order_max x hx]
  exact this

def SumQ (w : World) (r : Nat) (e : Ending) (w' : World) : Prop := e = .returned (.float .f64 r) ∧ w = w'
theorem rsum_any (A : Option Addr) (cap n : Nat) (l : List Nat) (w : World) (hn : l.length = n) (hC : kF.C w A n l) (hl : n ≤ 100) (hw : ∀ x ∈ l, x < 2 * sgn) : Calls Try.prog 24 #[.slice A n cap] w (SumQ w (sumC (l.map cnt))) := by
  subst hn
  have HC := Lib.hid hC
  have HW := Lib.hid hw
  have HLE := Lib.hid (show ∀ x ∈ l.map cnt, x ≤ inf from fun x hx => map_cnt_mem hx)
  have HLN := Lib.hid (show (l.map cnt).length = l.length from List.length_map ..)
  clear hC hw
  go_enter Try.func24, Try.ntmps24
  go_wp2_with fail
  go_loop [3, 4] (fun s i => ∃ k : Nat, k ≤ l.length ∧ i = .int .i64 k ∧ s = .float .f64 (sumC ((l.map cnt).take k))) (fun _ i => l.length - (intOf i).toNat)
  case atStart => exact ⟨0, Nat.zero_le _, rfl, rfl⟩
  case round =>
    obtain ⟨k, hk, rfl, rfl⟩ := hrel
    by_cases hlt : k < l.length
    · obtain ⟨ad, rfl, hx⟩ := float_at HC.out k hlt
      have hs := sumC_snoc (l.map cnt) k (by rw [HLN.out]; exact hlt)
      have hadd := run_fadd (sumC_le ((l.map cnt).take k)) (HLE.out _ (getD_mem_ (l.map cnt) k (by rw [HLN.out]; exact hlt)))
      rw [← hs, getD_map cnt cnt_zero] at hadd
      have HCn := Lib.hid (fun w => rcount_any (l.getD k 0) (HW.out _ (getD_mem_ l k hlt)) w)
      clear hs
      generalize l.getD k 0 = x at *
      generalize sumC ((l.map cnt).take k) = s0 at *
      obtain ⟨s1, hs1⟩ : ∃ s1, sumC ((l.map cnt).take (k + 1)) = s1 := ⟨_, rfl⟩
      rw [hs1] at hadd
      have HS1 := Lib.hid hs1
      clear hs1
      go_wp2_with (go_at_call 20; refine (HCn.out _).mono ?_; rintro e w' ⟨rfl, rfl⟩)
      go_round
      case rel => exact ⟨k + 1, by omega, by go_num, by rw [HS1.out]⟩
      case measure => simp [intOf]; omega
    · obtain rfl : k = l.length := by omega
      have ht : (l.map cnt).take l.length = l.map cnt := List.take_of_length_le (by rw [HLN.out]; omega)
      rw [ht]
      clear ht
      go_wp2_with fail
      go_ret
      exact ⟨rfl, rfl⟩

theorem many_any (A : Option Addr) (cap : Nat) (l : List Nat) (w : World) (hC : kF.C w A l.length l) (hl : l.length ≤ 100) (hw : ∀ x ∈ l, x < 2 * sgn) : Calls Try.prog 34 #[.slice A l.length cap] w fun e w' => e = .returned (.int .u64 ((ends l l.length).length : Nat)) ∧ w = w' := by
  have HC := Lib.hid hC
  have HW := Lib.hid hw
  clear hC hw
  go_enter Try.func34, Try.ntmps34
  go_wp2_with fail
  go_loop [3, 4] (fun s i => ∃ k : Nat, k ≤ l.length ∧ i = .int .i64 k ∧ s = .int .u64 ((ends l k).length : Nat)) (fun _ i => l.length - (intOf i).toNat)
  case atStart => exact ⟨0, Nat.zero_le _, rfl, rfl⟩
  case round =>
    obtain ⟨k, hk, rfl, rfl⟩ := hrel
    by_cases hlt : k < l.length
    · obtain ⟨ad, rfl, hx⟩ := float_at HC.out k hlt
      have HIS := Lib.hid (fun w => rend_is (l.getD k 0) (HW.out _ (getD_mem_ l k hlt)) w)
      have hel := ends_len l k
      have hee : ends l (k + 1) = if l.getD k 0 = inf then ends l k ++ [(k : Int)] else ends l k := rfl
      by_cases hi : l.getD k 0 = inf
      · have hd : decide (l.getD k 0 = inf) = true := decide_eq_true hi
        rw [hd] at HIS
        have HE : Hid ((ends l (k + 1)).length = (ends l k).length + 1) := Lib.hid (by rw [hee, if_pos hi, List.length_append]; rfl)
        clear hee hi hd
        generalize l.getD k 0 = x at *
        generalize (ends l k).length = n at *
        go_wp2_with (go_at_call 36; refine (HIS.out _).mono ?_; rintro e w' ⟨rfl, rfl⟩)
        go_round
        case rel => exact ⟨k + 1, by omega, by go_num, by rw [HE.out]; go_num⟩
        case measure => simp [intOf]; omega
      · have hd : decide (l.getD k 0 = inf) = false := decide_eq_false hi
        rw [hd] at HIS
        have HE : Hid ((ends l (k + 1)).length = (ends l k).length) := Lib.hid (by rw [hee, if_neg hi])
        clear hee hi hd
        generalize l.getD k 0 = x at *
        generalize (ends l k).length = n at *
        go_wp2_with (go_at_call 36; refine (HIS.out _).mono ?_; rintro e w' ⟨rfl, rfl⟩)
        go_round
        case rel => exact ⟨k + 1, by omega, by go_num, by rw [HE.out]⟩
        case measure => simp [intOf]; omega
    · obtain rfl : k = l.length := by omega
      go_wp2_with fail
      go_ret
      exact ⟨rfl, rfl⟩

theorem kth_any (A : Option Addr) (cap q : Nat) (l : List Nat) (w : World) (hC : kF.C w A l.length l) (hl : l.length ≤ 100) (hw : ∀ x ∈ l, x < 2 * sgn) (hq : q < (ends l l.length).length) : Calls Try.prog 35 #[.slice A l.length cap, .int .u64 (q : Nat)] w fun e w' => e = .returned (.int .i64 ((ends l l.length).getD q 0)) ∧ w = w' := by
  have HC := Lib.hid hC
  have HW := Lib.hid hw
  have hel0 := ends_len l l.length
  have hq100 : q ≤ 100 := by omega
  have HQ := Lib.hid hq
  clear hC hw hq hel0
  go_enter Try.func35, Try.ntmps35
  go_wp2_with fail
  go_loop [1, 5] (fun s i => ∃ k r : Nat, k ≤ l.length ∧ i = .int .i64 k ∧ s = .int .u64 (r : Nat) ∧ q = (ends l k).length + r ∧ r ≤ 100) (fun _ i => l.length - (intOf i).toNat)
  case atStart => exact ⟨0, q, Nat.zero_le _, rfl, rfl, by show q = 0 + q; omega, hq100⟩
  case round =>
    obtain ⟨k, r, hk, rfl, rfl, hqr, hr⟩ := hrel
    have HQR := Lib.hid hqr
    clear hqr
    by_cases hlt : k < l.length
    · obtain ⟨ad, rfl, hx⟩ := float_at HC.out k hlt
      have HIS := Lib.hid (fun w => rend_is (l.getD k 0) (HW.out _ (getD_mem_ l k hlt)) w)
      have hee : ends l (k + 1) = if l.getD k 0 = inf then ends l k ++ [(k : Int)] else ends l k := rfl
      by_cases hi : l.getD k 0 = inf
      · have hd : decide (l.getD k 0 = inf) = true := decide_eq_true hi
        rw [hd] at HIS
        have HE : Hid ((ends l (k + 1)).length = (ends l k).length + 1) := Lib.hid (by rw [hee, if_pos hi, List.length_append]; rfl)
        have HAT := Lib.hid (ends_at hlt hi)
        clear hee hi hd hx
        obtain ⟨ad, hA, hx⟩ := float_at HC.out k hlt
        cases hA
        generalize l.getD k 0 = x at *
        by_cases h0 : r = 0
        · have HRES : Hid ((ends l l.length).getD q 0 = (k : Int)) := Lib.hid (by have := HQR.out; rw [h0, Nat.add_zero] at this; rw [this]; exact HAT.out)
          have hr0 : ((r : Int) == 0) = true := by simp only [beq_iff_eq]; omega
          clear h0 HQR
          go_wp2_with (go_at_call 36; refine (HIS.out _).mono ?_; rintro e w' ⟨rfl, rfl⟩)
          go_ret
          exact ⟨by rw [HRES.out]; rfl, rfl⟩
        · have hr0 : ((r : Int) == 0) = false := by simp only [beq_eq_false_iff_ne]; omega
          have hr1 : (1 : Int) ≤ (r : Int) := by omega
          clear h0
          go_wp2_with (go_at_call 36; refine (HIS.out _).mono ?_; rintro e w' ⟨rfl, rfl⟩)
          go_round
          case rel => exact ⟨k + 1, r - 1, by omega, by go_num, by go_num, by have := HQR.out; rw [HE.out]; omega, by omega⟩
          case measure => simp [intOf]; omega
      · have hd : decide (l.getD k 0 = inf) = false := decide_eq_false hi
        rw [hd] at HIS
        have HE : Hid ((ends l (k + 1)).length = (ends l k).length) := Lib.hid (by rw [hee, if_neg hi])
        clear hee hi hd
        generalize l.getD k 0 = x at *
        go_wp2_with (go_at_call 36; refine (HIS.out _).mono ?_; rintro e w' ⟨rfl, rfl⟩)
        go_round
        case rel => exact ⟨k + 1, r, by omega, by go_num, rfl, by rw [HE.out]; exact HQR.out, hr⟩
        case measure => simp [intOf]; omega
    · exfalso
      obtain rfl : k = l.length := by omega
      have := HQ.out
      have := HQR.out
      omega
end Go.Proofs.Ytakfkkpcdnphlaa
