/- The law WeighLone. -/
import Derived.Test.YtakfkkpcdnphlaaF6
import Derived.Test.YtakfkkpcdnphlaaWG
namespace Go.Proofs.Ytakfkkpcdnphlaa
open Go.RowKit Go.Proofs.YtakfkkpcdnphlaaW.PrintWords
attribute [local go_sem] run_store_float

theorem neg_flip {x : Nat} (hx : x < 2 ^ 63) : x ^^^ 2 ^ 63 = x + 2 ^ 63 := by
  have h : 2 ^ 63 + x = 2 ^ 63 ||| x := Nat.two_pow_add_eq_or_of_lt hx 1 |>.symm ▸ (by simp)
  rw [Nat.add_comm, h]
  apply Nat.eq_of_testBit_eq
  intro i
  rw [Nat.testBit_xor, Nat.testBit_or, Nat.testBit_two_pow]
  by_cases e : 63 = i
  · subst e
    rw [Nat.testBit_lt_two_pow hx]
    simp
  · simp [e]
theorem run_neg {x : Nat} (hx : x ≤ inf) : ∀ w, (Op.unary .neg (.float .f64 x)).run Try.prog w = .ok (.float .f64 (x + sgn)) w := by
  intro w
  have h : Op.negFloat .f64 x = x + sgn := neg_flip (x := x) (by rw [inf_def] at hx; omega)
  rw [← h]
  rfl

set_option maxRecDepth 100000 in
theorem lone_law (x draw : Nat) (p q : Int) (w : World) (hx : x < 2 * sgn) (hd : draw < 2 ^ 64) (hp0 : 0 ≤ p) (hp1 : p ≤ 255) (hq0 : 0 ≤ q) (hq1 : q ≤ 255) :
    Calls Try.prog 6 #[.float .f64 x, .int .u64 draw, .agg #[.int .u8 p, .int .u8 q]] w (AwakeP w) := by
  have HCn := Lib.hid (fun w => count_any x hx w)
  have hz : cnt x = 0 ∨ (0 < x ∧ x ≤ inf ∧ cnt x = x) := by
    rcases order_zero x hx with ⟨h, _⟩ | ⟨h1, h2, h3, _⟩
    · exact .inl h
    · exact .inr ⟨h1, h2, h3⟩
  rcases hz with hc | ⟨h0, hi, hc⟩
  · rw [hc] at HCn
    have h00 : FloatKind.f64.format.order 0 0 = some .eq := by decide +kernel
    clear hc
    go_enter Try.func6, Try.ntmps6
    go_wp2_with (first
      | (go_at_call 15; refine (HCn.out _).mono ?_; rintro e w' ⟨rfl, rfl⟩)
      | (go_at_call 11; refine (awake_any _).mono ?_; rintro e w' ⟨rfl, hb⟩))
    go_ret
    exact ⟨rfl, (below_alloc (Below.refl _ w) _).trans (hb.mono (below_alloc (Below.refl _ w) _).size)⟩
  · rw [hc] at HCn
    have ho := order_zero_pos hi (by omega)
    obtain ⟨n, hn⟩ : ∃ n : Nat, 1 + p % 64 = (n : Int) := ⟨(1 + p % 64).toNat, by omega⟩
    have hn1 : 1 ≤ n := by omega
    have hn2 : n ≤ 64 := by omega
    obtain ⟨m, hm⟩ : ∃ m : Nat, q % (n : Int) = (m : Int) := ⟨(q % (n : Int)).toNat, by have := Int.emod_nonneg q (b := (n : Int)) (by omega); omega⟩
    have hmn : m < n := by have := Int.emod_lt_of_pos q (b := (n : Int)) (by omega); omega
    have hneg := run_neg hi
    have hself : FloatKind.f64.format.order x x = some .eq := by rw [ord_eq, order_nn hi hi, compare_nat, if_neg (by omega), if_pos rfl]
    have HP := Lib.hid (lone_picked h0 hi hmn hn2 draw)
    have HL := Lib.hid (lone_lt (x := x) (n := n) (p := m) hi)
    clear hc hi hx
    go_enter Try.func6, Try.ntmps6
    go_wp2_with (first
      | (go_at_call 15; refine (HCn.out _).mono ?_; rintro e w' ⟨rfl, rfl⟩)
      | (at_make; go_loud (refine Kd.R_make kF (w0 := w) w.heap.size 28 rfl rfl 22 (.tmp 27) (.tmp 27) rfl (n : Int) rfl rfl Try.underlying22 (.float .f64 0) 8 info28 rfl (by decide) (by omega) 0 (ok := fun k => w.heap.size ≤ k) (okp := fun _ => False) rfl (fun _ h => h.elim) (below_alloc (Below.refl _ w) _).size (by omega) (by omega) (below_alloc (Below.refl _ w) _) (below_alloc (Below.refl _ w) _).size ?_); intro v1 w1 hr hb _ ho2))
    have hr' : kF.R 28 w1 w.heap.size (fun k => w.heap.size ≤ k) v1 (filled x n 0) := by rw [filled_zero]; simpa using hr
    have HB := Lib.hid hb
    obtain ⟨g, cap1, rfl, hg, _, _⟩ := Kd.R_form hr' (by rw [filled_len]; omega)
    rw [filled_len] at hr' ⊢
    have HR := Lib.hid hr'
    clear hr hr' hb ho2
    go_wp2_with fail
    go_loopw [10] (fun i wr => ∃ k : Nat, k ≤ n ∧ i = .int .i64 k ∧ kF.R 28 wr w.heap.size (fun k => w.heap.size ≤ k) (.slice (some ⟨g, 0, none⟩) n cap1) (filled x n k) ∧ Below w.heap.size w wr) (fun i _ => n - (intOf i).toNat)
    case atStart => exact ⟨0, Nat.zero_le _, rfl, HR.out, HB.out⟩
    case round =>
      obtain ⟨k, hk, rfl, hr, hb⟩ := hrel
      have hlk := filled_len x n k
      have hr2 : kF.R 28 wr w.heap.size (fun k => w.heap.size ≤ k) (.slice (some ⟨g, 0, none⟩) (filled x n k).length cap1) (filled x n k) := by rw [hlk]; exact hr
      by_cases hlt : k < n
      · obtain ⟨d1, f1⟩ := Kd.R_cell (enc := Value.float .f64) (h1 := fun _ => rfl) 0 hr2 (k : Int) (by omega) (by omega)
        obtain ⟨hp, hg2⟩ := Kd.R_put (enc := Value.float .f64) (h1 := fun _ => rfl) hr2 (k : Int) (fill x k)
        have e : (k : Int).toNat = k := by omega
        rw [e] at d1 f1 hp hg2
        rw [filled_set x n k hlt, hlk] at hp
        have HPU := Lib.hid hp
        have HB2 := Lib.hid (hb.setCell (p := ⟨g, k, none⟩) hg (.float .f64 (fill x k)))
        have HRO := Lib.hid hr
        have HBO := Lib.hid hb
        have e0 : filled x n (k + 1) = filled x n (k + 1) := rfl
        clear hp hg2 hr hr2 hlk e hb HR HB
        rcases (by omega : k % 3 = 0 ∨ k % 3 = 1 ∨ k % 3 = 2) with h3 | h3 | h3
        · have hf : fill x k = 0 := by unfold fill; rw [if_neg (by omega), if_neg (by omega)]
          have hnx : filled x n (k + 1) = filled x n k := by
            rw [← filled_set x n k hlt, hf]
            apply List.ext_getElem
            · simp
            · intro i h1 h2
              rw [List.getElem_set]
              by_cases e : k = i
              · subst e
                simp [filled]
              · rw [if_neg e]
          have h3i : (k : Int) % 3 = 0 := by omega
          have HNX := Lib.hid hnx
          clear hf hnx h3 HPU HB2 e0
          go_wp2_with fail
          go_roundw
          case rel => exact ⟨k + 1, by omega, by go_num, by rw [HNX.out]; exact HRO.out, HBO.out⟩
          case measure => simp [intOf]; omega
        · have hf : fill x k = 9221120237041090561 := by unfold fill; rw [if_pos h3]
          rw [hf] at HPU HB2
          have h3i : (k : Int) % 3 = 1 := by omega
          clear hf h3 HRO HBO e0
          go_wp2_with (go_at_call 16; refine (nan_is _).mono ?_; rintro e w' ⟨rfl, rfl⟩)
          go_roundw
          case rel => exact ⟨k + 1, by omega, by go_num, HPU.out, HB2.out⟩
          case measure => simp [intOf]; omega
        · have hf : fill x k = x + sgn := by unfold fill; rw [if_neg (by omega), if_pos h3]
          rw [hf] at HPU HB2
          have h3i : (k : Int) % 3 = 2 := by omega
          clear hf h3 HRO HBO e0
          go_wp2_with fail
          go_roundw
          case rel => exact ⟨k + 1, by omega, by go_num, HPU.out, HB2.out⟩
          case measure => simp [intOf]; omega
      · obtain rfl : k = n := by omega
        obtain ⟨d1, f1⟩ := Kd.R_cell (enc := Value.float .f64) (h1 := fun _ => rfl) 0 hr2 (m : Int) (by omega) (by omega)
        obtain ⟨hp, hg2⟩ := Kd.R_put (enc := Value.float .f64) (h1 := fun _ => rfl) hr2 (m : Int) x
        have e : (m : Int).toNat = m := by omega
        rw [e] at d1 f1 hp hg2
        have hp2 : kF.R 28 (wr.setCell ⟨g, m, none⟩ (.float .f64 x)) w.heap.size (fun k => w.heap.size ≤ k) (.slice (some ⟨g, 0, none⟩) k cap1) (lone x k m) := by rw [hlk] at hp; exact hp
        have hC := (Kd.R_reads' hp2).2.2
        have HC := Lib.hid hC
        have HLN := Lib.hid (lone_len x k m)
        have HB2 := Lib.hid (hb.setCell (p := ⟨g, m, none⟩) hg (.float .f64 x))
        clear hp hg2 hr hr2 hlk e hb HR HB hp2 hC
        generalize lone x k m = l at *
        obtain ⟨hpk, hsm⟩ := HP.out
        have HPK := Lib.hid hpk
        have HSM := Lib.hid hsm
        have hkl : l.length = k := HLN.out
        have hC' := HC.out
        rw [hkl] at hC'
        have HC := Lib.hid hC'
        clear hpk hsm HP HLN hC'
        go_wp2_with fail
        refine (pick_any' (some ⟨g, 0, none⟩) cap1 k l draw _ hkl HC.out (by omega) HL.out hd _ HPK.out).mono ?_
        rintro e w2 ⟨rfl, hb2⟩
        have HC2 := Lib.hid (Kd.C_below HC.out hb2)
        have HB3 := Lib.hid (HB2.out.trans (hb2.mono HB2.out.size))
        have HS := sum_any' (some ⟨g, 0, none⟩) cap1 k l w2 hkl HC2.out (by omega) HL.out
        rw [HSM.out] at HS
        have HS := Lib.hid HS
        clear hb2 HPK HSM HC HB2
        go_wp2_with (first
          | (go_at_call 14; refine (HS.out).mono ?_; rintro e w3 ⟨rfl, hb3⟩; have HB4 := Lib.hid (HB3.out.trans (hb3.mono HB3.out.size)); clear hb3)
          | (go_at_call 11; refine (awake_any _).mono ?_; rintro e w' ⟨rfl, hb⟩))
        go_ret
        exact ⟨rfl, HB4.out.trans (hb.mono HB4.out.size)⟩
end Go.Proofs.Ytakfkkpcdnphlaa
