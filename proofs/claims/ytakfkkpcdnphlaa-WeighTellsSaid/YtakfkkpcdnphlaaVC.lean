/- The document's answer: Lay and Read. -/
import Derived.Test.YtakfkkpcdnphlaaVB
import Derived.Deep.QuietTactic
import Derived.BigQuiet
namespace Go.Proofs.Ytakfkkpcdnphlaa
open Go.RowKit Go.Proofs.YtakfkkpcdnphlaaW.PrintWords
attribute [local go_sem] run_store_float

set_option maxHeartbeats 4000000 in
set_option maxRecDepth 100000 in
theorem rlay_any (A : Option Addr) (cap : Nat) (l : List Nat) (w : World) (hC : kF.C w A l.length l) (hl : l.length ≤ 100) (hw : ∀ x ∈ l, x < 2 * sgn) : Calls Try.prog 27 #[.slice A l.length cap] w (LayP w (layF l l.length)) := by
  have HC := Lib.hid hC
  have HW := Lib.hid hw
  clear hC hw
  go_enter Try.func27, Try.ntmps27
  go_wp2_with fail
  go_loopw [3, 4] (fun v i wr => ∃ k : Nat, k ≤ l.length ∧ i = .int .i64 k ∧ (Kd.int .u8).R 5 wr w.heap.size (fun k => w.heap.size ≤ k) v (layF l k) ∧ Below w.heap.size w wr) (fun _ i _ => l.length - (intOf i).toNat)
  case atStart => exact ⟨0, Nat.zero_le _, rfl, Kd.R_nil _ _ _ _ _, Below.refl _ _⟩
  case round =>
    obtain ⟨k, hk, rfl, hr, hb⟩ := hrel
    have HR := Lib.hid hr
    have HB := Lib.hid hb
    have hlf := layF_len l k
    clear hr hb
    by_cases hlt : k < l.length
    · obtain ⟨ad, rfl, hx⟩ := float_at HC.out k hlt
      have hcell := (HB.out.cell (block_lt_of_cell hx)).trans hx
      have hx2 : l.getD k 0 < 2 * sgn := HW.out _ (getD_mem_ l k hlt)
      have HE := Lib.hid (show layF l (k + 1) = layF l k ++ oc (lay1 (l.getD k 0)) 8 from rfl)
      have hnan : (FloatKind.f64.format.order (l.getD k 0) (l.getD k 0) != some .eq) = nanq (l.getD k 0) := by rw [ord_eq]; exact order_nanq _ hx2
      have HEX := ext19 (l.getD k 0)
      have HLF := Lib.hid hlf
      have HLT := Lib.hid (lay1_lt hx2)
      have hq := (order_self (l.getD k 0) hx2).imp (fun h => h) (fun h => h.1)
      rw [← ord_eq] at hq
      have HL1 : Hid ((FloatKind.f64.format.order (l.getD k 0) (l.getD k 0) = some .eq → lay1 (l.getD k 0) = l.getD k 0) ∧ (FloatKind.f64.format.order (l.getD k 0) (l.getD k 0) = none → lay1 (l.getD k 0) = 9221120237041090561)) := Lib.hid (by
        unfold lay1
        rw [← hnan]
        exact ⟨fun h => by rw [h]; rfl, fun h => by rw [h]; rfl⟩)
      have hki : (k : Int) < (l.length : Int) := by omega
      have hkz : (0 : Int) ≤ (k : Int) := by omega
      clear hx hx2 hlf hnan
      generalize layF l k = bs at *
      generalize lay1 (l.getD k 0) = y at *
      generalize l.getD k 0 = x at *
      rcases hq with hq | hq
      · obtain rfl : y = x := HL1.out.1 hq
        have HXY := Lib.hid True.intro
        clear HL1
        skip
        go_wp2_with fail
        go_quiet (fail)
        have HR1 := Lib.hid (Kd.R_below HR.out (pw_below_drewN (Below.refl _ wr) nq))
        have HB1 := Lib.hid (pw_below_drewN HB.out nq)
        clear HR HB HEX hcell
        generalize wr.drewN nq = wq at *
        have hylt : (y : Int) ≤ 18446744073709551615 := by have := HLT.out; omega
        go_wp2_with fail
        first | rw [show ((none : Option Ordering) != some Ordering.eq) = true from rfl] | rw [show ((some Ordering.eq : Option Ordering) != some Ordering.eq) = false from rfl] | skip
        go_loopw [3, 5, 6] (fun v n i wr => ∃ j : Nat, j ≤ 8 ∧ i = .int .i64 j ∧ n = .int .u64 ((y / 2 ^ (8 * j) : Nat) : Int) ∧ (Kd.int .u8).R 5 wr w.heap.size (fun k => w.heap.size ≤ k) v (bs ++ oc y j) ∧ Below w.heap.size w wr) (fun _ _ i _ => 8 - (intOf i).toNat)
        case atStart => exact ⟨0, Nat.zero_le _, rfl, by first | (rw [HXY.out]; simp; done) | (simp; done), by show (Kd.int .u8).R _ _ _ _ _ (bs ++ []); rw [List.append_nil]; exact HR1.out, HB1.out⟩
        case round =>
          obtain ⟨j, hj, rfl, rfl, hr, hb⟩ := hrel
          have HR2 := Lib.hid hr
          have HB2 := Lib.hid hb
          clear hr hb HR1 HB1 HXY
          by_cases hjlt : j < 8
          · have hqy : y / 2 ^ (8 * j) ≤ y := Nat.div_le_self _ _
            have HQN : Hid (((y / 2 ^ (8 * (j + 1)) : Nat) : Int) = ((y / 2 ^ (8 * j) : Nat) : Int) / 256) := Lib.hid (by
              rw [show 8 * (j + 1) = 8 * j + 8 from rfl, Nat.pow_add, ← Nat.div_div_eq_div_mul]
              exact Int.natCast_ediv _ _)
            have HO := Lib.hid (show (bs ++ oc y j) ++ [((y / 2 ^ (8 * j) : Nat) : Int) % 256] = bs ++ oc y (j + 1) by
              have e : oc y (j + 1) = oc y j ++ [((y / 2 ^ (8 * j) % 256 : Nat) : Int)] := rfl
              rw [e, List.append_assoc]
              rfl)
            have HOL := Lib.hid (show (bs ++ oc y j).length ≤ 1000 by have := HLF.out; rw [List.length_append, oc_len]; omega)
            generalize y / 2 ^ (8 * j) = q at *
            have hq1 : (q : Int) ≤ 18446744073709551615 := by omega
            go_wp2_with (at_builtin; refine Kd.R_append (Kd.int .u8) (w0 := w) w.heap.size rfl (.tmp 31) (.tmp 35) 41 5 (.int .u8 0) 1 rfl Try.underlying41 info5 rfl (by decide) (by omega) _ (bs ++ oc y j) ((q : Int) % 256) [.int .u8 ((q : Int) % 256)] (fun k => w.heap.size ≤ k) (fun _ => False) rfl rfl rfl (fun _ hk => hk.elim) (fun k hk => Nat.le_trans HB2.out.size hk) HR2.out HB2.out HB2.out.size (by have := HOL.out; omega) ?_; intro v1 w1 hr2 hb2 hg2 ho2; have HR4 := Lib.hid hr2; have HB4 := Lib.hid hb2; clear hr2 hb2 hg2 ho2)
            go_roundw
            case rel => exact ⟨j + 1, by omega, by go_num, by rw [HQN.out], by rw [← HO.out]; exact HR4.out, HB4.out⟩
            case measure => simp [intOf]; omega
          · obtain rfl : j = 8 := by omega
            go_wp2_with fail
            go_roundw
            case rel => exact ⟨k + 1, by omega, by go_num, by rw [HE.out]; exact HR2.out, HB2.out⟩
            case measure => simp [intOf]; omega
      · have HXY := Lib.hid (HL1.out.2 hq)
        clear HL1
        skip
        go_wp2_with fail
        go_quiet (fail)
        have HR1 := Lib.hid (Kd.R_below HR.out (pw_below_drewN (Below.refl _ wr) nq))
        have HB1 := Lib.hid (pw_below_drewN HB.out nq)
        clear HR HB HEX hcell
        generalize wr.drewN nq = wq at *
        have hylt : (y : Int) ≤ 18446744073709551615 := by have := HLT.out; omega
        go_wp2_with fail
        first | rw [show ((none : Option Ordering) != some Ordering.eq) = true from rfl] | rw [show ((some Ordering.eq : Option Ordering) != some Ordering.eq) = false from rfl] | skip
        go_loopw [3, 5, 6] (fun v n i wr => ∃ j : Nat, j ≤ 8 ∧ i = .int .i64 j ∧ n = .int .u64 ((y / 2 ^ (8 * j) : Nat) : Int) ∧ (Kd.int .u8).R 5 wr w.heap.size (fun k => w.heap.size ≤ k) v (bs ++ oc y j) ∧ Below w.heap.size w wr) (fun _ _ i _ => 8 - (intOf i).toNat)
        case atStart => exact ⟨0, Nat.zero_le _, rfl, by first | (rw [HXY.out]; simp; done) | (simp; done), by show (Kd.int .u8).R _ _ _ _ _ (bs ++ []); rw [List.append_nil]; exact HR1.out, HB1.out⟩
        case round =>
          obtain ⟨j, hj, rfl, rfl, hr, hb⟩ := hrel
          have HR2 := Lib.hid hr
          have HB2 := Lib.hid hb
          clear hr hb HR1 HB1 HXY
          by_cases hjlt : j < 8
          · have hqy : y / 2 ^ (8 * j) ≤ y := Nat.div_le_self _ _
            have HQN : Hid (((y / 2 ^ (8 * (j + 1)) : Nat) : Int) = ((y / 2 ^ (8 * j) : Nat) : Int) / 256) := Lib.hid (by
              rw [show 8 * (j + 1) = 8 * j + 8 from rfl, Nat.pow_add, ← Nat.div_div_eq_div_mul]
              exact Int.natCast_ediv _ _)
            have HO := Lib.hid (show (bs ++ oc y j) ++ [((y / 2 ^ (8 * j) : Nat) : Int) % 256] = bs ++ oc y (j + 1) by
              have e : oc y (j + 1) = oc y j ++ [((y / 2 ^ (8 * j) % 256 : Nat) : Int)] := rfl
              rw [e, List.append_assoc]
              rfl)
            have HOL := Lib.hid (show (bs ++ oc y j).length ≤ 1000 by have := HLF.out; rw [List.length_append, oc_len]; omega)
            generalize y / 2 ^ (8 * j) = q at *
            have hq1 : (q : Int) ≤ 18446744073709551615 := by omega
            go_wp2_with (at_builtin; refine Kd.R_append (Kd.int .u8) (w0 := w) w.heap.size rfl (.tmp 31) (.tmp 35) 41 5 (.int .u8 0) 1 rfl Try.underlying41 info5 rfl (by decide) (by omega) _ (bs ++ oc y j) ((q : Int) % 256) [.int .u8 ((q : Int) % 256)] (fun k => w.heap.size ≤ k) (fun _ => False) rfl rfl rfl (fun _ hk => hk.elim) (fun k hk => Nat.le_trans HB2.out.size hk) HR2.out HB2.out HB2.out.size (by have := HOL.out; omega) ?_; intro v1 w1 hr2 hb2 hg2 ho2; have HR4 := Lib.hid hr2; have HB4 := Lib.hid hb2; clear hr2 hb2 hg2 ho2)
            go_roundw
            case rel => exact ⟨j + 1, by omega, by go_num, by rw [HQN.out], by rw [← HO.out]; exact HR4.out, HB4.out⟩
            case measure => simp [intOf]; omega
          · obtain rfl : j = 8 := by omega
            go_wp2_with fail
            go_roundw
            case rel => exact ⟨k + 1, by omega, by go_num, by rw [HE.out]; exact HR2.out, HB2.out⟩
            case measure => simp [intOf]; omega
    · obtain rfl : k = l.length := by omega
      obtain ⟨A1, c1, rfl, hc1, hC1⟩ := Kd.R_reads HR.out
      have HC1 := Lib.hid hC1
      clear hC1 HR
      go_wp2_with fail
      go_ret
      exact ⟨A1, c1, rfl, hc1, HC1.out, HB.out⟩

theorem horner {bs : List Int} (h : Oct bs) (o j : Nat) (hj : j < 8) : ((pv bs o 8 / 2 ^ (8 * j) : Nat) : Int) = 256 * ((pv bs o 8 / 2 ^ (8 * (j + 1)) : Nat) : Int) + bs.getD (o + j) 0 := by
  have h1 := pv_digit h o 8 j hj
  have h2 := (h.at (o + j)).1
  rw [show 8 * (j + 1) = 8 * j + 8 from rfl, Nat.pow_add, ← Nat.div_div_eq_div_mul]
  show _ = 256 * ((pv bs o 8 / 2 ^ (8 * j) / 256 : Nat) : Int) + _
  generalize pv bs o 8 / 2 ^ (8 * j) = q at *
  omega

def ReadQ (w : World) (l : List Nat) (ok : Bool) (e : Ending) (w' : World) : Prop := ∃ A c, e = .returned (.tuple #[.slice A l.length c, .bool ok]) ∧ l.length ≤ c ∧ kF.C w' A l.length l ∧ Below w.heap.size w w'

set_option maxHeartbeats 4000000 in
set_option maxRecDepth 100000 in
theorem rread_odd (A : Option Addr) (cap n : Nat) (w : World) (hl : n ≤ 1000) (h8 : n % 8 ≠ 0) : Calls Try.prog 23 #[.slice A n cap] w (ReadQ w [] false) := by
  have hne : ((n : Int) % 8 == 0) = false := by simp only [beq_eq_false_iff_ne]; omega
  have hne2 : ((n : Int) % 8 != 0) = true := by simp only [bne_iff_ne]; omega
  go_enter Try.func23, Try.ntmps23
  go_wp2_with fail
  go_ret2
  exact ⟨none, 0, rfl, Nat.le_refl _, Kd.C_nil _ _, Below.refl _ _⟩

set_option maxHeartbeats 4000000 in
set_option maxRecDepth 100000 in
theorem rread_even (A : Option Addr) (cap m : Nat) (bs : List Int) (w : World) (hn : bs.length = 8 * m) (hC : (Kd.int .u8).C w A bs.length bs) (hl : bs.length ≤ 1000) (ho : Oct bs) : Calls Try.prog 23 #[.slice A bs.length cap] w (ReadQ w (readF bs) true) := by
  have HC := Lib.hid hC
  have HO := Lib.hid ho
  have HN := Lib.hid hn
  have HRL : Hid ((readF bs).length = m) := Lib.hid (by rw [readF_len, hn]; omega)
  have HRT : Hid (∀ k, k < m → (readF bs).take (k + 1) = (readF bs).take k ++ [pv bs (8 * k) 8]) := Lib.hid (fun k hk => by
    have hk2 : k < (readF bs).length := by rw [HRL.out]; exact hk
    have hg := readF_get (bs := bs) (k := k) (by omega)
    rw [List.take_succ_eq_append_getElem hk2]
    rw [List.getD_eq_getElem?_getD, List.getElem?_eq_getElem hk2] at hg
    exact congrArg (fun x => (readF bs).take k ++ [x]) hg)
  clear hC ho
  have hne : ((8 * (m : Int)) % 8 == 0) = true := by simp only [beq_iff_eq]; omega
  have hne2 : ((8 * (m : Int)) % 8 != 0) = false := by simp
  rw [hn] at hl ⊢
  clear hn
  go_enter Try.func23, Try.ntmps23
  go_wp2_with fail
  go_loopw [4, 5] (fun v i wr => ∃ k : Nat, k ≤ m ∧ i = .int .i64 (8 * (k : Int)) ∧ kF.R 28 wr w.heap.size (fun k => w.heap.size ≤ k) v ((readF bs).take k) ∧ Below w.heap.size w wr) (fun _ i _ => 8 * m - (intOf i).toNat)
  case atStart => exact ⟨0, Nat.zero_le _, rfl, Kd.R_nil _ _ _ _ _, Below.refl _ _⟩
  case round =>
    obtain ⟨k, hk, rfl, hr, hb⟩ := hrel
    have HR := Lib.hid hr
    have HB := Lib.hid hb
    clear hr hb
    by_cases hlt : k < m
    · have HRK := Lib.hid (HRT.out k hlt)
      go_wp2_with fail
      go_loop [6, 7] (fun n i => ∃ j : Nat, j ≤ 8 ∧ i = .int .i64 ((j : Int) - 1) ∧ n = .int .u64 ((pv bs (8 * k) 8 / 2 ^ (8 * j) : Nat) : Int)) (fun _ i => (intOf i + 1).toNat)
      case atStart => exact ⟨8, Nat.le_refl _, rfl, by rw [Nat.div_eq_of_lt (pv_lt HO.out (8 * k) 8)]; rfl⟩
      case round =>
        obtain ⟨j, hj, rfl, rfl⟩ := hrel
        rcases j with _ | j
        · have h29 := ext29 (pv bs (8 * k) 8)
          have HP0 := Lib.hid (show pv bs (8 * k) 8 / 2 ^ (8 * 0) = pv bs (8 * k) 8 by simp)
          rw [HP0.out]
          clear HP0
          have HTL := Lib.hid (show ((readF bs).take k).length ≤ 1000 by rw [List.length_take, HRL.out]; omega)
          generalize pv bs (8 * k) 8 = y at *
          generalize (readF bs).take k = t at *
          go_wp2_with (at_builtin; refine Kd.R_append kF (w0 := w) w.heap.size rfl (.tmp 32) (.tmp 35) 22 28 (.float .f64 0) 8 rfl Try.underlying22 info28 rfl (by decide) (by omega) _ t y [.float .f64 y] (fun k => w.heap.size ≤ k) (fun _ => False) rfl rfl rfl (fun _ hk => hk.elim) (fun k hk => Nat.le_trans HB.out.size hk) HR.out HB.out HB.out.size (by have := HTL.out; omega) ?_; intro v1 w1 hr2 hb2 hg2 ho2; have HR4 := Lib.hid hr2; have HB4 := Lib.hid hb2; clear hr2 hb2 hg2 ho2)
          go_roundw
          case rel => exact ⟨k + 1, by omega, by go_num, by rw [HRK.out]; exact HR4.out, HB4.out⟩
          case measure => simp [intOf]; omega
        · obtain ⟨ad, hA, hx⟩ := u8_at (Kd.C_below HC.out HB.out) (8 * k + j) (by rw [HN.out]; omega)
          subst hA
          have hhorn := horner HO.out (8 * k) j (by omega)
          have hle : pv bs (8 * k) 8 / 2 ^ (8 * j) ≤ pv bs (8 * k) 8 := Nat.div_le_self _ _
          have hlt64 : pv bs (8 * k) 8 < 2 ^ (8 * 8) := pv_lt HO.out (8 * k) 8
          obtain ⟨hc0, hc1⟩ := HO.out.at (8 * k + j)
          have hq0 : (256 : Int) * ((pv bs (8 * k) 8 / 2 ^ (8 * (j + 1)) : Nat) : Int) + bs.getD (8 * k + j) 0 ≤ 18446744073709551615 := by rw [← hhorn]; omega
          have HH := Lib.hid hhorn
          clear hhorn hle hlt64
          have ej : (((j + 1 : Nat) : Int) - 1) = (j : Int) := by omega
          rw [ej]
          clear ej
          have eA : (8 * (k : Int) + (j : Int)).toNat = 8 * k + j := by omega
          have eB : 8 * (k : Int) + (j : Int) < 8 * (m : Int) := by omega
          generalize pv bs (8 * k) 8 / 2 ^ (8 * (j + 1)) = q at *
          generalize bs.getD (8 * k + j) 0 = c at *
          go_wp2_with fail
          go_round
          case rel => exact ⟨j, by omega, by go_num, by rw [HH.out]⟩
          case measure => simp [intOf]
    · obtain rfl : k = m := by omega
      have e : (readF bs).take k = readF bs := List.take_of_length_le (by rw [HRL.out]; omega)
      rw [e] at HR
      clear e
      obtain ⟨A1, c1, rfl, hc1, hC1⟩ := Kd.R_reads HR.out
      have HC1 := Lib.hid hC1
      clear hC1 HR
      go_wp2_with fail
      go_ret2
      exact ⟨A1, c1, rfl, hc1, HC1.out, HB.out⟩

theorem rread_any (A : Option Addr) (cap : Nat) (bs : List Int) (w : World) (hC : (Kd.int .u8).C w A bs.length bs) (hl : bs.length ≤ 1000) (ho : Oct bs) (l : List Nat) (ok : Bool) (h : (bs.length % 8 = 0 ∧ l = readF bs ∧ ok = true) ∨ (bs.length % 8 ≠ 0 ∧ l = [] ∧ ok = false)) : Calls Try.prog 23 #[.slice A bs.length cap] w (ReadQ w l ok) := by
  rcases h with ⟨h, rfl, rfl⟩ | ⟨h, rfl, rfl⟩
  · exact rread_even A cap (bs.length / 8) bs w (by omega) hC hl ho
  · exact rread_odd A cap bs.length w hl h
end Go.Proofs.Ytakfkkpcdnphlaa
