/- The contracts of Sum, endless, Max, few. -/
import Derived.Test.YtakfkkpcdnphlaaWA
namespace Go.Proofs.Ytakfkkpcdnphlaa
open Go.RowKit Go.Proofs.YtakfkkpcdnphlaaW.PrintWords
attribute [local go_sem] run_store_float

theorem run_fadd {x y : Nat} (hx : x ≤ inf) (hy : y ≤ inf) : ∀ w, (binOp .add 28 (.float .f64 x) (.float .f64 y)).run Try.prog w = .ok (.float .f64 (fadd x y)) w :=
  fun w => run_float_arith w .add 28 .f64 x y _ (add_nn hx hy)

/-- The sum of words that count. -/
def sumC (l : List Nat) : Nat := l.foldl fadd 0
theorem foldl_le (l : List Nat) : ∀ s, s ≤ inf → l.foldl fadd s ≤ inf := by
  induction l with
  | nil => intro s h; exact h
  | cons x l ih => intro s _; exact ih _ (fadd_le_inf _ _)
theorem sumC_le (l : List Nat) : sumC l ≤ inf := foldl_le l 0 (Nat.zero_le _)
theorem sumC_snoc (l : List Nat) (k : Nat) (h : k < l.length) : sumC (l.take (k + 1)) = fadd (sumC (l.take k)) (l.getD k 0) := by
  unfold sumC
  rw [List.take_succ_eq_append_getElem h, List.foldl_append]
  simp [List.getD_eq_getElem?_getD, List.getElem?_eq_getElem h]

def SumP (w : World) (r : Nat) (e : Ending) (w' : World) : Prop := e = .returned (.float .f64 r) ∧ Below w.heap.size w w'

theorem map_cnt_mem {l : List Nat} {x : Nat} (h : x ∈ l.map cnt) : x ≤ inf := by
  obtain ⟨y, _, rfl⟩ := List.mem_map.1 h
  exact cnt_le y
theorem getD_mem_ (l : List Nat) (k : Nat) (h : k < l.length) : l.getD k 0 ∈ l := by
  rw [List.getD_eq_getElem?_getD, List.getElem?_eq_getElem h]
  exact List.getElem_mem _

set_option maxRecDepth 100000 in
theorem sum_any (A : Option Addr) (cap : Nat) (l : List Nat) (w : World) (hC : kF.C w A l.length l) (hl : l.length ≤ 100) (hw : ∀ x ∈ l, x < 2 * sgn) : Calls Try.prog 14 #[.slice A l.length cap] w (SumP w (sumC (l.map cnt))) := by
  have HC := Lib.hid hC
  have HW := Lib.hid hw
  clear hC hw
  go_enter Try.func14, Try.ntmps14
  go_wp2_with fail
  refine (counts_any A cap l w HC.out hl HW.out).mono ?_
  rintro e w1 ⟨v, rfl, hr, hb, _⟩
  obtain ⟨A1, c1, rfl, _, hC1⟩ := Kd.R_reads hr
  have hlen : (l.map cnt).length = l.length := List.length_map ..
  have hle : ∀ x ∈ l.map cnt, x ≤ inf := fun x hx => map_cnt_mem hx
  have HB := Lib.hid hb
  have HC1 := Lib.hid hC1
  have HL := Lib.hid hle
  have hl2 : (l.map cnt).length ≤ 100 := by omega
  clear hr hb hC1 hle hlen hl HC HW
  generalize l.map cnt = m at *
  go_wp2_with fail
  go_loop [3, 9] (fun s i => ∃ k : Nat, k ≤ m.length ∧ i = .int .i64 k ∧ s = .float .f64 (sumC (m.take k))) (fun _ i => m.length - (intOf i).toNat)
  case atStart => exact ⟨0, Nat.zero_le _, rfl, rfl⟩
  case round =>
    obtain ⟨k, hk, rfl, rfl⟩ := hrel
    by_cases hlt : k < m.length
    · obtain ⟨ad, rfl, hx⟩ := float_at HC1.out k hlt
      have hs := sumC_snoc m k hlt
      have hadd := run_fadd (sumC_le (m.take k)) (HL.out _ (getD_mem_ m k hlt))
      rw [← hs] at hadd
      clear hs
      generalize m.getD k 0 = x at *
      go_wp2_with fail
      go_round
      case rel => exact ⟨k + 1, by omega, by go_num, rfl⟩
      case measure => simp [intOf]; omega
    · obtain rfl : k = m.length := by omega
      have ht : m.take m.length = m := List.take_length
      rw [ht]
      clear ht
      go_wp2_with fail
      go_ret
      exact ⟨rfl, HB.out⟩

theorem inf_lt2 : inf < 2 * sgn := by decide +kernel
theorem lt2 {x : Nat} (h : x ≤ inf) : x < 2 * sgn := Nat.lt_of_le_of_lt h inf_lt2

/-! ### Max -/
theorem max2_float {x y : Nat} (hx : x ≤ inf) (hy : y ≤ inf) : Builtin.max2 (.float .f64 x) (.float .f64 y) = pure (.float .f64 (max x y)) := by
  unfold Builtin.max2
  have h : FloatKind.f64.format.order x y = some (compare x y) := order_nn hx hy
  simp only [h]
  rw [compare_nat]
  by_cases h1 : x < y
  · rw [if_pos h1, Nat.max_eq_right (by omega)]
  · by_cases h2 : x = y
    · subst h2
      rw [if_neg h1, if_pos rfl, Nat.max_self]
      simp
    · rw [if_neg h1, if_neg h2, Nat.max_eq_left (by omega)]

theorem run_fmax {x y : Nat} (hx : x ≤ inf) (hy : y ≤ inf) : ∀ w, (Builtin.max_ #[28, 28] 28 #[.float .f64 x, .float .f64 y]).run Try.prog w = .ok (.float .f64 (max x y)) w := by
  intro w
  have : Builtin.max_ #[28, 28] 28 #[.float .f64 x, .float .f64 y] = (Builtin.max2 (.float .f64 x) (.float .f64 y) >>= fun s => pure s) := by simp only [Builtin.max_, List.foldlM_cons, List.foldlM_nil]
  rw [this, max2_float hx hy]
  rfl

def maxC (l : List Nat) : Nat := l.foldl max 0
theorem foldl_max_le (l : List Nat) : ∀ s, s ≤ inf → (∀ x ∈ l, x ≤ inf) → l.foldl max s ≤ inf := by
  induction l with
  | nil => intro s h _; exact h
  | cons x l ih => intro s hs h; exact ih _ (Nat.max_le.2 ⟨hs, h x (by simp)⟩) (fun y hy => h y (by simp [hy]))
theorem maxC_le {l : List Nat} (h : ∀ x ∈ l, x ≤ inf) : maxC l ≤ inf := foldl_max_le l 0 (Nat.zero_le _) h
theorem maxC_snoc (l : List Nat) (k : Nat) (h : k < l.length) : maxC (l.take (k + 1)) = max (maxC (l.take k)) (l.getD k 0) := by
  unfold maxC
  rw [List.take_succ_eq_append_getElem h, List.foldl_append]
  simp [List.getD_eq_getElem?_getD, List.getElem?_eq_getElem h]

set_option maxRecDepth 100000 in
theorem max_any (A : Option Addr) (cap : Nat) (m : List Nat) (w : World) (hC : kF.C w A m.length m) (hl : m.length ≤ 100) (h0 : 0 < m.length) (hle : ∀ x ∈ m, x ≤ inf) : Calls Try.prog 32 #[.slice A m.length cap] w fun e w' => e = .returned (.float .f64 (maxC m)) ∧ w = w' := by
  obtain ⟨ad, rfl, hx0⟩ := float_at hC 0 h0
  have e0 : ad.add 0 = ad := by unfold Addr.add; rw [if_pos rfl]
  rw [e0] at hx0
  have HL := Lib.hid hle
  have HC := Lib.hid hC
  have hs0 : maxC (m.take 1) = m.getD 0 0 := by rw [maxC_snoc m 0 h0]; simp [maxC]
  have HS0 := Lib.hid hs0
  clear hle hC hs0 e0
  go_enter Try.func32, Try.ntmps32
  go_wp2_with fail
  go_loop [3, 4] (fun s i => ∃ k : Nat, 1 ≤ k ∧ k ≤ m.length ∧ i = .int .i64 k ∧ s = .float .f64 (maxC (m.take k))) (fun _ i => m.length - (intOf i).toNat)
  case atStart => exact ⟨1, Nat.le_refl _, h0, rfl, by rw [HS0.out]; simp [List.getElem?_eq_getElem h0]⟩
  case round =>
    obtain ⟨k, hk1, hk, rfl, rfl⟩ := hrel
    by_cases hlt : k < m.length
    · obtain ⟨ad2, h2, hx⟩ := float_at HC.out k hlt
      obtain rfl : ad = ad2 := Option.some.inj h2
      clear h2 hx0
      have hs := maxC_snoc m k hlt
      have hmax := run_fmax (maxC_le (l := m.take k) (fun x hx => HL.out x (List.mem_of_mem_take hx))) (HL.out _ (getD_mem_ m k hlt))
      rw [← hs] at hmax
      clear hs
      generalize m.getD k 0 = x at *
      go_wp2_with fail
      go_round
      case rel => exact ⟨k + 1, by omega, by omega, by go_num, rfl⟩
      case measure => simp [intOf]; omega
    · obtain rfl : k = m.length := by omega
      have ht : m.take m.length = m := List.take_length
      rw [ht]
      clear ht hx0
      go_wp2_with fail
      go_ret
      exact ⟨rfl, rfl⟩

/-! ### endless -/
theorem info3 : (Try.prog.info? 3).map (fun i => (i.zero, i.size, i.bytes)) = some (some (.int .i64 0), 1, 8) := by kernel_rfl

/-- The places, of the first k, of those that count infinitely. -/
def ends (l : List Nat) : Nat → List Int
  | 0 => []
  | k + 1 => if l.getD k 0 = inf then ends l k ++ [(k : Int)] else ends l k
theorem ends_len (l : List Nat) (k : Nat) : (ends l k).length ≤ k := by
  induction k with
  | zero => simp [ends]
  | succ k ih => unfold ends; split <;> first | (rw [List.length_append, List.length_singleton]; omega) | omega

def EndsP (w : World) (l : List Int) (e : Ending) (w' : World) : Prop :=
  ∃ A c, e = .returned (.slice A l.length c) ∧ (Kd.int .i64).C w' A l.length l ∧ Below w.heap.size w w'

set_option maxRecDepth 100000 in
theorem endless_any (A : Option Addr) (cap : Nat) (m : List Nat) (w : World) (hC : kF.C w A m.length m) (hl : m.length ≤ 100) (hle : ∀ x ∈ m, x ≤ inf) : Calls Try.prog 33 #[.slice A m.length cap] w (EndsP w (ends m m.length)) := by
  have HL := Lib.hid hle
  have HC := Lib.hid hC
  clear hle hC
  go_enter Try.func33, Try.ntmps33
  go_wp2_with fail
  go_loopw [3, 8] (fun v i wr => ∃ k : Nat, k ≤ m.length ∧ i = .int .i64 k ∧ (Kd.int .i64).R 3 wr w.heap.size (fun k => w.heap.size ≤ k) v (ends m k) ∧ Below w.heap.size w wr) (fun _ i _ => m.length - (intOf i).toNat)
  case atStart => exact ⟨0, Nat.zero_le _, rfl, Kd.R_nil _ _ _ _ _, Below.refl _ _⟩
  case round =>
    obtain ⟨k, hk, rfl, hr, hb⟩ := hrel
    have HR := Lib.hid hr
    have HB := Lib.hid hb
    clear hr hb
    by_cases hlt : k < m.length
    · obtain ⟨ad, rfl, hx⟩ := float_at HC.out k hlt
      have hcell := (HB.out.cell (block_lt_of_cell hx)).trans hx
      have hxi := HL.out _ (getD_mem_ m k hlt)
      have hx2 : m.getD k 0 < 2 * sgn := lt2 hxi
      have HX := Lib.hid hx2
      have hel := ends_len m k
      clear hx hx2 hxi
      by_cases hi : m.getD k 0 = inf
      · have hd : decide (m.getD k 0 = inf) = true := decide_eq_true hi
        have he : ends m (k + 1) = ends m k ++ [(k : Int)] := by show (if _ then _ else _) = _; rw [if_pos hi]
        have HE := Lib.hid he
        have HD := Lib.hid hd
        clear he hi hd
        generalize m.getD k 0 = x at *
        go_wp2_with (first
          | (go_at_call 12; refine (isinf_is x HX.out _).mono ?_; rw [HD.out]; rintro e w' ⟨rfl, rfl⟩)
          | (at_builtin; refine Kd.R_append (Kd.int .i64) (w0 := w) w.heap.size rfl (.tmp 15) (.tmp 17) 26 3 (.int .i64 0) 8 rfl Try.underlying26 info3 rfl (by decide) (by omega) _ (ends m k) (k : Int) [.int .i64 k] (fun k => w.heap.size ≤ k) (fun _ => False) rfl rfl rfl (fun _ hk => hk.elim) (fun k hk => Nat.le_trans HB.out.size hk) HR.out HB.out HB.out.size (by omega) ?_; intro v1 w1 hr2 hb2 hg2 ho2; have HR2 := Lib.hid hr2; have HB2 := Lib.hid hb2; clear hr2 hb2 hg2 ho2))
        go_roundw
        case rel => exact ⟨k + 1, by omega, by go_num, by rw [HE.out]; exact HR2.out, HB2.out⟩
        case measure => simp [intOf]; omega
      · have hd : decide (m.getD k 0 = inf) = false := decide_eq_false hi
        have he : ends m (k + 1) = ends m k := by show (if _ then _ else _) = _; rw [if_neg hi]
        have HE := Lib.hid he
        have HD := Lib.hid hd
        clear he hi hd
        generalize m.getD k 0 = x at *
        go_wp2_with (go_at_call 12; refine (isinf_is x HX.out _).mono ?_; rw [HD.out]; rintro e w' ⟨rfl, rfl⟩)
        go_roundw
        case rel => exact ⟨k + 1, by omega, by go_num, by rw [HE.out]; exact HR.out, HB.out⟩
        case measure => simp [intOf]; omega
    · obtain rfl : k = m.length := by omega
      obtain ⟨A1, c1, rfl, _, hC1⟩ := Kd.R_reads HR.out
      have HC1 := Lib.hid hC1
      clear hC1 HR
      go_wp2_with fail
      go_ret
      exact ⟨A1, c1, rfl, HC1.out, HB.out⟩

/-! ### few -/
theorem few_any (A : Option Addr) (cap : Nat) (l : List Nat) (w : World) (hcap : l.length ≤ cap) (hl : l.length ≤ 9223372036854775807) : Calls Try.prog 10 #[.slice A l.length cap] w fun e w' => e = .returned (.slice A (l.take 70).length cap) ∧ w = w' := by
  by_cases h : 70 < l.length
  · have e : (l.take 70).length = 70 := by rw [List.length_take]; omega
    rw [e]
    obtain ⟨i0, hi, _⟩ := info_parts info28
    have hcut := cut_to (P := Try.prog) 22 28 .i64 Try.underlying22 hi A l.length cap 70 (by omega) (by omega) hcap
    clear e hi
    go_enter Try.func10, Try.ntmps10
    go_wp2
    go_ret
    exact ⟨rfl, rfl⟩
  · have e : (l.take 70).length = l.length := by rw [List.length_take]; omega
    rw [e]
    clear e
    go_enter Try.func10, Try.ntmps10
    go_wp2
    go_ret
    exact ⟨rfl, rfl⟩
end Go.Proofs.Ytakfkkpcdnphlaa
