/- The law WeighEndless. -/
import Derived.Test.YtakfkkpcdnphlaaWE
namespace Go.Proofs.Ytakfkkpcdnphlaa
open Go.RowKit Go.Proofs.YtakfkkpcdnphlaaW.PrintWords
attribute [local go_sem] run_store_float

theorem cnt_inf (x : Nat) : cnt x = inf ↔ x = inf := by
  unfold cnt
  split
  · exact Iff.rfl
  · rw [inf_def] at *; omega
theorem ends_cnt (l : List Nat) : ∀ k, ends (l.map cnt) k = ends l k := by
  intro k
  induction k with
  | zero => rfl
  | succ k ih =>
    have h1 : ends (l.map cnt) (k + 1) = if (l.map cnt).getD k 0 = inf then ends (l.map cnt) k ++ [(k : Int)] else ends (l.map cnt) k := rfl
    have h2 : ends l (k + 1) = if l.getD k 0 = inf then ends l k ++ [(k : Int)] else ends l k := rfl
    rw [h1, h2, ih, getD_map cnt cnt_zero]
    by_cases h : l.getD k 0 = inf
    · rw [if_pos h, if_pos ((cnt_inf _).2 h)]
    · rw [if_neg h, if_neg (fun h2 => h ((cnt_inf _).1 h2))]
theorem le_max (l : List Nat) : ∀ s, s ≤ l.foldl max s ∧ ∀ x ∈ l, x ≤ l.foldl max s := by
  induction l with
  | nil => intro s; exact ⟨Nat.le_refl _, by simp⟩
  | cons y l ih =>
    intro s
    obtain ⟨a, b⟩ := ih (max s y)
    refine ⟨Nat.le_trans (Nat.le_max_left _ _) a, ?_⟩
    intro x hx
    rcases List.mem_cons.1 hx with rfl | hx
    · exact Nat.le_trans (Nat.le_max_right _ _) a
    · exact b x hx
theorem foldl_inf (l : List Nat) : ∀ s, (s = inf ∨ inf ∈ l) → l.foldl fadd s = inf := by
  induction l with
  | nil => intro s h; rcases h with h | h; exact h; cases h
  | cons y l ih =>
    intro s h
    refine ih _ ?_
    rcases h with h | h
    · left; unfold fadd; rw [if_pos (.inl h)]
    · rcases List.mem_cons.1 h with h | h
      · left; unfold fadd; rw [if_pos (.inr h.symm)]
      · exact .inr h
theorem pick_ends (l : List Nat) (draw : Nat) (h : 0 < (ends l l.length).length) (hl : l.length ≤ 64) : pickF l draw = ((ends l l.length).getD (draw % (ends l l.length).length) 0, 0) ∧ sumC (l.map cnt) = inf := by
  have hmem : (ends l l.length).getD 0 0 ∈ ends l l.length := by
    rw [List.getD_eq_getElem?_getD, List.getElem?_eq_getElem h]
    exact List.getElem_mem _
  obtain ⟨j, hj, _, hi⟩ := ends_mem _ hmem
  have hin : inf ∈ l.map cnt := by
    have := getD_mem_ (l.map cnt) j (by simpa using hj)
    rwa [getD_map cnt cnt_zero, hi, cnt_of_le (Nat.le_refl _)] at this
  refine ⟨?_, foldl_inf _ _ (.inr hin)⟩
  unfold pickF
  rw [if_neg (by omega), if_neg, ends_cnt, if_pos h]
  intro h0
  have := (le_max (l.map cnt) 0).2 _ hin
  have h1 : (l.map cnt).foldl max 0 = 0 := h0
  rw [h1, inf_def] at this
  omega
theorem ends_get (l : List Nat) (i : Nat) (h : i < (ends l l.length).length) : ∃ j : Nat, (ends l l.length).getD i 0 = (j : Int) ∧ j < l.length ∧ l.getD j 0 = inf := by
  have hmem : (ends l l.length).getD i 0 ∈ ends l l.length := by
    rw [List.getD_eq_getElem?_getD, List.getElem?_eq_getElem h]
    exact List.getElem_mem _
  obtain ⟨j, hj, he, hi⟩ := ends_mem _ hmem
  exact ⟨j, he, hj, hi⟩

set_option maxRecDepth 100000 in
theorem endless_law (A : Option Addr) (cap : Nat) (l0 : List Nat) (draw : Nat) (w : World) (hC0 : kF.C w A l0.length l0) (hcap : l0.length ≤ cap) (hl : l0.length ≤ 9223372036854775807) (hw0 : ∀ x ∈ l0, x < 2 * sgn) (hd : draw < 2 ^ 64) :
    Calls Try.prog 3 #[.slice A l0.length cap, .int .u64 draw] w (AwakeP w) := by
  have HC := Lib.hid (take_C hC0 70)
  have HW := Lib.hid (take_lt hw0 70)
  have HN := Lib.hid (show (l0.take 70).length ≤ 70 by simp; omega)
  have HF := Lib.hid (few_any A cap l0 w hcap hl)
  clear hC0 hw0 hcap hl
  generalize l0.length = n0 at *
  generalize l0.take 70 = l at *
  go_enter Try.func3, Try.ntmps3
  go_wp2_with fail
  refine (HF.out).mono ?_
  rintro e w1 ⟨rfl, rfl⟩
  clear HF
  have hn := HN.out
  by_cases h64 : 64 < l.length
  · go_wp2_with (go_at_call 11; refine (awake_any _).mono ?_; rintro e w' ⟨rfl, hb⟩)
    go_ret
    exact ⟨rfl, hb⟩
  go_wp2_with fail
  go_loopw [5, 6] (fun v i wr => ∃ k : Nat, k ≤ l.length ∧ i = .int .i64 k ∧ (Kd.int .i64).R 3 wr w.heap.size (fun k => w.heap.size ≤ k) v (ends l k) ∧ Below w.heap.size w wr) (fun _ i _ => l.length - (intOf i).toNat)
  case atStart => exact ⟨0, Nat.zero_le _, rfl, Kd.R_nil _ _ _ _ _, Below.refl _ _⟩
  case round =>
    obtain ⟨k, hk, rfl, hr, hb⟩ := hrel
    have HR := Lib.hid hr
    have HB := Lib.hid hb
    clear hr hb
    by_cases hlt : k < l.length
    · obtain ⟨ad, rfl, hx⟩ := float_at HC.out k hlt
      have hcell := (HB.out.cell (block_lt_of_cell hx)).trans hx
      have hx2 : l.getD k 0 < 2 * sgn := HW.out _ (getD_mem_ l k hlt)
      have HX := Lib.hid hx2
      have hel := ends_len l k
      clear hx hx2
      by_cases hi : l.getD k 0 = inf
      · have hd : decide (l.getD k 0 = inf) = true := decide_eq_true hi
        have he : ends l (k + 1) = ends l k ++ [(k : Int)] := by show (if _ then _ else _) = _; rw [if_pos hi]
        have HE := Lib.hid he
        have HD := Lib.hid hd
        clear he hi hd
        generalize l.getD k 0 = x at *
        go_wp2_with (first
          | (go_at_call 12; refine (isinf_is x HX.out _).mono ?_; rw [HD.out]; rintro e w' ⟨rfl, rfl⟩)
          | (at_builtin; refine Kd.R_append (Kd.int .i64) (w0 := w) w.heap.size rfl (.tmp 29) (.tmp 31) 26 3 (.int .i64 0) 8 rfl Try.underlying26 info3 rfl (by decide) (by omega) _ (ends l k) (k : Int) [.int .i64 k] (fun k => w.heap.size ≤ k) (fun _ => False) rfl rfl rfl (fun _ hk => hk.elim) (fun k hk => Nat.le_trans HB.out.size hk) HR.out HB.out HB.out.size (by omega) ?_; intro v1 w1 hr2 hb2 hg2 ho2; have HR2 := Lib.hid hr2; have HB2 := Lib.hid hb2; clear hr2 hb2 hg2 ho2))
        go_roundw
        case rel => exact ⟨k + 1, by omega, by go_num, by rw [HE.out]; exact HR2.out, HB2.out⟩
        case measure => simp [intOf]; omega
      · have hd : decide (l.getD k 0 = inf) = false := decide_eq_false hi
        have he : ends l (k + 1) = ends l k := by show (if _ then _ else _) = _; rw [if_neg hi]
        have HE := Lib.hid he
        have HD := Lib.hid hd
        clear he hi hd
        generalize l.getD k 0 = x at *
        go_wp2_with (go_at_call 12; refine (isinf_is x HX.out _).mono ?_; rw [HD.out]; rintro e w' ⟨rfl, rfl⟩)
        go_roundw
        case rel => exact ⟨k + 1, by omega, by go_num, by rw [HE.out]; exact HR.out, HB.out⟩
        case measure => simp [intOf]; omega
    · obtain rfl : k = l.length := by omega
      obtain ⟨A1, c1, rfl, _, hC1⟩ := Kd.R_reads HR.out
      have HC1 := Lib.hid hC1
      have HCl := Lib.hid (Kd.C_below HC.out HB.out)
      have HG := Lib.hid (fun i h => ends_get l i h)
      have HP := Lib.hid (fun d h => pick_ends l d h (by omega))
      have HPA := Lib.hid (fun d hd w hC => pick_any A cap l d w hC (by omega) HW.out hd)
      have HS := Lib.hid (fun c w hC => sum_any A c l w hC (by omega) HW.out)
      have hel := ends_len l l.length
      clear hC1 HR
      generalize ht : ends l l.length = t at *
      clear ht
      by_cases h0 : t.length = 0
      · have hz : ((t.length : Int) == 0) = true := by simp [h0]
        go_wp2_with (go_at_call 11; refine (awake_any _).mono ?_; rintro e w' ⟨rfl, hb⟩)
        go_ret
        exact ⟨rfl, HB.out.trans (hb.mono HB.out.size)⟩
      · have hz : ((t.length : Int) == 0) = false := by simp only [beq_eq_false_iff_ne]; omega
        have htp : 0 < t.length := by omega
        obtain ⟨hp1, hsum⟩ := HP.out draw htp
        obtain ⟨j, hj, hjl, hji⟩ := HG.out (draw % t.length) (Nat.mod_lt _ htp)
        rw [hj] at hp1
        obtain ⟨ad, rfl, hx⟩ := float_at HCl.out j hjl
        rw [hji] at hx
        have HPP := HPA.out draw hd _ HCl.out
        rw [hp1] at HPP
        have HPP := Lib.hid HPP
        have HSUM := Lib.hid hsum
        have HX := Lib.hid hx
        clear hp1 hj hji hsum hx
        go_wp2_with fail
        refine (HPP.out).mono ?_
        rintro e w2 ⟨rfl, hb2⟩
        have hx2 := pw_cell_below hb2 HX.out
        have HC2 := Lib.hid (Kd.C_below HCl.out hb2)
        have HT2 := Lib.hid (Kd.C_below HC1.out hb2)
        have HB2 := Lib.hid (HB.out.trans (hb2.mono HB.out.size))
        have HINF : Hid (∀ w, Calls Try.prog 12 #[.float .f64 inf, .int .i64 1] w fun e w' => e = .returned (.bool true) ∧ w = w') := Lib.hid (fun w => by
          have := isinf_is inf inf_lt2 w
          rwa [decide_eq_true rfl] at this)
        have HS2 := HS.out cap _ HC2.out
        rw [HSUM.out] at HS2
        have HS2 := Lib.hid HS2
        clear hb2 HPP HX HC1 HB HSUM HS HW HC
        have hge4 : decide (l.length ≤ j) = false := decide_eq_false (by omega)
        go_wp2_with (first
          | (go_at_call 12; refine (HINF.out _).mono ?_; rintro e w' ⟨rfl, rfl⟩)
          | (go_at_call 14; refine (HS2.out).mono ?_; rintro e w3 ⟨rfl, hb3⟩; have HB3 := Lib.hid (HB2.out.trans (hb3.mono HB2.out.size)); have HC3 := Lib.hid (Kd.C_below HC2.out hb3); have HT3 := Lib.hid (Kd.C_below HT2.out hb3); clear hb3 HS2))
        go_loopw [9] (fun i wr => ∃ k : Nat, k ≤ t.length ∧ i = .int .i64 k ∧ Below w.heap.size w wr ∧ kF.C wr (some ad) l.length l ∧ (Kd.int .i64).C wr A1 t.length t) (fun i _ => t.length - (intOf i).toNat)
        case atStart => exact ⟨0, Nat.zero_le _, rfl, HB3.out, HC3.out, HT3.out⟩
        case round =>
          obtain ⟨k, hk, rfl, hb, hC, hT⟩ := hrel
          have HB4 := Lib.hid hb
          have HC4 := Lib.hid hC
          have HT4 := Lib.hid hT
          clear hb hC hT HB3 HC3 HT3 HB2 HC2 HT2
          by_cases hlt : k < t.length
          · obtain ⟨hp1, _⟩ := HP.out k htp
            rw [Nat.mod_eq_of_lt hlt] at hp1
            have HPP := HPA.out k (by omega) _ HC4.out
            rw [hp1] at HPP
            have HPP := Lib.hid HPP
            obtain ⟨ad1, rfl, hx⟩ := int_at HT4.out k hlt
            have HX := Lib.hid hx
            have hcv : IntKind.u64.wrap (k : Int) = (k : Int) := by simp [IntKind.wrap, IntKind.signed, IntKind.bits]; omega
            clear hp1 hx
            generalize t.getD k 0 = x at *
            go_wp2_with fail
            refine (HPP.out).mono ?_
            rintro e w2 ⟨rfl, hb2⟩
            have hx2 := pw_cell_below hb2 HX.out
            have HB5 := Lib.hid (HB4.out.trans (hb2.mono HB4.out.size))
            have HC5 := Lib.hid (Kd.C_below HC4.out hb2)
            have HT5 := Lib.hid (Kd.C_below HT4.out hb2)
            clear hb2 HPP
            go_wp2_with fail
            go_roundw
            case rel => exact ⟨k + 1, by omega, by go_num, HB5.out, HC5.out, HT5.out⟩
            case measure => simp [intOf]; omega
          · obtain rfl : k = t.length := by omega
            go_wp2_with (go_at_call 11; refine (awake_any _).mono ?_; rintro e w' ⟨rfl, hb⟩)
            go_ret
            exact ⟨rfl, HB4.out.trans (hb.mono HB4.out.size)⟩
end Go.Proofs.Ytakfkkpcdnphlaa
