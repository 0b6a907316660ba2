/- The contract of Pick. -/
import Derived.Test.YtakfkkpcdnphlaaWB
import Derived.Test.YtakfkkpcdnphlaaF3
namespace Go.Proofs.Ytakfkkpcdnphlaa
open Go.RowKit Go.Proofs.YtakfkkpcdnphlaaW.PrintWords
attribute [local go_sem] run_store_float

theorem sum_any' (A : Option Addr) (cap n : Nat) (l : List Nat) (w : World) (hn : l.length = n) (hC : kF.C w A n l) (hl : n ≤ 100) (hw : ∀ x ∈ l, x < 2 * sgn) : Calls Try.prog 14 #[.slice A n cap] w (SumP w (sumC (l.map cnt))) := by
  subst hn
  exact sum_any A cap l w hC hl hw

theorem run_fdiv128 {x : Nat} (hx : x < inf) : ∀ w, (binOp .quo 28 (.float .f64 x) (.float .f64 4638707616191610880)).run Try.prog w = .ok (.float .f64 (down x)) w :=
  fun w => run_float_arith w .quo 28 .f64 x _ _ (div_128 hx)
theorem run_fdiv53 {x : Nat} (hx : x < inf) : ∀ w, (binOp .quo 28 (.float .f64 x) (.float .f64 4845873199050653696)).run Try.prog w = .ok (.float .f64 (part x)) w :=
  fun w => run_float_arith w .quo 28 .f64 x _ _ (div_53 hx)
theorem run_fmul {x y : Nat} (hx : x < inf) (hy : y < inf) : ∀ w, (binOp .mul 28 (.float .f64 x) (.float .f64 y)).run Try.prog w = .ok (.float .f64 (fmul x y)) w :=
  fun w => run_float_arith w .mul 28 .f64 x y _ (mul_fin hx hy)

/-- The last, of the first k, that counts. -/
def lastC (l : List Nat) : Nat → Int
  | 0 => 0
  | k + 1 => if 0 < l.getD k 0 then (k : Int) else lastC l k
/-- From place k on: the first at which the share is less than the sum so far; else the last that counts. 'n' is how many are left. -/
def scan (l : List Nat) (share : Nat) : Nat → Nat → Int
  | k, 0 => lastC l k
  | k, n + 1 => if share < sumC (l.take (k + 1)) then (k : Int) else scan l share (k + 1) n
/-- The weights that the share is looked for among, and their sum. -/
def fin (l : List Nat) : List Nat := if sumC l = inf then l.map down else l
def share (l : List Nat) (draw : Nat) : Nat := fmul (part (ofInt (draw / 2048))) (sumC (fin l))
def pickF (l : List Nat) (draw : Nat) : Int × Int :=
  if l.length = 0 ∨ 64 < l.length then (0, 1)
  else if maxC (l.map cnt) = 0 then (0, 4)
  else if 0 < (ends (l.map cnt) l.length).length then ((ends (l.map cnt) l.length).getD (draw % (ends (l.map cnt) l.length).length) 0, 0)
  else (scan (fin (l.map cnt)) (share (l.map cnt) draw) 0 l.length, 0)

def PickP (w : World) (r : Int × Int) (e : Ending) (w' : World) : Prop := e = .returned (.tuple #[.int .i64 r.1, .int .i64 r.2]) ∧ Below w.heap.size w w'

theorem pick_len (A : Option Addr) (cap : Nat) (l : List Nat) (draw : Int) (w : World) (hl : l.length = 0 ∨ 64 < l.length) (hl2 : l.length ≤ 9223372036854775807) : Calls Try.prog 13 #[.slice A l.length cap, .int .u64 draw] w (PickP w (0, 1)) := by
  rcases hl with hl | hl
  · rw [hl]
    clear hl hl2
    go_enter Try.func13, Try.ntmps13
    go_wp2_with fail
    go_ret2
    exact ⟨rfl, Below.refl _ _⟩
  · have hne : ((l.length : Int) == 0) = false := by simp only [beq_eq_false_iff_ne]; omega
    go_enter Try.func13, Try.ntmps13
    go_wp2_with fail
    go_ret2
    exact ⟨rfl, Below.refl _ _⟩

set_option maxRecDepth 100000 in
theorem pick_none (A : Option Addr) (cap : Nat) (l : List Nat) (draw : Int) (w : World) (hC : kF.C w A l.length l) (hl : 0 < l.length) (hl2 : l.length ≤ 64) (hw : ∀ x ∈ l, x < 2 * sgn) (hm : maxC (l.map cnt) = 0) : Calls Try.prog 13 #[.slice A l.length cap, .int .u64 draw] w (PickP w (0, 4)) := by
  have HC := Lib.hid hC
  have HW := Lib.hid hw
  have HM := Lib.hid hm
  have hne : ((l.length : Int) == 0) = false := by simp only [beq_eq_false_iff_ne]; omega
  clear hC hw hm
  go_enter Try.func13, Try.ntmps13
  go_wp2_with fail
  refine (counts_any A cap l w HC.out (by omega) HW.out).mono ?_
  rintro e w1 ⟨v, rfl, hr, hb, _⟩
  obtain ⟨A1, c1, rfl, _, hC1⟩ := Kd.R_reads hr
  have hlen : (l.map cnt).length = l.length := List.length_map ..
  have hle : ∀ x ∈ l.map cnt, x ≤ inf := fun x hx => map_cnt_mem hx
  have HB := Lib.hid hb
  have HC1 := Lib.hid hC1
  have HL := Lib.hid hle
  have HN := Lib.hid hlen
  clear hr hb hC1 hle hlen HC HW
  generalize l.map cnt = m at *
  go_wp2_with fail
  refine (max_any A1 c1 m w1 HC1.out (by have := HN.out; omega) (by have := HN.out; omega) HL.out).mono ?_
  rw [HM.out]
  rintro e w2 ⟨rfl, rfl⟩
  have h0 : FloatKind.f64.format.order 0 0 = some .eq := by decide +kernel
  go_wp2_with fail
  go_ret2
  exact ⟨rfl, HB.out⟩

theorem int_at {w : World} {A : Option Addr} {n : Nat} {l : List Int} (hC : (Kd.int .i64).C w A n l) (k : Nat) (hk : k < n) : ∃ ad, A = some ad ∧ w.cell? (ad.add k) = some (.int .i64 (l.getD k 0)) := by
  obtain ⟨ad, c, rfl, _, hK, hc⟩ := Kd.C_get hC 0 (k : Int) (by omega) (by omega)
  refine ⟨ad, rfl, ?_⟩
  have hK' : c = [.int .i64 (l.getD k 0)] := hK
  have h := hc 0 _ (by rw [hK']; rfl)
  have e : (k : Int).toNat * (Kd.int .i64).sz + 0 = k := by
    show (k : Int).toNat * 1 + 0 = k
    omega
  rwa [e] at h

theorem order_zero_pos {x : Nat} (h : x ≤ inf) (h0 : x ≠ 0) : FloatKind.f64.format.order x 0 = some .gt := by
  rw [ord_eq, order_nn h (Nat.zero_le _), compare_nat, if_neg (by omega), if_neg h0]

set_option maxRecDepth 100000 in
theorem pick_top (A : Option Addr) (cap : Nat) (l : List Nat) (draw : Nat) (w : World) (hC : kF.C w A l.length l) (hl : 0 < l.length) (hl2 : l.length ≤ 64) (hw : ∀ x ∈ l, x < 2 * sgn) (hm : maxC (l.map cnt) ≠ 0) (hd : draw < 2 ^ 64)
    (ht : 0 < (ends (l.map cnt) l.length).length) : Calls Try.prog 13 #[.slice A l.length cap, .int .u64 draw] w (PickP w ((ends (l.map cnt) l.length).getD (draw % (ends (l.map cnt) l.length).length) 0, 0)) := by
  have HC := Lib.hid hC
  have HW := Lib.hid hw
  have hne : ((l.length : Int) == 0) = false := by simp only [beq_eq_false_iff_ne]; omega
  have ho := order_zero_pos (maxC_le (l := l.map cnt) (fun x hx => map_cnt_mem hx)) hm
  have hlen : (l.map cnt).length = l.length := List.length_map ..
  have HT := Lib.hid ht
  have HN := Lib.hid hlen
  clear hC hw hm ht hlen
  go_enter Try.func13, Try.ntmps13
  go_wp2_with fail
  refine (counts_any A cap l w HC.out (by omega) HW.out).mono ?_
  rintro e w1 ⟨v, rfl, hr, hb, _⟩
  obtain ⟨A1, c1, rfl, _, hC1⟩ := Kd.R_reads hr
  have hle : ∀ x ∈ l.map cnt, x ≤ inf := fun x hx => map_cnt_mem hx
  have HB := Lib.hid hb
  have HC1 := Lib.hid hC1
  have HL := Lib.hid hle
  have H64 := Lib.hid hl2
  have H0 := Lib.hid hl
  clear hr hb hC1 hle HC HW hl hl2
  generalize l.map cnt = m at *
  go_wp2_with fail
  refine (max_any A1 c1 m w1 HC1.out (by have := HN.out; have := H64.out; omega) (by have := HN.out; have := H0.out; omega) HL.out).mono ?_
  rintro e w2 ⟨rfl, rfl⟩
  go_wp2_with fail
  refine (endless_any A1 c1 m w1 HC1.out (by have := HN.out; have := H64.out; omega) HL.out).mono ?_
  rw [HN.out]
  rintro e w2 ⟨A2, c2, rfl, hC2, hb2⟩
  have hel := ends_len m l.length
  have ht := HT.out
  obtain ⟨ad, rfl, hx⟩ := int_at hC2 (draw % (ends m l.length).length) (Nat.mod_lt _ ht)
  have HB2 := Lib.hid (HB.out.trans (hb2.mono HB.out.size))
  have hl64 := H64.out
  clear hC2 hb2 HN HT HL HC1 HB H64 H0
  generalize ends m l.length = t at *
  have hn0 : ¬ (t.length : Int) = 0 := by omega
  have htl : t.length ≤ 64 := by omega
  have e1 : ((draw : Int) % (t.length : Int)).toNat = draw % t.length := by omega
  have e2 : (draw : Int) % (t.length : Int) < (t.length : Int) := Int.emod_lt_of_pos _ (by omega)
  have e3 : 0 ≤ (draw : Int) % (t.length : Int) := Int.emod_nonneg _ hn0
  go_wp2_with fail
  go_ret2
  exact ⟨by rw [List.getD_eq_getElem?_getD]; rfl, HB2.out⟩

theorem floatOfInt_nat (n : Nat) : floatOfInt .f64 (n : Int) = ofInt n := by
  unfold floatOfInt FloatKind.nearest FloatKind.encode ofInt rnd Ieee.Format.write
  have h : decide ((n : Int) < 0) = false := decide_eq_false (by omega)
  simp only [h, Int.natAbs_natCast]
  rfl

/-- What the share is looked for among: the counts, held down where their sum is infinite. -/
def dn (l : List Nat) (k : Nat) : List Nat := (l.take k).map down ++ l.drop k
theorem dn_zero (l : List Nat) : dn l 0 = l := by simp [dn]
theorem dn_all (l : List Nat) : dn l l.length = l.map down := by simp [dn]
theorem dn_len (l : List Nat) (k : Nat) (h : k ≤ l.length) : (dn l k).length = l.length := by simp [dn]; omega
theorem dn_get (l : List Nat) (k : Nat) (h : k < l.length) : (dn l k).getD k 0 = l.getD k 0 := by
  have hl : ((l.take k).map down).length = k := by simp; omega
  unfold dn
  rw [List.getD_eq_getElem?_getD, List.getElem?_append_right (by omega), hl, Nat.sub_self]
  simp [List.getD_eq_getElem?_getD, List.getElem?_drop]
theorem dn_set (l : List Nat) (k : Nat) (h : k < l.length) : (dn l k).set k (down (l.getD k 0)) = dn l (k + 1) := by
  have hl : ((l.take k).map down).length = k := by simp; omega
  unfold dn
  rw [List.set_append_right _ _ (by omega), hl, Nat.sub_self, List.drop_eq_getElem_cons h, List.set_cons_zero, List.take_succ_eq_append_getElem h, List.map_append, List.append_assoc]
  simp [List.getD_eq_getElem?_getD, List.getElem?_eq_getElem h]
theorem noInf {m : List Nat} (hle : ∀ x ∈ m, x ≤ inf) : ∀ k, k ≤ m.length → ¬ 0 < (ends m k).length → ∀ j, j < k → m.getD j 0 < inf := by
  intro k
  induction k with
  | zero => intro _ _ j hj; omega
  | succ k ih =>
    intro hk h j hj
    have he : ends m (k + 1) = if m.getD k 0 = inf then ends m k ++ [(k : Int)] else ends m k := rfl
    by_cases hi : m.getD k 0 = inf
    · rw [he, if_pos hi, List.length_append] at h
      simp at h
    · rw [he, if_neg hi] at h
      by_cases hjk : j = k
      · subst hjk
        have := hle _ (getD_mem_ m j (by omega))
        omega
      · exact ih (by omega) h j (by omega)

theorem fin_len (m : List Nat) : (fin m).length = m.length := by unfold fin; split <;> simp
theorem fin_le {m : List Nat} (h : ∀ x ∈ m, x ≤ inf) : ∀ x ∈ fin m, x ≤ inf := by
  unfold fin
  split
  · intro x hx
    obtain ⟨y, _, rfl⟩ := List.mem_map.1 hx
    exact rnd_le_inf _ _
  · exact h
theorem fin_fin {m : List Nat} (h : ∀ j, j < m.length → m.getD j 0 < inf) (hl : m.length ≤ 64) : sumC (fin m) < inf := by
  unfold fin
  split
  · have hm : ∀ x ∈ m, x < inf := by
      intro x hx
      obtain ⟨j, hj, rfl⟩ := List.mem_iff_getElem.1 hx
      have := h j hj
      rwa [List.getD_eq_getElem?_getD, List.getElem?_eq_getElem hj] at this
    exact (foldl_down m hm 0 0 (by omega) (by rw [inf_def]; omega) (by rw [V_zero]; omega)).1
  · rename_i hs
    have := sumC_le m
    omega

set_option maxRecDepth 100000 in
theorem pick_scan (A : Option Addr) (cap : Nat) (l : List Nat) (draw : Nat) (w : World) (hC : kF.C w A l.length l) (hl : 0 < l.length) (hl2 : l.length ≤ 64) (hw : ∀ x ∈ l, x < 2 * sgn) (hm : maxC (l.map cnt) ≠ 0) (hd : draw < 2 ^ 64)
    (ht : ¬ 0 < (ends (l.map cnt) l.length).length) : Calls Try.prog 13 #[.slice A l.length cap, .int .u64 draw] w (PickP w (scan (fin (l.map cnt)) (share (l.map cnt) draw) 0 l.length, 0)) := by
  have HC := Lib.hid hC
  have HW := Lib.hid hw
  have hne : ((l.length : Int) == 0) = false := by simp only [beq_eq_false_iff_ne]; omega
  have ho := order_zero_pos (maxC_le (l := l.map cnt) (fun x hx => map_cnt_mem hx)) hm
  have hlen : (l.map cnt).length = l.length := List.length_map ..
  have HT := Lib.hid ht
  have HN := Lib.hid hlen
  clear hC hw hm ht hlen
  go_enter Try.func13, Try.ntmps13
  go_wp2_with fail
  refine (counts_any A cap l w HC.out (by omega) HW.out).mono ?_
  rintro e w1 ⟨v, rfl, hr, hb, _⟩
  have hle : ∀ x ∈ l.map cnt, x ≤ inf := fun x hx => map_cnt_mem hx
  have hlen0 : 0 < (l.map cnt).length := by rw [HN.out]; exact hl
  obtain ⟨g, c1, rfl, hg, _, _⟩ := Kd.R_form hr hlen0
  have hC1 := (Kd.R_reads' hr).2.2
  have HR := Lib.hid hr
  have HB := Lib.hid hb
  have HC1 := Lib.hid hC1
  have HL := Lib.hid hle
  have H64 := Lib.hid hl2
  clear hr hb hC1 hle HC HW hl2 hlen0
  have hml : (l.map cnt).length ≤ 64 := by rw [HN.out]; exact H64.out
  rw [← HN.out] at HT
  have hml0 : 0 < (l.map cnt).length := by rw [HN.out]; exact hl
  have HN2 := Lib.hid (show l.length = (l.map cnt).length from HN.out.symm)
  clear HN hl
  generalize l.map cnt = m at *
  go_wp2_with fail
  refine (max_any (some ⟨g, 0, none⟩) c1 m w1 HC1.out (by omega) hml0 HL.out).mono ?_
  rintro e w2 ⟨rfl, rfl⟩
  go_wp2_with fail
  refine (endless_any (some ⟨g, 0, none⟩) c1 m w1 HC1.out (by omega) HL.out).mono ?_
  rintro e w2 ⟨A2, c2, rfl, _, hb2⟩
  have hel := noInf HL.out m.length (Nat.le_refl _) HT.out
  have ez : (ends m m.length).length = 0 := by have := HT.out; omega
  have HI := Lib.hid hel
  have HR2 := Lib.hid (Kd.R_below HR.out hb2)
  have HC2 := Lib.hid (Kd.C_below HC1.out hb2)
  have HB2 := Lib.hid (HB.out.trans (hb2.mono HB.out.size))
  clear hel hb2 HT HR HC1 HB
  have hn0 : (ends m m.length) = [] := List.eq_nil_of_length_eq_zero ez
  rw [hn0]
  clear hn0 ez
  have hall : ∀ x ∈ m, x < 2 * sgn := fun x hx => lt2 (HL.out x hx)
  have HA := Lib.hid hall
  have hmc : m.map cnt = m := by
    have : ∀ x ∈ m, cnt x = x := fun x hx => cnt_of_le (HL.out x hx)
    rw [List.map_congr_left this, List.map_id']
  have HMC := Lib.hid hmc
  have HS := Lib.hid (lt2 (sumC_le m))
  clear hall hmc
  go_wp2_with fail
  refine (sum_any (some ⟨g, 0, none⟩) c1 m w2 HC2.out (by omega) HA.out).mono ?_
  rw [HMC.out]
  rintro e w3 ⟨rfl, hb3⟩
  have HR3 := Lib.hid (Kd.R_below HR2.out hb3)
  have HB3 := Lib.hid (HB2.out.trans (hb3.mono HB2.out.size))
  clear hb3 HR2 HC2 HB2
  obtain ⟨bd, hbd⟩ : ∃ bd, bd = decide (sumC m = inf) := ⟨_, rfl⟩
  have HBD := Lib.hid hbd
  clear hbd
  go_upto_if 44 with (go_at_call 12; refine (isinf_is (sumC m) HS.out _).mono ?_; rw [← HBD.out]; rintro e w' ⟨rfl, rfl⟩)
  go_cut [8] (fun s8 wx => s8 = .float .f64 (sumC (fin m)) ∧ kF.R 28 wx w.heap.size (fun k => w.heap.size ≤ k) (.slice (some ⟨g, 0, none⟩) m.length c1) (fin m) ∧ Below w.heap.size w wx)
  case first =>
    cases bd
    case true =>
      have hfin : fin m = m.map down := by unfold fin; rw [if_pos (of_decide_eq_true HBD.out.symm)]
      have HF := Lib.hid hfin
      clear hfin
      go_wp2_with fail
      go_loopw [47] (fun i wr => ∃ k : Nat, k ≤ m.length ∧ i = .int .i64 k ∧ kF.R 28 wr w.heap.size (fun k => w.heap.size ≤ k) (.slice (some ⟨g, 0, none⟩) m.length c1) (dn m k) ∧ Below w.heap.size w wr) (fun i _ => m.length - (intOf i).toNat)
      case atStart => exact ⟨0, Nat.zero_le _, rfl, by rw [dn_zero]; exact HR3.out, HB3.out⟩
      case round =>
        obtain ⟨k, hk, rfl, hr, hb⟩ := hrel
        have hlk := dn_len m k hk
        have hr2 : kF.R 28 wr w.heap.size (fun k => w.heap.size ≤ k) (.slice (some ⟨g, 0, none⟩) (dn m k).length c1) (dn m k) := by rw [hlk]; exact hr
        by_cases hlt : k < m.length
        · have hxi := HI.out k hlt
          obtain ⟨d1, f1⟩ := Kd.R_cell (enc := Value.float .f64) (h1 := fun _ => rfl) 0 hr2 (k : Int) (by omega) (by omega)
          obtain ⟨hp, hg2⟩ := Kd.R_put (enc := Value.float .f64) (h1 := fun _ => rfl) hr2 (k : Int) (down (m.getD k 0))
          have e : (k : Int).toNat = k := by omega
          rw [e] at d1 f1 hp hg2
          rw [dn_set m k hlt, hlk] at hp
          have e2 : rdOf 0 (dn m k) (k : Int) = m.getD k 0 := by
            show (dn m k).getD (k : Int).toNat 0 = _
            rw [e, dn_get m k hlt]
          rw [e2] at d1
          have HP := Lib.hid hp
          have HB4 := Lib.hid (hb.setCell (p := ⟨g, k, none⟩) hg (.float .f64 (down (m.getD k 0))))
          have hdiv := run_fdiv128 hxi
          clear hp hg2 hr hr2 hlk e e2 hb hxi HR3 HB3 HI
          generalize m.getD k 0 = x at *
          go_wp2_with fail
          go_roundw
          case rel => exact ⟨k + 1, by omega, by go_num, HP.out, HB4.out⟩
          case measure => simp [intOf]; omega
        · obtain rfl : k = m.length := by omega
          rw [dn_all] at hr
          have hdl : ∀ x ∈ m.map down, x ≤ inf := by
            intro x hx
            obtain ⟨y, _, rfl⟩ := List.mem_map.1 hx
            exact rnd_le_inf _ _
          have hmc2 : (m.map down).map cnt = m.map down := by
            have : ∀ x ∈ m.map down, cnt x = x := fun x hx => cnt_of_le (hdl x hx)
            rw [List.map_congr_left this, List.map_id']
          have HMC2 := Lib.hid hmc2
          have HD2 := Lib.hid (show ∀ x ∈ m.map down, x < 2 * sgn from fun x hx => lt2 (hdl x hx))
          have hr3 : kF.R 28 wr w.heap.size (fun k => w.heap.size ≤ k) (.slice (some ⟨g, 0, none⟩) (m.map down).length c1) (m.map down) := by rw [List.length_map]; exact hr
          have hC3 := (Kd.R_reads' hr3).2.2
          have HR4 := Lib.hid hr
          have HC4 := Lib.hid hC3
          have HB4 := Lib.hid hb
          have HLN := Lib.hid (show (m.map down).length = m.length from List.length_map ..)
          clear hr hr2 hr3 hC3 hb hlk hdl hmc2 HR3 HB3 HI
          go_wp2_with fail
          refine (sum_any' (some ⟨g, 0, none⟩) c1 m.length (m.map down) wr HLN.out (by rw [← HLN.out]; exact HC4.out) (by omega) HD2.out).mono ?_
          rw [HMC2.out]
          rintro e w4 ⟨rfl, hb4⟩
          have HR5 := Lib.hid (Kd.R_below HR4.out hb4)
          have HB5 := Lib.hid (HB4.out.trans (hb4.mono HB4.out.size))
          clear hb4 HR4 HB4 HC4
          go_wp2_with fail
          go_meet
          rw [HF.out]
          exact ⟨rfl, HR5.out, HB5.out⟩
    case false =>
      have hfin : fin m = m := by unfold fin; rw [if_neg (of_decide_eq_false HBD.out.symm)]
      have HF := Lib.hid hfin
      clear hfin
      go_wp2_with fail
      go_meet
      rw [HF.out]
      exact ⟨rfl, HR3.out, HB3.out⟩
  case rest =>
    obtain ⟨rfl, hr, hb⟩ := hcut
    have HR4 := Lib.hid hr
    have HB4 := Lib.hid hb
    clear hr hb HR3 HB3
    have hconv : floatOfInt FloatKind.f64 ((draw : Int) / 2048) = ofInt (draw / 2048) := by rw [← floatOfInt_nat]; congr 1
    have hof : ofInt (draw / 2048) < inf := ofInt_fin (Nat.lt_of_le_of_lt (Nat.div_le_self _ _) hd)
    have hq := run_fdiv53 hof
    have hsf := fin_fin HI.out (by omega)
    have hmul := run_fmul (Nat.lt_of_le_of_lt (part_le hof) hof) hsf
    have hsh : fmul (part (ofInt (draw / 2048))) (sumC (fin m)) = share m draw := rfl
    have hshi : share m draw ≤ inf := fmul_le_inf _ _
    rw [hsh] at hmul
    have HSI := Lib.hid hshi
    have HFL := Lib.hid (fin_len m)
    have HFI := Lib.hid (fin_le HL.out)
    clear hof hsf hsh hshi HI HL HA HMC HS HBD
    go_upto_region 18 with fail
    generalize share m draw = sh at *
    clear hq hmul hconv
    generalize fin m = f at *
    go_wp2_with fail
    go_loop [11, 12, 67] (fun far la i => ∃ k : Nat, k ≤ m.length ∧ i = .int .i64 k ∧ far = .float .f64 (sumC (f.take k)) ∧ la = .int .i64 (lastC f k) ∧ Hid (scan f sh 0 l.length = scan f sh k (l.length - k))) (fun _ _ i => m.length - (intOf i).toNat)
    case atStart => exact ⟨0, Nat.zero_le _, rfl, rfl, rfl, Lib.hid rfl⟩
    case round =>
      obtain ⟨k, hk, rfl, rfl, rfl, HSC⟩ := hrel
      by_cases hlt : k < m.length
      · have hkf : k < f.length := by rw [HFL.out]; exact hlt
        have hr2 : kF.R 28 wc w.heap.size (fun k => w.heap.size ≤ k) (.slice (some ⟨g, 0, none⟩) f.length c1) f := by rw [HFL.out]; exact HR4.out
        obtain ⟨d1, f1⟩ := Kd.R_cell (enc := Value.float .f64) (h1 := fun _ => rfl) 0 hr2 (k : Int) (by omega) (by omega)
        have e : (k : Int).toNat = k := by omega
        have e2 : rdOf 0 f (k : Int) = f.getD k 0 := by
          show f.getD (k : Int).toNat 0 = _
          rw [e]
        rw [e, e2] at d1
        have hxi := HFI.out _ (getD_mem_ f k hkf)
        have hs := sumC_snoc f k hkf
        have hadd := run_fadd (sumC_le (f.take k)) hxi
        rw [← hs] at hadd
        have hfar := sumC_le (f.take (k + 1))
        have hcm : FloatKind.f64.format.order sh (sumC (f.take (k + 1))) = some (compare sh (sumC (f.take (k + 1)))) := order_nn HSI.out hfar
        have hln : l.length - k = (l.length - (k + 1)) + 1 := by rw [HN2.out]; omega
        have hsc : scan f sh k (l.length - k) = if sh < sumC (f.take (k + 1)) then (k : Int) else scan f sh (k + 1) (l.length - (k + 1)) := by rw [hln]; rfl
        have hla : lastC f (k + 1) = if 0 < f.getD k 0 then (k : Int) else lastC f k := rfl
        have HLA := Lib.hid hla
        have HSC2 := Lib.hid hsc
        rw [compare_nat] at hcm
        clear hs hsc hla hln hr2 f1 e e2 hfar hkf
        by_cases hlt2 : sh < sumC (f.take (k + 1))
        · rw [if_pos hlt2] at hcm
          have HRES := Lib.hid (show scan f sh 0 l.length = (k : Int) from by rw [HSC.out, HSC2.out, if_pos hlt2])
          clear hlt2 HLA
          generalize sumC (f.take (k + 1)) = far at *
          generalize f.getD k 0 = x at *
          go_wp2_with fail
          go_ret2
          exact ⟨by rw [HRES.out]; rfl, HB4.out⟩
        · have hne2 : ∃ o, o ≠ .lt ∧ FloatKind.f64.format.order sh (sumC (f.take (k + 1))) = some o := by
            rw [hcm, if_neg hlt2]
            split
            · exact ⟨.eq, by simp, rfl⟩
            · exact ⟨.gt, by simp, rfl⟩
          obtain ⟨o, ho1, ho2⟩ := hne2
          have hbo : (some o == some Ordering.lt) = false := by cases o <;> simp_all
          have HRES := Lib.hid (show scan f sh 0 l.length = scan f sh (k + 1) (l.length - (k + 1)) from by rw [HSC.out, HSC2.out, if_neg hlt2])
          clear hlt2 hcm ho1
          by_cases hx0 : f.getD k 0 = 0
          · have hox : FloatKind.f64.format.order (f.getD k 0) 0 = some .eq := by rw [hx0]; decide +kernel
            have HL2 := Lib.hid (show lastC f (k + 1) = lastC f k from by rw [HLA.out, if_neg (by omega)])
            have HS2 := Lib.hid (show sumC (f.take (k + 1)) = sumC (f.take (k + 1)) from rfl)
            clear hx0 HLA hxi
            generalize f.getD k 0 = x at *
            go_wp2_with fail
            go_round
            case rel => exact ⟨k + 1, by omega, by go_num, rfl, by rw [HL2.out], HRES⟩
            case measure => simp [intOf]; omega
          · have hox := order_zero_pos hxi hx0
            have HL2 := Lib.hid (show lastC f (k + 1) = (k : Int) from by rw [HLA.out, if_pos (by omega)])
            clear hx0 HLA hxi
            generalize f.getD k 0 = x at *
            go_wp2_with fail
            go_round
            case rel => exact ⟨k + 1, by omega, by go_num, rfl, by rw [HL2.out], HRES⟩
            case measure => simp [intOf]; omega
      · obtain rfl : k = m.length := by omega
        have HRES := Lib.hid (show scan f sh 0 l.length = lastC f m.length from by rw [HSC.out, HN2.out, Nat.sub_self]; rfl)
        clear HSC
        go_wp2_with fail
        go_ret2
        exact ⟨by rw [HRES.out]; rfl, HB4.out⟩
end Go.Proofs.Ytakfkkpcdnphlaa
