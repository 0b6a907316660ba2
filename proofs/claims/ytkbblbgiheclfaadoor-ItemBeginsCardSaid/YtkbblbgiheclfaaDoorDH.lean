/- item.Put, item.Size. -/
import Derived.Test.YtkbblbgiheclfaaDoorDG
namespace Go.Proofs.YtkbblbgiheclfaaDoor.Dr
open Go.RowKit Go.Proofs.YtkbblbgiheclfaaDoorW.PrintWords

def mays (l : List It) : Bool := l.all mayI
def putsF (l : List It) : List Int := l.flatMap putI
/-- What Put gives. -/
def putsE (l : List It) : List Int := if mays l = true then putsF l else []
def errs (l : List It) : Int := if mays l = true then 0 else 1
theorem put_len {x : It} (h : mayI x = true) : (putI x).length ≤ 1100 := by
  unfold putI
  rcases wf_kind h with h | h | h | h
  · rw [if_pos h.1]
    have := lay_len [x.a]
    simp only [List.length_cons, List.length_nil] at this
    omega
  · rw [if_neg (by omega), if_pos h.1]
    simp
  · rw [if_neg (by omega), if_neg (by omega), if_pos h.1]
    simp
  · rw [if_neg (by omega), if_neg (by omega), if_neg (by omega)]
    have h1 := dbl_len x.l
    have h2 := count_le x.l
    simp only [List.length_append, List.length_cons, List.length_nil]
    omega
theorem puts_len {l : List It} (h : mays l = true) : (putsF l).length ≤ 1100 * l.length := by
  induction l with
  | nil => simp [putsF]
  | cons x l ih =>
    rw [mays, List.all_cons, Bool.and_eq_true] at h
    have h1 := put_len h.1
    have h2 := ih h.2
    simp only [putsF, List.flatMap_cons, List.length_append, List.length_cons] at h2 ⊢
    omega
theorem take_snocI (l : List It) (k : Nat) (hk : k < l.length) : l.take (k + 1) = l.take k ++ [l.getD k zIt] := by
  rw [List.take_succ_eq_append_getElem hk, List.getD_eq_getElem?_getD, List.getElem?_eq_getElem hk]
  rfl
theorem mays_snoc {l : List It} {k : Nat} (hk : k < l.length) (h : mays (l.take k) = true) (hx : mayI (l.getD k zIt) = true) : mays (l.take (k + 1)) = true := by
  rw [take_snocI l k hk, mays, List.all_append, Bool.and_eq_true]
  exact ⟨h, by simpa using hx⟩
theorem puts_snoc (l : List It) (k : Nat) (hk : k < l.length) : putsF (l.take (k + 1)) = putsF (l.take k) ++ putI (l.getD k zIt) := by
  rw [take_snocI l k hk, putsF, List.flatMap_append]
  simp [putsF]
theorem mays_no {l : List It} {k : Nat} (hk : k < l.length) (hx : mayI (l.getD k zIt) = false) : mays l = false := by
  rw [mays, List.all_eq_false]
  refine ⟨l.getD k zIt, ?_, by rw [hx]; decide⟩
  rw [List.getD_eq_getElem?_getD, List.getElem?_eq_getElem hk]
  exact List.getElem_mem hk
theorem errs_no {l : List It} (h : mays l = false) : errs l = 1 ∧ putsE l = [] := by
  unfold errs putsE
  rw [h]
  exact ⟨rfl, rfl⟩
theorem errs_yes {l : List It} (h : mays l = true) : errs l = 0 ∧ putsE l = putsF l := by
  unfold errs putsE
  rw [h]
  exact ⟨rfl, rfl⟩
def PutP (w : World) (l : List It) (e : Ending) (w' : World) : Prop := ∃ v, e = .returned (.tuple #[v, .int .i64 (errs l)]) ∧ kB.R 5 w' w.heap.size (fun k => w.heap.size ≤ k) v (putsE l) ∧ Below w.heap.size w w'
theorem GaR.below {w0 w w1 : World} {g : Nat} {xs : List Int} (h : GaR w0 g xs w) (hb : Below w.heap.size w w1) : GaR w0 g xs w1 := by
  obtain ⟨v, hk, hR, hb0⟩ := h
  exact ⟨v, (hb.block g (blk_lt hk)).trans hk, Kd.R_below hR hb, hb0.trans (hb.mono hb0.size)⟩
theorem mk_fn (fn : Fn) (first cap : Array Value) (w : World) : (Instr.makeFunc fn first cap).run Tryd.prog w = .ok (.func fn first cap) w := rfl
theorem errI_yes {x : It} (h : mayI x = true) : errI x = 0 := by
  unfold errI
  rw [h]
  rfl
theorem errI_no {x : It} (h : mayI x = false) : errI x = 1 := by
  unfold errI
  rw [h]
  rfl
set_option maxHeartbeats 4000000 in
set_option maxRecDepth 100000 in
theorem put_any (A : Option Addr) (c : Nat) (l : List It) (w : World) (hC : kIt.C w A l.length l) (ho : Octs l) (hl : l.length ≤ 5000) :
    Calls Tryd.prog 15 #[.slice A l.length c] w (PutP w l) := by
  have HC := Lib.hid hC
  have HO := Lib.hid ho
  have hmf := mk_fn
  clear hC ho
  have hga := below_alloc (Below.refl _ w) (.cells #[.slice none 0 0] 55)
  have HREL : Hid (GaR w w.heap.size (putsF (l.take 0)) (w.alloc (.cells #[.slice none 0 0] 55))) := Lib.hid ⟨_, alloc_at w _, Kd.R_nil _ _ _ _ _, hga⟩
  clear hga
  go_enter Tryd.func15, Tryd.ntmps15
  go_wp2_with fail
  go_loopw [12] (fun v12 wr => ∃ k : Nat, k ≤ l.length ∧ v12 = .int .i64 k ∧ mays (l.take k) = true ∧ GaR w w.heap.size (putsF (l.take k)) wr) (fun v12 _ => l.length - (intOf v12).toNat)
  case atStart => exact ⟨0, Nat.zero_le _, rfl, rfl, HREL.out⟩
  case round =>
    obtain ⟨k, hk, rfl, hms, hG⟩ := hrel
    clear HREL
    have HMS := Lib.hid hms
    have HG := Lib.hid hG
    clear hms
    by_cases hlt : k < l.length
    · obtain ⟨v, hkg, hR, hb⟩ := hG
      have hbw := hb
      have hpl := puts_len HMS.out
      have htk : (l.take k).length ≤ k := by rw [List.length_take]; omega
      obtain ⟨ad, B1, c1, rfl, x0, x1, x2, x3, hle1, hB1⟩ := it_at HC.out k hlt
      have hox := HO.out _ (it_mem l k hlt)
      have HSN := Lib.hid (puts_snoc l k hlt)
      have HMN := Lib.hid (mays_snoc hlt HMS.out)
      have HNO := Lib.hid (fun h => errs_no (mays_no hlt h))
      obtain ⟨x, hx⟩ : ∃ x, l.getD k zIt = x := ⟨_, rfl⟩
      rw [hx] at x0 x1 x2 x3 hle1 hB1 hox HSN HMN HNO
      clear hx
      have y0 := (hb.cell (cell_block x0)).trans x0
      have y1 := (hb.cell (cell_block x1)).trans x1
      have y2 := (hb.cell (cell_block x2)).trans x2
      have y3 := (hb.cell (cell_block x3)).trans x3
      have hal := below_alloc (Below.refl _ wr) (.cells #[.int .i64 x.k, .int .i64 x.a, .int .i64 x.b, .slice B1 x.l.length c1] 25)
      have HCK := Lib.hid (check_any x B1 c1 (wr.alloc (.cells #[.int .i64 x.k, .int .i64 x.a, .int .i64 x.b, .slice B1 x.l.length c1] 25)) (Kd.C_below hB1 (hb.trans (hal.mono hb.size))) hox)
      have HKX := Lib.hid (alloc_at wr (.cells #[.int .i64 x.k, .int .i64 x.a, .int .i64 x.b, .slice B1 x.l.length c1] 25))
      have HAL := Lib.hid hal
      have HIT := Lib.hid (fun (W : World) (hm : mayI x = true) (hg : GaR w w.heap.size (putsF (l.take k)) W) => gitem_any x B1 c1 hB1 hle1 hox hm hg (Nat.le_refl _) (by omega))
      have HBW := Lib.hid hb
      clear hkg hR hb hbw hpl x0 x1 x2 x3 hal hB1 hle1 hox
      by_cases hm : mayI x = true
      · have HM := Lib.hid hm
        rw [errI_yes hm] at HCK
        clear hm HNO
        go_wp2_with fail
        refine (HCK.out).mono ?_
        rintro e w5 ⟨rfl, hb5⟩
        have hkx := (hb5.block wr.heap.size (blk_lt HKX.out)).trans HKX.out
        obtain ⟨f0, f1, f2, f3, _, _, _, _⟩ := blk_facts4 hkx
        have HCI := Lib.hid (HIT.out w5 HM.out (HG.out.below (HAL.out.trans (hb5.mono HAL.out.size))))
        clear hb5 hkx HCK HIT HG HBW HAL HKX
        go_wp2_with fail
        refine (HCI.out).mono ?_
        rintro e w6 ⟨rfl, hG6⟩
        have HG6 := Lib.hid hG6
        clear hG6 f0 f1 f2 f3 HCI
        go_wp2_with fail
        go_roundw
        case rel => exact ⟨k + 1, by omega, by go_num, HMN.out HM.out, by rw [HSN.out]; exact HG6.out⟩
        case measure => simp [intOf]; omega
      · have hmf2 : mayI x = false := by simpa using hm
        rw [errI_no hmf2] at HCK
        obtain ⟨he1, he2⟩ := HNO.out hmf2
        have HP := Lib.hid (show ∀ w5, Below wr.heap.size wr w5 → PutP w l (.returned (.tuple #[.slice none 0 0, .int .i64 1])) w5 from fun w5 hb5 => ⟨_, by rw [he1], by rw [he2]; exact Kd.R_nil _ _ _ _ _, HBW.out.trans (hb5.mono HBW.out.size)⟩)
        clear hm hmf2 he1 he2 HNO
        go_wp2_with fail
        refine (HCK.out).mono ?_
        rintro e w5 ⟨rfl, hb5⟩
        have HQ := Lib.hid (HP.out w5 (HAL.out.trans (hb5.mono HAL.out.size)))
        clear hb5 HCK HIT HG HBW HAL HKX HP
        go_wp2_with fail
        go_ret2
        exact HQ.out
    · have hke : l.take k = l := List.take_of_length_le (by omega)
      have hms := HMS.out
      rw [hke] at hms hG
      obtain ⟨he1, he2⟩ := errs_yes hms
      obtain ⟨v, hkg, hR, hb⟩ := hG
      have HP := Lib.hid (show PutP w l (.returned (.tuple #[v, .int .i64 0])) wr from ⟨v, by rw [he1], by rw [he2]; exact Kd.R_mono hR (fun _ hk => hk.1), hb⟩)
      have g0 := blk_cell hkg 0
      obtain ⟨Av, cv, rfl⟩ := Kd.R_slice hR
      clear hke hms he1 he2 hkg hR hb HG HMS
      go_wp2_with fail
      go_ret2
      exact HP.out
theorem psize_any (A : Option Addr) (c : Nat) (l : List It) (w : World) (hC : kIt.C w A l.length l) (ho : Octs l) (hl : l.length ≤ 5000) :
    Calls Tryd.prog 12 #[.slice A l.length c] w (fun e w' => e = .returned (.tuple #[.int .i64 (putsE l).length, .int .i64 (errs l)]) ∧ Below w.heap.size w w') := by
  have H := Lib.hid (put_any A c l w hC ho hl)
  clear hC ho
  go_enter Tryd.func12, Tryd.ntmps12
  go_wp2_with (go_at_call 15; refine (H.out).mono ?_; rintro e w1 ⟨v, rfl, hR, hb⟩; obtain ⟨Av, cv, rfl⟩ := Kd.R_slice hR; have HB := Lib.hid hb; clear hR hb)
  go_ret2
  exact ⟨rfl, HB.out⟩
end Go.Proofs.YtkbblbgiheclfaaDoor.Dr
