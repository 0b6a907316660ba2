/- The contracts of what the laws of weights call: IsNaN, IsInf, Count, counts. -/
import Derived.Test.YtakfkkpcdnphlaaF2
import Derived.Test.YtakfkkpcdnphlaaProg
import Derived.Test.YtakfkkpcdnphlaaWMore
import Derived.WalkKit
import Derived.WalkLawsBesides
import Derived.Laws.FloatArith
import Derived.Deep.LoopGhost
import Derived.Deep.DeepCutAuto
import Derived.Deep.CutBlock
import Derived.Outline
import Derived.KernelRfl
import Derived.ProofKit
import Derived.Handy
import Derived.Lib.Hide
namespace Go.Proofs.Ytakfkkpcdnphlaa
open Go.RowKit Go.Proofs.YtakfkkpcdnphlaaW.PrintWords

theorem ord_eq (x y : Nat) : FloatKind.f64.format.order x y = Ieee.double.order x y := rfl

/-- A float, as it lies. -/
def kF : Kd Nat := Kd.scalar (Value.float .f64) (fun _ => rfl)
theorem info28 : (Try.prog.info? 28).map (fun i => (i.zero, i.size, i.bytes)) = some (some (.float .f64 0), 1, 8) := by kernel_rfl

theorem run_store_float {P : Program} {w : World} {a : Addr} {m : Mode} (k : FloatKind) (n : Nat) : (store a (.float k n) m).run P w = stored P w a (.float k n) m := run_store P w a _ m rfl
attribute [local go_sem] run_store_float

theorem isnan_any (x : Nat) (w : World) : Calls Try.prog 17 #[.float .f64 x] w fun e w' => e = .returned (.bool (FloatKind.f64.format.order x x != some .eq)) ∧ w = w' := by
  go_enter Try.func17, Try.ntmps17
  go_wp2
  go_ret
  exact ⟨rfl, rfl⟩

theorem isinf_any (x : Nat) (w : World) : Calls Try.prog 12 #[.float .f64 x, .int .i64 1] w fun e w' => e = .returned (.bool (FloatKind.f64.format.order x 9218868437227405311 == some .gt)) ∧ w = w' := by
  go_enter Try.func12, Try.ntmps12
  go_wp2
  go_ret
  exact ⟨rfl, rfl⟩

theorem isinf_is (x : Nat) (hx : x < 2 * sgn) (w : World) : Calls Try.prog 12 #[.float .f64 x, .int .i64 1] w fun e w' => e = .returned (.bool (decide (x = inf))) ∧ w = w' := by
  have := isinf_any x w
  rw [ord_eq] at this
  rw [← order_max x hx]
  exact this

/-- What is no NaN stands to 0 somehow. -/
theorem order_none (x : Nat) (h : FloatKind.f64.format.order x x = some .eq) : FloatKind.f64.format.order x 0 = some .lt ∨ FloatKind.f64.format.order x 0 = some .eq ∨ FloatKind.f64.format.order x 0 = some .gt := by
  rw [ord_eq] at *
  unfold Ieee.Format.order at *
  rw [read_zero]
  cases hr : Ieee.double.read x with
  | nan a b => rw [hr] at h; cases h
  | infinity s => cases s <;> simp [Ieee.Datum.order]
  | number s m e =>
    simp only [Ieee.Datum.order]
    generalize compare (α := Int) _ _ = o
    cases o <;> simp

theorem count_any (x : Nat) (hx : x < 2 * sgn) (w : World) : Calls Try.prog 15 #[.float .f64 x] w fun e w' => e = .returned (.float .f64 (cnt x)) ∧ w = w' := by
  have h1 := order_self x hx
  have h2 := order_zero x hx
  rw [← ord_eq] at h1 h2
  clear hx
  rcases h1 with h1 | ⟨h1, hc⟩
  · rcases h2 with ⟨hc, h2⟩ | ⟨h0, hi, hc, h2⟩
    · rw [hc]
      clear hc
      rcases h2 with h2 | h2 | h2
      · go_enter Try.func15, Try.ntmps15
        go_wp2
        go_ret
        exact ⟨rfl, rfl⟩
      · go_enter Try.func15, Try.ntmps15
        go_wp2
        go_ret
        exact ⟨rfl, rfl⟩
      · exact absurd h2 (by rcases order_none x h1 with h | h | h <;> rw [h] <;> simp)
    · rw [hc]
      clear hc h0 hi
      go_enter Try.func15, Try.ntmps15
      go_wp2
      go_ret
      exact ⟨rfl, rfl⟩
  · rw [hc]
    clear hc h2
    go_enter Try.func15, Try.ntmps15
    go_wp2
    go_ret
    exact ⟨rfl, rfl⟩

theorem float_at {w : World} {A : Option Addr} {n : Nat} {l : List Nat} (hC : kF.C w A n l) (k : Nat) (hk : k < n) : ∃ ad, A = some ad ∧ w.cell? (ad.add k) = some (.float .f64 (l.getD k 0)) := by
  obtain ⟨ad, c, rfl, _, hK, hc⟩ := Kd.C_get hC 0 (k : Int) (by omega) (by omega)
  refine ⟨ad, rfl, ?_⟩
  have hK' : c = [.float .f64 (l.getD k 0)] := hK
  have h := hc 0 _ (by rw [hK']; rfl)
  have e : (k : Int).toNat * kF.sz + 0 = k := by
    show (k : Int).toNat * 1 + 0 = k
    omega
  rwa [e] at h

/-- What counts of the first k. -/
def cs (l : List Nat) (k : Nat) : List Nat := (l.take k).map cnt ++ List.replicate (l.length - k) 0
theorem cs_zero (l : List Nat) : cs l 0 = List.replicate l.length 0 := by simp [cs]
theorem cs_all (l : List Nat) : cs l l.length = l.map cnt := by simp [cs]
theorem cs_len (l : List Nat) (k : Nat) (h : k ≤ l.length) : (cs l k).length = l.length := by simp [cs]; omega
theorem cs_set (l : List Nat) (k : Nat) (h : k < l.length) : (cs l k).set k (cnt (l.getD k 0)) = cs l (k + 1) := by
  unfold cs
  have hl : ((l.take k).map cnt).length = k := by simp; omega
  rw [List.set_append_right _ _ (by omega), hl, Nat.sub_self]
  have e : l.length - k = (l.length - (k + 1)) + 1 := by omega
  rw [e, List.replicate_succ, List.set_cons_zero, List.take_succ_eq_append_getElem h, List.map_append, List.append_assoc]
  simp [List.getD_eq_getElem?_getD, List.getElem?_eq_getElem h]

def CountsP (w : World) (l : List Nat) (e : Ending) (w' : World) : Prop :=
  ∃ v : Value, e = .returned v ∧ kF.R 28 w' w.heap.size (fun k => w.heap.size ≤ k) v (l.map cnt) ∧ Below w.heap.size w w' ∧ ∃ b, v.ownBlock = some b

set_option maxRecDepth 100000 in
theorem counts_any (A : Option Addr) (cap : Nat) (l : List Nat) (w : World) (hC : kF.C w A l.length l) (hl : l.length ≤ 100) (hw : ∀ x ∈ l, x < 2 * sgn) : Calls Try.prog 31 #[.slice A l.length cap] w (CountsP w l) := by
  have HC := Lib.hid hC
  have HW := Lib.hid hw
  clear hC hw
  go_enter Try.func31, Try.ntmps31
  go_wp2_with (at_make; go_loud (refine Kd.R_make kF (w0 := w) w.heap.size 28 rfl rfl 22 (.tmp 7) (.tmp 7) rfl (l.length : Int) rfl rfl Try.underlying22 (.float .f64 0) 8 info28 rfl (by decide) (by omega) 0 (ok := fun k => w.heap.size ≤ k) (okp := fun _ => False) rfl (fun _ h => h.elim) (Nat.le_refl _) (by omega) (by omega) (Below.refl _ _) (Nat.le_refl _) ?_); intro v1 w1 hr hb _ ho)
  have hr' : kF.R 28 w1 w.heap.size (fun k => w.heap.size ≤ k) v1 (cs l 0) := by rw [cs_zero]; simpa using hr
  have HR := Lib.hid hr'
  have HB := Lib.hid hb
  have HO := Lib.hid ho
  clear hr hr' hb ho
  by_cases h0 : l.length = 0
  · have hnil : l = [] := List.eq_nil_of_length_eq_zero h0
    subst hnil
    clear h0
    go_wp2_with fail
    go_loopw [11] (fun i wr => i = .int .i64 0 ∧ wr = w1) (fun _ _ => 0)
    case atStart => exact ⟨rfl, rfl⟩
    case round =>
      obtain ⟨rfl, rfl⟩ := hrel
      go_wp2_with fail
      go_ret
      exact ⟨v1, rfl, HR.out, HB.out, by obtain ⟨b, hb, _⟩ := HO.out; exact ⟨b, hb⟩⟩
  · obtain ⟨g, cap1, rfl, hg, _, _⟩ := Kd.R_form HR.out (by rw [cs_len _ _ (Nat.zero_le _)]; omega)
    rw [cs_len _ _ (Nat.zero_le _)] at HR HO ⊢
    go_loopw [11] (fun i wr => ∃ k : Nat, k ≤ l.length ∧ i = .int .i64 k ∧ kF.R 28 wr w.heap.size (fun k => w.heap.size ≤ k) (.slice (some ⟨g, 0, none⟩) l.length cap1) (cs l k) ∧ Below w.heap.size w wr) (fun i _ => l.length - (intOf i).toNat)
    case atStart => exact ⟨0, Nat.zero_le _, rfl, HR.out, HB.out⟩
    case round =>
      obtain ⟨k, hk, rfl, hr, hb⟩ := hrel
      have hlk := cs_len l k hk
      have hr2 : kF.R 28 wr w.heap.size (fun k => w.heap.size ≤ k) (.slice (some ⟨g, 0, none⟩) (cs l k).length cap1) (cs l k) := by rw [hlk]; exact hr
      by_cases hlt : k < l.length
      · obtain ⟨ad, rfl, hx⟩ := float_at HC.out k hlt
        have hcell := (hb.cell (block_lt_of_cell hx)).trans hx
        have hmem : l.getD k 0 < 2 * sgn := HW.out _ (by rw [List.getD_eq_getElem?_getD, List.getElem?_eq_getElem hlt]; exact List.getElem_mem _)
        obtain ⟨c1, f1⟩ := Kd.R_cell (enc := Value.float .f64) (h1 := fun _ => rfl) 0 hr2 (k : Int) (by omega) (by omega)
        obtain ⟨hp, hg2⟩ := Kd.R_put (enc := Value.float .f64) (h1 := fun _ => rfl) hr2 (k : Int) (cnt (l.getD k 0))
        have e : (k : Int).toNat = k := by omega
        rw [e] at c1 f1 hp hg2
        rw [cs_set l k hlt, hlk] at hp
        have HP := Lib.hid hp
        have HB2 := Lib.hid (hb.setCell (p := ⟨g, k, none⟩) hg (.float .f64 (cnt (l.getD k 0))))
        have HM := Lib.hid hmem
        clear hp hg2 hr hr2 hx hlk e hb hmem HR HB HO
        generalize l.getD k 0 = x at *
        go_wp2_with (go_at_call 15; refine (count_any x HM.out _).mono ?_; rintro e w' ⟨rfl, rfl⟩)
        go_roundw
        case rel => exact ⟨k + 1, by omega, by go_num, HP.out, HB2.out⟩
        case measure => simp [intOf]; omega
      · obtain rfl : k = l.length := by omega
        rw [cs_all] at hr
        have HR2 := Lib.hid hr
        clear hr hr2 hlk HR HB HO
        go_wp2_with fail
        go_ret
        exact ⟨_, rfl, HR2.out, hb, g, rfl⟩
end Go.Proofs.Ytakfkkpcdnphlaa
