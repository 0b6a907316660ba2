/- bytes.Equal; items: octet, same, parts, Check. -/
import Derived.Test.YtkbblbgiheclfaaDoorP0
import Derived.Test.YtkbblbgiheclfaaDoorProg
import Derived.WalkKit
import Derived.WalkLawsBesides
import Derived.Deep.LoopGhost
import Derived.Deep.DeepCutAuto
import Derived.Deep.CutBlock
import Derived.Outline
import Derived.KernelRfl
import Derived.ProofKit
import Derived.Handy
import Derived.Lib.Hide
namespace Go.Proofs.YtkbblbgiheclfaaDoor
open Go.RowKit Go.Proofs.YtkbblbgiheclfaaDoorW.PrintWords

abbrev kB : Kd Int := Kd.int .u8
theorem u8_at {w : World} {A : Option Addr} {n : Nat} {l : List Int} (hC : kB.C w A n l) (k : Nat) (hk : k < n) : ∃ ad, A = some ad ∧ w.cell? (ad.add k) = some (.int .u8 (l.getD k 0)) := by
  obtain ⟨ad, c, rfl, _, hK, hc⟩ := Kd.C_get hC 0 (k : Int) (by omega) (by omega)
  refine ⟨ad, rfl, ?_⟩
  have hK' : c = [.int .u8 (l.getD k 0)] := hK
  have h := hc 0 _ (by rw [hK']; rfl)
  have e : (k : Int).toNat * (Kd.int .u8).sz + 0 = k := by
    show (k : Int).toNat * 1 + 0 = k
    omega
  rwa [e] at h
theorem reads_u8 {w : World} {A : Option Addr} {n : Nat} {xs : List Int} (h : kB.C w A n xs) : ReadsInt w .u8 A n xs := by
  refine ⟨h.1, h.2.1, fun h0 => ?_⟩
  obtain ⟨ad, rfl, _⟩ := u8_at h 0 h0
  refine ⟨ad, rfl, fun j hj => ?_⟩
  obtain ⟨ad2, hA2, hx⟩ := u8_at h j hj
  obtain rfl : ad = ad2 := Option.some.inj hA2
  exact hx
theorem bytes_str {w : World} {A : Option Addr} {c n : Nat} {xs : List Int} (h : kB.C w A n xs) : (convert 22 9 (.slice A n c)).run Tryd.prog w = .ok (.string (strOfNums xs)) w :=
  string_of_reads Tryd.underlying22 Tryd.underlying5 Tryd.underlying9 (reads_u8 h)

theorem equal_any (A B : Option Addr) (c d m n : Nat) (xs ys : List Int) (w : World) (h1 : kB.C w A m xs) (h2 : kB.C w B n ys) (hx : Oct xs) (hy : Oct ys) :
    Calls Tryd.prog 42 #[.slice A m c, .slice B n d] w fun e w' => e = .returned (.bool (decide (xs = ys))) ∧ w = w' := by
  have e1 := bytes_str (c := c) h1
  have e2 := bytes_str (c := d) h2
  rw [← str_eq hx hy]
  clear h1 h2 hx hy
  generalize strOfNums xs = s at *
  generalize strOfNums ys = t at *
  go_enter Tryd.func42, Tryd.ntmps42
  go_wp2
  go_ret
  exact ⟨rfl, rfl⟩

def oct (n : Int) : Bool := decide (0 ≤ n ∧ n ≤ 255)
theorem octet_any (n : Int) (w : World) : Calls Tryd.prog 35 #[.int .i64 n] w fun e w' => e = .returned (.bool (oct n)) ∧ w = w' := by
  have HO := Lib.hid (show oct n = decide (0 ≤ n ∧ n ≤ 255) from rfl)
  by_cases h1 : 0 ≤ n
  · by_cases h2 : n ≤ 255
    · go_enter Tryd.func35, Tryd.ntmps35
      go_wp2
      go_ret
      exact ⟨by rw [HO.out, decide_eq_true ⟨h1, h2⟩]; rfl, rfl⟩
    · go_enter Tryd.func35, Tryd.ntmps35
      go_wp2
      go_ret
      exact ⟨by rw [HO.out, decide_eq_false (by omega)]; rfl, rfl⟩
  · go_enter Tryd.func35, Tryd.ntmps35
    go_wp2
    go_ret
    exact ⟨by rw [HO.out, decide_eq_false (by omega)]; rfl, rfl⟩

def BoolP (w : World) (b : Bool) (e : Ending) (w' : World) : Prop := e = .returned (.bool b) ∧ Below w.heap.size w w'

theorem same_no (k a b k' a' b' : Int) (v v' : Value) (w : World) (h : ¬ (k = k' ∧ a = a' ∧ b = b')) : Calls Tryd.prog 33 #[.agg #[.int .i64 k, .int .i64 a, .int .i64 b, v], .agg #[.int .i64 k', .int .i64 a', .int .i64 b', v']] w (BoolP w false) := by
  by_cases h1 : k = k'
  · by_cases h2 : a = a'
    · have h3 : ¬ b = b' := fun h3 => h ⟨h1, h2, h3⟩
      subst h1
      subst h2
      have h4 : (b == b') = false := beq_eq_false_iff_ne.2 h3
      clear h h3
      go_enter Tryd.func33, Tryd.ntmps33
      go_wp2
      go_ret
      exact ⟨rfl, ((Below.refl _ w).alloc (Nat.le_refl _) _).alloc (by simp) _⟩
    · subst h1
      have h4 : (a == a') = false := beq_eq_false_iff_ne.2 h2
      clear h h2
      go_enter Tryd.func33, Tryd.ntmps33
      go_wp2
      go_ret
      exact ⟨rfl, ((Below.refl _ w).alloc (Nat.le_refl _) _).alloc (by simp) _⟩
  · have h4 : (k == k') = false := beq_eq_false_iff_ne.2 h1
    clear h h1
    go_enter Tryd.func33, Tryd.ntmps33
    go_wp2
    go_ret
    exact ⟨rfl, ((Below.refl _ w).alloc (Nat.le_refl _) _).alloc (by simp) _⟩
theorem same_yes (k a b : Int) (A B : Option Addr) (m n c d : Nat) (xs ys : List Int) (w : World) (h1 : kB.C w A m xs) (h2 : kB.C w B n ys) (hx : Oct xs) (hy : Oct ys) :
    Calls Tryd.prog 33 #[.agg #[.int .i64 k, .int .i64 a, .int .i64 b, .slice A m c], .agg #[.int .i64 k, .int .i64 a, .int .i64 b, .slice B n d]] w (BoolP w (decide (xs = ys))) := by
  have H := Lib.hid (equal_any A B c d m n xs ys _ (Kd.C_alloc (Kd.C_alloc h1 (.cells #[.int .i64 k, .int .i64 a, .int .i64 b, .slice A m c] 25)) (.cells #[.int .i64 k, .int .i64 a, .int .i64 b, .slice B n d] 25)) (Kd.C_alloc (Kd.C_alloc h2 (.cells #[.int .i64 k, .int .i64 a, .int .i64 b, .slice A m c] 25)) (.cells #[.int .i64 k, .int .i64 a, .int .i64 b, .slice B n d] 25)) hx hy)
  clear h1 h2 hx hy
  generalize decide (xs = ys) = r at *
  go_enter Tryd.func33, Tryd.ntmps33
  go_wp2_with (go_at_call 42; refine (H.out).mono ?_; rintro e w' ⟨rfl, rfl⟩)
  go_ret
  exact ⟨rfl, ((Below.refl _ w).alloc (Nat.le_refl _) _).alloc (by simp) _⟩
theorem same_any (x y : It) (A B : Option Addr) (c d : Nat) (w : World) (h1 : kB.C w A x.l.length x.l) (h2 : kB.C w B y.l.length y.l) (hx : Oct x.l) (hy : Oct y.l) :
    Calls Tryd.prog 33 #[.agg #[.int .i64 x.k, .int .i64 x.a, .int .i64 x.b, .slice A x.l.length c], .agg #[.int .i64 y.k, .int .i64 y.a, .int .i64 y.b, .slice B y.l.length d]] w (BoolP w (decide (x = y))) := by
  obtain ⟨k, a, b, l⟩ := x
  obtain ⟨k', a', b', l'⟩ := y
  by_cases h : k = k' ∧ a = a' ∧ b = b'
  · obtain ⟨rfl, rfl, rfl⟩ := h
    have e : decide ((⟨k, a, b, l⟩ : It) = ⟨k, a, b, l'⟩) = decide (l = l') := by simp
    rw [e]
    exact same_yes k a b A B _ _ c d l l' w h1 h2 hx hy
  · have e : decide ((⟨k, a, b, l⟩ : It) = ⟨k', a', b', l'⟩) = false := decide_eq_false (fun he => h (by injection he with h1 h2 h3 h4; exact ⟨h1, h2, h3⟩))
    rw [e]
    exact same_no k a b k' a' b' _ _ w h

/-- The parts that a kind has. -/
def partsV (k a b : Int) (A : Option Addr) (n c : Nat) : Value := if k = 3 then .agg #[.int .i64 k, .int .i64 a, .int .i64 b, .slice none 0 0] else if k = 4 then .agg #[.int .i64 k, .int .i64 a, .int .i64 0, .slice A n c] else .agg #[.int .i64 k, .int .i64 a, .int .i64 0, .slice none 0 0]
def ValP (w : World) (v : Value) (e : Ending) (w' : World) : Prop := e = .returned v ∧ Below w.heap.size w w'
theorem parts_any (k a b : Int) (A : Option Addr) (n c : Nat) (w : World) : Calls Tryd.prog 34 #[.agg #[.int .i64 k, .int .i64 a, .int .i64 b, .slice A n c]] w (ValP w (partsV k a b A n c)) := by
  have HV := Lib.hid (show partsV k a b A n c = if k = 3 then .agg #[.int .i64 k, .int .i64 a, .int .i64 b, .slice none 0 0] else if k = 4 then .agg #[.int .i64 k, .int .i64 a, .int .i64 0, .slice A n c] else .agg #[.int .i64 k, .int .i64 a, .int .i64 0, .slice none 0 0] from rfl)
  by_cases h3 : k = 3
  · rw [if_pos h3] at HV
    have h4 : (k == 4) = false := beq_eq_false_iff_ne.2 (by omega)
    have h3' : (k == 3) = true := beq_iff_eq.2 h3
    clear h3
    go_enter Tryd.func34, Tryd.ntmps34
    go_wp2
    refine bodyPost_ret (v := .agg #[.int .i64 k, .int .i64 a, .int .i64 b, .slice none 0 0]) (by simp [results, Tryd.results34, go_sem]) rfl ⟨by rw [HV.out], ?_⟩
    repeat (first | exact Below.refl _ _ | (refine Below.setCell ?_ (by simp; try omega) _) | (refine Below.alloc ?_ (by simp; try omega) _))
  · rw [if_neg h3] at HV
    have h3' : (k == 3) = false := beq_eq_false_iff_ne.2 h3
    by_cases h4 : k = 4
    · rw [if_pos h4] at HV
      have h4' : (k == 4) = true := beq_iff_eq.2 h4
      clear h3 h4
      go_enter Tryd.func34, Tryd.ntmps34
      go_wp2
      refine bodyPost_ret (v := .agg #[.int .i64 k, .int .i64 a, .int .i64 0, .slice A n c]) (by simp [results, Tryd.results34, go_sem]) rfl ⟨by rw [HV.out], ?_⟩
      repeat (first | exact Below.refl _ _ | (refine Below.setCell ?_ (by simp; try omega) _) | (refine Below.alloc ?_ (by simp; try omega) _))
    · rw [if_neg h4] at HV
      have h4' : (k == 4) = false := beq_eq_false_iff_ne.2 h4
      clear h3 h4
      go_enter Tryd.func34, Tryd.ntmps34
      go_wp2
      refine bodyPost_ret (v := .agg #[.int .i64 k, .int .i64 a, .int .i64 0, .slice none 0 0]) (by simp [results, Tryd.results34, go_sem]) rfl ⟨by rw [HV.out], ?_⟩
      repeat (first | exact Below.refl _ _ | (refine Below.setCell ?_ (by simp; try omega) _) | (refine Below.alloc ?_ (by simp; try omega) _))
end Go.Proofs.YtkbblbgiheclfaaDoor
