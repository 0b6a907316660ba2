/- The walk of the law QbitLone. -/
import Derived.Test.YthnaijmbppmbjaaQC
import Derived.Test.YthnaijmbppmbjaaWWords

namespace Go.Proofs.Ythnaijmbppmbjaa
open Go.RowKit Go.Proofs.YthnaijmbppmbjaaW.PrintWords

theorem bool_at {w : World} {A : Option Addr} {n : Nat} {l : List Bool} (hC : Kd.bool.C w A n l) (k : Nat) (hk : k < n) : ∃ ad, A = some ad ∧ w.cell? (ad.add k) = some (.bool (l.getD k false)) := by
  obtain ⟨ad, c, rfl, _, hK, hc⟩ := Kd.C_get hC false (k : Int) (by omega) (by omega)
  refine ⟨ad, rfl, ?_⟩
  have hK' : c = [.bool (l.getD k false)] := hK
  have h := hc 0 _ (by rw [hK']; rfl)
  have e : (k : Int).toNat * Kd.bool.sz + 0 = k := by
    show (k : Int).toNat * 1 + 0 = k
    omega
  rwa [e] at h

set_option maxHeartbeats 4000000 in
set_option maxRecDepth 100000 in
theorem lone_walk (A : Option Addr) (cap : Nat) (l : List Bool) (w : World) (hC : Kd.bool.C w A l.length l) :
    Calls Try.prog 6 #[.slice A l.length cap] w fun e w' => e = .returned (.bool true) ∧ Below w.heap.size w w' := by
  have hlen : l.length ≤ 9223372036854775807 := hC.2.1
  have HC := Lib.hid hC
  clear hC
  go_enter Try.func6, Try.ntmps6
  go_wp2_with fail
  go_loopw [3, 4] (fun q i wr => ∃ (k : Nat) (qv : Int), k ≤ l.length ∧ k ≤ 100 ∧ i = .int .i64 k ∧ q = .int .i64 qv ∧ (qv = 0 ∨ qv = 1) ∧ Below w.heap.size w wr) (fun _ i _ => l.length - (intOf i).toNat)
  case atStart => exact ⟨0, 0, Nat.zero_le _, by omega, rfl, rfl, Or.inl rfl, Below.refl _ _⟩
  case round =>
    obtain ⟨k, qv, hk, hk2, rfl, rfl, hqv, hb⟩ := hrel
    by_cases hlt : k < l.length ∧ k < 100
    · obtain ⟨h1, h2⟩ := hlt
      obtain ⟨ad, rfl, h⟩ := bool_at HC.out k h1
      have hbl0 : (ad.add k).block < w.heap.size := block_lt_of_cell h
      have hcell : wr.cell? (ad.add k) = some (.bool (l.getD k false)) := (hb.cell hbl0).trans h
      have hbl : (ad.add k).block < wr.heap.size := Nat.lt_of_lt_of_le hbl0 hb.size
      clear h HC
      generalize l.getD k false = x at *
      rcases hqv with rfl | rfl <;> cases x
      · go_wp2_with fail
        refine (Got_at 0 false true (a := 0) (s := 0) (e := 0) (by rfl) _).mono ?_
        rintro e w1 ⟨rfl, hb1⟩
        have hcell1 : w1.cell? (ad.add k) = some (.bool false) := (hb1.cell hbl).trans hcell
        have hs1 := hb1.size
        go_wp2_with fail
        refine (Got_at 0 false false (a := 0) (s := 0) (e := 0) (by rfl) _).mono ?_
        rintro e w2 ⟨rfl, hb2⟩
        have hcell2 : w2.cell? (ad.add k) = some (.bool false) := (hb2.cell (Nat.lt_of_lt_of_le hbl hs1)).trans hcell1
        go_wp2_with fail
        go_roundw
        case rel => exact ⟨k + 1, 0, by omega, by omega, by go_num, rfl, by omega, hb.trans ((hb1.mono hb.size).trans (hb2.mono (Nat.le_trans hb.size hs1)))⟩
        case measure => simp [intOf]; omega
      · go_wp2_with fail
        refine (Got_at 0 true true (a := 1) (s := 1) (e := 0) (by rfl) _).mono ?_
        rintro e w1 ⟨rfl, hb1⟩
        have hcell1 : w1.cell? (ad.add k) = some (.bool true) := (hb1.cell hbl).trans hcell
        have hs1 := hb1.size
        go_wp2_with fail
        refine (Got_at 0 true false (a := 0) (s := 2) (e := 0) (by rfl) _).mono ?_
        rintro e w2 ⟨rfl, hb2⟩
        have hcell2 : w2.cell? (ad.add k) = some (.bool true) := (hb2.cell (Nat.lt_of_lt_of_le hbl hs1)).trans hcell1
        go_wp2_with fail
        go_roundw
        case rel => exact ⟨k + 1, 1, by omega, by omega, by go_num, rfl, by omega, hb.trans ((hb1.mono hb.size).trans (hb2.mono (Nat.le_trans hb.size hs1)))⟩
        case measure => simp [intOf]; omega
      · go_wp2_with fail
        refine (Got_at 1 false true (a := 0) (s := 2) (e := 0) (by rfl) _).mono ?_
        rintro e w1 ⟨rfl, hb1⟩
        have hcell1 : w1.cell? (ad.add k) = some (.bool false) := (hb1.cell hbl).trans hcell
        have hs1 := hb1.size
        go_wp2_with fail
        refine (Got_at 0 false false (a := 0) (s := 0) (e := 0) (by rfl) _).mono ?_
        rintro e w2 ⟨rfl, hb2⟩
        have hcell2 : w2.cell? (ad.add k) = some (.bool false) := (hb2.cell (Nat.lt_of_lt_of_le hbl hs1)).trans hcell1
        go_wp2_with fail
        go_roundw
        case rel => exact ⟨k + 1, 0, by omega, by omega, by go_num, rfl, by omega, hb.trans ((hb1.mono hb.size).trans (hb2.mono (Nat.le_trans hb.size hs1)))⟩
        case measure => simp [intOf]; omega
      · go_wp2_with fail
        refine (Got_at 1 true true (a := 1) (s := 0) (e := 0) (by rfl) _).mono ?_
        rintro e w1 ⟨rfl, hb1⟩
        have hcell1 : w1.cell? (ad.add k) = some (.bool true) := (hb1.cell hbl).trans hcell
        have hs1 := hb1.size
        go_wp2_with fail
        refine (Got_at 0 true false (a := 0) (s := 2) (e := 0) (by rfl) _).mono ?_
        rintro e w2 ⟨rfl, hb2⟩
        have hcell2 : w2.cell? (ad.add k) = some (.bool true) := (hb2.cell (Nat.lt_of_lt_of_le hbl hs1)).trans hcell1
        go_wp2_with fail
        go_roundw
        case rel => exact ⟨k + 1, 1, by omega, by omega, by go_num, rfl, by omega, hb.trans ((hb1.mono hb.size).trans (hb2.mono (Nat.le_trans hb.size hs1)))⟩
        case measure => simp [intOf]; omega
    · by_cases h1 : k < l.length
      · have h2 : ¬ k < 100 := fun h2 => hlt ⟨h1, h2⟩
        clear hlt HC
        go_wp2_with (go_at_call 12; refine (awake_any _).mono ?_; rintro e w1 ⟨rfl, hb1⟩)
        go_ret
        exact ⟨rfl, hb.trans (hb1.mono hb.size)⟩
      · clear hlt HC
        go_wp2_with (go_at_call 12; refine (awake_any _).mono ?_; rintro e w1 ⟨rfl, hb1⟩)
        go_ret
        exact ⟨rfl, hb.trans (hb1.mono hb.size)⟩
end Go.Proofs.Ythnaijmbppmbjaa
