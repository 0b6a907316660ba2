/- The walk of the law QbitAsks, case by case. -/
import Derived.Test.YthnaijmbppmbjaaQC
namespace Go.Proofs.Ythnaijmbppmbjaa
open Go.RowKit

set_option maxHeartbeats 1000000 in
set_option maxRecDepth 100000 in
theorem asks_0_0 (w : World) : Calls Try.prog 8 #[.int .i64 0, .bool false] w fun e w' => e = .returned (.bool true) ∧ Below w.heap.size w w' := by
  go_enter Try.func8, Try.ntmps8
  go_wp2_with fail
  refine (Ask_at 0 false (a := 0) (s := 0) (e := 5) (by rfl) _).mono ?_
  rintro e w1 ⟨rfl, hb1⟩
  go_wp2_with (go_at_call 13; refine (check_any _ _).mono ?_; rintro e w' ⟨rfl, rfl⟩)
  refine (Ask_at 0 false (a := 0) (s := 0) (e := 5) (by rfl) _).mono ?_
  rintro e w2 ⟨rfl, hb2⟩
  go_wp2_with (first | (go_at_call 13; refine (check_any _ _).mono ?_; rintro e w' ⟨rfl, rfl⟩) | (go_at_call_of 17 (Value.int .i64 0); refine (wanted_f 0 (by rfl) _).mono ?_; rintro e w' ⟨rfl, rfl⟩))
  refine (Ask_at 0 true (a := 4) (s := 1) (e := 0) (by rfl) _).mono ?_
  rintro e w3 ⟨rfl, hb3⟩
  go_wp2_with (first | (go_at_call 13; refine (check_any _ _).mono ?_; rintro e w' ⟨rfl, rfl⟩) | (go_at_call 12; refine (awake_any _).mono ?_; rintro e w4 ⟨rfl, hb4⟩))
  go_ret
  exact ⟨rfl, (((hb1).trans (hb2.mono hb1.size)).trans (hb3.mono (Nat.le_trans hb1.size hb2.size))).trans (hb4.mono (Nat.le_trans (Nat.le_trans hb1.size hb2.size) hb3.size))⟩

set_option maxHeartbeats 1000000 in
set_option maxRecDepth 100000 in
theorem asks_0_1 (w : World) : Calls Try.prog 8 #[.int .i64 0, .bool true] w fun e w' => e = .returned (.bool true) ∧ Below w.heap.size w w' := by
  go_enter Try.func8, Try.ntmps8
  go_wp2_with fail
  refine (Ask_at 0 true (a := 4) (s := 1) (e := 0) (by rfl) _).mono ?_
  rintro e w1 ⟨rfl, hb1⟩
  go_wp2_with (go_at_call 13; refine (check_any _ _).mono ?_; rintro e w' ⟨rfl, rfl⟩)
  refine (Ask_at 4 true (a := 4) (s := 0) (e := 5) (by rfl) _).mono ?_
  rintro e w2 ⟨rfl, hb2⟩
  go_wp2_with (first | (go_at_call 13; refine (check_any _ _).mono ?_; rintro e w' ⟨rfl, rfl⟩) | (go_at_call_of 17 (Value.int .i64 4); refine (wanted_t 4 (by rfl) _).mono ?_; rintro e w' ⟨rfl, rfl⟩) | (go_at_call_of 17 (Value.int .i64 0); refine (wanted_f 0 (by rfl) _).mono ?_; rintro e w' ⟨rfl, rfl⟩))
  refine (Ask_at 4 false (a := 5) (s := 0) (e := 0) (by rfl) _).mono ?_
  rintro e w3 ⟨rfl, hb3⟩
  go_wp2_with (first | (go_at_call 13; refine (check_any _ _).mono ?_; rintro e w' ⟨rfl, rfl⟩) | (go_at_call 12; refine (awake_any _).mono ?_; rintro e w4 ⟨rfl, hb4⟩))
  go_ret
  exact ⟨rfl, (((hb1).trans (hb2.mono hb1.size)).trans (hb3.mono (Nat.le_trans hb1.size hb2.size))).trans (hb4.mono (Nat.le_trans (Nat.le_trans hb1.size hb2.size) hb3.size))⟩

set_option maxHeartbeats 1000000 in
set_option maxRecDepth 100000 in
theorem asks_1_0 (w : World) : Calls Try.prog 8 #[.int .i64 1, .bool false] w fun e w' => e = .returned (.bool true) ∧ Below w.heap.size w w' := by
  go_enter Try.func8, Try.ntmps8
  go_wp2_with fail
  refine (Ask_at 1 false (a := 2) (s := 2) (e := 0) (by rfl) _).mono ?_
  rintro e w1 ⟨rfl, hb1⟩
  go_wp2_with (go_at_call 13; refine (check_any _ _).mono ?_; rintro e w' ⟨rfl, rfl⟩)
  refine (Ask_at 2 false (a := 2) (s := 0) (e := 5) (by rfl) _).mono ?_
  rintro e w2 ⟨rfl, hb2⟩
  go_wp2_with (first | (go_at_call 13; refine (check_any _ _).mono ?_; rintro e w' ⟨rfl, rfl⟩) | (go_at_call_of 17 (Value.int .i64 2); refine (wanted_f 2 (by rfl) _).mono ?_; rintro e w' ⟨rfl, rfl⟩) | (go_at_call_of 17 (Value.int .i64 1); refine (wanted_t 1 (by rfl) _).mono ?_; rintro e w' ⟨rfl, rfl⟩))
  refine (Ask_at 2 true (a := 3) (s := 0) (e := 0) (by rfl) _).mono ?_
  rintro e w3 ⟨rfl, hb3⟩
  go_wp2_with (first | (go_at_call 13; refine (check_any _ _).mono ?_; rintro e w' ⟨rfl, rfl⟩) | (go_at_call 12; refine (awake_any _).mono ?_; rintro e w4 ⟨rfl, hb4⟩))
  go_ret
  exact ⟨rfl, (((hb1).trans (hb2.mono hb1.size)).trans (hb3.mono (Nat.le_trans hb1.size hb2.size))).trans (hb4.mono (Nat.le_trans (Nat.le_trans hb1.size hb2.size) hb3.size))⟩

set_option maxHeartbeats 1000000 in
set_option maxRecDepth 100000 in
theorem asks_1_1 (w : World) : Calls Try.prog 8 #[.int .i64 1, .bool true] w fun e w' => e = .returned (.bool true) ∧ Below w.heap.size w w' := by
  go_enter Try.func8, Try.ntmps8
  go_wp2_with fail
  refine (Ask_at 1 true (a := 1) (s := 0) (e := 5) (by rfl) _).mono ?_
  rintro e w1 ⟨rfl, hb1⟩
  go_wp2_with (go_at_call 13; refine (check_any _ _).mono ?_; rintro e w' ⟨rfl, rfl⟩)
  refine (Ask_at 1 true (a := 1) (s := 0) (e := 5) (by rfl) _).mono ?_
  rintro e w2 ⟨rfl, hb2⟩
  go_wp2_with (first | (go_at_call 13; refine (check_any _ _).mono ?_; rintro e w' ⟨rfl, rfl⟩) | (go_at_call_of 17 (Value.int .i64 1); refine (wanted_t 1 (by rfl) _).mono ?_; rintro e w' ⟨rfl, rfl⟩))
  refine (Ask_at 1 false (a := 2) (s := 2) (e := 0) (by rfl) _).mono ?_
  rintro e w3 ⟨rfl, hb3⟩
  go_wp2_with (first | (go_at_call 13; refine (check_any _ _).mono ?_; rintro e w' ⟨rfl, rfl⟩) | (go_at_call 12; refine (awake_any _).mono ?_; rintro e w4 ⟨rfl, hb4⟩))
  go_ret
  exact ⟨rfl, (((hb1).trans (hb2.mono hb1.size)).trans (hb3.mono (Nat.le_trans hb1.size hb2.size))).trans (hb4.mono (Nat.le_trans (Nat.le_trans hb1.size hb2.size) hb3.size))⟩

set_option maxHeartbeats 1000000 in
set_option maxRecDepth 100000 in
theorem asks_2_0 (w : World) : Calls Try.prog 8 #[.int .i64 2, .bool false] w fun e w' => e = .returned (.bool true) ∧ Below w.heap.size w w' := by
  go_enter Try.func8, Try.ntmps8
  go_wp2_with fail
  refine (Ask_at 2 false (a := 2) (s := 0) (e := 5) (by rfl) _).mono ?_
  rintro e w1 ⟨rfl, hb1⟩
  go_wp2_with (go_at_call 13; refine (check_any _ _).mono ?_; rintro e w' ⟨rfl, rfl⟩)
  refine (Ask_at 2 false (a := 2) (s := 0) (e := 5) (by rfl) _).mono ?_
  rintro e w2 ⟨rfl, hb2⟩
  go_wp2_with (first | (go_at_call 13; refine (check_any _ _).mono ?_; rintro e w' ⟨rfl, rfl⟩) | (go_at_call_of 17 (Value.int .i64 2); refine (wanted_f 2 (by rfl) _).mono ?_; rintro e w' ⟨rfl, rfl⟩))
  refine (Ask_at 2 true (a := 3) (s := 0) (e := 0) (by rfl) _).mono ?_
  rintro e w3 ⟨rfl, hb3⟩
  go_wp2_with (first | (go_at_call 13; refine (check_any _ _).mono ?_; rintro e w' ⟨rfl, rfl⟩) | (go_at_call 12; refine (awake_any _).mono ?_; rintro e w4 ⟨rfl, hb4⟩))
  go_ret
  exact ⟨rfl, (((hb1).trans (hb2.mono hb1.size)).trans (hb3.mono (Nat.le_trans hb1.size hb2.size))).trans (hb4.mono (Nat.le_trans (Nat.le_trans hb1.size hb2.size) hb3.size))⟩

set_option maxHeartbeats 1000000 in
set_option maxRecDepth 100000 in
theorem asks_2_1 (w : World) : Calls Try.prog 8 #[.int .i64 2, .bool true] w fun e w' => e = .returned (.bool true) ∧ Below w.heap.size w w' := by
  go_enter Try.func8, Try.ntmps8
  go_wp2_with fail
  refine (Ask_at 2 true (a := 3) (s := 0) (e := 0) (by rfl) _).mono ?_
  rintro e w1 ⟨rfl, hb1⟩
  go_wp2_with (go_at_call 13; refine (check_any _ _).mono ?_; rintro e w' ⟨rfl, rfl⟩)
  refine (Ask_at 3 true (a := 3) (s := 0) (e := 5) (by rfl) _).mono ?_
  rintro e w2 ⟨rfl, hb2⟩
  go_wp2_with (first | (go_at_call 13; refine (check_any _ _).mono ?_; rintro e w' ⟨rfl, rfl⟩) | (go_at_call_of 17 (Value.int .i64 3); refine (wanted_t 3 (by rfl) _).mono ?_; rintro e w' ⟨rfl, rfl⟩) | (go_at_call_of 17 (Value.int .i64 2); refine (wanted_f 2 (by rfl) _).mono ?_; rintro e w' ⟨rfl, rfl⟩))
  refine (Ask_at 3 false (a := 2) (s := 0) (e := 0) (by rfl) _).mono ?_
  rintro e w3 ⟨rfl, hb3⟩
  go_wp2_with (first | (go_at_call 13; refine (check_any _ _).mono ?_; rintro e w' ⟨rfl, rfl⟩) | (go_at_call 12; refine (awake_any _).mono ?_; rintro e w4 ⟨rfl, hb4⟩))
  go_ret
  exact ⟨rfl, (((hb1).trans (hb2.mono hb1.size)).trans (hb3.mono (Nat.le_trans hb1.size hb2.size))).trans (hb4.mono (Nat.le_trans (Nat.le_trans hb1.size hb2.size) hb3.size))⟩

set_option maxHeartbeats 1000000 in
set_option maxRecDepth 100000 in
theorem asks_3_0 (w : World) : Calls Try.prog 8 #[.int .i64 3, .bool false] w fun e w' => e = .returned (.bool true) ∧ Below w.heap.size w w' := by
  go_enter Try.func8, Try.ntmps8
  go_wp2_with fail
  refine (Ask_at 3 false (a := 2) (s := 0) (e := 0) (by rfl) _).mono ?_
  rintro e w1 ⟨rfl, hb1⟩
  go_wp2_with (go_at_call 13; refine (check_any _ _).mono ?_; rintro e w' ⟨rfl, rfl⟩)
  refine (Ask_at 2 false (a := 2) (s := 0) (e := 5) (by rfl) _).mono ?_
  rintro e w2 ⟨rfl, hb2⟩
  go_wp2_with (first | (go_at_call 13; refine (check_any _ _).mono ?_; rintro e w' ⟨rfl, rfl⟩) | (go_at_call_of 17 (Value.int .i64 2); refine (wanted_f 2 (by rfl) _).mono ?_; rintro e w' ⟨rfl, rfl⟩) | (go_at_call_of 17 (Value.int .i64 3); refine (wanted_t 3 (by rfl) _).mono ?_; rintro e w' ⟨rfl, rfl⟩))
  refine (Ask_at 2 true (a := 3) (s := 0) (e := 0) (by rfl) _).mono ?_
  rintro e w3 ⟨rfl, hb3⟩
  go_wp2_with (first | (go_at_call 13; refine (check_any _ _).mono ?_; rintro e w' ⟨rfl, rfl⟩) | (go_at_call 12; refine (awake_any _).mono ?_; rintro e w4 ⟨rfl, hb4⟩))
  go_ret
  exact ⟨rfl, (((hb1).trans (hb2.mono hb1.size)).trans (hb3.mono (Nat.le_trans hb1.size hb2.size))).trans (hb4.mono (Nat.le_trans (Nat.le_trans hb1.size hb2.size) hb3.size))⟩

set_option maxHeartbeats 1000000 in
set_option maxRecDepth 100000 in
theorem asks_3_1 (w : World) : Calls Try.prog 8 #[.int .i64 3, .bool true] w fun e w' => e = .returned (.bool true) ∧ Below w.heap.size w w' := by
  go_enter Try.func8, Try.ntmps8
  go_wp2_with fail
  refine (Ask_at 3 true (a := 3) (s := 0) (e := 5) (by rfl) _).mono ?_
  rintro e w1 ⟨rfl, hb1⟩
  go_wp2_with (go_at_call 13; refine (check_any _ _).mono ?_; rintro e w' ⟨rfl, rfl⟩)
  refine (Ask_at 3 true (a := 3) (s := 0) (e := 5) (by rfl) _).mono ?_
  rintro e w2 ⟨rfl, hb2⟩
  go_wp2_with (first | (go_at_call 13; refine (check_any _ _).mono ?_; rintro e w' ⟨rfl, rfl⟩) | (go_at_call_of 17 (Value.int .i64 3); refine (wanted_t 3 (by rfl) _).mono ?_; rintro e w' ⟨rfl, rfl⟩))
  refine (Ask_at 3 false (a := 2) (s := 0) (e := 0) (by rfl) _).mono ?_
  rintro e w3 ⟨rfl, hb3⟩
  go_wp2_with (first | (go_at_call 13; refine (check_any _ _).mono ?_; rintro e w' ⟨rfl, rfl⟩) | (go_at_call 12; refine (awake_any _).mono ?_; rintro e w4 ⟨rfl, hb4⟩))
  go_ret
  exact ⟨rfl, (((hb1).trans (hb2.mono hb1.size)).trans (hb3.mono (Nat.le_trans hb1.size hb2.size))).trans (hb4.mono (Nat.le_trans (Nat.le_trans hb1.size hb2.size) hb3.size))⟩

set_option maxHeartbeats 1000000 in
set_option maxRecDepth 100000 in
theorem asks_4_0 (w : World) : Calls Try.prog 8 #[.int .i64 4, .bool false] w fun e w' => e = .returned (.bool true) ∧ Below w.heap.size w w' := by
  go_enter Try.func8, Try.ntmps8
  go_wp2_with fail
  refine (Ask_at 4 false (a := 5) (s := 0) (e := 0) (by rfl) _).mono ?_
  rintro e w1 ⟨rfl, hb1⟩
  go_wp2_with (go_at_call 13; refine (check_any _ _).mono ?_; rintro e w' ⟨rfl, rfl⟩)
  refine (Ask_at 5 false (a := 5) (s := 0) (e := 5) (by rfl) _).mono ?_
  rintro e w2 ⟨rfl, hb2⟩
  go_wp2_with (first | (go_at_call 13; refine (check_any _ _).mono ?_; rintro e w' ⟨rfl, rfl⟩) | (go_at_call_of 17 (Value.int .i64 5); refine (wanted_f 5 (by rfl) _).mono ?_; rintro e w' ⟨rfl, rfl⟩) | (go_at_call_of 17 (Value.int .i64 4); refine (wanted_t 4 (by rfl) _).mono ?_; rintro e w' ⟨rfl, rfl⟩))
  refine (Ask_at 5 true (a := 4) (s := 0) (e := 0) (by rfl) _).mono ?_
  rintro e w3 ⟨rfl, hb3⟩
  go_wp2_with (first | (go_at_call 13; refine (check_any _ _).mono ?_; rintro e w' ⟨rfl, rfl⟩) | (go_at_call 12; refine (awake_any _).mono ?_; rintro e w4 ⟨rfl, hb4⟩))
  go_ret
  exact ⟨rfl, (((hb1).trans (hb2.mono hb1.size)).trans (hb3.mono (Nat.le_trans hb1.size hb2.size))).trans (hb4.mono (Nat.le_trans (Nat.le_trans hb1.size hb2.size) hb3.size))⟩

set_option maxHeartbeats 1000000 in
set_option maxRecDepth 100000 in
theorem asks_4_1 (w : World) : Calls Try.prog 8 #[.int .i64 4, .bool true] w fun e w' => e = .returned (.bool true) ∧ Below w.heap.size w w' := by
  go_enter Try.func8, Try.ntmps8
  go_wp2_with fail
  refine (Ask_at 4 true (a := 4) (s := 0) (e := 5) (by rfl) _).mono ?_
  rintro e w1 ⟨rfl, hb1⟩
  go_wp2_with (go_at_call 13; refine (check_any _ _).mono ?_; rintro e w' ⟨rfl, rfl⟩)
  refine (Ask_at 4 true (a := 4) (s := 0) (e := 5) (by rfl) _).mono ?_
  rintro e w2 ⟨rfl, hb2⟩
  go_wp2_with (first | (go_at_call 13; refine (check_any _ _).mono ?_; rintro e w' ⟨rfl, rfl⟩) | (go_at_call_of 17 (Value.int .i64 4); refine (wanted_t 4 (by rfl) _).mono ?_; rintro e w' ⟨rfl, rfl⟩))
  refine (Ask_at 4 false (a := 5) (s := 0) (e := 0) (by rfl) _).mono ?_
  rintro e w3 ⟨rfl, hb3⟩
  go_wp2_with (first | (go_at_call 13; refine (check_any _ _).mono ?_; rintro e w' ⟨rfl, rfl⟩) | (go_at_call 12; refine (awake_any _).mono ?_; rintro e w4 ⟨rfl, hb4⟩))
  go_ret
  exact ⟨rfl, (((hb1).trans (hb2.mono hb1.size)).trans (hb3.mono (Nat.le_trans hb1.size hb2.size))).trans (hb4.mono (Nat.le_trans (Nat.le_trans hb1.size hb2.size) hb3.size))⟩

set_option maxHeartbeats 1000000 in
set_option maxRecDepth 100000 in
theorem asks_5_0 (w : World) : Calls Try.prog 8 #[.int .i64 5, .bool false] w fun e w' => e = .returned (.bool true) ∧ Below w.heap.size w w' := by
  go_enter Try.func8, Try.ntmps8
  go_wp2_with fail
  refine (Ask_at 5 false (a := 5) (s := 0) (e := 5) (by rfl) _).mono ?_
  rintro e w1 ⟨rfl, hb1⟩
  go_wp2_with (go_at_call 13; refine (check_any _ _).mono ?_; rintro e w' ⟨rfl, rfl⟩)
  refine (Ask_at 5 false (a := 5) (s := 0) (e := 5) (by rfl) _).mono ?_
  rintro e w2 ⟨rfl, hb2⟩
  go_wp2_with (first | (go_at_call 13; refine (check_any _ _).mono ?_; rintro e w' ⟨rfl, rfl⟩) | (go_at_call_of 17 (Value.int .i64 5); refine (wanted_f 5 (by rfl) _).mono ?_; rintro e w' ⟨rfl, rfl⟩))
  refine (Ask_at 5 true (a := 4) (s := 0) (e := 0) (by rfl) _).mono ?_
  rintro e w3 ⟨rfl, hb3⟩
  go_wp2_with (first | (go_at_call 13; refine (check_any _ _).mono ?_; rintro e w' ⟨rfl, rfl⟩) | (go_at_call 12; refine (awake_any _).mono ?_; rintro e w4 ⟨rfl, hb4⟩))
  go_ret
  exact ⟨rfl, (((hb1).trans (hb2.mono hb1.size)).trans (hb3.mono (Nat.le_trans hb1.size hb2.size))).trans (hb4.mono (Nat.le_trans (Nat.le_trans hb1.size hb2.size) hb3.size))⟩

set_option maxHeartbeats 1000000 in
set_option maxRecDepth 100000 in
theorem asks_5_1 (w : World) : Calls Try.prog 8 #[.int .i64 5, .bool true] w fun e w' => e = .returned (.bool true) ∧ Below w.heap.size w w' := by
  go_enter Try.func8, Try.ntmps8
  go_wp2_with fail
  refine (Ask_at 5 true (a := 4) (s := 0) (e := 0) (by rfl) _).mono ?_
  rintro e w1 ⟨rfl, hb1⟩
  go_wp2_with (go_at_call 13; refine (check_any _ _).mono ?_; rintro e w' ⟨rfl, rfl⟩)
  refine (Ask_at 4 true (a := 4) (s := 0) (e := 5) (by rfl) _).mono ?_
  rintro e w2 ⟨rfl, hb2⟩
  go_wp2_with (first | (go_at_call 13; refine (check_any _ _).mono ?_; rintro e w' ⟨rfl, rfl⟩) | (go_at_call_of 17 (Value.int .i64 4); refine (wanted_t 4 (by rfl) _).mono ?_; rintro e w' ⟨rfl, rfl⟩) | (go_at_call_of 17 (Value.int .i64 5); refine (wanted_f 5 (by rfl) _).mono ?_; rintro e w' ⟨rfl, rfl⟩))
  refine (Ask_at 4 false (a := 5) (s := 0) (e := 0) (by rfl) _).mono ?_
  rintro e w3 ⟨rfl, hb3⟩
  go_wp2_with (first | (go_at_call 13; refine (check_any _ _).mono ?_; rintro e w' ⟨rfl, rfl⟩) | (go_at_call 12; refine (awake_any _).mono ?_; rintro e w4 ⟨rfl, hb4⟩))
  go_ret
  exact ⟨rfl, (((hb1).trans (hb2.mono hb1.size)).trans (hb3.mono (Nat.le_trans hb1.size hb2.size))).trans (hb4.mono (Nat.le_trans (Nat.le_trans hb1.size hb2.size) hb3.size))⟩

set_option maxRecDepth 100000 in
theorem asks_bad (q : Int) (y : Bool) (h : q < 0 ∨ 6 ≤ q) (w : World) : Calls Try.prog 8 #[.int .i64 q, .bool y] w fun e w' => e = .returned (.bool true) ∧ Below w.heap.size w w' := by
  have hg : askF q y = (q, 0, 1) := by unfold askF; rw [if_neg (by omega)]
  have H := Lib.hid hg
  clear hg
  go_enter Try.func8, Try.ntmps8
  go_wp2_with fail
  refine (Ask_at q y H.out _).mono ?_
  rintro e w1 ⟨rfl, hb1⟩
  go_wp2_with (first
    | (go_at_call 13; refine (check_bad q h _).mono ?_; rintro e w' ⟨rfl, rfl⟩)
    | (go_at_call 12; refine (awake_any _).mono ?_; rintro e w2 ⟨rfl, hb2⟩))
  go_ret
  exact ⟨rfl, hb1.trans (hb2.mono hb1.size)⟩

theorem asks_walk (q : Int) (y : Bool) (w : World) : Calls Try.prog 8 #[.int .i64 q, .bool y] w fun e w' => e = .returned (.bool true) ∧ Below w.heap.size w w' := by
  by_cases h : q < 0 ∨ 6 ≤ q
  · exact asks_bad q y h w
  · rcases six q (by omega) (by omega) with rfl | rfl | rfl | rfl | rfl | rfl
    · cases y
      · exact asks_0_0 w
      · exact asks_0_1 w
    · cases y
      · exact asks_1_0 w
      · exact asks_1_1 w
    · cases y
      · exact asks_2_0 w
      · exact asks_2_1 w
    · cases y
      · exact asks_3_0 w
      · exact asks_3_1 w
    · cases y
      · exact asks_4_0 w
      · exact asks_4_1 w
    · cases y
      · exact asks_5_0 w
      · exact asks_5_1 w

end Go.Proofs.Ythnaijmbppmbjaa
