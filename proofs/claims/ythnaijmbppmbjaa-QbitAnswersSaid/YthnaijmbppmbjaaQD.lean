/- The walk of the law QbitAnswers, case by case. -/
import Derived.Test.YthnaijmbppmbjaaQC
namespace Go.Proofs.Ythnaijmbppmbjaa
open Go.RowKit

set_option maxHeartbeats 1000000 in
set_option maxRecDepth 100000 in
theorem ans_0_0_0 (w : World) : Calls Try.prog 4 #[.int .i64 0, .bool false, .bool false] w fun e w' => e = .returned (.bool true) ∧ Below w.heap.size w w' := by
  go_enter Try.func4, Try.ntmps4
  go_wp2_with fail
  refine (Got_at 0 false false (a := 0) (s := 0) (e := 0) (by rfl) _).mono ?_
  rintro e w1 ⟨rfl, hb1⟩
  go_wp2_with (go_at_call 13; refine (check_any _ _).mono ?_; rintro e w' ⟨rfl, rfl⟩)
  refine (Got_at 0 false false (a := 0) (s := 0) (e := 0) (by rfl) _).mono ?_
  rintro e w2 ⟨rfl, hb2⟩
  go_wp2_with (first | (go_at_call 13; refine (check_any _ _).mono ?_; rintro e w' ⟨rfl, rfl⟩) | (go_at_call 12; refine (awake_any _).mono ?_; rintro e w3 ⟨rfl, hb3⟩))
  go_ret
  exact ⟨rfl, ((hb1).trans (hb2.mono hb1.size)).trans (hb3.mono (Nat.le_trans hb1.size hb2.size))⟩

set_option maxHeartbeats 1000000 in
set_option maxRecDepth 100000 in
theorem ans_0_0_1 (w : World) : Calls Try.prog 4 #[.int .i64 0, .bool false, .bool true] w fun e w' => e = .returned (.bool true) ∧ Below w.heap.size w w' := by
  go_enter Try.func4, Try.ntmps4
  go_wp2_with fail
  refine (Got_at 0 false true (a := 0) (s := 0) (e := 0) (by rfl) _).mono ?_
  rintro e w1 ⟨rfl, hb1⟩
  go_wp2_with (go_at_call 13; refine (check_any _ _).mono ?_; rintro e w' ⟨rfl, rfl⟩)
  refine (Got_at 0 false true (a := 0) (s := 0) (e := 0) (by rfl) _).mono ?_
  rintro e w2 ⟨rfl, hb2⟩
  go_wp2_with (first | (go_at_call 13; refine (check_any _ _).mono ?_; rintro e w' ⟨rfl, rfl⟩) | (go_at_call 12; refine (awake_any _).mono ?_; rintro e w3 ⟨rfl, hb3⟩))
  go_ret
  exact ⟨rfl, ((hb1).trans (hb2.mono hb1.size)).trans (hb3.mono (Nat.le_trans hb1.size hb2.size))⟩

set_option maxHeartbeats 1000000 in
set_option maxRecDepth 100000 in
theorem ans_0_1_0 (w : World) : Calls Try.prog 4 #[.int .i64 0, .bool true, .bool false] w fun e w' => e = .returned (.bool true) ∧ Below w.heap.size w w' := by
  go_enter Try.func4, Try.ntmps4
  go_wp2_with fail
  refine (Got_at 0 true false (a := 0) (s := 2) (e := 0) (by rfl) _).mono ?_
  rintro e w1 ⟨rfl, hb1⟩
  go_wp2_with (go_at_call 13; refine (check_any _ _).mono ?_; rintro e w' ⟨rfl, rfl⟩)
  refine (Got_at 0 true false (a := 0) (s := 2) (e := 0) (by rfl) _).mono ?_
  rintro e w2 ⟨rfl, hb2⟩
  go_wp2_with (first | (go_at_call 13; refine (check_any _ _).mono ?_; rintro e w' ⟨rfl, rfl⟩) | (go_at_call 12; refine (awake_any _).mono ?_; rintro e w3 ⟨rfl, hb3⟩))
  go_ret
  exact ⟨rfl, ((hb1).trans (hb2.mono hb1.size)).trans (hb3.mono (Nat.le_trans hb1.size hb2.size))⟩

set_option maxHeartbeats 1000000 in
set_option maxRecDepth 100000 in
theorem ans_0_1_1 (w : World) : Calls Try.prog 4 #[.int .i64 0, .bool true, .bool true] w fun e w' => e = .returned (.bool true) ∧ Below w.heap.size w w' := by
  go_enter Try.func4, Try.ntmps4
  go_wp2_with fail
  refine (Got_at 0 true true (a := 1) (s := 1) (e := 0) (by rfl) _).mono ?_
  rintro e w1 ⟨rfl, hb1⟩
  go_wp2_with (go_at_call 13; refine (check_any _ _).mono ?_; rintro e w' ⟨rfl, rfl⟩)
  refine (Got_at 1 true true (a := 1) (s := 0) (e := 0) (by rfl) _).mono ?_
  rintro e w2 ⟨rfl, hb2⟩
  go_wp2_with (first | (go_at_call 13; refine (check_any _ _).mono ?_; rintro e w' ⟨rfl, rfl⟩) | (go_at_call 12; refine (awake_any _).mono ?_; rintro e w3 ⟨rfl, hb3⟩))
  go_ret
  exact ⟨rfl, ((hb1).trans (hb2.mono hb1.size)).trans (hb3.mono (Nat.le_trans hb1.size hb2.size))⟩

set_option maxHeartbeats 1000000 in
set_option maxRecDepth 100000 in
theorem ans_1_0_0 (w : World) : Calls Try.prog 4 #[.int .i64 1, .bool false, .bool false] w fun e w' => e = .returned (.bool true) ∧ Below w.heap.size w w' := by
  go_enter Try.func4, Try.ntmps4
  go_wp2_with fail
  refine (Got_at 1 false false (a := 0) (s := 2) (e := 0) (by rfl) _).mono ?_
  rintro e w1 ⟨rfl, hb1⟩
  go_wp2_with (go_at_call 13; refine (check_any _ _).mono ?_; rintro e w' ⟨rfl, rfl⟩)
  refine (Got_at 0 false false (a := 0) (s := 0) (e := 0) (by rfl) _).mono ?_
  rintro e w2 ⟨rfl, hb2⟩
  go_wp2_with (first | (go_at_call 13; refine (check_any _ _).mono ?_; rintro e w' ⟨rfl, rfl⟩) | (go_at_call 12; refine (awake_any _).mono ?_; rintro e w3 ⟨rfl, hb3⟩))
  go_ret
  exact ⟨rfl, ((hb1).trans (hb2.mono hb1.size)).trans (hb3.mono (Nat.le_trans hb1.size hb2.size))⟩

set_option maxHeartbeats 1000000 in
set_option maxRecDepth 100000 in
theorem ans_1_0_1 (w : World) : Calls Try.prog 4 #[.int .i64 1, .bool false, .bool true] w fun e w' => e = .returned (.bool true) ∧ Below w.heap.size w w' := by
  go_enter Try.func4, Try.ntmps4
  go_wp2_with fail
  refine (Got_at 1 false true (a := 0) (s := 2) (e := 0) (by rfl) _).mono ?_
  rintro e w1 ⟨rfl, hb1⟩
  go_wp2_with (go_at_call 13; refine (check_any _ _).mono ?_; rintro e w' ⟨rfl, rfl⟩)
  refine (Got_at 0 false true (a := 0) (s := 0) (e := 0) (by rfl) _).mono ?_
  rintro e w2 ⟨rfl, hb2⟩
  go_wp2_with (first | (go_at_call 13; refine (check_any _ _).mono ?_; rintro e w' ⟨rfl, rfl⟩) | (go_at_call 12; refine (awake_any _).mono ?_; rintro e w3 ⟨rfl, hb3⟩))
  go_ret
  exact ⟨rfl, ((hb1).trans (hb2.mono hb1.size)).trans (hb3.mono (Nat.le_trans hb1.size hb2.size))⟩

set_option maxHeartbeats 1000000 in
set_option maxRecDepth 100000 in
theorem ans_1_1_0 (w : World) : Calls Try.prog 4 #[.int .i64 1, .bool true, .bool false] w fun e w' => e = .returned (.bool true) ∧ Below w.heap.size w w' := by
  go_enter Try.func4, Try.ntmps4
  go_wp2_with fail
  refine (Got_at 1 true false (a := 1) (s := 0) (e := 0) (by rfl) _).mono ?_
  rintro e w1 ⟨rfl, hb1⟩
  go_wp2_with (go_at_call 13; refine (check_any _ _).mono ?_; rintro e w' ⟨rfl, rfl⟩)
  refine (Got_at 1 true false (a := 1) (s := 0) (e := 0) (by rfl) _).mono ?_
  rintro e w2 ⟨rfl, hb2⟩
  go_wp2_with (first | (go_at_call 13; refine (check_any _ _).mono ?_; rintro e w' ⟨rfl, rfl⟩) | (go_at_call 12; refine (awake_any _).mono ?_; rintro e w3 ⟨rfl, hb3⟩))
  go_ret
  exact ⟨rfl, ((hb1).trans (hb2.mono hb1.size)).trans (hb3.mono (Nat.le_trans hb1.size hb2.size))⟩

set_option maxHeartbeats 1000000 in
set_option maxRecDepth 100000 in
theorem ans_1_1_1 (w : World) : Calls Try.prog 4 #[.int .i64 1, .bool true, .bool true] w fun e w' => e = .returned (.bool true) ∧ Below w.heap.size w w' := by
  go_enter Try.func4, Try.ntmps4
  go_wp2_with fail
  refine (Got_at 1 true true (a := 1) (s := 0) (e := 0) (by rfl) _).mono ?_
  rintro e w1 ⟨rfl, hb1⟩
  go_wp2_with (go_at_call 13; refine (check_any _ _).mono ?_; rintro e w' ⟨rfl, rfl⟩)
  refine (Got_at 1 true true (a := 1) (s := 0) (e := 0) (by rfl) _).mono ?_
  rintro e w2 ⟨rfl, hb2⟩
  go_wp2_with (first | (go_at_call 13; refine (check_any _ _).mono ?_; rintro e w' ⟨rfl, rfl⟩) | (go_at_call 12; refine (awake_any _).mono ?_; rintro e w3 ⟨rfl, hb3⟩))
  go_ret
  exact ⟨rfl, ((hb1).trans (hb2.mono hb1.size)).trans (hb3.mono (Nat.le_trans hb1.size hb2.size))⟩

set_option maxHeartbeats 1000000 in
set_option maxRecDepth 100000 in
theorem ans_2_0_0 (w : World) : Calls Try.prog 4 #[.int .i64 2, .bool false, .bool false] w fun e w' => e = .returned (.bool true) ∧ Below w.heap.size w w' := by
  go_enter Try.func4, Try.ntmps4
  go_wp2_with fail
  refine (Got_at 2 false false (a := 0) (s := 0) (e := 0) (by rfl) _).mono ?_
  rintro e w1 ⟨rfl, hb1⟩
  go_wp2_with (go_at_call 13; refine (check_any _ _).mono ?_; rintro e w' ⟨rfl, rfl⟩)
  refine (Got_at 0 false false (a := 0) (s := 0) (e := 0) (by rfl) _).mono ?_
  rintro e w2 ⟨rfl, hb2⟩
  go_wp2_with (first | (go_at_call 13; refine (check_any _ _).mono ?_; rintro e w' ⟨rfl, rfl⟩) | (go_at_call 12; refine (awake_any _).mono ?_; rintro e w3 ⟨rfl, hb3⟩))
  go_ret
  exact ⟨rfl, ((hb1).trans (hb2.mono hb1.size)).trans (hb3.mono (Nat.le_trans hb1.size hb2.size))⟩

set_option maxHeartbeats 1000000 in
set_option maxRecDepth 100000 in
theorem ans_2_0_1 (w : World) : Calls Try.prog 4 #[.int .i64 2, .bool false, .bool true] w fun e w' => e = .returned (.bool true) ∧ Below w.heap.size w w' := by
  go_enter Try.func4, Try.ntmps4
  go_wp2_with fail
  refine (Got_at 2 false true (a := 0) (s := 0) (e := 0) (by rfl) _).mono ?_
  rintro e w1 ⟨rfl, hb1⟩
  go_wp2_with (go_at_call 13; refine (check_any _ _).mono ?_; rintro e w' ⟨rfl, rfl⟩)
  refine (Got_at 0 false true (a := 0) (s := 0) (e := 0) (by rfl) _).mono ?_
  rintro e w2 ⟨rfl, hb2⟩
  go_wp2_with (first | (go_at_call 13; refine (check_any _ _).mono ?_; rintro e w' ⟨rfl, rfl⟩) | (go_at_call 12; refine (awake_any _).mono ?_; rintro e w3 ⟨rfl, hb3⟩))
  go_ret
  exact ⟨rfl, ((hb1).trans (hb2.mono hb1.size)).trans (hb3.mono (Nat.le_trans hb1.size hb2.size))⟩

set_option maxHeartbeats 1000000 in
set_option maxRecDepth 100000 in
theorem ans_2_1_0 (w : World) : Calls Try.prog 4 #[.int .i64 2, .bool true, .bool false] w fun e w' => e = .returned (.bool true) ∧ Below w.heap.size w w' := by
  go_enter Try.func4, Try.ntmps4
  go_wp2_with fail
  refine (Got_at 2 true false (a := 0) (s := 0) (e := 5) (by rfl) _).mono ?_
  rintro e w1 ⟨rfl, hb1⟩
  go_wp2_with (go_at_call 13; refine (check_any _ _).mono ?_; rintro e w' ⟨rfl, rfl⟩)
  refine (Got_at 0 true false (a := 0) (s := 2) (e := 0) (by rfl) _).mono ?_
  rintro e w2 ⟨rfl, hb2⟩
  go_wp2_with (first | (go_at_call 13; refine (check_any _ _).mono ?_; rintro e w' ⟨rfl, rfl⟩) | (go_at_call 12; refine (awake_any _).mono ?_; rintro e w3 ⟨rfl, hb3⟩))
  go_ret
  exact ⟨rfl, ((hb1).trans (hb2.mono hb1.size)).trans (hb3.mono (Nat.le_trans hb1.size hb2.size))⟩

set_option maxHeartbeats 1000000 in
set_option maxRecDepth 100000 in
theorem ans_2_1_1 (w : World) : Calls Try.prog 4 #[.int .i64 2, .bool true, .bool true] w fun e w' => e = .returned (.bool true) ∧ Below w.heap.size w w' := by
  go_enter Try.func4, Try.ntmps4
  go_wp2_with fail
  refine (Got_at 2 true true (a := 0) (s := 0) (e := 5) (by rfl) _).mono ?_
  rintro e w1 ⟨rfl, hb1⟩
  go_wp2_with (go_at_call 13; refine (check_any _ _).mono ?_; rintro e w' ⟨rfl, rfl⟩)
  refine (Got_at 0 true true (a := 1) (s := 1) (e := 0) (by rfl) _).mono ?_
  rintro e w2 ⟨rfl, hb2⟩
  go_wp2_with (first | (go_at_call 13; refine (check_any _ _).mono ?_; rintro e w' ⟨rfl, rfl⟩) | (go_at_call 12; refine (awake_any _).mono ?_; rintro e w3 ⟨rfl, hb3⟩))
  go_ret
  exact ⟨rfl, ((hb1).trans (hb2.mono hb1.size)).trans (hb3.mono (Nat.le_trans hb1.size hb2.size))⟩

set_option maxHeartbeats 1000000 in
set_option maxRecDepth 100000 in
theorem ans_3_0_0 (w : World) : Calls Try.prog 4 #[.int .i64 3, .bool false, .bool false] w fun e w' => e = .returned (.bool true) ∧ Below w.heap.size w w' := by
  go_enter Try.func4, Try.ntmps4
  go_wp2_with fail
  refine (Got_at 3 false false (a := 4) (s := 1) (e := 0) (by rfl) _).mono ?_
  rintro e w1 ⟨rfl, hb1⟩
  go_wp2_with (go_at_call 13; refine (check_any _ _).mono ?_; rintro e w' ⟨rfl, rfl⟩)
  refine (Got_at 4 false false (a := 0) (s := 0) (e := 0) (by rfl) _).mono ?_
  rintro e w2 ⟨rfl, hb2⟩
  go_wp2_with (first | (go_at_call 13; refine (check_any _ _).mono ?_; rintro e w' ⟨rfl, rfl⟩) | (go_at_call 12; refine (awake_any _).mono ?_; rintro e w3 ⟨rfl, hb3⟩))
  go_ret
  exact ⟨rfl, ((hb1).trans (hb2.mono hb1.size)).trans (hb3.mono (Nat.le_trans hb1.size hb2.size))⟩

set_option maxHeartbeats 1000000 in
set_option maxRecDepth 100000 in
theorem ans_3_0_1 (w : World) : Calls Try.prog 4 #[.int .i64 3, .bool false, .bool true] w fun e w' => e = .returned (.bool true) ∧ Below w.heap.size w w' := by
  go_enter Try.func4, Try.ntmps4
  go_wp2_with fail
  refine (Got_at 3 false true (a := 4) (s := 1) (e := 0) (by rfl) _).mono ?_
  rintro e w1 ⟨rfl, hb1⟩
  go_wp2_with (go_at_call 13; refine (check_any _ _).mono ?_; rintro e w' ⟨rfl, rfl⟩)
  refine (Got_at 4 false true (a := 0) (s := 0) (e := 0) (by rfl) _).mono ?_
  rintro e w2 ⟨rfl, hb2⟩
  go_wp2_with (first | (go_at_call 13; refine (check_any _ _).mono ?_; rintro e w' ⟨rfl, rfl⟩) | (go_at_call 12; refine (awake_any _).mono ?_; rintro e w3 ⟨rfl, hb3⟩))
  go_ret
  exact ⟨rfl, ((hb1).trans (hb2.mono hb1.size)).trans (hb3.mono (Nat.le_trans hb1.size hb2.size))⟩

set_option maxHeartbeats 1000000 in
set_option maxRecDepth 100000 in
theorem ans_3_1_0 (w : World) : Calls Try.prog 4 #[.int .i64 3, .bool true, .bool false] w fun e w' => e = .returned (.bool true) ∧ Below w.heap.size w w' := by
  go_enter Try.func4, Try.ntmps4
  go_wp2_with fail
  refine (Got_at 3 true false (a := 1) (s := 0) (e := 5) (by rfl) _).mono ?_
  rintro e w1 ⟨rfl, hb1⟩
  go_wp2_with (go_at_call 13; refine (check_any _ _).mono ?_; rintro e w' ⟨rfl, rfl⟩)
  refine (Got_at 1 true false (a := 1) (s := 0) (e := 0) (by rfl) _).mono ?_
  rintro e w2 ⟨rfl, hb2⟩
  go_wp2_with (first | (go_at_call 13; refine (check_any _ _).mono ?_; rintro e w' ⟨rfl, rfl⟩) | (go_at_call 12; refine (awake_any _).mono ?_; rintro e w3 ⟨rfl, hb3⟩))
  go_ret
  exact ⟨rfl, ((hb1).trans (hb2.mono hb1.size)).trans (hb3.mono (Nat.le_trans hb1.size hb2.size))⟩

set_option maxHeartbeats 1000000 in
set_option maxRecDepth 100000 in
theorem ans_3_1_1 (w : World) : Calls Try.prog 4 #[.int .i64 3, .bool true, .bool true] w fun e w' => e = .returned (.bool true) ∧ Below w.heap.size w w' := by
  go_enter Try.func4, Try.ntmps4
  go_wp2_with fail
  refine (Got_at 3 true true (a := 1) (s := 0) (e := 5) (by rfl) _).mono ?_
  rintro e w1 ⟨rfl, hb1⟩
  go_wp2_with (go_at_call 13; refine (check_any _ _).mono ?_; rintro e w' ⟨rfl, rfl⟩)
  refine (Got_at 1 true true (a := 1) (s := 0) (e := 0) (by rfl) _).mono ?_
  rintro e w2 ⟨rfl, hb2⟩
  go_wp2_with (first | (go_at_call 13; refine (check_any _ _).mono ?_; rintro e w' ⟨rfl, rfl⟩) | (go_at_call 12; refine (awake_any _).mono ?_; rintro e w3 ⟨rfl, hb3⟩))
  go_ret
  exact ⟨rfl, ((hb1).trans (hb2.mono hb1.size)).trans (hb3.mono (Nat.le_trans hb1.size hb2.size))⟩

set_option maxHeartbeats 1000000 in
set_option maxRecDepth 100000 in
theorem ans_4_0_0 (w : World) : Calls Try.prog 4 #[.int .i64 4, .bool false, .bool false] w fun e w' => e = .returned (.bool true) ∧ Below w.heap.size w w' := by
  go_enter Try.func4, Try.ntmps4
  go_wp2_with fail
  refine (Got_at 4 false false (a := 0) (s := 0) (e := 0) (by rfl) _).mono ?_
  rintro e w1 ⟨rfl, hb1⟩
  go_wp2_with (go_at_call 13; refine (check_any _ _).mono ?_; rintro e w' ⟨rfl, rfl⟩)
  refine (Got_at 0 false false (a := 0) (s := 0) (e := 0) (by rfl) _).mono ?_
  rintro e w2 ⟨rfl, hb2⟩
  go_wp2_with (first | (go_at_call 13; refine (check_any _ _).mono ?_; rintro e w' ⟨rfl, rfl⟩) | (go_at_call 12; refine (awake_any _).mono ?_; rintro e w3 ⟨rfl, hb3⟩))
  go_ret
  exact ⟨rfl, ((hb1).trans (hb2.mono hb1.size)).trans (hb3.mono (Nat.le_trans hb1.size hb2.size))⟩

set_option maxHeartbeats 1000000 in
set_option maxRecDepth 100000 in
theorem ans_4_0_1 (w : World) : Calls Try.prog 4 #[.int .i64 4, .bool false, .bool true] w fun e w' => e = .returned (.bool true) ∧ Below w.heap.size w w' := by
  go_enter Try.func4, Try.ntmps4
  go_wp2_with fail
  refine (Got_at 4 false true (a := 0) (s := 0) (e := 0) (by rfl) _).mono ?_
  rintro e w1 ⟨rfl, hb1⟩
  go_wp2_with (go_at_call 13; refine (check_any _ _).mono ?_; rintro e w' ⟨rfl, rfl⟩)
  refine (Got_at 0 false true (a := 0) (s := 0) (e := 0) (by rfl) _).mono ?_
  rintro e w2 ⟨rfl, hb2⟩
  go_wp2_with (first | (go_at_call 13; refine (check_any _ _).mono ?_; rintro e w' ⟨rfl, rfl⟩) | (go_at_call 12; refine (awake_any _).mono ?_; rintro e w3 ⟨rfl, hb3⟩))
  go_ret
  exact ⟨rfl, ((hb1).trans (hb2.mono hb1.size)).trans (hb3.mono (Nat.le_trans hb1.size hb2.size))⟩

set_option maxHeartbeats 1000000 in
set_option maxRecDepth 100000 in
theorem ans_4_1_0 (w : World) : Calls Try.prog 4 #[.int .i64 4, .bool true, .bool false] w fun e w' => e = .returned (.bool true) ∧ Below w.heap.size w w' := by
  go_enter Try.func4, Try.ntmps4
  go_wp2_with fail
  refine (Got_at 4 true false (a := 1) (s := 0) (e := 0) (by rfl) _).mono ?_
  rintro e w1 ⟨rfl, hb1⟩
  go_wp2_with (go_at_call 13; refine (check_any _ _).mono ?_; rintro e w' ⟨rfl, rfl⟩)
  refine (Got_at 1 true false (a := 1) (s := 0) (e := 0) (by rfl) _).mono ?_
  rintro e w2 ⟨rfl, hb2⟩
  go_wp2_with (first | (go_at_call 13; refine (check_any _ _).mono ?_; rintro e w' ⟨rfl, rfl⟩) | (go_at_call 12; refine (awake_any _).mono ?_; rintro e w3 ⟨rfl, hb3⟩))
  go_ret
  exact ⟨rfl, ((hb1).trans (hb2.mono hb1.size)).trans (hb3.mono (Nat.le_trans hb1.size hb2.size))⟩

set_option maxHeartbeats 1000000 in
set_option maxRecDepth 100000 in
theorem ans_4_1_1 (w : World) : Calls Try.prog 4 #[.int .i64 4, .bool true, .bool true] w fun e w' => e = .returned (.bool true) ∧ Below w.heap.size w w' := by
  go_enter Try.func4, Try.ntmps4
  go_wp2_with fail
  refine (Got_at 4 true true (a := 1) (s := 0) (e := 0) (by rfl) _).mono ?_
  rintro e w1 ⟨rfl, hb1⟩
  go_wp2_with (go_at_call 13; refine (check_any _ _).mono ?_; rintro e w' ⟨rfl, rfl⟩)
  refine (Got_at 1 true true (a := 1) (s := 0) (e := 0) (by rfl) _).mono ?_
  rintro e w2 ⟨rfl, hb2⟩
  go_wp2_with (first | (go_at_call 13; refine (check_any _ _).mono ?_; rintro e w' ⟨rfl, rfl⟩) | (go_at_call 12; refine (awake_any _).mono ?_; rintro e w3 ⟨rfl, hb3⟩))
  go_ret
  exact ⟨rfl, ((hb1).trans (hb2.mono hb1.size)).trans (hb3.mono (Nat.le_trans hb1.size hb2.size))⟩

set_option maxHeartbeats 1000000 in
set_option maxRecDepth 100000 in
theorem ans_5_0_0 (w : World) : Calls Try.prog 4 #[.int .i64 5, .bool false, .bool false] w fun e w' => e = .returned (.bool true) ∧ Below w.heap.size w w' := by
  go_enter Try.func4, Try.ntmps4
  go_wp2_with fail
  refine (Got_at 5 false false (a := 0) (s := 0) (e := 0) (by rfl) _).mono ?_
  rintro e w1 ⟨rfl, hb1⟩
  go_wp2_with (go_at_call 13; refine (check_any _ _).mono ?_; rintro e w' ⟨rfl, rfl⟩)
  refine (Got_at 0 false false (a := 0) (s := 0) (e := 0) (by rfl) _).mono ?_
  rintro e w2 ⟨rfl, hb2⟩
  go_wp2_with (first | (go_at_call 13; refine (check_any _ _).mono ?_; rintro e w' ⟨rfl, rfl⟩) | (go_at_call 12; refine (awake_any _).mono ?_; rintro e w3 ⟨rfl, hb3⟩))
  go_ret
  exact ⟨rfl, ((hb1).trans (hb2.mono hb1.size)).trans (hb3.mono (Nat.le_trans hb1.size hb2.size))⟩

set_option maxHeartbeats 1000000 in
set_option maxRecDepth 100000 in
theorem ans_5_0_1 (w : World) : Calls Try.prog 4 #[.int .i64 5, .bool false, .bool true] w fun e w' => e = .returned (.bool true) ∧ Below w.heap.size w w' := by
  go_enter Try.func4, Try.ntmps4
  go_wp2_with fail
  refine (Got_at 5 false true (a := 0) (s := 0) (e := 0) (by rfl) _).mono ?_
  rintro e w1 ⟨rfl, hb1⟩
  go_wp2_with (go_at_call 13; refine (check_any _ _).mono ?_; rintro e w' ⟨rfl, rfl⟩)
  refine (Got_at 0 false true (a := 0) (s := 0) (e := 0) (by rfl) _).mono ?_
  rintro e w2 ⟨rfl, hb2⟩
  go_wp2_with (first | (go_at_call 13; refine (check_any _ _).mono ?_; rintro e w' ⟨rfl, rfl⟩) | (go_at_call 12; refine (awake_any _).mono ?_; rintro e w3 ⟨rfl, hb3⟩))
  go_ret
  exact ⟨rfl, ((hb1).trans (hb2.mono hb1.size)).trans (hb3.mono (Nat.le_trans hb1.size hb2.size))⟩

set_option maxHeartbeats 1000000 in
set_option maxRecDepth 100000 in
theorem ans_5_1_0 (w : World) : Calls Try.prog 4 #[.int .i64 5, .bool true, .bool false] w fun e w' => e = .returned (.bool true) ∧ Below w.heap.size w w' := by
  go_enter Try.func4, Try.ntmps4
  go_wp2_with fail
  refine (Got_at 5 true false (a := 2) (s := 2) (e := 0) (by rfl) _).mono ?_
  rintro e w1 ⟨rfl, hb1⟩
  go_wp2_with (go_at_call 13; refine (check_any _ _).mono ?_; rintro e w' ⟨rfl, rfl⟩)
  refine (Got_at 2 true false (a := 0) (s := 0) (e := 5) (by rfl) _).mono ?_
  rintro e w2 ⟨rfl, hb2⟩
  go_wp2_with (first | (go_at_call 13; refine (check_any _ _).mono ?_; rintro e w' ⟨rfl, rfl⟩) | (go_at_call 12; refine (awake_any _).mono ?_; rintro e w3 ⟨rfl, hb3⟩))
  go_ret
  exact ⟨rfl, ((hb1).trans (hb2.mono hb1.size)).trans (hb3.mono (Nat.le_trans hb1.size hb2.size))⟩

set_option maxHeartbeats 1000000 in
set_option maxRecDepth 100000 in
theorem ans_5_1_1 (w : World) : Calls Try.prog 4 #[.int .i64 5, .bool true, .bool true] w fun e w' => e = .returned (.bool true) ∧ Below w.heap.size w w' := by
  go_enter Try.func4, Try.ntmps4
  go_wp2_with fail
  refine (Got_at 5 true true (a := 2) (s := 2) (e := 0) (by rfl) _).mono ?_
  rintro e w1 ⟨rfl, hb1⟩
  go_wp2_with (go_at_call 13; refine (check_any _ _).mono ?_; rintro e w' ⟨rfl, rfl⟩)
  refine (Got_at 2 true true (a := 0) (s := 0) (e := 5) (by rfl) _).mono ?_
  rintro e w2 ⟨rfl, hb2⟩
  go_wp2_with (first | (go_at_call 13; refine (check_any _ _).mono ?_; rintro e w' ⟨rfl, rfl⟩) | (go_at_call 12; refine (awake_any _).mono ?_; rintro e w3 ⟨rfl, hb3⟩))
  go_ret
  exact ⟨rfl, ((hb1).trans (hb2.mono hb1.size)).trans (hb3.mono (Nat.le_trans hb1.size hb2.size))⟩

set_option maxRecDepth 100000 in
theorem answers_bad (q : Int) (y m : Bool) (h : q < 0 ∨ 6 ≤ q) (w : World) : Calls Try.prog 4 #[.int .i64 q, .bool y, .bool m] w fun e w' => e = .returned (.bool true) ∧ Below w.heap.size w w' := by
  have hg : gotF q y m = (q, 0, 1) := by unfold gotF; rw [if_neg (by omega)]
  have H := Lib.hid hg
  clear hg
  go_enter Try.func4, Try.ntmps4
  go_wp2_with fail
  refine (Got_at q y m H.out _).mono ?_
  rintro e w1 ⟨rfl, hb1⟩
  go_wp2_with (first
    | (go_at_call 13; refine (check_bad q h _).mono ?_; rintro e w' ⟨rfl, rfl⟩)
    | (go_at_call 12; refine (awake_any _).mono ?_; rintro e w2 ⟨rfl, hb2⟩))
  go_ret
  exact ⟨rfl, hb1.trans (hb2.mono hb1.size)⟩

theorem answers_walk (q : Int) (y : Bool) (m : Bool) (w : World) : Calls Try.prog 4 #[.int .i64 q, .bool y, .bool m] w fun e w' => e = .returned (.bool true) ∧ Below w.heap.size w w' := by
  by_cases h : q < 0 ∨ 6 ≤ q
  · exact answers_bad q y m h w
  · rcases six q (by omega) (by omega) with rfl | rfl | rfl | rfl | rfl | rfl
    · cases y <;> cases m
      · exact ans_0_0_0 w
      · exact ans_0_0_1 w
      · exact ans_0_1_0 w
      · exact ans_0_1_1 w
    · cases y <;> cases m
      · exact ans_1_0_0 w
      · exact ans_1_0_1 w
      · exact ans_1_1_0 w
      · exact ans_1_1_1 w
    · cases y <;> cases m
      · exact ans_2_0_0 w
      · exact ans_2_0_1 w
      · exact ans_2_1_0 w
      · exact ans_2_1_1 w
    · cases y <;> cases m
      · exact ans_3_0_0 w
      · exact ans_3_0_1 w
      · exact ans_3_1_0 w
      · exact ans_3_1_1 w
    · cases y <;> cases m
      · exact ans_4_0_0 w
      · exact ans_4_0_1 w
      · exact ans_4_1_0 w
      · exact ans_4_1_1 w
    · cases y <;> cases m
      · exact ans_5_0_0 w
      · exact ans_5_0_1 w
      · exact ans_5_1_0 w
      · exact ans_5_1_1 w

end Go.Proofs.Ythnaijmbppmbjaa
