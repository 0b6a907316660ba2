/- The walk of the law QbitTells, case by case. -/
import Derived.Test.YthnaijmbppmbjaaQC
namespace Go.Proofs.Ythnaijmbppmbjaa
open Go.RowKit

set_option maxHeartbeats 1000000 in
set_option maxRecDepth 100000 in
theorem tells_0_0_0 (w : World) : Calls Try.prog 7 #[.int .i64 0, .bool false, .bool false] w fun e w' => e = .returned (.bool true) ∧ Below w.heap.size w w' := by
  go_enter Try.func7, Try.ntmps7
  go_wp2_with fail
  refine (Got_at 0 false false (a := 0) (s := 0) (e := 0) (by rfl) _).mono ?_
  rintro e w1 ⟨rfl, hb1⟩
  go_wp2_with (first | (go_at_call 14; go_in) | (go_at_call 16; go_in))
  refine (Ask_at 0 false (a := 0) (s := 0) (e := 5) (by rfl) _).mono ?_
  rintro e w2 ⟨rfl, hb2⟩
  go_wp2_with (first | (go_at_call 13; refine (check_any _ _).mono ?_; rintro e w' ⟨rfl, rfl⟩) | (go_at_call_of 17 (Value.int .i64 0); refine (wanted_f 0 (by rfl) _).mono ?_; rintro e w' ⟨rfl, rfl⟩) | (go_at_call 12; refine (awake_any _).mono ?_; rintro e w3 ⟨rfl, hb3⟩) | go_in)
  go_ret
  exact ⟨rfl, ((hb1).trans (hb2.mono hb1.size)).trans (hb3.mono (Nat.le_trans hb1.size hb2.size))⟩

set_option maxHeartbeats 1000000 in
set_option maxRecDepth 100000 in
theorem tells_0_0_1 (w : World) : Calls Try.prog 7 #[.int .i64 0, .bool false, .bool true] w fun e w' => e = .returned (.bool true) ∧ Below w.heap.size w w' := by
  go_enter Try.func7, Try.ntmps7
  go_wp2_with fail
  refine (Got_at 0 false true (a := 0) (s := 0) (e := 0) (by rfl) _).mono ?_
  rintro e w1 ⟨rfl, hb1⟩
  go_wp2_with (first | (go_at_call 14; go_in) | (go_at_call 16; go_in))
  refine (Ask_at 0 false (a := 0) (s := 0) (e := 5) (by rfl) _).mono ?_
  rintro e w2 ⟨rfl, hb2⟩
  go_wp2_with (first | (go_at_call 13; refine (check_any _ _).mono ?_; rintro e w' ⟨rfl, rfl⟩) | (go_at_call_of 17 (Value.int .i64 0); refine (wanted_f 0 (by rfl) _).mono ?_; rintro e w' ⟨rfl, rfl⟩) | (go_at_call 12; refine (awake_any _).mono ?_; rintro e w3 ⟨rfl, hb3⟩) | go_in)
  go_ret
  exact ⟨rfl, ((hb1).trans (hb2.mono hb1.size)).trans (hb3.mono (Nat.le_trans hb1.size hb2.size))⟩

set_option maxHeartbeats 1000000 in
set_option maxRecDepth 100000 in
theorem tells_0_1_0 (w : World) : Calls Try.prog 7 #[.int .i64 0, .bool true, .bool false] w fun e w' => e = .returned (.bool true) ∧ Below w.heap.size w w' := by
  go_enter Try.func7, Try.ntmps7
  go_wp2_with fail
  refine (Got_at 0 true false (a := 0) (s := 2) (e := 0) (by rfl) _).mono ?_
  rintro e w1 ⟨rfl, hb1⟩
  go_wp2_with (first | (go_at_call 14; go_in) | (go_at_call 16; go_in))
  refine (Ask_at 0 true (a := 4) (s := 1) (e := 0) (by rfl) _).mono ?_
  rintro e w2 ⟨rfl, hb2⟩
  go_wp2_with (first | (go_at_call 13; refine (check_any _ _).mono ?_; rintro e w' ⟨rfl, rfl⟩) | (go_at_call_of 17 (Value.int .i64 0); refine (wanted_f 0 (by rfl) _).mono ?_; rintro e w' ⟨rfl, rfl⟩) | (go_at_call 12; refine (awake_any _).mono ?_; rintro e w3 ⟨rfl, hb3⟩) | go_in)
  go_ret
  exact ⟨rfl, ((hb1).trans (hb2.mono hb1.size)).trans (hb3.mono (Nat.le_trans hb1.size hb2.size))⟩

set_option maxHeartbeats 1000000 in
set_option maxRecDepth 100000 in
theorem tells_0_1_1 (w : World) : Calls Try.prog 7 #[.int .i64 0, .bool true, .bool true] w fun e w' => e = .returned (.bool true) ∧ Below w.heap.size w w' := by
  go_enter Try.func7, Try.ntmps7
  go_wp2_with fail
  refine (Got_at 0 true true (a := 1) (s := 1) (e := 0) (by rfl) _).mono ?_
  rintro e w1 ⟨rfl, hb1⟩
  go_wp2_with (first | (go_at_call 14; go_in) | (go_at_call 16; go_in))
  refine (Ask_at 0 true (a := 4) (s := 1) (e := 0) (by rfl) _).mono ?_
  rintro e w2 ⟨rfl, hb2⟩
  go_wp2_with (first | (go_at_call 13; refine (check_any _ _).mono ?_; rintro e w' ⟨rfl, rfl⟩) | (go_at_call_of 17 (Value.int .i64 0); refine (wanted_f 0 (by rfl) _).mono ?_; rintro e w' ⟨rfl, rfl⟩) | (go_at_call 12; refine (awake_any _).mono ?_; rintro e w3 ⟨rfl, hb3⟩) | go_in)
  go_ret
  exact ⟨rfl, ((hb1).trans (hb2.mono hb1.size)).trans (hb3.mono (Nat.le_trans hb1.size hb2.size))⟩

set_option maxHeartbeats 1000000 in
set_option maxRecDepth 100000 in
theorem tells_1_0_0 (w : World) : Calls Try.prog 7 #[.int .i64 1, .bool false, .bool false] w fun e w' => e = .returned (.bool true) ∧ Below w.heap.size w w' := by
  go_enter Try.func7, Try.ntmps7
  go_wp2_with fail
  refine (Got_at 1 false false (a := 0) (s := 2) (e := 0) (by rfl) _).mono ?_
  rintro e w1 ⟨rfl, hb1⟩
  go_wp2_with (first | (go_at_call 14; go_in) | (go_at_call 16; go_in))
  refine (Ask_at 1 false (a := 2) (s := 2) (e := 0) (by rfl) _).mono ?_
  rintro e w2 ⟨rfl, hb2⟩
  go_wp2_with (first | (go_at_call 13; refine (check_any _ _).mono ?_; rintro e w' ⟨rfl, rfl⟩) | (go_at_call_of 17 (Value.int .i64 1); refine (wanted_t 1 (by rfl) _).mono ?_; rintro e w' ⟨rfl, rfl⟩) | (go_at_call 12; refine (awake_any _).mono ?_; rintro e w3 ⟨rfl, hb3⟩) | go_in)
  go_ret
  exact ⟨rfl, ((hb1).trans (hb2.mono hb1.size)).trans (hb3.mono (Nat.le_trans hb1.size hb2.size))⟩

set_option maxHeartbeats 1000000 in
set_option maxRecDepth 100000 in
theorem tells_1_0_1 (w : World) : Calls Try.prog 7 #[.int .i64 1, .bool false, .bool true] w fun e w' => e = .returned (.bool true) ∧ Below w.heap.size w w' := by
  go_enter Try.func7, Try.ntmps7
  go_wp2_with fail
  refine (Got_at 1 false true (a := 0) (s := 2) (e := 0) (by rfl) _).mono ?_
  rintro e w1 ⟨rfl, hb1⟩
  go_wp2_with (first | (go_at_call 14; go_in) | (go_at_call 16; go_in))
  refine (Ask_at 1 false (a := 2) (s := 2) (e := 0) (by rfl) _).mono ?_
  rintro e w2 ⟨rfl, hb2⟩
  go_wp2_with (first | (go_at_call 13; refine (check_any _ _).mono ?_; rintro e w' ⟨rfl, rfl⟩) | (go_at_call_of 17 (Value.int .i64 1); refine (wanted_t 1 (by rfl) _).mono ?_; rintro e w' ⟨rfl, rfl⟩) | (go_at_call 12; refine (awake_any _).mono ?_; rintro e w3 ⟨rfl, hb3⟩) | go_in)
  go_ret
  exact ⟨rfl, ((hb1).trans (hb2.mono hb1.size)).trans (hb3.mono (Nat.le_trans hb1.size hb2.size))⟩

set_option maxHeartbeats 1000000 in
set_option maxRecDepth 100000 in
theorem tells_1_1_0 (w : World) : Calls Try.prog 7 #[.int .i64 1, .bool true, .bool false] w fun e w' => e = .returned (.bool true) ∧ Below w.heap.size w w' := by
  go_enter Try.func7, Try.ntmps7
  go_wp2_with fail
  refine (Got_at 1 true false (a := 1) (s := 0) (e := 0) (by rfl) _).mono ?_
  rintro e w1 ⟨rfl, hb1⟩
  go_wp2_with (first | (go_at_call 14; go_in) | (go_at_call 16; go_in))
  refine (Ask_at 1 true (a := 1) (s := 0) (e := 5) (by rfl) _).mono ?_
  rintro e w2 ⟨rfl, hb2⟩
  go_wp2_with (first | (go_at_call 13; refine (check_any _ _).mono ?_; rintro e w' ⟨rfl, rfl⟩) | (go_at_call_of 17 (Value.int .i64 1); refine (wanted_t 1 (by rfl) _).mono ?_; rintro e w' ⟨rfl, rfl⟩) | (go_at_call 12; refine (awake_any _).mono ?_; rintro e w3 ⟨rfl, hb3⟩) | go_in)
  go_ret
  exact ⟨rfl, ((hb1).trans (hb2.mono hb1.size)).trans (hb3.mono (Nat.le_trans hb1.size hb2.size))⟩

set_option maxHeartbeats 1000000 in
set_option maxRecDepth 100000 in
theorem tells_1_1_1 (w : World) : Calls Try.prog 7 #[.int .i64 1, .bool true, .bool true] w fun e w' => e = .returned (.bool true) ∧ Below w.heap.size w w' := by
  go_enter Try.func7, Try.ntmps7
  go_wp2_with fail
  refine (Got_at 1 true true (a := 1) (s := 0) (e := 0) (by rfl) _).mono ?_
  rintro e w1 ⟨rfl, hb1⟩
  go_wp2_with (first | (go_at_call 14; go_in) | (go_at_call 16; go_in))
  refine (Ask_at 1 true (a := 1) (s := 0) (e := 5) (by rfl) _).mono ?_
  rintro e w2 ⟨rfl, hb2⟩
  go_wp2_with (first | (go_at_call 13; refine (check_any _ _).mono ?_; rintro e w' ⟨rfl, rfl⟩) | (go_at_call_of 17 (Value.int .i64 1); refine (wanted_t 1 (by rfl) _).mono ?_; rintro e w' ⟨rfl, rfl⟩) | (go_at_call 12; refine (awake_any _).mono ?_; rintro e w3 ⟨rfl, hb3⟩) | go_in)
  go_ret
  exact ⟨rfl, ((hb1).trans (hb2.mono hb1.size)).trans (hb3.mono (Nat.le_trans hb1.size hb2.size))⟩

set_option maxHeartbeats 1000000 in
set_option maxRecDepth 100000 in
theorem tells_2_0_0 (w : World) : Calls Try.prog 7 #[.int .i64 2, .bool false, .bool false] w fun e w' => e = .returned (.bool true) ∧ Below w.heap.size w w' := by
  go_enter Try.func7, Try.ntmps7
  go_wp2_with fail
  refine (Got_at 2 false false (a := 0) (s := 0) (e := 0) (by rfl) _).mono ?_
  rintro e w1 ⟨rfl, hb1⟩
  go_wp2_with (first | (go_at_call 14; go_in) | (go_at_call 16; go_in))
  refine (Ask_at 2 false (a := 2) (s := 0) (e := 5) (by rfl) _).mono ?_
  rintro e w2 ⟨rfl, hb2⟩
  go_wp2_with (first | (go_at_call 13; refine (check_any _ _).mono ?_; rintro e w' ⟨rfl, rfl⟩) | (go_at_call_of 17 (Value.int .i64 2); refine (wanted_f 2 (by rfl) _).mono ?_; rintro e w' ⟨rfl, rfl⟩) | (go_at_call 12; refine (awake_any _).mono ?_; rintro e w3 ⟨rfl, hb3⟩) | go_in)
  go_ret
  exact ⟨rfl, ((hb1).trans (hb2.mono hb1.size)).trans (hb3.mono (Nat.le_trans hb1.size hb2.size))⟩

set_option maxHeartbeats 1000000 in
set_option maxRecDepth 100000 in
theorem tells_2_0_1 (w : World) : Calls Try.prog 7 #[.int .i64 2, .bool false, .bool true] w fun e w' => e = .returned (.bool true) ∧ Below w.heap.size w w' := by
  go_enter Try.func7, Try.ntmps7
  go_wp2_with fail
  refine (Got_at 2 false true (a := 0) (s := 0) (e := 0) (by rfl) _).mono ?_
  rintro e w1 ⟨rfl, hb1⟩
  go_wp2_with (first | (go_at_call 14; go_in) | (go_at_call 16; go_in))
  refine (Ask_at 2 false (a := 2) (s := 0) (e := 5) (by rfl) _).mono ?_
  rintro e w2 ⟨rfl, hb2⟩
  go_wp2_with (first | (go_at_call 13; refine (check_any _ _).mono ?_; rintro e w' ⟨rfl, rfl⟩) | (go_at_call_of 17 (Value.int .i64 2); refine (wanted_f 2 (by rfl) _).mono ?_; rintro e w' ⟨rfl, rfl⟩) | (go_at_call 12; refine (awake_any _).mono ?_; rintro e w3 ⟨rfl, hb3⟩) | go_in)
  go_ret
  exact ⟨rfl, ((hb1).trans (hb2.mono hb1.size)).trans (hb3.mono (Nat.le_trans hb1.size hb2.size))⟩

set_option maxHeartbeats 1000000 in
set_option maxRecDepth 100000 in
theorem tells_2_1_0 (w : World) : Calls Try.prog 7 #[.int .i64 2, .bool true, .bool false] w fun e w' => e = .returned (.bool true) ∧ Below w.heap.size w w' := by
  go_enter Try.func7, Try.ntmps7
  go_wp2_with fail
  refine (Got_at 2 true false (a := 0) (s := 0) (e := 5) (by rfl) _).mono ?_
  rintro e w1 ⟨rfl, hb1⟩
  go_wp2_with (first | (go_at_call 14; go_in) | (go_at_call 16; go_in))
  refine (Ask_at 2 true (a := 3) (s := 0) (e := 0) (by rfl) _).mono ?_
  rintro e w2 ⟨rfl, hb2⟩
  go_wp2_with (first | (go_at_call 13; refine (check_any _ _).mono ?_; rintro e w' ⟨rfl, rfl⟩) | (go_at_call_of 17 (Value.int .i64 2); refine (wanted_f 2 (by rfl) _).mono ?_; rintro e w' ⟨rfl, rfl⟩) | (go_at_call 12; refine (awake_any _).mono ?_; rintro e w3 ⟨rfl, hb3⟩) | go_in)
  go_ret
  exact ⟨rfl, ((hb1).trans (hb2.mono hb1.size)).trans (hb3.mono (Nat.le_trans hb1.size hb2.size))⟩

set_option maxHeartbeats 1000000 in
set_option maxRecDepth 100000 in
theorem tells_2_1_1 (w : World) : Calls Try.prog 7 #[.int .i64 2, .bool true, .bool true] w fun e w' => e = .returned (.bool true) ∧ Below w.heap.size w w' := by
  go_enter Try.func7, Try.ntmps7
  go_wp2_with fail
  refine (Got_at 2 true true (a := 0) (s := 0) (e := 5) (by rfl) _).mono ?_
  rintro e w1 ⟨rfl, hb1⟩
  go_wp2_with (first | (go_at_call 14; go_in) | (go_at_call 16; go_in))
  refine (Ask_at 2 true (a := 3) (s := 0) (e := 0) (by rfl) _).mono ?_
  rintro e w2 ⟨rfl, hb2⟩
  go_wp2_with (first | (go_at_call 13; refine (check_any _ _).mono ?_; rintro e w' ⟨rfl, rfl⟩) | (go_at_call_of 17 (Value.int .i64 2); refine (wanted_f 2 (by rfl) _).mono ?_; rintro e w' ⟨rfl, rfl⟩) | (go_at_call 12; refine (awake_any _).mono ?_; rintro e w3 ⟨rfl, hb3⟩) | go_in)
  go_ret
  exact ⟨rfl, ((hb1).trans (hb2.mono hb1.size)).trans (hb3.mono (Nat.le_trans hb1.size hb2.size))⟩

set_option maxHeartbeats 1000000 in
set_option maxRecDepth 100000 in
theorem tells_3_0_0 (w : World) : Calls Try.prog 7 #[.int .i64 3, .bool false, .bool false] w fun e w' => e = .returned (.bool true) ∧ Below w.heap.size w w' := by
  go_enter Try.func7, Try.ntmps7
  go_wp2_with fail
  refine (Got_at 3 false false (a := 4) (s := 1) (e := 0) (by rfl) _).mono ?_
  rintro e w1 ⟨rfl, hb1⟩
  go_wp2_with (first | (go_at_call 14; go_in) | (go_at_call 16; go_in))
  refine (Ask_at 3 false (a := 2) (s := 0) (e := 0) (by rfl) _).mono ?_
  rintro e w2 ⟨rfl, hb2⟩
  go_wp2_with (first | (go_at_call 13; refine (check_any _ _).mono ?_; rintro e w' ⟨rfl, rfl⟩) | (go_at_call_of 17 (Value.int .i64 3); refine (wanted_t 3 (by rfl) _).mono ?_; rintro e w' ⟨rfl, rfl⟩) | (go_at_call 12; refine (awake_any _).mono ?_; rintro e w3 ⟨rfl, hb3⟩) | go_in)
  go_ret
  exact ⟨rfl, ((hb1).trans (hb2.mono hb1.size)).trans (hb3.mono (Nat.le_trans hb1.size hb2.size))⟩

set_option maxHeartbeats 1000000 in
set_option maxRecDepth 100000 in
theorem tells_3_0_1 (w : World) : Calls Try.prog 7 #[.int .i64 3, .bool false, .bool true] w fun e w' => e = .returned (.bool true) ∧ Below w.heap.size w w' := by
  go_enter Try.func7, Try.ntmps7
  go_wp2_with fail
  refine (Got_at 3 false true (a := 4) (s := 1) (e := 0) (by rfl) _).mono ?_
  rintro e w1 ⟨rfl, hb1⟩
  go_wp2_with (first | (go_at_call 14; go_in) | (go_at_call 16; go_in))
  refine (Ask_at 3 false (a := 2) (s := 0) (e := 0) (by rfl) _).mono ?_
  rintro e w2 ⟨rfl, hb2⟩
  go_wp2_with (first | (go_at_call 13; refine (check_any _ _).mono ?_; rintro e w' ⟨rfl, rfl⟩) | (go_at_call_of 17 (Value.int .i64 3); refine (wanted_t 3 (by rfl) _).mono ?_; rintro e w' ⟨rfl, rfl⟩) | (go_at_call 12; refine (awake_any _).mono ?_; rintro e w3 ⟨rfl, hb3⟩) | go_in)
  go_ret
  exact ⟨rfl, ((hb1).trans (hb2.mono hb1.size)).trans (hb3.mono (Nat.le_trans hb1.size hb2.size))⟩

set_option maxHeartbeats 1000000 in
set_option maxRecDepth 100000 in
theorem tells_3_1_0 (w : World) : Calls Try.prog 7 #[.int .i64 3, .bool true, .bool false] w fun e w' => e = .returned (.bool true) ∧ Below w.heap.size w w' := by
  go_enter Try.func7, Try.ntmps7
  go_wp2_with fail
  refine (Got_at 3 true false (a := 1) (s := 0) (e := 5) (by rfl) _).mono ?_
  rintro e w1 ⟨rfl, hb1⟩
  go_wp2_with (first | (go_at_call 14; go_in) | (go_at_call 16; go_in))
  refine (Ask_at 3 true (a := 3) (s := 0) (e := 5) (by rfl) _).mono ?_
  rintro e w2 ⟨rfl, hb2⟩
  go_wp2_with (first | (go_at_call 13; refine (check_any _ _).mono ?_; rintro e w' ⟨rfl, rfl⟩) | (go_at_call_of 17 (Value.int .i64 3); refine (wanted_t 3 (by rfl) _).mono ?_; rintro e w' ⟨rfl, rfl⟩) | (go_at_call 12; refine (awake_any _).mono ?_; rintro e w3 ⟨rfl, hb3⟩) | go_in)
  go_ret
  exact ⟨rfl, ((hb1).trans (hb2.mono hb1.size)).trans (hb3.mono (Nat.le_trans hb1.size hb2.size))⟩

set_option maxHeartbeats 1000000 in
set_option maxRecDepth 100000 in
theorem tells_3_1_1 (w : World) : Calls Try.prog 7 #[.int .i64 3, .bool true, .bool true] w fun e w' => e = .returned (.bool true) ∧ Below w.heap.size w w' := by
  go_enter Try.func7, Try.ntmps7
  go_wp2_with fail
  refine (Got_at 3 true true (a := 1) (s := 0) (e := 5) (by rfl) _).mono ?_
  rintro e w1 ⟨rfl, hb1⟩
  go_wp2_with (first | (go_at_call 14; go_in) | (go_at_call 16; go_in))
  refine (Ask_at 3 true (a := 3) (s := 0) (e := 5) (by rfl) _).mono ?_
  rintro e w2 ⟨rfl, hb2⟩
  go_wp2_with (first | (go_at_call 13; refine (check_any _ _).mono ?_; rintro e w' ⟨rfl, rfl⟩) | (go_at_call_of 17 (Value.int .i64 3); refine (wanted_t 3 (by rfl) _).mono ?_; rintro e w' ⟨rfl, rfl⟩) | (go_at_call 12; refine (awake_any _).mono ?_; rintro e w3 ⟨rfl, hb3⟩) | go_in)
  go_ret
  exact ⟨rfl, ((hb1).trans (hb2.mono hb1.size)).trans (hb3.mono (Nat.le_trans hb1.size hb2.size))⟩

set_option maxHeartbeats 1000000 in
set_option maxRecDepth 100000 in
theorem tells_4_0_0 (w : World) : Calls Try.prog 7 #[.int .i64 4, .bool false, .bool false] w fun e w' => e = .returned (.bool true) ∧ Below w.heap.size w w' := by
  go_enter Try.func7, Try.ntmps7
  go_wp2_with fail
  refine (Got_at 4 false false (a := 0) (s := 0) (e := 0) (by rfl) _).mono ?_
  rintro e w1 ⟨rfl, hb1⟩
  go_wp2_with (first | (go_at_call 14; go_in) | (go_at_call 16; go_in))
  refine (Ask_at 4 false (a := 5) (s := 0) (e := 0) (by rfl) _).mono ?_
  rintro e w2 ⟨rfl, hb2⟩
  go_wp2_with (first | (go_at_call 13; refine (check_any _ _).mono ?_; rintro e w' ⟨rfl, rfl⟩) | (go_at_call_of 17 (Value.int .i64 4); refine (wanted_t 4 (by rfl) _).mono ?_; rintro e w' ⟨rfl, rfl⟩) | (go_at_call 12; refine (awake_any _).mono ?_; rintro e w3 ⟨rfl, hb3⟩) | go_in)
  go_ret
  exact ⟨rfl, ((hb1).trans (hb2.mono hb1.size)).trans (hb3.mono (Nat.le_trans hb1.size hb2.size))⟩

set_option maxHeartbeats 1000000 in
set_option maxRecDepth 100000 in
theorem tells_4_0_1 (w : World) : Calls Try.prog 7 #[.int .i64 4, .bool false, .bool true] w fun e w' => e = .returned (.bool true) ∧ Below w.heap.size w w' := by
  go_enter Try.func7, Try.ntmps7
  go_wp2_with fail
  refine (Got_at 4 false true (a := 0) (s := 0) (e := 0) (by rfl) _).mono ?_
  rintro e w1 ⟨rfl, hb1⟩
  go_wp2_with (first | (go_at_call 14; go_in) | (go_at_call 16; go_in))
  refine (Ask_at 4 false (a := 5) (s := 0) (e := 0) (by rfl) _).mono ?_
  rintro e w2 ⟨rfl, hb2⟩
  go_wp2_with (first | (go_at_call 13; refine (check_any _ _).mono ?_; rintro e w' ⟨rfl, rfl⟩) | (go_at_call_of 17 (Value.int .i64 4); refine (wanted_t 4 (by rfl) _).mono ?_; rintro e w' ⟨rfl, rfl⟩) | (go_at_call 12; refine (awake_any _).mono ?_; rintro e w3 ⟨rfl, hb3⟩) | go_in)
  go_ret
  exact ⟨rfl, ((hb1).trans (hb2.mono hb1.size)).trans (hb3.mono (Nat.le_trans hb1.size hb2.size))⟩

set_option maxHeartbeats 1000000 in
set_option maxRecDepth 100000 in
theorem tells_4_1_0 (w : World) : Calls Try.prog 7 #[.int .i64 4, .bool true, .bool false] w fun e w' => e = .returned (.bool true) ∧ Below w.heap.size w w' := by
  go_enter Try.func7, Try.ntmps7
  go_wp2_with fail
  refine (Got_at 4 true false (a := 1) (s := 0) (e := 0) (by rfl) _).mono ?_
  rintro e w1 ⟨rfl, hb1⟩
  go_wp2_with (first | (go_at_call 14; go_in) | (go_at_call 16; go_in))
  refine (Ask_at 4 true (a := 4) (s := 0) (e := 5) (by rfl) _).mono ?_
  rintro e w2 ⟨rfl, hb2⟩
  go_wp2_with (first | (go_at_call 13; refine (check_any _ _).mono ?_; rintro e w' ⟨rfl, rfl⟩) | (go_at_call_of 17 (Value.int .i64 4); refine (wanted_t 4 (by rfl) _).mono ?_; rintro e w' ⟨rfl, rfl⟩) | (go_at_call 12; refine (awake_any _).mono ?_; rintro e w3 ⟨rfl, hb3⟩) | go_in)
  go_ret
  exact ⟨rfl, ((hb1).trans (hb2.mono hb1.size)).trans (hb3.mono (Nat.le_trans hb1.size hb2.size))⟩

set_option maxHeartbeats 1000000 in
set_option maxRecDepth 100000 in
theorem tells_4_1_1 (w : World) : Calls Try.prog 7 #[.int .i64 4, .bool true, .bool true] w fun e w' => e = .returned (.bool true) ∧ Below w.heap.size w w' := by
  go_enter Try.func7, Try.ntmps7
  go_wp2_with fail
  refine (Got_at 4 true true (a := 1) (s := 0) (e := 0) (by rfl) _).mono ?_
  rintro e w1 ⟨rfl, hb1⟩
  go_wp2_with (first | (go_at_call 14; go_in) | (go_at_call 16; go_in))
  refine (Ask_at 4 true (a := 4) (s := 0) (e := 5) (by rfl) _).mono ?_
  rintro e w2 ⟨rfl, hb2⟩
  go_wp2_with (first | (go_at_call 13; refine (check_any _ _).mono ?_; rintro e w' ⟨rfl, rfl⟩) | (go_at_call_of 17 (Value.int .i64 4); refine (wanted_t 4 (by rfl) _).mono ?_; rintro e w' ⟨rfl, rfl⟩) | (go_at_call 12; refine (awake_any _).mono ?_; rintro e w3 ⟨rfl, hb3⟩) | go_in)
  go_ret
  exact ⟨rfl, ((hb1).trans (hb2.mono hb1.size)).trans (hb3.mono (Nat.le_trans hb1.size hb2.size))⟩

set_option maxHeartbeats 1000000 in
set_option maxRecDepth 100000 in
theorem tells_5_0_0 (w : World) : Calls Try.prog 7 #[.int .i64 5, .bool false, .bool false] w fun e w' => e = .returned (.bool true) ∧ Below w.heap.size w w' := by
  go_enter Try.func7, Try.ntmps7
  go_wp2_with fail
  refine (Got_at 5 false false (a := 0) (s := 0) (e := 0) (by rfl) _).mono ?_
  rintro e w1 ⟨rfl, hb1⟩
  go_wp2_with (first | (go_at_call 14; go_in) | (go_at_call 16; go_in))
  refine (Ask_at 5 false (a := 5) (s := 0) (e := 5) (by rfl) _).mono ?_
  rintro e w2 ⟨rfl, hb2⟩
  go_wp2_with (first | (go_at_call 13; refine (check_any _ _).mono ?_; rintro e w' ⟨rfl, rfl⟩) | (go_at_call_of 17 (Value.int .i64 5); refine (wanted_f 5 (by rfl) _).mono ?_; rintro e w' ⟨rfl, rfl⟩) | (go_at_call 12; refine (awake_any _).mono ?_; rintro e w3 ⟨rfl, hb3⟩) | go_in)
  go_ret
  exact ⟨rfl, ((hb1).trans (hb2.mono hb1.size)).trans (hb3.mono (Nat.le_trans hb1.size hb2.size))⟩

set_option maxHeartbeats 1000000 in
set_option maxRecDepth 100000 in
theorem tells_5_0_1 (w : World) : Calls Try.prog 7 #[.int .i64 5, .bool false, .bool true] w fun e w' => e = .returned (.bool true) ∧ Below w.heap.size w w' := by
  go_enter Try.func7, Try.ntmps7
  go_wp2_with fail
  refine (Got_at 5 false true (a := 0) (s := 0) (e := 0) (by rfl) _).mono ?_
  rintro e w1 ⟨rfl, hb1⟩
  go_wp2_with (first | (go_at_call 14; go_in) | (go_at_call 16; go_in))
  refine (Ask_at 5 false (a := 5) (s := 0) (e := 5) (by rfl) _).mono ?_
  rintro e w2 ⟨rfl, hb2⟩
  go_wp2_with (first | (go_at_call 13; refine (check_any _ _).mono ?_; rintro e w' ⟨rfl, rfl⟩) | (go_at_call_of 17 (Value.int .i64 5); refine (wanted_f 5 (by rfl) _).mono ?_; rintro e w' ⟨rfl, rfl⟩) | (go_at_call 12; refine (awake_any _).mono ?_; rintro e w3 ⟨rfl, hb3⟩) | go_in)
  go_ret
  exact ⟨rfl, ((hb1).trans (hb2.mono hb1.size)).trans (hb3.mono (Nat.le_trans hb1.size hb2.size))⟩

set_option maxHeartbeats 1000000 in
set_option maxRecDepth 100000 in
theorem tells_5_1_0 (w : World) : Calls Try.prog 7 #[.int .i64 5, .bool true, .bool false] w fun e w' => e = .returned (.bool true) ∧ Below w.heap.size w w' := by
  go_enter Try.func7, Try.ntmps7
  go_wp2_with fail
  refine (Got_at 5 true false (a := 2) (s := 2) (e := 0) (by rfl) _).mono ?_
  rintro e w1 ⟨rfl, hb1⟩
  go_wp2_with (first | (go_at_call 14; go_in) | (go_at_call 16; go_in))
  refine (Ask_at 5 true (a := 4) (s := 0) (e := 0) (by rfl) _).mono ?_
  rintro e w2 ⟨rfl, hb2⟩
  go_wp2_with (first | (go_at_call 13; refine (check_any _ _).mono ?_; rintro e w' ⟨rfl, rfl⟩) | (go_at_call_of 17 (Value.int .i64 5); refine (wanted_f 5 (by rfl) _).mono ?_; rintro e w' ⟨rfl, rfl⟩) | (go_at_call 12; refine (awake_any _).mono ?_; rintro e w3 ⟨rfl, hb3⟩) | go_in)
  go_ret
  exact ⟨rfl, ((hb1).trans (hb2.mono hb1.size)).trans (hb3.mono (Nat.le_trans hb1.size hb2.size))⟩

set_option maxHeartbeats 1000000 in
set_option maxRecDepth 100000 in
theorem tells_5_1_1 (w : World) : Calls Try.prog 7 #[.int .i64 5, .bool true, .bool true] w fun e w' => e = .returned (.bool true) ∧ Below w.heap.size w w' := by
  go_enter Try.func7, Try.ntmps7
  go_wp2_with fail
  refine (Got_at 5 true true (a := 2) (s := 2) (e := 0) (by rfl) _).mono ?_
  rintro e w1 ⟨rfl, hb1⟩
  go_wp2_with (first | (go_at_call 14; go_in) | (go_at_call 16; go_in))
  refine (Ask_at 5 true (a := 4) (s := 0) (e := 0) (by rfl) _).mono ?_
  rintro e w2 ⟨rfl, hb2⟩
  go_wp2_with (first | (go_at_call 13; refine (check_any _ _).mono ?_; rintro e w' ⟨rfl, rfl⟩) | (go_at_call_of 17 (Value.int .i64 5); refine (wanted_f 5 (by rfl) _).mono ?_; rintro e w' ⟨rfl, rfl⟩) | (go_at_call 12; refine (awake_any _).mono ?_; rintro e w3 ⟨rfl, hb3⟩) | go_in)
  go_ret
  exact ⟨rfl, ((hb1).trans (hb2.mono hb1.size)).trans (hb3.mono (Nat.le_trans hb1.size hb2.size))⟩

set_option maxHeartbeats 1000000 in
set_option maxRecDepth 100000 in
theorem tells_lo (q : Int) (y m : Bool) (h : q < 0) (w : World) : Calls Try.prog 7 #[.int .i64 q, .bool y, .bool m] w fun e w' => e = .returned (.bool true) ∧ Below w.heap.size w w' := by
  have hg : gotF q y m = (q, 0, 1) := by unfold gotF; rw [if_neg (by omega)]
  have ha : askF q y = (q, 0, 1) := by unfold askF; rw [if_neg (by omega)]
  have hw : wantB q = false := by unfold wantB; simp only [Bool.or_eq_false_iff, beq_eq_false_iff_ne]; omega
  have e1 : (q == 1) = false := by simp only [beq_eq_false_iff_ne]; omega
  have e3 : (q == 3) = false := by simp only [beq_eq_false_iff_ne]; omega
  have e4 : (q == 4) = false := by simp only [beq_eq_false_iff_ne]; omega
  have H := Lib.hid hg
  have HA := Lib.hid ha
  have HW := Lib.hid hw
  have hq : q < 0 ∨ 6 ≤ q := by omega
  have HQ := Lib.hid hq
  clear hg ha hw hq
  go_enter Try.func7, Try.ntmps7
  go_wp2_with fail
  refine (Got_at q y m H.out _).mono ?_
  rintro e w1 ⟨rfl, hb1⟩
  go_wp2_with (first | (go_at_call 14; go_in) | (go_at_call 16; go_in))
  refine (Ask_at q y HA.out _).mono ?_
  rintro e w2 ⟨rfl, hb2⟩
  go_wp2_with (first
    | (go_at_call 13; refine (check_bad q HQ.out _).mono ?_; rintro e w' ⟨rfl, rfl⟩)
    | (go_at_call 17; refine (wanted_f q HW.out _).mono ?_; rintro e w' ⟨rfl, rfl⟩)
    | (go_at_call 12; refine (awake_any _).mono ?_; rintro e w3 ⟨rfl, hb3⟩)
    | go_in)
  go_ret
  exact ⟨rfl, ((hb1).trans (hb2.mono hb1.size)).trans (hb3.mono (Nat.le_trans hb1.size hb2.size))⟩

set_option maxHeartbeats 1000000 in
set_option maxRecDepth 100000 in
theorem tells_hi (q : Int) (y m : Bool) (h : 6 ≤ q) (w : World) : Calls Try.prog 7 #[.int .i64 q, .bool y, .bool m] w fun e w' => e = .returned (.bool true) ∧ Below w.heap.size w w' := by
  have hg : gotF q y m = (q, 0, 1) := by unfold gotF; rw [if_neg (by omega)]
  have ha : askF q y = (q, 0, 1) := by unfold askF; rw [if_neg (by omega)]
  have hw : wantB q = false := by unfold wantB; simp only [Bool.or_eq_false_iff, beq_eq_false_iff_ne]; omega
  have e1 : (q == 1) = false := by simp only [beq_eq_false_iff_ne]; omega
  have e3 : (q == 3) = false := by simp only [beq_eq_false_iff_ne]; omega
  have e4 : (q == 4) = false := by simp only [beq_eq_false_iff_ne]; omega
  have e5 : decide (q ≤ 5) = false := by simp only [decide_eq_false_iff_not]; omega
  have H := Lib.hid hg
  have HA := Lib.hid ha
  have HW := Lib.hid hw
  have hq : q < 0 ∨ 6 ≤ q := by omega
  have HQ := Lib.hid hq
  clear hg ha hw hq
  go_enter Try.func7, Try.ntmps7
  go_wp2_with fail
  refine (Got_at q y m H.out _).mono ?_
  rintro e w1 ⟨rfl, hb1⟩
  go_wp2_with (first | (go_at_call 14; go_in) | (go_at_call 16; go_in))
  refine (Ask_at q y HA.out _).mono ?_
  rintro e w2 ⟨rfl, hb2⟩
  go_wp2_with (first
    | (go_at_call 13; refine (check_bad q HQ.out _).mono ?_; rintro e w' ⟨rfl, rfl⟩)
    | (go_at_call 17; refine (wanted_f q HW.out _).mono ?_; rintro e w' ⟨rfl, rfl⟩)
    | (go_at_call 12; refine (awake_any _).mono ?_; rintro e w3 ⟨rfl, hb3⟩)
    | go_in)
  go_ret
  exact ⟨rfl, ((hb1).trans (hb2.mono hb1.size)).trans (hb3.mono (Nat.le_trans hb1.size hb2.size))⟩

theorem tells_bad (q : Int) (y m : Bool) (h : q < 0 ∨ 6 ≤ q) (w : World) : Calls Try.prog 7 #[.int .i64 q, .bool y, .bool m] w fun e w' => e = .returned (.bool true) ∧ Below w.heap.size w w' :=
  h.elim (fun h => tells_lo q y m h w) (fun h => tells_hi q y m h w)

theorem tells_walk (q : Int) (y : Bool) (m : Bool) (w : World) : Calls Try.prog 7 #[.int .i64 q, .bool y, .bool m] w fun e w' => e = .returned (.bool true) ∧ Below w.heap.size w w' := by
  by_cases h : q < 0 ∨ 6 ≤ q
  · exact tells_bad q y m h w
  · rcases six q (by omega) (by omega) with rfl | rfl | rfl | rfl | rfl | rfl
    · cases y <;> cases m
      · exact tells_0_0_0 w
      · exact tells_0_0_1 w
      · exact tells_0_1_0 w
      · exact tells_0_1_1 w
    · cases y <;> cases m
      · exact tells_1_0_0 w
      · exact tells_1_0_1 w
      · exact tells_1_1_0 w
      · exact tells_1_1_1 w
    · cases y <;> cases m
      · exact tells_2_0_0 w
      · exact tells_2_0_1 w
      · exact tells_2_1_0 w
      · exact tells_2_1_1 w
    · cases y <;> cases m
      · exact tells_3_0_0 w
      · exact tells_3_0_1 w
      · exact tells_3_1_0 w
      · exact tells_3_1_1 w
    · cases y <;> cases m
      · exact tells_4_0_0 w
      · exact tells_4_0_1 w
      · exact tells_4_1_0 w
      · exact tells_4_1_1 w
    · cases y <;> cases m
      · exact tells_5_0_0 w
      · exact tells_5_0_1 w
      · exact tells_5_1_0 w
      · exact tells_5_1_1 w

end Go.Proofs.Ythnaijmbppmbjaa
