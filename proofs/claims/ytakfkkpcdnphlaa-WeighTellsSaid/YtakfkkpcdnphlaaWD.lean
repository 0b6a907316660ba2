/- Pick, of whatever; awake. -/
import Derived.Test.YtakfkkpcdnphlaaWC
namespace Go.Proofs.Ytakfkkpcdnphlaa
open Go.RowKit Go.Proofs.YtakfkkpcdnphlaaW.PrintWords
attribute [local go_sem] run_store_float

theorem pick_any (A : Option Addr) (cap : Nat) (l : List Nat) (draw : Nat) (w : World) (hC : kF.C w A l.length l) (hl : l.length ≤ 9223372036854775807) (hw : ∀ x ∈ l, x < 2 * sgn) (hd : draw < 2 ^ 64) :
    Calls Try.prog 13 #[.slice A l.length cap, .int .u64 draw] w (PickP w (pickF l draw)) := by
  unfold pickF
  by_cases h1 : l.length = 0 ∨ 64 < l.length
  · rw [if_pos h1]; exact pick_len A cap l draw w h1 hl
  · rw [if_neg h1]
    by_cases h2 : maxC (l.map cnt) = 0
    · rw [if_pos h2]; exact pick_none A cap l draw w hC (by omega) (by omega) hw h2
    · rw [if_neg h2]
      by_cases h3 : 0 < (ends (l.map cnt) l.length).length
      · rw [if_pos h3]; exact pick_top A cap l draw w hC (by omega) (by omega) hw h2 hd h3
      · rw [if_neg h3]; exact pick_scan A cap l draw w hC (by omega) (by omega) hw h2 hd h3

theorem pick_any' (A : Option Addr) (cap n : Nat) (l : List Nat) (draw : Nat) (w : World) (hn : l.length = n) (hC : kF.C w A n l) (hl : n ≤ 9223372036854775807) (hw : ∀ x ∈ l, x < 2 * sgn) (hd : draw < 2 ^ 64) (r : Int × Int) (hr : pickF l draw = r) :
    Calls Try.prog 13 #[.slice A n cap, .int .u64 draw] w (PickP w r) := by
  subst hn
  subst hr
  exact pick_any A cap l draw w hC hl hw hd

theorem ext29 (x : Nat) (w : World) : (callFunc 29 #[.int .u64 (x : Int)]).run Try.prog w = .ok (.value (.float .f64 x)) w := by
  rw [run_callFunc_extern Try.func29 (by kernel_rfl) (by kernel_rfl) (by kernel_rfl) (e := Extern.MathFloatBits.float64frombits) (by kernel_rfl)]
  rfl
theorem ext19 (x : Nat) (w : World) : (callFunc 19 #[.float .f64 x]).run Try.prog w = .ok (.value (.int .u64 (x : Int))) w := by
  rw [run_callFunc_extern Try.func19 (by kernel_rfl) (by kernel_rfl) (by kernel_rfl) (e := Extern.MathFloatBits.float64bits) (by kernel_rfl)]
  rfl

theorem nan_is (w : World) : Calls Try.prog 16 #[] w fun e w' => e = .returned (.float .f64 9221120237041090561) ∧ w = w' := by
  have h : ∀ w, (callFunc 29 #[.int .u64 9221120237041090561]).run Try.prog w = .ok (.value (.float .f64 9221120237041090561)) w := ext29 9221120237041090561
  go_enter Try.func16, Try.ntmps16
  go_wp2
  go_ret
  exact ⟨rfl, rfl⟩
theorem inf_is (w : World) : Calls Try.prog 28 #[.int .i64 1] w fun e w' => e = .returned (.float .f64 9218868437227405312) ∧ w = w' := by
  have h : ∀ w, (callFunc 29 #[.int .u64 9218868437227405312]).run Try.prog w = .ok (.value (.float .f64 9218868437227405312)) w := ext29 9218868437227405312
  go_enter Try.func28, Try.ntmps28
  go_wp2
  go_ret
  exact ⟨rfl, rfl⟩

theorem lit_C (W : World) (l : List Nat) (hm : l.length ≤ 9223372036854775807) : kF.C (W.alloc (.cells (l.map (Value.float .f64)).toArray 28)) (some ⟨W.heap.size, 0, none⟩) l.length l := by
  have h := own_lit_of (enc := Value.float .f64) W 0 28 l (Nat.zero_le _) hm
  exact (Kd.R_reads' (Kd.R_of_own (h1 := fun _ => rfl) (ok := fun _ => True) h (fun _ _ => trivial))).2.2

theorem aw1 : pickF [4607182418800017408, 9221120237041090561, 4613937818241073152] 0 = (0, 0) := by decide +kernel
theorem aw2 : pickF [4607182418800017408, 9221120237041090561, 4613937818241073152] 18446744073709551615 = (2, 0) := by decide +kernel
theorem aw3 : pickF [4607182418800017408, 9218868437227405312, 9218868437227405312] 3 = (2, 0) := by decide +kernel
theorem aw4 : pickF [13830554455654793216, 9223372036854775808] 9 = (0, 4) := by decide +kernel

theorem in1 : ∀ x ∈ [4607182418800017408, 9221120237041090561, 4613937818241073152], x < 2 * sgn := by decide +kernel
theorem in3 : ∀ x ∈ [4607182418800017408, 9218868437227405312, 9218868437227405312], x < 2 * sgn := by decide +kernel
theorem in4 : ∀ x ∈ [13830554455654793216, 9223372036854775808], x < 2 * sgn := by decide +kernel

def AwakeP (w : World) (e : Ending) (w' : World) : Prop := e = .returned (.bool true) ∧ Below w.heap.size w w'
set_option maxRecDepth 100000 in
theorem awake_any (w : World) : Calls Try.prog 11 #[] w (AwakeP w) := by
  have h29 : ∀ w, (callFunc 29 #[.int .u64 9223372036854775808]).run Try.prog w = .ok (.value (.float .f64 9223372036854775808)) w := ext29 9223372036854775808
  go_enter Try.func11, Try.ntmps11
  go_wp2_with (go_at_call 16; refine (nan_is _).mono ?_; rintro e w' ⟨rfl, rfl⟩)
  refine (pick_any' (some ⟨w.heap.size, 0, none⟩) 3 3 [4607182418800017408, 9221120237041090561, 4613937818241073152] 0 _ rfl (lit_C w _ (by decide)) (by decide) in1 (by decide) _ aw1).mono ?_
  rintro e w1 ⟨rfl, hb⟩
  have HB1 := Lib.hid ((below_alloc (Below.refl _ w) _).trans (hb.mono (below_alloc (Below.refl _ w) _).size))
  clear hb
  go_wp2_with (go_at_call 16; refine (nan_is _).mono ?_; rintro e w' ⟨rfl, rfl⟩)
  refine (pick_any' (some ⟨w1.heap.size, 0, none⟩) 3 3 [4607182418800017408, 9221120237041090561, 4613937818241073152] 18446744073709551615 _ rfl (lit_C w1 _ (by decide)) (by decide) in1 (by decide) _ aw2).mono ?_
  rintro e w2 ⟨rfl, hb⟩
  have hb2 := (below_alloc (Below.refl _ w1) _).trans (hb.mono (below_alloc (Below.refl _ w1) _).size)
  have HB2 := Lib.hid (HB1.out.trans (hb2.mono HB1.out.size))
  clear hb hb2
  go_wp2_with (go_at_call 28; refine (inf_is _).mono ?_; rintro e w' ⟨rfl, rfl⟩)
  refine (pick_any' (some ⟨w2.heap.size, 0, none⟩) 3 3 [4607182418800017408, 9218868437227405312, 9218868437227405312] 3 _ rfl (lit_C w2 _ (by decide)) (by decide) in3 (by decide) _ aw3).mono ?_
  rintro e w3 ⟨rfl, hb⟩
  have hb3 := (below_alloc (Below.refl _ w2) _).trans (hb.mono (below_alloc (Below.refl _ w2) _).size)
  have HB3 := Lib.hid (HB2.out.trans (hb3.mono HB2.out.size))
  clear hb hb3
  go_wp2_with fail
  refine (pick_any' (some ⟨w3.heap.size, 0, none⟩) 2 2 [13830554455654793216, 9223372036854775808] 9 _ rfl (lit_C w3 _ (by decide)) (by decide) in4 (by decide) _ aw4).mono ?_
  rintro e w4 ⟨rfl, hb⟩
  have hb4 := (below_alloc (Below.refl _ w3) _).trans (hb.mono (below_alloc (Below.refl _ w3) _).size)
  have HB4 := Lib.hid (HB3.out.trans (hb4.mono HB3.out.size))
  clear hb hb4
  go_wp2_with fail
  go_ret
  exact ⟨rfl, HB4.out⟩
end Go.Proofs.Ytakfkkpcdnphlaa
