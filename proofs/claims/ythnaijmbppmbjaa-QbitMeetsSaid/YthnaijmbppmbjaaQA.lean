/- The contracts of package qbit's functions: what Check, column, got, ask, Got, Ask, Wanted answer. -/
import Derived.Test.YthnaijmbppmbjaaProg
import Derived.WalkKit
import Derived.WalkLawsBesides
import Derived.BigRegion
import Derived.BigQuiet
import Derived.Deep.QuietTactic
import Derived.Deep.RegionHeld3
import Derived.Deep.DeepCutAuto
import Derived.Outline
import Derived.KernelRfl
import Derived.ProofKit
import Derived.Handy
import Derived.Laws.Rows
namespace Go.Proofs.Ythnaijmbppmbjaa
open Go.RowKit

def gotC : Array Value := #[.int .i64 0, .int .i64 0, .int .i64 0, .int .i64 1, .int .i64 1, .int .i64 0, .int .i64 0, .int .i64 2, .int .i64 0, .int .i64 1, .int .i64 0, .int .i64 0, .int .i64 0, .int .i64 0, .int .i64 0, .int .i64 0, .int .i64 0, .int .i64 5, .int .i64 4, .int .i64 1, .int .i64 0, .int .i64 1, .int .i64 0, .int .i64 5, .int .i64 0, .int .i64 0, .int .i64 0, .int .i64 1, .int .i64 0, .int .i64 0, .int .i64 0, .int .i64 0, .int .i64 0, .int .i64 2, .int .i64 2, .int .i64 0]
def askC : Array Value := #[.int .i64 0, .int .i64 0, .int .i64 5, .int .i64 4, .int .i64 1, .int .i64 0, .int .i64 2, .int .i64 2, .int .i64 0, .int .i64 1, .int .i64 0, .int .i64 5, .int .i64 2, .int .i64 0, .int .i64 5, .int .i64 3, .int .i64 0, .int .i64 0, .int .i64 2, .int .i64 0, .int .i64 0, .int .i64 3, .int .i64 0, .int .i64 5, .int .i64 5, .int .i64 0, .int .i64 0, .int .i64 4, .int .i64 0, .int .i64 5, .int .i64 5, .int .i64 0, .int .i64 5, .int .i64 4, .int .i64 0, .int .i64 0]

theorem size50 : (Try.prog.info? 50).map (·.size) = some gotC.size := by kernel_rfl

theorem below_setRow {B : Nat} {a w : World} (h : Below B a w) {g : Nat} (hp : B ≤ g) (cs : Array Value) : Below B a (w.setRow g cs) :=
  h.trans ⟨rfl, rfl, rfl, by simp, fun k hk => setRow_other _ _ _ _ (by omega)⟩

theorem bcell {W w1 : World} (hb : Below W.heap.size W w1) : (∀ b o, b < W.heap.size → w1.cell? ⟨b, o, none⟩ = W.cell? ⟨b, o, none⟩) ∧ (∀ b o, b < W.heap.size → w1.frozen? ⟨b, o, none⟩ = W.frozen? ⟨b, o, none⟩) :=
  ⟨fun b o h => hb.cell (p := ⟨b, o, none⟩) h, fun b o h => hb.frozen (p := ⟨b, o, none⟩) h⟩

def z50 : Array Value := #[.int .i64 0, .int .i64 0, .int .i64 0, .int .i64 0, .int .i64 0, .int .i64 0, .int .i64 0, .int .i64 0, .int .i64 0, .int .i64 0, .int .i64 0, .int .i64 0, .int .i64 0, .int .i64 0, .int .i64 0, .int .i64 0, .int .i64 0, .int .i64 0, .int .i64 0, .int .i64 0, .int .i64 0, .int .i64 0, .int .i64 0, .int .i64 0, .int .i64 0, .int .i64 0, .int .i64 0, .int .i64 0, .int .i64 0, .int .i64 0, .int .i64 0, .int .i64 0, .int .i64 0, .int .i64 0, .int .i64 0, .int .i64 0]
set_option maxRecDepth 100000 in
theorem got_any (w : World) : Calls Try.prog 19 #[] w fun e w' => e = .returned (.agg gotC) ∧ Below w.heap.size w w' := by
  go_enter Try.func19, Try.ntmps19
  go_upto_region 1 with fail
  go_wp2_with (first
    | (refine wpList_build rfl _ _ rfl (by kernel_rfl) ?_)
    | (refine wpList_store_row (w := w.alloc (.cells z50 50)) rfl 50 _ _ rfl w.heap.size gotC (by kernel_rfl) (by kernel_rfl) 50 z50 (heap_alloc_new _ _) (by kernel_rfl) (by kernel_rfl) (by kernel_rfl) ?_))
  refine bodyPost_ret (v := .agg gotC) (results_cell_row (p := 0) (by kernel_rfl) _ _ w.heap.size 50 gotC (0, 0) _ (by kernel_rfl) (setRow_heap _ _ z50 _ 50 _ (heap_alloc_new _ _)) Try.underlying50 (by kernel_rfl) (by kernel_rfl)) rfl ⟨rfl, ?_⟩
  exact below_setRow ((Below.refl _ w).alloc (Nat.le_refl _) _) (Nat.le_refl _) _

set_option maxRecDepth 100000 in
theorem ask_any (w : World) : Calls Try.prog 21 #[] w fun e w' => e = .returned (.agg askC) ∧ Below w.heap.size w w' := by
  go_enter Try.func21, Try.ntmps21
  go_upto_region 1 with fail
  go_wp2_with (first
    | (refine wpList_build rfl _ _ rfl (by kernel_rfl) ?_)
    | (refine wpList_store_row (w := w.alloc (.cells z50 50)) rfl 50 _ _ rfl w.heap.size askC (by kernel_rfl) (by kernel_rfl) 50 z50 (heap_alloc_new _ _) (by kernel_rfl) (by kernel_rfl) (by kernel_rfl) ?_))
  refine bodyPost_ret (v := .agg askC) (results_cell_row (p := 0) (by kernel_rfl) _ _ w.heap.size 50 askC (0, 0) _ (by kernel_rfl) (setRow_heap _ _ z50 _ 50 _ (heap_alloc_new _ _)) Try.underlying50 (by kernel_rfl) (by kernel_rfl)) rfl ⟨rfl, ?_⟩
  exact below_setRow ((Below.refl _ w).alloc (Nat.le_refl _) _) (Nat.le_refl _) _

def colV (b : Bool) : Int := if b then 1 else 0
theorem column_any (b : Bool) (w : World) : Calls Try.prog 20 #[.bool b] w fun e w' => e = .returned (.int .i64 (colV b)) ∧ w = w' := by
  go_enter Try.func20, Try.ntmps20
  cases b <;> go_wp2 <;> go_ret <;> exact ⟨rfl, rfl⟩


theorem check_any (q : Int) (w : World) : Calls Try.prog 13 #[.int .i64 q] w fun e w' => e = .returned (.int .i64 (if 0 ≤ q ∧ q < 6 then 0 else 1)) ∧ w = w' := by
  by_cases h0 : q < 0
  · go_enter Try.func13, Try.ntmps13
    go_wp2
    go_ret
    exact ⟨rfl, rfl⟩
  · by_cases h6 : 6 ≤ q
    · go_enter Try.func13, Try.ntmps13
      go_wp2
      go_ret
      exact ⟨rfl, rfl⟩
    · go_enter Try.func13, Try.ntmps13
      go_wp2
      go_ret
      exact ⟨rfl, rfl⟩

theorem check_ok (q : Int) (h0 : 0 ≤ q) (h6 : q < 6) (w : World) : Calls Try.prog 13 #[.int .i64 q] w fun e w' => e = .returned (.int .i64 0) ∧ w = w' := by
  have := check_any q w
  rwa [if_pos ⟨h0, h6⟩] at this

/-- The table's cell j of what comes (k: 0, 1, 2: where it is, what is said, the error). -/
def gC (q : Int) (y : Bool) (k : Nat) : Int := match gotC[q.toNat * 6 + (if y then 3 else 0) + k]? with | some (.int _ n) => n | _ => 0
def aC (q : Int) (y : Bool) (k : Nat) : Int := match askC[q.toNat * 6 + (if y then 3 else 0) + k]? with | some (.int _ n) => n | _ => 0

theorem six (q : Int) (h0 : 0 ≤ q) (h6 : q < 6) : q = 0 ∨ q = 1 ∨ q = 2 ∨ q = 3 ∨ q = 4 ∨ q = 5 := by omega

def gRow (q : Int) : Array Value := gotC.extract (q.toNat * 6) (q.toNat * 6 + 6)
theorem index50 (q : Int) (h0 : 0 ≤ q) (h6 : q < 6) : ∀ w, (Instr.index 50 (.agg gotC) (.int .i64 q)).run Try.prog w = .ok (.agg (gRow q)) w := by
  rcases six q h0 h6 with rfl | rfl | rfl | rfl | rfl | rfl <;> (intro w; kernel_rfl)
theorem index49 (q : Int) (h0 : 0 ≤ q) (h6 : q < 6) (y : Bool) : ∀ w, (Instr.index 49 (.agg (gRow q)) (.int .i64 (colV y))).run Try.prog w = .ok (.agg #[.int .i64 (gC q y 0), .int .i64 (gC q y 1), .int .i64 (gC q y 2)]) w := by
  cases y <;> rcases six q h0 h6 with rfl | rfl | rfl | rfl | rfl | rfl <;> (intro w; kernel_rfl)

def Nx (w wx : World) (g : Nat) (a b c : Int) : Prop := w.heap.size ≤ g ∧ wx.heap[g]? = some (.cells #[.int .i64 a, .int .i64 b, .int .i64 c] 48 (0, 0)) ∧ Below w.heap.size w wx
theorem nxA {w w' : World} (hb : Below w.drew.heap.size w.drew w') (a b c : Int) : Nx w (w'.alloc (.cells #[.int .i64 a, .int .i64 b, .int .i64 c] 48)) w'.heap.size a b c :=
  ⟨hb.size, heap_alloc_new _ _, (Below.refl _ w).drew.trans (hb.trans ((Below.refl _ _).alloc hb.size _))⟩
theorem nxB {w w' : World} (hb : Below (w.alloc (.cells #[.int .i64 0, .int .i64 0, .int .i64 0] 48)).drew.heap.size (w.alloc (.cells #[.int .i64 0, .int .i64 0, .int .i64 0] 48)).drew w') (a b c : Int) :
    Nx w (((w'.setCell ⟨w.heap.size, 0, none⟩ (.int .i64 a)).setCell ⟨w.heap.size, 1, none⟩ (.int .i64 b)).setCell ⟨w.heap.size, 2, none⟩ (.int .i64 c)) w.heap.size a b c := by
  have h : w'.heap[w.heap.size]? = some (.cells #[.int .i64 0, .int .i64 0, .int .i64 0] 48 (0, 0)) := (hb.block _ (by simp [World.drew])).trans (heap_alloc_new _ _)
  refine ⟨Nat.le_refl _, heap_setCell_same _ _ 2 _ _ _ (heap_setCell_same _ _ 1 _ _ _ (heap_setCell_same _ _ 0 _ _ _ h)), ?_⟩
  exact (((((((Below.refl _ _).alloc (Nat.le_refl _) _).drew).trans (hb.mono (by simp [World.drew]))).setCell (Nat.le_refl _) _).setCell (Nat.le_refl _) _).setCell (Nat.le_refl _) _)
theorem nx_cells {wx : World} {g : Nat} {a b c : Int} (h : wx.heap[g]? = some (.cells #[.int .i64 a, .int .i64 b, .int .i64 c] 48 (0, 0))) :
    wx.cell? ⟨g, 0, none⟩ = some (.int .i64 a) ∧ wx.cell? ⟨g, 1, none⟩ = some (.int .i64 b) ∧ wx.cell? ⟨g, 2, none⟩ = some (.int .i64 c) ∧ wx.frozen? ⟨g, 0, none⟩ = false ∧ wx.frozen? ⟨g, 1, none⟩ = false ∧ wx.frozen? ⟨g, 2, none⟩ = false :=
  ⟨cell_of_row _ _ 0 _ _ _ h, cell_of_row _ _ 1 _ _ _ h, cell_of_row _ _ 2 _ _ _ h, frozen_of_row _ _ 0 _ _ h, frozen_of_row _ _ 1 _ _ h, frozen_of_row _ _ 2 _ _ h⟩

end Go.Proofs.Ythnaijmbppmbjaa
