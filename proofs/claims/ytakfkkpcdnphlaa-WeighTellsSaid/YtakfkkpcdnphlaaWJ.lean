/- slices.Chunk at eights: the contract of its iterator. -/
import Derived.RangeFuncNested
import Derived.RangeFuncBound
import Derived.RangeFuncCalls
import Derived.RangeFuncLeaves
import Derived.RangeFuncBox
import Derived.Shelf.Abstract
import Derived.Shelf.RegionOpen
import Derived.OwnWalkIn
import Derived.TacticsInMore
import Derived.LoopNIn
import Derived.LoopIn
import Derived.Maps.AppendAt
import Derived.Test.YtakfkkpcdnphlaaWD
namespace Go.Proofs.Ytakfkkpcdnphlaa
open Go.RowKit Go.Shelf Go.Proofs.YtakfkkpcdnphlaaW.PrintWords
attribute [local go_sem] Oper.semAt_some

/-- A chunk's place, of m. -/
abbrev Ck (m : Nat) := { k : Nat // k < m }
def ckv {m : Nat} (A : Option Addr) (x : Ck m) : Array Value := #[.slice (A.map (·.add (8 * x.1))) 8 8]
/-- The first k of m. -/
def cks (m : Nat) : Nat → List (Ck m)
  | 0 => []
  | k + 1 => if h : k < m then cks m k ++ [⟨k, h⟩] else cks m k
theorem cks_succ {m k : Nat} (h : k < m) : cks m (k + 1) = cks m k ++ [⟨k, h⟩] := by
  show (if h : k < m then cks m k ++ [⟨k, h⟩] else cks m k) = _
  rw [dif_pos h]
theorem cks_len {m : Nat} : ∀ k, k ≤ m → (cks m k).length = k := by
  intro k
  induction k with
  | zero => intro _; rfl
  | succ k ih => intro h; rw [cks_succ (by omega), List.length_append, ih (by omega)]; rfl

theorem info5 : (Try.prog.info? 5).map (fun i => (i.zero, i.size, i.bytes)) = some (some (.int .u8 0), 1, 1) := by kernel_rfl

set_option maxHeartbeats 1000000 in
/-- slices.Chunk(b, 8): both are boxed; the function value captures the boxes. -/
theorem chunk_in (F : Fence) (n : Nat) (h37 : F.fn 37) (hro : F.round = none) (A : Option Addr) (len cap : Nat) (w : World) :
    CallsIn F n Try.prog 37 #[.slice A len cap, .int .i64 8] w fun e w' => e = .returned (.func (.func 38) #[] #[.pointer (some ⟨w.heap.size, 0, none⟩), .pointer (some ⟨w.heap.size + 1, 0, none⟩)]) ∧ w' = (w.alloc (.cells #[.slice A len cap] 41)).alloc (.cells #[.int .i64 8] 3) := by
  refine callsIn_of_wp Try.func37 rfl h37 ?_ hro
  simp only [Try.ntmps37, List.size_toArray, List.length_cons, List.length_nil, Nat.reduceAdd, Nat.reduceSub, Array.replicate_succ, Array.replicate_zero, List.push_toArray, List.append_toArray, List.nil_append, List.cons_append]
  gi_wp2
  go_ret
  exact ⟨rfl, rfl⟩

theorem drew_grown (W : World) (row : Option Nat) : W.grownBy W.drew row := ⟨rfl, rfl, rfl, Nat.le_refl _, fun _ _ _ => rfl⟩

/-- What a round that goes on keeps: what lay below n₀, and the two boxes of the iterator's. -/
def KpC (n₀ Bs Bn : Nat) (W W' : World) : Prop := Below n₀ W W' ∧ (∀ u, Boxed W Bs 41 u → Boxed W' Bs 41 u) ∧ (∀ u, Boxed W Bn 3 u → Boxed W' Bn 3 u)
theorem kpc_t {n₀ Bs Bn : Nat} {A B C : World} (h : KpC n₀ Bs Bn A B) (k : KpC n₀ Bs Bn B C) : KpC n₀ Bs Bn A C := ⟨h.1.trans k.1, fun u hu => k.2.1 u (h.2.1 u hu), fun u hu => k.2.2 u (h.2.2 u hu)⟩
theorem kpc_refl (n₀ Bs Bn : Nat) (W : World) : KpC n₀ Bs Bn W W := ⟨Below.refl _ _, fun _ h => h, fun _ h => h⟩
theorem drewn_boxed {W : World} {B t : Nat} {u : Value} (h : Boxed W B t u) : Boxed W.drew B t u := h.kept (drew_grown W none) (by simp)
theorem kpc_b {n₀ Bs Bn : Nat} (w0 : World) (h1 : Bs < w0.heap.size) (h2 : Bn < w0.heap.size) (h0 : n₀ ≤ w0.heap.size) (W : World) (l : Nat) (o o' : Obj) (hl : w0.heap.size ≤ l) (ho : W.heap[l]? = some o) (hc : o.isCells = false) (hw : o.isWalk = false) : KpC n₀ Bs Bn W (W.putObj l o') :=
  ⟨belowK_b (w := w0) h0 W l o o' hl ho hc hw, fun u hu => hu.kept (grownBy_putObj' W l o') (by intro e; cases e; omega), fun u hu => hu.kept (grownBy_putObj' W l o') (by intro e; cases e; omega)⟩

set_option maxRecDepth 100000 in
set_option maxHeartbeats 2000000 in
theorem chunk1_in (F : Fence) (n : Nat) (h38 : F.fn 38) (hro : F.round = none) (hn : 1 ≤ n) (l Bs Bn n₀ : Nat) (A : Option Addr) (m cap : Nat) (hcap : 8 * m ≤ cap) (hm : 8 * m ≤ 140737488351232) (J Jx : List (Ck m) → World → Prop) (B : Nat) (hJ : AbidesFrom B J)
    (hY : ∀ pre x W, J pre W → pre.length < m → YieldAt F (n - 1) Try.prog l (ckv A x) W fun e W' =>
      (e = .returned (.bool true) ∧ J (pre ++ [x]) W' ∧ KpC n₀ Bs Bn W W') ∨ (e = .returned (.bool false) ∧ Jx (pre ++ [x]) W'))
    (W : World) (hBs : Boxed W Bs 41 (.slice A (8 * m) cap)) (hBn : Boxed W Bn 3 (.int .i64 8)) (h0 : J [] W) :
    CallsIn F n Try.prog 38 #[.func (.yield l) #[] #[], .pointer (some ⟨Bs, 0, none⟩), .pointer (some ⟨Bn, 0, none⟩)] W fun e W' => (∃ v, e = .returned v) ∧
      ((∃ ys, ys = cks m m ∧ J ys W') ∨ (∃ pre, True ∧ Jx pre W')) := by
  refine callsIn_of_wp Try.func38 rfl h38 ?_ hro
  simp only [Try.ntmps38, List.size_toArray, List.length_cons, List.length_nil, Nat.reduceAdd, Nat.reduceSub, Array.replicate_succ, Array.replicate_zero, List.push_toArray, List.append_toArray, List.nil_append, List.cons_append]
  gi_wp2
  gi_loopw [4] (fun i wr => ∃ k : Nat, k ≤ m ∧ i = .int .i64 (8 * (k : Int)) ∧ J (cks m k) wr ∧ Boxed wr Bs 41 (.slice A (8 * m) cap) ∧ Boxed wr Bn 3 (.int .i64 8)) (fun i _ => 8 * m - (intOf i).toNat)
  case atStart => exact ⟨0, Nat.zero_le _, rfl, h0, hBs, hBn⟩
  case round =>
    obtain ⟨k, hk, rfl, hJs, hx1, hx2⟩ := hrel
    have hc1 := hx1.cell
    have hc2 := hx2.cell
    have HX1 := Lib.hid (drewn_boxed hx1)
    have HX2 := Lib.hid (drewn_boxed hx2)
    clear hx1 hx2 hBs hBn
    by_cases hlt : k < m
    · obtain ⟨fn, tmps, assign, body, hy, hR⟩ := hY _ ⟨k, hlt⟩ wr.drew (hJ _ _ _ none hJs (drew_grown _ _) (fun r e => by cases e)) (by rw [cks_len k hk]; exact hlt)
      obtain ⟨i0, hi, _, hsz, _⟩ := info_parts info5
      obtain ⟨A', hcut⟩ : ∃ A', ∀ W1, (Instr.slice 41 (.slice A (8 * m) cap) (some (.int .i64 (8 * (k : Int)))) none none).run Try.prog W1 = .ok (.slice A' (8 * m - 8 * k) (cap - 8 * k)) W1 := by
        have h := cut_from (P := Try.prog) 41 5 .i64 Try.underlying41 hi 1 hsz A (8 * m) cap (8 * (k : Int)) (by omega) (by omega)
        have e : (8 * (k : Int)).toNat = 8 * k := by omega
        rw [e] at h
        exact ⟨_, h⟩
      have hcut3 : ∀ W1, (Instr.slice 41 (.slice A (8 * m) cap) (some (.int .i64 (8 * (k : Int)))) (some (.int .i64 (8 * (k : Int) + 8))) (some (.int .i64 (8 * (k : Int) + 8)))).run Try.prog W1 = .ok (.slice (A.map (·.add (8 * k))) 8 8) W1 := by
        intro W1
        have hel : Try.prog.elem 41 = 5 := by simp [Program.elem, Try.underlying41]
        have hu : Try.prog.underlying 41 = some (.slice (Try.prog.elem 41)) := by rw [hel]; exact Try.underlying41
        rw [run_slice_lhm W1 41 A (8 * m) cap hu .i64 .i64 .i64 _ _ _ (by omega) (by omega) (by omega) (by omega), hel]
        have e1 : (8 * (k : Int)).toNat = 8 * k := by omega
        have e2 : (8 * (k : Int) + 8).toNat = 8 * k + 8 := by omega
        simp [sizeOf, typeInfo, hi, hsz, sliced, Result.andThen, e1, e2]
      dsimp only [ckv] at hy
      have hmin : (if ((8 * m - 8 * k : Nat) : Int) < 8 then ((8 * m - 8 * k : Nat) : Int) else 8) = 8 := if_neg (by omega)
      have HMIN := Lib.hid hmin
      clear hi hsz hmin
      gi_wp2
      gi_region
      all_goals
        rw [HMIN.out]
        gi_wp2
        refine hR.mono ?_
        rintro e W3 (⟨rfl, hJ3, hk3⟩ | ⟨rfl, hJx3⟩)
        · have HY1 := Lib.hid (hk3.2.1 _ HX1.out)
          have HY2 := Lib.hid (hk3.2.2 _ HX2.out)
          have hc4 := HY2.out.cell
          clear hk3
          rw [← cks_succ hlt] at hJ3
          gi_wp2
          go_roundw
          case rel => exact ⟨k + 1, by omega, by go_num, hJ3, HY1.out, HY2.out⟩
          case measure => simp [intOf]; omega
        · gi_wp2
          refine bodyPost_ret (results_none rfl _ _ _) rfl ?_
          exact ⟨⟨_, rfl⟩, .inr ⟨_, trivial, hJx3⟩⟩
    · obtain rfl : k = m := by omega
      gi_wp2
      go_end0
      exact ⟨⟨_, rfl⟩, .inl ⟨_, rfl, hJs⟩⟩

theorem chunk_stops (F : Fence) (n : Nat) (h38 : F.fn 38) (hro : F.round = none) (hn : 1 ≤ n) (Bs Bn n₀ : Nat) (A : Option Addr) (m cap : Nat) (hcap : 8 * m ≤ cap) (hm : 8 * m ≤ 140737488351232) (w : World)
    (hBs : Boxed w Bs 41 (.slice A (8 * m) cap)) (hBn : Boxed w Bn 3 (.int .i64 8)) :
    SeqStopsK F n Try.prog 38 #[.pointer (some ⟨Bs, 0, none⟩), .pointer (some ⟨Bn, 0, none⟩)] (ckv (m := m) A) (KpC n₀ Bs Bn) (fun ys => ys = cks m m) (fun _ => True) m w := fun l J Jx W hW hJ _ hY h0 =>
  chunk1_in F n h38 hro hn l Bs Bn n₀ A m cap hcap hm J Jx _ hJ hY W (hBs.kept (grown_of_below hW none) (by simp)) (hBn.kept (grown_of_below hW none) (by simp)) h0
end Go.Proofs.Ytakfkkpcdnphlaa
