/- QbitMeets: the contract of 'under', and what is known of the law's memory. -/
import Derived.Test.YthnaijmbppmbjaaQM0
import Derived.Test.YthnaijmbppmbjaaWMore
namespace Go.Proofs.Ythnaijmbppmbjaa
open Go.RowKit Go.Proofs.YthnaijmbppmbjaaW.PrintWords

theorem info4 : (Try.prog.info? 4).map (fun i => (i.zero, i.size, i.bytes)) = some (some (.bool false), 1, 1) := by kernel_rfl

def UnderP (w : World) (base : Nat) (ok : Nat → Prop) (v : Value) (t : List Bool) (e : Ending) (w' : World) : Prop :=
  ∃ A c, e = .returned (.slice A t.length c) ∧ Kd.bool.Q 4 w' base ok (.slice A t.length c) t ∧ w.grownBy w' v.ownBlock ∧
    ((Value.slice A t.length c).ownBlock = v.ownBlock ∨ ∃ b, (Value.slice A t.length c).ownBlock = some b ∧ w.heap.size ≤ b)

theorem grownBy_refl (w : World) (r : Option Nat) : w.grownBy w r := ⟨rfl, rfl, rfl, Nat.le_refl _, fun _ _ _ => rfl⟩

theorem under_any (s : Int) (w : World) (base : Nat) (ok : Nat → Prop) (v : Value) (t : List Bool) (hQ : Kd.bool.Q 4 w base ok v t) (hbase : base ≤ w.heap.size) (hfresh : ∀ k, w.heap.size ≤ k → ok k) (hl : t.length ≤ 100) :
    Calls Try.prog 11 #[v, .int .i64 s] w (UnderP w base ok v (und t s)) := by
  by_cases hs : s = 0
  · subst hs
    have e : und t 0 = t := rfl
    rw [e]
    obtain ⟨A, c, rfl, _⟩ := Kd.Q_slice hQ
    have H := Lib.hid hQ
    clear hQ e
    go_enter Try.func11, Try.ntmps11
    go_wp2
    go_ret
    exact ⟨A, c, rfl, H.out, grownBy_refl _ _, .inl rfl⟩
  · have e : und t s = t ++ [s == 1] := by unfold und; rw [if_neg hs]
    have E := Lib.hid e
    have H := Lib.hid hQ
    have HF := Lib.hid hfresh
    have h0 : (s == 0) = false := by simpa using hs
    clear hQ e hfresh hs
    go_enter Try.func11, Try.ntmps11
    go_wp2_with (at_builtin; refine Kd.Q_append Kd.bool (w0 := w) base rfl (.tmp 8) (.tmp 11) 27 4 (.bool false) 1 rfl Try.underlying27 info4 rfl (by decide) (by omega) v t (s == 1) [.bool (s == 1)] ok (fun _ => False) rfl rfl rfl (fun _ hk => hk.elim) HF.out H.out (Below.refl _ _) hbase (by omega) ?_; intro v1 w1 hq hb hg hat; have HQ := Lib.hid hq; have HG := Lib.hid hg; have HA := Lib.hid hat; clear hq hg hat)
    go_ret
    obtain ⟨A, c, hv, _⟩ := Kd.Q_slice HQ.out
    rw [E.out]
    refine ⟨A, c, congrArg Ending.returned hv, ?_, HG.out, ?_⟩
    · rw [← hv]; exact HQ.out
    · rw [← hv]; exact HA.out

/-- What is known of the law's memory: p, may, at, to (blocks n to n + 3), what is under way to both, apart. -/
structure MS (W w : World) (A B : Bool) (Al : Option Addr) (len cap : Nat) (q0 q1 : Int) (v0 v1 : Value) (t0 t1 : List Bool) : Prop where
  p : w.heap[W.heap.size]? = some (.cells #[.bool A, .bool B, .slice Al len cap] 24 (0, 0))
  may : w.heap[W.heap.size + 1]? = some (.cells #[.bool A, .bool B] 25 (0, 0))
  at_ : w.heap[W.heap.size + 2]? = some (.cells #[.int .i64 q0, .int .i64 q1] 26 (0, 0))
  to_ : w.heap[W.heap.size + 3]? = some (.cells #[v0, v1] 28 (0, 0))
  u0 : Kd.bool.Q 4 w (W.heap.size + 4) (fun k => some k ≠ v1.ownBlock) v0 t0
  u1 : Kd.bool.Q 4 w (W.heap.size + 4) (fun k => some k ≠ v0.ownBlock) v1 t1
  below : Below W.heap.size W w

section
variable {W w w1 : World} {A B : Bool} {Al : Option Addr} {len cap : Nat} {q0 q1 : Int} {v0 v1 : Value} {t0 t1 : List Bool}
theorem MS.size (h : MS W w A B Al len cap q0 q1 v0 v1 t0 t1) : W.heap.size + 4 ≤ w.heap.size := (Array.getElem?_eq_some_iff.1 h.to_).1
theorem MS.step (h : MS W w A B Al len cap q0 q1 v0 v1 t0 t1) (hb : Below w.heap.size w w1) : MS W w1 A B Al len cap q0 q1 v0 v1 t0 t1 := by
  have hs := h.size
  exact ⟨(hb.block _ (by omega)).trans h.p, (hb.block _ (by omega)).trans h.may, (hb.block _ (by omega)).trans h.at_, (hb.block _ (by omega)).trans h.to_, Kd.Q_below h.u0 hb, Kd.Q_below h.u1 hb, h.below.trans (hb.mono (by omega))⟩
theorem MS.drewN (h : MS W w A B Al len cap q0 q1 v0 v1 t0 t1) (n : Nat) : MS W (w.drewN n) A B Al len cap q0 q1 v0 v1 t0 t1 := h.step (below_drewN (Below.refl _ _) n)
theorem Q_base' {v : Value} {t : List Bool} {n : Nat} {ok : Nat → Prop} (h : Kd.bool.Q 4 w (n + 4) ok v t) : Kd.bool.Q 4 w (n + 4) (fun k => ok k ∧ n + 4 ≤ k) v t := Kd.Q_mono (Kd.Q_bound h) (fun _ hk => ⟨hk.1, hk.2.1⟩)
theorem Q_off {v u : Value} {t : List Bool} {n i j : Nat} {ok : Nat → Prop} (h : Kd.bool.Q 4 w (n + 4) ok v t) (hi : i < 4) : Kd.bool.Q 4 (w.setCell ⟨n + i, j, none⟩ u) (n + 4) ok v t :=
  Kd.Q_mono (Kd.Q_far (Q_base' h) (p := ⟨n + i, j, none⟩) (fun k hk => by show k ≠ n + i; omega) u) (fun _ hk => hk.1)
/-- A store into one of the law's own variables. -/
theorem MS.setA0 (h : MS W w A B Al len cap q0 q1 v0 v1 t0 t1) (x : Int) : MS W (w.setCell ⟨W.heap.size + 2, 0, none⟩ (.int .i64 x)) A B Al len cap x q1 v0 v1 t0 t1 :=
  ⟨(heap_setCell_other _ _ _ _ (by show _ ≠ W.heap.size + 2; omega)).trans h.p, (heap_setCell_other _ _ _ _ (by show _ ≠ W.heap.size + 2; omega)).trans h.may, heap_setCell_same _ _ 0 _ _ _ h.at_, (heap_setCell_other _ _ _ _ (by show _ ≠ W.heap.size + 2; omega)).trans h.to_, Q_off h.u0 (by omega), Q_off h.u1 (by omega), h.below.setCell (by show W.heap.size ≤ W.heap.size + 2; omega) _⟩
theorem MS.setA1 (h : MS W w A B Al len cap q0 q1 v0 v1 t0 t1) (x : Int) : MS W (w.setCell ⟨W.heap.size + 2, 1, none⟩ (.int .i64 x)) A B Al len cap q0 x v0 v1 t0 t1 :=
  ⟨(heap_setCell_other _ _ _ _ (by show _ ≠ W.heap.size + 2; omega)).trans h.p, (heap_setCell_other _ _ _ _ (by show _ ≠ W.heap.size + 2; omega)).trans h.may, heap_setCell_same _ _ 1 _ _ _ h.at_, (heap_setCell_other _ _ _ _ (by show _ ≠ W.heap.size + 2; omega)).trans h.to_, Q_off h.u0 (by omega), Q_off h.u1 (by omega), h.below.setCell (by show W.heap.size ≤ W.heap.size + 2; omega) _⟩
/-- The first is taken off a queue. -/
theorem Q_pop {base : Nat} {ok : Nat → Prop} {v : Value} {y : Bool} {t : List Bool} (h : Kd.bool.Q 4 w base ok v (y :: t)) :
    ∃ ad c A', v = .slice (some ad) (t.length + 1) c ∧ t.length + 1 ≤ c ∧ w.cell? ad = some (.bool y) ∧ (∀ W1, (Instr.slice 27 (.slice (some ad) (t.length + 1) c) (some (.int .i64 1)) none none).run Try.prog W1 = .ok (.slice A' t.length (c - 1)) W1) ∧
      Kd.bool.Q 4 w base ok (.slice A' t.length (c - 1)) t ∧ (Value.slice A' t.length (c - 1)).ownBlock = v.ownBlock := by
  obtain ⟨A, c, rfl, hle⟩ := Kd.Q_slice h
  have hC := (Kd.Q_reads' h).2.2
  obtain ⟨ad, cs, rfl, _, hK, hc⟩ := Kd.C_get hC false (0 : Int) (by omega) (by simp)
  have hK' : cs = [.bool y] := hK
  have h0 := hc 0 _ (by rw [hK']; rfl)
  obtain ⟨i0, hi, _, hsz, _⟩ := info_parts info4
  have hcut := cut_from (P := Try.prog) 27 4 .i64 Try.underlying27 hi 1 hsz (some ad) (t.length + 1) c 1 (by omega) (by omega)
  have hd := Kd.Q_drop (k := 1) h (by simp)
  refine ⟨ad, c, _, rfl, hle, h0, hcut, hd, ?_⟩
  split
  · rfl
  · simp [Value.ownBlock]
    unfold Addr.add
    split <;> rfl
theorem MS.pop0 {y : Bool} (h : MS W w A B Al len cap q0 q1 v0 v1 (y :: t0) t1) {A' : Option Addr} {n c : Nat} (hq : Kd.bool.Q 4 w (W.heap.size + 4) (fun k => some k ≠ v1.ownBlock) (.slice A' n c) t0) (ho : (Value.slice A' n c).ownBlock = v0.ownBlock) :
    MS W (w.setCell ⟨W.heap.size + 3, 0, none⟩ (.slice A' n c)) A B Al len cap q0 q1 (.slice A' n c) v1 t0 t1 :=
  ⟨(heap_setCell_other _ _ _ _ (by show _ ≠ W.heap.size + 3; omega)).trans h.p, (heap_setCell_other _ _ _ _ (by show _ ≠ W.heap.size + 3; omega)).trans h.may, (heap_setCell_other _ _ _ _ (by show _ ≠ W.heap.size + 3; omega)).trans h.at_, heap_setCell_same _ _ 0 _ _ _ h.to_, Q_off hq (by omega), ho ▸ Q_off h.u1 (by omega), h.below.setCell (by show W.heap.size ≤ W.heap.size + 3; omega) _⟩
theorem MS.pop1 {y : Bool} (h : MS W w A B Al len cap q0 q1 v0 v1 t0 (y :: t1)) {A' : Option Addr} {n c : Nat} (hq : Kd.bool.Q 4 w (W.heap.size + 4) (fun k => some k ≠ v0.ownBlock) (.slice A' n c) t1) (ho : (Value.slice A' n c).ownBlock = v1.ownBlock) :
    MS W (w.setCell ⟨W.heap.size + 3, 1, none⟩ (.slice A' n c)) A B Al len cap q0 q1 v0 (.slice A' n c) t0 t1 :=
  ⟨(heap_setCell_other _ _ _ _ (by show _ ≠ W.heap.size + 3; omega)).trans h.p, (heap_setCell_other _ _ _ _ (by show _ ≠ W.heap.size + 3; omega)).trans h.may, (heap_setCell_other _ _ _ _ (by show _ ≠ W.heap.size + 3; omega)).trans h.at_, heap_setCell_same _ _ 1 _ _ _ h.to_, ho ▸ Q_off h.u0 (by omega), Q_off hq (by omega), h.below.setCell (by show W.heap.size ≤ W.heap.size + 3; omega) _⟩
/-- What is said goes behind what is under way: the call of 'under', and the store. -/
theorem grown_block {n : Nat} {v : Value} {t : List Bool} {ok : Nat → Prop} (hq : Kd.bool.Q 4 w (n + 4) ok v t) (hg : w.grownBy w1 v.ownBlock) {i : Nat} (hi : i < n + 4) (hs : n + 4 ≤ w.heap.size) : w1.heap[i]? = w.heap[i]? :=
  hg.block i (by omega) (fun e => by have := Kd.Q_base hq i e.symm; omega)
theorem MS.put0 (h : MS W w A B Al len cap q0 q1 v0 v1 t0 t1) {A' : Option Addr} {n c : Nat} {t : List Bool} (hq : Kd.bool.Q 4 w1 (W.heap.size + 4) (fun k => some k ≠ v1.ownBlock) (.slice A' n c) t) (hg : w.grownBy w1 v0.ownBlock)
    (ho : (Value.slice A' n c).ownBlock = v0.ownBlock ∨ ∃ b, (Value.slice A' n c).ownBlock = some b ∧ w.heap.size ≤ b) :
    MS W (w1.setCell ⟨W.heap.size + 3, 0, none⟩ (.slice A' n c)) A B Al len cap q0 q1 (.slice A' n c) v1 t t1 := by
  have hs := h.size
  have hb : ∀ i, i < W.heap.size + 4 → w1.heap[i]? = w.heap[i]? := fun i hi => grown_block h.u0 hg hi hs
  have hu : Kd.bool.Q 4 w1 (W.heap.size + 4) (fun k => some k ≠ (Value.slice A' n c).ownBlock) v1 t1 := by
    refine Kd.Q_mono (Kd.Q_move (Kd.Q_bound h.u1) (fun k hk => hg.block k hk.2.2.1 hk.1)) (fun k hk => ?_)
    rcases ho with ho | ⟨b, ho, hle⟩
    · rw [ho]; exact hk.1
    · rw [ho]
      intro e
      injection e with e
      have := hk.2.2.1
      omega
  exact ⟨(heap_setCell_other _ _ _ _ (by show _ ≠ W.heap.size + 3; omega)).trans ((hb _ (by omega)).trans h.p), (heap_setCell_other _ _ _ _ (by show _ ≠ W.heap.size + 3; omega)).trans ((hb _ (by omega)).trans h.may), (heap_setCell_other _ _ _ _ (by show _ ≠ W.heap.size + 3; omega)).trans ((hb _ (by omega)).trans h.at_), heap_setCell_same _ _ 0 _ _ _ ((hb _ (by omega)).trans h.to_), Q_off hq (by omega), Q_off hu (by omega), ((h.below.grown hg (by omega) (fun k hk => by have := Kd.Q_base h.u0 k hk; omega))).setCell (by show W.heap.size ≤ W.heap.size + 3; omega) _⟩
theorem MS.put1 (h : MS W w A B Al len cap q0 q1 v0 v1 t0 t1) {A' : Option Addr} {n c : Nat} {t : List Bool} (hq : Kd.bool.Q 4 w1 (W.heap.size + 4) (fun k => some k ≠ v0.ownBlock) (.slice A' n c) t) (hg : w.grownBy w1 v1.ownBlock)
    (ho : (Value.slice A' n c).ownBlock = v1.ownBlock ∨ ∃ b, (Value.slice A' n c).ownBlock = some b ∧ w.heap.size ≤ b) :
    MS W (w1.setCell ⟨W.heap.size + 3, 1, none⟩ (.slice A' n c)) A B Al len cap q0 q1 v0 (.slice A' n c) t0 t := by
  have hs := h.size
  have hb : ∀ i, i < W.heap.size + 4 → w1.heap[i]? = w.heap[i]? := fun i hi => grown_block h.u1 hg hi hs
  have hu : Kd.bool.Q 4 w1 (W.heap.size + 4) (fun k => some k ≠ (Value.slice A' n c).ownBlock) v0 t0 := by
    refine Kd.Q_mono (Kd.Q_move (Kd.Q_bound h.u0) (fun k hk => hg.block k hk.2.2.1 hk.1)) (fun k hk => ?_)
    rcases ho with ho | ⟨b, ho, hle⟩
    · rw [ho]; exact hk.1
    · rw [ho]
      intro e
      injection e with e
      have := hk.2.2.1
      omega
  exact ⟨(heap_setCell_other _ _ _ _ (by show _ ≠ W.heap.size + 3; omega)).trans ((hb _ (by omega)).trans h.p), (heap_setCell_other _ _ _ _ (by show _ ≠ W.heap.size + 3; omega)).trans ((hb _ (by omega)).trans h.may), (heap_setCell_other _ _ _ _ (by show _ ≠ W.heap.size + 3; omega)).trans ((hb _ (by omega)).trans h.at_), heap_setCell_same _ _ 1 _ _ _ ((hb _ (by omega)).trans h.to_), Q_off hu (by omega), Q_off hq (by omega), ((h.below.grown hg (by omega) (fun k hk => by have := Kd.Q_base h.u1 k hk; omega))).setCell (by show W.heap.size ≤ W.heap.size + 3; omega) _⟩
end
end Go.Proofs.Ythnaijmbppmbjaa
