/- nvt: how octets lie: laws. -/
import Derived.Test.YtkbblbgiheclfaaDoorD0
namespace Go.Proofs.YtkbblbgiheclfaaDoor.Dr
open Go.RowKit Go.Proofs.YtkbblbgiheclfaaDoorW.PrintWords

/-- How an octet lies. -/
def layC (c : Int) : List Int := if c = 255 then [255, 255] else if c = 13 then [13, 10] else [c]
def layF (bs : List Int) : List Int := bs.flatMap layC
/-- A law (block p): what it appends. -/
def LawB (w : World) (ok : Nat → Prop) (p : Nat) (ys : List Int) : Prop := ok p ∧ ∃ B cc, w.heap[p]? = some (.cells #[.slice B ys.length cc] 22 (0, 0)) ∧ Kd.F kB w ok B ys.length ys
theorem LawB.step {w w1 : World} {ok : Nat → Prop} {p : Nat} {ys : List Int} (h : LawB w ok p ys) (hm : ∀ k, ok k → k < w.heap.size → w1.heap[k]? = w.heap[k]?) : LawB w1 ok p ys := by
  obtain ⟨hp, B, cc, hk, hF⟩ := h
  exact ⟨hp, B, cc, (hm p hp (blk_lt hk)).trans hk, Kd.F_step hF hm⟩
theorem LawB.mono {w : World} {ok ok' : Nat → Prop} {p : Nat} {ys : List Int} (h : LawB w ok p ys) (hm : ∀ k, ok k → ok' k) : LawB w ok' p ys := by
  obtain ⟨hp, B, cc, hk, hF⟩ := h
  exact ⟨hm _ hp, B, cc, hk, Kd.F_mono hF hm⟩
/-- A law as a value. -/
abbrev lawV (p : Nat) : Value := .func (.func 45) #[] #[.pointer (some ⟨p, 0, none⟩)]

theorem with_any (A : Option Addr) (n c : Nat) (w : World) : Calls Tryd.prog 44 #[.slice A n c] w fun e w' => e = .returned (lawV w.heap.size) ∧ w.alloc (.cells #[.slice A n c] 22) = w' := by
  go_enter Tryd.func44, Tryd.ntmps44
  go_wp2
  go_ret
  exact ⟨rfl, rfl⟩

/-- What a law does: it appends. -/
def ExtP (w0 w : World) (base : Nat) (ok : Nat → Prop) (v : Value) (zs : List Int) (e : Ending) (w' : World) : Prop := ∃ v1, e = .returned v1 ∧ kB.R 5 w' base ok v1 zs ∧ Below base w0 w' ∧ w.grownBy w' v.ownBlock ∧ (v1.ownBlock = v.ownBlock ∨ ∃ b, v1.ownBlock = some b ∧ w.heap.size ≤ b)
theorem ext_any {w0 w : World} {base p : Nat} {ok okp : Nat → Prop} {v : Value} {xs ys : List Int} (hR : kB.R 5 w base ok v xs) (hL : LawB w okp p ys) (hfresh : ∀ k, w.heap.size ≤ k → ok k) (hb : Below base w0 w) (hbase : base ≤ w.heap.size) (hl : xs.length + ys.length ≤ 100000000) :
    Calls Tryd.prog 45 #[v, .pointer (some ⟨p, 0, none⟩)] w (ExtP w0 w base ok v (xs ++ ys)) := by
  obtain ⟨_, B, cc, hk, hF⟩ := hL
  have hcell := blk_cell hk 0
  have hC := Kd.F_now hF
  have HR := Lib.hid hR
  have HC := Lib.hid hC
  have HB := Lib.hid hb
  have HF := Lib.hid hfresh
  clear hF hR hC hb hk hfresh
  go_enter Tryd.func45, Tryd.ntmps45
  go_wp2_with (at_builtin;  refine Kd.R_append_rows kB (Rr := fun x cs => cs = [.int .u8 x]) (w0 := w0) base rfl (.tmp 4) (.tmp 5) 22 5 (.int .u8 0) 1 rfl Tryd.underlying22 info_u8 rfl (by decide) (by omega) v xs ys B ys.length cc ok (fun _ => False) rfl rfl HR.out HC.out (fun _ _ h => h) (fun _ h => h.elim) HF.out HB.out hbase (by omega) ?_; intro v1 w1 hr2 hb2 hg2 ho2; have HP := Lib.hid (show ExtP w0 w base ok v (xs ++ ys) (.returned v1) w1 from ⟨v1, rfl, hr2, hb2, hg2, ho2⟩); clear hr2 hb2 hg2 ho2)
  go_ret
  exact HP.out

/-- A law that was just made. -/
theorem law_new (W : World) (l : List Int) (hm : l.length ≤ 1000) : LawB ((W.alloc (.cells (l.map (Value.int .u8)).toArray 5)).alloc (.cells #[.slice (some ⟨W.heap.size, 0, none⟩) l.length l.length] 22)) (fun k => W.heap.size ≤ k) (W.heap.size + 1) l := by
  have hk := alloc_at (W.alloc (.cells (l.map (Value.int .u8)).toArray 5)) (.cells #[.slice (some ⟨W.heap.size, 0, none⟩) l.length l.length] 22)
  rw [World.size_alloc] at hk
  exact ⟨Nat.le_succ _, _, _, hk, Kd.F_mono (Kd.F_alloc (oct_F W l (by omega)) _) (fun k hk => by omega)⟩
/-- The laws, by octets. -/
def LawsA (w : World) (ok : Nat → Prop) (fs : Array Value) (k : Nat) (f : Nat → List Int) : Prop := fs.size = 256 ∧ (∀ (j : Nat) (v : Value), fs[j]? = some v → v.oneCell' = true) ∧ ∀ c, c < k → ∃ p, fs[c]? = some (lawV p) ∧ LawB w ok p (f c)
theorem LawsA.step {w w1 : World} {ok : Nat → Prop} {fs : Array Value} {k : Nat} {f : Nat → List Int} (h : LawsA w ok fs k f) (hm : ∀ k, ok k → k < w.heap.size → w1.heap[k]? = w.heap[k]?) : LawsA w1 ok fs k f :=
  ⟨h.1, h.2.1, fun c hc => by obtain ⟨p, h1, h2⟩ := h.2.2 c hc; exact ⟨p, h1, h2.step hm⟩⟩
theorem LawsA.mono {w : World} {ok ok' : Nat → Prop} {fs : Array Value} {k : Nat} {f : Nat → List Int} (h : LawsA w ok fs k f) (hm : ∀ k, ok k → ok' k) : LawsA w ok' fs k f :=
  ⟨h.1, h.2.1, fun c hc => by obtain ⟨p, h1, h2⟩ := h.2.2 c hc; exact ⟨p, h1, h2.mono hm⟩⟩
theorem set_one {fs : Array Value} (h : ∀ (j : Nat) (v : Value), fs[j]? = some v → v.oneCell' = true) (i p : Nat) : ∀ (j : Nat) (v : Value), (fs.setIfInBounds i (lawV p))[j]? = some v → v.oneCell' = true := by
  intro j v hj
  rw [Array.getElem?_setIfInBounds] at hj
  split at hj
  · split at hj
    · injection hj with hj
      rw [← hj]
      rfl
    · cases hj
  · exact h j v hj
/-- One more. -/
theorem LawsA.next {w : World} {ok : Nat → Prop} {fs : Array Value} {k p : Nat} {f : Nat → List Int} (h : LawsA w ok fs k f) (hk : k < 256) (hp : LawB w ok p (f k)) : LawsA w ok (fs.setIfInBounds k (lawV p)) (k + 1) f := by
  refine ⟨by rw [Array.size_setIfInBounds]; exact h.1, set_one h.2.1 k p, fun c hc => ?_⟩
  rw [Array.getElem?_setIfInBounds]
  by_cases e : k = c
  · subst e
    exact ⟨p, by rw [if_pos rfl, if_pos (by rw [h.1]; exact hk)], hp⟩
  · rw [if_neg e]
    exact h.2.2 c (by omega)
/-- One turned. -/
theorem LawsA.put {w : World} {ok : Nat → Prop} {fs : Array Value} {k p i : Nat} {f g : Nat → List Int} (h : LawsA w ok fs k f) (hi : i < 256) (hp : LawB w ok p (g i)) (hg : ∀ c, c < k → c ≠ i → g c = f c) : LawsA w ok (fs.setIfInBounds i (lawV p)) k g := by
  refine ⟨by rw [Array.size_setIfInBounds]; exact h.1, set_one h.2.1 i p, fun c hc => ?_⟩
  rw [Array.getElem?_setIfInBounds]
  by_cases e : i = c
  · subst e
    exact ⟨p, by rw [if_pos rfl, if_pos (by rw [h.1]; exact hi)], hp⟩
  · rw [if_neg e, hg c hc (Ne.symm e)]
    exact h.2.2 c hc
def LawsP (w : World) (e : Ending) (w' : World) : Prop := ∃ fs, e = .returned (.agg fs) ∧ LawsA w' (fun k => w.heap.size ≤ k) fs 256 (fun c => layC c) ∧ Below w.heap.size w w'
theorem zero57_all : Tryd.zeroCells57.all (fun v => v.oneCell') = true := by kernel_rfl
theorem zero57_one (j : Nat) (v : Value) (h : Tryd.zeroCells57[j]? = some v) : v.oneCell' = true := by
  obtain ⟨hj, rfl⟩ := Array.getElem?_eq_some_iff.1 h
  exact Array.all_eq_true.1 zero57_all j hj
/-- Behind k octets. -/
def LwR (w : World) (k : Nat) (wr : World) : Prop := ∃ fs : Array Value, wr.heap[w.heap.size + 1]? = some (.cells fs 57 (0, 0)) ∧ wr.heap[w.heap.size]? = some (.cells Tryd.zeroCells57 57 (0, 0)) ∧ LawsA wr (fun x => w.heap.size + 1 < x) fs k (fun c => [(c : Int)]) ∧ Below w.heap.size w wr
theorem LwR.next {w wr : World} {k : Nat} {fs : Array Value} (hk1 : wr.heap[w.heap.size + 1]? = some (.cells fs 57 (0, 0))) (hk0 : wr.heap[w.heap.size]? = some (.cells Tryd.zeroCells57 57 (0, 0))) (hA : LawsA wr (fun x => w.heap.size + 1 < x) fs k (fun c => [(c : Int)])) (hb : Below w.heap.size w wr) (hk : k < 256) :
    LwR w (k + 1) (((wr.alloc (.cells #[.int .u8 k] 5)).alloc (.cells #[.slice (some ⟨wr.heap.size, 0, none⟩) 1 1] 22)).setCell ⟨w.heap.size + 1, k, none⟩ (lawV (wr.heap.size + 1))) := by
  have hlt := blk_lt hk1
  have hlt0 := blk_lt hk0
  have h1 := below_alloc (Below.refl _ wr) (.cells #[.int .u8 k] 5)
  have h2 := h1.trans ((below_alloc (Below.refl _ (wr.alloc (.cells #[.int .u8 k] 5))) (.cells #[.slice (some ⟨wr.heap.size, 0, none⟩) 1 1] 22)).mono h1.size)
  have hn : LawB ((wr.alloc (.cells #[.int .u8 k] 5)).alloc (.cells #[.slice (some ⟨wr.heap.size, 0, none⟩) 1 1] 22)) (fun x => wr.heap.size ≤ x) (wr.heap.size + 1) [(k : Int)] := law_new wr [(k : Int)] (by simp)
  generalize (wr.alloc (.cells #[.int .u8 k] 5)).alloc (.cells #[.slice (some ⟨wr.heap.size, 0, none⟩) 1 1] 22) = W at *
  have hfar : ∀ x, w.heap.size + 1 < x → x < W.heap.size → (W.setCell ⟨w.heap.size + 1, k, none⟩ (lawV (wr.heap.size + 1))).heap[x]? = W.heap[x]? := fun x hx _ => Below.heap_setCell W ⟨w.heap.size + 1, k, none⟩ _ x (by show x ≠ w.heap.size + 1; omega)
  refine ⟨fs.setIfInBounds k (lawV (wr.heap.size + 1)), blk_set ((h2.block _ hlt).trans hk1) k _, ?_, ?_, (hb.trans (h2.mono hb.size)).setCell (Nat.le_succ _) _⟩
  · exact (Below.heap_setCell W ⟨w.heap.size + 1, k, none⟩ _ w.heap.size (by show w.heap.size ≠ w.heap.size + 1; omega)).trans ((h2.block _ hlt0).trans hk0)
  · exact LawsA.step (LawsA.next (hA.step (fun x _ hx => h2.block x hx)) hk (hn.mono (fun x hx => by omega))) hfar
/-- The four blocks of the two laws that are told apart. -/
theorem laws_four (wr : World) : Below wr.heap.size wr ((((wr.alloc (.cells #[.int .u8 255, .int .u8 255] 5)).alloc (.cells #[.slice (some ⟨wr.heap.size, 0, none⟩) 2 2] 22)).alloc (.cells #[.int .u8 13, .int .u8 10] 5)).alloc (.cells #[.slice (some ⟨wr.heap.size + 1 + 1, 0, none⟩) 2 2] 22)) ∧ LawB ((((wr.alloc (.cells #[.int .u8 255, .int .u8 255] 5)).alloc (.cells #[.slice (some ⟨wr.heap.size, 0, none⟩) 2 2] 22)).alloc (.cells #[.int .u8 13, .int .u8 10] 5)).alloc (.cells #[.slice (some ⟨wr.heap.size + 1 + 1, 0, none⟩) 2 2] 22)) (fun x => wr.heap.size ≤ x) (wr.heap.size + 1) [255, 255] ∧ LawB ((((wr.alloc (.cells #[.int .u8 255, .int .u8 255] 5)).alloc (.cells #[.slice (some ⟨wr.heap.size, 0, none⟩) 2 2] 22)).alloc (.cells #[.int .u8 13, .int .u8 10] 5)).alloc (.cells #[.slice (some ⟨wr.heap.size + 1 + 1, 0, none⟩) 2 2] 22)) (fun x => wr.heap.size ≤ x) (wr.heap.size + 1 + 1 + 1) [13, 10] := by
  have h1 := below_alloc (Below.refl _ wr) (.cells #[.int .u8 255, .int .u8 255] 5)
  have h2 := h1.trans ((below_alloc (Below.refl _ (wr.alloc (.cells #[.int .u8 255, .int .u8 255] 5))) (.cells #[.slice (some ⟨wr.heap.size, 0, none⟩) 2 2] 22)).mono h1.size)
  have hn : LawB ((wr.alloc (.cells #[.int .u8 255, .int .u8 255] 5)).alloc (.cells #[.slice (some ⟨wr.heap.size, 0, none⟩) 2 2] 22)) (fun x => wr.heap.size ≤ x) (wr.heap.size + 1) [255, 255] := law_new wr [255, 255] (by simp)
  have hs : ((wr.alloc (.cells #[.int .u8 255, .int .u8 255] 5)).alloc (.cells #[.slice (some ⟨wr.heap.size, 0, none⟩) 2 2] 22)).heap.size = wr.heap.size + 1 + 1 := by simp
  generalize (wr.alloc (.cells #[.int .u8 255, .int .u8 255] 5)).alloc (.cells #[.slice (some ⟨wr.heap.size, 0, none⟩) 2 2] 22) = W at *
  have h3 := below_alloc (Below.refl _ W) (.cells #[.int .u8 13, .int .u8 10] 5)
  have h4 := h3.trans ((below_alloc (Below.refl _ (W.alloc (.cells #[.int .u8 13, .int .u8 10] 5))) (.cells #[.slice (some ⟨W.heap.size, 0, none⟩) 2 2] 22)).mono h3.size)
  have hm : LawB ((W.alloc (.cells #[.int .u8 13, .int .u8 10] 5)).alloc (.cells #[.slice (some ⟨W.heap.size, 0, none⟩) 2 2] 22)) (fun x => W.heap.size ≤ x) (W.heap.size + 1) [13, 10] := law_new W [13, 10] (by simp)
  rw [hs] at h4 hm
  exact ⟨h2.trans (h4.mono (by omega)), hn.step (fun x _ hx => h4.block x (by omega)), hm.mono (fun x hx => by omega)⟩
theorem lay_255 : layC 255 = [255, 255] := by decide
theorem lay_13 : layC 13 = [13, 10] := by decide
theorem lay_else (c : Nat) (h1 : c ≠ 255) (h2 : c ≠ 13) : layC (c : Int) = [(c : Int)] := by
  unfold layC
  rw [if_neg (by omega), if_neg (by omega)]
theorem info57 : (Tryd.prog.info? 57).map (·.size) = some 256 := by kernel_rfl
/-- All of them. -/
theorem LwR.last {w wr : World} {fs : Array Value} (hk1 : wr.heap[w.heap.size + 1]? = some (.cells fs 57 (0, 0))) (hk0 : wr.heap[w.heap.size]? = some (.cells Tryd.zeroCells57 57 (0, 0))) (hA : LawsA wr (fun x => w.heap.size + 1 < x) fs 256 (fun c => [(c : Int)])) (hb : Below w.heap.size w wr) :
    ∃ fs2 : Array Value, fs2 = (fs.setIfInBounds 255 (lawV (wr.heap.size + 1))).setIfInBounds 13 (lawV (wr.heap.size + 1 + 1 + 1)) ∧ ((((((wr.alloc (.cells #[.int .u8 255, .int .u8 255] 5)).alloc (.cells #[.slice (some ⟨wr.heap.size, 0, none⟩) 2 2] 22)).alloc (.cells #[.int .u8 13, .int .u8 10] 5)).alloc (.cells #[.slice (some ⟨wr.heap.size + 1 + 1, 0, none⟩) 2 2] 22)).setCell ⟨w.heap.size + 1, 255, none⟩ (lawV (wr.heap.size + 1))).setCell ⟨w.heap.size + 1, 13, none⟩ (lawV (wr.heap.size + 1 + 1 + 1))).heap[w.heap.size + 1]? = some (.cells fs2 57 (0, 0)) ∧ ((((((wr.alloc (.cells #[.int .u8 255, .int .u8 255] 5)).alloc (.cells #[.slice (some ⟨wr.heap.size, 0, none⟩) 2 2] 22)).alloc (.cells #[.int .u8 13, .int .u8 10] 5)).alloc (.cells #[.slice (some ⟨wr.heap.size + 1 + 1, 0, none⟩) 2 2] 22)).setCell ⟨w.heap.size + 1, 255, none⟩ (lawV (wr.heap.size + 1))).setCell ⟨w.heap.size + 1, 13, none⟩ (lawV (wr.heap.size + 1 + 1 + 1))).heap[w.heap.size]? = some (.cells Tryd.zeroCells57 57 (0, 0)) ∧ LawsA ((((((wr.alloc (.cells #[.int .u8 255, .int .u8 255] 5)).alloc (.cells #[.slice (some ⟨wr.heap.size, 0, none⟩) 2 2] 22)).alloc (.cells #[.int .u8 13, .int .u8 10] 5)).alloc (.cells #[.slice (some ⟨wr.heap.size + 1 + 1, 0, none⟩) 2 2] 22)).setCell ⟨w.heap.size + 1, 255, none⟩ (lawV (wr.heap.size + 1))).setCell ⟨w.heap.size + 1, 13, none⟩ (lawV (wr.heap.size + 1 + 1 + 1))) (fun x => w.heap.size + 1 < x) fs2 256 (fun c => layC c) ∧ Below w.heap.size w ((((((wr.alloc (.cells #[.int .u8 255, .int .u8 255] 5)).alloc (.cells #[.slice (some ⟨wr.heap.size, 0, none⟩) 2 2] 22)).alloc (.cells #[.int .u8 13, .int .u8 10] 5)).alloc (.cells #[.slice (some ⟨wr.heap.size + 1 + 1, 0, none⟩) 2 2] 22)).setCell ⟨w.heap.size + 1, 255, none⟩ (lawV (wr.heap.size + 1))).setCell ⟨w.heap.size + 1, 13, none⟩ (lawV (wr.heap.size + 1 + 1 + 1))) := by
  obtain ⟨h4, hn, hm⟩ := laws_four wr
  have hlt := blk_lt hk1
  have hlt0 := blk_lt hk0
  generalize ((((wr.alloc (.cells #[.int .u8 255, .int .u8 255] 5)).alloc (.cells #[.slice (some ⟨wr.heap.size, 0, none⟩) 2 2] 22)).alloc (.cells #[.int .u8 13, .int .u8 10] 5)).alloc (.cells #[.slice (some ⟨wr.heap.size + 1 + 1, 0, none⟩) 2 2] 22)) = W at *
  have hW := hA.step (w1 := W) (fun x _ hx => h4.block x hx)
  have h1 := LawsA.put (g := fun c => if c = 255 then [255, 255] else [(c : Int)]) hW (by omega : 255 < 256) (hn.mono (fun x hx => by omega)) (fun c _ hc => if_neg hc)
  have h2 := LawsA.put (g := fun c => layC c) h1 (by omega : 13 < 256) (hm.mono (fun x hx => by omega)) (fun c _ hc => by
    by_cases h : c = 255
    · subst h
      exact lay_255
    · rw [if_neg h]
      exact lay_else c h hc)
  have hfar : ∀ x, x ≠ w.heap.size + 1 → ((W.setCell ⟨w.heap.size + 1, 255, none⟩ (lawV (wr.heap.size + 1))).setCell ⟨w.heap.size + 1, 13, none⟩ (lawV (wr.heap.size + 1 + 1 + 1))).heap[x]? = W.heap[x]? := fun x hx => (Below.heap_setCell _ ⟨w.heap.size + 1, 13, none⟩ _ x hx).trans (Below.heap_setCell W ⟨w.heap.size + 1, 255, none⟩ _ x hx)
  exact ⟨_, rfl, blk_set (blk_set ((h4.block _ hlt).trans hk1) 255 _) 13 _, (hfar _ (by omega)).trans ((h4.block _ hlt0).trans hk0), h2.step (fun x hx _ => hfar x (by omega)), ((hb.trans (h4.mono hb.size)).setCell (Nat.le_succ _) _).setCell (Nat.le_succ _) _⟩
theorem LawsP.of {w W : World} {fs : Array Value} (_hk0 : W.heap[w.heap.size]? = some (.cells Tryd.zeroCells57 57 (0, 0))) (hA : LawsA W (fun x => w.heap.size + 1 < x) fs 256 (fun c => layC c)) (hb : Below w.heap.size w W) : LawsP w (.returned (.agg fs)) (W.setRow w.heap.size fs) :=
  ⟨fs, rfl, (hA.step (fun x hx _ => setRow_other W w.heap.size x fs (by omega))).mono (fun x hx => by omega), below_setRow hb (Nat.le_refl _) fs⟩
set_option maxHeartbeats 4000000 in
set_option maxRecDepth 100000 in
theorem laws_any (w : World) : Calls Tryd.prog 31 #[] w (LawsP w) := by
  go_enter Tryd.func31, Tryd.ntmps31
  go_wp2_with fail
  go_loopw [4] (fun v4 wr => ∃ k : Nat, k ≤ 256 ∧ v4 = .int .i64 k ∧ LwR w k wr) (fun v4 _ => 256 - (intOf v4).toNat)
  case atStart =>
    have hsz : (w.alloc (.cells Tryd.zeroCells57 57)).heap.size = w.heap.size + 1 := by simp
    have h1 := alloc_at (w.alloc (.cells Tryd.zeroCells57 57)) (.cells Tryd.zeroCells57 57)
    rw [hsz] at h1
    have h0 := ((below_alloc (Below.refl _ (w.alloc (.cells Tryd.zeroCells57 57))) (.cells Tryd.zeroCells57 57)).block w.heap.size (by simp)).trans (alloc_at w (.cells Tryd.zeroCells57 57))
    exact ⟨0, Nat.zero_le _, rfl, Tryd.zeroCells57, h1, h0, ⟨by kernel_rfl, zero57_one, fun c hc => absurd hc (Nat.not_lt_zero c)⟩, (below_alloc (Below.refl _ w) _).trans ((below_alloc (Below.refl _ _) _).mono (by simp))⟩
  case round =>
    obtain ⟨k, hk, rfl, fs, hk1, hk0, hA, hb⟩ := hrel
    by_cases hlt : k < 256
    · have hkl : k < fs.size := by rw [hA.1]; exact hlt
      have HN := Lib.hid (LwR.next hk1 hk0 hA hb hlt)
      have hlt1 := blk_lt hk1
      have h1 := below_alloc (Below.refl _ wr) (.cells #[.int .u8 k] 5)
      have h2 := h1.trans ((below_alloc (Below.refl _ (wr.alloc (.cells #[.int .u8 k] 5))) (.cells #[.slice (some ⟨wr.heap.size, 0, none⟩) 1 1] 22)).mono h1.size)
      have hcell := (h2.cell (p := ⟨w.heap.size + 1, k, none⟩) hlt1).trans ((blk_cell hk1 k).trans (Array.getElem?_eq_getElem hkl))
      have hfz := (h2.frozen (p := ⟨w.heap.size + 1, k, none⟩) hlt1).trans (blk_frozen hk1 k)
      clear hA hb hk1 hk0 h1 h2
      go_wp2_with (go_at_call 44; refine (with_any _ _ _ _).mono ?_; rintro e w' ⟨rfl, rfl⟩)
      go_roundw
      case rel => exact ⟨k + 1, by omega, by go_num, HN.out⟩
      case measure => simp [intOf]; omega
    · have hk256 : k = 256 := by omega
      rw [hk256] at hA
      obtain ⟨h4, _, _⟩ := laws_four wr
      have hlt1 := blk_lt hk1
      have hlt0 := blk_lt hk0
      have c255 := (h4.cell (p := ⟨w.heap.size + 1, 255, none⟩) hlt1).trans ((blk_cell hk1 255).trans (Array.getElem?_eq_getElem (by rw [hA.1]; omega)))
      have z255 := (h4.frozen (p := ⟨w.heap.size + 1, 255, none⟩) hlt1).trans (blk_frozen hk1 255)
      have c13 := (h4.cell (p := ⟨w.heap.size + 1, 13, none⟩) hlt1).trans ((blk_cell hk1 13).trans (Array.getElem?_eq_getElem (by rw [hA.1]; omega)))
      have z13 := (h4.frozen (p := ⟨w.heap.size + 1, 13, none⟩) hlt1).trans (blk_frozen hk1 13)
      obtain ⟨fs2, _, g1, g0, gA, gb⟩ := LwR.last hk1 hk0 hA hb
      have hsz2 : (Tryd.prog.info? 57).map (·.size) = some fs2.size := by rw [gA.1]; exact info57
      have hold : Tryd.zeroCells57.size = fs2.size := by rw [gA.1]; kernel_rfl
      have hall : fs2.all (fun v => v.oneCell') = true := Array.all_eq_true.2 (fun j hj => gA.2.1 j _ (Array.getElem?_eq_getElem hj))
      have HP := Lib.hid (LawsP.of g0 gA gb)
      have HG9 := Lib.hid (setRow_heap _ w.heap.size _ fs2 57 (0, 0) g0)
      have HG1 := Lib.hid g1
      have HG0 := Lib.hid g0
      have HSZ := Lib.hid hsz2
      have HOLD := Lib.hid hold
      have HALL := Lib.hid hall
      clear hk256 h4 hb hk0 g1 g0 gA gb hsz2 hold hall
      go_wp2_with (first
        | (go_at_call 44; refine (with_any _ _ _ _).mono ?_; rintro e w' ⟨rfl, rfl⟩)
        | (refine wpList_load_row rfl 57 (.tmp 1) rfl (w.heap.size + 1) rfl 57 fs2 (0, 0) _ HG1.out Tryd.underlying57 rfl HSZ.out ?_)
        | (refine wpList_store_row rfl 57 (.tmp 0) (.tmp 23) rfl w.heap.size fs2 rfl rfl 57 _ HG0.out HSZ.out HOLD.out HALL.out ?_))
      refine bodyPost_ret (v := .agg fs2) (results_cell_row rfl _ _ w.heap.size 57 fs2 (0, 0) _ rfl HG9.out Tryd.underlying57 rfl HSZ.out) rfl HP.out
end Go.Proofs.YtkbblbgiheclfaaDoor.Dr
