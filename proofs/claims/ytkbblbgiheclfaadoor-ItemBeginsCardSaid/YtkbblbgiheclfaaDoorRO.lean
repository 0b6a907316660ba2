/- How what the caller hands in is read: from the form's own reading ('DataW.trod') to the printed words' kinds ('Kd.K', 'Kd.C'): whole numbers, bools, slices of any kind, structs field by field. -/
import Derived.Test.YtkbblbgiheclfaaDoorWWords
import Derived.Deep.Slices
import Derived.Deep.Strs
import Derived.ProofKit
import Derived.Laws.Cover2
import Derived.OpenShut
namespace Go.Proofs.YtkbblbgiheclfaaDoor.RO
open Go.RowKit Go.Proofs.YtkbblbgiheclfaaDoorW.PrintWords

section
variable {H : Type} {enc : TypeId × Value → H} {P : Program} {w : World} {base : Nat} {spare : Nat → Bool} {held : Bool}

/-- Whatever reads as a datum of type t is a value of the kind d, of which Q holds. -/
def Opens {α : Type} (enc : TypeId × Value → H) (P : Program) (w : World) (base : Nat) (spare : Nat → Bool) (held : Bool) (t : TypeId) (d : Kd α) (Q : α → Prop) : Prop :=
  ∀ (n : Nat) (cs : List Value) (x : DataW H × List MemPlace), DataW.trod enc P w base spare held n t cs = some x → ∃ p, d.K w p cs ∧ Q p

theorem opens_int {t : TypeId} {k : IntKind} (ht : P.underlying t = some (.int k)) : Opens enc P w base spare held t (Kd.int k) (fun p => (Lit.int k p).wf = true) := by
  intro n cs x h
  obtain ⟨p, rfl, _, hw⟩ := DataW.trod_int ht h
  exact ⟨p, rfl, hw⟩

theorem opens_bool {t : TypeId} (ht : P.underlying t = some .bool) : Opens enc P w base spare held t Kd.bool (fun _ => True) := by
  intro n cs x h
  obtain ⟨p, rfl, _⟩ := DataW.trod_bool ht h
  exact ⟨p, rfl, trivial⟩

theorem opens_float {t : TypeId} {k : FloatKind} (ht : P.underlying t = some (.float k)) : Opens enc P w base spare held t (Kd.scalar (Value.float k) (fun _ => rfl)) (fun p => (Lit.float k p).wf = true) := by
  intro n cs x h
  have key : ∃ b, cs = [.float k b] ∧ (Lit.float k b).wf = true := by
    cases n with
    | zero => simp [DataW.trod] at h
    | succ n =>
      unfold DataW.trod at h
      rw [ht] at h
      split at h <;> simp_all
  obtain ⟨b, rfl, hw⟩ := key
  exact ⟨b, rfl, hw⟩

/-- An array of two whole numbers, taken by value. -/
theorem okWide_arr {r : Reach} {n : Nat} {t e : TypeId} {v : Value} (ht : P.underlying t = some (.array n e)) (h : Value.okWide P w r base t v) : ∃ cs, v = .agg cs := by
  simp only [Value.okWide, ht] at h
  obtain ⟨cs, h1, _⟩ := h
  exact ⟨cs, h1⟩
theorem opens_two {t e : TypeId} {k : IntKind} (ht : P.underlying t = some (.array 2 e)) (hk : P.underlying e = some (.int k)) (hsz : P.cellsOf t = 2) (hce : P.cellsOf e = 1) {n : Nat} {cs : List Value} {x : DataW H × List MemPlace} (h : DataW.trod enc P w base spare held n t cs = some x) :
    ∃ a b, cs = [.int k a, .int k b] ∧ (Lit.int k a).wf = true ∧ (Lit.int k b).wf = true := by
  obtain ⟨xs, m, _, _, hl, hn, hx⟩ := DataW.trod_array ht h
  rw [hsz] at hl
  match cs, hl with
  | [c0, c1], _ =>
    have h0 := hx 0 (by omega)
    have h1 := hx 1 (by omega)
    rw [hce] at h0 h1
    match xs, hn with
    | [y0, y1], _ =>
      obtain ⟨a, ha, _, hw0⟩ := DataW.trod_int hk h0
      obtain ⟨b, hb, _, hw1⟩ := DataW.trod_int hk h1
      simp at ha hb
      exact ⟨a, b, by rw [ha, hb], hw0, hw1⟩

theorem list_of {α : Type} {n : Nat} {p : Nat → α → Prop} (h : ∀ i, i < n → ∃ x, p i x) : ∃ xs : List α, xs.length = n ∧ ∀ i x, xs[i]? = some x → p i x := by
  induction n with
  | zero => exact ⟨[], rfl, fun i x h => by simp at h⟩
  | succ n ih =>
    obtain ⟨xs, hl, hx⟩ := ih (fun i hi => h i (by omega))
    obtain ⟨y, hy⟩ := h n (by omega)
    refine ⟨xs ++ [y], by simp [hl], fun i x hi => ?_⟩
    by_cases hin : i < n
    · rw [List.getElem?_append_left (by omega)] at hi
      exact hx i x hi
    · rw [List.getElem?_append_right (by omega)] at hi
      have : i = n := by
        by_cases he : i = n
        · exact he
        · rw [List.getElem?_eq_none (by simp; omega)] at hi
          cases hi
      subst this
      simp [hl] at hi
      rw [← hi]
      exact hy

theorem cells_at {a : Addr} {n : Nat} {cs : List Value} (h : w.cells? base a n = some cs) : cs.length = n ∧ ∀ j u, cs[j]? = some u → w.cell? (a.add j) = some u := by
  obtain ⟨_, hl, hc⟩ := World.cells?_some h
  refine ⟨hl, fun j u hu => ?_⟩
  have hj : j < n := by
    have := (List.getElem?_eq_some_iff.1 hu).1
    omega
  first | (rw [hc j hj]; exact hu) | exact (hc j hj).trans hu | exact hc j u hu

theorem opens_slice {α : Type} {d : Kd α} {t e : TypeId} {Q : α → Prop} (ht : P.underlying t = some (.slice e)) (hsz : P.cellsOf e = d.sz) (he : Opens enc P w base spare held e d Q) :
    Opens enc P w base spare held t (Kd.slice e d) (fun xs => ∀ p ∈ xs, Q p) := by
  intro n cs x h
  rcases Deep.open_slice ht h with ⟨rfl, rfl⟩ | ⟨a, len, cap, m, n', D, Pl, rfl, hb, hl, hm, hmm, rfl, hx⟩
  · exact ⟨[], ⟨none, 0, rfl, Nat.le_refl _, by simp, by simp, fun h => absurd h (by simp)⟩, fun p hp => by cases hp⟩
  · have hlm : len ≤ m := by rw [hmm]; split <;> omega
    obtain ⟨xs, hxl, hxs⟩ := list_of (n := len) (p := fun i (p : α) => (∃ c, c.length = d.sz ∧ d.K w p c ∧ ∀ j u, c[j]? = some u → w.cell? (a.add (i * d.sz + j)) = some u) ∧ Q p) (fun i hi => by
      obtain ⟨cs', h1, h2⟩ := hx i (by omega)
      obtain ⟨p, hp, hq⟩ := he _ _ _ h2
      obtain ⟨hl', hc'⟩ := cells_at h1
      refine ⟨p, ⟨cs', by rw [hl', hsz], hp, fun j u hu => ?_⟩, hq⟩
      have := hc' j u hu
      rw [Deep.add_add, hsz] at this
      exact this)
    refine ⟨xs, ⟨some a, cap, by rw [hxl], by omega, hxl ▸ rfl, by unfold maxLen at hm; omega, fun _ => ⟨a, rfl, fun j p hp => (hxs j p hp).1⟩⟩, fun p hp => ?_⟩
    obtain ⟨i, hi, rfl⟩ := List.mem_iff_getElem.1 hp
    exact (hxs i _ (List.getElem?_eq_getElem hi)).2

/-- A struct's fields, from the one at offset 'off' on. -/
def OpensAt {α : Type} (enc : TypeId × Value → H) (P : Program) (w : World) (base : Nat) (spare : Nat → Bool) (held : Bool) (f : Field) (d : Kd α) (Q : α → Prop) (off : Nat) : Prop :=
  f.offset = off ∧ P.cellsOf f.type = d.sz ∧ Opens enc P w base spare held f.type d Q

theorem opens_struct2 {α β : Type} {t : TypeId} {f0 f1 : Field} {d0 : Kd α} {d1 : Kd β} {Q0 : α → Prop} {Q1 : β → Prop} (ht : P.underlying t = some (.struct #[f0, f1])) (hsz : P.cellsOf t = d0.sz + d1.sz)
    (h0 : OpensAt enc P w base spare held f0 d0 Q0 0) (h1 : OpensAt enc P w base spare held f1 d1 Q1 d0.sz) :
    Opens enc P w base spare held t (Kd.pair d0 d1) (fun p => Q0 p.1 ∧ Q1 p.2) := by
  intro n cs x h
  obtain ⟨xs, n', _, rfl, hl, hlen, hf⟩ := DataW.trod_struct ht h
  match xs, hlen with
  | [y0, y1], _ =>
    have g0 := hf 0 f0 rfl
    have g1 := hf 1 f1 rfl
    simp only [List.getElem?_cons_zero, List.getElem?_cons_succ] at g0 g1
    rw [h0.1, h0.2.1] at g0
    rw [h1.1, h1.2.1] at g1
    obtain ⟨p0, k0, q0⟩ := h0.2.2 _ _ _ g0
    obtain ⟨p1, k1, q1⟩ := h1.2.2 _ _ _ g1
    refine ⟨(p0, p1), ⟨_, _, ?_, k0, k1⟩, q0, q1⟩
    rw [List.drop_zero, List.take_of_length_le (l := List.drop d0.sz cs) (by rw [List.length_drop, hl, hsz]; omega), List.take_append_drop]

theorem opens_struct3 {α β γ : Type} {t : TypeId} {f0 f1 f2 : Field} {d0 : Kd α} {d1 : Kd β} {d2 : Kd γ} {Q0 : α → Prop} {Q1 : β → Prop} {Q2 : γ → Prop} (ht : P.underlying t = some (.struct #[f0, f1, f2])) (hsz : P.cellsOf t = d0.sz + (d1.sz + d2.sz))
    (h0 : OpensAt enc P w base spare held f0 d0 Q0 0) (h1 : OpensAt enc P w base spare held f1 d1 Q1 d0.sz) (h2 : OpensAt enc P w base spare held f2 d2 Q2 (d0.sz + d1.sz)) :
    Opens enc P w base spare held t (Kd.pair d0 (Kd.pair d1 d2)) (fun p => Q0 p.1 ∧ Q1 p.2.1 ∧ Q2 p.2.2) := by
  intro n cs x h
  obtain ⟨xs, n', _, rfl, hl, hlen, hf⟩ := DataW.trod_struct ht h
  match xs, hlen with
  | [y0, y1, y2], _ =>
    have g0 := hf 0 f0 rfl
    have g1 := hf 1 f1 rfl
    have g2 := hf 2 f2 rfl
    simp only [List.getElem?_cons_zero, List.getElem?_cons_succ] at g0 g1 g2
    rw [h0.1, h0.2.1] at g0
    rw [h1.1, h1.2.1] at g1
    rw [h2.1, h2.2.1] at g2
    obtain ⟨p0, k0, q0⟩ := h0.2.2 _ _ _ g0
    obtain ⟨p1, k1, q1⟩ := h1.2.2 _ _ _ g1
    obtain ⟨p2, k2, q2⟩ := h2.2.2 _ _ _ g2
    refine ⟨(p0, p1, p2), ⟨_, _, ?_, k0, _, _, rfl, k1, k2⟩, q0, q1, q2⟩
    rw [List.drop_zero, List.take_of_length_le (l := List.drop (d0.sz + d1.sz) cs) (by rw [List.length_drop, hl, hsz]; omega), ← List.drop_drop, List.take_append_drop, List.take_append_drop]

theorem opens_struct4 {α β γ δ : Type} {t : TypeId} {f0 f1 f2 f3 : Field} {d0 : Kd α} {d1 : Kd β} {d2 : Kd γ} {d3 : Kd δ} {Q0 : α → Prop} {Q1 : β → Prop} {Q2 : γ → Prop} {Q3 : δ → Prop} (ht : P.underlying t = some (.struct #[f0, f1, f2, f3])) (hsz : P.cellsOf t = d0.sz + (d1.sz + (d2.sz + d3.sz)))
    (h0 : OpensAt enc P w base spare held f0 d0 Q0 0) (h1 : OpensAt enc P w base spare held f1 d1 Q1 d0.sz) (h2 : OpensAt enc P w base spare held f2 d2 Q2 (d0.sz + d1.sz)) (h3 : OpensAt enc P w base spare held f3 d3 Q3 (d0.sz + d1.sz + d2.sz)) :
    Opens enc P w base spare held t (Kd.pair d0 (Kd.pair d1 (Kd.pair d2 d3))) (fun p => Q0 p.1 ∧ Q1 p.2.1 ∧ Q2 p.2.2.1 ∧ Q3 p.2.2.2) := by
  intro n cs x h
  obtain ⟨xs, n', _, rfl, hl, hlen, hf⟩ := DataW.trod_struct ht h
  match xs, hlen with
  | [y0, y1, y2, y3], _ =>
    have g0 := hf 0 f0 rfl
    have g1 := hf 1 f1 rfl
    have g2 := hf 2 f2 rfl
    have g3 := hf 3 f3 rfl
    simp only [List.getElem?_cons_zero, List.getElem?_cons_succ] at g0 g1 g2 g3
    rw [h0.1, h0.2.1] at g0
    rw [h1.1, h1.2.1] at g1
    rw [h2.1, h2.2.1] at g2
    rw [h3.1, h3.2.1] at g3
    obtain ⟨p0, k0, q0⟩ := h0.2.2 _ _ _ g0
    obtain ⟨p1, k1, q1⟩ := h1.2.2 _ _ _ g1
    obtain ⟨p2, k2, q2⟩ := h2.2.2 _ _ _ g2
    obtain ⟨p3, k3, q3⟩ := h3.2.2 _ _ _ g3
    refine ⟨(p0, p1, p2, p3), ⟨_, _, ?_, k0, _, _, rfl, k1, _, _, rfl, k2, k3⟩, q0, q1, q2, q3⟩
    rw [List.drop_zero, List.take_of_length_le (l := List.drop (d0.sz + d1.sz + d2.sz) cs) (by rw [List.length_drop, hl, hsz]; omega)]
    simp only [← List.drop_drop, List.take_append_drop]

/-- A kind's value told otherwise. -/
theorem opens_iso {α β : Type} {d : Kd α} {t : TypeId} {Q : α → Prop} (f : β → α) (g : α → β) (hfg : ∀ x, f (g x) = x) (h : Opens enc P w base spare held t d Q) : Opens enc P w base spare held t (Kd.iso d f) (fun p => Q (f p)) := by
  intro n cs x hx
  obtain ⟨p, hp, hq⟩ := h n cs x hx
  refine ⟨g p, ?_, ?_⟩
  · show d.K w (f (g p)) cs
    rw [hfg]
    exact hp
  · show Q (f (g p))
    rw [hfg]
    exact hq
end
end Go.Proofs.YtkbblbgiheclfaaDoor.RO
