/- Items out of what the caller hands in; contracts in the form that the laws want. -/
import Derived.Test.YtkbblbgiheclfaaDoorEO
import Derived.Test.YtkbblbgiheclfaaDoorQB
namespace Go.Proofs.YtkbblbgiheclfaaDoor.Dr
open Go.RowKit Go.Proofs.YtkbblbgiheclfaaDoorW.PrintWords

theorem wf_it {x : It} (h : (Lit.int .i64 x.k).wf = true ∧ (Lit.int .i64 x.a).wf = true ∧ (Lit.int .i64 x.b).wf = true ∧ ∀ p ∈ x.l, (Lit.int .u8 p).wf = true) : Oct x.l := wf_octs h.2.2.2
theorem wf_its {l : List It} (h : ∀ x ∈ l, (Lit.int .i64 x.k).wf = true ∧ (Lit.int .i64 x.a).wf = true ∧ (Lit.int .i64 x.b).wf = true ∧ ∀ p ∈ x.l, (Lit.int .u8 p).wf = true) : Octs l := fun x hx => wf_octs (h x hx).2.2.2
/-- Octets, and what was said of them. -/
def PutQ (w : World) (bs : List Int) (er : Int) (e : Ending) (w' : World) : Prop := ∃ A c, e = .returned (.tuple #[.slice A bs.length c, .int .i64 er]) ∧ bs.length ≤ c ∧ kB.C w' A bs.length bs ∧ Below w.heap.size w w'
def OctQ (w : World) (bs : List Int) (e : Ending) (w' : World) : Prop := ∃ A c, e = .returned (.slice A bs.length c) ∧ bs.length ≤ c ∧ kB.C w' A bs.length bs ∧ Below w.heap.size w w'
theorem put_q (A : Option Addr) (c : Nat) (l : List It) (w : World) (hC : kIt.C w A l.length l) (ho : Octs l) (hl : l.length ≤ 5000) : Calls Tryd.prog 15 #[.slice A l.length c] w (PutQ w (putsE l) (errs l)) :=
  (put_any A c l w hC ho hl).mono (by
    rintro e w' ⟨v, rfl, hR, hb⟩
    obtain ⟨A', c', rfl⟩ := Kd.R_slice hR
    obtain ⟨_, h2, h3⟩ := Kd.R_reads' hR
    exact ⟨A', c', rfl, h2, h3, hb⟩)
theorem lay_q (A : Option Addr) (c : Nat) (bs : List Int) (w : World) (hC : kB.C w A bs.length bs) (hl : bs.length ≤ 1000000) (ho : Oct bs) : Calls Tryd.prog 18 #[.slice A bs.length c] w (OctQ w (layF bs)) :=
  (lay_any A c bs w hC hl ho).mono (by
    rintro e w' ⟨v, rfl, hR, hb⟩
    obtain ⟨A', c', rfl⟩ := Kd.R_slice hR
    obtain ⟨_, h2, h3⟩ := Kd.R_reads' hR
    exact ⟨A', c', rfl, h2, h3, hb⟩)
theorem heap_It : Kd.Heap kIt := Kd.heap_iso _ (Kd.heap_pair (Kd.heap_int _) (Kd.heap_pair (Kd.heap_int _) (Kd.heap_pair (Kd.heap_int _) (Kd.heap_slice 5 (Kd.heap_int _)))))
/-- An empty literal. -/
theorem R_zero {α : Type} (d : Kd α) (e : Nat) (w : World) : d.R e (w.alloc (.cells #[] e)) w.heap.size (fun k => w.heap.size ≤ k) (.slice (some ⟨w.heap.size, 0, none⟩) 0 0) [] :=
  ⟨fun k hk => by have : w.heap.size = k := by simpa [Value.ownBlock] using hk
                  omega, [], by
    have h2 := World.ownsRow_lit (base := w.heap.size) (e := e) (size := d.sz) w #[] 0 (Nat.le_refl _) (by decide) (by simp)
    simpa using h2, Reps.none _ _⟩
section
variable {P : Program} {ops : Array Oper} {rest : List Oper} {o : Oper} {a : Act} {Q : Exit → Act → World → Prop}
/-- A guarded operation, as a step. -/
theorem list_step {W : World} (hw : Region.wanted o (yielded ops a.tmps) = true) (h : if Region.wanted o (yielded ops a.tmps) = true then Oper.wp P o a W (wpList P ops Q rest) Q else wpList P ops Q rest (a.put o.dst undef) W) : wpList P ops Q (o :: rest) a W := by
  rw [if_pos hw] at h
  unfold wpList
  rw [if_pos hw]
  exact .inl h
end
theorem lay_oct {bs : List Int} (h : Oct bs) : Oct (layF bs) := by
  intro x hx
  obtain ⟨c, hc, hx⟩ := List.mem_flatMap.1 hx
  have := h c hc
  unfold layC at hx
  split at hx
  · simp at hx; omega
  · split at hx
    · simp at hx; omega
    · simp at hx; omega
theorem dbl_oct {bs : List Int} (h : Oct bs) : Oct (dblF bs) := by
  intro x hx
  obtain ⟨c, hc, hx⟩ := List.mem_flatMap.1 hx
  have := h c hc
  unfold dblC at hx
  split at hx
  · simp at hx; omega
  · simp at hx; omega
theorem put_oct {x : It} (hm : mayI x = true) (ho : Oct x.l) : Oct (putI x) := by
  unfold putI
  rcases wf_kind hm with h | h | h | h
  · rw [if_pos h.1]
    exact lay_oct (Oct.one h.2.1 h.2.2.1)
  · rw [if_neg (by omega), if_pos h.1]
    intro y hy
    simp at hy
    omega
  · rw [if_neg (by omega), if_neg (by omega), if_pos h.1]
    intro y hy
    simp at hy
    omega
  · rw [if_neg (by omega), if_neg (by omega), if_neg (by omega)]
    intro y hy
    have h3 := dbl_oct ho
    simp only [List.mem_append, List.mem_cons, List.not_mem_nil, or_false] at hy
    rcases hy with (hy | hy) | hy
    · omega
    · exact h3 y hy
    · omega
theorem puts_oct {l : List It} (hm : mays l = true) (ho : Octs l) : Oct (putsF l) := by
  intro y hy
  obtain ⟨x, hx, hy⟩ := List.mem_flatMap.1 hy
  exact put_oct (List.all_eq_true.1 hm x hx) (ho x hx) y hy
theorem putsE_oct {l : List It} (ho : Octs l) : Oct (putsE l) := by
  unfold putsE
  by_cases h : mays l = true
  · rw [if_pos h]
    exact puts_oct h ho
  · rw [if_neg h]
    exact Oct.nil
theorem mays_app (a b : List It) : mays (a ++ b) = (mays a && mays b) := by
  unfold mays
  rw [List.all_append]
theorem putsE_len (l : List It) : (putsE l).length ≤ 1100 * l.length := by
  unfold putsE
  by_cases h : mays l = true
  · rw [if_pos h]
    exact puts_len h
  · rw [if_neg h]
    simp
end Go.Proofs.YtkbblbgiheclfaaDoor.Dr
