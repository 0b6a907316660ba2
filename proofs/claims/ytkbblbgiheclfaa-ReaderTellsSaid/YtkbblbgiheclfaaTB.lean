/- The document, of readers: inData, inCommand, kept. -/
import Derived.Test.YtkbblbgiheclfaaTA
namespace Go.Proofs.Ytkbblbgiheclfaa
open Go.RowKit Go.Proofs.YtkbblbgiheclfaaW.PrintWords

/-- A step's outcome: what it leads to lies in ok, or is new. -/
def okX (n : Nat) (ok : Nat → Prop) (k : Nat) : Prop := (ok k ∧ k < n) ∨ n ≤ k
def StP (w : World) (ok : Nat → Prop) (p : Rd × List It) (e : Ending) (w' : World) : Prop := ∃ A c B d, e = .returned (.tuple #[.agg #[.int .i64 p.1.i, .int .i64 p.1.v, .int .i64 p.1.o, .slice A p.1.l.length c], .slice B p.2.length d]) ∧
  p.1.l.length ≤ c ∧ p.2.length ≤ d ∧ Kd.F kB w' (okX w.heap.size ok) A p.1.l.length p.1.l ∧ Kd.F kIt w' (okX w.heap.size ok) B p.2.length p.2 ∧ Below w.heap.size w w'
theorem okX_mono {n n' : Nat} {ok : Nat → Prop} (h : n ≤ n') {k : Nat} (hk : okX n' (okX n ok) k) : okX n ok k := by
  rcases hk with hk | hk
  · exact hk.1
  · exact .inr (by omega)
/-- One item, laid as a literal: what it leads to. -/
theorem lit_F (W : World) (x : It) (B : Option Addr) (c : Nat) (ok : Nat → Prop) (hle : x.l.length ≤ c) (hF : Kd.F kB W ok B x.l.length x.l) :
    Kd.F kIt (W.alloc (.cells #[.int .i64 x.k, .int .i64 x.a, .int .i64 x.b, .slice B x.l.length c] 35)) (fun k => (ok k ∧ k < W.heap.size) ∨ k = W.heap.size) (some ⟨W.heap.size, 0, none⟩) 1 [x] := by
  intro W' hW
  have hk : W'.heap[W.heap.size]? = some (.cells #[.int .i64 x.k, .int .i64 x.a, .int .i64 x.b, .slice B x.l.length c] 35 (0, 0)) := (hW _ (.inr rfl) (by simp)).trans (alloc_at W _)
  have hB : kB.C W' B x.l.length x.l := hF W' (fun k hk hlt => (hW k (.inl ⟨hk, hlt⟩) (by simp; omega)).trans ((below_alloc (Below.refl _ W) _).block k hlt))
  refine ⟨rfl, by omega, fun _ => ⟨_, rfl, fun j p hj => ?_⟩⟩
  rcases j with _ | j
  · obtain rfl : x = p := by simpa using hj
    refine ⟨[.int .i64 x.k, .int .i64 x.a, .int .i64 x.b, .slice B x.l.length c], rfl, ⟨[.int .i64 x.k], _, rfl, rfl, [.int .i64 x.a], _, rfl, rfl, [.int .i64 x.b], _, rfl, rfl, B, c, rfl, hle, hB⟩, fun i u hu => ?_⟩
    rw [show (0 * kIt.sz + i) = i by simp, add_plain, blk_cell hk i]
    simpa using hu
  · simp at hj
theorem StP.imp {w : World} {ok : Nat → Prop} {p q : Rd × List It} {e : Ending} {w' : World} (h : StP w ok p e w') (hpq : p = q) : StP w ok q e w' := hpq ▸ h
/-- The result's cell is filled. -/
theorem blk_four0 {w : World} {g : Nat} (a' b' c' d' : Value) {k : Nat} (hk : k ≠ g) : ((((w.setCell ⟨g, 0, none⟩ a').setCell ⟨g, 1, none⟩ b').setCell ⟨g, 2, none⟩ c').setCell ⟨g, 3, none⟩ d').heap[k]? = w.heap[k]? := blk_four_far hk a' b' c' d'

/-- Such an outcome, out of a result's cell at the entry's first new block. -/
theorem StP.fill {w w1 : World} {ok : Nat → Prop} {r : Rd} {xs : List It} {A B : Option Addr} {c d : Nat} {g : Nat} (hg : w.heap.size ≤ g) (hle : r.l.length ≤ c) (hld : xs.length ≤ d) (hF : Kd.F kB w1 (fun k => okX w.heap.size ok k ∧ k ≠ g) A r.l.length r.l)
    (hI : Kd.F kIt w1 (fun k => okX w.heap.size ok k ∧ k ≠ g) B xs.length xs) (hb : Below w.heap.size w w1) (a' b' c' d' : Value) : StP w ok (r, xs) (.returned (.tuple #[.agg #[.int .i64 r.i, .int .i64 r.v, .int .i64 r.o, .slice A r.l.length c], .slice B xs.length d])) ((((w1.setCell ⟨g, 0, none⟩ a').setCell ⟨g, 1, none⟩ b').setCell ⟨g, 2, none⟩ c').setCell ⟨g, 3, none⟩ d') :=
  ⟨A, c, B, d, rfl, hle, hld, Kd.F_mono (Kd.F_step hF (fun _ hk _ => blk_four_far hk.2 _ _ _ _)) (fun _ hk => hk.1), Kd.F_mono (Kd.F_step hI (fun _ hk _ => blk_four_far hk.2 _ _ _ _)) (fun _ hk => hk.1),
    (((hb.setCell (p := ⟨g, 0, none⟩) hg _).setCell (p := ⟨g, 1, none⟩) hg _).setCell (p := ⟨g, 2, none⟩) hg _).setCell (p := ⟨g, 3, none⟩) hg _⟩
theorem F_niln {d : Nat → Prop} {W : World} : Kd.F kIt W d none 0 [] := Kd.F_nil kIt W d
theorem F_nilb {d : Nat → Prop} {W : World} : Kd.F kB W d none 0 [] := Kd.F_nil kB W d

theorem lit_Fk {W : World} {g : Nat} {x : It} {B : Option Addr} {c : Nat} {ok : Nat → Prop} (hk0 : W.heap[g]? = some (.cells #[.int .i64 x.k, .int .i64 x.a, .int .i64 x.b, .slice B x.l.length c] 35 (0, 0))) (hle : x.l.length ≤ c) (hF : Kd.F kB W ok B x.l.length x.l) :
    Kd.F kIt W (fun k => ok k ∨ k = g) (some ⟨g, 0, none⟩) 1 [x] := by
  intro W' hW
  have hk : W'.heap[g]? = some (.cells #[.int .i64 x.k, .int .i64 x.a, .int .i64 x.b, .slice B x.l.length c] 35 (0, 0)) := (hW _ (.inr rfl) (blk_lt hk0)).trans hk0
  have hB : kB.C W' B x.l.length x.l := hF W' (fun k hk hlt => hW k (.inl hk) hlt)
  refine ⟨rfl, by omega, fun _ => ⟨_, rfl, fun j p hj => ?_⟩⟩
  rcases j with _ | j
  · obtain rfl : x = p := by simpa using hj
    refine ⟨[.int .i64 x.k, .int .i64 x.a, .int .i64 x.b, .slice B x.l.length c], rfl, ⟨[.int .i64 x.k], _, rfl, rfl, [.int .i64 x.a], _, rfl, rfl, [.int .i64 x.b], _, rfl, rfl, B, c, rfl, hle, hB⟩, fun i u hu => ?_⟩
    rw [show (0 * kIt.sz + i) = i by simp, add_plain, blk_cell hk i]
    simpa using hu
  · simp at hj
/-- The result's cell (block g) filled, the item's literal behind it. -/
theorem StP.fillA {w w1 : World} {ok : Nat → Prop} {r : Rd} {x : It} {A B : Option Addr} {c d : Nat} {g : Nat} (hg : w.heap.size ≤ g) (hb : Below w.heap.size w w1) (hle : r.l.length ≤ c) (hld : x.l.length ≤ d) (hF : Kd.F kB w1 (fun k => okX w.heap.size ok k ∧ k ≠ g) A r.l.length r.l)
    (hI : Kd.F kB w1 (fun k => okX w.heap.size ok k ∧ k ≠ g) B x.l.length x.l) (a' b' c' d' : Value) :
    StP w ok (r, [x]) (.returned (.tuple #[.agg #[.int .i64 r.i, .int .i64 r.v, .int .i64 r.o, .slice A r.l.length c], .slice (some ⟨w1.heap.size, 0, none⟩) 1 1]))
      (((((w1.setCell ⟨g, 0, none⟩ a').setCell ⟨g, 1, none⟩ b').setCell ⟨g, 2, none⟩ c').setCell ⟨g, 3, none⟩ d').alloc (.cells #[.int .i64 x.k, .int .i64 x.a, .int .i64 x.b, .slice B x.l.length d] 35)) := by
  have hal := alloc_at ((((w1.setCell ⟨g, 0, none⟩ a').setCell ⟨g, 1, none⟩ b').setCell ⟨g, 2, none⟩ c').setCell ⟨g, 3, none⟩ d') (.cells #[.int .i64 x.k, .int .i64 x.a, .int .i64 x.b, .slice B x.l.length d] 35)
  have hsz : ((((w1.setCell ⟨g, 0, none⟩ a').setCell ⟨g, 1, none⟩ b').setCell ⟨g, 2, none⟩ c').setCell ⟨g, 3, none⟩ d').heap.size = w1.heap.size := by simp
  rw [hsz] at hal
  have hb4 := (((hb.setCell (p := ⟨g, 0, none⟩) hg a').setCell (p := ⟨g, 1, none⟩) hg b').setCell (p := ⟨g, 2, none⟩) hg c').setCell (p := ⟨g, 3, none⟩) hg d'
  have hs := hb.size
  have hF4 := Kd.F_alloc (Kd.F_step hF (W1 := (((w1.setCell ⟨g, 0, none⟩ a').setCell ⟨g, 1, none⟩ b').setCell ⟨g, 2, none⟩ c').setCell ⟨g, 3, none⟩ d') (fun _ hk _ => blk_four_far hk.2 _ _ _ _)) (.cells #[.int .i64 x.k, .int .i64 x.a, .int .i64 x.b, .slice B x.l.length d] 35)
  have hI4 := Kd.F_alloc (Kd.F_step hI (W1 := (((w1.setCell ⟨g, 0, none⟩ a').setCell ⟨g, 1, none⟩ b').setCell ⟨g, 2, none⟩ c').setCell ⟨g, 3, none⟩ d') (fun _ hk _ => blk_four_far hk.2 _ _ _ _)) (.cells #[.int .i64 x.k, .int .i64 x.a, .int .i64 x.b, .slice B x.l.length d] 35)
  exact ⟨A, c, _, 1, rfl, hle, Nat.le_refl _, Kd.F_mono hF4 (fun _ hk => hk.1), Kd.F_mono (lit_Fk hal hld hI4) (fun k hk => by rcases hk with hk | rfl; exact hk.1; exact .inr hs), hb4.alloc (by rw [hsz]; exact hs) _⟩
/-- The same, the literal ahead of the result's cell. -/
theorem StP.fillB {w w1 : World} {ok : Nat → Prop} {r : Rd} {x : It} {A B : Option Addr} {c d : Nat} {g g' : Nat} (hg : w.heap.size ≤ g) (hg' : w.heap.size ≤ g') (hne : g' ≠ g) (hk : w1.heap[g']? = some (.cells #[.int .i64 x.k, .int .i64 x.a, .int .i64 x.b, .slice B x.l.length d] 35 (0, 0))) (hb : Below w.heap.size w w1) (hle : r.l.length ≤ c) (hld : x.l.length ≤ d) (hF : Kd.F kB w1 (fun k => okX w.heap.size ok k ∧ k ≠ g) A r.l.length r.l)
    (hI : Kd.F kB w1 (fun k => okX w.heap.size ok k ∧ k ≠ g) B x.l.length x.l) (a' b' c' d' : Value) :
    StP w ok (r, [x]) (.returned (.tuple #[.agg #[.int .i64 r.i, .int .i64 r.v, .int .i64 r.o, .slice A r.l.length c], .slice (some ⟨g', 0, none⟩) 1 1]))
      ((((w1.setCell ⟨g, 0, none⟩ a').setCell ⟨g, 1, none⟩ b').setCell ⟨g, 2, none⟩ c').setCell ⟨g, 3, none⟩ d') :=
  StP.fill (xs := [x]) hg hle (Nat.le_refl _) hF (Kd.F_mono (lit_Fk hk hld hI) (fun k hk => by rcases hk with hk | rfl; exact hk; exact ⟨.inr hg', hne⟩)) hb a' b' c' d'

theorem ddata_f (c : Int) (w : World) (h : 0 ≤ c ∧ c ≤ 255) : Calls Try.prog 44 #[.int .u8 c] w (fun e w' => e = .returned (.slice (some ⟨w.heap.size, 0, none⟩) 1 1) ∧ Kd.F kIt w' (fun k => k = w.heap.size) (some ⟨w.heap.size, 0, none⟩) 1 [datI c] ∧ Below w.heap.size w w') := by
  refine (ddata_any c w h).mono ?_
  rintro e w' ⟨rfl, rfl⟩
  exact ⟨rfl, Kd.F_mono (lit_F w (datI c) none 0 (fun _ => False) (Nat.le_refl _) F_nilb) (fun k hk => by rcases hk with hk | hk; exact hk.1.elim; exact hk), below_alloc (Below.refl _ _) _⟩

set_option maxHeartbeats 4000000 in
set_option maxRecDepth 100000 in
theorem dinData_any (c : Int) (ok : Nat → Prop) (w : World) (h : 0 ≤ c ∧ c ≤ 255) : Calls Try.prog 36 #[.int .u8 c] w (StP w ok (dataF c)) := by
  obtain ⟨h0, h1⟩ := h
  have HIN := Lib.hid in_any
  have HD := Lib.hid (fun w' => ddata_f c w' ⟨h0, h1⟩)
  by_cases h255 : c = 255
  · have HR := Lib.hid (show (inR 2, []) = dataF c by unfold dataF; rw [if_pos h255])
    have hb : (c == 255) = true := beq_iff_eq.2 h255
    clear h255
    go_enter Try.func36, Try.ntmps36
    go_wp2_with fail
    refine (HIN.out 2 _).mono ?_
    rintro e w1 ⟨rfl, hb1⟩
    have hk1 := (hb1.block w.heap.size (by simp)).trans (alloc_at w _)
    obtain ⟨f0, f1, f2, f3, z0, z1, z2, z3⟩ := blk_facts4 hk1
    have HBW := Lib.hid ((below_alloc (Below.refl _ w) _).trans (hb1.mono (by simp)))
    clear hb1 hk1
    go_wp2_with fail
    refine bodyPost_ret (v := .tuple #[.agg #[.int .i64 2, .int .i64 0, .int .i64 0, .slice none 0 0], .slice none 0 0]) (by simp [results, Try.results36, go_sem, f0, f1, f2, f3]) rfl ?_
    exact StP.imp (StP.fill (r := inR 2) (xs := []) (Nat.le_refl _) (Nat.le_refl _) (Nat.le_refl _) F_nilb F_niln HBW.out _ _ _ _) HR.out
  · have hb : (c == 255) = false := beq_eq_false_iff_ne.2 h255
    have HR := Lib.hid (show (if c = 13 then (inR 1, [datI c]) else (inR 0, [datI c])) = dataF c by unfold dataF; rw [if_neg h255])
    clear h255
    by_cases h13 : c = 13
    · have HR1 := Lib.hid (HR.out.symm.trans (if_pos h13))
      have hb2 : (c == 13) = true := beq_iff_eq.2 h13
      clear h13 HR
      go_enter Try.func36, Try.ntmps36
      go_wp2_with fail
      refine (HIN.out 1 _).mono ?_
      rintro e w1 ⟨rfl, hb1⟩
      have hk1 := (hb1.block w.heap.size (by simp)).trans (alloc_at w _)
      have HBW := Lib.hid ((below_alloc (Below.refl _ w) _).trans (hb1.mono (by simp)))
      have HK1 := Lib.hid hk1
      clear hb1 hk1
      go_wp2_with fail
      refine (HD.out _).mono ?_
      rintro e w2 ⟨rfl, hf2, hb2⟩
      have hk2 := (hb2.block w.heap.size (blk_lt HK1.out)).trans HK1.out
      have hlt := blk_lt HK1.out
      obtain ⟨f0, f1, f2, f3, z0, z1, z2, z3⟩ := blk_facts4 hk2
      have HLF := Lib.hid hf2
      have HB2 := Lib.hid (HBW.out.trans (hb2.mono HBW.out.size))
      have hsz := HBW.out.size
      clear hk2 HK1 HBW hf2 hb2
      go_wp2_with fail
      refine bodyPost_ret (v := .tuple #[.agg #[.int .i64 1, .int .i64 0, .int .i64 0, .slice none 0 0], .slice (some ⟨w1.heap.size, 0, none⟩) 1 1]) (by simp [results, Try.results36, go_sem, f0, f1, f2, f3]) rfl ?_
      exact StP.imp (StP.fill (r := inR 1) (xs := [datI c]) (Nat.le_refl _) (Nat.le_refl _) (Nat.le_refl _) F_nilb (Kd.F_mono HLF.out (fun k hk => by subst hk; exact ⟨.inr hsz, by omega⟩)) HB2.out _ _ _ _) HR1.out.symm
    · have HR1 := Lib.hid (HR.out.symm.trans (if_neg h13))
      have hb2 : (c == 13) = false := beq_eq_false_iff_ne.2 h13
      clear h13 HR
      go_enter Try.func36, Try.ntmps36
      go_wp2_with fail
      refine (HIN.out 0 _).mono ?_
      rintro e w1 ⟨rfl, hb1⟩
      have hk1 := (hb1.block w.heap.size (by simp)).trans (alloc_at w _)
      have HBW := Lib.hid ((below_alloc (Below.refl _ w) _).trans (hb1.mono (by simp)))
      have HK1 := Lib.hid hk1
      clear hb1 hk1
      go_wp2_with fail
      refine (HD.out _).mono ?_
      rintro e w2 ⟨rfl, hf2, hb2⟩
      have hk2 := (hb2.block w.heap.size (blk_lt HK1.out)).trans HK1.out
      have hlt := blk_lt HK1.out
      obtain ⟨f0, f1, f2, f3, z0, z1, z2, z3⟩ := blk_facts4 hk2
      have HLF := Lib.hid hf2
      have HB2 := Lib.hid (HBW.out.trans (hb2.mono HBW.out.size))
      have hsz := HBW.out.size
      clear hk2 HK1 HBW hf2 hb2
      go_wp2_with fail
      refine bodyPost_ret (v := .tuple #[.agg #[.int .i64 0, .int .i64 0, .int .i64 0, .slice none 0 0], .slice (some ⟨w1.heap.size, 0, none⟩) 1 1]) (by simp [results, Try.results36, go_sem, f0, f1, f2, f3]) rfl ?_
      exact StP.imp (StP.fill (r := inR 0) (xs := [datI c]) (Nat.le_refl _) (Nat.le_refl _) (Nat.le_refl _) F_nilb (Kd.F_mono HLF.out (fun k hk => by subst hk; exact ⟨.inr hsz, by omega⟩)) HB2.out _ _ _ _) HR1.out.symm
end Go.Proofs.Ytkbblbgiheclfaa
