/- The document, of readers: kept. -/
import Derived.Test.YtkbblbgiheclfaaTC
import Derived.Deep.RegionHeld3
namespace Go.Proofs.Ytkbblbgiheclfaa
open Go.RowKit Go.Proofs.YtkbblbgiheclfaaW.PrintWords

/-- A reader that comes back; what it leads to is new. -/
def KpP (w : World) (r : Rd) (e : Ending) (w' : World) : Prop := ∃ A c, e = .returned (.agg #[.int .i64 r.i, .int .i64 r.v, .int .i64 r.o, .slice A r.l.length c]) ∧ r.l.length ≤ c ∧ Kd.F kB w' (fun k => w.heap.size ≤ k) A r.l.length r.l ∧ Below w.heap.size w w'
theorem KpP.imp {w : World} {r q : Rd} {e : Ending} {w' : World} (h : KpP w r e w') (hpq : r = q) : KpP w q e w' := hpq ▸ h
theorem KpP.fill {w w1 : World} {r : Rd} {A : Option Addr} {c : Nat} {g : Nat} (hg : w.heap.size ≤ g) (hle : r.l.length ≤ c) (hF : Kd.F kB w1 (fun k => w.heap.size ≤ k ∧ k ≠ g) A r.l.length r.l) (hb : Below w.heap.size w w1) (a' b' c' d' : Value) :
    KpP w r (.returned (.agg #[.int .i64 r.i, .int .i64 r.v, .int .i64 r.o, .slice A r.l.length c])) ((((w1.setCell ⟨g, 0, none⟩ a').setCell ⟨g, 1, none⟩ b').setCell ⟨g, 2, none⟩ c').setCell ⟨g, 3, none⟩ d') :=
  ⟨A, c, rfl, hle, Kd.F_mono (Kd.F_step hF (fun _ hk _ => blk_four_far hk.2 _ _ _ _)) (fun _ hk => hk.1), (((hb.setCell (p := ⟨g, 0, none⟩) hg _).setCell (p := ⟨g, 1, none⟩) hg _).setCell (p := ⟨g, 2, none⟩) hg _).setCell (p := ⟨g, 3, none⟩) hg _⟩
def keptF (r : Rd) (c : Int) : Rd := if r.l.length = 512 then inR 7 else ⟨5, 0, r.o, r.l ++ [c]⟩
theorem lit_R (W : World) (l : List Int) (base : Nat) (hb : base ≤ W.heap.size) (hm : l.length ≤ 9223372036854775807) : kB.R 5 (W.alloc (.cells (l.map (Value.int .u8)).toArray 5)) base (fun k => base ≤ k) (.slice (some ⟨W.heap.size, 0, none⟩) l.length l.length) l :=
  Kd.R_of_own (h1 := fun _ => rfl) (ok := fun k => base ≤ k) (own_lit_of (enc := Value.int .u8) W base 5 l hb hm) (fun k hk => by
    have : W.heap.size = k := by simpa [Value.ownBlock] using hk
    show base ≤ k
    omega)

theorem blk_fourT {w : World} {g T : Nat} {a b c d : Value} (h : w.heap[g]? = some (.cells #[a, b, c, d] T (0, 0))) (a' b' c' d' : Value) :
    ((((w.setCell ⟨g, 0, none⟩ a').setCell ⟨g, 1, none⟩ b').setCell ⟨g, 2, none⟩ c').setCell ⟨g, 3, none⟩ d').heap[g]? = some (.cells #[a', b', c', d'] T (0, 0)) :=
  blk_set (blk_set (blk_set (blk_set h 0 a') 1 b') 2 c') 3 d'
theorem below_fourT {w0 w : World} {n g : Nat} (h : Below n w0 w) (hg : n ≤ g) (a b c d : Value) : Below n w0 ((((w.setCell ⟨g, 0, none⟩ a).setCell ⟨g, 1, none⟩ b).setCell ⟨g, 2, none⟩ c).setCell ⟨g, 3, none⟩ d) :=
  (((h.setCell (p := ⟨g, 0, none⟩) hg a).setCell (p := ⟨g, 1, none⟩) hg b).setCell (p := ⟨g, 2, none⟩) hg c).setCell (p := ⟨g, 3, none⟩) hg d
theorem lit_Fc (W : World) (l : List Int) (hm : l.length ≤ 9223372036854775807) : Kd.F kB (W.alloc (.cells (l.map (Value.int .u8)).toArray 5)) (fun k => k = W.heap.size) (some ⟨W.heap.size, 0, none⟩) l.length l :=
  Kd.R_F (Kd.R_of_own (h1 := fun _ => rfl) (ok := fun k => k = W.heap.size) (own_lit_of (enc := Value.int .u8) W W.heap.size 5 l (Nat.le_refl _) hm) (fun k hk => by
    have : W.heap.size = k := by simpa [Value.ownBlock] using hk
    exact this.symm))

set_option maxHeartbeats 4000000 in
set_option maxRecDepth 100000 in
theorem kept_any (r : Rd) (A : Option Addr) (cp : Nat) (c : Int) (w : World) (hC : kB.C w A r.l.length r.l) (hcp : r.l.length ≤ cp) (hl : r.l.length ≤ 1000) (h : 0 ≤ c ∧ c ≤ 255) :
    Calls Try.prog 39 #[.agg #[.int .i64 r.i, .int .i64 r.v, .int .i64 r.o, .slice A r.l.length cp], .int .u8 c] w (KpP w (keptF r c)) := by
  obtain ⟨h0, h1⟩ := h
  obtain ⟨i, v, o, l⟩ := r
  dsimp only at *
  have hk0 := alloc_at w (.cells #[.int .i64 i, .int .i64 v, .int .i64 o, .slice A l.length cp] 24)
  have hk1 := alloc_at (w.alloc (.cells #[.int .i64 i, .int .i64 v, .int .i64 o, .slice A l.length cp] 24)) (.cells #[.int .i64 0, .int .i64 0, .int .i64 0, .slice none 0 0] 24)
  have hk2 := (below_alloc (Below.refl _ (w.alloc (.cells #[.int .i64 i, .int .i64 v, .int .i64 o, .slice A l.length cp] 24))) (.cells #[.int .i64 0, .int .i64 0, .int .i64 0, .slice none 0 0] 24)).block w.heap.size (by simp)
  have hbz := (below_alloc (Below.refl _ w) (.cells #[.int .i64 i, .int .i64 v, .int .i64 o, .slice A l.length cp] 24)).trans ((below_alloc (Below.refl _ (w.alloc (.cells #[.int .i64 i, .int .i64 v, .int .i64 o, .slice A l.length cp] 24))) (.cells #[.int .i64 0, .int .i64 0, .int .i64 0, .slice none 0 0] 24)).mono (by simp))
  have hkb := hk2.trans hk0
  rw [World.size_alloc] at hk1
  have hCz := Kd.C_below hC hbz
  have HBZ := Lib.hid hbz
  have HK1 := Lib.hid hk1
  have HKB := Lib.hid hkb
  have HCZ := Lib.hid hCz
  have hsz : ((w.alloc (.cells #[.int .i64 i, .int .i64 v, .int .i64 o, .slice A l.length cp] 24)).alloc (.cells #[.int .i64 0, .int .i64 0, .int .i64 0, .slice none 0 0] 24)).heap.size = w.heap.size + 2 := by simp
  have HSZ := Lib.hid hsz
  clear hk0 hk1 hk2 hbz hkb hCz hC hsz
  by_cases h512 : l.length = 512
  · have HR := Lib.hid (show inR 7 = keptF ⟨i, v, o, l⟩ c by unfold keptF; rw [if_pos h512])
    have hb : ((l.length : Int) == 512) = true := beq_iff_eq.2 (by omega)
    have HIN := Lib.hid (in_any 7)
    clear h512
    go_enter Try.func39, Try.ntmps39
    go_wp2_with fail
    refine (HIN.out _).mono ?_
    rintro e w2 ⟨rfl, hb2⟩
    have hk4 := (hb2.block (w.heap.size + 1) (by simp)).trans HK1.out
    obtain ⟨f0, f1, f2, f3, z0, z1, z2, z3⟩ := blk_facts4 hk4
    have HBX := Lib.hid (HBZ.out.trans (hb2.mono HBZ.out.size))
    have hlt4 := blk_lt hk4
    have HP := Lib.hid (KpP.imp (KpP.fill (r := inR 7) (A := none) (c := 0) (g := w.heap.size + 1) (by omega) (Nat.le_refl _) F_nilb HBX.out (.int .i64 7) (.int .i64 0) (.int .i64 0) (.slice none 0 0)) HR.out)
    clear hk4 hb2 HBZ HBX HK1 HKB HCZ HSZ
    go_wp2_with fail
    refine bodyPost_ret (v := .agg #[.int .i64 7, .int .i64 0, .int .i64 0, .slice none 0 0]) (by simp [results, Try.results39, go_sem, f0, f1, f2, f3]) rfl HP.out
  · have HR := Lib.hid (show ⟨5, 0, o, l ++ [c]⟩ = keptF ⟨i, v, o, l⟩ c by unfold keptF; rw [if_neg h512])
    have hb : ((l.length : Int) == 512) = false := beq_eq_false_iff_ne.2 (by omega)
    clear h512
    go_enter Try.func39, Try.ntmps39
    go_upto_region 3 with fail
    generalize ((w.alloc (.cells #[.int .i64 i, .int .i64 v, .int .i64 o, .slice A l.length cp] 24)).alloc (.cells #[.int .i64 0, .int .i64 0, .int .i64 0, .slice none 0 0] 24)) = wz at *
    have hsz := HSZ.out
    obtain ⟨f0, f1, f2, f3, z0, z1, z2, z3⟩ := blk_facts4 HK1.out
    obtain ⟨g0, g1, g2, g3, y0, y1, y2, y3⟩ := blk_facts4 HKB.out
    go_cut [19] (fun s19 wx => ∃ A2 c2, s19 = .agg #[.int .i64 5, .int .i64 0, .int .i64 o, .slice A2 (l.length + 1) c2] ∧ l.length + 1 ≤ c2 ∧ wx.heap[w.heap.size + 1]? = some (.cells #[.int .i64 5, .int .i64 0, .int .i64 o, .slice A2 (l.length + 1) c2] 24 (0, 0)) ∧ Kd.F kB wx (fun k => w.heap.size + 2 ≤ k) A2 (l.length + 1) (l ++ [c]) ∧ Below w.heap.size w wx)
    case rest =>
      obtain ⟨A2, c2, rfl, hle2, hk9, hF2, hb2⟩ := hcut
      have HP := Lib.hid (KpP.imp (show KpP w ⟨5, 0, o, l ++ [c]⟩ (.returned (.agg #[.int .i64 5, .int .i64 0, .int .i64 o, .slice A2 (l ++ [c]).length c2])) _ from ⟨A2, c2, rfl, by rw [List.length_append, List.length_singleton]; exact hle2, by rw [List.length_append, List.length_singleton]; exact Kd.F_mono hF2 (fun k hk => by omega), hb2⟩) HR.out)
      rw [List.length_append, List.length_singleton] at HP
      obtain ⟨p0, p1, p2, p3, q0, q1, q2, q3⟩ := blk_facts4 hk9
      clear hF2 hb2 hk9 HR f0 f1 f2 f3 z0 z1 z2 z3 g0 g1 g2 g3 y0 y1 y2 y3 HK1 HKB HSZ HBZ HCZ
      go_wp2_with fail
      refine bodyPost_ret (v := .agg #[.int .i64 5, .int .i64 0, .int .i64 o, .slice A2 (l.length + 1) c2]) (by simp [results, Try.results39, go_sem, p0, p1, p2, p3]) rfl HP.out
    case' first => skip
    have hla := lit_R wz [] (w.heap.size + 2) (by omega) (by simp)
    have hlc := lit_R (wz.alloc (.cells #[.int .u8 c] 5)) [] (w.heap.size + 2) (by simp; omega) (by simp)
    have hba := (Below.refl (w.heap.size + 2) wz).alloc (by omega) (.cells #[] 5)
    have hbc := ((Below.refl (w.heap.size + 2) wz).alloc (by omega) (.cells #[.int .u8 c] 5)).alloc (by simp; omega) (.cells #[] 5)
    have hcc0 := lit_Fc wz [c] (by simp)
    have hcc1 := lit_Fc (wz.alloc (.cells #[] 5)) [c] (by simp)
    rw [World.size_alloc] at hlc hcc1
    rw [hsz] at hla hlc hcc0 hcc1
    have HLa : Hid (kB.R 5 (wz.alloc (.cells #[] 5)).drew (w.heap.size + 2) (fun k => w.heap.size + 2 ≤ k) (.slice (some ⟨w.heap.size + 2, 0, none⟩) 0 0) []) := Lib.hid (Kd.R_below hla (below_drew (Below.refl _ _)))
    have HLb : Hid (kB.R 5 ((wz.alloc (.cells #[] 5)).alloc (.cells #[.int .u8 c] 5)).drew (w.heap.size + 2) (fun k => w.heap.size + 2 ≤ k) (.slice (some ⟨w.heap.size + 2, 0, none⟩) 0 0) []) := Lib.hid (Kd.R_below hla (below_alloc (Below.refl _ _) (.cells #[.int .u8 c] 5)).drew)
    have HLc : Hid (kB.R 5 ((wz.alloc (.cells #[.int .u8 c] 5)).alloc (.cells #[] 5)).drew (w.heap.size + 2) (fun k => w.heap.size + 2 ≤ k) (.slice (some ⟨w.heap.size + 2 + 1, 0, none⟩) 0 0) []) := Lib.hid (Kd.R_below hlc (below_drew (Below.refl _ _)))
    have HBa : Hid (Below (w.heap.size + 2) wz (wz.alloc (.cells #[] 5)).drew) := Lib.hid hba.drew
    have HBb : Hid (Below (w.heap.size + 2) wz ((wz.alloc (.cells #[] 5)).alloc (.cells #[.int .u8 c] 5)).drew) := Lib.hid (hba.alloc (by simp; omega) (.cells #[.int .u8 c] 5)).drew
    have HBc : Hid (Below (w.heap.size + 2) wz ((wz.alloc (.cells #[.int .u8 c] 5)).alloc (.cells #[] 5)).drew) := Lib.hid hbc.drew
    have HCb : Hid (Kd.F kB ((wz.alloc (.cells #[] 5)).alloc (.cells #[.int .u8 c] 5)).drew (fun k => k = w.heap.size + 2 + 1) (some ⟨w.heap.size + 2 + 1, 0, none⟩) 1 [c]) := Lib.hid (Kd.F_below hcc1 (below_drew (Below.refl _ _)))
    have HCc : Hid (Kd.F kB ((wz.alloc (.cells #[.int .u8 c] 5)).alloc (.cells #[] 5)).drew (fun k => k = w.heap.size + 2) (some ⟨w.heap.size + 2, 0, none⟩) 1 [c]) := Lib.hid (Kd.F_below hcc0 (below_alloc (Below.refl _ _) (.cells #[] 5)).drew)
    have HZa : Hid (kB.C (wz.alloc (.cells #[] 5)).drew A l.length l) := Lib.hid (Kd.C_below HCZ.out (hba.drew.mono (by omega)))
    have HZb : Hid (kB.C ((wz.alloc (.cells #[] 5)).alloc (.cells #[.int .u8 c] 5)).drew A l.length l) := Lib.hid (Kd.C_below HCZ.out (HBb.out.mono (by omega)))
    have HZc : Hid (kB.C ((wz.alloc (.cells #[.int .u8 c] 5)).alloc (.cells #[] 5)).drew A l.length l) := Lib.hid (Kd.C_below HCZ.out (HBc.out.mono (by omega)))
    clear hla hlc hba hbc hcc0 hcc1
    go_region_held3 (fun wx => wx.cell? ⟨w.heap.size, 2, none⟩ = some (.int .i64 o) ∧ wx.cell? ⟨w.heap.size, 3, none⟩ = some (.slice A l.length cp)) (go_keep) (first
      | (refine Kd.R_append_rows_step kB (Rr := fun x cs => cs = [.int .u8 x]) (w0 := wz) (W := (wz.alloc (.cells #[] 5)).drew) (w.heap.size + 2) rfl (.tmp 12) (.tmp 14) 22 5 (.int .u8 0) 1 rfl Try.underlying22 info_u8 rfl (by decide) (by omega) (.slice (some ⟨w.heap.size + 2, 0, none⟩) 0 0) [] l A l.length cp (fun k => w.heap.size + 2 ≤ k) (fun _ => False) (by simp [Act.eval]) (by simp [Act.eval]) HLa.out HZa.out (fun _ _ h => h) (fun _ h => h.elim) (fun k hk => by simp at hk; omega) HBa.out (by simp; omega) (by simp only [List.length_nil]; omega) ?_; intro v1 w1 hr2 hb2 hg2 ho2; rw [List.nil_append] at hr2; obtain ⟨A1, c1, rfl, _⟩ := Kd.R_reads hr2; have HR1 := Lib.hid hr2; have HB1 := Lib.hid hb2; have HG1 := Lib.hid hg2; have hlt1 : w.heap.size < w1.heap.size := (by have := hb2.size; omega); obtain ⟨_, _, r2, r2', _, _, _, _⟩ := blk_facts4 ((hb2.block w.heap.size (by omega)).trans HKB.out); clear hr2 hb2 hg2 ho2)
      | (refine Kd.R_append_rows_step kB (Rr := fun x cs => cs = [.int .u8 x]) (w0 := wz) (W := ((wz.alloc (.cells #[] 5)).alloc (.cells #[.int .u8 c] 5)).drew) (w.heap.size + 2) rfl (.tmp 12) (.tmp 14) 22 5 (.int .u8 0) 1 rfl Try.underlying22 info_u8 rfl (by decide) (by omega) (.slice (some ⟨w.heap.size + 2, 0, none⟩) 0 0) [] l A l.length cp (fun k => w.heap.size + 2 ≤ k) (fun _ => False) (by simp [Act.eval]) (by simp [Act.eval]) HLb.out HZb.out (fun _ _ h => h) (fun _ h => h.elim) (fun k hk => by simp at hk; omega) HBb.out (by simp; omega) (by simp only [List.length_nil]; omega) ?_; intro v1 w1 hr2 hb2 hg2 ho2; rw [List.nil_append] at hr2; obtain ⟨A1, c1, rfl, _⟩ := Kd.R_reads hr2; have HR1 := Lib.hid hr2; have HB1 := Lib.hid hb2; have HG1 := Lib.hid hg2; have hlt1 : w.heap.size < w1.heap.size := (by have := hb2.size; omega); obtain ⟨_, _, r2, r2', _, _, _, _⟩ := blk_facts4 ((hb2.block w.heap.size (by omega)).trans HKB.out); clear hr2 hb2 hg2 ho2)
      | (refine Kd.R_append_rows_step kB (Rr := fun x cs => cs = [.int .u8 x]) (w0 := wz) (W := ((wz.alloc (.cells #[.int .u8 c] 5)).alloc (.cells #[] 5)).drew) (w.heap.size + 2) rfl (.tmp 12) (.tmp 14) 22 5 (.int .u8 0) 1 rfl Try.underlying22 info_u8 rfl (by decide) (by omega) (.slice (some ⟨w.heap.size + 2 + 1, 0, none⟩) 0 0) [] l A l.length cp (fun k => w.heap.size + 2 ≤ k) (fun _ => False) (by simp [Act.eval]) (by simp [Act.eval]) HLc.out HZc.out (fun _ _ h => h) (fun _ h => h.elim) (fun k hk => by simp at hk; omega) HBc.out (by simp; omega) (by simp only [List.length_nil]; omega) ?_; intro v1 w1 hr2 hb2 hg2 ho2; rw [List.nil_append] at hr2; obtain ⟨A1, c1, rfl, _⟩ := Kd.R_reads hr2; have HR1 := Lib.hid hr2; have HB1 := Lib.hid hb2; have HG1 := Lib.hid hg2; have hlt1 : w.heap.size < w1.heap.size := (by have := hb2.size; omega); obtain ⟨_, _, r2, r2', _, _, _, _⟩ := blk_facts4 ((hb2.block w.heap.size (by omega)).trans HKB.out); clear hr2 hb2 hg2 ho2)
      | (refine Kd.R_append_rows_step kB (Rr := fun x cs => cs = [.int .u8 x]) (w0 := wz) (W := w1.alloc (.cells #[.int .u8 c] 5)) (w.heap.size + 2) rfl (.tmp 15) (.tmp 17) 22 5 (.int .u8 0) 1 rfl Try.underlying22 info_u8 rfl (by decide) (by omega) (.slice A1 l.length c1) l [c] (some ⟨w1.heap.size, 0, none⟩) 1 1 (fun k => w.heap.size + 2 ≤ k) (fun _ => False) (by simp [Act.eval]) (by simp [Act.eval]) (Kd.R_below HR1.out (below_alloc (Below.refl _ _) _)) (lit_B w1 [c] (by simp)) (fun _ _ h => h) (fun _ h => h.elim) (fun k hk => by have := HB1.out.size; (try simp at hk); omega) (HB1.out.alloc (by have := HB1.out.size; omega) _) (by have := HB1.out.size; (try simp); omega) (by omega) ?_; intro v2 w2 hr3 hb3 hg3 ho3; obtain ⟨A2, c2, rfl, hle2, _⟩ := Kd.R_reads hr3; rw [List.length_append, List.length_singleton] at hr3 hle2; have HR2 := Lib.hid hr3; have HB2 := Lib.hid hb3; have HK9 := Lib.hid ((hb3.block (w.heap.size + 1) (by omega)).trans HK1.out); have hlt2 : w.heap.size + 1 < w2.heap.size := (by have := hb3.size; omega); have hk9 := (hb3.block (w.heap.size + 1) (by omega)).trans HK1.out; obtain ⟨p0, p1, p2, p3, q0, q1, q2, q3⟩ := blk_facts4 hk9; obtain ⟨_, _, r3, r3', _, _, _, _⟩ := blk_facts4 ((hb3.block w.heap.size (by omega)).trans HKB.out); clear hr3 hb3 hg3 ho3 hk9)
      | (refine Kd.R_append_rows_step kB (Rr := fun x cs => cs = [.int .u8 x]) (w0 := wz) (W := w1) (w.heap.size + 2) rfl (.tmp 15) (.tmp 17) 22 5 (.int .u8 0) 1 rfl Try.underlying22 info_u8 rfl (by decide) (by omega) (.slice A1 l.length c1) l [c] (some ⟨w.heap.size + 2 + 1, 0, none⟩) 1 1 (fun k => w.heap.size + 2 ≤ k) (fun _ => False) (by simp [Act.eval]) (by simp [Act.eval]) HR1.out (Kd.F_now (Kd.F_grown HCb.out HG1.out (fun k hk he => by simp [Value.ownBlock] at he; omega))) (fun _ _ h => h) (fun _ h => h.elim) (fun k hk => by have := HB1.out.size; (try simp at hk); omega) HB1.out (by have := HB1.out.size; (try simp); omega) (by omega) ?_; intro v2 w2 hr3 hb3 hg3 ho3; obtain ⟨A2, c2, rfl, hle2, _⟩ := Kd.R_reads hr3; rw [List.length_append, List.length_singleton] at hr3 hle2; have HR2 := Lib.hid hr3; have HB2 := Lib.hid hb3; have HK9 := Lib.hid ((hb3.block (w.heap.size + 1) (by omega)).trans HK1.out); have hlt2 : w.heap.size + 1 < w2.heap.size := (by have := hb3.size; omega); have hk9 := (hb3.block (w.heap.size + 1) (by omega)).trans HK1.out; obtain ⟨p0, p1, p2, p3, q0, q1, q2, q3⟩ := blk_facts4 hk9; obtain ⟨_, _, r3, r3', _, _, _, _⟩ := blk_facts4 ((hb3.block w.heap.size (by omega)).trans HKB.out); clear hr3 hb3 hg3 ho3 hk9)
      | (refine Kd.R_append_rows_step kB (Rr := fun x cs => cs = [.int .u8 x]) (w0 := wz) (W := w1) (w.heap.size + 2) rfl (.tmp 15) (.tmp 17) 22 5 (.int .u8 0) 1 rfl Try.underlying22 info_u8 rfl (by decide) (by omega) (.slice A1 l.length c1) l [c] (some ⟨w.heap.size + 2, 0, none⟩) 1 1 (fun k => w.heap.size + 2 ≤ k) (fun _ => False) (by simp [Act.eval]) (by simp [Act.eval]) HR1.out (Kd.F_now (Kd.F_grown HCc.out HG1.out (fun k hk he => by simp [Value.ownBlock] at he; omega))) (fun _ _ h => h) (fun _ h => h.elim) (fun k hk => by have := HB1.out.size; (try simp at hk); omega) HB1.out (by have := HB1.out.size; (try simp); omega) (by omega) ?_; intro v2 w2 hr3 hb3 hg3 ho3; obtain ⟨A2, c2, rfl, hle2, _⟩ := Kd.R_reads hr3; rw [List.length_append, List.length_singleton] at hr3 hle2; have HR2 := Lib.hid hr3; have HB2 := Lib.hid hb3; have HK9 := Lib.hid ((hb3.block (w.heap.size + 1) (by omega)).trans HK1.out); have hlt2 : w.heap.size + 1 < w2.heap.size := (by have := hb3.size; omega); have hk9 := (hb3.block (w.heap.size + 1) (by omega)).trans HK1.out; obtain ⟨p0, p1, p2, p3, q0, q1, q2, q3⟩ := blk_facts4 hk9; obtain ⟨_, _, r3, r3', _, _, _, _⟩ := blk_facts4 ((hb3.block w.heap.size (by omega)).trans HKB.out); clear hr3 hb3 hg3 ho3 hk9)
      | fail)
    all_goals
      have hke := blk_fourT HK9.out (.int .i64 5) (.int .i64 0) (.int .i64 o) (.slice A2 (l.length + 1) c2)
      have hbe := below_fourT (HBZ.out.trans (HB2.out.mono (by omega))) (show w.heap.size ≤ w.heap.size + 1 by omega) (.int .i64 5) (.int .i64 0) (.int .i64 o) (.slice A2 (l.length + 1) c2)
      have hfe := Kd.F_step (Kd.R_F HR2.out) (W1 := (((w2.setCell ⟨w.heap.size + 1, 0, none⟩ (.int .i64 5)).setCell ⟨w.heap.size + 1, 1, none⟩ (.int .i64 0)).setCell ⟨w.heap.size + 1, 2, none⟩ (.int .i64 o)).setCell ⟨w.heap.size + 1, 3, none⟩ (.slice A2 (l.length + 1) c2)) (fun _ hk _ => blk_four_far (by omega) _ _ _ _)
      clear HLa HLb HLc HBa HBb HBc HCb HCc HZa HZb HZc HR1 HB1 HG1
      go_wp2_with fail
      go_meet
      exact ⟨A2, c2, rfl, hle2, hke, hfe, hbe⟩
end Go.Proofs.Ytkbblbgiheclfaa
