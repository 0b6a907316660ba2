/- A reader at work: to, tell. -/
import Derived.Test.YtkbblbgiheclfaaDoorRA
import Derived.Deep.RegionLaw
namespace Go.Proofs.YtkbblbgiheclfaaDoor
open Go.RowKit Go.Proofs.YtkbblbgiheclfaaDoorW.PrintWords

theorem blk_facts {w : World} {g T : Nat} {a b c d e : Value} (h : w.heap[g]? = some (.cells #[a, b, c, d, e] T (0, 0))) :
    w.cell? ⟨g, 0, none⟩ = some a ∧ w.cell? ⟨g, 1, none⟩ = some b ∧ w.cell? ⟨g, 2, none⟩ = some c ∧ w.cell? ⟨g, 3, none⟩ = some d ∧ w.cell? ⟨g, 4, none⟩ = some e ∧
      w.frozen? ⟨g, 0, none⟩ = false ∧ w.frozen? ⟨g, 1, none⟩ = false ∧ w.frozen? ⟨g, 2, none⟩ = false ∧ w.frozen? ⟨g, 3, none⟩ = false ∧ w.frozen? ⟨g, 4, none⟩ = false :=
  ⟨blk_cell h 0, blk_cell h 1, blk_cell h 2, blk_cell h 3, blk_cell h 4, blk_frozen h 0, blk_frozen h 1, blk_frozen h 2, blk_frozen h 3, blk_frozen h 4⟩
theorem blk_four {w : World} {g T : Nat} {a b c d e : Value} (h : w.heap[g]? = some (.cells #[a, b, c, d, e] T (0, 0))) (a' b' c' d' : Value) :
    ((((w.setCell ⟨g, 0, none⟩ a').setCell ⟨g, 1, none⟩ b').setCell ⟨g, 2, none⟩ c').setCell ⟨g, 3, none⟩ d').heap[g]? = some (.cells #[a', b', c', d', e] T (0, 0)) :=
  blk_set (blk_set (blk_set (blk_set h 0 a') 1 b') 2 c') 3 d'
theorem blk_four_far {w : World} {g k : Nat} (hk : k ≠ g) (a' b' c' d' : Value) :
    ((((w.setCell ⟨g, 0, none⟩ a').setCell ⟨g, 1, none⟩ b').setCell ⟨g, 2, none⟩ c').setCell ⟨g, 3, none⟩ d').heap[k]? = w.heap[k]? :=
  (Below.heap_setCell _ ⟨g, 3, none⟩ _ k hk).trans ((Below.heap_setCell _ ⟨g, 2, none⟩ _ k hk).trans ((Below.heap_setCell _ ⟨g, 1, none⟩ _ k hk).trans (Below.heap_setCell _ ⟨g, 0, none⟩ _ k hk)))

/-- Other blocks, of other kinds, that stay. -/
def Sps := Nat → Array Value → Nat → Prop
def Spare (sp : Sps) (w : World) : Prop := ∀ b fs T, sp b fs T → w.heap[b]? = some (.cells fs T (0, 0)) ∧ T ≠ 5 ∧ T ≠ 25 ∧ T ≠ 67
theorem Spare.below {sp : Sps} {w w1 : World} (h : Spare sp w) (hb : Below w.heap.size w w1) : Spare sp w1 := fun b fs T hs => ⟨(hb.block b (blk_lt (h b fs T hs).1)).trans (h b fs T hs).1, (h b fs T hs).2⟩
theorem Spare.set {sp : Sps} {w : World} {g : Nat} {cs : Array Value} (h : Spare sp w) (hk : w.heap[g]? = some (.cells cs 67 (0, 0))) (i : Nat) (u : Value) : Spare sp (w.setCell ⟨g, i, none⟩ u) :=
  fun b fs T hs => ⟨blk_far (h b fs T hs).1 (p := ⟨g, i, none⟩) (blk_ne (h b fs T hs).1 hk (h b fs T hs).2.2.2) u, (h b fs T hs).2⟩
theorem Spare.grownR {sp : Sps} {w w1 : World} {n : Nat} {ok : Nat → Prop} {v : Value} {xs : List Int} (h : Spare sp w) (hR : kB.R 5 w n ok v xs) (hg : w.grownBy w1 v.ownBlock) : Spare sp w1 :=
  fun b fs T hs => ⟨blk_grown (h b fs T hs).1 hg (Kd.Q_ne (Kd.Q_of_R hR) (h b fs T hs).1 (Ne.symm (h b fs T hs).2.1)), (h b fs T hs).2⟩
theorem Spare.grownN {sp : Sps} {w w1 : World} {n : Nat} {ok : Nat → Prop} {v : Value} {xs : List It} (h : Spare sp w) (hN : Kd.N kIt 25 w n ok v xs) (hg : w.grownBy w1 v.ownBlock) : Spare sp w1 :=
  fun b fs T hs => ⟨blk_grown (h b fs T hs).1 hg (Kd.N_ne hN (h b fs T hs).1 (Ne.symm (h b fs T hs).2.2.1)), (h b fs T hs).2⟩
theorem Spare.four {sp : Sps} {w : World} {g : Nat} {a b c d e : Value} (h : Spare sp w) (hk : w.heap[g]? = some (.cells #[a, b, c, d, e] 67 (0, 0))) (a' b' c' d' : Value) :
    Spare sp ((((w.setCell ⟨g, 0, none⟩ a').setCell ⟨g, 1, none⟩ b').setCell ⟨g, 2, none⟩ c').setCell ⟨g, 3, none⟩ d') :=
  (((h.set hk 0 a').set (blk_set hk 0 a') 1 b').set (blk_set (blk_set hk 0 a') 1 b') 2 c').set (blk_set (blk_set (blk_set hk 0 a') 1 b') 2 c') 3 d'

/-- The block of a reader at work: where it is, and what came so far; n: where the call's own memory begins. -/
structure WS (w0 : World) (n g : Nat) (sp : Sps) (w : World) (r : Rd) (vL vO : Value) (out : List It) : Prop where
  blk : w.heap[g]? = some (.cells #[.int .i64 r.i, .int .i64 r.v, .int .i64 r.o, vL, vO] 67 (0, 0))
  hg : n ≤ g
  rowL : kB.R 5 w n (fun k => n ≤ k ∧ k ≠ g) vL r.l
  rowO : Kd.N kIt 25 w n (fun k => (n ≤ k ∧ k ≠ g) ∧ some k ≠ vL.ownBlock) vO out
  below : Below n w0 w
  spare : Spare sp w
/-- What is left: the place, and what came. -/
def WP (w0 : World) (n g : Nat) (sp : Sps) (r : Rd) (out : List It) (e : Ending) (w' : World) : Prop := ∃ v vL vO, e = .returned v ∧ WS w0 n g sp w' r vL vO out
def nilS : Value := .slice none 0 0
theorem nil_own (k : Nat) : some k ≠ nilS.ownBlock := by simp [nilS, Value.ownBlock]

theorem to_any (i : Int) {w0 w : World} {n g : Nat} {sp : Sps} {a0 a1 a2 a3 vO : Value} {out : List It}
    (hblk : w.heap[g]? = some (.cells #[a0, a1, a2, a3, vO] 67 (0, 0))) (hg : n ≤ g) (hO : Kd.N kIt 25 w n (fun k => n ≤ k ∧ k ≠ g) vO out) (hB : Below n w0 w) (hS : Spare sp w) :
    Calls Tryd.prog 57 #[.pointer (some ⟨g, 0, none⟩), .int .i64 i] w (WP w0 n g sp ⟨i, 0, 0, []⟩ out) := by
  obtain ⟨f0, f1, f2, f3, f4, z0, z1, z2, z3, z4⟩ := blk_facts hblk
  have HK := Lib.hid hblk
  have HO := Lib.hid hO
  have HB := Lib.hid hB
  have HS := Lib.hid hS
  clear hblk hO hB hS
  go_enter Tryd.func57, Tryd.ntmps57
  go_wp2
  refine bodyPost_ret (results_none rfl _ _ _) rfl ?_
  refine ⟨_, nilS, vO, rfl, blk_four HK.out _ _ _ _, hg, Kd.R_nil _ _ _ _ _, ?_, ?_, HS.out.four HK.out _ _ _ _⟩
  · exact Kd.N_mono (Kd.N_step HO.out (fun k hk _ => blk_four_far hk.2 _ _ _ _)) (fun k hk => ⟨hk, nil_own k⟩)
  · exact (((HB.out.setCell hg _).setCell hg _).setCell hg _).setCell hg _
theorem WS.to {w0 w : World} {n g : Nat} {sp : Sps} {r : Rd} {vL vO : Value} {out : List It} (i : Int) (h : WS w0 n g sp w r vL vO out) : Calls Tryd.prog 57 #[.pointer (some ⟨g, 0, none⟩), .int .i64 i] w (WP w0 n g sp ⟨i, 0, 0, []⟩ out) :=
  to_any i h.blk h.hg (Kd.N_mono h.rowO (fun _ hk => hk.1)) h.below h.spare

theorem WS.lt {w0 w : World} {n g : Nat} {sp : Sps} {r : Rd} {vL vO : Value} {out : List It} (h : WS w0 n g sp w r vL vO out) : g < w.heap.size := blk_lt h.blk
set_option maxHeartbeats 4000000 in
set_option maxRecDepth 100000 in
theorem tell_any (x : It) (B : Option Addr) (c : Nat) (okp : Nat → Prop) {w0 w : World} {n g : Nat} {sp : Sps} {a0 a1 a2 a3 vO : Value} {out : List It}
    (hblk : w.heap[g]? = some (.cells #[a0, a1, a2, a3, vO] 67 (0, 0))) (hg : n ≤ g) (hO : Kd.N kIt 25 w n (fun k => n ≤ k ∧ k ≠ g) vO out) (hB : Below n w0 w)
    (hF : Kd.FK kIt w okp x [.int .i64 x.k, .int .i64 x.a, .int .i64 x.b, .slice B x.l.length c]) (hokp : ∀ k, okp k → (n ≤ k ∧ k ≠ g) ∧ some k ≠ vO.ownBlock) (hl : out.length ≤ 1000000) (hS : Spare sp w) :
    Calls Tryd.prog 58 #[.pointer (some ⟨g, 0, none⟩), .agg #[.int .i64 x.k, .int .i64 x.a, .int .i64 x.b, .slice B x.l.length c]] w (WP w0 n g sp ⟨0, 0, 0, []⟩ (out ++ [x])) := by
  have hlt := blk_lt hblk
  have HBX := Lib.hid (hB.alloc (by omega) (.cells #[.int .i64 x.k, .int .i64 x.a, .int .i64 x.b, .slice B x.l.length c] 25))
  have HOX := Lib.hid (Kd.N_alloc hO (.cells #[.int .i64 x.k, .int .i64 x.a, .int .i64 x.b, .slice B x.l.length c] 25))
  have HFX := Lib.hid (Kd.FK_below hF (below_alloc (Below.refl _ w) (.cells #[.int .i64 x.k, .int .i64 x.a, .int .i64 x.b, .slice B x.l.length c] 25)))
  have hblk2 : (w.alloc (.cells #[.int .i64 x.k, .int .i64 x.a, .int .i64 x.b, .slice B x.l.length c] 25)).drew.heap[g]? = some (.cells #[a0, a1, a2, a3, vO] 67 (0, 0)) :=
    ((below_alloc (Below.refl _ w) _).block g hlt).trans hblk
  have HK := Lib.hid hblk2
  have HP := Lib.hid hokp
  have HS := Lib.hid (hS.below ((below_alloc (Below.refl _ w) (.cells #[.int .i64 x.k, .int .i64 x.a, .int .i64 x.b, .slice B x.l.length c] 25)).drew))
  obtain ⟨AO, cO, rfl⟩ := Kd.N_slice hO
  obtain ⟨f0, f1, f2, f3, f4, z0, z1, z2, z3, z4⟩ := blk_facts hblk
  obtain ⟨k, a, b, l⟩ := x
  dsimp only at *
  clear hO hF hB hS hblk hblk2 hokp f0 f1 f2 f3 z0 z1 z2 z3 z4
  go_enter Tryd.func58, Tryd.ntmps58
  go_wp2_with fail
  go_region_law (refine Kd.N_append_step kIt (w0 := w0) (W := (w.alloc (.cells #[.int .i64 k, .int .i64 a, .int .i64 b, .slice B l.length c] 25)).drew) n rfl (.tmp 8) (.tmp 10) 31 25 _ 48 rfl Tryd.underlying31 info_it rfl (by decide) (by omega) (.slice AO out.length cO) out ⟨k, a, b, l⟩ [.int .i64 k, .int .i64 a, .int .i64 b, .slice B l.length c] (fun k => n ≤ k ∧ k ≠ g) okp rfl (by simp [Act.eval]) (Kd.FK_below HFX.out (below_drew (Below.refl _ _))) HP.out (fun k hk => by simp at hk; omega) (Kd.N_drew HOX.out) HBX.out.drew (by simp; omega) (by omega) ?_; intro v1 w1 hr2 hb2 hg2 ho2; have HR2 := Lib.hid hr2; have HB2 := Lib.hid hb2; have HS1 := Lib.hid (HS.out.grownN (Kd.N_drew HOX.out) hg2); have hk1 := blk_grown HK.out hg2 (Kd.N_away HOX.out (fun k hk => hk.2)); obtain ⟨A1, c1, rfl⟩ := Kd.N_slice hr2; rw [List.length_append, List.length_singleton] at hr2; have HR2 := Lib.hid hr2; have HB2 := Lib.hid hb2; obtain ⟨_, _, _, _, y4, _, _, _, _, q4⟩ := blk_facts hk1; have HK1 := Lib.hid hk1; clear hr2 hb2 hg2 ho2 hk1)
  all_goals
    have HR3 := Lib.hid (Kd.N_far HR2.out (p := ⟨g, 4, none⟩) (fun k hk => hk.2) (.slice A1 (out.length + 1) c1))
    have HK3 := Lib.hid (blk_set HK1.out 4 (.slice A1 (out.length + 1) c1))
    have HB3 := Lib.hid (HB2.out.setCell (p := ⟨g, 4, none⟩) hg (.slice A1 (out.length + 1) c1))
    have HS3 := Lib.hid (HS1.out.set HK1.out 4 (.slice A1 (out.length + 1) c1))
    clear HR2 HK1 HB2 HS1 y4 q4
    generalize hv : Value.slice A1 (out.length + 1) c1 = v1 at *
    generalize w1.setCell ⟨g, 4, none⟩ v1 = w2 at *
    clear hv
    go_wp2_with fail
    refine (to_any 0 HK3.out hg HR3.out HB3.out HS3.out).mono ?_
    rintro e w' ⟨v, vL, vO', rfl, hws⟩
    have HWS := Lib.hid hws
    clear hws
    go_wp2_with fail
    refine bodyPost_ret (results_none rfl _ _ _) rfl ?_
    exact ⟨_, vL, vO', rfl, HWS.out⟩
end Go.Proofs.YtkbblbgiheclfaaDoor
