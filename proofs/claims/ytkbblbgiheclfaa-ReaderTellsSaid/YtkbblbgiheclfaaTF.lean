/- The document, of readers: Feed. -/
import Derived.Test.YtkbblbgiheclfaaTE
namespace Go.Proofs.Ytkbblbgiheclfaa
open Go.RowKit Go.Proofs.YtkbblbgiheclfaaW.PrintWords

/-- What lies apart from the entry's own two blocks. -/
def okN (n k : Nat) : Prop := k ≠ n ∧ k ≠ n + 1
def DfP (w : World) (p : Rd × List It) (e : Ending) (w' : World) : Prop := ∃ A c B d, e = .returned (.tuple #[.agg #[.int .i64 p.1.i, .int .i64 p.1.v, .int .i64 p.1.o, .slice A p.1.l.length c], .slice B p.2.length d]) ∧
  p.1.l.length ≤ c ∧ p.2.length ≤ d ∧ kB.C w' A p.1.l.length p.1.l ∧ kIt.C w' B p.2.length p.2 ∧ Below w.heap.size w w'

/-- A step's outcome, laid into the variables next (block g8) and l. -/
def OneP (wr : World) (ok : Nat → Prop) (p : Rd × List It) (s8 s9 : Value) (wx : World) : Prop := ∃ g8 A3 c3 B3 d3, s8 = .pointer (some ⟨g8, 0, none⟩) ∧ s9 = .slice B3 p.2.length d3 ∧ wx.heap[g8]? = some (.cells #[.int .i64 p.1.i, .int .i64 p.1.v, .int .i64 p.1.o, .slice A3 p.1.l.length c3] 24 (0, 0)) ∧ wr.heap.size ≤ g8 ∧ p.1.l.length ≤ c3 ∧ p.2.length ≤ d3 ∧
  Kd.F kB wx (fun k => okX wr.heap.size ok k ∧ k ≠ g8) A3 p.1.l.length p.1.l ∧ Kd.F kIt wx (fun k => okX wr.heap.size ok k ∧ k ≠ g8) B3 p.2.length p.2 ∧ Below wr.heap.size wr wx
theorem OneP.late {wr w2 : World} {ok : Nat → Prop} {p : Rd × List It} {A : Option Addr} {c : Nat} {B : Option Addr} {d : Nat} (hle : p.1.l.length ≤ c) (hld : p.2.length ≤ d) (hF : Kd.F kB w2 (okX wr.drew.heap.size (fun x => ok x ∧ x < wr.heap.size)) A p.1.l.length p.1.l) (hI : Kd.F kIt w2 (okX wr.drew.heap.size (fun x => ok x ∧ x < wr.heap.size)) B p.2.length p.2) (hb : Below wr.drew.heap.size wr.drew w2) :
    OneP wr ok p (.pointer (some ⟨w2.heap.size, 0, none⟩)) (.slice B p.2.length d) (w2.alloc (.cells #[.int .i64 p.1.i, .int .i64 p.1.v, .int .i64 p.1.o, .slice A p.1.l.length c] 24)) := by
  have hb' : Below wr.heap.size wr w2 := (below_drew (Below.refl _ wr)).trans hb
  have hs := hb'.size
  refine ⟨_, A, c, B, d, rfl, rfl, alloc_at _ _, hs, hle, hld, ?_, ?_, hb'.alloc hs _⟩
  · refine Kd.F_alloc (Kd.F_mono (Kd.F_bound hF) (fun k hk => ⟨?_, by have := hk.2; omega⟩)) _
    rcases hk.1 with h | h
    · exact .inl h.1
    · exact .inr h
  · refine Kd.F_alloc (Kd.F_mono (Kd.F_bound hI) (fun k hk => ⟨?_, by have := hk.2; omega⟩)) _
    rcases hk.1 with h | h
    · exact .inl h.1
    · exact .inr h
theorem OneP.early {wr w2 : World} {ok : Nat → Prop} {p : Rd × List It} {A : Option Addr} {c : Nat} {B : Option Addr} {d : Nat} {o : Obj} {a0 a1 a2 a3 : Value} (hle : p.1.l.length ≤ c) (hld : p.2.length ≤ d) (hF : Kd.F kB w2 (okX (wr.alloc o).drew.heap.size (fun x => ok x ∧ x < wr.heap.size)) A p.1.l.length p.1.l) (hI : Kd.F kIt w2 (okX (wr.alloc o).drew.heap.size (fun x => ok x ∧ x < wr.heap.size)) B p.2.length p.2) (hb : Below (wr.alloc o).drew.heap.size (wr.alloc o).drew w2) (hk : w2.heap[wr.heap.size]? = some (.cells #[a0, a1, a2, a3] 24 (0, 0))) :
    OneP wr ok p (.pointer (some ⟨wr.heap.size, 0, none⟩)) (.slice B p.2.length d) ((((w2.setCell ⟨wr.heap.size, 0, none⟩ (.int .i64 p.1.i)).setCell ⟨wr.heap.size, 1, none⟩ (.int .i64 p.1.v)).setCell ⟨wr.heap.size, 2, none⟩ (.int .i64 p.1.o)).setCell ⟨wr.heap.size, 3, none⟩ (.slice A p.1.l.length c)) := by
  have hz : (wr.alloc o).drew.heap.size = wr.heap.size + 1 := by simp
  have hb' : Below wr.heap.size wr w2 := ((below_alloc (Below.refl _ wr) o).drew).trans (hb.mono (by rw [hz]; omega))
  rw [hz] at hF hI
  refine ⟨_, A, c, B, d, rfl, rfl, ?_, Nat.le_refl _, hle, hld, ?_, ?_, (((hb'.setCell (Nat.le_refl _) _).setCell (Nat.le_refl _) _).setCell (Nat.le_refl _) _).setCell (Nat.le_refl _) _⟩
  · exact blk_set (blk_set (blk_set (blk_set hk 0 _) 1 _) 2 _) 3 _
  · refine Kd.F_step (Kd.F_mono hF (fun k hk => (⟨?_, ?_⟩ : okX wr.heap.size ok k ∧ k ≠ wr.heap.size))) (fun _ hk _ => blk_four_far hk.2 _ _ _ _)
    · rcases hk with h | h
      · exact .inl h.1
      · exact .inr (by omega)
    · rcases hk with h | h
      · have := h.1.2; omega
      · omega
  · refine Kd.F_step (Kd.F_mono hI (fun k hk => (⟨?_, ?_⟩ : okX wr.heap.size ok k ∧ k ≠ wr.heap.size))) (fun _ hk _ => blk_four_far hk.2 _ _ _ _)
    · rcases hk with h | h
      · exact .inl h.1
      · exact .inr (by omega)
    · rcases hk with h | h
      · have := h.1.2; omega
      · omega
theorem four_far {W : World} {g : Nat} {a : Addr} {v : Value} (h : a.block ≠ g) (hc : W.cell? a = some v) (a' b' c' d' : Value) : ((((W.setCell ⟨g, 0, none⟩ a').setCell ⟨g, 1, none⟩ b').setCell ⟨g, 2, none⟩ c').setCell ⟨g, 3, none⟩ d').cell? a = some v := by
  rw [cell_far (p := ⟨g, 3, none⟩) h, cell_far (p := ⟨g, 2, none⟩) h, cell_far (p := ⟨g, 1, none⟩) h, cell_far (p := ⟨g, 0, none⟩) h]
  exact hc
/-- Behind k octets: the reader in the entry's first block, what came in v6. -/
def FdR (w : World) (q : Rd × List It) (v6 : Value) (wr : World) : Prop := ∃ (A : Option Addr) (c : Nat), wr.heap[w.heap.size]? = some (.cells #[.int .i64 q.1.i, .int .i64 q.1.v, .int .i64 q.1.o, .slice A q.1.l.length c] 24 (0, 0)) ∧ q.1.l.length ≤ c ∧
  wr.heap[w.heap.size + 1]? = some (.cells #[.int .i64 0, .int .i64 0, .int .i64 0, .slice none 0 0] 24 (0, 0)) ∧ Kd.N kIt 35 wr w.heap.size (okN w.heap.size) v6 q.2 ∧ Kd.F kB wr (fun x => okN w.heap.size x ∧ some x ≠ v6.ownBlock) A q.1.l.length q.1.l ∧ Below w.heap.size w wr
theorem DfP.of {w w1 : World} {q : Rd × List It} {A : Option Addr} {c : Nat} {B : Option Addr} {d : Nat} (hle : q.1.l.length ≤ c) (_hk : w1.heap[w.heap.size + 1]? = some (.cells #[.int .i64 0, .int .i64 0, .int .i64 0, .slice none 0 0] 24 (0, 0))) (hN : Kd.N kIt 35 w1 w.heap.size (okN w.heap.size) (.slice B q.2.length d) q.2) (hF : Kd.F kB w1 (fun x => okN w.heap.size x ∧ some x ≠ (Value.slice B q.2.length d).ownBlock) A q.1.l.length q.1.l) (hb : Below w.heap.size w w1) (a' b' c' d' : Value) :
    DfP w q (.returned (.tuple #[.agg #[.int .i64 q.1.i, .int .i64 q.1.v, .int .i64 q.1.o, .slice A q.1.l.length c], .slice B q.2.length d])) ((((w1.setCell ⟨w.heap.size + 1, 0, none⟩ a').setCell ⟨w.heap.size + 1, 1, none⟩ b').setCell ⟨w.heap.size + 1, 2, none⟩ c').setCell ⟨w.heap.size + 1, 3, none⟩ d') := by
  have hF2 := Kd.F_step hF (W1 := (((w1.setCell ⟨w.heap.size + 1, 0, none⟩ a').setCell ⟨w.heap.size + 1, 1, none⟩ b').setCell ⟨w.heap.size + 1, 2, none⟩ c').setCell ⟨w.heap.size + 1, 3, none⟩ d') (fun _ hk _ => blk_four_far hk.1.2 _ _ _ _)
  have hN2 := Kd.N_step hN (w1 := (((w1.setCell ⟨w.heap.size + 1, 0, none⟩ a').setCell ⟨w.heap.size + 1, 1, none⟩ b').setCell ⟨w.heap.size + 1, 2, none⟩ c').setCell ⟨w.heap.size + 1, 3, none⟩ d') (fun _ hk _ => blk_four_far hk.2 _ _ _ _)
  have hr := Kd.N_reads' hN2
  exact ⟨A, c, B, d, rfl, hle, hr.2.1, Kd.F_now hF2, hr.2.2, (((hb.setCell (Nat.le_succ _) _).setCell (Nat.le_succ _) _).setCell (Nat.le_succ _) _).setCell (Nat.le_succ _) _⟩
set_option maxHeartbeats 8000000 in
set_option maxRecDepth 100000 in
theorem dfeed_any (r : Rd) (A Bo : Option Addr) (c d : Nat) (bs : List Int) (w : World) (hC : kB.C w A r.l.length r.l) (hc : r.l.length ≤ c) (hm : mayR r = true) (hb : kB.C w Bo bs.length bs) (hl : bs.length ≤ 100000) (ho : Oct bs) :
    Calls Try.prog 15 #[.agg #[.int .i64 r.i, .int .i64 r.v, .int .i64 r.o, .slice A r.l.length c], .slice Bo bs.length d] w (DfP w (feedF r bs)) := by
  obtain ⟨i, v, o, l⟩ := r
  dsimp only at *
  have hk0 := alloc_at w (.cells #[.int .i64 i, .int .i64 v, .int .i64 o, .slice A l.length c] 24)
  have hk1 := alloc_at (w.alloc (.cells #[.int .i64 i, .int .i64 v, .int .i64 o, .slice A l.length c] 24)) (.cells #[.int .i64 0, .int .i64 0, .int .i64 0, .slice none 0 0] 24)
  have hk2 := (below_alloc (Below.refl _ (w.alloc (.cells #[.int .i64 i, .int .i64 v, .int .i64 o, .slice A l.length c] 24))) (.cells #[.int .i64 0, .int .i64 0, .int .i64 0, .slice none 0 0] 24)).block w.heap.size (by simp)
  have hbz := (below_alloc (Below.refl _ w) (.cells #[.int .i64 i, .int .i64 v, .int .i64 o, .slice A l.length c] 24)).trans ((below_alloc (Below.refl _ (w.alloc (.cells #[.int .i64 i, .int .i64 v, .int .i64 o, .slice A l.length c] 24))) (.cells #[.int .i64 0, .int .i64 0, .int .i64 0, .slice none 0 0] 24)).mono (by simp))
  have hkb := hk2.trans hk0
  rw [World.size_alloc] at hk1
  have HK1 := Lib.hid hk1
  have HKB := Lib.hid hkb
  have HBZ := Lib.hid hbz
  have HF0 := Lib.hid (Kd.F_mono (Kd.F_below (Kd.C_F (Kd.heap_int .u8) hC) hbz) (fun k hk => (⟨by unfold okN; omega, by simp [Value.ownBlock]⟩ : okN w.heap.size k ∧ some k ≠ (Value.slice none 0 0).ownBlock)))
  have HBS := Lib.hid hb
  have HO := Lib.hid ho
  have HM := Lib.hid hm
  obtain ⟨q, hq⟩ : ∃ q : Rd, q = ⟨i, v, o, l⟩ := ⟨_, rfl⟩
  rw [← hq] at HM ⊢
  have HQ := Lib.hid hq
  clear hk0 hk1 hk2 hkb hbz hC hb ho hm hq
  go_enter Try.func15, Try.ntmps15
  go_wp2_with fail
  go_loopw [6, 7] (fun v6 i7 wr => ∃ k : Nat, k ≤ bs.length ∧ i7 = .int .i64 k ∧ FdR w (feedF q (bs.take k)) v6 wr) (fun _ i7 _ => bs.length - (intOf i7).toNat)
  case atStart =>
    refine ⟨0, Nat.zero_le _, rfl, ?_⟩
    have he : feedF q (bs.take 0) = (⟨i, v, o, l⟩, []) := by rw [← HQ.out]; rfl
    rw [he]
    exact ⟨A, c, HKB.out, hc, HK1.out, Kd.N_nil _ _ _ _ _, HF0.out, HBZ.out⟩
  case round =>
    obtain ⟨k, hk, rfl, A2, c2, hkk, hle2, hkr, hN, hF, hbw⟩ := hrel
    clear HKB HK1 HBZ HF0
    obtain ⟨AO, cO, rfl⟩ := Kd.N_slice hN
    have hmr := may_feed (bs.take k) q HM.out (HO.out.take k)
    have hln := len_feed (bs.take k) q
    have hlt9 : (bs.take k).length ≤ bs.length := by rw [List.length_take]; omega
    have hlo : (feedF q (bs.take k)).2.length ≤ 1000000 := by omega
    have HBW := Lib.hid hbw
    have HN := Lib.hid hN
    have HKR := Lib.hid hkr
    have HKK := Lib.hid hkk
    have HFL := Lib.hid hF
    by_cases hlt : k < bs.length
    · have HSN := Lib.hid (feed_snoc q bs k hlt)
      obtain ⟨ad, rfl, hx⟩ := u8_at HBS.out k hlt
      have hbx := cell_block hx
      have hcell := (hbw.cell hbx).trans hx
      have hcc := HO.out.at k
      clear hx hln hlt9 hbw hN hkr hkk hF
      generalize bs.getD k 0 = cc at *
      generalize (feedF q (bs.take k)).2 = out at *
      generalize (feedF q (bs.take k)).1 = r' at *
      obtain ⟨p, hp⟩ : ∃ p, stepF r' cc = p := ⟨_, rfl⟩
      have hone := fun W hFW => oned_any r' A2 c2 cc (fun x => (okN w.heap.size x ∧ some x ≠ (Value.slice AO out.length cO).ownBlock) ∧ x < wr.heap.size) W hmr hFW hle2 hcc
      have HSN2 := Lib.hid (show feedF q (bs.take (k + 1)) = (p.1, out ++ p.2) by rw [HSN.out, hp])
      rw [hp] at hone
      have hxl : p.2.length ≤ 1 := by rw [← hp]; exact one_step r' cc
      have HONE := Lib.hid hone
      have HFB := Lib.hid (Kd.F_bound HFL.out)
      clear hone hp HSN
      obtain ⟨i', v', o', l'⟩ := r'
      obtain ⟨⟨i1, v1, o1, l1⟩, xs⟩ := p
      dsimp only at *
      obtain ⟨f0, f1, f2, f3, z0, z1, z2, z3⟩ := blk_facts4 HKK.out
      obtain ⟨hc0, hc1⟩ := hcc
      have hltk := blk_lt HKR.out
      clear hmr
      go_upto_region 5 with fail
      go_cut [8, 9] (fun s8 s9 wx => OneP wr (fun x => okN w.heap.size x ∧ some x ≠ (Value.slice AO out.length cO).ownBlock) (⟨i1, v1, o1, l1⟩, xs) s8 s9 wx)
      case first =>
        have hlt0 := blk_lt HKK.out
        have hbx2 : (ad.add k).block < wr.heap.size := Nat.lt_of_lt_of_le hbx HBW.out.size
        have hga := below_alloc (Below.refl _ wr.drew) (.cells #[.int .i64 0, .int .i64 0, .int .i64 0, .slice none 0 0] 24)
        have HKA := Lib.hid ((hga.block w.heap.size hlt0).trans (show wr.drew.heap[w.heap.size]? = _ from HKK.out))
        have HCA := Lib.hid ((hga.cell (p := ad.add k) hbx2).trans (show wr.drew.cell? (ad.add k) = _ from hcell))
        have HGA := Lib.hid (alloc_at wr.drew (.cells #[.int .i64 0, .int .i64 0, .int .i64 0, .slice none 0 0] 24))
        have HFd := Lib.hid (Kd.F_drew HFB.out)
        have HFa := Lib.hid (Kd.F_below HFd.out hga)
        clear hga
        go_region_held3 (fun wx => (wx.cell? ⟨w.heap.size, 0, none⟩ = some (.int .i64 i') ∧ wx.cell? ⟨w.heap.size, 1, none⟩ = some (.int .i64 v') ∧ wx.cell? ⟨w.heap.size, 2, none⟩ = some (.int .i64 o') ∧ wx.cell? ⟨w.heap.size, 3, none⟩ = some (.slice A2 l'.length c2)) ∧ wx.cell? (ad.add k) = some (.int .u8 cc)) (first | go_keep | exact ⟨⟨four_far (Nat.ne_of_lt hlt0) x0 _ _ _ _, four_far (Nat.ne_of_lt hlt0) x1 _ _ _ _, four_far (Nat.ne_of_lt hlt0) x2 _ _ _ _, four_far (Nat.ne_of_lt hlt0) x3 _ _ _ _⟩, four_far (Nat.ne_of_lt hbx2) hc5 _ _ _ _⟩) (first
          | (go_at_call 24; refine (HONE.out _ (by first | exact HFd.out | exact HFa.out)).mono ?_; rintro e w2 ⟨A3, c3, B3, d3, rfl, hle3, hle4, hF3, hI3, hb3⟩; have hk5 := (hb3.block w.heap.size (by first | exact hlt0 | (simp; omega))).trans (by first | exact HKK.out | exact HKA.out); obtain ⟨x0, x1, x2, x3, _, _, _, _⟩ := blk_facts4 hk5; have hc5 := (hb3.cell (p := ad.add k) (by first | exact hbx2 | (simp; omega))).trans (by first | exact hcell | exact HCA.out); have hlt4 := blk_lt hk5; have hlt5 : (ad.add k).block < w2.heap.size := (by have := hb3.size; simp at this; omega); (first | (have hk6 : w2.heap[wr.heap.size]? = some (.cells #[.int .i64 0, .int .i64 0, .int .i64 0, .slice none 0 0] 24 (0, 0)) := (hb3.block wr.heap.size (by simp)).trans HGA.out; obtain ⟨t0, t1, t2, t3, n0, n1, n2, n3⟩ := blk_facts4 hk6; have HK6 := Lib.hid hk6; clear hk6) | skip); have HF3 := Lib.hid hF3; have HI3 := Lib.hid hI3; have HS := Lib.hid hb3; clear hF3 hI3 hk5 hb3))
        all_goals
          go_wp2_with fail
          go_meet
          first | exact OneP.late hle3 hle4 HF3.out HI3.out HS.out | exact OneP.early hle3 hle4 HF3.out HI3.out HS.out HK6.out
      case rest =>
        obtain ⟨g8, A3, c3, B3, d3, rfl, rfl, hk8, hg8, hle3, hle4, hF3, hI3, hb3⟩ := hcut
        dsimp only at *
        have hlt0 := blk_lt HKK.out
        have hkk3 := (hb3.block w.heap.size hlt0).trans HKK.out
        have hkr3 := (hb3.block (w.heap.size + 1) hltk).trans HKR.out
        obtain ⟨x0, x1, x2, x3, y0, y1, y2, y3⟩ := blk_facts4 hkk3
        obtain ⟨g0, g1, g2, g3, _, _, _, _⟩ := blk_facts4 hk8
        have hxn : xs.length ≤ 1 := hxl
        have hsz3 := hb3.size
        have HNX := Lib.hid (Kd.N_step (Kd.N_below HN.out hb3) (w1 := (((wc.setCell ⟨w.heap.size, 0, none⟩ (.int .i64 i1)).setCell ⟨w.heap.size, 1, none⟩ (.int .i64 v1)).setCell ⟨w.heap.size, 2, none⟩ (.int .i64 o1)).setCell ⟨w.heap.size, 3, none⟩ (.slice A3 l1.length c3)) (fun _ hk _ => blk_four_far hk.1 _ _ _ _))
        have hok : ∀ k, okX wr.heap.size (fun x => okN w.heap.size x ∧ some x ≠ (Value.slice AO out.length cO).ownBlock) k → okN w.heap.size k ∧ some k ≠ (Value.slice AO out.length cO).ownBlock := fun k hk => by
          rcases hk with h | h
          · exact h.1
          · exact ⟨⟨by omega, by omega⟩, fun he => by have := Kd.N_lt HN.out k he.symm; omega⟩
        have HFX := Lib.hid (Kd.F_step (Kd.F_mono hF3 (fun k hk => hok k hk.1)) (W1 := (((wc.setCell ⟨w.heap.size, 0, none⟩ (.int .i64 i1)).setCell ⟨w.heap.size, 1, none⟩ (.int .i64 v1)).setCell ⟨w.heap.size, 2, none⟩ (.int .i64 o1)).setCell ⟨w.heap.size, 3, none⟩ (.slice A3 l1.length c3)) (fun _ hk _ => blk_four_far hk.1.1 _ _ _ _))
        have HIX := Lib.hid (Kd.F_step (Kd.F_mono hI3 (fun k hk => hok k hk.1)) (W1 := (((wc.setCell ⟨w.heap.size, 0, none⟩ (.int .i64 i1)).setCell ⟨w.heap.size, 1, none⟩ (.int .i64 v1)).setCell ⟨w.heap.size, 2, none⟩ (.int .i64 o1)).setCell ⟨w.heap.size, 3, none⟩ (.slice A3 l1.length c3)) (fun _ hk _ => blk_four_far hk.1.1 _ _ _ _))
        have HKX := Lib.hid (blk_set (blk_set (blk_set (blk_set hkk3 0 (.int .i64 i1)) 1 (.int .i64 v1)) 2 (.int .i64 o1)) 3 (.slice A3 l1.length c3))
        have HRX := Lib.hid ((blk_four_far (w := wc) (g := w.heap.size) (k := w.heap.size + 1) (by omega) (.int .i64 i1) (.int .i64 v1) (.int .i64 o1) (.slice A3 l1.length c3)).trans hkr3)
        have HBX := Lib.hid (((((HBW.out.trans (hb3.mono HBW.out.size)).setCell (p := ⟨w.heap.size, 0, none⟩) (Nat.le_refl _) (.int .i64 i1)).setCell (p := ⟨w.heap.size, 1, none⟩) (Nat.le_refl _) (.int .i64 v1)).setCell (p := ⟨w.heap.size, 2, none⟩) (Nat.le_refl _) (.int .i64 o1)).setCell (p := ⟨w.heap.size, 3, none⟩) (Nat.le_refl _) (.slice A3 l1.length c3))
        clear hF3 hI3 hb3 hkk3 hkr3 hk8 hok HN HBW HKK HKR HFL HFB HONE hxl f0 f1 f2 f3 z0 z1 z2 z3 hcell HM HO HQ HBS
        go_wp2_with (at_builtin; refine Kd.N_append_rows kIt (w0 := w) w.heap.size rfl (.tmp 26) (.tmp 27) 30 35 _ 48 rfl Try.underlying30 info_it rfl (by decide) (by omega) (.slice AO out.length cO) out xs B3 xs.length d3 (okN w.heap.size) (fun k => okN w.heap.size k ∧ some k ≠ (Value.slice AO out.length cO).ownBlock) rfl rfl HNX.out HIX.out (fun _ hk => hk) (fun k hk => by simp at hk; exact ⟨by omega, by omega⟩) HBX.out (by simp; omega) (by omega) ?_; intro vv ww hr2 hb2 hg2 ho2; obtain ⟨Ag, cg, rfl⟩ := Kd.N_slice hr2; rw [List.length_append] at hr2 ho2; have HR2 := Lib.hid hr2; have HB2 := Lib.hid hb2; have HK2 := Lib.hid (blk_grown HKX.out hg2 (Kd.N_away HNX.out (fun k hk => hk.1))); have HL2 := Lib.hid (blk_grown HRX.out hg2 (Kd.N_away HNX.out (fun k hk => hk.2))); have HF2 := Lib.hid (Kd.F_after HFX.out hg2 ho2); clear hr2 hb2 hg2 ho2)
        refine ⟨⟨k + 1, by omega, by go_num, ?_⟩, by simp [intOf]; omega⟩
        rw [HSN2.out]
        exact ⟨A3, c3, HK2.out, hle3, HL2.out, HR2.out, HF2.out, HB2.out⟩
    · have hke : bs.take k = bs := List.take_of_length_le (by omega)
      rw [hke] at HKK HFL HN hle2 ⊢
      clear hke hN hF hbw hkk hkr hmr hln hlt9 hlo HO HM HQ HBS
      generalize feedF q bs = p at *
      obtain ⟨⟨i1, v1, o1, l1⟩, xs⟩ := p
      dsimp only at *
      obtain ⟨f0, f1, f2, f3, z0, z1, z2, z3⟩ := blk_facts4 HKK.out
      obtain ⟨g0, g1, g2, g3, y0, y1, y2, y3⟩ := blk_facts4 HKR.out
      have HP := Lib.hid (DfP.of (q := (⟨i1, v1, o1, l1⟩, xs)) hle2 HKR.out HN.out HFL.out HBW.out (.int .i64 i1) (.int .i64 v1) (.int .i64 o1) (.slice A2 l1.length c2))
      have hlt0 := blk_lt HKK.out
      have hltk := blk_lt HKR.out
      clear HKK HKR HN HFL HBW
      dsimp only at *
      go_wp2_with fail
      refine bodyPost_ret (v := .tuple #[.agg #[.int .i64 i1, .int .i64 v1, .int .i64 o1, .slice A2 l1.length c2], .slice AO xs.length cO]) (by simp [results, Try.results15, go_sem, g0, g1, g2, g3]) rfl HP.out
end Go.Proofs.Ytkbblbgiheclfaa
