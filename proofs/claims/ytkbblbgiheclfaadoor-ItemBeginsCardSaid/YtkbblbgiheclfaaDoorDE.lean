/- bytes.Replace, bytes.ReplaceAll: 255 told twice. -/
import Derived.Test.YtkbblbgiheclfaaDoorDC
import Derived.Test.YtkbblbgiheclfaaDoorDB
import Derived.Laws.CopyOwn
namespace Go.Proofs.YtkbblbgiheclfaaDoor.Dr
open Go.RowKit Go.Proofs.YtkbblbgiheclfaaDoorW.PrintWords

theorem row_of_blk {w : World} {base g : Nat} {l : List Int} {ok : Nat → Prop} (hg : w.heap[g]? = some (.cells (obV l).toArray 5 (0, 0))) (hb : base ≤ g) (hl : l.length ≤ 100000000) (hok : ok g) : kB.R 5 w base ok (.slice (some ⟨g, 0, none⟩) l.length l.length) l :=
  Kd.R_of_own (h1 := fun _ => rfl) ⟨by simp [encs], .inr ⟨g, l.length, (obV l).toArray, rfl, hb, hg, Nat.le_refl _, by unfold maxLen; omega, by simp [obV], by simp [obV, encs, List.take_of_length_le]⟩⟩ (fun k hk => by
    have : g = k := by simpa [Value.ownBlock] using hk
    exact this ▸ hok)
theorem made_obV (n : Nat) : madeCells #[Value.int .u8 0] n = (obV (List.replicate n 0)).toArray := by
  apply Array.toList_inj.1
  rw [toList_madeCells_one]
  simp [obV]
theorem cutF (ad : Addr) (n c k : Nat) (j : Int) (hj : j = k) (hk : k ≤ n) (hc : k ≠ c) : ∀ W : World, (Instr.slice 22 (.slice (some ad) n c) (some (.int .i64 j)) none none).run Tryd.prog W = .ok (.slice (some (ad.add k)) (n - k) (c - k)) W := by
  obtain ⟨i0, hi, _, hi2, _⟩ := info_parts info_u8
  intro W
  have h := cut_from (P := Tryd.prog) 22 5 .i64 Tryd.underlying22 hi 1 hi2 (some ad) n c j (by omega) (by omega) W
  have e : j.toNat = k := by omega
  rw [e, if_neg (Ne.symm hc), Nat.mul_one] at h
  exact h
theorem cutM (ad : Addr) (n c k q : Nat) (j j2 : Int) (hj : j = k) (hj2 : j2 = (k + q : Nat)) (hk : k + q ≤ n) (hn : n ≤ c) (hc : k ≠ c) : ∀ W : World, (Instr.slice 22 (.slice (some ad) n c) (some (.int .i64 j)) (some (.int .i64 j2)) none).run Tryd.prog W = .ok (.slice (some (ad.add k)) q (c - k)) W := by
  obtain ⟨i0, hi, _, hi2, _⟩ := info_parts info_u8
  intro W
  have h := cut_mid (P := Tryd.prog) 22 5 .i64 .i64 Tryd.underlying22 hi 1 hi2 (some ad) n c j j2 (by omega) (by omega) (by omega) hn W
  have e : j.toNat = k := by omega
  have e2 : j2.toNat = k + q := by omega
  rw [e, e2, if_neg (Ne.symm hc), Nat.mul_one, Nat.add_sub_cancel_left] at h
  exact h
theorem cutG (ad : Addr) (n c k : Nat) (hk : k ≤ n) (hn : n ≤ c) : ∃ dp, (∀ W : World, (Instr.slice 22 (.slice (some ad) n c) (some (.int .i64 k)) none none).run Tryd.prog W = .ok (.slice dp (n - k) (c - k)) W) ∧ (k < n → dp = some (ad.add k)) := by
  by_cases h : c = k
  · obtain ⟨i0, hi, _, hi2, _⟩ := info_parts info_u8
    refine ⟨some ad, fun W => ?_, fun hlt => by omega⟩
    have h2 := cut_from (P := Tryd.prog) 22 5 .i64 Tryd.underlying22 hi 1 hi2 (some ad) n c k (by omega) (by omega) W
    rw [Int.toNat_natCast, if_pos h] at h2
    exact h2
  · exact ⟨_, cutF ad n c k k rfl hk (Ne.symm h), fun _ => rfl⟩
theorem splice_last {xs : List Int} {s i a : Nat} (ha : a = s + i) (hs : s ≤ xs.length) (hi : (xs.take s).count 255 = i) (h0 : (xs.drop s).count 255 = 0) :
    splice (obV (dblF (xs.take s) ++ List.replicate (xs.length + i - a) 0)) a (obV (xs.drop s)) = obV (dblF xs) := by
  have hd : (dblF (xs.take s)).length = a := by
    rw [dbl_len, hi, List.length_take, ha]
    omega
  rw [splice_next _ _ _ _ hd.symm, List.length_drop, last_dbl h0, show xs.length + i - a - (xs.length - s) = 0 by omega]
  simp
theorem info1 : (Tryd.prog.info? 5).map (·.size) = some 1 := by kernel_rfl
theorem add_zero (g k : Nat) : (⟨g, 0, none⟩ : Addr).add k = ⟨g, k, none⟩ := by
  unfold Addr.add
  split <;> simp_all
/-- Behind i rounds, from s on, a cells of block g written. -/
def RpS (w : World) (xs : List Int) (m g i s a : Nat) (wr : World) : Prop := a = s + i ∧ i ≤ m ∧ s ≤ xs.length ∧ (xs.take s).count 255 = i ∧ wr.heap[g]? = some (.cells (obV (dblF (xs.take s) ++ List.replicate (xs.length + m - a) 0)).toArray 5 (0, 0)) ∧ Below w.heap.size w wr ∧ w.heap.size ≤ g
theorem splice_round {xs : List Int} {s i q a L : Nat} (ha : a = s + i) (hs : s ≤ xs.length) (hi : (xs.take s).count 255 = i) (hq : q < (xs.drop s).length) (h0 : ((xs.drop s).take q).count 255 = 0) (h1 : (xs.drop s).take (q + 1) = (xs.drop s).take q ++ [255]) :
    splice (splice (obV (dblF (xs.take s) ++ List.replicate (L - a) 0)) a (obV ((xs.drop s).take q))) (a + q) (obV [255, 255]) = obV (dblF (xs.take (s + q + 1)) ++ List.replicate (L - (a + q + 2)) 0) := by
  have hd : (dblF (xs.take s)).length = a := by
    rw [dbl_len, hi, List.length_take, ha]
    omega
  have hlq : ((xs.drop s).take q).length = q := by rw [List.length_take]; omega
  rw [splice_next _ _ _ _ hd.symm, splice_next _ _ _ _ (by rw [List.length_append, hd, hlq]), (round_dbl hi hq h0 h1).1, hlq]
  congr 3
  simp only [List.length_cons, List.length_nil]
  omega
set_option maxHeartbeats 1000000 in
set_option maxRecDepth 100000 in
theorem repl_any (A : Option Addr) (c g h d d2 : Nat) (xs : List Int) (w : World) (hC : kB.C w A xs.length xs) (hc : xs.length ≤ c) (hl : xs.length ≤ 1000000) (ho : Oct xs) (hg : w.cell? ⟨g, 0, none⟩ = some (.int .u8 255)) (hh : kB.C w (some ⟨h, 0, none⟩) 2 [255, 255]) :
    Calls Tryd.prog 56 #[.slice A xs.length c, .slice (some ⟨g, 0, none⟩) 1 d, .slice (some ⟨h, 0, none⟩) 2 d2, .int .i64 (-1)] w (OctP w (dblF xs)) := by
  have HCN := Lib.hid (cnt_any A xs.length c g d xs w hC ho hg)
  have hcl := count_le xs
  obtain ⟨m, hm⟩ : ∃ m, xs.count 255 = m := ⟨_, rfl⟩
  rw [hm] at HCN hcl
  have HM := Lib.hid hm
  have HC := Lib.hid hC
  have HO := Lib.hid ho
  have HH := Lib.hid hh
  have HG := Lib.hid hg
  clear hC ho hg hh hm
  rcases Nat.eq_zero_or_pos m with h0 | h0
  · subst h0
    have HD := Lib.hid (dbl_none HM.out)
    have hb0 : (((0 : Nat) : Int) == 0) = true := rfl
    go_enter Tryd.func56, Tryd.ntmps56
    go_wp2_with (first
      | (go_at_call 60; refine (HCN.out).mono ?_; rintro e w' ⟨rfl, rfl⟩)
      | (at_builtin; refine Kd.R_append_rows kB (Rr := fun x cs => cs = [.int .u8 x]) (w0 := w) w.heap.size rfl (.const (.slice none 0 0)) (.tmp 24) 22 5 (.int .u8 0) 1 rfl Tryd.underlying22 info_u8 rfl (by decide) (by omega) (.slice none 0 0) [] xs A xs.length c (fun k => w.heap.size ≤ k) (fun _ => False) rfl rfl (Kd.R_nil _ _ _ _ _) HC.out (fun _ _ h => h) (fun _ h => h.elim) (fun _ h => h) (Below.refl _ _) (Nat.le_refl _) (by simp only [List.length_nil]; omega) ?_; intro v1 w2 hr2 hb2 hg2 ho2; rw [List.nil_append] at hr2; have HP := Lib.hid (show OctP w (dblF xs) (.returned v1) w2 from ⟨v1, rfl, by rw [HD.out]; exact hr2, hb2⟩); obtain ⟨Ar, cr, rfl⟩ := Kd.R_slice hr2; clear hr2 hb2 hg2 ho2))
    go_ret
    exact HP.out
  · obtain ⟨ad, rfl⟩ : ∃ ad, A = some ad := by
      cases A with
      | none => have := (nil_C HC.out).1; omega
      | some ad => exact ⟨ad, rfl⟩
    have hmb : ((m : Int) == 0) = false := beq_eq_false_iff_ne.2 (by omega)
    have hmk : ∀ W : World, (Instr.makeSlice 22 (.int .i64 ((xs.length : Int) + m)) (.int .i64 ((xs.length : Int) + m))).run Tryd.prog W = .ok (.slice (some ⟨W.heap.size, 0, none⟩) (xs.length + m) (xs.length + m)) (W.alloc (.cells (obV (List.replicate (xs.length + m) 0)).toArray 5)) := by
      intro W
      have hn : ((xs.length : Int) + m).toNat = xs.length + m := by omega
      have := print_make_int (P := Tryd.prog) 22 5 (.int .u8 0) 1 Tryd.underlying22 info_u8 rfl (by decide) ((xs.length : Int) + m) (by omega) (by omega) W
      rw [hn, made_obV] at this
      exact this
    go_enter Tryd.func56, Tryd.ntmps56
    go_wp2_with (go_at_call 60; refine (HCN.out).mono ?_; rintro e w' ⟨rfl, rfl⟩)
    have hn0 : w.heap.size ≤ w.heap.size := Nat.le_refl _
    have HREL : Hid (RpS w xs m w.heap.size 0 0 0 (w.alloc (.cells (obV (List.replicate (xs.length + m) 0)).toArray 5))) := Lib.hid ⟨rfl, Nat.zero_le _, Nat.zero_le _, by simp, by have := alloc_at w (.cells (obV (List.replicate (xs.length + m) 0)).toArray 5); simpa [dblF] using this, below_alloc (Below.refl _ _) _, Nat.le_refl _⟩
    clear hmk hn0 HCN
    generalize w.heap.size = g0 at HREL ⊢
    go_loopw [11, 12, 49] (fun v11 v12 v49 wr => ∃ i s a : Nat, v49 = .int .i64 i ∧ v12 = .int .i64 s ∧ v11 = .int .i64 a ∧ RpS w xs m g0 i s a wr) (fun _ _ v49 _ => m - (intOf v49).toNat)
    case atStart => exact ⟨0, 0, 0, rfl, rfl, rfl, HREL.out⟩
    case round =>
      obtain ⟨i, s, a, rfl, rfl, rfl, ha, him, hs, hcs, hgk, hb, hg0⟩ := hrel
      clear HREL
      have hsp := split_count xs s
      rw [hcs, HM.out] at hsp
      have HGK := Lib.hid hgk
      have HB := Lib.hid hb
      have HCS := Lib.hid hcs
      have HA := Lib.hid ha
      have hal : a ≤ xs.length + m := by omega
      clear hgk hb hcs
      by_cases hlt : i < m
      · have hlb : decide (i < m) = true := decide_eq_true hlt
        obtain ⟨q, hq1, hq2, hq3, hq4⟩ := index_byte (HO.out.drop s) (show 0 < (xs.drop s).count 255 by omega)
        have hdl : (xs.drop s).length = xs.length - s := List.length_drop
        have hsl : s < xs.length := by omega
        have hcd := Kd.C_drop (c := c) (m := s) (HC.out) (by omega) hc
        rw [if_neg (by omega), hdl] at hcd
        have hcd2 : kB.C w (some (ad.add s)) (xs.length - s) (xs.drop s) := by
          have e : s * kB.sz = s := by show s * 1 = s; omega
          rw [e] at hcd
          exact hcd
        have hcq : kB.C w (some (ad.add s)) q ((xs.drop s).take q) := by
          have h := Kd.C_take (m := q) (show kB.C w (some (ad.add s)) (xs.drop s).length (xs.drop s) by rw [hdl]; exact hcd2) (by omega)
          rwa [List.length_take, Nat.min_eq_left (by omega)] at h
        have HIX := Lib.hid (fun W (hW : Below w.heap.size w W) => idx_any (ad.add s) (xs.length - s) (c - s) g d (xs.drop s) q W (Kd.C_below hcd2 hW) hq1 ((hW.cell (p := ⟨g, 0, none⟩) (World.block_lt_of_cell? w _ HG.out)).trans HG.out))
        have hc1 := cutF ad xs.length c s s rfl (by omega) (by omega)
        have hc2 := cutF ⟨g0, 0, none⟩ (xs.length + m) (xs.length + m) a a rfl (by omega) (by omega)
        have hc3 := cutM ad xs.length c s q s ((s : Int) + q) rfl (by omega) (by omega) hc (by omega)
        have hc4 := cutF ⟨g0, 0, none⟩ (xs.length + m) (xs.length + m) (a + q) ((a : Int) + q) (by omega) (by omega) (by omega)
        rw [add_zero] at hc2 hc4
        have hn1 : s + q + 1 ≤ xs.length := by omega
        have hn2 : a + q + 2 ≤ xs.length + m := by omega
        have hn3 : a ≤ s + i := by omega
        have hn4 : s + i ≤ a := by omega
        have HCQ := Lib.hid hcq
        have HQ := Lib.hid (And.intro hq3 hq4)
        have HSP := Lib.hid (splice_round (L := xs.length + m) ha hs HCS.out hq2 hq3 hq4)
        have HRD := Lib.hid (round_dbl HCS.out hq2 hq3 hq4).2
        clear hq1 hq3 hq4 hsp hcd hcd2 hcq hdl ha hq2
        go_upto_region 15 with (go_at_call 61; refine (HIX.out _ HB.out).mono ?_; rintro e w' ⟨rfl, rfl⟩)
        have hlq : (obV ((xs.drop s).take q)).length = q := by rw [obV_len, HCQ.out.1]
        obtain ⟨cs, hcs⟩ : ∃ cs, obV ((xs.drop s).take q) = cs := ⟨_, rfl⟩
        have HCS1 := Lib.hid hcs
        rw [hcs] at hlq HSP
        have HLQ := Lib.hid hlq
        clear hcs hlq
        obtain ⟨cur, hcur⟩ : ∃ cur, obV (dblF (xs.take s) ++ List.replicate (xs.length + m - a) 0) = cur := ⟨_, rfl⟩
        have HCU := Lib.hid hcur
        have hcl0 : cur.length = xs.length + m := by
          have h1 := dbl_len (xs.take s)
          have h2 : (xs.take s).length = s := by rw [List.length_take]; omega
          rw [← hcur, obV_len, List.length_append, List.length_replicate, h1, h2, HCS.out]
          omega
        rw [hcur] at HGK HSP
        have HCL := Lib.hid hcl0
        clear hcur hcl0
        have HSRC := Lib.hid (show 0 < cs.length → (some ⟨g0, a, none⟩ : Option Addr) = some ⟨g0, a, none⟩ ∧ ∃ ad', some (ad.add s) = some ad' ∧ ∀ (j : Nat) (v : Value), cs[j]? = some v → wr.cell? (ad'.add j) = some v from fun _ => ⟨rfl, _, rfl, fun j v hj => by
          have hjq : j < q := by
            have := (List.getElem?_eq_some_iff.1 hj).1
            have := HLQ.out
            omega
          have h := u8_all (Kd.C_below HCQ.out HB.out) j hjq
          rw [h, ← hj, ← HCS1.out]
          have hjl : j < ((xs.drop s).take q).length := by have := HCQ.out.1; omega
          rw [obV, List.getElem?_map, List.getD_eq_getElem?_getD, List.getElem?_eq_getElem hjl]
          rfl⟩)
        have HONE := Lib.hid (show ∀ v ∈ cs, v.oneCell' = true from HCS1.out ▸ obV_one _)
        go_region_law (refine step_copy_splice rfl (.tmp 61) (.tmp 65) 22 22 rfl 5 Tryd.underlying22 info1 (some ⟨g0, a, none⟩) (some (ad.add s)) (xs.length + m - a) (xs.length + m - a) q (c - s) (by go_simp) (by go_simp) g0 a cur 5 HGK.out cs (by rw [HLQ.out]; exact (Nat.min_eq_left (by omega)).symm) HSRC.out (by rw [HLQ.out, HCL.out]; omega) HONE.out w.heap.size w (by first | exact HB.out | exact HB.out.drew) hg0 ?_; intro w4 hg4 hb4; rw [HLQ.out]; have HG4 := hg4; have HB4 := Lib.hid hb4; clear hg4 hb4)
        obtain ⟨cur2, hcur2⟩ : ∃ cur2, splice cur a cs = cur2 := ⟨_, rfl⟩
        rw [hcur2] at HG4 HSP
        have HCL2 := Lib.hid (show cur2.length = xs.length + m by rw [← hcur2, length_splice _ _ _ (by rw [HLQ.out, HCL.out]; omega), HCL.out])
        clear hcur2 HSRC HONE HGK HCU
        obtain ⟨cs2, hcs2⟩ : ∃ cs2, obV [255, 255] = cs2 := ⟨_, rfl⟩
        rw [hcs2] at HSP
        have HL2 := Lib.hid (show cs2.length = 2 by rw [← hcs2]; rfl)
        have HSRC := Lib.hid (show 0 < cs2.length → (some ⟨g0, a + q, none⟩ : Option Addr) = some ⟨g0, a + q, none⟩ ∧ ∃ ad', some (⟨h, 0, none⟩ : Addr) = some ad' ∧ ∀ (j : Nat) (v : Value), cs2[j]? = some v → w4.cell? (ad'.add j) = some v from fun _ => ⟨rfl, _, rfl, fun j v hj => by
          have hjq : j < 2 := by
            have := (List.getElem?_eq_some_iff.1 hj).1
            have := HL2.out
            omega
          have h := u8_all (Kd.C_below HH.out HB4.out) j hjq
          rw [h, ← hj, ← hcs2]
          rcases j with _ | _ | j
          · rfl
          · rfl
          · omega⟩)
        have HONE := Lib.hid (show ∀ v ∈ cs2, v.oneCell' = true from hcs2 ▸ obV_one _)
        clear hcs2
        go_wp2_with ((with_reducible refine wpList_copy_splice rfl (.tmp 71) (.tmp 72) 22 22 rfl 5 Tryd.underlying22 info1 (some ⟨g0, a + q, none⟩) (some ⟨h, 0, none⟩) (xs.length + m - (a + q)) (xs.length + m - (a + q)) 2 d2 ?h1 ?h2 g0 (a + q) cur2 5 HG4.out cs2 ?h3 HSRC.out ?h4 HONE.out w.heap.size w HB4.out hg0 ?_); (case h1 => go_simp); (case h2 => go_simp); (case h3 => rw [HL2.out]; exact (Nat.min_eq_left (by omega)).symm); (case h4 => rw [HL2.out, HCL2.out]; omega); intro w5 hg5 hb5; rw [HL2.out]; have HG5 := hg5; have HB5 := Lib.hid hb5; clear hg5 hb5)
        rw [HSP.out] at HG5
        exact ⟨⟨i + 1, s + q + 1, a + q + 2, by go_num, by go_num, by go_num, ⟨by have := HA.out; omega, by omega, by omega, HRD.out, HG5, HB5.out, hg0⟩⟩, by simp [intOf]; omega⟩
      · have him2 : i = m := by omega
        have hn3 : a ≤ s + m := by omega
        have hn4 : s + m ≤ a := by omega
        have HLS := Lib.hid (splice_last ha hs HCS.out (show (xs.drop s).count 255 = 0 by omega))
        rw [him2] at HLS
        obtain ⟨dp, hc1, hdp⟩ := cutG ⟨g0, 0, none⟩ (xs.length + m) (xs.length + m) a hal (Nat.le_refl _)
        obtain ⟨sp, hc2, hsp2⟩ := cutG ad xs.length c s hs hc
        rw [add_zero] at hdp
        obtain ⟨r, hr⟩ : ∃ r, xs.length - s = r := ⟨_, rfl⟩
        have hr1 : r + s = xs.length := by omega
        have hc3 := cutM ⟨g0, 0, none⟩ (xs.length + m) (xs.length + m) 0 (xs.length + m) 0 ((a : Int) + r) rfl (by omega) (by omega) (Nat.le_refl _) (by omega)
        rw [add_zero] at hc3
        have hdl : (xs.drop s).length = r := by rw [List.length_drop, hr]
        have hcd2 : 0 < r → kB.C w (some (ad.add s)) r (xs.drop s) := fun hpos => by
          have hcd := Kd.C_drop (c := c) (m := s) (HC.out) (by omega) hc
          rw [if_neg (by omega), hdl] at hcd
          have e : s * kB.sz = s := by show s * 1 = s; omega
          rw [e] at hcd
          exact hcd
        have hlq : (obV (xs.drop s)).length = r := by rw [obV_len, hdl]
        obtain ⟨cs, hcs⟩ : ∃ cs, obV (xs.drop s) = cs := ⟨_, rfl⟩
        rw [hcs] at hlq HLS
        obtain ⟨cur, hcur⟩ : ∃ cur, obV (dblF (xs.take s) ++ List.replicate (xs.length + m - a) 0) = cur := ⟨_, rfl⟩
        have hcl0 : cur.length = xs.length + m := by
          have h1 := dbl_len (xs.take s)
          have h2 : (xs.take s).length = s := by rw [List.length_take]; omega
          rw [← hcur, obV_len, List.length_append, List.length_replicate, h1, h2, HCS.out]
          omega
        rw [hcur] at HGK HLS
        have HCL := Lib.hid hcl0
        have HSRC := Lib.hid (show 0 < cs.length → dp = some ⟨g0, a, none⟩ ∧ ∃ ad', sp = some ad' ∧ ∀ (j : Nat) (v : Value), cs[j]? = some v → wr.cell? (ad'.add j) = some v from fun hpos => by
          rw [hlq] at hpos
          refine ⟨hdp (by omega), _, hsp2 (by omega), fun j v hj => ?_⟩
          have hjq : j < r := by
            have := (List.getElem?_eq_some_iff.1 hj).1
            omega
          have h := u8_all (Kd.C_below (hcd2 hpos) HB.out) j hjq
          rw [h, ← hj, ← hcs]
          have hjl : j < (xs.drop s).length := by omega
          rw [obV, List.getElem?_map, List.getD_eq_getElem?_getD, List.getElem?_eq_getElem hjl]
          rfl)
        have HONE := Lib.hid (show ∀ v ∈ cs, v.oneCell' = true from hcs ▸ obV_one _)
        have HLQ := Lib.hid hlq
        have HR := Lib.hid hr
        have hdl2 : (dblF xs).length = xs.length + m := by rw [dbl_len, HM.out]
        have HDL := Lib.hid hdl2
        clear hcur hcl0 hcs hlq hcd2 hdl hdp hsp2 hr hsp ha him2 hdl2
        go_upto_region 28 with fail
        go_region_law (refine step_copy_splice rfl (.tmp 123) (.tmp 126) 22 22 rfl 5 Tryd.underlying22 info1 dp sp (xs.length + m - a) (xs.length + m - a) (xs.length - s) (c - s) (by go_simp) (by go_simp) g0 a cur 5 HGK.out cs (by rw [HLQ.out, HR.out]; exact (Nat.min_eq_left (by omega)).symm) HSRC.out (by rw [HLQ.out, HCL.out]; omega) HONE.out w.heap.size w (by first | exact HB.out | exact HB.out.drew) hg0 ?_; intro w4 hg4 hb4; rw [HLQ.out]; rw [HLS.out] at hg4; have HP := Lib.hid (show OctP w (dblF xs) (.returned (.slice (some ⟨g0, 0, none⟩) (xs.length + m) (xs.length + m))) w4 from ⟨_, rfl, HDL.out ▸ row_of_blk hg4 hg0 (by rw [HDL.out]; omega) hg0, hb4⟩); clear hg4 hb4)
        all_goals
          go_wp2_with fail
          go_ret
          exact HP.out
theorem replAll_any (A : Option Addr) (c g h d d2 : Nat) (xs : List Int) (w : World) (hC : kB.C w A xs.length xs) (hc : xs.length ≤ c) (hl : xs.length ≤ 1000000) (ho : Oct xs) (hg : w.cell? ⟨g, 0, none⟩ = some (.int .u8 255)) (hh : kB.C w (some ⟨h, 0, none⟩) 2 [255, 255]) :
    Calls Tryd.prog 43 #[.slice A xs.length c, .slice (some ⟨g, 0, none⟩) 1 d, .slice (some ⟨h, 0, none⟩) 2 d2] w (OctP w (dblF xs)) := by
  have H := Lib.hid (repl_any A c g h d d2 xs w hC hc hl ho hg hh)
  clear hC ho hg hh
  go_enter Tryd.func43, Tryd.ntmps43
  go_wp2_with (go_at_call 56; refine (H.out).mono ?_; rintro e w' ⟨v, rfl, hR, hb⟩; have HP := Lib.hid (show OctP w (dblF xs) (.returned v) w' from ⟨v, rfl, hR, hb⟩); obtain ⟨Ar, cr, rfl⟩ := Kd.R_slice hR; clear hR hb)
  go_ret
  exact HP.out
end Go.Proofs.YtkbblbgiheclfaaDoor.Dr
