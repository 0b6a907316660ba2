/- Few, one; the document's Same, of items. -/
import Derived.Test.YtkbblbgiheclfaaDoorIC
import Derived.Test.YtkbblbgiheclfaaDoorID
import Derived.Deep.RegionWith
namespace Go.Proofs.YtkbblbgiheclfaaDoor
open Go.RowKit Go.Proofs.YtkbblbgiheclfaaDoorW.PrintWords

/-- One item, laid as a literal. -/
theorem lit_I (W : World) (x : It) (B : Option Addr) (c : Nat) (hle : x.l.length ≤ c) (hB : kB.C W B x.l.length x.l) :
    kIt.C (W.alloc (.cells #[.int .i64 x.k, .int .i64 x.a, .int .i64 x.b, .slice B x.l.length c] 25)) (some ⟨W.heap.size, 0, none⟩) 1 [x] := by
  refine ⟨rfl, by omega, fun _ => ⟨_, rfl, fun j p hj => ?_⟩⟩
  rcases j with _ | j
  · obtain rfl : x = p := by simpa using hj
    refine ⟨[.int .i64 x.k, .int .i64 x.a, .int .i64 x.b, .slice B x.l.length c], rfl, ⟨[.int .i64 x.k], _, rfl, rfl, [.int .i64 x.a], _, rfl, rfl, [.int .i64 x.b], _, rfl, rfl, B, c, rfl, hle, Kd.C_below hB (below_alloc (Below.refl _ _) _)⟩, fun i u hu => ?_⟩
    have hk : (W.alloc (.cells #[.int .i64 x.k, .int .i64 x.a, .int .i64 x.b, .slice B x.l.length c] 25)).heap[W.heap.size]? = some (.cells #[.int .i64 x.k, .int .i64 x.a, .int .i64 x.b, .slice B x.l.length c] 25 (0, 0)) := by
      show (W.heap.push _)[W.heap.size]? = _
      simp
    rw [show (0 * kIt.sz + i) = i by simp, add_plain, blk_cell hk i]
    simpa using hu
  · simp at hj
theorem bfew_any (A : Option Addr) (cap : Nat) (l : List Int) (w : World) (hcap : l.length ≤ cap) (hl : l.length ≤ 9223372036854775807) : Calls Tryd.prog 11 #[.slice A l.length cap] w fun e w' => e = .returned (.slice A (l.take 200).length cap) ∧ w = w' := by
  by_cases h : 200 < l.length
  · have e : (l.take 200).length = 200 := by rw [List.length_take]; omega
    rw [e]
    obtain ⟨i0, hi, _⟩ := info_parts info_u8
    have hcut := cut_to (P := Tryd.prog) 22 5 .i64 Tryd.underlying22 hi A l.length cap 200 (by omega) (by omega) hcap
    clear e hi
    go_enter Tryd.func11, Tryd.ntmps11
    go_wp2
    go_ret
    exact ⟨rfl, rfl⟩
  · have e : (l.take 200).length = l.length := by rw [List.length_take]; omega
    rw [e]
    clear e
    go_enter Tryd.func11, Tryd.ntmps11
    go_wp2
    go_ret
    exact ⟨rfl, rfl⟩

theorem one_no (k a b k' a' b' : Int) (v v' : Value) (w : World) (h : ¬ (k = k' ∧ a = a' ∧ b = b')) : Calls Tryd.prog 37 #[.agg #[.int .i64 k, .int .i64 a, .int .i64 b, v], .agg #[.int .i64 k', .int .i64 a', .int .i64 b', v']] w (BoolP w false) := by
  by_cases h1 : k = k'
  · by_cases h2 : a = a'
    · have h3 : ¬ b = b' := fun h3 => h ⟨h1, h2, h3⟩
      subst h1
      subst h2
      have h4 : (b == b') = false := beq_eq_false_iff_ne.2 h3
      clear h h3
      go_enter Tryd.func37, Tryd.ntmps37
      go_wp2
      go_ret
      exact ⟨rfl, ((Below.refl _ w).alloc (Nat.le_refl _) _).alloc (by simp) _⟩
    · subst h1
      have h4 : (a == a') = false := beq_eq_false_iff_ne.2 h2
      clear h h2
      go_enter Tryd.func37, Tryd.ntmps37
      go_wp2
      go_ret
      exact ⟨rfl, ((Below.refl _ w).alloc (Nat.le_refl _) _).alloc (by simp) _⟩
  · have h4 : (k == k') = false := beq_eq_false_iff_ne.2 h1
    clear h h1
    go_enter Tryd.func37, Tryd.ntmps37
    go_wp2
    go_ret
    exact ⟨rfl, ((Below.refl _ w).alloc (Nat.le_refl _) _).alloc (by simp) _⟩
theorem one_yes (k a b : Int) (A B : Option Addr) (m n c d : Nat) (xs ys : List Int) (w : World) (h1 : kB.C w A m xs) (h2 : kB.C w B n ys) (hx : Oct xs) (hy : Oct ys) :
    Calls Tryd.prog 37 #[.agg #[.int .i64 k, .int .i64 a, .int .i64 b, .slice A m c], .agg #[.int .i64 k, .int .i64 a, .int .i64 b, .slice B n d]] w (BoolP w (decide (xs = ys))) := by
  have e1 := bytes_str (c := c) (Kd.C_alloc (Kd.C_alloc h1 (.cells #[.int .i64 k, .int .i64 a, .int .i64 b, .slice A m c] 25)) (.cells #[.int .i64 k, .int .i64 a, .int .i64 b, .slice B n d] 25))
  have e2 := bytes_str (c := d) (Kd.C_alloc (Kd.C_alloc h2 (.cells #[.int .i64 k, .int .i64 a, .int .i64 b, .slice A m c] 25)) (.cells #[.int .i64 k, .int .i64 a, .int .i64 b, .slice B n d] 25))
  rw [← str_eq hx hy]
  clear h1 h2 hx hy
  generalize strOfNums xs = s at *
  generalize strOfNums ys = t at *
  go_enter Tryd.func37, Tryd.ntmps37
  go_wp2
  go_ret
  exact ⟨rfl, ((Below.refl _ w).alloc (Nat.le_refl _) _).alloc (by simp) _⟩
theorem one_any (x y : It) (A B : Option Addr) (c d : Nat) (w : World) (h1 : kB.C w A x.l.length x.l) (h2 : kB.C w B y.l.length y.l) (hx : Oct x.l) (hy : Oct y.l) :
    Calls Tryd.prog 37 #[.agg #[.int .i64 x.k, .int .i64 x.a, .int .i64 x.b, .slice A x.l.length c], .agg #[.int .i64 y.k, .int .i64 y.a, .int .i64 y.b, .slice B y.l.length d]] w (BoolP w (decide (x = y))) := by
  obtain ⟨k, a, b, l⟩ := x
  obtain ⟨k', a', b', l'⟩ := y
  by_cases h : k = k' ∧ a = a' ∧ b = b'
  · obtain ⟨rfl, rfl, rfl⟩ := h
    have e : decide ((⟨k, a, b, l⟩ : It) = ⟨k, a, b, l'⟩) = decide (l = l') := by simp
    rw [e]
    exact one_yes k a b A B _ _ c d l l' w h1 h2 hx hy
  · have e : decide ((⟨k, a, b, l⟩ : It) = ⟨k', a', b', l'⟩) = false := decide_eq_false (fun he => h (by injection he with h1 h2 h3 h4; exact ⟨h1, h2, h3⟩))
    rw [e]
    exact one_no k a b k' a' b' _ _ w h

set_option maxHeartbeats 4000000 in
set_option maxRecDepth 100000 in
theorem rsames_any (A B : Option Addr) (c d : Nat) (xs ys : List It) (w : World) (h1 : kIt.C w A xs.length xs) (h2 : kIt.C w B ys.length ys) (hx : Octs xs) (hy : Octs ys) :
    Calls Tryd.prog 24 #[.slice A xs.length c, .slice B ys.length d] w (BoolP w (decide (xs = ys))) := by
  have hm1 : xs.length ≤ 9223372036854775807 := h1.2.1
  have hm2 : ys.length ≤ 9223372036854775807 := h2.2.1
  by_cases hn : xs.length = ys.length
  · have HX := Lib.hid h1
    have HY := Lib.hid h2
    have HO := Lib.hid (And.intro hx hy)
    have HN := Lib.hid hn
    clear h1 h2 hx hy
    have HL := Lib.hid (show ys.length = xs.length from hn.symm)
    rw [← hn] at hm2 ⊢
    clear hn
    go_enter Tryd.func24, Tryd.ntmps24
    go_wp2_with fail
    go_loopw [5] (fun i wr => ∃ k : Nat, k ≤ xs.length ∧ i = .int .i64 k ∧ Below w.heap.size w wr ∧ Hid (xs.take k = ys.take k)) (fun i _ => xs.length - (intOf i).toNat)
    case atStart => exact ⟨0, Nat.zero_le _, rfl, Below.refl _ _, Lib.hid rfl⟩
    case round =>
      obtain ⟨k, hk, rfl, hb, HT⟩ := hrel
      have HB := Lib.hid hb
      clear hb
      by_cases hlt : k < xs.length
      · obtain ⟨ad, B1, c1, rfl, x0, x1, x2, x3, hle1, hB1⟩ := it_at HX.out k hlt
        obtain ⟨ae, B2, c2, rfl, y0, y1, y2, y3, hle2, hB2⟩ := it_at HY.out k (by rw [HL.out]; exact hlt)
        have bx := cell_block x0
        have by' := cell_block y0
        have x0' := (HB.out.cell bx).trans x0
        have x1' := (HB.out.cell (p := ⟨(ad.add (k * 4)).block, (ad.add (k * 4)).off + 1, none⟩) bx).trans x1
        have x2' := (HB.out.cell (p := ⟨(ad.add (k * 4)).block, (ad.add (k * 4)).off + 2, none⟩) bx).trans x2
        have x3' := (HB.out.cell (p := ⟨(ad.add (k * 4)).block, (ad.add (k * 4)).off + 3, none⟩) bx).trans x3
        have y0' := (HB.out.cell by').trans y0
        have y1' := (HB.out.cell (p := ⟨(ae.add (k * 4)).block, (ae.add (k * 4)).off + 1, none⟩) by').trans y1
        have y2' := (HB.out.cell (p := ⟨(ae.add (k * 4)).block, (ae.add (k * 4)).off + 2, none⟩) by').trans y2
        have y3' := (HB.out.cell (p := ⟨(ae.add (k * 4)).block, (ae.add (k * 4)).off + 3, none⟩) by').trans y3
        clear x0 x1 x2 x3 y0 y1 y2 y3 bx by'
        have HTN := Lib.hid (take_next HN.out hlt HT.out)
        have HNE := Lib.hid (show xs = ys → xs.getD k zIt = ys.getD k zIt from fun e => by rw [e])
        obtain ⟨b, hbq⟩ : ∃ b, b = decide (xs.getD k zIt = ys.getD k zIt) := ⟨_, rfl⟩
        have HQ := Lib.hid hbq
        have ox := Lib.hid (HO.out.1 _ (it_mem xs k hlt))
        have oy := Lib.hid (HO.out.2 _ (it_mem ys k (by rw [HL.out]; exact hlt)))
        have hbw := HB.out.drew
        have HW := Lib.hid (one_any (xs.getD k zIt) (ys.getD k zIt) B1 B2 c1 c2 wr.drew (Kd.C_below hB1 hbw) (Kd.C_below hB2 hbw) ox.out oy.out)
        rw [← HQ.out] at HW
        have HBW := Lib.hid hbw
        have hki : (k : Int) < (xs.length : Int) := by omega
        have hkz : (0 : Int) ≤ (k : Int) := by omega
        clear hbq hB1 hB2 hbw
        generalize xs.getD k zIt = x at *
        generalize ys.getD k zIt = y at *
        go_wp2_with fail
        go_region_with (go_at_call 37; (with_reducible refine (HW.out).mono ?_); rintro e w2 ⟨rfl, hb2⟩; have HW2 := Lib.hid (HBW.out.trans (hb2.mono HBW.out.size)); clear hb2)
        all_goals
          cases b
          · go_wp2_with fail
            go_ret
            refine ⟨?_, HW2.out⟩
            rw [decide_eq_false (fun e => of_decide_eq_false HQ.out.symm (HNE.out e))]
            rfl
          · go_wp2_with fail
            go_roundw
            case rel => exact ⟨k + 1, by omega, by go_num, HW2.out, Lib.hid (HTN.out (of_decide_eq_true HQ.out.symm))⟩
            case measure => simp [intOf]; omega
      · obtain rfl : k = xs.length := by omega
        have HR : Hid (decide (xs = ys) = true) := Lib.hid (decide_eq_true (by have := HT.out; rwa [List.take_length, HN.out, List.take_length] at this))
        clear HT
        go_wp2_with fail
        go_ret
        exact ⟨by rw [HR.out]; rfl, HB.out⟩
  · have HR : Hid (decide (xs = ys) = false) := Lib.hid (decide_eq_false (fun e => hn (by rw [e])))
    have hne : ((xs.length : Int) != (ys.length : Int)) = true := bne_iff_ne.2 (by omega)
    have hne2 : ((xs.length : Int) == (ys.length : Int)) = false := beq_eq_false_iff_ne.2 (by omega)
    clear h1 h2 hx hy hn
    go_enter Tryd.func24, Tryd.ntmps24
    go_wp2
    go_ret
    exact ⟨by rw [HR.out]; rfl, Below.refl _ _⟩
end Go.Proofs.YtkbblbgiheclfaaDoor
