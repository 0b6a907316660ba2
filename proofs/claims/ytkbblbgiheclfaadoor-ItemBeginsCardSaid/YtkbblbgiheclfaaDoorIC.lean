/- Rows of items: slices.EqualFunc, item.Same; item.Data. -/
import Derived.Test.YtkbblbgiheclfaaDoorIB
namespace Go.Proofs.YtkbblbgiheclfaaDoor
open Go.RowKit Go.Proofs.YtkbblbgiheclfaaDoorW.PrintWords

/-- An item, as it lies. -/
def kIt : Kd It := Kd.iso (Kd.pair (Kd.int .i64) (Kd.pair (Kd.int .i64) (Kd.pair (Kd.int .i64) (Kd.slice 5 kB)))) (fun x => (x.k, x.a, x.b, x.l))
def zIt : It := ⟨0, 0, 0, []⟩
theorem it_cells {w : World} {x : It} {cs : List Value} (h : kIt.K w x cs) : ∃ B c, cs = [.int .i64 x.k, .int .i64 x.a, .int .i64 x.b, .slice B x.l.length c] ∧ x.l.length ≤ c ∧ kB.C w B x.l.length x.l := by
  obtain ⟨c0, c1, rfl, h0, c2, c3, rfl, h1, c4, c5, rfl, h2, B, c, h3, hle, hC⟩ := h
  have h0' : c0 = [.int .i64 x.k] := h0
  have h1' : c2 = [.int .i64 x.a] := h1
  have h2' : c4 = [.int .i64 x.b] := h2
  subst h0' h1' h2' h3
  exact ⟨B, c, rfl, hle, hC⟩
theorem it_at {w : World} {A : Option Addr} {n : Nat} {l : List It} (hC : kIt.C w A n l) (k : Nat) (hk : k < n) :
    ∃ ad B c, A = some ad ∧ w.cell? (ad.add (k * 4)) = some (.int .i64 (l.getD k zIt).k) ∧ w.cell? ⟨(ad.add (k * 4)).block, (ad.add (k * 4)).off + 1, none⟩ = some (.int .i64 (l.getD k zIt).a) ∧
      w.cell? ⟨(ad.add (k * 4)).block, (ad.add (k * 4)).off + 2, none⟩ = some (.int .i64 (l.getD k zIt).b) ∧ w.cell? ⟨(ad.add (k * 4)).block, (ad.add (k * 4)).off + 3, none⟩ = some (.slice B (l.getD k zIt).l.length c) ∧
      (l.getD k zIt).l.length ≤ c ∧ kB.C w B (l.getD k zIt).l.length (l.getD k zIt).l := by
  obtain ⟨ad, cs, rfl, _, hK, hc⟩ := Kd.C_get hC zIt (k : Int) (by omega) (by omega)
  have e : (k : Int).toNat * kIt.sz = k * 4 := by
    show (k : Int).toNat * 4 = k * 4
    omega
  have e2 : (k : Int).toNat = k := by omega
  rw [e] at hc
  rw [e2] at hK
  obtain ⟨B, c, rfl, hle, hB⟩ := it_cells hK
  refine ⟨ad, B, c, rfl, hc 0 _ rfl, ?_, ?_, ?_, hle, hB⟩
  · rw [← add_field _ _ 1 (by omega)]
    exact hc 1 _ rfl
  · rw [← add_field _ _ 2 (by omega)]
    exact hc 2 _ rfl
  · rw [← add_field _ _ 3 (by omega)]
    exact hc 3 _ rfl
theorem it_mem (l : List It) (k : Nat) (h : k < l.length) : l.getD k zIt ∈ l := by
  rw [List.getD_eq_getElem?_getD, List.getElem?_eq_getElem h]
  exact List.getElem_mem _
theorem cell_block {w : World} {ad : Addr} {v : Value} (h : w.cell? ad = some v) : ad.block < w.heap.size := World.block_lt_of_cell? w ad h
/-- Octets, all of them. -/
def Octs (l : List It) : Prop := ∀ x ∈ l, Oct x.l
theorem take_next {xs ys : List It} {k : Nat} (hn : xs.length = ys.length) (hk : k < xs.length) (h : xs.take k = ys.take k) (h2 : xs.getD k zIt = ys.getD k zIt) : xs.take (k + 1) = ys.take (k + 1) := by
  rw [List.take_succ_eq_append_getElem hk, List.take_succ_eq_append_getElem (by omega), h]
  congr 2
  rw [List.getD_eq_getElem?_getD, List.getElem?_eq_getElem hk, List.getD_eq_getElem?_getD, List.getElem?_eq_getElem (by omega)] at h2
  exact h2

set_option maxHeartbeats 4000000 in
set_option maxRecDepth 100000 in
theorem eqf_any (A B : Option Addr) (c d : Nat) (xs ys : List It) (w : World) (h1 : kIt.C w A xs.length xs) (h2 : kIt.C w B ys.length ys) (hx : Octs xs) (hy : Octs ys) :
    Calls Tryd.prog 32 #[.slice A xs.length c, .slice B ys.length d, .func (.func 33) #[] #[]] w (BoolP w (decide (xs = ys))) := by
  have hm1 : xs.length ≤ 9223372036854775807 := h1.2.1
  have hm2 : ys.length ≤ 9223372036854775807 := h2.2.1
  by_cases hn : xs.length = ys.length
  · have HX := Lib.hid h1
    have HY := Lib.hid h2
    have HO := Lib.hid (And.intro hx hy)
    have HN := Lib.hid hn
    clear h1 h2 hx hy
    have HL := Lib.hid (show ys.length = xs.length from hn.symm)
    rw [← hn] at hm2 ⊢
    clear hn
    go_enter Tryd.func32, Tryd.ntmps32
    go_wp2_with fail
    go_loopw [17] (fun i wr => ∃ k : Nat, k ≤ xs.length ∧ i = .int .i64 k ∧ Below w.heap.size w wr ∧ Hid (xs.take k = ys.take k)) (fun i _ => xs.length - (intOf i).toNat)
    case atStart => exact ⟨0, Nat.zero_le _, rfl, Below.refl _ _, Lib.hid rfl⟩
    case round =>
      obtain ⟨k, hk, rfl, hb, HT⟩ := hrel
      have HB := Lib.hid hb
      clear hb
      by_cases hlt : k < xs.length
      · obtain ⟨ad, B1, c1, rfl, x0, x1, x2, x3, hle1, hB1⟩ := it_at HX.out k hlt
        obtain ⟨ae, B2, c2, rfl, y0, y1, y2, y3, hle2, hB2⟩ := it_at HY.out k (by rw [HL.out]; exact hlt)
        have bx := cell_block x0
        have by' := cell_block y0
        have x0' := (HB.out.cell bx).trans x0
        have x1' := (HB.out.cell (p := ⟨(ad.add (k * 4)).block, (ad.add (k * 4)).off + 1, none⟩) bx).trans x1
        have x2' := (HB.out.cell (p := ⟨(ad.add (k * 4)).block, (ad.add (k * 4)).off + 2, none⟩) bx).trans x2
        have x3' := (HB.out.cell (p := ⟨(ad.add (k * 4)).block, (ad.add (k * 4)).off + 3, none⟩) bx).trans x3
        have y0' := (HB.out.cell by').trans y0
        have y1' := (HB.out.cell (p := ⟨(ae.add (k * 4)).block, (ae.add (k * 4)).off + 1, none⟩) by').trans y1
        have y2' := (HB.out.cell (p := ⟨(ae.add (k * 4)).block, (ae.add (k * 4)).off + 2, none⟩) by').trans y2
        have y3' := (HB.out.cell (p := ⟨(ae.add (k * 4)).block, (ae.add (k * 4)).off + 3, none⟩) by').trans y3
        clear x0 x1 x2 x3 y0 y1 y2 y3 bx by'
        have bx := cell_block x0'
        have by' := cell_block y0'
        have bn : ¬ (ae.add (k * 4)).block = wr.heap.size := by omega
        have hz := HB.out.size
        have HTN := Lib.hid (take_next HN.out hlt HT.out)
        have HNE := Lib.hid (show xs = ys → xs.getD k zIt = ys.getD k zIt from fun e => by rw [e])
        obtain ⟨b, hbq⟩ : ∃ b, b = decide (xs.getD k zIt = ys.getD k zIt) := ⟨_, rfl⟩
        have HQ := Lib.hid hbq
        have ox := Lib.hid (HO.out.1 _ (it_mem xs k hlt))
        have oy := Lib.hid (HO.out.2 _ (it_mem ys k (by rw [HL.out]; exact hlt)))
        have HB1 := Lib.hid hB1
        have HB2 := Lib.hid hB2
        clear hbq hB1 hB2
        generalize xs.getD k zIt = x at *
        generalize ys.getD k zIt = y at *
        go_wp2_with fail
        with_reducible refine (same_any x y B1 B2 c1 c2 _ (Kd.C_below HB1.out ?_) (Kd.C_below HB2.out ?_) ox.out oy.out).mono ?_
        · repeat (first | exact HB.out | (refine Below.setCell ?_ (by first | omega | (simp; done) | (simp; omega)) _) | (refine Below.alloc ?_ (by first | omega | (simp; done) | (simp; omega)) _))
        · repeat (first | exact HB.out | (refine Below.setCell ?_ (by first | omega | (simp; done) | (simp; omega)) _) | (refine Below.alloc ?_ (by first | omega | (simp; done) | (simp; omega)) _))
        rw [← HQ.out]
        rintro e w2 ⟨rfl, hb2⟩
        have HW2 : Hid (Below w.heap.size w w2) := Lib.hid (by
          refine Below.trans ?_ (hb2.mono (by first | omega | (simp; done) | (simp; omega)))
          repeat (first | exact HB.out | (refine Below.setCell ?_ (by first | omega | (simp; done) | (simp; omega)) _) | (refine Below.alloc ?_ (by first | omega | (simp; done) | (simp; omega)) _)))
        clear hb2
        cases b
        · go_wp2_with fail
          go_ret
          refine ⟨?_, HW2.out⟩
          rw [decide_eq_false (fun e => of_decide_eq_false HQ.out.symm (HNE.out e))]
          rfl
        · go_wp2_with fail
          go_roundw
          case rel => exact ⟨k + 1, by omega, by go_num, HW2.out, Lib.hid (HTN.out (of_decide_eq_true HQ.out.symm))⟩
          case measure => simp [intOf]; omega
      · obtain rfl : k = xs.length := by omega
        have HR : Hid (decide (xs = ys) = true) := Lib.hid (decide_eq_true (by have := HT.out; rwa [List.take_length, HN.out, List.take_length] at this))
        clear HT
        go_wp2_with fail
        go_ret
        exact ⟨by rw [HR.out]; rfl, HB.out⟩
  · have HR : Hid (decide (xs = ys) = false) := Lib.hid (decide_eq_false (fun e => hn (by rw [e])))
    have hne : ((xs.length : Int) != (ys.length : Int)) = true := bne_iff_ne.2 (by omega)
    have hne2 : ((xs.length : Int) == (ys.length : Int)) = false := beq_eq_false_iff_ne.2 (by omega)
    clear h1 h2 hx hy hn
    go_enter Tryd.func32, Tryd.ntmps32
    go_wp2
    go_ret
    exact ⟨by rw [HR.out]; rfl, Below.refl _ _⟩

theorem isame_any (A B : Option Addr) (c d : Nat) (xs ys : List It) (w : World) (h1 : kIt.C w A xs.length xs) (h2 : kIt.C w B ys.length ys) (hx : Octs xs) (hy : Octs ys) :
    Calls Tryd.prog 19 #[.slice A xs.length c, .slice B ys.length d] w (BoolP w (decide (xs = ys))) := by
  have H := Lib.hid (eqf_any A B c d xs ys w h1 h2 hx hy)
  clear h1 h2 hx hy
  generalize decide (xs = ys) = r at *
  go_enter Tryd.func19, Tryd.ntmps19
  go_wp2_with (go_at_call 32; refine (H.out).mono ?_; rintro e w' ⟨rfl, hb⟩)
  go_ret
  exact ⟨rfl, hb⟩
end Go.Proofs.YtkbblbgiheclfaaDoor
