/- item.Data; bytes.Clone. -/
import Derived.Test.YtkbblbgiheclfaaDoorIC
namespace Go.Proofs.YtkbblbgiheclfaaDoor
open Go.RowKit Go.Proofs.YtkbblbgiheclfaaDoorW.PrintWords

theorem info_it : (Tryd.prog.info? 25).map (fun i => (i.zero, i.size, i.bytes)) = some (some (.agg #[.int .i64 0, .int .i64 0, .int .i64 0, .slice none 0 0]), 4, 48) := by kernel_rfl
theorem info_u8 : (Tryd.prog.info? 5).map (fun i => (i.zero, i.size, i.bytes)) = some (some (.int .u8 0), 1, 1) := by kernel_rfl
theorem it_FK {W : World} {ok : Nat → Prop} {B : Option Addr} {c : Nat} {x : It} (hle : x.l.length ≤ c) (h : Kd.F kB W ok B x.l.length x.l) : Kd.FK kIt W ok x [.int .i64 x.k, .int .i64 x.a, .int .i64 x.b, .slice B x.l.length c] :=
  fun W' hW => ⟨[.int .i64 x.k], _, rfl, rfl, [.int .i64 x.a], _, rfl, rfl, [.int .i64 x.b], _, rfl, rfl, B, c, rfl, hle, h W' hW⟩
theorem it_FK0 (k a b : Int) (W : World) (ok : Nat → Prop) : Kd.FK kIt W ok ⟨k, a, b, []⟩ [.int .i64 k, .int .i64 a, .int .i64 b, .slice none 0 0] := it_FK (x := ⟨k, a, b, []⟩) (Nat.le_refl _) (Kd.F_nil _ _ _)

/-- Element k's cells, and that they can be written. -/
theorem it_elem {w : World} {base g n cap : Nat} {ok : Nat → Prop} {xs : List It} (h : Kd.N kIt 25 w base ok (.slice (some ⟨g, 0, none⟩) n cap) xs) (k : Nat) (hk : k < n) :
    ∃ u0 u1 u2 u3, w.cell? ⟨g, k * 4, none⟩ = some u0 ∧ w.cell? ⟨g, k * 4 + 1, none⟩ = some u1 ∧ w.cell? ⟨g, k * 4 + 2, none⟩ = some u2 ∧ w.cell? ⟨g, k * 4 + 3, none⟩ = some u3 ∧
      w.frozen? ⟨g, k * 4, none⟩ = false ∧ w.frozen? ⟨g, k * 4 + 1, none⟩ = false ∧ w.frozen? ⟨g, k * 4 + 2, none⟩ = false ∧ w.frozen? ⟨g, k * 4 + 3, none⟩ = false ∧
      ∀ (okp : Nat → Prop) (x : It) (v0 v1 v2 v3 : Value), Kd.FK kIt w okp x [v0, v1, v2, v3] → (∀ k, okp k → ok k ∧ k ≠ g) →
        Kd.N kIt 25 ((((w.setCell ⟨g, k * 4, none⟩ v0).setCell ⟨g, k * 4 + 1, none⟩ v1).setCell ⟨g, k * 4 + 2, none⟩ v2).setCell ⟨g, k * 4 + 3, none⟩ v3) base ok (.slice (some ⟨g, 0, none⟩) n cap) (xs.set k x) ∧ w.grownBy ((((w.setCell ⟨g, k * 4, none⟩ v0).setCell ⟨g, k * 4 + 1, none⟩ v1).setCell ⟨g, k * 4 + 2, none⟩ v2).setCell ⟨g, k * 4 + 3, none⟩ v3) (some g) := by
  obtain ⟨cs, hcl, hFK, hcc, hff⟩ := Kd.N_elem h zIt (k : Int) (by omega) (by omega)
  have e : (k : Int).toNat * kIt.sz = k * 4 := by
    show (k : Int).toNat * 4 = k * 4
    omega
  have e2 : (k : Int).toNat = k := by omega
  have hcl4 : cs.length = 4 := hcl
  obtain ⟨u0, u1, u2, u3, rfl⟩ : ∃ u0 u1 u2 u3, cs = [u0, u1, u2, u3] := by
    match cs, hcl4 with
    | [u0, u1, u2, u3], _ => exact ⟨u0, u1, u2, u3, rfl⟩
  rw [e] at hcc hff
  refine ⟨u0, u1, u2, u3, hcc 0 _ rfl, hcc 1 _ rfl, hcc 2 _ rfl, hcc 3 _ rfl, hff 0, hff 1, hff 2, hff 3, fun okp x v0 v1 v2 v3 hx hokp => ?_⟩
  have := Kd.N_seg h (k : Int) (by omega) (by omega) (c := [u0, u1, u2, u3]) (seg := [v0, v1, v2, v3]) (j := 0) (okp := okp) (x' := x) hcl (by rw [e]; exact hcc) (by show 0 + 4 ≤ 4; omega) hx hokp
  rw [e, e2] at this
  exact this

def datI (c : Int) : It := ⟨1, c, 0, []⟩
/-- The first k octets as items, of n. -/
def datK (bs : List Int) (k : Nat) : List It := (bs.take k).map datI ++ List.replicate (bs.length - k) zIt
theorem datK_zero (bs : List Int) : datK bs 0 = List.replicate bs.length zIt := by simp [datK]
theorem datK_all (bs : List Int) : datK bs bs.length = bs.map datI := by simp [datK]
theorem datK_len (bs : List Int) (k : Nat) (h : k ≤ bs.length) : (datK bs k).length = bs.length := by simp [datK]; omega
theorem datK_set (bs : List Int) (k : Nat) (h : k < bs.length) : (datK bs k).set k (datI (bs.getD k 0)) = datK bs (k + 1) := by
  unfold datK
  have hl : ((bs.take k).map datI).length = k := by simp; omega
  rw [List.set_append_right _ _ (by omega), hl, Nat.sub_self]
  have e : bs.length - k = (bs.length - (k + 1)) + 1 := by omega
  rw [e, List.replicate_succ, List.set_cons_zero, List.take_succ_eq_append_getElem h, List.map_append, List.append_assoc]
  simp [List.getD_eq_getElem?_getD, List.getElem?_eq_getElem h]
def ItsP (w : World) (xs : List It) (e : Ending) (w' : World) : Prop := ∃ A c, e = .returned (.slice A xs.length c) ∧ xs.length ≤ c ∧ kIt.C w' A xs.length xs ∧ Below w.heap.size w w'

set_option maxHeartbeats 4000000 in
set_option maxRecDepth 100000 in
theorem data_any (A : Option Addr) (c : Nat) (bs : List Int) (w : World) (hC : kB.C w A bs.length bs) (hl : bs.length ≤ 100000) (ho : Oct bs) : Calls Tryd.prog 16 #[.slice A bs.length c] w (ItsP w (bs.map datI)) := by
  have HC := Lib.hid hC
  have HO := Lib.hid ho
  clear hC ho
  go_enter Tryd.func16, Tryd.ntmps16
  go_wp2_with (at_make; go_loud (refine Kd.N_make kIt (w0 := w) w.heap.size 25 rfl rfl 31 (.tmp 7) (.tmp 7) rfl (bs.length : Int) rfl rfl Tryd.underlying31 _ 48 info_it rfl (by decide) (by omega) zIt (ok := fun k => w.heap.size ≤ k) (okp := fun _ => False) (it_FK0 0 0 0 _ _) (fun _ h => h.elim) (Nat.le_refl _) (by omega) (by omega) (Below.refl _ _) (Nat.le_refl _) ?_); intro v1 w1 hr hb _ ho)
  have hr' : Kd.N kIt 25 w1 w.heap.size (fun k => w.heap.size ≤ k) v1 (datK bs 0) := by rw [datK_zero]; simpa using hr
  have HR := Lib.hid hr'
  have HB := Lib.hid hb
  clear hr hr' hb ho
  by_cases h0 : bs.length = 0
  · have hnil : bs = [] := List.eq_nil_of_length_eq_zero h0
    subst hnil
    clear h0
    go_wp2_with fail
    go_loopw [11] (fun i wr => i = .int .i64 0 ∧ wr = w1) (fun _ _ => 0)
    case atStart => exact ⟨rfl, rfl⟩
    case round =>
      obtain ⟨rfl, rfl⟩ := hrel
      obtain ⟨A1, c1, rfl, hc1, hC1⟩ := Kd.N_reads HR.out
      have HC1 := Lib.hid hC1
      clear hC1 HR
      go_wp2_with fail
      go_ret
      exact ⟨A1, c1, rfl, hc1, HC1.out, HB.out⟩
  · obtain ⟨g, cap1, rfl, hg, _, _⟩ := Kd.N_form HR.out (by rw [datK_len _ _ (Nat.zero_le _)]; omega)
    rw [datK_len _ _ (Nat.zero_le _)] at HR ⊢
    go_wp2_with fail
    go_loopw [11] (fun i wr => ∃ k : Nat, k ≤ bs.length ∧ i = .int .i64 k ∧ Kd.N kIt 25 wr w.heap.size (fun k => w.heap.size ≤ k) (.slice (some ⟨g, 0, none⟩) bs.length cap1) (datK bs k) ∧ Below w.heap.size w wr) (fun i _ => bs.length - (intOf i).toNat)
    case atStart => exact ⟨0, Nat.zero_le _, rfl, HR.out, HB.out⟩
    case round =>
      obtain ⟨k, hk, rfl, hr, hb⟩ := hrel
      have hlk := datK_len bs k hk
      by_cases hlt : k < bs.length
      · obtain ⟨ad, hA, hx⟩ := u8_at HC.out k hlt
        subst hA
        have hcell := (hb.cell (cell_block hx)).trans hx
        have HR2 := Lib.hid hr
        have HB2 := Lib.hid hb
        clear hr hb hx HR HB
        obtain ⟨hx0, hx1⟩ := HO.out.at k
        have HSET := Lib.hid (datK_set bs k hlt)
        generalize bs.getD k 0 = x at *
        obtain ⟨u0, u1, u2, u3, c0, c1, c2, c3, f0, f1, f2, f3, hput⟩ := it_elem HR2.out k hlt
        have HPUT := Lib.hid hput
        clear hput
        go_wp2_with fail
        go_roundw
        case rel => exact ⟨k + 1, by omega, by go_num, (by rw [← HSET.out]; exact (HPUT.out _ (datI x) _ _ _ _ (it_FK0 1 x 0 _ (fun _ => False)) (fun _ h => h.elim)).1), (((HB2.out.setCell hg _).setCell hg _).setCell hg _).setCell hg _⟩
        case measure => simp [intOf]; omega
      · obtain rfl : k = bs.length := by omega
        rw [datK_all] at hr
        have HRA := Lib.hid hr
        have HML := Lib.hid (show (bs.map datI).length = bs.length from List.length_map ..)
        clear hr HR HB
        go_wp2_with fail
        go_ret
        obtain ⟨A1, c1, he, hc1, hC1⟩ := Kd.N_reads HRA.out
        rw [HML.out] at he
        exact ⟨A1, c1, by rw [HML.out, ← he]; rfl, hc1, hC1, hb⟩
end Go.Proofs.YtkbblbgiheclfaaDoor
