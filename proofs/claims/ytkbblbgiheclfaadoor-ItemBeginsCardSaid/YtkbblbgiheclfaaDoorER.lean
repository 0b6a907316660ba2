/- nvt.Read, of what an item lies as. -/
import Derived.Test.YtkbblbgiheclfaaDoorDH
namespace Go.Proofs.YtkbblbgiheclfaaDoor.Dr
open Go.RowKit Go.Proofs.YtkbblbgiheclfaaDoorW.PrintWords

/-- Read: so many octets. -/
def ReadP (w : World) (n : Nat) (e : Ending) (w' : World) : Prop := ∃ A c m, e = .returned (.tuple #[.slice A n c, .int .i64 m]) ∧ Below w.heap.size w w'
set_option maxHeartbeats 4000000 in
set_option maxRecDepth 100000 in
theorem read_no (A : Option Addr) (c : Nat) (bs : List Int) (w : World) (hC : kB.C w A bs.length bs) (h2 : 2 ≤ bs.length) (e0 : bs.getD 0 0 = 255) (e1 : ¬ bs.getD 1 0 = 255) : Calls Tryd.prog 20 #[.slice A bs.length c] w (ReadP w 0) := by
  have hm := hC.2.1
  obtain ⟨ad, rfl, x0⟩ := u8_at hC 0 (by omega)
  obtain ⟨ad', he, x1⟩ := u8_at hC 1 (by omega)
  obtain rfl : ad = ad' := by injection he
  rw [e0] at x0
  have x0' : w.cell? ad = some (.int .u8 255) := x0
  have x1' : w.cell? ⟨ad.block, ad.off + 1, none⟩ = some (.int .u8 (bs.getD 1 0)) := x1
  have hne : (bs.getD 1 0 != 255) = true := bne_iff_ne.2 e1
  clear hC e0 he
  generalize bs.getD 1 0 = y at *
  generalize bs.length = n at *
  have h0 : (0 : Int) < (n : Int) := by omega
  have h1 : (1 : Int) < (n : Int) := by omega
  go_enter Tryd.func20, Tryd.ntmps20
  go_wp2_with fail
  go_loopw [4, 5] (fun v4 v5 wr => v4 = .slice none 0 0 ∧ v5 = .int .i64 0 ∧ wr = w) (fun _ _ _ => 0)
  case atStart => exact ⟨rfl, rfl, rfl⟩
  case round =>
    obtain ⟨rfl, rfl, rfl⟩ := hrel
    go_wp2_with fail
    refine bodyPost_ret (v := .tuple #[.slice none 0 0, .int .i64 0]) (by simp [results, Tryd.results20, go_sem]) rfl ?_
    exact ⟨none, 0, 0, rfl, Below.refl _ _⟩
set_option maxHeartbeats 4000000 in
set_option maxRecDepth 100000 in
theorem read_one (A : Option Addr) (c : Nat) (y : Int) (w : World) (hC : kB.C w A 1 [y]) (e0 : ¬ y = 255) : Calls Tryd.prog 20 #[.slice A 1 c] w (ReadP w 1) := by
  obtain ⟨ad, rfl, x0⟩ := u8_at hC 0 (by omega)
  have x0 : w.cell? (ad.add 0) = some (.int .u8 y) := x0
  have x0' : w.cell? ad = some (.int .u8 y) := x0
  have hne : (y == 255) = false := beq_eq_false_iff_ne.2 e0
  clear hC
  go_enter Tryd.func20, Tryd.ntmps20
  go_wp2_with fail
  go_loopw [4, 5] (fun v4 v5 wr => (v4 = .slice none 0 0 ∧ v5 = .int .i64 0 ∧ wr = w) ∨ (∃ A c, v4 = .slice A 1 c ∧ v5 = .int .i64 1 ∧ Below w.heap.size w wr)) (fun _ v5 _ => 1 - (intOf v5).toNat)
  case atStart => exact .inl ⟨rfl, rfl, rfl⟩
  case round =>
    rcases hrel with ⟨rfl, rfl, rfl⟩ | ⟨A', c', rfl, rfl, hb⟩
    · by_cases h13 : y = 13
      · subst h13
        go_wp2_with (at_builtin; refine Kd.R_append kB (w0 := wr) wr.heap.size rfl (.tmp 35) (.tmp 37) 22 5 (.int .u8 0) 1 rfl Tryd.underlying22 info_u8 rfl (by decide) (by omega) (.slice none 0 0) [] 13 [.int .u8 13] (fun k => wr.heap.size ≤ k) (fun _ => False) rfl rfl rfl (fun _ hk => hk.elim) (fun k hk => hk) (Kd.R_nil _ _ _ _ _) (Below.refl _ _) (Nat.le_refl _) (by simp) ?_; intro v1 w1 hr2 hb2 hg2 ho2; obtain ⟨A8, c8, rfl⟩ := Kd.R_slice hr2; have HB2 := Lib.hid hb2; clear hr2 hb2 hg2 ho2)
        go_roundw
        case rel => exact .inr ⟨A8, c8, rfl, rfl, HB2.out⟩
        case measure => simp [intOf]
      · have hne13 : (y == 13) = false := beq_eq_false_iff_ne.2 h13
        go_wp2_with (at_builtin; refine Kd.R_append kB (w0 := wr) wr.heap.size rfl (.tmp 35) (.tmp 37) 22 5 (.int .u8 0) 1 rfl Tryd.underlying22 info_u8 rfl (by decide) (by omega) (.slice none 0 0) [] y [.int .u8 y] (fun k => wr.heap.size ≤ k) (fun _ => False) rfl rfl rfl (fun _ hk => hk.elim) (fun k hk => hk) (Kd.R_nil _ _ _ _ _) (Below.refl _ _) (Nat.le_refl _) (by simp) ?_; intro v1 w1 hr2 hb2 hg2 ho2; obtain ⟨A8, c8, rfl⟩ := Kd.R_slice hr2; have HB2 := Lib.hid hb2; clear hr2 hb2 hg2 ho2)
        go_roundw
        case rel => exact .inr ⟨A8, c8, rfl, rfl, HB2.out⟩
        case measure => simp [intOf]
    · have HB := Lib.hid hb
      clear hb
      go_wp2_with fail
      refine bodyPost_ret (v := .tuple #[.slice A' 1 c', .int .i64 1]) (by simp [results, Tryd.results20, go_sem]) rfl ⟨A', c', 1, rfl, HB.out⟩
set_option maxHeartbeats 4000000 in
set_option maxRecDepth 100000 in
theorem read_two (A : Option Addr) (c : Nat) (y z : Int) (w : World) (hC : kB.C w A 2 [y, z]) (h : (y = 255 ∧ z = 255) ∨ (y = 13 ∧ z = 10)) : Calls Tryd.prog 20 #[.slice A 2 c] w (ReadP w 1) := by
  obtain ⟨ad, rfl, x0⟩ := u8_at hC 0 (by omega)
  obtain ⟨ad', he, x1⟩ := u8_at hC 1 (by omega)
  obtain rfl : ad = ad' := by injection he
  have bx := World.block_lt_of_cell? w _ x1
  have x0 : w.cell? (ad.add 0) = some (.int .u8 y) := x0
  have x0' : w.cell? ad = some (.int .u8 y) := x0
  have x1 : w.cell? ⟨ad.block, ad.off + 1, none⟩ = some (.int .u8 z) := x1
  have hcap : (2 : Nat) ≤ 2 := Nat.le_refl _
  clear hC he
  go_enter Tryd.func20, Tryd.ntmps20
  go_wp2_with fail
  go_loopw [4, 5] (fun v4 v5 wr => (v4 = .slice none 0 0 ∧ v5 = .int .i64 0 ∧ wr = w) ∨ (∃ A c, v4 = .slice A 1 c ∧ v5 = .int .i64 2 ∧ Below w.heap.size w wr)) (fun _ v5 _ => 2 - (intOf v5).toNat)
  case atStart => exact .inl ⟨rfl, rfl, rfl⟩
  case round =>
    rcases hrel with ⟨rfl, rfl, rfl⟩ | ⟨A', c', rfl, rfl, hb⟩
    · rcases h with ⟨rfl, rfl⟩ | ⟨rfl, rfl⟩
      · go_wp2_with (at_builtin; refine Kd.R_append kB (w0 := wr) wr.heap.size rfl (.tmp 35) (.tmp 37) 22 5 (.int .u8 0) 1 rfl Tryd.underlying22 info_u8 rfl (by decide) (by omega) (.slice none 0 0) [] 255 [.int .u8 255] (fun k => wr.heap.size ≤ k) (fun _ => False) rfl rfl rfl (fun _ hk => hk.elim) (fun k hk => hk) (Kd.R_nil _ _ _ _ _) (Below.refl _ _) (Nat.le_refl _) (by simp) ?_; intro v1 w1 hr2 hb2 hg2 ho2; obtain ⟨A8, c8, rfl⟩ := Kd.R_slice hr2; have HB2 := Lib.hid hb2; have z1 : w1.cell? ⟨ad.block, ad.off + 1, none⟩ = _ := (hb2.cell bx).trans x1; clear hr2 hb2 hg2 ho2)
        go_roundw
        case rel => exact .inr ⟨A8, c8, rfl, rfl, HB2.out⟩
        case measure => simp [intOf]
      · go_wp2_with (at_builtin; refine Kd.R_append kB (w0 := wr) wr.heap.size rfl (.tmp 35) (.tmp 37) 22 5 (.int .u8 0) 1 rfl Tryd.underlying22 info_u8 rfl (by decide) (by omega) (.slice none 0 0) [] 13 [.int .u8 13] (fun k => wr.heap.size ≤ k) (fun _ => False) rfl rfl rfl (fun _ hk => hk.elim) (fun k hk => hk) (Kd.R_nil _ _ _ _ _) (Below.refl _ _) (Nat.le_refl _) (by simp) ?_; intro v1 w1 hr2 hb2 hg2 ho2; obtain ⟨A8, c8, rfl⟩ := Kd.R_slice hr2; have HB2 := Lib.hid hb2; have z1 : w1.cell? ⟨ad.block, ad.off + 1, none⟩ = _ := (hb2.cell bx).trans x1; clear hr2 hb2 hg2 ho2)
        go_roundw
        case rel => exact .inr ⟨A8, c8, rfl, rfl, HB2.out⟩
        case measure => simp [intOf]
    · have HB := Lib.hid hb
      clear hb
      go_wp2_with fail
      refine bodyPost_ret (v := .tuple #[.slice A' 1 c', .int .i64 2]) (by simp [results, Tryd.results20, go_sem]) rfl ⟨A', c', 2, rfl, HB.out⟩
end Go.Proofs.YtkbblbgiheclfaaDoor.Dr
