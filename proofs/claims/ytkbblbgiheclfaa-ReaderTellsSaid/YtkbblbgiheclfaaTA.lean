/- The document, of readers: May, Same, in, data. -/
import Derived.Test.YtkbblbgiheclfaaRH
import Derived.Test.YtkbblbgiheclfaaP2
namespace Go.Proofs.Ytkbblbgiheclfaa
open Go.RowKit Go.Proofs.YtkbblbgiheclfaaW.PrintWords

theorem list_nil {l : List Int} : l = [] ↔ l.length = 0 := ⟨fun h => by rw [h]; rfl, List.eq_nil_of_length_eq_zero⟩
theorem mayI_iff (k a b : Int) (l : List Int) : mayI ⟨k, a, b, l⟩ = true ↔ (k = 1 ∧ 0 ≤ a ∧ a ≤ 255 ∧ b = 0 ∧ l.length = 0) ∨ (k = 2 ∧ 236 ≤ a ∧ a ≤ 249 ∧ a ≠ 240 ∧ b = 0 ∧ l.length = 0) ∨ (k = 3 ∧ 251 ≤ a ∧ a ≤ 254 ∧ 0 ≤ b ∧ b ≤ 255 ∧ l.length = 0) ∨ (k = 4 ∧ 0 ≤ a ∧ a ≤ 255 ∧ b = 0 ∧ l.length ≤ 512) := by
  unfold mayI smI kindI partsI oct
  by_cases h1 : k = 1
  · subst h1
    simp [-List.length_eq_zero_iff, list_nil]; omega
  by_cases h2 : k = 2
  · subst h2
    simp [-List.length_eq_zero_iff, list_nil]; omega
  by_cases h3 : k = 3
  · subst h3
    simp [-List.length_eq_zero_iff, list_nil]; omega
  by_cases h4 : k = 4
  · subst h4
    simp [-List.length_eq_zero_iff]; omega
  simp [h1, h2, h3, h4]
set_option maxHeartbeats 4000000 in
set_option maxRecDepth 100000 in
theorem imay_any (x : It) (A : Option Addr) (c : Nat) (w : World) : Calls Try.prog 45 #[.agg #[.int .i64 x.k, .int .i64 x.a, .int .i64 x.b, .slice A x.l.length c]] w (BoolP w (mayI x)) := by
  obtain ⟨k, a, b, l⟩ := x
  have HB := Lib.hid (mayI_iff k a b l)
  generalize mayI ⟨k, a, b, l⟩ = bb at *
  dsimp only at *
  have HB0 := Lib.hid ((Below.refl _ w).alloc (Nat.le_refl _) (.cells #[.int .i64 k, .int .i64 a, .int .i64 b, .slice A l.length c] 35))
  go_enter Try.func45, Try.ntmps45
  by_cases h0 : k = 1
  · skip
    subst h0
    by_cases h1 : 0 ≤ a
    · skip
      by_cases h2 : a ≤ 255
      · skip
        by_cases h3 : b = 0
        · skip
          subst h3
          by_cases h4 : l.length = 0
          · skip
            have bh4 : ((l.length : Int) == 0) = true := beq_iff_eq.2 (by omega)
            have HRES : Hid (bb = true) := Lib.hid (by exact HB.out.2 (by omega))
            clear HB
            go_wp2_with fail
            go_ret
            exact ⟨by rw [HRES.out]; rfl, (Below.refl _ w).alloc (Nat.le_refl _) _⟩
          · skip
            have bh4 : ((l.length : Int) == 0) = false := beq_eq_false_iff_ne.2 (by omega)
            have HRES : Hid (bb = false) := Lib.hid (by refine Bool.eq_false_iff.2 (fun hbb => ?_); have := HB.out.1 hbb; omega)
            clear HB
            go_wp2_with fail
            go_ret
            exact ⟨by rw [HRES.out]; rfl, (Below.refl _ w).alloc (Nat.le_refl _) _⟩
        · skip
          have bh3 : (b == 0) = false := beq_eq_false_iff_ne.2 h3
          have ch3 : (b != 0) = true := by rw [bne, bh3]; rfl
          have HRES : Hid (bb = false) := Lib.hid (by refine Bool.eq_false_iff.2 (fun hbb => ?_); have := HB.out.1 hbb; omega)
          clear HB
          go_wp2_with fail
          go_ret
          exact ⟨by rw [HRES.out]; rfl, (Below.refl _ w).alloc (Nat.le_refl _) _⟩
      · skip
        have HRES : Hid (bb = false) := Lib.hid (by refine Bool.eq_false_iff.2 (fun hbb => ?_); have := HB.out.1 hbb; omega)
        clear HB
        go_wp2_with fail
        go_ret
        exact ⟨by rw [HRES.out]; rfl, (Below.refl _ w).alloc (Nat.le_refl _) _⟩
    · skip
      have HRES : Hid (bb = false) := Lib.hid (by refine Bool.eq_false_iff.2 (fun hbb => ?_); have := HB.out.1 hbb; omega)
      clear HB
      go_wp2_with fail
      go_ret
      exact ⟨by rw [HRES.out]; rfl, (Below.refl _ w).alloc (Nat.le_refl _) _⟩
  · skip
    have bh0 : (k == 1) = false := beq_eq_false_iff_ne.2 h0
    have ch0 : (k != 1) = true := by rw [bne, bh0]; rfl
    by_cases h1 : k = 2
    · skip
      subst h1
      by_cases h2 : 236 ≤ a
      · skip
        by_cases h3 : a ≤ 249
        · skip
          by_cases h4 : a = 240
          · skip
            have bh4 : (a == 240) = true := beq_iff_eq.2 h4
            have ch4 : (a != 240) = false := by rw [bne, bh4]; rfl
            have HRES : Hid (bb = false) := Lib.hid (by refine Bool.eq_false_iff.2 (fun hbb => ?_); have := HB.out.1 hbb; omega)
            clear HB
            go_wp2_with fail
            go_ret
            exact ⟨by rw [HRES.out]; rfl, (Below.refl _ w).alloc (Nat.le_refl _) _⟩
          · skip
            have bh4 : (a == 240) = false := beq_eq_false_iff_ne.2 h4
            have ch4 : (a != 240) = true := by rw [bne, bh4]; rfl
            by_cases h5 : b = 0
            · skip
              subst h5
              by_cases h6 : l.length = 0
              · skip
                have bh6 : ((l.length : Int) == 0) = true := beq_iff_eq.2 (by omega)
                have HRES : Hid (bb = true) := Lib.hid (by exact HB.out.2 (by omega))
                clear HB
                go_wp2_with fail
                go_ret
                exact ⟨by rw [HRES.out]; rfl, (Below.refl _ w).alloc (Nat.le_refl _) _⟩
              · skip
                have bh6 : ((l.length : Int) == 0) = false := beq_eq_false_iff_ne.2 (by omega)
                have HRES : Hid (bb = false) := Lib.hid (by refine Bool.eq_false_iff.2 (fun hbb => ?_); have := HB.out.1 hbb; omega)
                clear HB
                go_wp2_with fail
                go_ret
                exact ⟨by rw [HRES.out]; rfl, (Below.refl _ w).alloc (Nat.le_refl _) _⟩
            · skip
              have bh5 : (b == 0) = false := beq_eq_false_iff_ne.2 h5
              have ch5 : (b != 0) = true := by rw [bne, bh5]; rfl
              have HRES : Hid (bb = false) := Lib.hid (by refine Bool.eq_false_iff.2 (fun hbb => ?_); have := HB.out.1 hbb; omega)
              clear HB
              go_wp2_with fail
              go_ret
              exact ⟨by rw [HRES.out]; rfl, (Below.refl _ w).alloc (Nat.le_refl _) _⟩
        · skip
          have HRES : Hid (bb = false) := Lib.hid (by refine Bool.eq_false_iff.2 (fun hbb => ?_); have := HB.out.1 hbb; omega)
          clear HB
          go_wp2_with fail
          go_ret
          exact ⟨by rw [HRES.out]; rfl, (Below.refl _ w).alloc (Nat.le_refl _) _⟩
      · skip
        have HRES : Hid (bb = false) := Lib.hid (by refine Bool.eq_false_iff.2 (fun hbb => ?_); have := HB.out.1 hbb; omega)
        clear HB
        go_wp2_with fail
        go_ret
        exact ⟨by rw [HRES.out]; rfl, (Below.refl _ w).alloc (Nat.le_refl _) _⟩
    · skip
      have bh1 : (k == 2) = false := beq_eq_false_iff_ne.2 h1
      have ch1 : (k != 2) = true := by rw [bne, bh1]; rfl
      by_cases h2 : k = 3
      · skip
        subst h2
        by_cases h3 : 251 ≤ a
        · skip
          by_cases h4 : a ≤ 254
          · skip
            by_cases h5 : 0 ≤ b
            · skip
              by_cases h6 : b ≤ 255
              · skip
                by_cases h7 : l.length = 0
                · skip
                  have bh7 : ((l.length : Int) == 0) = true := beq_iff_eq.2 (by omega)
                  have HRES : Hid (bb = true) := Lib.hid (by exact HB.out.2 (by omega))
                  clear HB
                  go_wp2_with fail
                  go_ret
                  exact ⟨by rw [HRES.out]; rfl, (Below.refl _ w).alloc (Nat.le_refl _) _⟩
                · skip
                  have bh7 : ((l.length : Int) == 0) = false := beq_eq_false_iff_ne.2 (by omega)
                  have HRES : Hid (bb = false) := Lib.hid (by refine Bool.eq_false_iff.2 (fun hbb => ?_); have := HB.out.1 hbb; omega)
                  clear HB
                  go_wp2_with fail
                  go_ret
                  exact ⟨by rw [HRES.out]; rfl, (Below.refl _ w).alloc (Nat.le_refl _) _⟩
              · skip
                have HRES : Hid (bb = false) := Lib.hid (by refine Bool.eq_false_iff.2 (fun hbb => ?_); have := HB.out.1 hbb; omega)
                clear HB
                go_wp2_with fail
                go_ret
                exact ⟨by rw [HRES.out]; rfl, (Below.refl _ w).alloc (Nat.le_refl _) _⟩
            · skip
              have HRES : Hid (bb = false) := Lib.hid (by refine Bool.eq_false_iff.2 (fun hbb => ?_); have := HB.out.1 hbb; omega)
              clear HB
              go_wp2_with fail
              go_ret
              exact ⟨by rw [HRES.out]; rfl, (Below.refl _ w).alloc (Nat.le_refl _) _⟩
          · skip
            have HRES : Hid (bb = false) := Lib.hid (by refine Bool.eq_false_iff.2 (fun hbb => ?_); have := HB.out.1 hbb; omega)
            clear HB
            go_wp2_with fail
            go_ret
            exact ⟨by rw [HRES.out]; rfl, (Below.refl _ w).alloc (Nat.le_refl _) _⟩
        · skip
          have HRES : Hid (bb = false) := Lib.hid (by refine Bool.eq_false_iff.2 (fun hbb => ?_); have := HB.out.1 hbb; omega)
          clear HB
          go_wp2_with fail
          go_ret
          exact ⟨by rw [HRES.out]; rfl, (Below.refl _ w).alloc (Nat.le_refl _) _⟩
      · skip
        have bh2 : (k == 3) = false := beq_eq_false_iff_ne.2 h2
        have ch2 : (k != 3) = true := by rw [bne, bh2]; rfl
        by_cases h3 : k = 4
        · skip
          subst h3
          by_cases h4 : 0 ≤ a
          · skip
            by_cases h5 : a ≤ 255
            · skip
              by_cases h6 : b = 0
              · skip
                subst h6
                by_cases h7 : l.length ≤ 512
                · skip
                  have bh7 : decide ((l.length : Int) ≤ 512) = true := decide_eq_true (by omega)
                  have dh7 : decide ((512 : Int) < (l.length : Int)) = false := decide_eq_false (by omega)
                  have HRES : Hid (bb = true) := Lib.hid (by exact HB.out.2 (by omega))
                  clear HB
                  go_wp2_with fail
                  go_ret
                  exact ⟨by rw [HRES.out]; rfl, (Below.refl _ w).alloc (Nat.le_refl _) _⟩
                · skip
                  have bh7 : decide ((l.length : Int) ≤ 512) = false := decide_eq_false (by omega)
                  have dh7 : decide ((512 : Int) < (l.length : Int)) = true := decide_eq_true (by omega)
                  have HRES : Hid (bb = false) := Lib.hid (by refine Bool.eq_false_iff.2 (fun hbb => ?_); have := HB.out.1 hbb; omega)
                  clear HB
                  go_wp2_with fail
                  go_ret
                  exact ⟨by rw [HRES.out]; rfl, (Below.refl _ w).alloc (Nat.le_refl _) _⟩
              · skip
                have bh6 : (b == 0) = false := beq_eq_false_iff_ne.2 h6
                have ch6 : (b != 0) = true := by rw [bne, bh6]; rfl
                have HRES : Hid (bb = false) := Lib.hid (by refine Bool.eq_false_iff.2 (fun hbb => ?_); have := HB.out.1 hbb; omega)
                clear HB
                go_wp2_with fail
                go_ret
                exact ⟨by rw [HRES.out]; rfl, (Below.refl _ w).alloc (Nat.le_refl _) _⟩
            · skip
              have HRES : Hid (bb = false) := Lib.hid (by refine Bool.eq_false_iff.2 (fun hbb => ?_); have := HB.out.1 hbb; omega)
              clear HB
              go_wp2_with fail
              go_ret
              exact ⟨by rw [HRES.out]; rfl, (Below.refl _ w).alloc (Nat.le_refl _) _⟩
          · skip
            have HRES : Hid (bb = false) := Lib.hid (by refine Bool.eq_false_iff.2 (fun hbb => ?_); have := HB.out.1 hbb; omega)
            clear HB
            go_wp2_with fail
            go_ret
            exact ⟨by rw [HRES.out]; rfl, (Below.refl _ w).alloc (Nat.le_refl _) _⟩
        · skip
          have bh3 : (k == 4) = false := beq_eq_false_iff_ne.2 h3
          have ch3 : (k != 4) = true := by rw [bne, bh3]; rfl
          have HRES : Hid (bb = false) := Lib.hid (by refine Bool.eq_false_iff.2 (fun hbb => ?_); have := HB.out.1 hbb; omega)
          clear HB
          go_wp2_with fail
          go_ret
          exact ⟨by rw [HRES.out]; rfl, (Below.refl _ w).alloc (Nat.le_refl _) _⟩

set_option maxHeartbeats 4000000 in
set_option maxRecDepth 100000 in
theorem rmay_any (r : Rd) (A : Option Addr) (c : Nat) (w : World) : Calls Try.prog 12 #[.agg #[.int .i64 r.i, .int .i64 r.v, .int .i64 r.o, .slice A r.l.length c]] w (BoolP w (mayR r)) := by
  obtain ⟨i, v, o, l⟩ := r
  have HB := Lib.hid (mayR_iff ⟨i, v, o, l⟩)
  generalize mayR ⟨i, v, o, l⟩ = bb at *
  dsimp only at *
  have HB0 := Lib.hid ((Below.refl _ w).alloc (Nat.le_refl _) (.cells #[.int .i64 i, .int .i64 v, .int .i64 o, .slice A l.length c] 24))
  go_enter Try.func12, Try.ntmps12
  by_cases h0 : 0 ≤ i
  · skip
    by_cases h1 : i ≤ 8
    · skip
      by_cases h2 : l.length ≤ 512
      · skip
        have bh2 : decide ((l.length : Int) ≤ 512) = true := decide_eq_true (by omega)
        have dh2 : decide ((512 : Int) < (l.length : Int)) = false := decide_eq_false (by omega)
        by_cases h3 : i = 3
        · skip
          subst h3
          by_cases h4 : 251 ≤ v
          · skip
            by_cases h5 : v ≤ 254
            · skip
              by_cases h6 : o = 0
              · skip
                subst h6
                by_cases h7 : l.length = 0
                · skip
                  have bh7 : ((l.length : Int) == 0) = true := beq_iff_eq.2 (by omega)
                  have HRES : Hid (bb = true) := Lib.hid (by exact HB.out.2 (by omega))
                  clear HB
                  go_wp2_with fail
                  go_ret
                  exact ⟨by rw [HRES.out]; rfl, (Below.refl _ w).alloc (Nat.le_refl _) _⟩
                · skip
                  have bh7 : ((l.length : Int) == 0) = false := beq_eq_false_iff_ne.2 (by omega)
                  have HRES : Hid (bb = false) := Lib.hid (by refine Bool.eq_false_iff.2 (fun hbb => ?_); have := HB.out.1 hbb; omega)
                  clear HB
                  go_wp2_with fail
                  go_ret
                  exact ⟨by rw [HRES.out]; rfl, (Below.refl _ w).alloc (Nat.le_refl _) _⟩
              · skip
                have bh6 : (o == 0) = false := beq_eq_false_iff_ne.2 h6
                have ch6 : (o != 0) = true := by rw [bne, bh6]; rfl
                have HRES : Hid (bb = false) := Lib.hid (by refine Bool.eq_false_iff.2 (fun hbb => ?_); have := HB.out.1 hbb; omega)
                clear HB
                go_wp2_with fail
                go_ret
                exact ⟨by rw [HRES.out]; rfl, (Below.refl _ w).alloc (Nat.le_refl _) _⟩
            · skip
              have HRES : Hid (bb = false) := Lib.hid (by refine Bool.eq_false_iff.2 (fun hbb => ?_); have := HB.out.1 hbb; omega)
              clear HB
              go_wp2_with fail
              go_ret
              exact ⟨by rw [HRES.out]; rfl, (Below.refl _ w).alloc (Nat.le_refl _) _⟩
          · skip
            have HRES : Hid (bb = false) := Lib.hid (by refine Bool.eq_false_iff.2 (fun hbb => ?_); have := HB.out.1 hbb; omega)
            clear HB
            go_wp2_with fail
            go_ret
            exact ⟨by rw [HRES.out]; rfl, (Below.refl _ w).alloc (Nat.le_refl _) _⟩
        · skip
          have bh3 : (i == 3) = false := beq_eq_false_iff_ne.2 h3
          have ch3 : (i != 3) = true := by rw [bne, bh3]; rfl
          by_cases h4 : v = 0
          · skip
            subst h4
            by_cases h5 : i = 5
            · skip
              subst h5
              by_cases h6 : 0 ≤ o
              · skip
                by_cases h7 : o ≤ 255
                · skip
                  have HRES : Hid (bb = true) := Lib.hid (by exact HB.out.2 (by omega))
                  clear HB
                  go_wp2_with fail
                  go_ret
                  exact ⟨by rw [HRES.out]; rfl, (Below.refl _ w).alloc (Nat.le_refl _) _⟩
                · skip
                  have HRES : Hid (bb = false) := Lib.hid (by refine Bool.eq_false_iff.2 (fun hbb => ?_); have := HB.out.1 hbb; omega)
                  clear HB
                  go_wp2_with fail
                  go_ret
                  exact ⟨by rw [HRES.out]; rfl, (Below.refl _ w).alloc (Nat.le_refl _) _⟩
              · skip
                have HRES : Hid (bb = false) := Lib.hid (by refine Bool.eq_false_iff.2 (fun hbb => ?_); have := HB.out.1 hbb; omega)
                clear HB
                go_wp2_with fail
                go_ret
                exact ⟨by rw [HRES.out]; rfl, (Below.refl _ w).alloc (Nat.le_refl _) _⟩
            · skip
              have bh5 : (i == 5) = false := beq_eq_false_iff_ne.2 h5
              have ch5 : (i != 5) = true := by rw [bne, bh5]; rfl
              by_cases h6 : i = 6
              · skip
                subst h6
                by_cases h7 : 0 ≤ o
                · skip
                  by_cases h8 : o ≤ 255
                  · skip
                    have HRES : Hid (bb = true) := Lib.hid (by exact HB.out.2 (by omega))
                    clear HB
                    go_wp2_with fail
                    go_ret
                    exact ⟨by rw [HRES.out]; rfl, (Below.refl _ w).alloc (Nat.le_refl _) _⟩
                  · skip
                    have HRES : Hid (bb = false) := Lib.hid (by refine Bool.eq_false_iff.2 (fun hbb => ?_); have := HB.out.1 hbb; omega)
                    clear HB
                    go_wp2_with fail
                    go_ret
                    exact ⟨by rw [HRES.out]; rfl, (Below.refl _ w).alloc (Nat.le_refl _) _⟩
                · skip
                  have HRES : Hid (bb = false) := Lib.hid (by refine Bool.eq_false_iff.2 (fun hbb => ?_); have := HB.out.1 hbb; omega)
                  clear HB
                  go_wp2_with fail
                  go_ret
                  exact ⟨by rw [HRES.out]; rfl, (Below.refl _ w).alloc (Nat.le_refl _) _⟩
              · skip
                have bh6 : (i == 6) = false := beq_eq_false_iff_ne.2 h6
                have ch6 : (i != 6) = true := by rw [bne, bh6]; rfl
                by_cases h7 : o = 0
                · skip
                  subst h7
                  by_cases h8 : l.length = 0
                  · skip
                    have bh8 : ((l.length : Int) == 0) = true := beq_iff_eq.2 (by omega)
                    have HRES : Hid (bb = true) := Lib.hid (by exact HB.out.2 (by omega))
                    clear HB
                    go_wp2_with fail
                    go_ret
                    exact ⟨by rw [HRES.out]; rfl, (Below.refl _ w).alloc (Nat.le_refl _) _⟩
                  · skip
                    have bh8 : ((l.length : Int) == 0) = false := beq_eq_false_iff_ne.2 (by omega)
                    have HRES : Hid (bb = false) := Lib.hid (by refine Bool.eq_false_iff.2 (fun hbb => ?_); have := HB.out.1 hbb; omega)
                    clear HB
                    go_wp2_with fail
                    go_ret
                    exact ⟨by rw [HRES.out]; rfl, (Below.refl _ w).alloc (Nat.le_refl _) _⟩
                · skip
                  have bh7 : (o == 0) = false := beq_eq_false_iff_ne.2 h7
                  have ch7 : (o != 0) = true := by rw [bne, bh7]; rfl
                  have HRES : Hid (bb = false) := Lib.hid (by refine Bool.eq_false_iff.2 (fun hbb => ?_); have := HB.out.1 hbb; omega)
                  clear HB
                  go_wp2_with fail
                  go_ret
                  exact ⟨by rw [HRES.out]; rfl, (Below.refl _ w).alloc (Nat.le_refl _) _⟩
          · skip
            have bh4 : (v == 0) = false := beq_eq_false_iff_ne.2 h4
            have ch4 : (v != 0) = true := by rw [bne, bh4]; rfl
            have HRES : Hid (bb = false) := Lib.hid (by refine Bool.eq_false_iff.2 (fun hbb => ?_); have := HB.out.1 hbb; omega)
            clear HB
            go_wp2_with fail
            go_ret
            exact ⟨by rw [HRES.out]; rfl, (Below.refl _ w).alloc (Nat.le_refl _) _⟩
      · skip
        have bh2 : decide ((l.length : Int) ≤ 512) = false := decide_eq_false (by omega)
        have dh2 : decide ((512 : Int) < (l.length : Int)) = true := decide_eq_true (by omega)
        have HRES : Hid (bb = false) := Lib.hid (by refine Bool.eq_false_iff.2 (fun hbb => ?_); have := HB.out.1 hbb; omega)
        clear HB
        go_wp2_with fail
        go_ret
        exact ⟨by rw [HRES.out]; rfl, (Below.refl _ w).alloc (Nat.le_refl _) _⟩
    · skip
      have HRES : Hid (bb = false) := Lib.hid (by refine Bool.eq_false_iff.2 (fun hbb => ?_); have := HB.out.1 hbb; omega)
      clear HB
      go_wp2_with fail
      go_ret
      exact ⟨by rw [HRES.out]; rfl, (Below.refl _ w).alloc (Nat.le_refl _) _⟩
  · skip
    have HRES : Hid (bb = false) := Lib.hid (by refine Bool.eq_false_iff.2 (fun hbb => ?_); have := HB.out.1 hbb; omega)
    clear HB
    go_wp2_with fail
    go_ret
    exact ⟨by rw [HRES.out]; rfl, (Below.refl _ w).alloc (Nat.le_refl _) _⟩

theorem dsame_no (k a b k' a' b' : Int) (v v' : Value) (w : World) (h : ¬ (k = k' ∧ a = a' ∧ b = b')) : Calls Try.prog 14 #[.agg #[.int .i64 k, .int .i64 a, .int .i64 b, v], .agg #[.int .i64 k', .int .i64 a', .int .i64 b', v']] w (BoolP w false) := by
  by_cases h1 : k = k'
  · by_cases h2 : a = a'
    · have h3 : ¬ b = b' := fun h3 => h ⟨h1, h2, h3⟩
      subst h1
      subst h2
      have h4 : (b == b') = false := beq_eq_false_iff_ne.2 h3
      clear h h3
      go_enter Try.func14, Try.ntmps14
      go_wp2
      go_ret
      exact ⟨rfl, ((Below.refl _ w).alloc (Nat.le_refl _) _).alloc (by simp) _⟩
    · subst h1
      have h4 : (a == a') = false := beq_eq_false_iff_ne.2 h2
      clear h h2
      go_enter Try.func14, Try.ntmps14
      go_wp2
      go_ret
      exact ⟨rfl, ((Below.refl _ w).alloc (Nat.le_refl _) _).alloc (by simp) _⟩
  · have h4 : (k == k') = false := beq_eq_false_iff_ne.2 h1
    clear h h1
    go_enter Try.func14, Try.ntmps14
    go_wp2
    go_ret
    exact ⟨rfl, ((Below.refl _ w).alloc (Nat.le_refl _) _).alloc (by simp) _⟩
theorem dsame_yes (k a b : Int) (A B : Option Addr) (m n c d : Nat) (xs ys : List Int) (w : World) (h1 : kB.C w A m xs) (h2 : kB.C w B n ys) (hx : Oct xs) (hy : Oct ys) :
    Calls Try.prog 14 #[.agg #[.int .i64 k, .int .i64 a, .int .i64 b, .slice A m c], .agg #[.int .i64 k, .int .i64 a, .int .i64 b, .slice B n d]] w (BoolP w (decide (xs = ys))) := by
  have e1 := bytes_str (c := c) (Kd.C_alloc (Kd.C_alloc h1 (.cells #[.int .i64 k, .int .i64 a, .int .i64 b, .slice A m c] 24)) (.cells #[.int .i64 k, .int .i64 a, .int .i64 b, .slice B n d] 24))
  have e2 := bytes_str (c := d) (Kd.C_alloc (Kd.C_alloc h2 (.cells #[.int .i64 k, .int .i64 a, .int .i64 b, .slice A m c] 24)) (.cells #[.int .i64 k, .int .i64 a, .int .i64 b, .slice B n d] 24))
  rw [← str_eq hx hy]
  clear h1 h2 hx hy
  generalize strOfNums xs = s at *
  generalize strOfNums ys = t at *
  go_enter Try.func14, Try.ntmps14
  go_wp2
  go_ret
  exact ⟨rfl, ((Below.refl _ w).alloc (Nat.le_refl _) _).alloc (by simp) _⟩
theorem dsame_any (x y : Rd) (A B : Option Addr) (c d : Nat) (w : World) (h1 : kB.C w A x.l.length x.l) (h2 : kB.C w B y.l.length y.l) (hx : Oct x.l) (hy : Oct y.l) :
    Calls Try.prog 14 #[.agg #[.int .i64 x.i, .int .i64 x.v, .int .i64 x.o, .slice A x.l.length c], .agg #[.int .i64 y.i, .int .i64 y.v, .int .i64 y.o, .slice B y.l.length d]] w (BoolP w (decide (x = y))) := by
  obtain ⟨k, a, b, l⟩ := x
  obtain ⟨k', a', b', l'⟩ := y
  by_cases h : k = k' ∧ a = a' ∧ b = b'
  · obtain ⟨rfl, rfl, rfl⟩ := h
    have e : decide ((⟨k, a, b, l⟩ : Rd) = ⟨k, a, b, l'⟩) = decide (l = l') := by simp
    rw [e]
    exact dsame_yes k a b A B _ _ c d l l' w h1 h2 hx hy
  · have e : decide ((⟨k, a, b, l⟩ : Rd) = ⟨k', a', b', l'⟩) = false := decide_eq_false (fun he => h (by injection he with h1 h2 h3 h4; exact ⟨h1, h2, h3⟩))
    rw [e]
    exact dsame_no k a b k' a' b' _ _ w h


theorem in_any (n : Int) (w : World) : Calls Try.prog 37 #[.int .i64 n] w (ValP w (.agg #[.int .i64 n, .int .i64 0, .int .i64 0, .slice none 0 0])) := by
  go_enter Try.func37, Try.ntmps37
  go_wp2
  refine bodyPost_ret (v := .agg #[.int .i64 n, .int .i64 0, .int .i64 0, .slice none 0 0]) (by simp [results, Try.results37, go_sem]) rfl ⟨rfl, ?_⟩
  repeat (first | exact Below.refl _ _ | (refine Below.setCell ?_ (by first | omega | (simp; done) | (simp; omega)) _) | (refine Below.alloc ?_ (by first | omega | (simp; done) | (simp; omega)) _))
theorem ddata_any (c : Int) (w : World) (h : 0 ≤ c ∧ c ≤ 255) : Calls Try.prog 44 #[.int .u8 c] w (fun e w' => e = .returned (.slice (some ⟨w.heap.size, 0, none⟩) 1 1) ∧ w.alloc (.cells #[.int .i64 1, .int .i64 c, .int .i64 0, .slice none 0 0] 35) = w') := by
  obtain ⟨h0, h1⟩ := h
  go_enter Try.func44, Try.ntmps44
  go_wp2
  go_ret
  exact ⟨rfl, rfl⟩
end Go.Proofs.Ytkbblbgiheclfaa
