/- bytes.Clone; reader.Check, reader.Same. -/
import Derived.Test.YtkbblbgiheclfaaDoorID
import Derived.Lib.LazyBuf
namespace Go.Proofs.YtkbblbgiheclfaaDoor
open Go.RowKit Go.Proofs.YtkbblbgiheclfaaDoorW.PrintWords

def RowP (w : World) (bs : List Int) (e : Ending) (w' : World) : Prop := ∃ v, e = .returned v ∧ kB.R 5 w' w.heap.size (fun k => w.heap.size ≤ k) v bs ∧ Below w.heap.size w w'
theorem eql_nil (a : Option Addr) (l c : Nat) (w : World) : (binOp .eql 22 (.slice a l c) (.slice none 0 0)).run Tryd.prog w = .ok (.bool a.isNone) w := by
  exact Lib.run_eql_slice_nil w _ _ a l c 0 0 Tryd.underlying22
theorem clone_any (A : Option Addr) (c : Nat) (bs : List Int) (w : World) (hC : kB.C w A bs.length bs) (hl : bs.length ≤ 100000) : Calls Tryd.prog 40 #[.slice A bs.length c] w (RowP w bs) := by
  rcases A with _ | ad
  · have hnil : bs = [] := by
      rcases Nat.eq_zero_or_pos bs.length with h0 | h0
      · exact List.eq_nil_of_length_eq_zero h0
      · obtain ⟨ad, h, _⟩ := u8_at hC 0 h0
        cases h
    subst hnil
    clear hC
    have hnil := eql_nil none 0 c
    go_enter Tryd.func40, Tryd.ntmps40
    go_wp2_with fail
    go_ret
    exact ⟨_, rfl, Kd.R_nil _ _ _ _ _, Below.refl _ _⟩
  · have hlit : kB.R 5 (w.alloc (.cells #[] 5)) w.heap.size (fun k => w.heap.size ≤ k) (.slice (some ⟨w.heap.size, 0, none⟩) 0 0) [] :=
      Kd.R_of_own (h1 := fun _ => rfl) (ok := fun k => w.heap.size ≤ k) (own_lit_of (enc := Value.int .u8) w w.heap.size 5 [] (Nat.le_refl _) (by simp)) (fun k hk => by
        have : w.heap.size = k := by simpa [Value.ownBlock] using hk
        show w.heap.size ≤ k
        omega)
    have HLIT := Lib.hid hlit
    have HBA := Lib.hid ((Below.refl _ w).alloc (Nat.le_refl _) (.cells #[] 5))
    have HCA := Lib.hid (Kd.C_below hC HBA.out)
    clear hlit hC
    have hnil := eql_nil (some ad) bs.length c
    go_enter Tryd.func40, Tryd.ntmps40
    go_wp2_with (at_builtin; refine Kd.R_append_rows kB (Rr := fun x cs => cs = [.int .u8 x]) (w0 := w) w.heap.size rfl (.tmp 5) (.tmp 6) 22 5 (.int .u8 0) 1 rfl Tryd.underlying22 info_u8 rfl (by decide) (by omega) _ [] bs (some ad) bs.length c (fun k => w.heap.size ≤ k) (fun _ => False) rfl rfl HLIT.out HCA.out (fun _ _ h => h) (fun _ h => h.elim) (fun k hk => Nat.le_trans HBA.out.size hk) HBA.out HBA.out.size (by simp only [List.length_nil]; omega) ?_; intro v1 w2 hr2 hb2 hg2 ho2; have HR2 := Lib.hid (show kB.R 5 w2 w.heap.size (fun k => w.heap.size ≤ k) v1 bs from hr2); have HB2 := Lib.hid hb2; clear hr2 hb2 hg2 ho2)
    go_ret
    exact ⟨_, rfl, HR2.out, HB2.out⟩

def okR (r : Rd) : Bool := decide (0 ≤ r.i ∧ r.i < 9 ∧ r.l.length ≤ 512 ∧ ((r.i = 5 ∨ r.i = 6) ∨ r.l.length = 0 ∧ r.o = 0) ∧ 0 ≤ r.o ∧ r.o ≤ 255)
def verbR (r : Rd) : Bool := if r.i = 3 then decide (251 ≤ r.v ∧ r.v ≤ 254) else decide (r.v = 0)
def mayR (r : Rd) : Bool := okR r && verbR r
def errR (r : Rd) : Int := if mayR r then 0 else 1
theorem errR_no (r : Rd) (h : okR r = false ∨ verbR r = false) : errR r = 1 := by
  unfold errR mayR
  rcases h with h | h <;> rw [h] <;> simp
theorem errR_yes (r : Rd) (h : okR r = true) (h2 : verbR r = true) : errR r = 0 := by
  unfold errR mayR
  rw [h, h2]
  rfl
set_option maxHeartbeats 4000000 in
set_option maxRecDepth 100000 in
theorem rcheck_any (r : Rd) (A : Option Addr) (c : Nat) (w : World) : Calls Tryd.prog 39 #[.agg #[.int .i64 r.i, .int .i64 r.v, .int .i64 r.o, .slice A r.l.length c]] w (ErrP w (errR r)) := by
  have HNO := Lib.hid (errR_no r)
  have HYES := Lib.hid (errR_yes r)
  have HK := Lib.hid (show okR r = decide (0 ≤ r.i ∧ r.i < 9 ∧ r.l.length ≤ 512 ∧ ((r.i = 5 ∨ r.i = 6) ∨ r.l.length = 0 ∧ r.o = 0) ∧ 0 ≤ r.o ∧ r.o ≤ 255) from rfl)
  have HV := Lib.hid (show verbR r = if r.i = 3 then decide (251 ≤ r.v ∧ r.v ≤ 254) else decide (r.v = 0) from rfl)
  generalize okR r = ok at *
  generalize verbR r = vb at *
  generalize errR r = er at *
  obtain ⟨i, v, o, l⟩ := r
  dsimp only at *
  go_enter Tryd.func39, Tryd.ntmps39
  have HB0 := Lib.hid ((Below.refl _ w).alloc (Nat.le_refl _) (.cells #[.int .i64 i, .int .i64 v, .int .i64 o, .slice A l.length c] 48))
  by_cases h5 : i = 5
  · subst h5
    by_cases hl : l.length ≤ 512
    · have hlb : decide ((l.length : Int) ≤ 512) = true := decide_eq_true (by omega)
      by_cases ho : 0 ≤ o
      · by_cases ho2 : o ≤ 255
        · skip
          have HOK := Lib.hid (show ok = true by rw [HK.out]; exact decide_eq_true (by omega))
          by_cases hv : v = 0
          · have HRES := Lib.hid (HYES.out HOK.out (by rw [HV.out, if_neg (by decide)]; exact decide_eq_true hv))
            subst hv
            clear HNO HYES HV HK  hl
            go_wp2_with fail
            go_ret
            exact ⟨by rw [HRES.out]; rfl, HB0.out⟩
          · have HRES := Lib.hid (HNO.out (.inr (by rw [HV.out, if_neg (by decide)]; exact decide_eq_false hv)))
            have hvb : (v == 0) = false := beq_eq_false_iff_ne.2 hv
            clear HNO HYES HV HK  hl hv
            go_wp2_with fail
            go_ret
            exact ⟨by rw [HRES.out]; rfl, HB0.out⟩
        · skip
          have HRES := Lib.hid (HNO.out (.inl (by rw [HK.out]; exact decide_eq_false (by omega))))
          clear HNO HYES HV HK  hl
          go_wp2_with fail
          go_ret
          exact ⟨by rw [HRES.out]; rfl, HB0.out⟩
      · skip
        have HRES := Lib.hid (HNO.out (.inl (by rw [HK.out]; exact decide_eq_false (by omega))))
        clear HNO HYES HV HK  hl
        go_wp2_with fail
        go_ret
        exact ⟨by rw [HRES.out]; rfl, HB0.out⟩
    · have hlb : decide ((l.length : Int) ≤ 512) = false := decide_eq_false (by omega)
      have HRES := Lib.hid (HNO.out (.inl (by rw [HK.out]; exact decide_eq_false (by omega))))
      clear HNO HYES HV HK  hl
      go_wp2_with fail
      go_ret
      exact ⟨by rw [HRES.out]; rfl, HB0.out⟩
  · have h5b : (i == 5) = false := beq_eq_false_iff_ne.2 h5
    by_cases h6 : i = 6
    · subst h6
      by_cases hl : l.length ≤ 512
      · have hlb : decide ((l.length : Int) ≤ 512) = true := decide_eq_true (by omega)
        by_cases ho : 0 ≤ o
        · by_cases ho2 : o ≤ 255
          · skip
            have HOK := Lib.hid (show ok = true by rw [HK.out]; exact decide_eq_true (by omega))
            by_cases hv : v = 0
            · have HRES := Lib.hid (HYES.out HOK.out (by rw [HV.out, if_neg (by decide)]; exact decide_eq_true hv))
              subst hv
              clear HNO HYES HV HK h5 hl
              go_wp2_with fail
              go_ret
              exact ⟨by rw [HRES.out]; rfl, HB0.out⟩
            · have HRES := Lib.hid (HNO.out (.inr (by rw [HV.out, if_neg (by decide)]; exact decide_eq_false hv)))
              have hvb : (v == 0) = false := beq_eq_false_iff_ne.2 hv
              clear HNO HYES HV HK h5 hl hv
              go_wp2_with fail
              go_ret
              exact ⟨by rw [HRES.out]; rfl, HB0.out⟩
          · skip
            have HRES := Lib.hid (HNO.out (.inl (by rw [HK.out]; exact decide_eq_false (by omega))))
            clear HNO HYES HV HK h5 hl
            go_wp2_with fail
            go_ret
            exact ⟨by rw [HRES.out]; rfl, HB0.out⟩
        · skip
          have HRES := Lib.hid (HNO.out (.inl (by rw [HK.out]; exact decide_eq_false (by omega))))
          clear HNO HYES HV HK h5 hl
          go_wp2_with fail
          go_ret
          exact ⟨by rw [HRES.out]; rfl, HB0.out⟩
      · have hlb : decide ((l.length : Int) ≤ 512) = false := decide_eq_false (by omega)
        have HRES := Lib.hid (HNO.out (.inl (by rw [HK.out]; exact decide_eq_false (by omega))))
        clear HNO HYES HV HK h5 hl
        go_wp2_with fail
        go_ret
        exact ⟨by rw [HRES.out]; rfl, HB0.out⟩
    · have h6b : (i == 6) = false := beq_eq_false_iff_ne.2 h6
      by_cases h0 : 0 ≤ i
      · by_cases h9 : i < 9
        · skip
          by_cases hl : l.length ≤ 512
          · have hlb : decide ((l.length : Int) ≤ 512) = true := decide_eq_true (by omega)
            by_cases hz : l.length = 0
            · have hzb : ((l.length : Int) == 0) = true := beq_iff_eq.2 (by omega)
              by_cases hoz : o = 0
              · subst hoz
                have HOK := Lib.hid (show ok = true by rw [HK.out]; exact decide_eq_true (by omega))
                by_cases h3 : i = 3
                · subst h3
                  by_cases h1 : 251 ≤ v
                  · by_cases h2 : v ≤ 254
                    · have HRES := Lib.hid (HYES.out HOK.out (by rw [HV.out, if_pos rfl]; exact decide_eq_true ⟨h1, h2⟩))
                      clear HNO HYES HV HK h5 h6 hl hz
                      go_wp2_with fail
                      go_ret
                      exact ⟨by rw [HRES.out]; rfl, HB0.out⟩
                    · have HRES := Lib.hid (HNO.out (.inr (by rw [HV.out, if_pos rfl]; exact decide_eq_false (by omega))))
                      clear HNO HYES HV HK h5 h6 hl hz
                      go_wp2_with fail
                      go_ret
                      exact ⟨by rw [HRES.out]; rfl, HB0.out⟩
                  · have HRES := Lib.hid (HNO.out (.inr (by rw [HV.out, if_pos rfl]; exact decide_eq_false (by omega))))
                    clear HNO HYES HV HK h5 h6 hl hz
                    go_wp2_with fail
                    go_ret
                    exact ⟨by rw [HRES.out]; rfl, HB0.out⟩
                · have h3b : (i == 3) = false := beq_eq_false_iff_ne.2 h3
                  by_cases hv : v = 0
                  · have HRES := Lib.hid (HYES.out HOK.out (by rw [HV.out, if_neg h3]; exact decide_eq_true hv))
                    subst hv
                    clear HNO HYES HV HK h5 h6 hl hz h3
                    go_wp2_with fail
                    go_ret
                    exact ⟨by rw [HRES.out]; rfl, HB0.out⟩
                  · have HRES := Lib.hid (HNO.out (.inr (by rw [HV.out, if_neg h3]; exact decide_eq_false hv)))
                    have hvb : (v == 0) = false := beq_eq_false_iff_ne.2 hv
                    clear HNO HYES HV HK h5 h6 hl hz h3 hv
                    go_wp2_with fail
                    go_ret
                    exact ⟨by rw [HRES.out]; rfl, HB0.out⟩
              · have hob : (o == 0) = false := beq_eq_false_iff_ne.2 hoz
                have HRES := Lib.hid (HNO.out (.inl (by rw [HK.out]; exact decide_eq_false (by omega))))
                by_cases h3 : i = 3
                · subst h3
                  clear HNO HYES HV HK h5 h6 hl hz hoz
                  go_wp2_with fail
                  go_ret
                  exact ⟨by rw [HRES.out]; rfl, HB0.out⟩
                · have h3b : (i == 3) = false := beq_eq_false_iff_ne.2 h3
                  clear HNO HYES HV HK h5 h6 hl hz hoz h3
                  go_wp2_with fail
                  go_ret
                  exact ⟨by rw [HRES.out]; rfl, HB0.out⟩
            · have hzb : ((l.length : Int) == 0) = false := beq_eq_false_iff_ne.2 (by omega)
              have HRES := Lib.hid (HNO.out (.inl (by rw [HK.out]; exact decide_eq_false (by omega))))
              by_cases h3 : i = 3
              · subst h3
                clear HNO HYES HV HK h5 h6 hl hz
                go_wp2_with fail
                go_ret
                exact ⟨by rw [HRES.out]; rfl, HB0.out⟩
              · have h3b : (i == 3) = false := beq_eq_false_iff_ne.2 h3
                clear HNO HYES HV HK h5 h6 hl hz h3
                go_wp2_with fail
                go_ret
                exact ⟨by rw [HRES.out]; rfl, HB0.out⟩
          · have hlb : decide ((l.length : Int) ≤ 512) = false := decide_eq_false (by omega)
            have HRES := Lib.hid (HNO.out (.inl (by rw [HK.out]; exact decide_eq_false (by omega))))
            by_cases h3 : i = 3
            · subst h3
              clear HNO HYES HV HK h5 h6 hl
              go_wp2_with fail
              go_ret
              exact ⟨by rw [HRES.out]; rfl, HB0.out⟩
            · have h3b : (i == 3) = false := beq_eq_false_iff_ne.2 h3
              clear HNO HYES HV HK h5 h6 hl h3
              go_wp2_with fail
              go_ret
              exact ⟨by rw [HRES.out]; rfl, HB0.out⟩
        · skip
          have HRES := Lib.hid (HNO.out (.inl (by rw [HK.out]; exact decide_eq_false (by omega))))
          have h3b : (i == 3) = false := beq_eq_false_iff_ne.2 (by omega)
          clear HNO HYES HV HK h5 h6
          go_wp2_with fail
          go_ret
          exact ⟨by rw [HRES.out]; rfl, HB0.out⟩
      · skip
        have HRES := Lib.hid (HNO.out (.inl (by rw [HK.out]; exact decide_eq_false (by omega))))
        have h3b : (i == 3) = false := beq_eq_false_iff_ne.2 (by omega)
        clear HNO HYES HV HK h5 h6
        go_wp2_with fail
        go_ret
        exact ⟨by rw [HRES.out]; rfl, HB0.out⟩

theorem rsame_no (i v o i' v' o' : Int) (u u' : Value) (w : World) (h : ¬ (i = i' ∧ v = v' ∧ o = o')) : Calls Tryd.prog 29 #[.agg #[.int .i64 i, .int .i64 v, .int .i64 o, u], .agg #[.int .i64 i', .int .i64 v', .int .i64 o', u']] w (BoolP w false) := by
  by_cases h1 : i = i'
  · by_cases h2 : v = v'
    · have h3 : ¬ o = o' := fun h3 => h ⟨h1, h2, h3⟩
      subst h1
      subst h2
      have h4 : (o == o') = false := beq_eq_false_iff_ne.2 h3
      clear h h3
      go_enter Tryd.func29, Tryd.ntmps29
      go_wp2
      go_ret
      exact ⟨rfl, ((Below.refl _ w).alloc (Nat.le_refl _) _).alloc (by simp) _⟩
    · subst h1
      have h4 : (v == v') = false := beq_eq_false_iff_ne.2 h2
      clear h h2
      go_enter Tryd.func29, Tryd.ntmps29
      go_wp2
      go_ret
      exact ⟨rfl, ((Below.refl _ w).alloc (Nat.le_refl _) _).alloc (by simp) _⟩
  · have h4 : (i == i') = false := beq_eq_false_iff_ne.2 h1
    clear h h1
    go_enter Tryd.func29, Tryd.ntmps29
    go_wp2
    go_ret
    exact ⟨rfl, ((Below.refl _ w).alloc (Nat.le_refl _) _).alloc (by simp) _⟩
theorem rsame_yes (i v o : Int) (A B : Option Addr) (m n c d : Nat) (xs ys : List Int) (w : World) (h1 : kB.C w A m xs) (h2 : kB.C w B n ys) (hx : Oct xs) (hy : Oct ys) :
    Calls Tryd.prog 29 #[.agg #[.int .i64 i, .int .i64 v, .int .i64 o, .slice A m c], .agg #[.int .i64 i, .int .i64 v, .int .i64 o, .slice B n d]] w (BoolP w (decide (xs = ys))) := by
  have H := Lib.hid (equal_any A B c d m n xs ys _ (Kd.C_alloc (Kd.C_alloc h1 (.cells #[.int .i64 i, .int .i64 v, .int .i64 o, .slice A m c] 48)) (.cells #[.int .i64 i, .int .i64 v, .int .i64 o, .slice B n d] 48)) (Kd.C_alloc (Kd.C_alloc h2 (.cells #[.int .i64 i, .int .i64 v, .int .i64 o, .slice A m c] 48)) (.cells #[.int .i64 i, .int .i64 v, .int .i64 o, .slice B n d] 48)) hx hy)
  clear h1 h2 hx hy
  generalize decide (xs = ys) = r at *
  go_enter Tryd.func29, Tryd.ntmps29
  go_wp2_with (go_at_call 42; refine (H.out).mono ?_; rintro e w' ⟨rfl, rfl⟩)
  go_ret
  exact ⟨rfl, ((Below.refl _ w).alloc (Nat.le_refl _) _).alloc (by simp) _⟩
theorem rsame_any (x y : Rd) (A B : Option Addr) (c d : Nat) (w : World) (h1 : kB.C w A x.l.length x.l) (h2 : kB.C w B y.l.length y.l) (hx : Oct x.l) (hy : Oct y.l) :
    Calls Tryd.prog 29 #[.agg #[.int .i64 x.i, .int .i64 x.v, .int .i64 x.o, .slice A x.l.length c], .agg #[.int .i64 y.i, .int .i64 y.v, .int .i64 y.o, .slice B y.l.length d]] w (BoolP w (decide (x = y))) := by
  obtain ⟨i, v, o, l⟩ := x
  obtain ⟨i', v', o', l'⟩ := y
  by_cases h : i = i' ∧ v = v' ∧ o = o'
  · obtain ⟨rfl, rfl, rfl⟩ := h
    have e : decide ((⟨i, v, o, l⟩ : Rd) = ⟨i, v, o, l'⟩) = decide (l = l') := by simp
    rw [e]
    exact rsame_yes i v o A B _ _ c d l l' w h1 h2 hx hy
  · have e : decide ((⟨i, v, o, l⟩ : Rd) = ⟨i', v', o', l'⟩) = false := decide_eq_false (fun he => h (by injection he with h1 h2 h3 h4; exact ⟨h1, h2, h3⟩))
    rw [e]
    exact rsame_no i v o i' v' o' _ _ w h
end Go.Proofs.YtkbblbgiheclfaaDoor
