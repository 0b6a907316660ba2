/- The walk of the law QbitMeets. -/
import Derived.Test.YthnaijmbppmbjaaQM1
import Derived.Test.YthnaijmbppmbjaaQK
import Derived.Deep.RegionHeld3
namespace Go.Proofs.Ythnaijmbppmbjaa
open Go.RowKit Go.Proofs.YthnaijmbppmbjaaW.PrintWords

theorem MS.facts {W w : World} {A B : Bool} {Al : Option Addr} {len cap : Nat} {q0 q1 : Int} {v0 v1 : Value} {t0 t1 : List Bool} (h : MS W w A B Al len cap q0 q1 v0 v1 t0 t1) :
    w.cell? ⟨W.heap.size, 2, none⟩ = some (.slice Al len cap) ∧ w.cell? ⟨W.heap.size + 1, 0, none⟩ = some (.bool A) ∧ w.cell? ⟨W.heap.size + 1, 1, none⟩ = some (.bool B) ∧
    w.cell? ⟨W.heap.size + 1 + 1, 0, none⟩ = some (.int .i64 q0) ∧ w.cell? ⟨W.heap.size + 1 + 1, 1, none⟩ = some (.int .i64 q1) ∧ w.cell? ⟨W.heap.size + 1 + 1 + 1, 0, none⟩ = some v0 ∧ w.cell? ⟨W.heap.size + 1 + 1 + 1, 1, none⟩ = some v1 ∧
    w.frozen? ⟨W.heap.size + 1 + 1, 0, none⟩ = false ∧ w.frozen? ⟨W.heap.size + 1 + 1, 1, none⟩ = false ∧ w.frozen? ⟨W.heap.size + 1 + 1 + 1, 0, none⟩ = false ∧ w.frozen? ⟨W.heap.size + 1 + 1 + 1, 1, none⟩ = false :=
  ⟨cell_of_row _ _ 2 _ _ _ h.p, cell_of_row _ _ 0 _ _ _ h.may, cell_of_row _ _ 1 _ _ _ h.may, cell_of_row _ _ 0 _ _ _ h.at_, cell_of_row _ _ 1 _ _ _ h.at_, cell_of_row _ _ 0 _ _ _ h.to_, cell_of_row _ _ 1 _ _ _ h.to_,
    frozen_of_row _ _ 0 _ _ h.at_, frozen_of_row _ _ 1 _ _ h.at_, frozen_of_row _ _ 0 _ _ h.to_, frozen_of_row _ _ 1 _ _ h.to_⟩

theorem cell_later_ {w w1 : World} {a : Addr} {v : Value} (hb : Below w.heap.size w w1) (h : w.cell? a = some v) : w1.cell? a = some v := (hb.cell (block_lt_of_cell h)).trans h

theorem frozen_later_ {w w1 : World} {a : Addr} {v : Bool} (hb : Below w.heap.size w w1) (hlt : a.block < w.heap.size) (h : w.frozen? a = v) : w1.frozen? a = v := (hb.frozen hlt).trans h

theorem ms_start (w : World) (A B : Bool) (Al : Option Addr) (len cap : Nat) :
    MS w ((((w.alloc (.cells #[.bool A, .bool B, .slice Al len cap] 24)).alloc (.cells #[.bool A, .bool B] 25)).alloc (.cells #[.int .i64 0, .int .i64 0] 26)).alloc (.cells #[.slice none 0 0, .slice none 0 0] 28)) A B Al len cap 0 0 (.slice none 0 0) (.slice none 0 0) [] [] := by
  have e1 : (w.alloc (.cells #[.bool A, .bool B, .slice Al len cap] 24)).heap.size = w.heap.size + 1 := by simp
  have e2 : ((w.alloc (.cells #[.bool A, .bool B, .slice Al len cap] 24)).alloc (.cells #[.bool A, .bool B] 25)).heap.size = w.heap.size + 2 := by simp
  have e3 : (((w.alloc (.cells #[.bool A, .bool B, .slice Al len cap] 24)).alloc (.cells #[.bool A, .bool B] 25)).alloc (.cells #[.int .i64 0, .int .i64 0] 26)).heap.size = w.heap.size + 3 := by simp
  refine ⟨?_, ?_, ?_, ?_, Kd.Q_nil _ _ _ _ _, Kd.Q_nil _ _ _ _ _, ?_⟩
  · rw [Below.heap_alloc _ _ _ (by omega), Below.heap_alloc _ _ _ (by omega), Below.heap_alloc _ _ _ (by omega)]
    exact heap_alloc_new _ _
  · rw [Below.heap_alloc _ _ _ (by omega), Below.heap_alloc _ _ _ (by omega), ← e1]
    exact heap_alloc_new _ _
  · rw [Below.heap_alloc _ _ _ (by omega), ← e2]
    exact heap_alloc_new _ _
  · rw [← e3]
    exact heap_alloc_new _ _
  · exact ((((Below.refl _ w).alloc (by omega) _).alloc (by omega) _).alloc (by omega) _).alloc (by omega) _

theorem MS.slice0 {W w : World} {A B : Bool} {Al : Option Addr} {len cap : Nat} {q0 q1 : Int} {v0 v1 : Value} {t0 t1 : List Bool} (h : MS W w A B Al len cap q0 q1 v0 v1 t0 t1) : ∃ A0 c0, v0 = .slice A0 t0.length c0 := by
  obtain ⟨A0, c0, e, _⟩ := Kd.Q_slice h.u0
  exact ⟨A0, c0, e⟩
theorem MS.slice1 {W w : World} {A B : Bool} {Al : Option Addr} {len cap : Nat} {q0 q1 : Int} {v0 v1 : Value} {t0 t1 : List Bool} (h : MS W w A B Al len cap q0 q1 v0 v1 t0 t1) : ∃ A1 c1, v1 = .slice A1 t1.length c1 := by
  obtain ⟨A0, c0, e, _⟩ := Kd.Q_slice h.u1
  exact ⟨A0, c0, e⟩
/-- What the call of 'under' leaves of the law's own variables. -/
theorem MS.after0 {W w w1 : World} {A B : Bool} {Al : Option Addr} {len cap : Nat} {q0 q1 : Int} {v0 v1 : Value} {t0 t1 : List Bool} (h : MS W w A B Al len cap q0 q1 v0 v1 t0 t1) (hg : w.grownBy w1 v0.ownBlock) :
    w1.cell? ⟨W.heap.size + 1 + 1 + 1, 0, none⟩ = some v0 ∧ w1.frozen? ⟨W.heap.size + 1 + 1 + 1, 0, none⟩ = false := by
  have hh := (grown_block h.u0 hg (i := W.heap.size + 3) (by omega) h.size).trans h.to_
  exact ⟨cell_of_row _ _ 0 _ _ _ hh, frozen_of_row _ _ 0 _ _ hh⟩
theorem MS.after1 {W w w1 : World} {A B : Bool} {Al : Option Addr} {len cap : Nat} {q0 q1 : Int} {v0 v1 : Value} {t0 t1 : List Bool} (h : MS W w A B Al len cap q0 q1 v0 v1 t0 t1) (hg : w.grownBy w1 v1.ownBlock) :
    w1.cell? ⟨W.heap.size + 1 + 1 + 1, 1, none⟩ = some v1 ∧ w1.frozen? ⟨W.heap.size + 1 + 1 + 1, 1, none⟩ = false := by
  have hh := (grown_block h.u1 hg (i := W.heap.size + 3) (by omega) h.size).trans h.to_
  exact ⟨cell_of_row _ _ 1 _ _ _ hh, frozen_of_row _ _ 1 _ _ hh⟩
theorem said_le (s : Int) : said s ≤ 1 := by unfold said; split <;> omega
theorem und_len (t : List Bool) (s : Int) : (und t s).length = t.length + said s := by unfold und said; split <;> simp

def MRel (w wr : World) (A B : Bool) (Al : Option Addr) (len cap : Nat) (k asked sd : Nat) : Prop :=
  ∃ (q0 q1 : Int) (v0 v1 : Value) (t0 t1 : List Bool) (ph : Nat), k ≤ len ∧ k ≤ 60 ∧ asked ≤ k ∧ sd + ph ≤ 2 * asked ∧ (⟨A, B, q0, q1, t0, t1, ph⟩ : Pl) ∈ places ∧ MS w wr A B Al len cap q0 q1 v0 v1 t0 t1

/-- Behind what came, or was asked, of side 0 (1): 's' is to be said to side 1 (0). -/
def M21a (w wx : World) (A B : Bool) (Al : Option Addr) (len cap : Nat) (k asked sd : Nat) (s : Int) : Prop :=
  ∃ (q0 q1 : Int) (v0 v1 : Value) (t0 t1 : List Bool) (ph : Nat), asked ≤ k + 1 ∧ sd + said s + ph ≤ 2 * asked ∧ t1.length ≤ 2 ∧ (⟨A, B, q0, q1, t0, und t1 s, ph⟩ : Pl) ∈ places ∧ MS w wx A B Al len cap q0 q1 v0 v1 t0 t1
def M21b (w wx : World) (A B : Bool) (Al : Option Addr) (len cap : Nat) (k asked sd : Nat) (s : Int) : Prop :=
  ∃ (q0 q1 : Int) (v0 v1 : Value) (t0 t1 : List Bool) (ph : Nat), asked ≤ k + 1 ∧ sd + said s + ph ≤ 2 * asked ∧ t0.length ≤ 2 ∧ (⟨A, B, q0, q1, und t0 s, t1, ph⟩ : Pl) ∈ places ∧ MS w wx A B Al len cap q0 q1 v0 v1 t0 t1

set_option maxHeartbeats 40000000 in
set_option maxRecDepth 100000 in
theorem meets_walk (A B : Bool) (Al : Option Addr) (cap : Nat) (l : List (Int × Bool × Bool)) (w : World) (hC : kAct.C w Al l.length l) (hwf : ∀ p ∈ l, 0 ≤ p.1 ∧ p.1 ≤ 255) :
    Calls Try.prog 3 #[.agg #[.bool A, .bool B, .slice Al l.length cap]] w fun e w' => e = .returned (.bool true) ∧ Below w.heap.size w w' := by
  have hlen : l.length ≤ 9223372036854775807 := hC.2.1
  have HC := Lib.hid hC
  have HW := Lib.hid hwf
  clear hC hwf
  go_enter Try.func3, Try.ntmps3
  go_upto_block 0 with fail
  go_cut [6, 7, 8] (fun a s i wr => ∃ (k asked sd : Nat), i = .int .i64 k ∧ a = .int .i64 asked ∧ s = .int .i64 sd ∧ MRel w wr A B Al l.length cap k asked sd)
  case first =>
    go_wp2_with fail
    go_loopg [6, 7, 8] l.length (fun g a s i wr => ∃ (k asked sd : Nat), l.length - k ≤ g ∧ i = .int .i64 k ∧ a = .int .i64 asked ∧ s = .int .i64 sd ∧ MRel w wr A B Al l.length cap k asked sd)
    case atStart =>
      exact ⟨0, 0, 0, by omega, rfl, rfl, rfl, 0, 0, .slice none 0 0, .slice none 0 0, [], [], 0, Nat.zero_le _, by omega, by omega, by omega, begins A B, ms_start _ _ _ _ _ _⟩
    case round =>
      obtain ⟨k, asked, sd, hgk, rfl, rfl, rfl, hrel⟩ := hrel
      by_cases hlt : k < l.length ∧ k < 60
      · obtain ⟨h1, h2⟩ := hlt
        obtain ⟨q0, q1, v0, v1, t0, t1, ph, hk, hk2, hak, hsd, hpl, hms⟩ := hrel
        obtain ⟨ad, rfl, e0, e1, e2⟩ := act_at HC.out k h1
        have hwho := HW.out (l.getD k zAct) (by rw [List.getD_eq_getElem?_getD, List.getElem?_eq_getElem h1]; exact List.getElem_mem _)
        have hbl0 : (ad.add (k * 3)).block < w.heap.size := block_lt_of_cell e0
        have hcell0 := (hms.below.cell (p := ad.add (k * 3)) hbl0).trans e0
        have hcell1 := (hms.below.cell (p := ⟨(ad.add (k * 3)).block, (ad.add (k * 3)).off + 1, none⟩) hbl0).trans e1
        have hcell2 := (hms.below.cell (p := ⟨(ad.add (k * 3)).block, (ad.add (k * 3)).off + 2, none⟩) hbl0).trans e2
        obtain ⟨f1, f2, f3, f4, f5, f6, f7, f8, f9, f10, f11⟩ := hms.facts
        clear e0 e1 e2 HW HC
        generalize (l.getD k zAct).1 = who at *
        generalize (l.getD k zAct).2.1 = comes at *
        generalize (l.getD k zAct).2.2 = on at *
        obtain ⟨g1, g2⟩ := hwho
        have HMS := Lib.hid hms
        have HPL := Lib.hid hpl
        have HSD := Lib.hid hsd
        clear hms hpl hsd
        rcases Int.emod_two_eq who with hw | hw
        · skip
          by_cases hgo : comes = true ∧ t0 = []
          · obtain ⟨rfl, rfl⟩ := hgo
            obtain ⟨A0, c0, rfl⟩ := HMS.out.slice0
            go_wp2_with fail
            go_roundg (l.length - (k + 1))
            case measure => omega
            case rel => exact ⟨k + 1, asked, sd, by omega, by go_num, rfl, rfl, _, _, _, _, _, _, ph, by omega, by omega, by omega, HSD.out, HPL.out, HMS.out⟩
          · have HGO := Lib.hid hgo
            clear hgo
            go_upto_if 50 with fail
            go_cut [6, 10] (fun s6 s10 wx => ∃ (asked' : Nat) (s : Int), s6 = .int .i64 asked' ∧ s10 = .int .i64 s ∧ M21a w wx A B (some ad) l.length cap k asked' sd s)
            case first =>
              cases comes
              · go_upto_region 17 with fail
                go_cut [94] (fun s94 wx => s94 = .bool (A || !on) ∧ wr = wx)
                case first => cases A <;> cases on <;> (go_wp2_with fail; go_meet; exact ⟨rfl, rfl⟩)
                case rest =>
                  obtain ⟨rfl, rfl⟩ := hcut
                  cases hon : (A || !on)
                  · go_wp2_with fail
                    go_meet
                    exact ⟨asked, 0, rfl, rfl, _, _, _, _, _, _, ph, by omega, (by have := HSD.out; have h : said 0 = 0 := rfl; omega), (by have := pl_bounds HPL.out; omega), HPL.out, HMS.out⟩
                  · skip
                    obtain ⟨p, s, e, hask, ph', hph, hpl'⟩ := pl_ask0 HPL.out on hon
                    have HASK := Lib.hid hask
                    have HPL' := Lib.hid hpl'
                    have HPH := Lib.hid hph
                    clear hask hpl' hph
                    go_upto_region 18 with fail
                    go_cut [10, 11] (fun s10 s11 wx => s10 = .int .i64 s ∧ s11 = .int .i64 e ∧ MS w wx A B (some ad) l.length cap p q1 v0 v1 t0 t1)
                    case first =>
                      clear hcell0 hcell1 f2 f3 f6 f7 f10 f11 HGO hon f5 f9
                      go_region_with (go_at_call 10; refine (Ask_at q0 on HASK.out _).mono ?_; rintro e w1 ⟨rfl, hb1⟩; have c4 := cell_later_ hb1 f4; have z8 := frozen_later_ hb1 (block_lt_of_cell f4) f8)
                      all_goals (go_wp2_with fail; go_meet; exact ⟨rfl, rfl, (HMS.out.step ((Below.refl _ wr).drew.trans hb1)).setA0 p⟩)
                    case rest =>
                      obtain ⟨rfl, rfl, hms2⟩ := hcut
                      have HMS2 := Lib.hid hms2
                      clear hms2 f1 f2 f3 f4 f5 f6 f7 f8 f9 f10 f11 hcell0 hcell1 hcell2
                      by_cases he : e = 0
                      · subst he
                        go_wp2_with fail
                        go_meet
                        exact ⟨asked + 1, s, by go_num, rfl, _, _, _, _, _, _, ph', by omega, (by have := HPH.out; have := HSD.out; have h : okd 0 = 1 := rfl; omega), (by have := pl_bounds HPL.out; omega), HPL'.out, HMS2.out⟩
                      · have he0 : (e == 0) = false := by simpa using he
                        have HE := Lib.hid he
                        clear he
                        go_wp2_with fail
                        go_meet
                        exact ⟨asked, s, rfl, rfl, _, _, _, _, _, _, ph', by omega, (by have := HPH.out; have := HSD.out; have h : okd e = 0 := (by unfold okd; rw [if_neg HE.out]); omega), (by have := pl_bounds HPL.out; omega), HPL'.out, HMS2.out⟩
              · obtain ⟨y, t, rfl⟩ : ∃ y t, t0 = y :: t := by
                  cases t0 with
                  | nil => exact absurd ⟨rfl, rfl⟩ HGO.out
                  | cons y t => exact ⟨y, t, rfl⟩
                obtain ⟨p, s, hgot, ph', hph, hpl'⟩ := pl_came0 HPL.out
                have HGOT := Lib.hid hgot
                have HPL' := Lib.hid hpl'
                have HPH := Lib.hid hph
                have hlt0 := (pl_bounds HPL.out).2.2.2.2.1
                have HLT := Lib.hid hlt0
                clear hgot hpl' hph hlt0
                obtain ⟨a2, c2, A2, rfl, hle2, hy, hcut2, hq2, ho2⟩ := Q_pop HMS.out.u0
                have hms1 := HMS.out.pop0 hq2 ho2
                have HMS1 := Lib.hid hms1
                clear hms1 hq2 ho2
                have hlen2 : t.length ≤ 2 := by have := HLT.out; simp at this; omega
                have hne0 : ((t.length : Int) + 1 == 0) = false := by simp only [beq_eq_false_iff_ne]; omega
                go_upto_region 14 with fail
                generalize wr.setCell ⟨w.heap.size + 1 + 1 + 1, 0, none⟩ (.slice A2 t.length (c2 - 1)) = wy at *
                obtain ⟨e1, e2, e3, e4, e5, e6, e7, e8, e9, e10, e11⟩ := HMS1.out.facts
                go_cut [10, 11] (fun s10 s11 wx => s10 = .int .i64 s ∧ s11 = .int .i64 0 ∧ MS w wx A B (some ad) l.length cap p q1 (.slice A2 t.length (c2 - 1)) v1 t t1)
                case first =>
                  clear f1 f2 f3 f4 f5 f6 f7 f8 f9 f10 f11 hcut2 hy e1 e6 e7 e10 e11 e3 e5 e9
                  clear hcell0 hcell1 hcell2 HGO
                  go_region_with (go_at_call 9; refine (Got_at q0 y A HGOT.out _).mono ?_; rintro e w1 ⟨rfl, hb1⟩; have c4 := cell_later_ hb1 e4; have z8 := frozen_later_ hb1 (block_lt_of_cell e4) e8)
                  all_goals (go_wp2_with fail; go_meet; exact ⟨rfl, rfl, (HMS1.out.step ((Below.refl _ wy).drew.trans hb1)).setA0 p⟩)
                case rest =>
                  obtain ⟨rfl, rfl, hms2⟩ := hcut
                  have HMS2 := Lib.hid hms2
                  clear hms2 f1 f2 f3 f4 f5 f6 f7 f8 f9 f10 f11 e1 e2 e3 e4 e5 e6 e7 e8 e9 e10 e11 hcut2 hy HMS HMS1
                  clear hcell0 hcell1 hcell2 HGO
                  go_wp2_with fail
                  go_meet
                  exact ⟨asked, s, rfl, rfl, _, _, _, _, _, _, ph', by omega, (by have := HPH.out; have := HSD.out; omega), (by have := HLT.out; omega), HPL'.out, HMS2.out⟩
            case rest =>
              obtain ⟨asked', s, rfl, rfl, p0, p1, x0, x1, z0, z1, ph', h21, h22, h23, h24, hms2⟩ := hcut
              clear f1 f2 f3 f4 f5 f6 f7 f8 f9 f10 f11 hcell0 hcell1 hcell2 HMS HPL HSD HGO
              obtain ⟨e1, e2, e3, e4, e5, e6, e7, e8, e9, e10, e11⟩ := hms2.facts
              have HMS2 := Lib.hid hms2
              have H24 := Lib.hid h24
              clear hms2 h24 e1 e2 e3 e4 e5 e8 e9
              go_wp2_with fail
              refine (under_any s _ (w.heap.size + 4) _ x1 z1 HMS2.out.u1 HMS2.out.size (fun k hk => (by intro e; have := Kd.Q_lt HMS2.out.u0 k e.symm; omega)) (by omega)).mono ?_
              rintro e w1 ⟨A3, c3, rfl, hq3, hg3, ho3⟩
              obtain ⟨d1, d2⟩ := HMS2.out.after1 hg3
              have hms3 := HMS2.out.put1 hq3 hg3 ho3
              have HMS3 := Lib.hid hms3
              clear hms3 hq3 hg3 ho3 e6 e7 e10 e11
              by_cases hs : s = 0
              · subst hs
                go_wp2_with fail
                go_roundg (l.length - (k + 1))
                case measure => omega
                case rel => exact ⟨k + 1, asked', sd, by omega, by go_num, rfl, rfl, _, _, _, _, _, _, ph', by omega, by omega, by omega, (by have h : said 0 = 0 := rfl; omega), H24.out, HMS3.out⟩
              · have hs0 : (s == 0) = false := by simpa using hs
                have hs1 : (s != 0) = true := by simpa using hs
                have hsd : said s = 1 := by unfold said; rw [if_neg hs]
                have HSD2 := Lib.hid hsd
                clear hs hsd
                go_wp2_with fail
                go_roundg (l.length - (k + 1))
                case measure => omega
                case rel => exact ⟨k + 1, asked', sd + 1, by omega, by go_num, rfl, by go_num, _, _, _, _, _, _, ph', by omega, by omega, by omega, (by have := HSD2.out; omega), H24.out, HMS3.out⟩
        · as_aux_lemma =>
          by_cases hgo : comes = true ∧ t1 = []
          · obtain ⟨rfl, rfl⟩ := hgo
            obtain ⟨A1, c1, rfl⟩ := HMS.out.slice1
            go_wp2_with fail
            go_roundg (l.length - (k + 1))
            case measure => omega
            case rel => exact ⟨k + 1, asked, sd, by omega, by go_num, rfl, rfl, _, _, _, _, _, _, ph, by omega, by omega, by omega, HSD.out, HPL.out, HMS.out⟩
          · have HGO := Lib.hid hgo
            clear hgo
            go_upto_if 50 with fail
            go_cut [6, 10] (fun s6 s10 wx => ∃ (asked' : Nat) (s : Int), s6 = .int .i64 asked' ∧ s10 = .int .i64 s ∧ M21b w wx A B (some ad) l.length cap k asked' sd s)
            case first =>
              cases comes
              · go_upto_region 17 with fail
                go_cut [94] (fun s94 wx => s94 = .bool (B || !on) ∧ wr = wx)
                case first => cases B <;> cases on <;> (go_wp2_with fail; go_meet; exact ⟨rfl, rfl⟩)
                case rest =>
                  obtain ⟨rfl, rfl⟩ := hcut
                  cases hon : (B || !on)
                  · go_wp2_with fail
                    go_meet
                    exact ⟨asked, 0, rfl, rfl, _, _, _, _, _, _, ph, by omega, (by have := HSD.out; have h : said 0 = 0 := rfl; omega), (by have := pl_bounds HPL.out; omega), HPL.out, HMS.out⟩
                  · skip
                    obtain ⟨p, s, e, hask, ph', hph, hpl'⟩ := pl_ask1 HPL.out on hon
                    have HASK := Lib.hid hask
                    have HPL' := Lib.hid hpl'
                    have HPH := Lib.hid hph
                    clear hask hpl' hph
                    go_upto_region 18 with fail
                    go_cut [10, 11] (fun s10 s11 wx => s10 = .int .i64 s ∧ s11 = .int .i64 e ∧ MS w wx A B (some ad) l.length cap q0 p v0 v1 t0 t1)
                    case first =>
                      clear hcell0 hcell1 f2 f3 f6 f7 f10 f11 HGO hon f4 f8
                      go_region_with (go_at_call 10; refine (Ask_at q1 on HASK.out _).mono ?_; rintro e w1 ⟨rfl, hb1⟩; have c4 := cell_later_ hb1 f5; have z8 := frozen_later_ hb1 (block_lt_of_cell f5) f9)
                      all_goals (go_wp2_with fail; go_meet; exact ⟨rfl, rfl, (HMS.out.step ((Below.refl _ wr).drew.trans hb1)).setA1 p⟩)
                    case rest =>
                      obtain ⟨rfl, rfl, hms2⟩ := hcut
                      have HMS2 := Lib.hid hms2
                      clear hms2 f1 f2 f3 f4 f5 f6 f7 f8 f9 f10 f11 hcell0 hcell1 hcell2
                      by_cases he : e = 0
                      · subst he
                        go_wp2_with fail
                        go_meet
                        exact ⟨asked + 1, s, by go_num, rfl, _, _, _, _, _, _, ph', by omega, (by have := HPH.out; have := HSD.out; have h : okd 0 = 1 := rfl; omega), (by have := pl_bounds HPL.out; omega), HPL'.out, HMS2.out⟩
                      · have he0 : (e == 0) = false := by simpa using he
                        have HE := Lib.hid he
                        clear he
                        go_wp2_with fail
                        go_meet
                        exact ⟨asked, s, rfl, rfl, _, _, _, _, _, _, ph', by omega, (by have := HPH.out; have := HSD.out; have h : okd e = 0 := (by unfold okd; rw [if_neg HE.out]); omega), (by have := pl_bounds HPL.out; omega), HPL'.out, HMS2.out⟩
              · obtain ⟨y, t, rfl⟩ : ∃ y t, t1 = y :: t := by
                  cases t1 with
                  | nil => exact absurd ⟨rfl, rfl⟩ HGO.out
                  | cons y t => exact ⟨y, t, rfl⟩
                obtain ⟨p, s, hgot, ph', hph, hpl'⟩ := pl_came1 HPL.out
                have HGOT := Lib.hid hgot
                have HPL' := Lib.hid hpl'
                have HPH := Lib.hid hph
                have hlt0 := (pl_bounds HPL.out).2.2.2.2.1
                have HLT := Lib.hid hlt0
                clear hgot hpl' hph hlt0
                obtain ⟨a2, c2, A2, rfl, hle2, hy, hcut2, hq2, ho2⟩ := Q_pop HMS.out.u1
                have hms1 := HMS.out.pop1 hq2 ho2
                have HMS1 := Lib.hid hms1
                clear hms1 hq2 ho2
                have hlen2 : t.length ≤ 2 := by have := HLT.out; simp at this; omega
                have hne0 : ((t.length : Int) + 1 == 0) = false := by simp only [beq_eq_false_iff_ne]; omega
                go_upto_region 14 with fail
                generalize wr.setCell ⟨w.heap.size + 1 + 1 + 1, 1, none⟩ (.slice A2 t.length (c2 - 1)) = wy at *
                obtain ⟨e1, e2, e3, e4, e5, e6, e7, e8, e9, e10, e11⟩ := HMS1.out.facts
                go_cut [10, 11] (fun s10 s11 wx => s10 = .int .i64 s ∧ s11 = .int .i64 0 ∧ MS w wx A B (some ad) l.length cap q0 p v0 (.slice A2 t.length (c2 - 1)) t0 t)
                case first =>
                  clear f1 f2 f3 f4 f5 f6 f7 f8 f9 f10 f11 hcut2 hy e1 e6 e7 e10 e11 e2 e4 e8
                  clear hcell0 hcell1 hcell2 HGO
                  go_region_with (go_at_call 9; refine (Got_at q1 y B HGOT.out _).mono ?_; rintro e w1 ⟨rfl, hb1⟩; have c4 := cell_later_ hb1 e5; have z8 := frozen_later_ hb1 (block_lt_of_cell e5) e9)
                  all_goals (go_wp2_with fail; go_meet; exact ⟨rfl, rfl, (HMS1.out.step ((Below.refl _ wy).drew.trans hb1)).setA1 p⟩)
                case rest =>
                  obtain ⟨rfl, rfl, hms2⟩ := hcut
                  have HMS2 := Lib.hid hms2
                  clear hms2 f1 f2 f3 f4 f5 f6 f7 f8 f9 f10 f11 e1 e2 e3 e4 e5 e6 e7 e8 e9 e10 e11 hcut2 hy HMS HMS1
                  clear hcell0 hcell1 hcell2 HGO
                  go_wp2_with fail
                  go_meet
                  exact ⟨asked, s, rfl, rfl, _, _, _, _, _, _, ph', by omega, (by have := HPH.out; have := HSD.out; omega), (by have := HLT.out; omega), HPL'.out, HMS2.out⟩
            case rest =>
              obtain ⟨asked', s, rfl, rfl, p0, p1, x0, x1, z0, z1, ph', h21, h22, h23, h24, hms2⟩ := hcut
              clear f1 f2 f3 f4 f5 f6 f7 f8 f9 f10 f11 hcell0 hcell1 hcell2 HMS HPL HSD HGO
              obtain ⟨e1, e2, e3, e4, e5, e6, e7, e8, e9, e10, e11⟩ := hms2.facts
              have HMS2 := Lib.hid hms2
              have H24 := Lib.hid h24
              clear hms2 h24 e1 e2 e3 e4 e5 e8 e9
              go_wp2_with fail
              refine (under_any s _ (w.heap.size + 4) _ x0 z0 HMS2.out.u0 HMS2.out.size (fun k hk => (by intro e; have := Kd.Q_lt HMS2.out.u1 k e.symm; omega)) (by omega)).mono ?_
              rintro e w1 ⟨A3, c3, rfl, hq3, hg3, ho3⟩
              obtain ⟨d1, d2⟩ := HMS2.out.after0 hg3
              have hms3 := HMS2.out.put0 hq3 hg3 ho3
              have HMS3 := Lib.hid hms3
              clear hms3 hq3 hg3 ho3 e6 e7 e10 e11
              by_cases hs : s = 0
              · subst hs
                go_wp2_with fail
                go_roundg (l.length - (k + 1))
                case measure => omega
                case rel => exact ⟨k + 1, asked', sd, by omega, by go_num, rfl, rfl, _, _, _, _, _, _, ph', by omega, by omega, by omega, (by have h : said 0 = 0 := rfl; omega), H24.out, HMS3.out⟩
              · have hs0 : (s == 0) = false := by simpa using hs
                have hs1 : (s != 0) = true := by simpa using hs
                have hsd : said s = 1 := by unfold said; rw [if_neg hs]
                have HSD2 := Lib.hid hsd
                clear hs hsd
                go_wp2_with fail
                go_roundg (l.length - (k + 1))
                case measure => omega
                case rel => exact ⟨k + 1, asked', sd + 1, by omega, by go_num, rfl, by go_num, _, _, _, _, _, _, ph', by omega, by omega, by omega, (by have := HSD2.out; omega), H24.out, HMS3.out⟩
      · obtain ⟨q0, q1, v0, v1, t0, t1, ph, hk, hk2, hak, hsd, hpl, hms⟩ := hrel
        have f1 := hms.facts.1
        have HREL := Lib.hid (show MRel w wr A B Al l.length cap k asked sd from ⟨q0, q1, v0, v1, t0, t1, ph, hk, hk2, hak, hsd, hpl, hms⟩)
        clear hsd hpl hms HC HW
        by_cases h1 : k < l.length
        · have h2 : ¬ k < 60 := fun h2 => hlt ⟨h1, h2⟩
          clear hlt
          go_wp2_with fail
          go_meet
          exact ⟨k, asked, sd, rfl, rfl, rfl, HREL.out⟩
        · clear hlt
          go_wp2_with fail
          go_meet
          exact ⟨k, asked, sd, rfl, rfl, rfl, HREL.out⟩
  case rest =>
    obtain ⟨k, asked, sd0, rfl, rfl, rfl, hrel⟩ := hcut
    obtain ⟨p0, p1, x0, x1, z0, z1, ph0, hk, hk2, hak, hsd0, hpl0, hms0⟩ := hrel
    have hb0 := pl_bounds hpl0
    have HMS0 := Lib.hid hms0
    have HPL0 := Lib.hid hpl0
    clear HC HW hms0 hpl0
    go_upto_block 2 with fail
    go_cut [7] (fun s7 wx => ∃ (sd : Nat) (q0 q1 : Int) (v0 v1 : Value) (ph : Nat), s7 = .int .i64 sd ∧ sd + ph ≤ 2 * asked ∧ (⟨A, B, q0, q1, [], [], ph⟩ : Pl) ∈ places ∧ MS w wx A B Al l.length cap q0 q1 v0 v1 [] [])
    case first =>
      go_wp2_with fail
      go_loopg [7, 13] 5 (fun g s n wr => ∃ (sd n' : Nat) (q0 q1 : Int) (v0 v1 : Value) (t0 t1 : List Bool) (ph : Nat), s = .int .i64 sd ∧ n = .int .i64 n' ∧ n' + (t0.length + t1.length + ph) ≤ 5 ∧ t0.length + t1.length + ph ≤ g ∧ sd + ph ≤ 2 * asked ∧ (⟨A, B, q0, q1, t0, t1, ph⟩ : Pl) ∈ places ∧ MS w wr A B Al l.length cap q0 q1 v0 v1 t0 t1)
      case atStart => exact ⟨sd0, 0, _, _, _, _, _, _, ph0, rfl, rfl, by omega, by omega, by omega, HPL0.out, HMS0.out⟩
      case round =>
        obtain ⟨sd, n, q0, q1, v0, v1, t0, t1, ph, rfl, rfl, hb5, hg, hsd, hpl, hms⟩ := hrel
        clear HMS0 HPL0 hb0 hsd0
        rcases t0 with _ | ⟨y, t⟩
        · rcases t1 with _ | ⟨y, t⟩
          · have HMS := Lib.hid hms
            have HPL := Lib.hid hpl
            have HSD := Lib.hid hsd
            obtain ⟨A0, c0, rfl⟩ := hms.slice0
            obtain ⟨A1, c1, rfl⟩ := hms.slice1
            obtain ⟨f1, f2, f3, f4, f5, f6, f7, f8, f9, f10, f11⟩ := hms.facts
            have hn : n < 400 := by omega
            clear hms hpl hsd hb5 hg f1 f2 f3 f4 f5 f8 f9 f10 f11
            go_wp2_with fail
            go_meet
            exact ⟨sd, _, _, _, _, ph, rfl, HSD.out, HPL.out, HMS.out⟩
          · skip
            have HMS := Lib.hid hms
            have HPL := Lib.hid hpl
            have HSD := Lib.hid hsd
            have HB5 := Lib.hid hb5
            have HG := Lib.hid hg
            clear hms hpl hsd hb5 hg
            have hn : n < 400 := by have := HB5.out; omega
            have hsdb : sd ≤ 130 := by have := HSD.out; omega
            obtain ⟨A0, c0, rfl⟩ := HMS.out.slice0
            skip
            obtain ⟨f1, f2, f3, f4, f5, f6, f7, f8, f9, f10, f11⟩ := HMS.out.facts
            obtain ⟨p, s, hgot, ph', hph, hpl'⟩ := pl_came1 HPL.out
            have HGOT := Lib.hid hgot
            have HPL' := Lib.hid hpl'
            have HPH := Lib.hid hph
            have hlt0 := (pl_bounds HPL.out).2.2.2.2.1
            have HLT := Lib.hid hlt0
            clear hgot hpl' hph hlt0
            obtain ⟨a2, c2, A2, rfl, hle2, hy, hcut2, hq2, ho2⟩ := Q_pop HMS.out.u1
            have hms1 := HMS.out.pop1 hq2 ho2
            have HMS1 := Lib.hid hms1
            clear hms1 hq2 ho2
            have hlen2 : t.length ≤ 2 := by have := HLT.out; simp at this; omega
            have hne0 : ((t.length : Int) + 1 == 0) = false := by simp only [beq_eq_false_iff_ne]; omega
            go_upto_region 32 with fail
            generalize wr.setCell ⟨w.heap.size + 1 + 1 + 1, 1, none⟩ (.slice A2 t.length (c2 - 1)) = wy at *
            obtain ⟨e1, e2, e3, e4, e5, e6, e7, e8, e9, e10, e11⟩ := HMS1.out.facts
            go_cut [16, 17, 18] (fun s16 s17 s18 wx => s16 = .int .i64 p ∧ s17 = .int .i64 s ∧ s18 = .int .i64 0 ∧ MS w wx A B Al l.length cap q0 q1 (.slice A0 ([] : List Bool).length c0) (.slice A2 t.length (c2 - 1)) [] t)
            case first =>
              clear f1 f2 f3 f4 f5 f6 f7 f8 f9 f10 f11 hcut2 hy e1 e6 e7 e10 e11 e2 e4 e8
              skip
              go_region_held3 (fun wx => wx.cell? ⟨w.heap.size + 1 + 1, 1, none⟩ = some (.int .i64 q1) ∧ wx.cell? ⟨w.heap.size + 1, 1, none⟩ = some (.bool B)) (first | exact ⟨e5, e3⟩ | exact ⟨c4, c2⟩ | go_keep) (first | (go_at_call 9; refine (Got_at q1 y B HGOT.out _).mono ?_; rintro e w1 ⟨rfl, hb1⟩; have c4 := cell_later_ hb1 (show wy.drew.cell? _ = _ from e5); have c2 := cell_later_ hb1 (show wy.drew.cell? _ = _ from e3)))
              all_goals (go_wp2_with fail; go_meet; exact ⟨rfl, rfl, rfl, HMS1.out.step ((Below.refl _ wy).drew.trans hb1)⟩)
            case rest =>
              obtain ⟨rfl, rfl, rfl, hms2⟩ := hcut
              have HMS2 := Lib.hid hms2
              clear hms2 f1 f2 f3 f4 f5 f6 f7 f8 f9 f10 f11 e1 e2 e3 e4 e5 e6 e7 e8 e9 e10 e11 hcut2 hy HMS HMS1
              obtain ⟨e1, e2, e3, e4, e5, e6, e7, e8, e9, e10, e11⟩ := HMS2.out.facts
              have hms2b := HMS2.out.setA1 p
              have HMS2B := Lib.hid hms2b
              clear hms2b e1 e2 e3 e6 e7 e10 e11
              go_upto_region 36 with fail
              generalize wc.setCell ⟨w.heap.size + 1 + 1, 1, none⟩ (.int .i64 p) = wz at *
              clear e4 e5 e8 e9 HMS2
              obtain ⟨e1, e2, e3, e4, e5, e6, e7, e8, e9, e10, e11⟩ := HMS2B.out.facts
              clear e1 e2 e3 e4 e5 e8 e9
              go_wp2_with fail
              refine (under_any s _ (w.heap.size + 4) _ _ [] HMS2B.out.u0 HMS2B.out.size (fun k hk => (by intro e; have := Kd.Q_lt HMS2B.out.u1 k e.symm; omega)) (by first | omega | simp)).mono ?_
              rintro e w1 ⟨A3, c3, rfl, hq3, hg3, ho3⟩
              obtain ⟨d1, d2⟩ := HMS2B.out.after0 hg3
              have hms3 := HMS2B.out.put0 hq3 hg3 ho3
              have HMS3 := Lib.hid hms3
              clear hms3 hq3 hg3 ho3 e6 e7 e10 e11
              by_cases hs : s = 0
              · subst hs
                go_wp2_with fail
                go_roundg ((und [] 0).length + t.length + ph')
                case measure => (have h1 := HG.out; have h2 := HPH.out; have h3 := und_len [] 0; (try simp at h1); (try simp at h2); (try simp at h3); (try simp); omega)
                case rel => exact ⟨sd, n + 1, _, _, _, _, _, _, ph', rfl, by go_num, (by have h1 := HB5.out; have h2 := HPH.out; have h3 := und_len [] 0; (try simp at h1); (try simp at h2); (try simp at h3); (try simp); omega), Nat.le_refl _, (by have := HSD.out; have := HPH.out; have h : said 0 = 0 := rfl; omega), HPL'.out, HMS3.out⟩
              · have hs0 : (s == 0) = false := by simpa using hs
                have hs1 : (s != 0) = true := by simpa using hs
                have hsd1 : said s = 1 := by unfold said; rw [if_neg hs]
                have HSD2 := Lib.hid hsd1
                clear hs hsd1
                go_wp2_with fail
                go_roundg ((und [] s).length + t.length + ph')
                case measure => (have h1 := HG.out; have h2 := HPH.out; have h3 := und_len [] s; (try simp at h1); (try simp at h2); (try simp at h3); (try simp); omega)
                case rel => exact ⟨sd + 1, n + 1, _, _, _, _, _, _, ph', by go_num, by go_num, (by have h1 := HB5.out; have h2 := HPH.out; have h3 := und_len [] s; (try simp at h1); (try simp at h2); (try simp at h3); (try simp); omega), Nat.le_refl _, (by have := HSD.out; have := HPH.out; have h : said s = 1 := HSD2.out; omega), HPL'.out, HMS3.out⟩
        · skip
          have HMS := Lib.hid hms
          have HPL := Lib.hid hpl
          have HSD := Lib.hid hsd
          have HB5 := Lib.hid hb5
          have HG := Lib.hid hg
          clear hms hpl hsd hb5 hg
          have hn : n < 400 := by have := HB5.out; omega
          have hsdb : sd ≤ 130 := by have := HSD.out; omega
          obtain ⟨A1, c1, rfl⟩ := HMS.out.slice1
          have hlo : t1.length ≤ 2 := by have := (pl_bounds HPL.out).2.2.2.2.1; omega
          obtain ⟨f1, f2, f3, f4, f5, f6, f7, f8, f9, f10, f11⟩ := HMS.out.facts
          obtain ⟨p, s, hgot, ph', hph, hpl'⟩ := pl_came0 HPL.out
          have HGOT := Lib.hid hgot
          have HPL' := Lib.hid hpl'
          have HPH := Lib.hid hph
          have hlt0 := (pl_bounds HPL.out).2.2.2.2.1
          have HLT := Lib.hid hlt0
          clear hgot hpl' hph hlt0
          obtain ⟨a2, c2, A2, rfl, hle2, hy, hcut2, hq2, ho2⟩ := Q_pop HMS.out.u0
          have hms1 := HMS.out.pop0 hq2 ho2
          have HMS1 := Lib.hid hms1
          clear hms1 hq2 ho2
          have hlen2 : t.length ≤ 2 := by have := HLT.out; simp at this; omega
          have hne0 : ((t.length : Int) + 1 == 0) = false := by simp only [beq_eq_false_iff_ne]; omega
          go_upto_region 32 with fail
          generalize wr.setCell ⟨w.heap.size + 1 + 1 + 1, 0, none⟩ (.slice A2 t.length (c2 - 1)) = wy at *
          obtain ⟨e1, e2, e3, e4, e5, e6, e7, e8, e9, e10, e11⟩ := HMS1.out.facts
          go_cut [16, 17, 18] (fun s16 s17 s18 wx => s16 = .int .i64 p ∧ s17 = .int .i64 s ∧ s18 = .int .i64 0 ∧ MS w wx A B Al l.length cap q0 q1 (.slice A2 t.length (c2 - 1)) (.slice A1 t1.length c1) t t1)
          case first =>
            clear f1 f2 f3 f4 f5 f6 f7 f8 f9 f10 f11 hcut2 hy e1 e6 e7 e10 e11 e3 e5 e9
            skip
            go_region_held3 (fun wx => wx.cell? ⟨w.heap.size + 1 + 1, 0, none⟩ = some (.int .i64 q0) ∧ wx.cell? ⟨w.heap.size + 1, 0, none⟩ = some (.bool A)) (first | exact ⟨e4, e2⟩ | exact ⟨c4, c2⟩ | go_keep) (first | (go_at_call 9; refine (Got_at q0 y A HGOT.out _).mono ?_; rintro e w1 ⟨rfl, hb1⟩; have c4 := cell_later_ hb1 (show wy.drew.cell? _ = _ from e4); have c2 := cell_later_ hb1 (show wy.drew.cell? _ = _ from e2)))
            all_goals (go_wp2_with fail; go_meet; exact ⟨rfl, rfl, rfl, HMS1.out.step ((Below.refl _ wy).drew.trans hb1)⟩)
          case rest =>
            obtain ⟨rfl, rfl, rfl, hms2⟩ := hcut
            have HMS2 := Lib.hid hms2
            clear hms2 f1 f2 f3 f4 f5 f6 f7 f8 f9 f10 f11 e1 e2 e3 e4 e5 e6 e7 e8 e9 e10 e11 hcut2 hy HMS HMS1
            obtain ⟨e1, e2, e3, e4, e5, e6, e7, e8, e9, e10, e11⟩ := HMS2.out.facts
            have hms2b := HMS2.out.setA0 p
            have HMS2B := Lib.hid hms2b
            clear hms2b e1 e2 e3 e6 e7 e10 e11
            go_upto_region 36 with fail
            generalize wc.setCell ⟨w.heap.size + 1 + 1, 0, none⟩ (.int .i64 p) = wz at *
            clear e4 e5 e8 e9 HMS2
            obtain ⟨e1, e2, e3, e4, e5, e6, e7, e8, e9, e10, e11⟩ := HMS2B.out.facts
            clear e1 e2 e3 e4 e5 e8 e9
            go_wp2_with fail
            refine (under_any s _ (w.heap.size + 4) _ _ t1 HMS2B.out.u1 HMS2B.out.size (fun k hk => (by intro e; have := Kd.Q_lt HMS2B.out.u0 k e.symm; omega)) (by first | omega | simp)).mono ?_
            rintro e w1 ⟨A3, c3, rfl, hq3, hg3, ho3⟩
            obtain ⟨d1, d2⟩ := HMS2B.out.after1 hg3
            have hms3 := HMS2B.out.put1 hq3 hg3 ho3
            have HMS3 := Lib.hid hms3
            clear hms3 hq3 hg3 ho3 e6 e7 e10 e11
            by_cases hs : s = 0
            · subst hs
              go_wp2_with fail
              go_roundg (t.length + (und t1 0).length + ph')
              case measure => (have h1 := HG.out; have h2 := HPH.out; have h3 := und_len t1 0; (try simp at h1); (try simp at h2); (try simp at h3); (try simp); omega)
              case rel => exact ⟨sd, n + 1, _, _, _, _, _, _, ph', rfl, by go_num, (by have h1 := HB5.out; have h2 := HPH.out; have h3 := und_len t1 0; (try simp at h1); (try simp at h2); (try simp at h3); (try simp); omega), Nat.le_refl _, (by have := HSD.out; have := HPH.out; have h : said 0 = 0 := rfl; omega), HPL'.out, HMS3.out⟩
            · have hs0 : (s == 0) = false := by simpa using hs
              have hs1 : (s != 0) = true := by simpa using hs
              have hsd1 : said s = 1 := by unfold said; rw [if_neg hs]
              have HSD2 := Lib.hid hsd1
              clear hs hsd1
              go_wp2_with fail
              go_roundg (t.length + (und t1 s).length + ph')
              case measure => (have h1 := HG.out; have h2 := HPH.out; have h3 := und_len t1 s; (try simp at h1); (try simp at h2); (try simp at h3); (try simp); omega)
              case rel => exact ⟨sd + 1, n + 1, _, _, _, _, _, _, ph', by go_num, by go_num, (by have h1 := HB5.out; have h2 := HPH.out; have h3 := und_len t1 s; (try simp at h1); (try simp at h2); (try simp at h3); (try simp); omega), Nat.le_refl _, (by have := HSD.out; have := HPH.out; have h : said s = 1 := HSD2.out; omega), HPL'.out, HMS3.out⟩
    case rest =>
      obtain ⟨sd, q0, q1, v0, v1, ph, rfl, hsd, hpl, hms⟩ := hcut
      obtain ⟨A0, c0, rfl⟩ := hms.slice0
      obtain ⟨A1, c1, rfl⟩ := hms.slice1
      obtain ⟨f1, f2, f3, f4, f5, f6, f7, f8, f9, f10, f11⟩ := hms.facts
      have g1 := cell_of_row _ _ 0 _ _ _ hms.p
      have g2 := cell_of_row _ _ 1 _ _ _ hms.p
      simp only [List.getElem?_toArray, List.getElem?_cons_zero, List.getElem?_cons_succ] at g1 g2
      have hb := hms.below
      have hsd2 : sd ≤ 2 * asked := by omega
      obtain ⟨h1, h2⟩ := pl_rest hpl
      clear hms hpl hsd hb0 HMS0 HPL0 hsd0 f1 f2 f3 f8 f9 f10 f11
      subst h1
      rcases h2 with rfl | ⟨rfl, rfl, rfl⟩
      all_goals
        go_wp2_with (go_at_call 12; refine (awake_any _).mono ?_; rintro e w1 ⟨rfl, hb1⟩)
        go_ret
        exact ⟨rfl, hb.trans (hb1.mono hb.size)⟩
end Go.Proofs.Ythnaijmbppmbjaa
