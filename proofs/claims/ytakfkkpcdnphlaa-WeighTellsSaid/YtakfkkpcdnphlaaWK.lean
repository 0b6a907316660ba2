/- The contract of Read. -/
import Derived.Test.YtakfkkpcdnphlaaWJ
import Derived.Test.YtakfkkpcdnphlaaWL
namespace Go.Proofs.Ytakfkkpcdnphlaa
open Go.RowKit Go.Shelf Go.Proofs.YtakfkkpcdnphlaaW.PrintWords
attribute [local go_sem] Oper.semAt_some run_store_float

theorem cks_map {β : Type} (f : Nat → β) (m : Nat) : ∀ k, k ≤ m → (cks m k).map (fun x => f x.1) = (List.range k).map f := by
  intro k
  induction k with
  | zero => intro _; rfl
  | succ k ih => intro h; rw [cks_succ (by omega), List.map_append, ih (by omega), List.range_succ, List.map_append]; rfl

theorem u8_at {w : World} {A : Option Addr} {n : Nat} {l : List Int} (hC : (Kd.int .u8).C w A n l) (k : Nat) (hk : k < n) : ∃ ad, A = some ad ∧ w.cell? (ad.add k) = some (.int .u8 (l.getD k 0)) := by
  obtain ⟨ad, c, rfl, _, hK, hc⟩ := Kd.C_get hC 0 (k : Int) (by omega) (by omega)
  refine ⟨ad, rfl, ?_⟩
  have hK' : c = [.int .u8 (l.getD k 0)] := hK
  have h := hc 0 _ (by rw [hK']; rfl)
  have e : (k : Int).toNat * (Kd.int .u8).sz + 0 = k := by
    show (k : Int).toNat * 1 + 0 = k
    omega
  rwa [e] at h

theorem wrap_u64 {n : Nat} (h : n < 2 ^ 64) : IntKind.u64.wrap (n : Int) = (n : Int) := by
  simp [IntKind.wrap, IntKind.signed, IntKind.bits]
  omega
theorem bits_or {p q : Nat} (hp : p < 2 ^ 64) (hq : q < 2 ^ 64) : bits .or .u64 (p : Int) (q : Int) = ((p ||| q : Nat) : Int) := by
  have hpq : p ||| q < 2 ^ 64 := Nat.or_lt_two_pow hp hq
  unfold bits
  have e : ((BitVec.ofInt IntKind.u64.bits (p : Int) ||| BitVec.ofInt IntKind.u64.bits (q : Int)).toNat : Nat) = p ||| q := by
    rw [BitVec.toNat_or, BitVec.ofInt_natCast, BitVec.ofInt_natCast, BitVec.toNat_ofNat, BitVec.toNat_ofNat]
    show p % 2 ^ 64 ||| q % 2 ^ 64 = _
    rw [Nat.mod_eq_of_lt hp, Nat.mod_eq_of_lt hq]
  simp only [e]
  exact wrap_u64 hpq
theorem or_shift {p : Nat} {c : Int} {j : Nat} (hp : p < 2 ^ (8 * j)) (h0 : 0 ≤ c) (h1 : c ≤ 255) (hj : j < 8) : bits .or .u64 (p : Int) (IntKind.u64.wrap (c * 2 ^ (8 * j))) = ((p + c.toNat * 2 ^ (8 * j) : Nat) : Int) := by
  obtain ⟨d, rfl⟩ := Int.eq_ofNat_of_zero_le h0
  have e1 : (d : Int) * 2 ^ (8 * j) = ((d * 2 ^ (8 * j) : Nat) : Int) := by simp
  have hp2 : 2 ^ (8 * j) ≤ 2 ^ 56 := Nat.pow_le_pow_right (by omega) (by omega)
  have hd : d * 2 ^ (8 * j) ≤ 255 * 2 ^ 56 := Nat.mul_le_mul (by omega) hp2
  have hq : d * 2 ^ (8 * j) < 2 ^ 64 := by omega
  rw [e1, wrap_u64 hq, bits_or (by omega) hq, Int.toNat_natCast, Nat.mul_comm, Nat.add_comm, Nat.two_pow_add_eq_or_of_lt hp, Nat.or_comm]

theorem stepIn_append_run {F : Fence} {n : Nat} {P : Program} {ops : Array Oper} {o : Oper} {a : Act} {K : Act → World → Prop} {Q : Exit → Act → World → Prop} {R : Prop} {W w1 : World} (hw : Region.wanted o (yielded ops a.tmps) = true) (s x : Operand) (t : TypeId)
    (ho : o.op = .call { callee := .builtin .append, args := #[s, x], argTypes := #[t, t] }) (v xv v1 : Value) (hs : a.eval s = v) (hx : a.eval x = xv) (hr : (Builtin.append_ #[t, t] o.type #[v, xv]).run P W = .ok v1 w1) (h : K (a.put o.dst v1) w1) :
    if Region.wanted o (yielded ops a.tmps) = true then Oper.wpIn F n P o a W K Q else R := by
  rw [if_pos hw]
  unfold Oper.wpIn
  refine ⟨?_, ?_⟩
  · simp [Oper.about, ho, resolve, Target.leads, Sem.run_pure]
  · rw [Oper.semAt_plain F _ _ (by rw [ho]; intro c hc'; cases hc')]
    simp [execOp, ho, resolve, invoke, builtin, hs, hx, hr, Result.andThen]
    exact h
theorem drew_below (W : World) : Below W.heap.size W W.drew := (Below.refl _ W).drew
def ReadP (w : World) (l : List Nat) (er : Int) (e : Ending) (w' : World) : Prop := ∃ A c, e = .returned (.tuple #[.slice A l.length c, .int .i64 er]) ∧ l.length ≤ c ∧ kF.C w' A l.length l ∧ Below w.heap.size w w'

set_option maxHeartbeats 4000000 in
set_option maxRecDepth 100000 in
theorem read_odd (A : Option Addr) (cap n : Nat) (w : World) (hl : n ≤ 1000) (h8 : n % 8 ≠ 0) : Calls Try.prog 22 #[.slice A n cap] w (ReadP w [] 2) := by
  have hne : ((n : Int) % 8 == 0) = false := by simp only [beq_eq_false_iff_ne]; omega
  have hne2 : ((n : Int) % 8 != 0) = true := by simp only [bne_iff_ne]; omega
  go_enter Try.func22, Try.ntmps22
  go_wp2_with fail
  go_ret2
  exact ⟨none, 0, rfl, Nat.le_refl _, Kd.C_nil _ _, Below.refl _ _⟩

set_option maxHeartbeats 8000000 in
set_option maxRecDepth 100000 in
theorem read_even (A : Option Addr) (cap m : Nat) (bs : List Int) (w : World) (hn : bs.length = 8 * m) (hC : (Kd.int .u8).C w A bs.length bs) (hcap : bs.length ≤ cap) (hl : bs.length ≤ 1000) (ho : Oct bs) : Calls Try.prog 22 #[.slice A bs.length cap] w (ReadP w (readF bs) 0) := by
  refine (callsIn_wide (n := 10)).1 ?_
  have HC := Lib.hid hC
  have HO := Lib.hid ho
  have HN := Lib.hid hn
  clear hC ho
  have hne : ((8 * (m : Int)) % 8 == 0) = true := by simp only [beq_iff_eq]; omega
  have hne2 : ((8 * (m : Int)) % 8 != 0) = false := by simp
  rw [hn] at hcap hl ⊢
  clear hn
  refine callsIn_of_wp_marks Try.func22 rfl trivial ?_ rfl
  simp only [Try.ntmps22, List.size_toArray, List.length_cons, List.length_nil, Nat.reduceAdd, Nat.reduceSub, Array.replicate_succ, Array.replicate_zero, List.push_toArray, List.append_toArray, List.nil_append, List.cons_append]
  gi_wp2_with (refine ⟨trivial, ?_⟩; gi_at_call 37; refine (chunk_in Fence.wide _ trivial rfl _ _ _ _).mono ?_; rintro e w' ⟨rfl, rfl⟩)
  have bO := Boxed.new w 22 (.slice none 0 0)
  have bS := Boxed.new (w.alloc (.cells #[.slice none 0 0] 22)) 41 (.slice A (8 * m) cap)
  have bN := Boxed.new ((w.alloc (.cells #[.slice none 0 0] 22)).alloc (.cells #[.slice A (8 * m) cap] 41)) 3 (.int .i64 8)
  simp only [World.size_alloc] at bS bN
  have hB0 : Below w.heap.size w (((w.alloc (.cells #[.slice none 0 0] 22)).alloc (.cells #[.slice A (8 * m) cap] 41)).alloc (.cells #[.int .i64 8] 3)) := (((Below.refl _ w).alloc (Nat.le_refl _) _).alloc (by simp) _).alloc (by simp; omega) _
  obtain ⟨i0, hi, hz0, hz1, hz2⟩ := info_parts info28
  refine wpIn_rangeFunc_ownG rfl (by omega) (gf := 38) (lb := #[.pointer (some ⟨w.heap.size + 1, 0, none⟩), .pointer (some ⟨w.heap.size + 1 + 1, 0, none⟩)]) rfl trivial (enters_of Try.func38 (by kernel_rfl) rfl)
    (chunk_stops Fence.wide _ trivial rfl (by omega) (w.heap.size + 1) (w.heap.size + 1 + 1) w.heap.size A m cap hcap (by omega) _ (bS.alloc _) bN) kpc_t (kpc_b _ (by simp) (by simp) (by simp; omega)) (Below.refl _ _) (fun _ => rfl)
    (fun pre W => (∃ v, Boxed W w.heap.size 22 v ∧ W.ownsRow w.heap.size 28 1 v pre.length (pre.map (fun x : Ck m => Value.float .f64 (pv bs (8 * x.1) 8))) ∧ True) ∧ (Below w.heap.size w W ∧ (Boxed W (w.heap.size + 1) 41 (.slice A (8 * m) cap) ∧ Boxed W (w.heap.size + 1 + 1) 3 (.int .i64 8))))
    (fun _ _ _ => False)
    (OwnFrom.and (Own.from (holdsRow_own w.heap.size w.heap.size 22 28 1 (fun pre : List (Ck m) => pre.length) (fun pre => pre.map (fun x : Ck m => Value.float .f64 (pv bs (8 * x.1) 8))) (fun _ _ => True)) _)
      (OwnFrom.and (ownFrom_below (Nat.le_refl _) (by simp; omega)) (OwnFrom.and (Own.from (boxed_own _ _ (fun _ => .slice A (8 * m) cap)) _) (Own.from (boxed_own _ _ (fun _ => .int .i64 8)) _))))
    (fun _ _ _ _ _ hs _ _ => hs)
    ⟨⟨_, (bO.alloc _).alloc _, World.ownsRow_nil _ _ _ _, trivial⟩, hB0, bS.alloc _, bN⟩
    (fun x => { tmps := #[.slice A (8 * m) cap, undef, .slice none 0 0, .int .i64 0, .pointer (some ⟨w.heap.size, 0, none⟩), .slice (A.map (·.add (8 * x.1))) 8 8, undef, undef, undef, .slice A (8 * m) cap, .int .i64 (8 * (m : Int)), .int .i64 0, .bool false, .slice A (8 * m) cap, .func (.func 38) #[] #[.pointer (some ⟨w.heap.size + 1, 0, none⟩), .pointer (some ⟨w.heap.size + 1 + 1, 0, none⟩)], .slice (A.map (·.add (8 * x.1))) 8 8, undef, undef, undef, undef, undef, undef, undef, undef, undef, undef, undef, undef, undef, undef, undef, undef, undef, undef, undef, undef, undef], defers := [] }) ?assign ?body ?done ?stop
  case assign =>
    intro l x W K hK
    dsimp only [ckv]
    gi_wp2
    exact hK
  case body =>
    rintro l pre x W ⟨⟨v, hv, hrow, -⟩, hB, hS, hN⟩ hlt
    obtain ⟨k, hk⟩ := x
    have HC2 := Lib.hid (Kd.C_below HC.out hB)
    obtain ⟨ad, hA, _⟩ := u8_at HC2.out (8 * k) (by rw [HN.out]; omega)
    subst hA
    have HCE : Hid (∀ j, j < 8 → W.cell? ((ad.add (8 * k)).add j) = some (.int .u8 (bs.getD (8 * k + j) 0)) ∧ 0 ≤ bs.getD (8 * k + j) 0 ∧ bs.getD (8 * k + j) 0 ≤ 255) := Lib.hid (fun j hj => by
      obtain ⟨ad2, hA2, hx⟩ := u8_at HC2.out (8 * k + j) (by rw [HN.out]; omega)
      obtain rfl : ad = ad2 := Option.some.inj hA2
      rw [add_add]
      exact ⟨hx, Oct.at HO.out _⟩)
    have HV := Lib.hid hv
    have HROW := Lib.hid hrow
    have HB := Lib.hid hB
    have HS := Lib.hid hS
    have HN2 := Lib.hid hN
    clear hv hrow hB hS hN bO bS bN hB0
    simp only [Option.map_some]
    gi_wp2
    gi_loop [6, 18] (fun b i => ∃ j : Nat, j ≤ 8 ∧ i = .int .i64 j ∧ b = .int .u64 (pv bs (8 * k) j : Nat)) (fun _ i => 8 - (intOf i).toNat)
    case atStart => exact ⟨0, Nat.zero_le _, rfl, rfl⟩
    case round =>
      obtain ⟨j, hj, rfl, rfl⟩ := hrel
      by_cases hjl : j < 8
      · obtain ⟨hce, hc0, hc1⟩ := HCE.out j hjl
        have HPV := Lib.hid (show pv bs (8 * k) (j + 1) = pv bs (8 * k) j + (bs.getD (8 * k + j) 0).toNat * 2 ^ (8 * j) from rfl)
        have HOR := Lib.hid (or_shift (pv_lt HO.out (8 * k) j) hc0 hc1 hjl)
        have HPL := Lib.hid (pv_lt HO.out (8 * k) j)
        generalize bs.getD (8 * k + j) 0 = c at *
        gi_wp2
        go_round
        case rel => exact ⟨j + 1, by omega, by go_num, by rw [HOR.out, HPV.out]⟩
        case measure => simp [intOf]; omega
      · obtain rfl : j = 8 := by omega
        have h29 := ext29 (pv bs (8 * k) 8)
        generalize hgy : pv bs (8 * k) 8 = y at *
        have HY := Lib.hid hgy
        clear hgy
        obtain ⟨A2, c2, rfl⟩ := own_slice HROW.out
        have hrow1 : ((W.alloc (.cells #[.float .f64 y] 28)).drew).ownsRow w.heap.size 28 1 (.slice A2 pre.length c2) pre.length (pre.map (fun x : Ck m => Value.float .f64 (pv bs (8 * x.1) 8))) := pw_own_below (HROW.out.alloc _) (drew_below _)
        obtain ⟨v1, w1, hrun, hown1, hgr1, _, _⟩ := run_append_own_at (P := Try.prog) ((W.alloc (.cells #[.float .f64 y] 28)).drew) w.heap.size 22 22 28 i0 (.float .f64 0) 1 8 Try.underlying22 hi hz0 hz1 hz2 rfl (by decide) _ _ _ hrow1 ⟨W.heap.size, 0, none⟩ 1 1 [.float .f64 y] rfl (cell_one_new _ _ _) (by simp [Value.oneCell']) (by unfold maxLen; omega) (by omega) (by have := HB.out.size; simp; omega)
        obtain ⟨g1, c1, rfl⟩ := ownsRow_succ hown1
        have hgr2 : (W.alloc (.cells #[.float .f64 y] 28)).grownBy w1 (Value.slice A2 pre.length c2).ownBlock := World.grownBy.trans (drew_grown _ _) hgr1
        obtain ⟨hv1, hv2, hr2, hk2, hb2⟩ := HV.out.appended (by decide) HROW.out HB.out.size (Nat.le_refl _) hown1 hgr2
        have hs1 := (HS.out.alloc (.cells #[.float .f64 y] 28)).kept hgr2 (HS.out.not_row (by decide) HROW.out)
        have hn1 := (HN2.out.alloc (.cells #[.float .f64 y] 28)).kept hgr2 (HN2.out.not_row (by decide) HROW.out)
        have hs2 : Boxed (w1.setCell ⟨w.heap.size, 0, none⟩ (.slice (some ⟨g1, 0, none⟩) (pre.length + 1) c1)) (w.heap.size + 1) 41 (.slice (some ad) (8 * m) cap) := (Below.heap_setCell w1 ⟨w.heap.size, 0, none⟩ _ (w.heap.size + 1) (by show w.heap.size + 1 ≠ w.heap.size; omega)).trans hs1
        have hn2 : Boxed (w1.setCell ⟨w.heap.size, 0, none⟩ (.slice (some ⟨g1, 0, none⟩) (pre.length + 1) c1)) (w.heap.size + 1 + 1) 3 (.int .i64 8) := (Below.heap_setCell w1 ⟨w.heap.size, 0, none⟩ _ (w.heap.size + 1 + 1) (by show w.heap.size + 1 + 1 ≠ w.heap.size; omega)).trans hn1
        have hkp : KpC w.heap.size (w.heap.size + 1) (w.heap.size + 1 + 1) W (w1.setCell ⟨w.heap.size, 0, none⟩ (.slice (some ⟨g1, 0, none⟩) (pre.length + 1) c1)) :=
          ⟨hb2, fun u hu => by have := hu.cell.symm.trans HS.out.cell; cases this; exact hs2, fun u hu => by have := hu.cell.symm.trans HN2.out.cell; cases this; exact hn2⟩
        have hr3 : (w1.setCell ⟨w.heap.size, 0, none⟩ (.slice (some ⟨g1, 0, none⟩) (pre.length + 1) c1)).ownsRow w.heap.size 28 1 (.slice (some ⟨g1, 0, none⟩) (pre.length + 1) c1) (pre ++ [(⟨k, hk⟩ : Ck m)]).length ((pre ++ [(⟨k, hk⟩ : Ck m)]).map (fun x : Ck m => Value.float .f64 (pv bs (8 * x.1) 8))) := by
          simp only [List.length_append, List.length_singleton, List.map_append, List.map_cons, List.map_nil, HY.out]
          exact hr2
        have HFIN := Lib.hid (And.intro hk2 (And.intro hkp (And.intro (And.intro hr3 hv2) (And.intro (HB.out.trans hb2) (And.intro hs2 hn2)))))
        have HRUN := Lib.hid hrun
        have hc := HV.out.cell
        have hcA := (HV.out.alloc (.cells #[.float .f64 y] 28)).cell
        have hc1 := hv1.cell
        have hf1 := hv1.frozen
        clear hrun hown1 hgr1 hgr2 hrow1 hv1 hv2 hr2 hr3 hk2 hb2 hs1 hn1 hs2 hn2 hkp
        gi_wp2
        refine wpIn_region_any (by kernel_rfl) ?_
        change wpAnyIn _ _ _ _ _ _ _ _ _ (World.drew _)
        refine wpAnyIn_ready (rs := [0, 1]) (by kernel_rfl) (by simp) ?_
        refine AllReadyIn.cons rfl (fun K hK => ?_) ?_
        · go_simp
          refine hK _ _ ?_
          clear hK K
          refine wpAnyIn_ready (rs := [1]) (by kernel_rfl) (by simp) ?_
          refine AllReadyIn.cons rfl (fun K hK => ?_) ?_
          · go_simp
            refine hK _ _ ?_
            clear hK K
            refine wpAnyIn_ready (rs := [2]) (by kernel_rfl) (by simp) ?_
            refine AllReadyIn.cons rfl (fun K hK => ?_) ?_
            · go_simp
              refine ⟨trivial, ?_⟩
              refine hK _ _ ?_
              clear hK K
              refine wpAnyIn_ready (rs := [3]) (by kernel_rfl) (by simp) ?_
              refine AllReadyIn.cons rfl (fun K hK => ?_) ?_
              · go_simp
                refine hK _ _ ?_
                clear hK K
                refine wpAnyIn_ready (rs := [4]) (by kernel_rfl) (by simp) ?_
                refine AllReadyIn.cons rfl (fun K hK => ?_) ?_
                · refine stepIn_append_run rfl (.tmp 31) (.tmp 34) 22 rfl _ _ _ rfl rfl HRUN.out ?_
                  refine hK _ _ ?_
                  clear hK K
                  refine wpAnyIn_ready (rs := [5]) (by kernel_rfl) (by simp) ?_
                  refine AllReadyIn.cons rfl (fun K hK => ?_) ?_
                  · go_simp
                    refine hK _ _ ?_
                    clear hK K
                    refine wpAnyIn_done (by kernel_rfl) ?_ _
                    (gi_wp2; exact ⟨HFIN.out.1.from _, HFIN.out.2.1, ⟨_, HFIN.out.2.2.1.2, HFIN.out.2.2.1.1, trivial⟩, HFIN.out.2.2.2⟩)
                  exact AllReadyIn.nil
                exact AllReadyIn.nil
              exact AllReadyIn.nil
            exact AllReadyIn.nil
          exact AllReadyIn.nil
        refine AllReadyIn.cons rfl (fun K hK => ?_) ?_
        · go_simp
          refine hK _ _ ?_
          clear hK K
          refine wpAnyIn_ready (rs := [0, 2]) (by kernel_rfl) (by simp) ?_
          refine AllReadyIn.cons rfl (fun K hK => ?_) ?_
          · go_simp
            refine hK _ _ ?_
            clear hK K
            refine wpAnyIn_ready (rs := [2]) (by kernel_rfl) (by simp) ?_
            refine AllReadyIn.cons rfl (fun K hK => ?_) ?_
            · go_simp
              refine ⟨trivial, ?_⟩
              refine hK _ _ ?_
              clear hK K
              refine wpAnyIn_ready (rs := [3]) (by kernel_rfl) (by simp) ?_
              refine AllReadyIn.cons rfl (fun K hK => ?_) ?_
              · go_simp
                refine hK _ _ ?_
                clear hK K
                refine wpAnyIn_ready (rs := [4]) (by kernel_rfl) (by simp) ?_
                refine AllReadyIn.cons rfl (fun K hK => ?_) ?_
                · refine stepIn_append_run rfl (.tmp 31) (.tmp 34) 22 rfl _ _ _ rfl rfl HRUN.out ?_
                  refine hK _ _ ?_
                  clear hK K
                  refine wpAnyIn_ready (rs := [5]) (by kernel_rfl) (by simp) ?_
                  refine AllReadyIn.cons rfl (fun K hK => ?_) ?_
                  · go_simp
                    refine hK _ _ ?_
                    clear hK K
                    refine wpAnyIn_done (by kernel_rfl) ?_ _
                    (gi_wp2; exact ⟨HFIN.out.1.from _, HFIN.out.2.1, ⟨_, HFIN.out.2.2.1.2, HFIN.out.2.2.1.1, trivial⟩, HFIN.out.2.2.2⟩)
                  exact AllReadyIn.nil
                exact AllReadyIn.nil
              exact AllReadyIn.nil
            exact AllReadyIn.nil
          refine AllReadyIn.cons rfl (fun K hK => ?_) ?_
          · go_simp
            refine ⟨trivial, ?_⟩
            refine hK _ _ ?_
            clear hK K
            refine wpAnyIn_ready (rs := [0, 3]) (by kernel_rfl) (by simp) ?_
            refine AllReadyIn.cons rfl (fun K hK => ?_) ?_
            · go_simp
              refine hK _ _ ?_
              clear hK K
              refine wpAnyIn_ready (rs := [3]) (by kernel_rfl) (by simp) ?_
              refine AllReadyIn.cons rfl (fun K hK => ?_) ?_
              · go_simp
                refine hK _ _ ?_
                clear hK K
                refine wpAnyIn_ready (rs := [4]) (by kernel_rfl) (by simp) ?_
                refine AllReadyIn.cons rfl (fun K hK => ?_) ?_
                · refine stepIn_append_run rfl (.tmp 31) (.tmp 34) 22 rfl _ _ _ rfl rfl HRUN.out ?_
                  refine hK _ _ ?_
                  clear hK K
                  refine wpAnyIn_ready (rs := [5]) (by kernel_rfl) (by simp) ?_
                  refine AllReadyIn.cons rfl (fun K hK => ?_) ?_
                  · go_simp
                    refine hK _ _ ?_
                    clear hK K
                    refine wpAnyIn_done (by kernel_rfl) ?_ _
                    (gi_wp2; exact ⟨HFIN.out.1.from _, HFIN.out.2.1, ⟨_, HFIN.out.2.2.1.2, HFIN.out.2.2.1.1, trivial⟩, HFIN.out.2.2.2⟩)
                  exact AllReadyIn.nil
                exact AllReadyIn.nil
              exact AllReadyIn.nil
            refine AllReadyIn.cons rfl (fun K hK => ?_) ?_
            · go_simp
              refine hK _ _ ?_
              clear hK K
              refine wpAnyIn_ready (rs := [0]) (by kernel_rfl) (by simp) ?_
              refine AllReadyIn.cons rfl (fun K hK => ?_) ?_
              · go_simp
                refine hK _ _ ?_
                clear hK K
                refine wpAnyIn_ready (rs := [4]) (by kernel_rfl) (by simp) ?_
                refine AllReadyIn.cons rfl (fun K hK => ?_) ?_
                · refine stepIn_append_run rfl (.tmp 31) (.tmp 34) 22 rfl _ _ _ rfl rfl HRUN.out ?_
                  refine hK _ _ ?_
                  clear hK K
                  refine wpAnyIn_ready (rs := [5]) (by kernel_rfl) (by simp) ?_
                  refine AllReadyIn.cons rfl (fun K hK => ?_) ?_
                  · go_simp
                    refine hK _ _ ?_
                    clear hK K
                    refine wpAnyIn_done (by kernel_rfl) ?_ _
                    (gi_wp2; exact ⟨HFIN.out.1.from _, HFIN.out.2.1, ⟨_, HFIN.out.2.2.1.2, HFIN.out.2.2.1.1, trivial⟩, HFIN.out.2.2.2⟩)
                  exact AllReadyIn.nil
                exact AllReadyIn.nil
              exact AllReadyIn.nil
            exact AllReadyIn.nil
          exact AllReadyIn.nil
        exact AllReadyIn.nil

      
  case done =>
    rintro D ys W hD rfl ⟨⟨v, hv, hrow, -⟩, hB, -, -⟩ hK
    have hc := hv.cell
    obtain ⟨A2, c2, rfl⟩ := own_slice hrow
    gi_wp2
    refine ⟨by simp, .inl ⟨_, _, rfl, run_takeDeferred hK, ?_⟩⟩
    have hm8 : bs.length / 8 = m := by rw [HN.out]; omega
    have hlen : (readF bs).length = m := by rw [readF_len, hm8]
    have hck := cks_len (m := m) m (Nat.le_refl _)
    have hmap : (cks m m).map (fun x : Ck m => Value.float .f64 (pv bs (8 * x.1) 8)) = encs (Value.float .f64) (readF bs) := by
      rw [cks_map (fun k => Value.float .f64 (pv bs (8 * k) 8)) m m (Nat.le_refl _)]
      unfold readF encs
      rw [hm8, List.map_map]
      rfl
    have hrow2 := ownsRow_putObj hrow (.deferred none) hK rfl
    rw [hmap, hck, ← hlen] at hrow2
    have hRR : kF.R 28 (W.putObj D (.deferred none)) w.heap.size (fun _ => True) (.slice A2 (readF bs).length c2) (readF bs) := Kd.R_of_own (h1 := fun _ => rfl) (ok := fun _ => True) hrow2 (fun _ _ => trivial)
    obtain ⟨_, hle, hCC⟩ := Kd.R_reads' hRR
    exact ⟨_, results_tmp2 rfl _ _ _, A2, c2, (by show Ending.returned (Value.tuple #[.slice A2 (cks m m).length c2, .int .i64 0]) = _; rw [hck, hlen]), hle, hCC, hB.trans (belowK_b (w := w) (Nat.le_refl _) W D _ _ (by simp at hD; omega) hK rfl rfl)⟩
  case stop =>
    rintro D c pre W _ _ h _
    exact h.elim

/-! ### Octets -/
theorem reads_u8 {w : World} {A : Option Addr} {n : Nat} {xs : List Int} (h : (Kd.int .u8).C w A n xs) : ReadsInt w .u8 A n xs := by
  refine ⟨h.1, h.2.1, fun h0 => ?_⟩
  obtain ⟨ad, rfl, _⟩ := u8_at h 0 h0
  refine ⟨ad, rfl, fun j hj => ?_⟩
  obtain ⟨ad2, hA2, hx⟩ := u8_at h j hj
  obtain rfl : ad = ad2 := Option.some.inj hA2
  exact hx
theorem octets_same (A Bo : Option Addr) (c d n : Nat) (xs : List Int) (w : World) (h1 : (Kd.int .u8).C w A n xs) (h2 : (Kd.int .u8).C w Bo n xs) : Calls Try.prog 25 #[.slice A n c, .slice Bo n d] w fun e w' => e = .returned (.bool true) ∧ w = w' := by
  have e1 := string_of_reads (P := Try.prog) (src := 41) (dst := 9) (e := 5) (c := c) Try.underlying41 Try.underlying5 Try.underlying9 (reads_u8 h1)
  have e2 := string_of_reads (P := Try.prog) (src := 41) (dst := 9) (e := 5) (c := d) Try.underlying41 Try.underlying5 Try.underlying9 (reads_u8 h2)
  clear h1 h2
  go_enter Try.func25, Try.ntmps25
  go_wp2
  go_ret
  exact ⟨rfl, rfl⟩
end Go.Proofs.Ytakfkkpcdnphlaa
