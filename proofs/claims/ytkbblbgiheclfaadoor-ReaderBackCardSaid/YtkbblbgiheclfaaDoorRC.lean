/- A reader at work: an octet, place by place. -/
import Derived.Test.YtkbblbgiheclfaaDoorRB
import Derived.Test.YtkbblbgiheclfaaDoorP1
namespace Go.Proofs.YtkbblbgiheclfaaDoor
open Go.RowKit Go.Proofs.YtkbblbgiheclfaaDoorW.PrintWords

/-- An item that has no octets, out of one row. -/
theorem it_one {w : World} {A : Option Addr} {x : It} (h : kIt.C w A 1 [x]) (hl : x.l = []) : ∃ ad B c, A = some ad ∧ w.cell? ad = some (.int .i64 x.k) ∧ w.cell? ⟨ad.block, ad.off + 1, none⟩ = some (.int .i64 x.a) ∧
      w.cell? ⟨ad.block, ad.off + 2, none⟩ = some (.int .i64 x.b) ∧ w.cell? ⟨ad.block, ad.off + 3, none⟩ = some (.slice B 0 c) := by
  obtain ⟨ad, B, c, rfl, h0, h1, h2, h3, _, _⟩ := it_at h 0 (by omega)
  have e : ad.add (0 * 4) = ad := by
    unfold Addr.add
    simp
  simp only [List.getD_cons_zero] at h0 h1 h2 h3
  rw [e] at h0 h1 h2 h3
  rw [hl] at h3
  exact ⟨ad, B, c, rfl, h0, h1, h2, h3⟩
theorem it_FKe (x : It) (hl : x.l = []) (B : Option Addr) (c : Nat) (W : World) (ok : Nat → Prop) : Kd.FK kIt W ok x [.int .i64 x.k, .int .i64 x.a, .int .i64 x.b, .slice B x.l.length c] :=
  it_FK (by rw [hl]; exact Nat.zero_le _) (fun W' _ => by rw [hl]; exact ⟨rfl, by simp, fun h => absurd h (Nat.lt_irrefl 0)⟩)
theorem WS.below_ {w0 w w1 : World} {n g : Nat} {sp : Sps} {r : Rd} {vL vO : Value} {out : List It} (h : WS w0 n g sp w r vL vO out) (hb : Below w.heap.size w w1) : WS w0 n g sp w1 r vL vO out :=
  ⟨(hb.block g h.lt).trans h.blk, h.hg, Kd.R_below h.rowL hb, Kd.N_below h.rowO hb, h.below.trans (hb.mono (by have := h.below.size; have := h.lt; have := h.hg; omega)), h.spare.below hb⟩
/-- An item without octets is told. -/
theorem WS.tell {w0 w : World} {n g : Nat} {sp : Sps} {r : Rd} {vL vO : Value} {out : List It} (x : It) (hx : x.l = []) (B : Option Addr) (c : Nat) (h : WS w0 n g sp w r vL vO out) (hl : out.length ≤ 1000000) :
    Calls Tryd.prog 58 #[.pointer (some ⟨g, 0, none⟩), .agg #[.int .i64 x.k, .int .i64 x.a, .int .i64 x.b, .slice B 0 c]] w (WP w0 n g sp (inR 0) (out ++ [x])) := by
  have := tell_any x B c (fun _ => False) h.blk h.hg (Kd.N_mono h.rowO (fun _ hk => hk.1)) h.below (it_FKe x hx B c _ _) (fun _ hk => hk.elim) hl h.spare
  rw [hx] at this
  exact this
theorem WP.imp {w0 : World} {n g : Nat} {sp : Sps} {r r' : Rd} {out out' : List It} {e : Ending} {w : World} (h : WP w0 n g sp r out e w) (h1 : r = r') (h2 : out = out') : WP w0 n g sp r' out' e w := h1 ▸ h2 ▸ h

theorem lit_B (W : World) (l : List Int) (hm : l.length ≤ 9223372036854775807) : kB.C (W.alloc (.cells (l.map (Value.int .u8)).toArray 5)) (some ⟨W.heap.size, 0, none⟩) l.length l := by
  have h := own_lit_of (enc := Value.int .u8) W 0 5 l (Nat.zero_le _) hm
  exact (Kd.R_reads' (Kd.R_of_own (h1 := fun _ => rfl) (ok := fun _ => True) h (fun _ _ => trivial))).2.2
/-- One octet of data, told. -/
theorem data_one (c : Int) (hc0 : 0 ≤ c) (hc1 : c ≤ 255) (w : World) : Calls Tryd.prog 16 #[.slice (some ⟨w.heap.size, 0, none⟩) 1 1] (w.alloc (.cells #[.int .u8 c] 5)) fun e w' => ∃ ad B c3 c4, e = .returned (.slice (some ad) 1 c3) ∧ w'.cell? ad = some (.int .i64 1) ∧ w'.cell? ⟨ad.block, ad.off + 1, none⟩ = some (.int .i64 c) ∧
      w'.cell? ⟨ad.block, ad.off + 2, none⟩ = some (.int .i64 0) ∧ w'.cell? ⟨ad.block, ad.off + 3, none⟩ = some (.slice B 0 c4) ∧ Below w.heap.size w w' := by
  refine (data_any (some ⟨w.heap.size, 0, none⟩) 1 [c] _ (lit_B w [c] (by simp)) (by simp) (Oct.one hc0 hc1)).mono ?_
  rintro e w' ⟨A, c3, rfl, _, hC, hb⟩
  obtain ⟨ad, B, c4, rfl, h0, h1, h2, h3⟩ := it_one (x := datI c) hC rfl
  exact ⟨ad, B, c3, c4, rfl, h0, h1, h2, h3, (below_alloc (Below.refl _ w) _).trans (hb.mono (by simp))⟩

set_option maxHeartbeats 4000000 in
set_option maxRecDepth 100000 in
theorem wdata_any (c : Int) {w0 w : World} {n g : Nat} {sp : Sps} {r : Rd} {vL vO : Value} {out : List It} (hc : 0 ≤ c ∧ c ≤ 255) (h : WS w0 n g sp w r vL vO out) (hl : out.length ≤ 1000000) :
    Calls Tryd.prog 47 #[.pointer (some ⟨g, 0, none⟩), .int .u8 c] w (WP w0 n g sp (dataF c).1 (out ++ (dataF c).2)) := by
  obtain ⟨hc0, hc1⟩ := hc
  have H := Lib.hid h
  have hlt := h.lt
  clear h
  by_cases h255 : c = 255
  · subst h255
    have e1 : dataF 255 = (inR 2, []) := rfl
    rw [e1]
    have HT := Lib.hid (H.out.to 2)
    go_enter Tryd.func47, Tryd.ntmps47
    go_wp2_with (go_at_call 57; refine (HT.out).mono ?_; rintro e w' ⟨v, vL', vO', rfl, hws⟩; have HWS := Lib.hid hws; clear hws)
    refine bodyPost_ret (results_none rfl _ _ _) rfl ?_
    exact ⟨_, vL', vO', rfl, by rw [List.append_nil]; exact HWS.out⟩
  · have hb255 : (c == 255) = false := beq_eq_false_iff_ne.2 h255
    have e1 : dataF c = if c = 13 then (inR 1, [datI c]) else (inR 0, [datI c]) := by unfold dataF; rw [if_neg h255]
    have E1 := Lib.hid e1
    clear e1 h255
    go_enter Tryd.func47, Tryd.ntmps47
    have HD := Lib.hid (data_one c hc0 hc1 w)
    go_wp2_with fail
    (with_reducible refine (HD.out).mono ?_)
    rintro e w1 ⟨ad, B, c3, c4, rfl, x0, x1, x2, x3, hb1⟩
    have HT := Lib.hid (WS.tell (datI c) rfl B c4 (H.out.below_ hb1) hl)
    clear HD H hb1
    go_wp2_with fail
    refine (HT.out).mono ?_
    rintro e w2 ⟨v, vL', vO', rfl, hws⟩
    have HWS := Lib.hid hws
    clear hws HT x0 x1 x2 x3
    by_cases h13 : c = 13
    · have HR := Lib.hid (show dataF c = (inR 1, [datI c]) by rw [E1.out, if_pos h13])
      have hb13 : (c == 13) = true := beq_iff_eq.2 h13
      have HT := Lib.hid (HWS.out.to 1)
      clear h13
      go_wp2_with fail
      (with_reducible refine (HT.out).mono ?_)
      rintro e w3 ⟨v, vL3, vO3, rfl, hws3⟩
      have HWS3 := Lib.hid hws3
      clear hws3
      go_wp2_with fail
      refine bodyPost_ret (results_none rfl _ _ _) rfl ?_
      exact ⟨_, vL3, vO3, rfl, by rw [HR.out]; exact HWS3.out⟩
    · have HR := Lib.hid (show dataF c = (inR 0, [datI c]) by rw [E1.out, if_neg h13])
      have hb13 : (c == 13) = false := beq_eq_false_iff_ne.2 h13
      clear h13
      go_wp2_with fail
      refine bodyPost_ret (results_none rfl _ _ _) rfl ?_
      exact ⟨_, vL', vO', rfl, by rw [HR.out]; exact HWS.out⟩
end Go.Proofs.YtkbblbgiheclfaaDoor
