/- The law ReaderAgain. -/
import Derived.Test.YtkbblbgiheclfaaDoorQR
import Derived.Test.YtkbblbgiheclfaaDoorRW
namespace Go.Proofs.YtkbblbgiheclfaaDoor.Dq
open Go.RowKit Go.Proofs.YtkbblbgiheclfaaDoorW.PrintWords Go.Proofs.YtkbblbgiheclfaaDoor.Dr

set_option maxHeartbeats 4000000 in
set_option maxRecDepth 100000 in
theorem again_law (A : Option Addr) (c : Nat) (b0 : List Int) (w : World) (hB : kB.C w A b0.length b0) (hc : b0.length ≤ c) (ho : Oct b0) :
    Calls Tryd.prog 9 #[.slice A b0.length c] w (AwakeP w) := by
  have HFW := Lib.hid (bfew_any A c b0 w hc hB.2.1)
  have hB2 := take_B hB 200
  have ho2 := ho.take 200
  have hbl : (b0.take 200).length ≤ 200 := by rw [List.length_take]; omega
  clear hB hc ho
  generalize b0.take 200 = b at *
  generalize b0.length = n at *
  have hm0 : mayR (inR 0) = true := by decide +kernel
  obtain ⟨hg1, hg2, hg3⟩ := good_feed b (inR 0) hm0 Oct.nil ho2
  have hcost := cost_feed b (inR 0)
  have hll := len_feed b (inR 0)
  have HF1 : Hid (Calls Tryd.prog 27 #[.agg #[.int .i64 0, .int .i64 0, .int .i64 0, .slice none 0 0], .slice A b.length c] w (FeedP w (feedF (inR 0) b).1 (feedF (inR 0) b).2 0)) := Lib.hid (feed_is (inR 0) _ _ none A 0 b.length 0 c b w rfl rfl (Kd.C_nil _ _) (Nat.le_refl _) hm0 hB2 (by omega) ho2 rfl)
  generalize feedF (inR 0) b = fr at *
  obtain ⟨⟨i, v, o, lr⟩, l⟩ := fr
  dsimp only at *
  have hms := mays_of hg3
  have hfp := feed_puts hms
  have hop := puts_oct hms hg2
  have hpl : (putsF l).length ≤ 2 * b.length + 6 := by
    have : holdR (inR 0) = 0 := rfl
    unfold costF at hcost
    dsimp only at hcost
    omega
  have HPT : Hid (∀ A c w', kIt.C w' A l.length l → Calls Tryd.prog 15 #[.slice A l.length c] w' (PutQ w' (putsF l) 0)) := Lib.hid (fun A c w' h => by
    have h2 := put_q A c l w' h hg2 (by omega)
    rw [(errs_yes hms).1, (errs_yes hms).2] at h2
    exact h2)
  have HF2 : Hid (∀ A c w', kB.C w' A (putsF l).length (putsF l) → Calls Tryd.prog 27 #[.agg #[.int .i64 0, .int .i64 0, .int .i64 0, .slice none 0 0], .slice A (putsF l).length c] w' (FeedP w' (inR 0) l 0)) := Lib.hid (fun A c w' h => feed_is (inR 0) (inR 0) l none A 0 _ 0 c (putsF l) w' rfl rfl (Kd.C_nil _ _) (Nat.le_refl _) hm0 h (by omega) hop hfp)
  have HSM : Hid (∀ A B c d w', kIt.C w' A l.length l → kIt.C w' B l.length l → Calls Tryd.prog 19 #[.slice A l.length c, .slice B l.length d] w' (BoolP w' true)) := Lib.hid (fun A B c d w' h1 h2 => by
    have h3 := isame_any A B c d l l w' h1 h2 hg2 hg2
    rw [decide_eq_true rfl] at h3
    exact h3)
  clear hB2 ho2 hg1 hg2 hg3 hcost hms hfp hop hm0
  generalize putsF l = p at *
  go_enter Tryd.func9, Tryd.ntmps9
  go_wp2_with (first
    | (go_at_call 11; (with_reducible refine (HFW.out).mono ?_); rintro e w' ⟨rfl, rfl⟩)
    | (go_at_call 27; (with_reducible refine (HF1.out).mono ?_); rintro e w1 ⟨A5, c5, B5, d5, rfl, hle5, hlx5, _, hI5, hb5⟩; have HI5 := Lib.hid (Kd.F_now hI5); have HB5 := Lib.hid hb5; clear hI5 hb5)
    | (go_at_call 15; (refine Calls.mono (HPT.out B5 d5 _ (Kd.C_alloc HI5.out _)) ?_); rintro e w2 ⟨A6, c6, rfl, hc6, hC6, hb6⟩; have HC6 := Lib.hid hC6; have HI6 := Lib.hid (Kd.C_below (Kd.C_alloc HI5.out _) hb6); have HB6 := Lib.hid (below_box HB5.out hb6); clear hC6 hb6)
    | (go_at_call 27; (refine Calls.mono (HF2.out A6 c6 _ HC6.out) ?_); rintro e w3 ⟨A7, c7, B7, d7, rfl, hle7, hlx7, _, hI7, hb7⟩; have HI7 := Lib.hid (Kd.F_now hI7); have HI67 := Lib.hid (Kd.C_below HI6.out hb7); have HB7 := Lib.hid (HB6.out.trans (hb7.mono HB6.out.size)); clear hI7 hb7)
    | (go_at_call 19; (refine Calls.mono (HSM.out B7 B5 d7 d5 _ (Kd.C_alloc HI7.out _) (Kd.C_alloc HI67.out _)) ?_); rintro e w4 ⟨rfl, hb8⟩; have HB8 := Lib.hid (below_box HB7.out hb8); clear hb8)
    | (go_at_call 28; refine (awake_any _).mono ?_; rintro e w5 ⟨rfl, hb9⟩; have HB9 := Lib.hid (HB8.out.trans (hb9.mono HB8.out.size)); clear hb9))
  go_ret
  exact ⟨rfl, HB9.out⟩
end Go.Proofs.YtkbblbgiheclfaaDoor.Dq
