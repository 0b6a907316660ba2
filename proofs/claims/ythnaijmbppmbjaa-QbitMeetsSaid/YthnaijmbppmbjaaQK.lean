/- What happens, once, as it lies in memory. -/
import Derived.Test.YthnaijmbppmbjaaQG
namespace Go.Proofs.Ythnaijmbppmbjaa
open Go.RowKit Go.Proofs.YthnaijmbppmbjaaW.PrintWords

/-- What happens, once: who it is, whether what was said comes, on or off. -/
def kAct : Kd (Int × Bool × Bool) := Kd.pair (Kd.int .u8) (Kd.pair Kd.bool Kd.bool)
def zAct : Int × Bool × Bool := (0, false, false)
theorem act_at {w : World} {A : Option Addr} {n : Nat} {l : List (Int × Bool × Bool)} (hC : kAct.C w A n l) (k : Nat) (hk : k < n) :
    ∃ ad, A = some ad ∧ w.cell? (ad.add (k * 3)) = some (.int .u8 (l.getD k zAct).1) ∧ w.cell? ⟨(ad.add (k * 3)).block, (ad.add (k * 3)).off + 1, none⟩ = some (.bool (l.getD k zAct).2.1) ∧
      w.cell? ⟨(ad.add (k * 3)).block, (ad.add (k * 3)).off + 2, none⟩ = some (.bool (l.getD k zAct).2.2) := by
  obtain ⟨ad, c, rfl, _, hK, hc⟩ := Kd.C_get hC zAct (k : Int) (by omega) (by omega)
  obtain ⟨c0, c1, rfl, h0, c2, c3, rfl, h1, h2⟩ := hK
  have h0' : c0 = [.int .u8 (l.getD k zAct).1] := h0
  have h1' : c2 = [.bool (l.getD k zAct).2.1] := h1
  have h2' : c3 = [.bool (l.getD k zAct).2.2] := h2
  subst h0' h1' h2'
  have e : (k : Int).toNat * kAct.sz = k * 3 := by
    show (k : Int).toNat * 3 = k * 3
    omega
  rw [e] at hc
  refine ⟨ad, rfl, hc 0 _ rfl, ?_, ?_⟩
  · rw [← add_field _ _ 1 (by omega)]
    exact hc 1 _ rfl
  · rw [← add_field _ _ 2 (by omega)]
    exact hc 2 _ rfl

end Go.Proofs.Ythnaijmbppmbjaa
