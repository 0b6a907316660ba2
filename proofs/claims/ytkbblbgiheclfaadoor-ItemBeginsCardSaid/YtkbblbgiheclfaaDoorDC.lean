/- bytes.Count, bytes.Index, at one octet. -/
import Derived.Test.YtkbblbgiheclfaaDoorDP
import Derived.Shelf.Bytes.SlCountOne
import Derived.Shelf.Bytes.SlIndexAt
namespace Go.Proofs.YtkbblbgiheclfaaDoor.Dr
open Go.RowKit Go.Proofs.YtkbblbgiheclfaaDoorW.PrintWords

theorem u8_all {w : World} {ad : Addr} {n : Nat} {l : List Int} (hC : kB.C w (some ad) n l) : ∀ i, i < n → w.cell? (ad.add i) = some (.int .u8 (l.getD i 0)) := fun i hi => by
  obtain ⟨ad2, h, hx⟩ := u8_at hC i hi
  obtain rfl := Option.some.inj h
  exact hx
theorem nil_C {w : World} {n : Nat} {l : List Int} (hC : kB.C w none n l) : n = 0 ∧ l = [] := by
  rcases Nat.eq_zero_or_pos n with h | h
  · exact ⟨h, List.eq_nil_of_length_eq_zero (by have := hC.1; omega)⟩
  · obtain ⟨ad, he, _⟩ := u8_at hC 0 h
    cases he
theorem count_run (A : Option Addr) (n c : Nat) (xs : List Int) (w : World) (hC : kB.C w A n xs) (ho : Oct xs) : (callFunc 64 #[.slice A n c, .int .u8 255]).run Tryd.prog w = .ok (.value (.int .i64 (xs.count 255))) w := by
  rw [run_callFunc_extern Tryd.func64 (by kernel_rfl) (by kernel_rfl) (by kernel_rfl) (e := Extern.BytealgCount.count) (by kernel_rfl)]
  rcases A with _ | ad
  · obtain ⟨rfl, rfl⟩ := nil_C hC
    rw [Lib.run_countNil]
    rfl
  · rw [Lib.run_countAt w ad n c xs hC.1 (u8_all hC), count_byte ho]
    rfl
theorem cnt_any (A : Option Addr) (n c g d : Nat) (xs : List Int) (w : World) (hC : kB.C w A n xs) (ho : Oct xs) (hg : w.cell? ⟨g, 0, none⟩ = some (.int .u8 255)) :
    Calls Tryd.prog 60 #[.slice A n c, .slice (some ⟨g, 0, none⟩) 1 d] w fun e w' => e = .returned (.int .i64 (xs.count 255)) ∧ w = w' := by
  have hrun := count_run A n c xs w hC ho
  clear hC ho
  go_enter Tryd.func60, Tryd.ntmps60
  go_wp2
  go_ret
  exact ⟨rfl, rfl⟩
theorem index_run (ad : Addr) (n c : Nat) (xs : List Int) (w : World) (hC : kB.C w (some ad) n xs) : (callFunc 71 #[.slice (some ad) n c, .int .u8 255]).run Tryd.prog w = .ok (.value (.int .i64 (Lib.indexByte (Lib.bytesOf xs) (255 : Int).toNat.toUInt8))) w := by
  rw [run_callFunc_extern Tryd.func71 (by kernel_rfl) (by kernel_rfl) (by kernel_rfl) (e := Extern.BytealgIndexByte.indexByte) (by kernel_rfl), Lib.run_indexByteAt w ad n c xs hC.1 (u8_all hC)]
  rfl
set_option maxHeartbeats 4000000 in
set_option maxRecDepth 100000 in
theorem idx_any (ad : Addr) (n c g d : Nat) (xs : List Int) (q : Int) (w : World) (hC : kB.C w (some ad) n xs) (hq : Lib.indexByte (Lib.bytesOf xs) (255 : Int).toNat.toUInt8 = q) (hg : w.cell? ⟨g, 0, none⟩ = some (.int .u8 255)) :
    Calls Tryd.prog 61 #[.slice (some ad) n c, .slice (some ⟨g, 0, none⟩) 1 d] w fun e w' => e = .returned (.int .i64 q) ∧ w = w' := by
  have hrun := index_run ad n c xs w hC
  rw [hq] at hrun
  clear hC hq
  go_enter Tryd.func61, Tryd.ntmps61
  go_wp2
  go_ret
  exact ⟨rfl, rfl⟩
end Go.Proofs.YtkbblbgiheclfaaDoor.Dr
