/- Small words of the door's texts. -/
import Derived.Test.YtkbblbgiheclfaaDoorID
import Derived.Laws.Rows
import Derived.Laws.CopyOwn
import Derived.Laws.EntriesVeiled
import Derived.Deep.RegionWith
import Derived.Deep.RegionLaw
import Derived.Deep.RegionHeld3
namespace Go.Proofs.YtkbblbgiheclfaaDoor.Dr
open Go.RowKit Go.Proofs.YtkbblbgiheclfaaDoorW.PrintWords

theorem alloc_at (w : World) (o : Obj) : (w.alloc o).heap[w.heap.size]? = some o := by
  show (w.heap.push o)[w.heap.size]? = some o
  simp
theorem blk_facts4 {w : World} {g T : Nat} {a b c d : Value} (h : w.heap[g]? = some (.cells #[a, b, c, d] T (0, 0))) :
    w.cell? ⟨g, 0, none⟩ = some a ∧ w.cell? ⟨g, 1, none⟩ = some b ∧ w.cell? ⟨g, 2, none⟩ = some c ∧ w.cell? ⟨g, 3, none⟩ = some d ∧
      w.frozen? ⟨g, 0, none⟩ = false ∧ w.frozen? ⟨g, 1, none⟩ = false ∧ w.frozen? ⟨g, 2, none⟩ = false ∧ w.frozen? ⟨g, 3, none⟩ = false :=
  ⟨blk_cell h 0, blk_cell h 1, blk_cell h 2, blk_cell h 3, blk_frozen h 0, blk_frozen h 1, blk_frozen h 2, blk_frozen h 3⟩
/-- Octets laid as a literal. -/
theorem oct_R (W : World) (l : List Int) (hm : l.length ≤ 9223372036854775807) : kB.R 5 (W.alloc (.cells (l.map (Value.int .u8)).toArray 5)) W.heap.size (fun k => k = W.heap.size) (.slice (some ⟨W.heap.size, 0, none⟩) l.length l.length) l :=
  Kd.R_of_own (h1 := fun _ => rfl) (ok := fun k => k = W.heap.size) (own_lit_of (enc := Value.int .u8) W W.heap.size 5 l (Nat.le_refl _) hm) (fun k hk => by
    have : W.heap.size = k := by simpa [Value.ownBlock] using hk
    exact this.symm)
theorem oct_F (W : World) (l : List Int) (hm : l.length ≤ 9223372036854775807) : Kd.F kB (W.alloc (.cells (l.map (Value.int .u8)).toArray 5)) (fun k => k = W.heap.size) (some ⟨W.heap.size, 0, none⟩) l.length l := Kd.R_F (oct_R W l hm)
theorem oct_C (W : World) (l : List Int) (hm : l.length ≤ 9223372036854775807) : kB.C (W.alloc (.cells (l.map (Value.int .u8)).toArray 5)) (some ⟨W.heap.size, 0, none⟩) l.length l := Kd.F_now (oct_F W l hm)
end Go.Proofs.YtkbblbgiheclfaaDoor.Dr
