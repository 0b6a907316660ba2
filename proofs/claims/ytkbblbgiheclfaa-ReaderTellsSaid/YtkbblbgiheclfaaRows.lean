/-
  No cell of these rows narrows 'for every input' (looked for: loops, veiled, ifaces, maps, wideKeys, modest, calm, conditions, laid).
  DERIVED. THE GIVEN ROWS OF THIS SEAT. 3 by the template 'for every input the law returns true; each argument reads behind the call as it read before'; 0 by the template 'total and deterministic' (their statements: YtkbblbgiheclfaaTotals.lean).
  GIVEN WITH THE SEED: the statements are not yours to turn. If you find one false, say at which input.
  Laid BY PROGRAM, IN A SANDBOX (cutbox-rows.mjs): the forced cells as the released guide's own fill.sh prints them over the translation 5d31e9f0198ba469… (all of the seat's roots in one cut). By AI agents, Wed Nov 11 2026. No macro, syntax, notation, axiom, sorry.
-/
import Derived.Test.YtkbblbgiheclfaaChecked
import GoSem.Claim
import GoSem.ClaimJoined
import GoSem.ClaimMapViews
import Derived.JoinedTies
import Derived.KernelRfl
namespace Go.Proofs.Ytkbblbgiheclfaa
/- THE CELL 'sum', in the pinned program and in every row, IS THE sha256 OF THE DUMP (.gsa) THAT YtkbblbgiheclfaaProg.lean LOADS. Nothing in Lean hashes anything: it is a label: what it is worth is what the hold of that sum in a sandbox is worth. -/
noncomputable def Try.pinned : Pinned := { name := "ytkbblbgiheclfaa", sum := "5d31e9f0198ba469c6458e612e5c368ff93f6bd0d3b9b2ab989f2e6613d0b72a", checked := Try.checked }
namespace Rows
def none {H : Type} : Left H := { results := [], args := [] }

/-- 'linnetlaw04.ReaderKeeps': WHATEVER THE INPUT: true; the input reads as it did. -/
def readerKeepsSpec : ChangeSpec := { name := "readerKeeps", fn := fun _ => fun
  | [d1, d2, d3] => { results := [.lit (.bool true)], args := [d1, d2, d3] }
  | _ => none }
def readerKeepsRow : OpenClaim := { program := "ytkbblbgiheclfaa", sum := "5d31e9f0198ba469c6458e612e5c368ff93f6bd0d3b9b2ab989f2e6613d0b72a", func := "linnet/linnetlaw04.ReaderKeeps", spec := "readerKeeps", unfollowed := true, recurses := true, apart := false }
def ReaderKeepsSaid : Prop := readerKeepsRow.holds Try.pinned (OpenSpec.ofChange readerKeepsSpec)

/-- ITS FALSE NEIGHBOUR: 'it returns false'. Refute it at one input. -/
def readerKeepsWrong : ChangeSpec := { name := "readerKeeps", fn := fun _ => fun
  | [d1, d2, d3] => { results := [.lit (.bool false)], args := [d1, d2, d3] }
  | _ => none }
def ReaderKeepsWrongFalsely : Prop := readerKeepsRow.holds Try.pinned (OpenSpec.ofChange readerKeepsWrong)

/-- 'linnetlaw04.ReaderTells': WHATEVER THE INPUT: true; the input reads as it did. -/
def readerTellsSpec : ChangeSpec := { name := "readerTells", fn := fun _ => fun
  | [d1, d2, d3] => { results := [.lit (.bool true)], args := [d1, d2, d3] }
  | _ => none }
def readerTellsRow : OpenClaim := { program := "ytkbblbgiheclfaa", sum := "5d31e9f0198ba469c6458e612e5c368ff93f6bd0d3b9b2ab989f2e6613d0b72a", func := "linnet/linnetlaw04.ReaderTells", spec := "readerTells", unfollowed := true, recurses := true, apart := false }
def ReaderTellsSaid : Prop := readerTellsRow.holds Try.pinned (OpenSpec.ofChange readerTellsSpec)

/-- ITS FALSE NEIGHBOUR: 'it returns false'. Refute it at one input. -/
def readerTellsWrong : ChangeSpec := { name := "readerTells", fn := fun _ => fun
  | [d1, d2, d3] => { results := [.lit (.bool false)], args := [d1, d2, d3] }
  | _ => none }
def ReaderTellsWrongFalsely : Prop := readerTellsRow.holds Try.pinned (OpenSpec.ofChange readerTellsWrong)

/-- 'linnetlaw04.ReaderLong': WHATEVER THE INPUT: true; the input reads as it did. -/
def readerLongSpec : ChangeSpec := { name := "readerLong", fn := fun _ => fun
  | [d] => { results := [.lit (.bool true)], args := [d] }
  | _ => none }
def readerLongRow : OpenClaim := { program := "ytkbblbgiheclfaa", sum := "5d31e9f0198ba469c6458e612e5c368ff93f6bd0d3b9b2ab989f2e6613d0b72a", func := "linnet/linnetlaw04.ReaderLong", spec := "readerLong", unfollowed := true, recurses := true, apart := false }
def ReaderLongSaid : Prop := readerLongRow.holds Try.pinned (OpenSpec.ofChange readerLongSpec)

/-- ITS FALSE NEIGHBOUR: 'it returns false'. Refute it at one input. -/
def readerLongWrong : ChangeSpec := { name := "readerLong", fn := fun _ => fun
  | [d] => { results := [.lit (.bool false)], args := [d] }
  | _ => none }
def ReaderLongWrongFalsely : Prop := readerLongRow.holds Try.pinned (OpenSpec.ofChange readerLongWrong)

/- THE SECOND FORM. 'bulk': how many values and letters a reading holds, each counted each time it is reached (what is shared counts as often as it is met; a slice's spare places count too). A statement '..UptoSaid' is the law's where the arguments, and the package variables that the reading takes, are together of bulk at most 1048576: NARROWER than '..Said'. Prove '..Said' where nothing that the law and all that it calls make is longer than what came in: it says more and counts as full. Else prove '..UptoSaid'. A law counts once. -/
mutual
def uptoBulk {H : Type} : DataW H → Nat
  | .lit (.string bytes) => bytes.length + 1
  | .lit _ => 1
  | .nil => 1
  | .ptr d => uptoBulk d + 1
  | .slice elems spare => uptoBulkAll elems + uptoBulkAll spare + 1
  | .agg parts => uptoBulkAll parts + 1
  | .iface _ d => uptoBulk d + 1
  | .map entries => uptoBulkEntries entries + 1
  | .held _ => 1
def uptoBulkAll {H : Type} : List (DataW H) → Nat
  | [] => 0
  | d :: r => uptoBulk d + uptoBulkAll r
def uptoBulkEntries {H : Type} : List (Lit × DataW H) → Nat
  | [] => 0
  | x :: r => uptoBulkEntry x + uptoBulkEntries r
def uptoBulkEntry {H : Type} : Lit × DataW H → Nat
  | (.string bytes, d) => bytes.length + uptoBulk d + 1
  | (_, d) => uptoBulk d + 1
 end
def uptoSmall : (H : Type) → List (DataW H) → Bool := fun _ ds => decide (uptoBulkAll ds ≤ 1048576)
def OpenSpec.upto (s : _root_.Go.ChangeSpec) : _root_.Go.OpenSpec := { _root_.Go.OpenSpec.ofChange s with cond := some uptoSmall }

/-- 'linnetlaw04.ReaderKeeps', WHERE WHAT IT READS IS OF BULK AT MOST 1048576: true; the input reads as it did. -/
def readerKeepsUptoRow : OpenClaim := { program := "ytkbblbgiheclfaa", sum := "5d31e9f0198ba469c6458e612e5c368ff93f6bd0d3b9b2ab989f2e6613d0b72a", func := "linnet/linnetlaw04.ReaderKeeps", spec := "readerKeeps", unfollowed := true, recurses := true, apart := false, narrowed := true }
def ReaderKeepsUptoSaid : Prop := readerKeepsUptoRow.holds Try.pinned (OpenSpec.upto readerKeepsSpec)

/-- 'linnetlaw04.ReaderTells', WHERE WHAT IT READS IS OF BULK AT MOST 1048576: true; the input reads as it did. -/
def readerTellsUptoRow : OpenClaim := { program := "ytkbblbgiheclfaa", sum := "5d31e9f0198ba469c6458e612e5c368ff93f6bd0d3b9b2ab989f2e6613d0b72a", func := "linnet/linnetlaw04.ReaderTells", spec := "readerTells", unfollowed := true, recurses := true, apart := false, narrowed := true }
def ReaderTellsUptoSaid : Prop := readerTellsUptoRow.holds Try.pinned (OpenSpec.upto readerTellsSpec)

/-- 'linnetlaw04.ReaderLong', WHERE WHAT IT READS IS OF BULK AT MOST 1048576: true; the input reads as it did. -/
def readerLongUptoRow : OpenClaim := { program := "ytkbblbgiheclfaa", sum := "5d31e9f0198ba469c6458e612e5c368ff93f6bd0d3b9b2ab989f2e6613d0b72a", func := "linnet/linnetlaw04.ReaderLong", spec := "readerLong", unfollowed := true, recurses := true, apart := false, narrowed := true }
def ReaderLongUptoSaid : Prop := readerLongUptoRow.holds Try.pinned (OpenSpec.upto readerLongSpec)

end Rows
end Go.Proofs.Ytkbblbgiheclfaa
