/-
  No cell of these rows narrows 'for every input' (looked for: loops, veiled, ifaces, maps, wideKeys, modest, calm, conditions, laid).
  DERIVED. THE GIVEN ROWS OF THIS SEAT. 7 by the template 'for every input the law returns true; each argument reads behind the call as it read before'; 0 by the template 'total and deterministic' (their statements: YtakfkkpcdnphlaaTotals.lean).
  GIVEN WITH THE SEED: the statements are not yours to turn. If you find one false, say at which input.
  Laid BY PROGRAM, IN A SANDBOX (cutbox-rows.mjs): the forced cells as the released guide's own fill.sh prints them over the translation 07b885129d8618bd… (all of the seat's roots in one cut). By AI agents, Wed Nov 11 2026. No macro, syntax, notation, axiom, sorry.
-/
import Derived.Test.YtakfkkpcdnphlaaChecked
import GoSem.Claim
import GoSem.ClaimJoined
import GoSem.ClaimMapViews
import Derived.JoinedTies
import Derived.KernelRfl
namespace Go.Proofs.Ytakfkkpcdnphlaa
/- THE CELL 'sum', in the pinned program and in every row, IS THE sha256 OF THE DUMP (.gsa) THAT YtakfkkpcdnphlaaProg.lean LOADS. Nothing in Lean hashes anything: it is a label: what it is worth is what the hold of that sum in a sandbox is worth. -/
noncomputable def Try.pinned : Pinned := { name := "ytakfkkpcdnphlaa", sum := "07b885129d8618bdcfc1821d93c775e9f4dc23d83dc63fed32a1d8fd6054d12d", checked := Try.checked }
namespace Rows
def none {H : Type} : Left H := { results := [], args := [] }

/-- 'linnetlaw20.WeighEndless': WHATEVER THE INPUT: true; the input reads as it did. -/
def weighEndlessSpec : ChangeSpec := { name := "weighEndless", fn := fun _ => fun
  | [d1, d2] => { results := [.lit (.bool true)], args := [d1, d2] }
  | _ => none }
def weighEndlessRow : OpenClaim := { program := "ytakfkkpcdnphlaa", sum := "07b885129d8618bdcfc1821d93c775e9f4dc23d83dc63fed32a1d8fd6054d12d", func := "linnet/linnetlaw20.WeighEndless", spec := "weighEndless", inPlace := ["math.Float64frombits", "math.Float64bits"], apart := false }
def WeighEndlessSaid : Prop := weighEndlessRow.holds Try.pinned (OpenSpec.ofChange weighEndlessSpec)

/-- ITS FALSE NEIGHBOUR: 'it returns false'. Refute it at one input. -/
def weighEndlessWrong : ChangeSpec := { name := "weighEndless", fn := fun _ => fun
  | [d1, d2] => { results := [.lit (.bool false)], args := [d1, d2] }
  | _ => none }
def WeighEndlessWrongFalsely : Prop := weighEndlessRow.holds Try.pinned (OpenSpec.ofChange weighEndlessWrong)

/-- 'linnetlaw20.WeighRises': WHATEVER THE INPUT: true; the input reads as it did. -/
def weighRisesSpec : ChangeSpec := { name := "weighRises", fn := fun _ => fun
  | [d1, d2, d3] => { results := [.lit (.bool true)], args := [d1, d2, d3] }
  | _ => none }
def weighRisesRow : OpenClaim := { program := "ytakfkkpcdnphlaa", sum := "07b885129d8618bdcfc1821d93c775e9f4dc23d83dc63fed32a1d8fd6054d12d", func := "linnet/linnetlaw20.WeighRises", spec := "weighRises", inPlace := ["math.Float64bits", "math.Float64frombits"], apart := false }
def WeighRisesSaid : Prop := weighRisesRow.holds Try.pinned (OpenSpec.ofChange weighRisesSpec)

/-- ITS FALSE NEIGHBOUR: 'it returns false'. Refute it at one input. -/
def weighRisesWrong : ChangeSpec := { name := "weighRises", fn := fun _ => fun
  | [d1, d2, d3] => { results := [.lit (.bool false)], args := [d1, d2, d3] }
  | _ => none }
def WeighRisesWrongFalsely : Prop := weighRisesRow.holds Try.pinned (OpenSpec.ofChange weighRisesWrong)

/-- 'linnetlaw20.WeighMore': WHATEVER THE INPUT: true; the input reads as it did. -/
def weighMoreSpec : ChangeSpec := { name := "weighMore", fn := fun _ => fun
  | [d1, d2, d3] => { results := [.lit (.bool true)], args := [d1, d2, d3] }
  | _ => none }
def weighMoreRow : OpenClaim := { program := "ytakfkkpcdnphlaa", sum := "07b885129d8618bdcfc1821d93c775e9f4dc23d83dc63fed32a1d8fd6054d12d", func := "linnet/linnetlaw20.WeighMore", spec := "weighMore", inPlace := ["math.Float64bits", "math.Float64frombits"], apart := false }
def WeighMoreSaid : Prop := weighMoreRow.holds Try.pinned (OpenSpec.ofChange weighMoreSpec)

/-- ITS FALSE NEIGHBOUR: 'it returns false'. Refute it at one input. -/
def weighMoreWrong : ChangeSpec := { name := "weighMore", fn := fun _ => fun
  | [d1, d2, d3] => { results := [.lit (.bool false)], args := [d1, d2, d3] }
  | _ => none }
def WeighMoreWrongFalsely : Prop := weighMoreRow.holds Try.pinned (OpenSpec.ofChange weighMoreWrong)

/-- 'linnetlaw20.WeighLone': WHATEVER THE INPUT: true; the input reads as it did. -/
def weighLoneSpec : ChangeSpec := { name := "weighLone", fn := fun _ => fun
  | [d1, d2, d3] => { results := [.lit (.bool true)], args := [d1, d2, d3] }
  | _ => none }
def weighLoneRow : OpenClaim := { program := "ytakfkkpcdnphlaa", sum := "07b885129d8618bdcfc1821d93c775e9f4dc23d83dc63fed32a1d8fd6054d12d", func := "linnet/linnetlaw20.WeighLone", spec := "weighLone", inPlace := ["math.Float64frombits", "math.Float64bits"], apart := false }
def WeighLoneSaid : Prop := weighLoneRow.holds Try.pinned (OpenSpec.ofChange weighLoneSpec)

/-- ITS FALSE NEIGHBOUR: 'it returns false'. Refute it at one input. -/
def weighLoneWrong : ChangeSpec := { name := "weighLone", fn := fun _ => fun
  | [d1, d2, d3] => { results := [.lit (.bool false)], args := [d1, d2, d3] }
  | _ => none }
def WeighLoneWrongFalsely : Prop := weighLoneRow.holds Try.pinned (OpenSpec.ofChange weighLoneWrong)

/-- 'linnetlaw20.WeighCounts': WHATEVER THE INPUT: true; the input reads as it did. -/
def weighCountsSpec : ChangeSpec := { name := "weighCounts", fn := fun _ => fun
  | [d1, d2] => { results := [.lit (.bool true)], args := [d1, d2] }
  | _ => none }
def weighCountsRow : OpenClaim := { program := "ytakfkkpcdnphlaa", sum := "07b885129d8618bdcfc1821d93c775e9f4dc23d83dc63fed32a1d8fd6054d12d", func := "linnet/linnetlaw20.WeighCounts", spec := "weighCounts", inPlace := ["math.Float64bits", "math.Float64frombits"], apart := false }
def WeighCountsSaid : Prop := weighCountsRow.holds Try.pinned (OpenSpec.ofChange weighCountsSpec)

/-- ITS FALSE NEIGHBOUR: 'it returns false'. Refute it at one input. -/
def weighCountsWrong : ChangeSpec := { name := "weighCounts", fn := fun _ => fun
  | [d1, d2] => { results := [.lit (.bool false)], args := [d1, d2] }
  | _ => none }
def WeighCountsWrongFalsely : Prop := weighCountsRow.holds Try.pinned (OpenSpec.ofChange weighCountsWrong)

/-- 'linnetlaw20.WeighTells': WHATEVER THE INPUT: true; the input reads as it did. -/
def weighTellsSpec : ChangeSpec := { name := "weighTells", fn := fun _ => fun
  | [d1, d2, d3] => { results := [.lit (.bool true)], args := [d1, d2, d3] }
  | _ => none }
def weighTellsRow : OpenClaim := { program := "ytakfkkpcdnphlaa", sum := "07b885129d8618bdcfc1821d93c775e9f4dc23d83dc63fed32a1d8fd6054d12d", func := "linnet/linnetlaw20.WeighTells", spec := "weighTells", inPlace := ["math.Float64bits", "math.Float64frombits"], unfollowed := true, recurses := true, apart := false }
def WeighTellsSaid : Prop := weighTellsRow.holds Try.pinned (OpenSpec.ofChange weighTellsSpec)

/-- ITS FALSE NEIGHBOUR: 'it returns false'. Refute it at one input. -/
def weighTellsWrong : ChangeSpec := { name := "weighTells", fn := fun _ => fun
  | [d1, d2, d3] => { results := [.lit (.bool false)], args := [d1, d2, d3] }
  | _ => none }
def WeighTellsWrongFalsely : Prop := weighTellsRow.holds Try.pinned (OpenSpec.ofChange weighTellsWrong)

/-- 'linnetlaw20.WeighBack': WHATEVER THE INPUT: true; the input reads as it did. -/
def weighBackSpec : ChangeSpec := { name := "weighBack", fn := fun _ => fun
  | [d1, d2] => { results := [.lit (.bool true)], args := [d1, d2] }
  | _ => none }
def weighBackRow : OpenClaim := { program := "ytakfkkpcdnphlaa", sum := "07b885129d8618bdcfc1821d93c775e9f4dc23d83dc63fed32a1d8fd6054d12d", func := "linnet/linnetlaw20.WeighBack", spec := "weighBack", inPlace := ["math.Float64bits", "math.Float64frombits"], unfollowed := true, recurses := true, apart := false }
def WeighBackSaid : Prop := weighBackRow.holds Try.pinned (OpenSpec.ofChange weighBackSpec)

/-- ITS FALSE NEIGHBOUR: 'it returns false'. Refute it at one input. -/
def weighBackWrong : ChangeSpec := { name := "weighBack", fn := fun _ => fun
  | [d1, d2] => { results := [.lit (.bool false)], args := [d1, d2] }
  | _ => none }
def WeighBackWrongFalsely : Prop := weighBackRow.holds Try.pinned (OpenSpec.ofChange weighBackWrong)

/- THE SECOND FORM. 'bulk': how many values and letters a reading holds, each counted each time it is reached (what is shared counts as often as it is met; a slice's spare places count too). A statement '..UptoSaid' is the law's where the arguments, and the package variables that the reading takes, are together of bulk at most 1048576: NARROWER than '..Said'. Prove '..Said' where nothing that the law and all that it calls make is longer than what came in: it says more and counts as full. Else prove '..UptoSaid'. A law counts once. -/
mutual
def uptoBulk {H : Type} : DataW H → Nat
  | .lit (.string bytes) => bytes.length + 1
  | .lit _ => 1
  | .nil => 1
  | .ptr d => uptoBulk d + 1
  | .slice elems spare => uptoBulkAll elems + uptoBulkAll spare + 1
  | .agg parts => uptoBulkAll parts + 1
  | .iface _ d => uptoBulk d + 1
  | .map entries => uptoBulkEntries entries + 1
  | .held _ => 1
def uptoBulkAll {H : Type} : List (DataW H) → Nat
  | [] => 0
  | d :: r => uptoBulk d + uptoBulkAll r
def uptoBulkEntries {H : Type} : List (Lit × DataW H) → Nat
  | [] => 0
  | x :: r => uptoBulkEntry x + uptoBulkEntries r
def uptoBulkEntry {H : Type} : Lit × DataW H → Nat
  | (.string bytes, d) => bytes.length + uptoBulk d + 1
  | (_, d) => uptoBulk d + 1
 end
def uptoSmall : (H : Type) → List (DataW H) → Bool := fun _ ds => decide (uptoBulkAll ds ≤ 1048576)
def OpenSpec.upto (s : _root_.Go.ChangeSpec) : _root_.Go.OpenSpec := { _root_.Go.OpenSpec.ofChange s with cond := some uptoSmall }

/-- 'linnetlaw20.WeighEndless', WHERE WHAT IT READS IS OF BULK AT MOST 1048576: true; the input reads as it did. -/
def weighEndlessUptoRow : OpenClaim := { program := "ytakfkkpcdnphlaa", sum := "07b885129d8618bdcfc1821d93c775e9f4dc23d83dc63fed32a1d8fd6054d12d", func := "linnet/linnetlaw20.WeighEndless", spec := "weighEndless", inPlace := ["math.Float64frombits", "math.Float64bits"], apart := false, narrowed := true }
def WeighEndlessUptoSaid : Prop := weighEndlessUptoRow.holds Try.pinned (OpenSpec.upto weighEndlessSpec)

/-- 'linnetlaw20.WeighRises', WHERE WHAT IT READS IS OF BULK AT MOST 1048576: true; the input reads as it did. -/
def weighRisesUptoRow : OpenClaim := { program := "ytakfkkpcdnphlaa", sum := "07b885129d8618bdcfc1821d93c775e9f4dc23d83dc63fed32a1d8fd6054d12d", func := "linnet/linnetlaw20.WeighRises", spec := "weighRises", inPlace := ["math.Float64bits", "math.Float64frombits"], apart := false, narrowed := true }
def WeighRisesUptoSaid : Prop := weighRisesUptoRow.holds Try.pinned (OpenSpec.upto weighRisesSpec)

/-- 'linnetlaw20.WeighMore', WHERE WHAT IT READS IS OF BULK AT MOST 1048576: true; the input reads as it did. -/
def weighMoreUptoRow : OpenClaim := { program := "ytakfkkpcdnphlaa", sum := "07b885129d8618bdcfc1821d93c775e9f4dc23d83dc63fed32a1d8fd6054d12d", func := "linnet/linnetlaw20.WeighMore", spec := "weighMore", inPlace := ["math.Float64bits", "math.Float64frombits"], apart := false, narrowed := true }
def WeighMoreUptoSaid : Prop := weighMoreUptoRow.holds Try.pinned (OpenSpec.upto weighMoreSpec)

/-- 'linnetlaw20.WeighLone', WHERE WHAT IT READS IS OF BULK AT MOST 1048576: true; the input reads as it did. -/
def weighLoneUptoRow : OpenClaim := { program := "ytakfkkpcdnphlaa", sum := "07b885129d8618bdcfc1821d93c775e9f4dc23d83dc63fed32a1d8fd6054d12d", func := "linnet/linnetlaw20.WeighLone", spec := "weighLone", inPlace := ["math.Float64frombits", "math.Float64bits"], apart := false, narrowed := true }
def WeighLoneUptoSaid : Prop := weighLoneUptoRow.holds Try.pinned (OpenSpec.upto weighLoneSpec)

/-- 'linnetlaw20.WeighCounts', WHERE WHAT IT READS IS OF BULK AT MOST 1048576: true; the input reads as it did. -/
def weighCountsUptoRow : OpenClaim := { program := "ytakfkkpcdnphlaa", sum := "07b885129d8618bdcfc1821d93c775e9f4dc23d83dc63fed32a1d8fd6054d12d", func := "linnet/linnetlaw20.WeighCounts", spec := "weighCounts", inPlace := ["math.Float64bits", "math.Float64frombits"], apart := false, narrowed := true }
def WeighCountsUptoSaid : Prop := weighCountsUptoRow.holds Try.pinned (OpenSpec.upto weighCountsSpec)

/-- 'linnetlaw20.WeighTells', WHERE WHAT IT READS IS OF BULK AT MOST 1048576: true; the input reads as it did. -/
def weighTellsUptoRow : OpenClaim := { program := "ytakfkkpcdnphlaa", sum := "07b885129d8618bdcfc1821d93c775e9f4dc23d83dc63fed32a1d8fd6054d12d", func := "linnet/linnetlaw20.WeighTells", spec := "weighTells", inPlace := ["math.Float64bits", "math.Float64frombits"], unfollowed := true, recurses := true, apart := false, narrowed := true }
def WeighTellsUptoSaid : Prop := weighTellsUptoRow.holds Try.pinned (OpenSpec.upto weighTellsSpec)

/-- 'linnetlaw20.WeighBack', WHERE WHAT IT READS IS OF BULK AT MOST 1048576: true; the input reads as it did. -/
def weighBackUptoRow : OpenClaim := { program := "ytakfkkpcdnphlaa", sum := "07b885129d8618bdcfc1821d93c775e9f4dc23d83dc63fed32a1d8fd6054d12d", func := "linnet/linnetlaw20.WeighBack", spec := "weighBack", inPlace := ["math.Float64bits", "math.Float64frombits"], unfollowed := true, recurses := true, apart := false, narrowed := true }
def WeighBackUptoSaid : Prop := weighBackUptoRow.holds Try.pinned (OpenSpec.upto weighBackSpec)

end Rows
end Go.Proofs.Ytakfkkpcdnphlaa
