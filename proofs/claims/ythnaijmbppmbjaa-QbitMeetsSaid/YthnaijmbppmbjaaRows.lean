/-
  No cell of these rows narrows 'for every input' (looked for: loops, veiled, ifaces, maps, wideKeys, modest, calm, conditions, laid).
  DERIVED. THE GIVEN ROWS OF THIS SEAT. 6 by the template 'for every input the law returns true; each argument reads behind the call as it read before'; 0 by the template 'total and deterministic' (their statements: YthnaijmbppmbjaaTotals.lean).
  GIVEN WITH THE SEED: the statements are not yours to turn. If you find one false, say at which input.
  Laid BY PROGRAM, IN A SANDBOX (cutbox-rows.mjs): the forced cells as the released guide's own fill.sh prints them over the translation 121322ffb5f65273… (all of the seat's roots in one cut). By AI agents, Wed Nov 11 2026. No macro, syntax, notation, axiom, sorry.
-/
import Derived.Test.YthnaijmbppmbjaaChecked
import GoSem.Claim
import GoSem.ClaimJoined
import GoSem.ClaimMapViews
import Derived.JoinedTies
import Derived.KernelRfl
namespace Go.Proofs.Ythnaijmbppmbjaa
/- THE CELL 'sum', in the pinned program and in every row, IS THE sha256 OF THE DUMP (.gsa) THAT YthnaijmbppmbjaaProg.lean LOADS. Nothing in Lean hashes anything: it is a label: what it is worth is what the hold of that sum in a sandbox is worth. -/
noncomputable def Try.pinned : Pinned := { name := "ythnaijmbppmbjaa", sum := "121322ffb5f652737fba7247ab302b6f3c226d02a4a82fe6c74946dce7f9cb1a", checked := Try.checked }
namespace Rows
def none {H : Type} : Left H := { results := [], args := [] }

/-- 'linnetlaw05.QbitMeets': WHATEVER THE INPUT: true; the input reads as it did. -/
def qbitMeetsSpec : ChangeSpec := { name := "qbitMeets", fn := fun _ => fun
  | [d] => { results := [.lit (.bool true)], args := [d] }
  | _ => none }
def qbitMeetsRow : OpenClaim := { program := "ythnaijmbppmbjaa", sum := "121322ffb5f652737fba7247ab302b6f3c226d02a4a82fe6c74946dce7f9cb1a", func := "linnet/linnetlaw05.QbitMeets", spec := "qbitMeets", apart := false }
def QbitMeetsSaid : Prop := qbitMeetsRow.holds Try.pinned (OpenSpec.ofChange qbitMeetsSpec)

/-- ITS FALSE NEIGHBOUR: 'it returns false'. Refute it at one input. -/
def qbitMeetsWrong : ChangeSpec := { name := "qbitMeets", fn := fun _ => fun
  | [d] => { results := [.lit (.bool false)], args := [d] }
  | _ => none }
def QbitMeetsWrongFalsely : Prop := qbitMeetsRow.holds Try.pinned (OpenSpec.ofChange qbitMeetsWrong)

/-- 'linnetlaw05.QbitAnswers': WHATEVER THE INPUT: true; the input reads as it did. -/
def qbitAnswersSpec : ChangeSpec := { name := "qbitAnswers", fn := fun _ => fun
  | [d1, d2, d3] => { results := [.lit (.bool true)], args := [d1, d2, d3] }
  | _ => none }
def qbitAnswersRow : OpenClaim := { program := "ythnaijmbppmbjaa", sum := "121322ffb5f652737fba7247ab302b6f3c226d02a4a82fe6c74946dce7f9cb1a", func := "linnet/linnetlaw05.QbitAnswers", spec := "qbitAnswers", apart := false }
def QbitAnswersSaid : Prop := qbitAnswersRow.holds Try.pinned (OpenSpec.ofChange qbitAnswersSpec)

/-- ITS FALSE NEIGHBOUR: 'it returns false'. Refute it at one input. -/
def qbitAnswersWrong : ChangeSpec := { name := "qbitAnswers", fn := fun _ => fun
  | [d1, d2, d3] => { results := [.lit (.bool false)], args := [d1, d2, d3] }
  | _ => none }
def QbitAnswersWrongFalsely : Prop := qbitAnswersRow.holds Try.pinned (OpenSpec.ofChange qbitAnswersWrong)

/-- 'linnetlaw05.QbitRow': WHATEVER THE INPUT: true; the input reads as it did. -/
def qbitRowSpec : ChangeSpec := { name := "qbitRow", fn := fun _ => fun
  | [d1, d2] => { results := [.lit (.bool true)], args := [d1, d2] }
  | _ => none }
def qbitRowRow : OpenClaim := { program := "ythnaijmbppmbjaa", sum := "121322ffb5f652737fba7247ab302b6f3c226d02a4a82fe6c74946dce7f9cb1a", func := "linnet/linnetlaw05.QbitRow", spec := "qbitRow", apart := false }
def QbitRowSaid : Prop := qbitRowRow.holds Try.pinned (OpenSpec.ofChange qbitRowSpec)

/-- ITS FALSE NEIGHBOUR: 'it returns false'. Refute it at one input. -/
def qbitRowWrong : ChangeSpec := { name := "qbitRow", fn := fun _ => fun
  | [d1, d2] => { results := [.lit (.bool false)], args := [d1, d2] }
  | _ => none }
def QbitRowWrongFalsely : Prop := qbitRowRow.holds Try.pinned (OpenSpec.ofChange qbitRowWrong)

/-- 'linnetlaw05.QbitLone': WHATEVER THE INPUT: true; the input reads as it did. -/
def qbitLoneSpec : ChangeSpec := { name := "qbitLone", fn := fun _ => fun
  | [d] => { results := [.lit (.bool true)], args := [d] }
  | _ => none }
def qbitLoneRow : OpenClaim := { program := "ythnaijmbppmbjaa", sum := "121322ffb5f652737fba7247ab302b6f3c226d02a4a82fe6c74946dce7f9cb1a", func := "linnet/linnetlaw05.QbitLone", spec := "qbitLone", apart := false }
def QbitLoneSaid : Prop := qbitLoneRow.holds Try.pinned (OpenSpec.ofChange qbitLoneSpec)

/-- ITS FALSE NEIGHBOUR: 'it returns false'. Refute it at one input. -/
def qbitLoneWrong : ChangeSpec := { name := "qbitLone", fn := fun _ => fun
  | [d] => { results := [.lit (.bool false)], args := [d] }
  | _ => none }
def QbitLoneWrongFalsely : Prop := qbitLoneRow.holds Try.pinned (OpenSpec.ofChange qbitLoneWrong)

/-- 'linnetlaw05.QbitTells': WHATEVER THE INPUT: true; the input reads as it did. -/
def qbitTellsSpec : ChangeSpec := { name := "qbitTells", fn := fun _ => fun
  | [d1, d2, d3] => { results := [.lit (.bool true)], args := [d1, d2, d3] }
  | _ => none }
def qbitTellsRow : OpenClaim := { program := "ythnaijmbppmbjaa", sum := "121322ffb5f652737fba7247ab302b6f3c226d02a4a82fe6c74946dce7f9cb1a", func := "linnet/linnetlaw05.QbitTells", spec := "qbitTells", apart := false }
def QbitTellsSaid : Prop := qbitTellsRow.holds Try.pinned (OpenSpec.ofChange qbitTellsSpec)

/-- ITS FALSE NEIGHBOUR: 'it returns false'. Refute it at one input. -/
def qbitTellsWrong : ChangeSpec := { name := "qbitTells", fn := fun _ => fun
  | [d1, d2, d3] => { results := [.lit (.bool false)], args := [d1, d2, d3] }
  | _ => none }
def QbitTellsWrongFalsely : Prop := qbitTellsRow.holds Try.pinned (OpenSpec.ofChange qbitTellsWrong)

/-- 'linnetlaw05.QbitAsks': WHATEVER THE INPUT: true; the input reads as it did. -/
def qbitAsksSpec : ChangeSpec := { name := "qbitAsks", fn := fun _ => fun
  | [d1, d2] => { results := [.lit (.bool true)], args := [d1, d2] }
  | _ => none }
def qbitAsksRow : OpenClaim := { program := "ythnaijmbppmbjaa", sum := "121322ffb5f652737fba7247ab302b6f3c226d02a4a82fe6c74946dce7f9cb1a", func := "linnet/linnetlaw05.QbitAsks", spec := "qbitAsks", apart := false }
def QbitAsksSaid : Prop := qbitAsksRow.holds Try.pinned (OpenSpec.ofChange qbitAsksSpec)

/-- ITS FALSE NEIGHBOUR: 'it returns false'. Refute it at one input. -/
def qbitAsksWrong : ChangeSpec := { name := "qbitAsks", fn := fun _ => fun
  | [d1, d2] => { results := [.lit (.bool false)], args := [d1, d2] }
  | _ => none }
def QbitAsksWrongFalsely : Prop := qbitAsksRow.holds Try.pinned (OpenSpec.ofChange qbitAsksWrong)

/- THE SECOND FORM. 'bulk': how many values and letters a reading holds, each counted each time it is reached (what is shared counts as often as it is met; a slice's spare places count too). A statement '..UptoSaid' is the law's where the arguments, and the package variables that the reading takes, are together of bulk at most 1048576: NARROWER than '..Said'. Prove '..Said' where nothing that the law and all that it calls make is longer than what came in: it says more and counts as full. Else prove '..UptoSaid'. A law counts once. -/
mutual
def uptoBulk {H : Type} : DataW H → Nat
  | .lit (.string bytes) => bytes.length + 1
  | .lit _ => 1
  | .nil => 1
  | .ptr d => uptoBulk d + 1
  | .slice elems spare => uptoBulkAll elems + uptoBulkAll spare + 1
  | .agg parts => uptoBulkAll parts + 1
  | .iface _ d => uptoBulk d + 1
  | .map entries => uptoBulkEntries entries + 1
  | .held _ => 1
def uptoBulkAll {H : Type} : List (DataW H) → Nat
  | [] => 0
  | d :: r => uptoBulk d + uptoBulkAll r
def uptoBulkEntries {H : Type} : List (Lit × DataW H) → Nat
  | [] => 0
  | x :: r => uptoBulkEntry x + uptoBulkEntries r
def uptoBulkEntry {H : Type} : Lit × DataW H → Nat
  | (.string bytes, d) => bytes.length + uptoBulk d + 1
  | (_, d) => uptoBulk d + 1
 end
def uptoSmall : (H : Type) → List (DataW H) → Bool := fun _ ds => decide (uptoBulkAll ds ≤ 1048576)
def OpenSpec.upto (s : _root_.Go.ChangeSpec) : _root_.Go.OpenSpec := { _root_.Go.OpenSpec.ofChange s with cond := some uptoSmall }

/-- 'linnetlaw05.QbitMeets', WHERE WHAT IT READS IS OF BULK AT MOST 1048576: true; the input reads as it did. -/
def qbitMeetsUptoRow : OpenClaim := { program := "ythnaijmbppmbjaa", sum := "121322ffb5f652737fba7247ab302b6f3c226d02a4a82fe6c74946dce7f9cb1a", func := "linnet/linnetlaw05.QbitMeets", spec := "qbitMeets", apart := false, narrowed := true }
def QbitMeetsUptoSaid : Prop := qbitMeetsUptoRow.holds Try.pinned (OpenSpec.upto qbitMeetsSpec)

/-- 'linnetlaw05.QbitAnswers', WHERE WHAT IT READS IS OF BULK AT MOST 1048576: true; the input reads as it did. -/
def qbitAnswersUptoRow : OpenClaim := { program := "ythnaijmbppmbjaa", sum := "121322ffb5f652737fba7247ab302b6f3c226d02a4a82fe6c74946dce7f9cb1a", func := "linnet/linnetlaw05.QbitAnswers", spec := "qbitAnswers", apart := false, narrowed := true }
def QbitAnswersUptoSaid : Prop := qbitAnswersUptoRow.holds Try.pinned (OpenSpec.upto qbitAnswersSpec)

/-- 'linnetlaw05.QbitRow', WHERE WHAT IT READS IS OF BULK AT MOST 1048576: true; the input reads as it did. -/
def qbitRowUptoRow : OpenClaim := { program := "ythnaijmbppmbjaa", sum := "121322ffb5f652737fba7247ab302b6f3c226d02a4a82fe6c74946dce7f9cb1a", func := "linnet/linnetlaw05.QbitRow", spec := "qbitRow", apart := false, narrowed := true }
def QbitRowUptoSaid : Prop := qbitRowUptoRow.holds Try.pinned (OpenSpec.upto qbitRowSpec)

/-- 'linnetlaw05.QbitLone', WHERE WHAT IT READS IS OF BULK AT MOST 1048576: true; the input reads as it did. -/
def qbitLoneUptoRow : OpenClaim := { program := "ythnaijmbppmbjaa", sum := "121322ffb5f652737fba7247ab302b6f3c226d02a4a82fe6c74946dce7f9cb1a", func := "linnet/linnetlaw05.QbitLone", spec := "qbitLone", apart := false, narrowed := true }
def QbitLoneUptoSaid : Prop := qbitLoneUptoRow.holds Try.pinned (OpenSpec.upto qbitLoneSpec)

/-- 'linnetlaw05.QbitTells', WHERE WHAT IT READS IS OF BULK AT MOST 1048576: true; the input reads as it did. -/
def qbitTellsUptoRow : OpenClaim := { program := "ythnaijmbppmbjaa", sum := "121322ffb5f652737fba7247ab302b6f3c226d02a4a82fe6c74946dce7f9cb1a", func := "linnet/linnetlaw05.QbitTells", spec := "qbitTells", apart := false, narrowed := true }
def QbitTellsUptoSaid : Prop := qbitTellsUptoRow.holds Try.pinned (OpenSpec.upto qbitTellsSpec)

/-- 'linnetlaw05.QbitAsks', WHERE WHAT IT READS IS OF BULK AT MOST 1048576: true; the input reads as it did. -/
def qbitAsksUptoRow : OpenClaim := { program := "ythnaijmbppmbjaa", sum := "121322ffb5f652737fba7247ab302b6f3c226d02a4a82fe6c74946dce7f9cb1a", func := "linnet/linnetlaw05.QbitAsks", spec := "qbitAsks", apart := false, narrowed := true }
def QbitAsksUptoSaid : Prop := qbitAsksUptoRow.holds Try.pinned (OpenSpec.upto qbitAsksSpec)

end Rows
end Go.Proofs.Ythnaijmbppmbjaa
