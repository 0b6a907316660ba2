/-
  NARROWER THAN 'FOR EVERY INPUT', by the rows' own cells (each row's printed sentence says how): ItemLong: laid · ItemJoins: laid · ItemApart: laid · ItemBegins: laid · ItemTells: laid · ItemData: laid · ReaderAgain: laid · ReaderBack: laid.
  DERIVED. THE GIVEN ROWS OF THIS SEAT. 8 by the template 'for every input the law returns true; each argument reads behind the call as it read before'; 0 by the template 'total and deterministic' (their statements: YtkbblbgiheclfaaDoorTotals.lean).
  GIVEN WITH THE SEED: the statements are not yours to turn. If you find one false, say at which input.
  Laid BY PROGRAM, IN A SANDBOX (cutbox-rows.mjs): the forced cells as the released guide's own fill.sh prints them over the translation 6dd99814cd68516b… (all of the seat's roots in one cut). By AI agents, Wed Nov 11 2026. No macro, syntax, notation, axiom, sorry.
-/
import Derived.Test.YtkbblbgiheclfaaDoorChecked
import GoSem.PinnedTables
import GoSem.Claim
import GoSem.ClaimJoined
import GoSem.ClaimMapViews
import Derived.JoinedTies
import Derived.KernelRfl
namespace Go.Proofs.YtkbblbgiheclfaaDoor
/- THE CELL 'sum', in the pinned program and in every row, IS THE sha256 OF THE DUMP (.gsa) THAT YtkbblbgiheclfaaDoorProg.lean LOADS. Nothing in Lean hashes anything: it is a label: what it is worth is what the hold of that sum in a sandbox is worth. -/
noncomputable def Tryd.pinned : Pinned := { name := "ytkbblbgiheclfaadoor", sum := "6dd99814cd68516bbac8a45b9995d7d46f08509841d30fa40386386ee764e174", checked := Tryd.checked }
namespace Rows
def none {H : Type} : Left H := { results := [], args := [] }

/- WHAT THE LISTED PACKAGE-LEVEL VARIABLES READ AS WHEN THE CALL BEGINS. Each datum BY PROGRAM (the guide's laid-datum.mjs) off the statement by which the dump's own 'gosem.cut.vars' lays the variable. In a bare row this is a premise. The card (YtkbblbgiheclfaaDoorCards.lean) ties it to the program's text. -/
def laid_unicode_utf8_acceptRanges {H : Type} : DataW H := .agg [.agg [.lit (.int .u8 128), .lit (.int .u8 191)], .agg [.lit (.int .u8 160), .lit (.int .u8 191)], .agg [.lit (.int .u8 128), .lit (.int .u8 159)], .agg [.lit (.int .u8 144), .lit (.int .u8 191)], .agg [.lit (.int .u8 128), .lit (.int .u8 143)], .agg [.lit (.int .u8 0), .lit (.int .u8 0)], .agg [.lit (.int .u8 0), .lit (.int .u8 0)], .agg [.lit (.int .u8 0), .lit (.int .u8 0)], .agg [.lit (.int .u8 0), .lit (.int .u8 0)], .agg [.lit (.int .u8 0), .lit (.int .u8 0)], .agg [.lit (.int .u8 0), .lit (.int .u8 0)], .agg [.lit (.int .u8 0), .lit (.int .u8 0)], .agg [.lit (.int .u8 0), .lit (.int .u8 0)], .agg [.lit (.int .u8 0), .lit (.int .u8 0)], .agg [.lit (.int .u8 0), .lit (.int .u8 0)], .agg [.lit (.int .u8 0), .lit (.int .u8 0)]]
/-- One of Go's own tables, pinned by name: the form's constant. -/
def laid_unicode_utf8_first : DataW Unit := Go.Pinned.utf8First

/-- 'linnetlaw03.ItemLong': WHATEVER THE INPUT: true; the input reads as it did. -/
def itemLongSpec : ChangeSpec := { name := "itemLong", fn := fun _ => fun
  | [d1, d2, d3] => { results := [.lit (.bool true)], args := [d1, d2, d3] }
  | _ => none }
def itemLongRow : OpenClaim := { program := "ytkbblbgiheclfaadoor", sum := "6dd99814cd68516bbac8a45b9995d7d46f08509841d30fa40386386ee764e174", func := "linnet/linnetlaw03.ItemLong", spec := "itemLong", inPlace := ["internal/bytealg.Count", "internal/bytealg.IndexByte", "internal/bytealg.Index"], unfollowed := true, recurses := true, named := ["internal/bytealg.MaxLen", "unicode/utf8.first", "unicode/utf8.acceptRanges"], apart := false, laid := [("unicode/utf8.acceptRanges", laid_unicode_utf8_acceptRanges), ("unicode/utf8.first", laid_unicode_utf8_first)] }
def ItemLongSaid : Prop := itemLongRow.holds Tryd.pinned (OpenSpec.ofChange itemLongSpec)

/-- ITS FALSE NEIGHBOUR: 'it returns false'. Refute it at one input. -/
def itemLongWrong : ChangeSpec := { name := "itemLong", fn := fun _ => fun
  | [d1, d2, d3] => { results := [.lit (.bool false)], args := [d1, d2, d3] }
  | _ => none }
def ItemLongWrongFalsely : Prop := itemLongRow.holds Tryd.pinned (OpenSpec.ofChange itemLongWrong)

/-- 'linnetlaw03.ItemJoins': WHATEVER THE INPUT: true; the input reads as it did. -/
def itemJoinsSpec : ChangeSpec := { name := "itemJoins", fn := fun _ => fun
  | [d1, d2, d3] => { results := [.lit (.bool true)], args := [d1, d2, d3] }
  | _ => none }
def itemJoinsRow : OpenClaim := { program := "ytkbblbgiheclfaadoor", sum := "6dd99814cd68516bbac8a45b9995d7d46f08509841d30fa40386386ee764e174", func := "linnet/linnetlaw03.ItemJoins", spec := "itemJoins", inPlace := ["internal/bytealg.Count", "internal/bytealg.IndexByte", "internal/bytealg.Index"], unfollowed := true, recurses := true, named := ["internal/bytealg.MaxLen", "unicode/utf8.first", "unicode/utf8.acceptRanges"], apart := false, laid := [("unicode/utf8.acceptRanges", laid_unicode_utf8_acceptRanges), ("unicode/utf8.first", laid_unicode_utf8_first)] }
def ItemJoinsSaid : Prop := itemJoinsRow.holds Tryd.pinned (OpenSpec.ofChange itemJoinsSpec)

/-- ITS FALSE NEIGHBOUR: 'it returns false'. Refute it at one input. -/
def itemJoinsWrong : ChangeSpec := { name := "itemJoins", fn := fun _ => fun
  | [d1, d2, d3] => { results := [.lit (.bool false)], args := [d1, d2, d3] }
  | _ => none }
def ItemJoinsWrongFalsely : Prop := itemJoinsRow.holds Tryd.pinned (OpenSpec.ofChange itemJoinsWrong)

/-- 'linnetlaw03.ItemApart': WHATEVER THE INPUT: true; the input reads as it did. -/
def itemApartSpec : ChangeSpec := { name := "itemApart", fn := fun _ => fun
  | [d1, d2] => { results := [.lit (.bool true)], args := [d1, d2] }
  | _ => none }
def itemApartRow : OpenClaim := { program := "ytkbblbgiheclfaadoor", sum := "6dd99814cd68516bbac8a45b9995d7d46f08509841d30fa40386386ee764e174", func := "linnet/linnetlaw03.ItemApart", spec := "itemApart", inPlace := ["internal/bytealg.Count", "internal/bytealg.IndexByte", "internal/bytealg.Index"], unfollowed := true, recurses := true, named := ["internal/bytealg.MaxLen", "unicode/utf8.first", "unicode/utf8.acceptRanges"], apart := false, laid := [("unicode/utf8.acceptRanges", laid_unicode_utf8_acceptRanges), ("unicode/utf8.first", laid_unicode_utf8_first)] }
def ItemApartSaid : Prop := itemApartRow.holds Tryd.pinned (OpenSpec.ofChange itemApartSpec)

/-- ITS FALSE NEIGHBOUR: 'it returns false'. Refute it at one input. -/
def itemApartWrong : ChangeSpec := { name := "itemApart", fn := fun _ => fun
  | [d1, d2] => { results := [.lit (.bool false)], args := [d1, d2] }
  | _ => none }
def ItemApartWrongFalsely : Prop := itemApartRow.holds Tryd.pinned (OpenSpec.ofChange itemApartWrong)

/-- 'linnetlaw03.ItemBegins': WHATEVER THE INPUT: true; the input reads as it did. -/
def itemBeginsSpec : ChangeSpec := { name := "itemBegins", fn := fun _ => fun
  | [d] => { results := [.lit (.bool true)], args := [d] }
  | _ => none }
def itemBeginsRow : OpenClaim := { program := "ytkbblbgiheclfaadoor", sum := "6dd99814cd68516bbac8a45b9995d7d46f08509841d30fa40386386ee764e174", func := "linnet/linnetlaw03.ItemBegins", spec := "itemBegins", inPlace := ["internal/bytealg.Count", "internal/bytealg.IndexByte", "internal/bytealg.Index"], unfollowed := true, recurses := true, named := ["internal/bytealg.MaxLen", "unicode/utf8.first", "unicode/utf8.acceptRanges"], apart := false, laid := [("unicode/utf8.acceptRanges", laid_unicode_utf8_acceptRanges), ("unicode/utf8.first", laid_unicode_utf8_first)] }
def ItemBeginsSaid : Prop := itemBeginsRow.holds Tryd.pinned (OpenSpec.ofChange itemBeginsSpec)

/-- ITS FALSE NEIGHBOUR: 'it returns false'. Refute it at one input. -/
def itemBeginsWrong : ChangeSpec := { name := "itemBegins", fn := fun _ => fun
  | [d] => { results := [.lit (.bool false)], args := [d] }
  | _ => none }
def ItemBeginsWrongFalsely : Prop := itemBeginsRow.holds Tryd.pinned (OpenSpec.ofChange itemBeginsWrong)

/-- 'linnetlaw03.ItemTells': WHATEVER THE INPUT: true; the input reads as it did. -/
def itemTellsSpec : ChangeSpec := { name := "itemTells", fn := fun _ => fun
  | [d1, d2, d3] => { results := [.lit (.bool true)], args := [d1, d2, d3] }
  | _ => none }
def itemTellsRow : OpenClaim := { program := "ytkbblbgiheclfaadoor", sum := "6dd99814cd68516bbac8a45b9995d7d46f08509841d30fa40386386ee764e174", func := "linnet/linnetlaw03.ItemTells", spec := "itemTells", inPlace := ["internal/bytealg.Count", "internal/bytealg.IndexByte", "internal/bytealg.Index"], unfollowed := true, recurses := true, named := ["internal/bytealg.MaxLen", "unicode/utf8.first", "unicode/utf8.acceptRanges"], apart := false, laid := [("unicode/utf8.acceptRanges", laid_unicode_utf8_acceptRanges), ("unicode/utf8.first", laid_unicode_utf8_first)] }
def ItemTellsSaid : Prop := itemTellsRow.holds Tryd.pinned (OpenSpec.ofChange itemTellsSpec)

/-- ITS FALSE NEIGHBOUR: 'it returns false'. Refute it at one input. -/
def itemTellsWrong : ChangeSpec := { name := "itemTells", fn := fun _ => fun
  | [d1, d2, d3] => { results := [.lit (.bool false)], args := [d1, d2, d3] }
  | _ => none }
def ItemTellsWrongFalsely : Prop := itemTellsRow.holds Tryd.pinned (OpenSpec.ofChange itemTellsWrong)

/-- 'linnetlaw03.ItemData': WHATEVER THE INPUT: true; the input reads as it did. -/
def itemDataSpec : ChangeSpec := { name := "itemData", fn := fun _ => fun
  | [d1, d2] => { results := [.lit (.bool true)], args := [d1, d2] }
  | _ => none }
def itemDataRow : OpenClaim := { program := "ytkbblbgiheclfaadoor", sum := "6dd99814cd68516bbac8a45b9995d7d46f08509841d30fa40386386ee764e174", func := "linnet/linnetlaw03.ItemData", spec := "itemData", inPlace := ["internal/bytealg.Count", "internal/bytealg.IndexByte", "internal/bytealg.Index"], unfollowed := true, recurses := true, named := ["internal/bytealg.MaxLen", "unicode/utf8.first", "unicode/utf8.acceptRanges"], apart := false, laid := [("unicode/utf8.acceptRanges", laid_unicode_utf8_acceptRanges), ("unicode/utf8.first", laid_unicode_utf8_first)] }
def ItemDataSaid : Prop := itemDataRow.holds Tryd.pinned (OpenSpec.ofChange itemDataSpec)

/-- ITS FALSE NEIGHBOUR: 'it returns false'. Refute it at one input. -/
def itemDataWrong : ChangeSpec := { name := "itemData", fn := fun _ => fun
  | [d1, d2] => { results := [.lit (.bool false)], args := [d1, d2] }
  | _ => none }
def ItemDataWrongFalsely : Prop := itemDataRow.holds Tryd.pinned (OpenSpec.ofChange itemDataWrong)

/-- 'linnetlaw04.ReaderAgain': WHATEVER THE INPUT: true; the input reads as it did. -/
def readerAgainSpec : ChangeSpec := { name := "readerAgain", fn := fun _ => fun
  | [d] => { results := [.lit (.bool true)], args := [d] }
  | _ => none }
def readerAgainRow : OpenClaim := { program := "ytkbblbgiheclfaadoor", sum := "6dd99814cd68516bbac8a45b9995d7d46f08509841d30fa40386386ee764e174", func := "linnet/linnetlaw04.ReaderAgain", spec := "readerAgain", inPlace := ["internal/bytealg.Count", "internal/bytealg.IndexByte", "internal/bytealg.Index"], unfollowed := true, recurses := true, named := ["internal/bytealg.MaxLen", "unicode/utf8.first", "unicode/utf8.acceptRanges"], apart := false, laid := [("unicode/utf8.acceptRanges", laid_unicode_utf8_acceptRanges), ("unicode/utf8.first", laid_unicode_utf8_first)] }
def ReaderAgainSaid : Prop := readerAgainRow.holds Tryd.pinned (OpenSpec.ofChange readerAgainSpec)

/-- ITS FALSE NEIGHBOUR: 'it returns false'. Refute it at one input. -/
def readerAgainWrong : ChangeSpec := { name := "readerAgain", fn := fun _ => fun
  | [d] => { results := [.lit (.bool false)], args := [d] }
  | _ => none }
def ReaderAgainWrongFalsely : Prop := readerAgainRow.holds Tryd.pinned (OpenSpec.ofChange readerAgainWrong)

/-- 'linnetlaw04.ReaderBack': WHATEVER THE INPUT: true; the input reads as it did. -/
def readerBackSpec : ChangeSpec := { name := "readerBack", fn := fun _ => fun
  | [d1, d2] => { results := [.lit (.bool true)], args := [d1, d2] }
  | _ => none }
def readerBackRow : OpenClaim := { program := "ytkbblbgiheclfaadoor", sum := "6dd99814cd68516bbac8a45b9995d7d46f08509841d30fa40386386ee764e174", func := "linnet/linnetlaw04.ReaderBack", spec := "readerBack", inPlace := ["internal/bytealg.Count", "internal/bytealg.IndexByte", "internal/bytealg.Index"], unfollowed := true, recurses := true, named := ["internal/bytealg.MaxLen", "unicode/utf8.first", "unicode/utf8.acceptRanges"], apart := false, laid := [("unicode/utf8.acceptRanges", laid_unicode_utf8_acceptRanges), ("unicode/utf8.first", laid_unicode_utf8_first)] }
def ReaderBackSaid : Prop := readerBackRow.holds Tryd.pinned (OpenSpec.ofChange readerBackSpec)

/-- ITS FALSE NEIGHBOUR: 'it returns false'. Refute it at one input. -/
def readerBackWrong : ChangeSpec := { name := "readerBack", fn := fun _ => fun
  | [d1, d2] => { results := [.lit (.bool false)], args := [d1, d2] }
  | _ => none }
def ReaderBackWrongFalsely : Prop := readerBackRow.holds Tryd.pinned (OpenSpec.ofChange readerBackWrong)

/- THE SECOND FORM. 'bulk': how many values and letters a reading holds, each counted each time it is reached (what is shared counts as often as it is met; a slice's spare places count too). A statement '..UptoSaid' is the law's where the arguments, and the package variables that the reading takes, are together of bulk at most 1048576: NARROWER than '..Said'. Prove '..Said' where nothing that the law and all that it calls make is longer than what came in: it says more and counts as full. Else prove '..UptoSaid'. A law counts once. -/
mutual
def uptoBulk {H : Type} : DataW H → Nat
  | .lit (.string bytes) => bytes.length + 1
  | .lit _ => 1
  | .nil => 1
  | .ptr d => uptoBulk d + 1
  | .slice elems spare => uptoBulkAll elems + uptoBulkAll spare + 1
  | .agg parts => uptoBulkAll parts + 1
  | .iface _ d => uptoBulk d + 1
  | .map entries => uptoBulkEntries entries + 1
  | .held _ => 1
def uptoBulkAll {H : Type} : List (DataW H) → Nat
  | [] => 0
  | d :: r => uptoBulk d + uptoBulkAll r
def uptoBulkEntries {H : Type} : List (Lit × DataW H) → Nat
  | [] => 0
  | x :: r => uptoBulkEntry x + uptoBulkEntries r
def uptoBulkEntry {H : Type} : Lit × DataW H → Nat
  | (.string bytes, d) => bytes.length + uptoBulk d + 1
  | (_, d) => uptoBulk d + 1
 end
def uptoSmall : (H : Type) → List (DataW H) → Bool := fun _ ds => decide (uptoBulkAll ds ≤ 1048576)
def OpenSpec.upto (s : _root_.Go.ChangeSpec) : _root_.Go.OpenSpec := { _root_.Go.OpenSpec.ofChange s with cond := some uptoSmall }

/-- 'linnetlaw03.ItemLong', WHERE WHAT IT READS IS OF BULK AT MOST 1048576: true; the input reads as it did. -/
def itemLongUptoRow : OpenClaim := { program := "ytkbblbgiheclfaadoor", sum := "6dd99814cd68516bbac8a45b9995d7d46f08509841d30fa40386386ee764e174", func := "linnet/linnetlaw03.ItemLong", spec := "itemLong", inPlace := ["internal/bytealg.Count", "internal/bytealg.IndexByte", "internal/bytealg.Index"], unfollowed := true, recurses := true, named := ["internal/bytealg.MaxLen", "unicode/utf8.first", "unicode/utf8.acceptRanges"], apart := false, laid := [("unicode/utf8.acceptRanges", laid_unicode_utf8_acceptRanges), ("unicode/utf8.first", laid_unicode_utf8_first)], narrowed := true }
def ItemLongUptoSaid : Prop := itemLongUptoRow.holds Tryd.pinned (OpenSpec.upto itemLongSpec)

/-- 'linnetlaw03.ItemJoins', WHERE WHAT IT READS IS OF BULK AT MOST 1048576: true; the input reads as it did. -/
def itemJoinsUptoRow : OpenClaim := { program := "ytkbblbgiheclfaadoor", sum := "6dd99814cd68516bbac8a45b9995d7d46f08509841d30fa40386386ee764e174", func := "linnet/linnetlaw03.ItemJoins", spec := "itemJoins", inPlace := ["internal/bytealg.Count", "internal/bytealg.IndexByte", "internal/bytealg.Index"], unfollowed := true, recurses := true, named := ["internal/bytealg.MaxLen", "unicode/utf8.first", "unicode/utf8.acceptRanges"], apart := false, laid := [("unicode/utf8.acceptRanges", laid_unicode_utf8_acceptRanges), ("unicode/utf8.first", laid_unicode_utf8_first)], narrowed := true }
def ItemJoinsUptoSaid : Prop := itemJoinsUptoRow.holds Tryd.pinned (OpenSpec.upto itemJoinsSpec)

/-- 'linnetlaw03.ItemApart', WHERE WHAT IT READS IS OF BULK AT MOST 1048576: true; the input reads as it did. -/
def itemApartUptoRow : OpenClaim := { program := "ytkbblbgiheclfaadoor", sum := "6dd99814cd68516bbac8a45b9995d7d46f08509841d30fa40386386ee764e174", func := "linnet/linnetlaw03.ItemApart", spec := "itemApart", inPlace := ["internal/bytealg.Count", "internal/bytealg.IndexByte", "internal/bytealg.Index"], unfollowed := true, recurses := true, named := ["internal/bytealg.MaxLen", "unicode/utf8.first", "unicode/utf8.acceptRanges"], apart := false, laid := [("unicode/utf8.acceptRanges", laid_unicode_utf8_acceptRanges), ("unicode/utf8.first", laid_unicode_utf8_first)], narrowed := true }
def ItemApartUptoSaid : Prop := itemApartUptoRow.holds Tryd.pinned (OpenSpec.upto itemApartSpec)

/-- 'linnetlaw03.ItemBegins', WHERE WHAT IT READS IS OF BULK AT MOST 1048576: true; the input reads as it did. -/
def itemBeginsUptoRow : OpenClaim := { program := "ytkbblbgiheclfaadoor", sum := "6dd99814cd68516bbac8a45b9995d7d46f08509841d30fa40386386ee764e174", func := "linnet/linnetlaw03.ItemBegins", spec := "itemBegins", inPlace := ["internal/bytealg.Count", "internal/bytealg.IndexByte", "internal/bytealg.Index"], unfollowed := true, recurses := true, named := ["internal/bytealg.MaxLen", "unicode/utf8.first", "unicode/utf8.acceptRanges"], apart := false, laid := [("unicode/utf8.acceptRanges", laid_unicode_utf8_acceptRanges), ("unicode/utf8.first", laid_unicode_utf8_first)], narrowed := true }
def ItemBeginsUptoSaid : Prop := itemBeginsUptoRow.holds Tryd.pinned (OpenSpec.upto itemBeginsSpec)

/-- 'linnetlaw03.ItemTells', WHERE WHAT IT READS IS OF BULK AT MOST 1048576: true; the input reads as it did. -/
def itemTellsUptoRow : OpenClaim := { program := "ytkbblbgiheclfaadoor", sum := "6dd99814cd68516bbac8a45b9995d7d46f08509841d30fa40386386ee764e174", func := "linnet/linnetlaw03.ItemTells", spec := "itemTells", inPlace := ["internal/bytealg.Count", "internal/bytealg.IndexByte", "internal/bytealg.Index"], unfollowed := true, recurses := true, named := ["internal/bytealg.MaxLen", "unicode/utf8.first", "unicode/utf8.acceptRanges"], apart := false, laid := [("unicode/utf8.acceptRanges", laid_unicode_utf8_acceptRanges), ("unicode/utf8.first", laid_unicode_utf8_first)], narrowed := true }
def ItemTellsUptoSaid : Prop := itemTellsUptoRow.holds Tryd.pinned (OpenSpec.upto itemTellsSpec)

/-- 'linnetlaw03.ItemData', WHERE WHAT IT READS IS OF BULK AT MOST 1048576: true; the input reads as it did. -/
def itemDataUptoRow : OpenClaim := { program := "ytkbblbgiheclfaadoor", sum := "6dd99814cd68516bbac8a45b9995d7d46f08509841d30fa40386386ee764e174", func := "linnet/linnetlaw03.ItemData", spec := "itemData", inPlace := ["internal/bytealg.Count", "internal/bytealg.IndexByte", "internal/bytealg.Index"], unfollowed := true, recurses := true, named := ["internal/bytealg.MaxLen", "unicode/utf8.first", "unicode/utf8.acceptRanges"], apart := false, laid := [("unicode/utf8.acceptRanges", laid_unicode_utf8_acceptRanges), ("unicode/utf8.first", laid_unicode_utf8_first)], narrowed := true }
def ItemDataUptoSaid : Prop := itemDataUptoRow.holds Tryd.pinned (OpenSpec.upto itemDataSpec)

/-- 'linnetlaw04.ReaderAgain', WHERE WHAT IT READS IS OF BULK AT MOST 1048576: true; the input reads as it did. -/
def readerAgainUptoRow : OpenClaim := { program := "ytkbblbgiheclfaadoor", sum := "6dd99814cd68516bbac8a45b9995d7d46f08509841d30fa40386386ee764e174", func := "linnet/linnetlaw04.ReaderAgain", spec := "readerAgain", inPlace := ["internal/bytealg.Count", "internal/bytealg.IndexByte", "internal/bytealg.Index"], unfollowed := true, recurses := true, named := ["internal/bytealg.MaxLen", "unicode/utf8.first", "unicode/utf8.acceptRanges"], apart := false, laid := [("unicode/utf8.acceptRanges", laid_unicode_utf8_acceptRanges), ("unicode/utf8.first", laid_unicode_utf8_first)], narrowed := true }
def ReaderAgainUptoSaid : Prop := readerAgainUptoRow.holds Tryd.pinned (OpenSpec.upto readerAgainSpec)

/-- 'linnetlaw04.ReaderBack', WHERE WHAT IT READS IS OF BULK AT MOST 1048576: true; the input reads as it did. -/
def readerBackUptoRow : OpenClaim := { program := "ytkbblbgiheclfaadoor", sum := "6dd99814cd68516bbac8a45b9995d7d46f08509841d30fa40386386ee764e174", func := "linnet/linnetlaw04.ReaderBack", spec := "readerBack", inPlace := ["internal/bytealg.Count", "internal/bytealg.IndexByte", "internal/bytealg.Index"], unfollowed := true, recurses := true, named := ["internal/bytealg.MaxLen", "unicode/utf8.first", "unicode/utf8.acceptRanges"], apart := false, laid := [("unicode/utf8.acceptRanges", laid_unicode_utf8_acceptRanges), ("unicode/utf8.first", laid_unicode_utf8_first)], narrowed := true }
def ReaderBackUptoSaid : Prop := readerBackUptoRow.holds Tryd.pinned (OpenSpec.upto readerBackSpec)

end Rows
end Go.Proofs.YtkbblbgiheclfaaDoor
