/-
  DERIVED. GIVEN WITH THE SEED: THE CARDS: each row of YtkbblbgiheclfaaDoorRows.lean that lists a variable, with what it lists TIED to the program's text (the seventh form; the later family's looks); each row that meets fmt, with fmt's text TOLD by the authors' own Lean function (tested against real Go, not proved from fmt's source: count such statements apart). THE CARD IS WHAT COUNTS. Prove the row's statement (the work); the ties are given (YtkbblbgiheclfaaDoorTie.lean); close each card by the builder's one call (the guide's Derived/Test/ToyasCard.lean, 'card_holds'). Laid BY PROGRAM, IN A SANDBOX (cutbox-door.mjs). By AI agents, Wed Nov 11 2026. No macro, syntax, notation, axiom, sorry.
-/
import Derived.Test.YtkbblbgiheclfaaDoorRows
import GoSem.ClaimSeven
namespace Go.Proofs.YtkbblbgiheclfaaDoor
namespace Rows

/-- THE TIED CARD OF 'linnetlaw03.ItemLong'. -/
def itemLongCard : Claim7 := { stood := { row := itemLongRow, standIns := [], harness := (true, "ad106a8fd1a7b2e0a29e7c3a5d07689af0f15ff704f61e2c37cad24b5a24582d"), looks := false }, kinds := [], alts := [], laidByText := true, laidKinds := [.data, .pinned], laidTests := true, laidLooks := .later }
def ItemLongCardSaid : Prop := Claim7.holds Tryd.pinned (.plain (OpenSpec.ofChange itemLongSpec)) itemLongCard

/-- THE TIED CARD OF 'linnetlaw03.ItemJoins'. -/
def itemJoinsCard : Claim7 := { stood := { row := itemJoinsRow, standIns := [], harness := (true, "ad106a8fd1a7b2e0a29e7c3a5d07689af0f15ff704f61e2c37cad24b5a24582d"), looks := false }, kinds := [], alts := [], laidByText := true, laidKinds := [.data, .pinned], laidTests := true, laidLooks := .later }
def ItemJoinsCardSaid : Prop := Claim7.holds Tryd.pinned (.plain (OpenSpec.ofChange itemJoinsSpec)) itemJoinsCard

/-- THE TIED CARD OF 'linnetlaw03.ItemApart'. -/
def itemApartCard : Claim7 := { stood := { row := itemApartRow, standIns := [], harness := (true, "ad106a8fd1a7b2e0a29e7c3a5d07689af0f15ff704f61e2c37cad24b5a24582d"), looks := false }, kinds := [], alts := [], laidByText := true, laidKinds := [.data, .pinned], laidTests := true, laidLooks := .later }
def ItemApartCardSaid : Prop := Claim7.holds Tryd.pinned (.plain (OpenSpec.ofChange itemApartSpec)) itemApartCard

/-- THE TIED CARD OF 'linnetlaw03.ItemBegins'. -/
def itemBeginsCard : Claim7 := { stood := { row := itemBeginsRow, standIns := [], harness := (true, "ad106a8fd1a7b2e0a29e7c3a5d07689af0f15ff704f61e2c37cad24b5a24582d"), looks := false }, kinds := [], alts := [], laidByText := true, laidKinds := [.data, .pinned], laidTests := true, laidLooks := .later }
def ItemBeginsCardSaid : Prop := Claim7.holds Tryd.pinned (.plain (OpenSpec.ofChange itemBeginsSpec)) itemBeginsCard

/-- THE TIED CARD OF 'linnetlaw03.ItemTells'. -/
def itemTellsCard : Claim7 := { stood := { row := itemTellsRow, standIns := [], harness := (true, "ad106a8fd1a7b2e0a29e7c3a5d07689af0f15ff704f61e2c37cad24b5a24582d"), looks := false }, kinds := [], alts := [], laidByText := true, laidKinds := [.data, .pinned], laidTests := true, laidLooks := .later }
def ItemTellsCardSaid : Prop := Claim7.holds Tryd.pinned (.plain (OpenSpec.ofChange itemTellsSpec)) itemTellsCard

/-- THE TIED CARD OF 'linnetlaw03.ItemData'. -/
def itemDataCard : Claim7 := { stood := { row := itemDataRow, standIns := [], harness := (true, "ad106a8fd1a7b2e0a29e7c3a5d07689af0f15ff704f61e2c37cad24b5a24582d"), looks := false }, kinds := [], alts := [], laidByText := true, laidKinds := [.data, .pinned], laidTests := true, laidLooks := .later }
def ItemDataCardSaid : Prop := Claim7.holds Tryd.pinned (.plain (OpenSpec.ofChange itemDataSpec)) itemDataCard

/-- THE TIED CARD OF 'linnetlaw04.ReaderAgain'. -/
def readerAgainCard : Claim7 := { stood := { row := readerAgainRow, standIns := [], harness := (true, "ad106a8fd1a7b2e0a29e7c3a5d07689af0f15ff704f61e2c37cad24b5a24582d"), looks := false }, kinds := [], alts := [], laidByText := true, laidKinds := [.data, .pinned], laidTests := true, laidLooks := .later }
def ReaderAgainCardSaid : Prop := Claim7.holds Tryd.pinned (.plain (OpenSpec.ofChange readerAgainSpec)) readerAgainCard

/-- THE TIED CARD OF 'linnetlaw04.ReaderBack'. -/
def readerBackCard : Claim7 := { stood := { row := readerBackRow, standIns := [], harness := (true, "ad106a8fd1a7b2e0a29e7c3a5d07689af0f15ff704f61e2c37cad24b5a24582d"), looks := false }, kinds := [], alts := [], laidByText := true, laidKinds := [.data, .pinned], laidTests := true, laidLooks := .later }
def ReaderBackCardSaid : Prop := Claim7.holds Tryd.pinned (.plain (OpenSpec.ofChange readerBackSpec)) readerBackCard

/-- THE SECOND FORM's CARD OF 'linnetlaw03.ItemLong'. -/
def itemLongUptoCard : Claim7 := { stood := { row := itemLongUptoRow, standIns := [], harness := (true, "ad106a8fd1a7b2e0a29e7c3a5d07689af0f15ff704f61e2c37cad24b5a24582d"), looks := false }, kinds := [], alts := [], laidByText := true, laidKinds := [.data, .pinned], laidTests := true, laidLooks := .later }
def ItemLongUptoCardSaid : Prop := Claim7.holds Tryd.pinned (.plain (OpenSpec.upto itemLongSpec)) itemLongUptoCard

/-- THE SECOND FORM's CARD OF 'linnetlaw03.ItemJoins'. -/
def itemJoinsUptoCard : Claim7 := { stood := { row := itemJoinsUptoRow, standIns := [], harness := (true, "ad106a8fd1a7b2e0a29e7c3a5d07689af0f15ff704f61e2c37cad24b5a24582d"), looks := false }, kinds := [], alts := [], laidByText := true, laidKinds := [.data, .pinned], laidTests := true, laidLooks := .later }
def ItemJoinsUptoCardSaid : Prop := Claim7.holds Tryd.pinned (.plain (OpenSpec.upto itemJoinsSpec)) itemJoinsUptoCard

/-- THE SECOND FORM's CARD OF 'linnetlaw03.ItemApart'. -/
def itemApartUptoCard : Claim7 := { stood := { row := itemApartUptoRow, standIns := [], harness := (true, "ad106a8fd1a7b2e0a29e7c3a5d07689af0f15ff704f61e2c37cad24b5a24582d"), looks := false }, kinds := [], alts := [], laidByText := true, laidKinds := [.data, .pinned], laidTests := true, laidLooks := .later }
def ItemApartUptoCardSaid : Prop := Claim7.holds Tryd.pinned (.plain (OpenSpec.upto itemApartSpec)) itemApartUptoCard

/-- THE SECOND FORM's CARD OF 'linnetlaw03.ItemBegins'. -/
def itemBeginsUptoCard : Claim7 := { stood := { row := itemBeginsUptoRow, standIns := [], harness := (true, "ad106a8fd1a7b2e0a29e7c3a5d07689af0f15ff704f61e2c37cad24b5a24582d"), looks := false }, kinds := [], alts := [], laidByText := true, laidKinds := [.data, .pinned], laidTests := true, laidLooks := .later }
def ItemBeginsUptoCardSaid : Prop := Claim7.holds Tryd.pinned (.plain (OpenSpec.upto itemBeginsSpec)) itemBeginsUptoCard

/-- THE SECOND FORM's CARD OF 'linnetlaw03.ItemTells'. -/
def itemTellsUptoCard : Claim7 := { stood := { row := itemTellsUptoRow, standIns := [], harness := (true, "ad106a8fd1a7b2e0a29e7c3a5d07689af0f15ff704f61e2c37cad24b5a24582d"), looks := false }, kinds := [], alts := [], laidByText := true, laidKinds := [.data, .pinned], laidTests := true, laidLooks := .later }
def ItemTellsUptoCardSaid : Prop := Claim7.holds Tryd.pinned (.plain (OpenSpec.upto itemTellsSpec)) itemTellsUptoCard

/-- THE SECOND FORM's CARD OF 'linnetlaw03.ItemData'. -/
def itemDataUptoCard : Claim7 := { stood := { row := itemDataUptoRow, standIns := [], harness := (true, "ad106a8fd1a7b2e0a29e7c3a5d07689af0f15ff704f61e2c37cad24b5a24582d"), looks := false }, kinds := [], alts := [], laidByText := true, laidKinds := [.data, .pinned], laidTests := true, laidLooks := .later }
def ItemDataUptoCardSaid : Prop := Claim7.holds Tryd.pinned (.plain (OpenSpec.upto itemDataSpec)) itemDataUptoCard

/-- THE SECOND FORM's CARD OF 'linnetlaw04.ReaderAgain'. -/
def readerAgainUptoCard : Claim7 := { stood := { row := readerAgainUptoRow, standIns := [], harness := (true, "ad106a8fd1a7b2e0a29e7c3a5d07689af0f15ff704f61e2c37cad24b5a24582d"), looks := false }, kinds := [], alts := [], laidByText := true, laidKinds := [.data, .pinned], laidTests := true, laidLooks := .later }
def ReaderAgainUptoCardSaid : Prop := Claim7.holds Tryd.pinned (.plain (OpenSpec.upto readerAgainSpec)) readerAgainUptoCard

/-- THE SECOND FORM's CARD OF 'linnetlaw04.ReaderBack'. -/
def readerBackUptoCard : Claim7 := { stood := { row := readerBackUptoRow, standIns := [], harness := (true, "ad106a8fd1a7b2e0a29e7c3a5d07689af0f15ff704f61e2c37cad24b5a24582d"), looks := false }, kinds := [], alts := [], laidByText := true, laidKinds := [.data, .pinned], laidTests := true, laidLooks := .later }
def ReaderBackUptoCardSaid : Prop := Claim7.holds Tryd.pinned (.plain (OpenSpec.upto readerBackSpec)) readerBackUptoCard
end Rows
end Go.Proofs.YtkbblbgiheclfaaDoor
