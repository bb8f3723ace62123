/-
  DERIVED. GIVEN WITH THE SEED: THE CARDS: each row of YtlpdjpkdgagjpaaDoorRows.lean that lists a variable, with what it lists TIED to the program's text (the seventh form; the later family's looks); each row that meets fmt, with fmt's text TOLD by the authors' own Lean function (tested against real Go, not proved from fmt's source: count such statements apart). THE CARD IS WHAT COUNTS. Prove the row's statement (the work); the ties are given (YtlpdjpkdgagjpaaDoorTie.lean); close each card by the builder's one call (the guide's Derived/Test/ToyasCard.lean, 'card_holds'). Laid BY PROGRAM, IN A SANDBOX (cutbox-door.mjs). By AI agents, Wed Nov 11 2026. No macro, syntax, notation, axiom, sorry.
-/
import Derived.Test.YtlpdjpkdgagjpaaDoorRows
import GoSem.ClaimSeven
namespace Go.Proofs.YtlpdjpkdgagjpaaDoor
namespace Rows

/-- THE TIED CARD OF 'trothlaw19.MsgNumbers'. -/
def msgNumbersCard : Claim7 := { stood := { row := msgNumbersRow, standIns := [], harness := (true, "972c6201bed477c34fea689775ab02c8e81baae7049cf308c81c2d257a7288eb"), looks := false }, kinds := [], alts := [], laidByText := true, laidKinds := [.data], laidTests := true, laidLooks := .later }
def MsgNumbersCardSaid : Prop := Claim7.holds Tryd.pinned (.plain (OpenSpec.ofChange msgNumbersSpec)) msgNumbersCard

/-- THE TIED CARD OF 'trothlaw08.SheetLays'. -/
def sheetLaysCard : Claim7 := { stood := { row := sheetLaysRow, standIns := [], harness := (true, "972c6201bed477c34fea689775ab02c8e81baae7049cf308c81c2d257a7288eb"), looks := false }, kinds := [], alts := [], laidByText := true, laidKinds := [.data], laidTests := true, laidLooks := .later }
def SheetLaysCardSaid : Prop := Claim7.holds Tryd.pinned (.plain (OpenSpec.ofChange sheetLaysSpec)) sheetLaysCard

/-- THE TIED CARD OF 'trothlaw08.SheetBack'. -/
def sheetBackCard : Claim7 := { stood := { row := sheetBackRow, standIns := [], harness := (true, "972c6201bed477c34fea689775ab02c8e81baae7049cf308c81c2d257a7288eb"), looks := false }, kinds := [], alts := [], laidByText := true, laidKinds := [.data], laidTests := true, laidLooks := .later }
def SheetBackCardSaid : Prop := Claim7.holds Tryd.pinned (.plain (OpenSpec.ofChange sheetBackSpec)) sheetBackCard

/-- THE TIED CARD OF 'trothlaw08.SheetLater'. -/
def sheetLaterCard : Claim7 := { stood := { row := sheetLaterRow, standIns := [], harness := (true, "972c6201bed477c34fea689775ab02c8e81baae7049cf308c81c2d257a7288eb"), looks := false }, kinds := [], alts := [], laidByText := true, laidKinds := [.data], laidTests := true, laidLooks := .later }
def SheetLaterCardSaid : Prop := Claim7.holds Tryd.pinned (.plain (OpenSpec.ofChange sheetLaterSpec)) sheetLaterCard

/-- THE TIED CARD OF 'trothlaw08.SheetPayloads'. -/
def sheetPayloadsCard : Claim7 := { stood := { row := sheetPayloadsRow, standIns := [], harness := (true, "972c6201bed477c34fea689775ab02c8e81baae7049cf308c81c2d257a7288eb"), looks := false }, kinds := [], alts := [], laidByText := true, laidKinds := [.data], laidTests := true, laidLooks := .later }
def SheetPayloadsCardSaid : Prop := Claim7.holds Tryd.pinned (.plain (OpenSpec.ofChange sheetPayloadsSpec)) sheetPayloadsCard

/-- THE TIED CARD OF 'trothlaw19.MsgWrites'. -/
def msgWritesCard : Claim7 := { stood := { row := msgWritesRow, standIns := [], harness := (true, "972c6201bed477c34fea689775ab02c8e81baae7049cf308c81c2d257a7288eb"), looks := false }, kinds := [], alts := [], laidByText := true, laidKinds := [.data], laidTests := true, laidLooks := .later }
def MsgWritesCardSaid : Prop := Claim7.holds Tryd.pinned (.plain (OpenSpec.ofChange msgWritesSpec)) msgWritesCard

/-- THE TIED CARD OF 'trothlaw19.MsgReads'. -/
def msgReadsCard : Claim7 := { stood := { row := msgReadsRow, standIns := [], harness := (true, "972c6201bed477c34fea689775ab02c8e81baae7049cf308c81c2d257a7288eb"), looks := false }, kinds := [], alts := [], laidByText := true, laidKinds := [.data], laidTests := true, laidLooks := .later }
def MsgReadsCardSaid : Prop := Claim7.holds Tryd.pinned (.plain (OpenSpec.ofChange msgReadsSpec)) msgReadsCard

/-- THE TIED CARD OF 'trothlaw19.MsgTurns'. -/
def msgTurnsCard : Claim7 := { stood := { row := msgTurnsRow, standIns := [], harness := (true, "972c6201bed477c34fea689775ab02c8e81baae7049cf308c81c2d257a7288eb"), looks := false }, kinds := [], alts := [], laidByText := true, laidKinds := [.data], laidTests := true, laidLooks := .later }
def MsgTurnsCardSaid : Prop := Claim7.holds Tryd.pinned (.plain (OpenSpec.ofChange msgTurnsSpec)) msgTurnsCard

/-- THE SECOND FORM's CARD OF 'trothlaw19.MsgNumbers'. -/
def msgNumbersUptoCard : Claim7 := { stood := { row := msgNumbersUptoRow, standIns := [], harness := (true, "972c6201bed477c34fea689775ab02c8e81baae7049cf308c81c2d257a7288eb"), looks := false }, kinds := [], alts := [], laidByText := true, laidKinds := [.data], laidTests := true, laidLooks := .later }
def MsgNumbersUptoCardSaid : Prop := Claim7.holds Tryd.pinned (.plain (OpenSpec.upto msgNumbersSpec)) msgNumbersUptoCard

/-- THE SECOND FORM's CARD OF 'trothlaw08.SheetLays'. -/
def sheetLaysUptoCard : Claim7 := { stood := { row := sheetLaysUptoRow, standIns := [], harness := (true, "972c6201bed477c34fea689775ab02c8e81baae7049cf308c81c2d257a7288eb"), looks := false }, kinds := [], alts := [], laidByText := true, laidKinds := [.data], laidTests := true, laidLooks := .later }
def SheetLaysUptoCardSaid : Prop := Claim7.holds Tryd.pinned (.plain (OpenSpec.upto sheetLaysSpec)) sheetLaysUptoCard

/-- THE SECOND FORM's CARD OF 'trothlaw08.SheetBack'. -/
def sheetBackUptoCard : Claim7 := { stood := { row := sheetBackUptoRow, standIns := [], harness := (true, "972c6201bed477c34fea689775ab02c8e81baae7049cf308c81c2d257a7288eb"), looks := false }, kinds := [], alts := [], laidByText := true, laidKinds := [.data], laidTests := true, laidLooks := .later }
def SheetBackUptoCardSaid : Prop := Claim7.holds Tryd.pinned (.plain (OpenSpec.upto sheetBackSpec)) sheetBackUptoCard

/-- THE SECOND FORM's CARD OF 'trothlaw08.SheetLater'. -/
def sheetLaterUptoCard : Claim7 := { stood := { row := sheetLaterUptoRow, standIns := [], harness := (true, "972c6201bed477c34fea689775ab02c8e81baae7049cf308c81c2d257a7288eb"), looks := false }, kinds := [], alts := [], laidByText := true, laidKinds := [.data], laidTests := true, laidLooks := .later }
def SheetLaterUptoCardSaid : Prop := Claim7.holds Tryd.pinned (.plain (OpenSpec.upto sheetLaterSpec)) sheetLaterUptoCard

/-- THE SECOND FORM's CARD OF 'trothlaw08.SheetPayloads'. -/
def sheetPayloadsUptoCard : Claim7 := { stood := { row := sheetPayloadsUptoRow, standIns := [], harness := (true, "972c6201bed477c34fea689775ab02c8e81baae7049cf308c81c2d257a7288eb"), looks := false }, kinds := [], alts := [], laidByText := true, laidKinds := [.data], laidTests := true, laidLooks := .later }
def SheetPayloadsUptoCardSaid : Prop := Claim7.holds Tryd.pinned (.plain (OpenSpec.upto sheetPayloadsSpec)) sheetPayloadsUptoCard

/-- THE SECOND FORM's CARD OF 'trothlaw19.MsgWrites'. -/
def msgWritesUptoCard : Claim7 := { stood := { row := msgWritesUptoRow, standIns := [], harness := (true, "972c6201bed477c34fea689775ab02c8e81baae7049cf308c81c2d257a7288eb"), looks := false }, kinds := [], alts := [], laidByText := true, laidKinds := [.data], laidTests := true, laidLooks := .later }
def MsgWritesUptoCardSaid : Prop := Claim7.holds Tryd.pinned (.plain (OpenSpec.upto msgWritesSpec)) msgWritesUptoCard

/-- THE SECOND FORM's CARD OF 'trothlaw19.MsgReads'. -/
def msgReadsUptoCard : Claim7 := { stood := { row := msgReadsUptoRow, standIns := [], harness := (true, "972c6201bed477c34fea689775ab02c8e81baae7049cf308c81c2d257a7288eb"), looks := false }, kinds := [], alts := [], laidByText := true, laidKinds := [.data], laidTests := true, laidLooks := .later }
def MsgReadsUptoCardSaid : Prop := Claim7.holds Tryd.pinned (.plain (OpenSpec.upto msgReadsSpec)) msgReadsUptoCard

/-- THE SECOND FORM's CARD OF 'trothlaw19.MsgTurns'. -/
def msgTurnsUptoCard : Claim7 := { stood := { row := msgTurnsUptoRow, standIns := [], harness := (true, "972c6201bed477c34fea689775ab02c8e81baae7049cf308c81c2d257a7288eb"), looks := false }, kinds := [], alts := [], laidByText := true, laidKinds := [.data], laidTests := true, laidLooks := .later }
def MsgTurnsUptoCardSaid : Prop := Claim7.holds Tryd.pinned (.plain (OpenSpec.upto msgTurnsSpec)) msgTurnsUptoCard
end Rows
end Go.Proofs.YtlpdjpkdgagjpaaDoor
