/-
  DERIVED. GIVEN WITH THE SEED: THE CARDS: each row of YtbghpdfhloalhaaDoorRows.lean that lists a variable, with what it lists TIED to the program's text (the seventh form; the later family's looks); each row that meets fmt, with fmt's text TOLD by the authors' own Lean function (tested against real Go, not proved from fmt's source: count such statements apart). THE CARD IS WHAT COUNTS. Prove the row's statement (the work); the ties are given (YtbghpdfhloalhaaDoorTie.lean); close each card by the builder's one call (the guide's Derived/Test/ToyasCard.lean, 'card_holds'). Laid BY PROGRAM, IN A SANDBOX (cutbox-door.mjs). By AI agents, Wed Nov 11 2026. No macro, syntax, notation, axiom, sorry.
-/
import Derived.Test.YtbghpdfhloalhaaDoorRows
import GoSem.ClaimSeven
namespace Go.Proofs.YtbghpdfhloalhaaDoor
namespace Rows

/-- THE TIED CARD OF 'trothlaw03.SealOpens'. -/
def sealOpensCard : Claim7 := { stood := { row := sealOpensRow, standIns := [], harness := (true, "bd02829a45b6bc18beb3927edeeabd85a453980e5312a932520a38645c959760"), looks := false }, kinds := [], alts := [], laidByText := true, laidKinds := [.data], laidTests := true, laidLooks := .later }
def SealOpensCardSaid : Prop := Claim7.holds Tryd.pinned (.plain (OpenSpec.ofChange sealOpensSpec)) sealOpensCard

/-- THE TIED CARD OF 'trothlaw03.SealCuts'. -/
def sealCutsCard : Claim7 := { stood := { row := sealCutsRow, standIns := [], harness := (true, "bd02829a45b6bc18beb3927edeeabd85a453980e5312a932520a38645c959760"), looks := false }, kinds := [], alts := [], laidByText := true, laidKinds := [.data], laidTests := true, laidLooks := .later }
def SealCutsCardSaid : Prop := Claim7.holds Tryd.pinned (.plain (OpenSpec.ofChange sealCutsSpec)) sealCutsCard

/-- THE TIED CARD OF 'trothlaw03.SealTurns'. -/
def sealTurnsCard : Claim7 := { stood := { row := sealTurnsRow, standIns := [], harness := (true, "bd02829a45b6bc18beb3927edeeabd85a453980e5312a932520a38645c959760"), looks := false }, kinds := [], alts := [], laidByText := true, laidKinds := [.data], laidTests := true, laidLooks := .later }
def SealTurnsCardSaid : Prop := Claim7.holds Tryd.pinned (.plain (OpenSpec.ofChange sealTurnsSpec)) sealTurnsCard

/-- THE TIED CARD OF 'trothlaw03.SealWrites'. -/
def sealWritesCard : Claim7 := { stood := { row := sealWritesRow, standIns := [], harness := (true, "bd02829a45b6bc18beb3927edeeabd85a453980e5312a932520a38645c959760"), looks := false }, kinds := [], alts := [], laidByText := true, laidKinds := [.data], laidTests := true, laidLooks := .later }
def SealWritesCardSaid : Prop := Claim7.holds Tryd.pinned (.plain (OpenSpec.ofChange sealWritesSpec)) sealWritesCard

/-- THE TIED CARD OF 'trothlaw03.SealOwn'. -/
def sealOwnCard : Claim7 := { stood := { row := sealOwnRow, standIns := [], harness := (true, "bd02829a45b6bc18beb3927edeeabd85a453980e5312a932520a38645c959760"), looks := false }, kinds := [], alts := [], laidByText := true, laidKinds := [.data], laidTests := true, laidLooks := .later }
def SealOwnCardSaid : Prop := Claim7.holds Tryd.pinned (.plain (OpenSpec.ofChange sealOwnSpec)) sealOwnCard

/-- THE TIED CARD OF 'trothlaw03.SealReads'. -/
def sealReadsCard : Claim7 := { stood := { row := sealReadsRow, standIns := [], harness := (true, "bd02829a45b6bc18beb3927edeeabd85a453980e5312a932520a38645c959760"), looks := false }, kinds := [], alts := [], laidByText := true, laidKinds := [.data], laidTests := true, laidLooks := .later }
def SealReadsCardSaid : Prop := Claim7.holds Tryd.pinned (.plain (OpenSpec.ofChange sealReadsSpec)) sealReadsCard

/-- THE TIED CARD OF 'trothlaw03.SealBack'. -/
def sealBackCard : Claim7 := { stood := { row := sealBackRow, standIns := [], harness := (true, "bd02829a45b6bc18beb3927edeeabd85a453980e5312a932520a38645c959760"), looks := false }, kinds := [], alts := [], laidByText := true, laidKinds := [.data], laidTests := true, laidLooks := .later }
def SealBackCardSaid : Prop := Claim7.holds Tryd.pinned (.plain (OpenSpec.ofChange sealBackSpec)) sealBackCard

/-- THE TIED CARD OF 'trothlaw03.SealNil'. -/
def sealNilCard : Claim7 := { stood := { row := sealNilRow, standIns := [], harness := (true, "bd02829a45b6bc18beb3927edeeabd85a453980e5312a932520a38645c959760"), looks := false }, kinds := [], alts := [], laidByText := true, laidKinds := [.data], laidTests := true, laidLooks := .later }
def SealNilCardSaid : Prop := Claim7.holds Tryd.pinned (.plain (OpenSpec.ofChange sealNilSpec)) sealNilCard

/-- THE SECOND FORM's CARD OF 'trothlaw03.SealOpens'. -/
def sealOpensUptoCard : Claim7 := { stood := { row := sealOpensUptoRow, standIns := [], harness := (true, "bd02829a45b6bc18beb3927edeeabd85a453980e5312a932520a38645c959760"), looks := false }, kinds := [], alts := [], laidByText := true, laidKinds := [.data], laidTests := true, laidLooks := .later }
def SealOpensUptoCardSaid : Prop := Claim7.holds Tryd.pinned (.plain (OpenSpec.upto sealOpensSpec)) sealOpensUptoCard

/-- THE SECOND FORM's CARD OF 'trothlaw03.SealCuts'. -/
def sealCutsUptoCard : Claim7 := { stood := { row := sealCutsUptoRow, standIns := [], harness := (true, "bd02829a45b6bc18beb3927edeeabd85a453980e5312a932520a38645c959760"), looks := false }, kinds := [], alts := [], laidByText := true, laidKinds := [.data], laidTests := true, laidLooks := .later }
def SealCutsUptoCardSaid : Prop := Claim7.holds Tryd.pinned (.plain (OpenSpec.upto sealCutsSpec)) sealCutsUptoCard

/-- THE SECOND FORM's CARD OF 'trothlaw03.SealTurns'. -/
def sealTurnsUptoCard : Claim7 := { stood := { row := sealTurnsUptoRow, standIns := [], harness := (true, "bd02829a45b6bc18beb3927edeeabd85a453980e5312a932520a38645c959760"), looks := false }, kinds := [], alts := [], laidByText := true, laidKinds := [.data], laidTests := true, laidLooks := .later }
def SealTurnsUptoCardSaid : Prop := Claim7.holds Tryd.pinned (.plain (OpenSpec.upto sealTurnsSpec)) sealTurnsUptoCard

/-- THE SECOND FORM's CARD OF 'trothlaw03.SealWrites'. -/
def sealWritesUptoCard : Claim7 := { stood := { row := sealWritesUptoRow, standIns := [], harness := (true, "bd02829a45b6bc18beb3927edeeabd85a453980e5312a932520a38645c959760"), looks := false }, kinds := [], alts := [], laidByText := true, laidKinds := [.data], laidTests := true, laidLooks := .later }
def SealWritesUptoCardSaid : Prop := Claim7.holds Tryd.pinned (.plain (OpenSpec.upto sealWritesSpec)) sealWritesUptoCard

/-- THE SECOND FORM's CARD OF 'trothlaw03.SealOwn'. -/
def sealOwnUptoCard : Claim7 := { stood := { row := sealOwnUptoRow, standIns := [], harness := (true, "bd02829a45b6bc18beb3927edeeabd85a453980e5312a932520a38645c959760"), looks := false }, kinds := [], alts := [], laidByText := true, laidKinds := [.data], laidTests := true, laidLooks := .later }
def SealOwnUptoCardSaid : Prop := Claim7.holds Tryd.pinned (.plain (OpenSpec.upto sealOwnSpec)) sealOwnUptoCard

/-- THE SECOND FORM's CARD OF 'trothlaw03.SealReads'. -/
def sealReadsUptoCard : Claim7 := { stood := { row := sealReadsUptoRow, standIns := [], harness := (true, "bd02829a45b6bc18beb3927edeeabd85a453980e5312a932520a38645c959760"), looks := false }, kinds := [], alts := [], laidByText := true, laidKinds := [.data], laidTests := true, laidLooks := .later }
def SealReadsUptoCardSaid : Prop := Claim7.holds Tryd.pinned (.plain (OpenSpec.upto sealReadsSpec)) sealReadsUptoCard

/-- THE SECOND FORM's CARD OF 'trothlaw03.SealBack'. -/
def sealBackUptoCard : Claim7 := { stood := { row := sealBackUptoRow, standIns := [], harness := (true, "bd02829a45b6bc18beb3927edeeabd85a453980e5312a932520a38645c959760"), looks := false }, kinds := [], alts := [], laidByText := true, laidKinds := [.data], laidTests := true, laidLooks := .later }
def SealBackUptoCardSaid : Prop := Claim7.holds Tryd.pinned (.plain (OpenSpec.upto sealBackSpec)) sealBackUptoCard

/-- THE SECOND FORM's CARD OF 'trothlaw03.SealNil'. -/
def sealNilUptoCard : Claim7 := { stood := { row := sealNilUptoRow, standIns := [], harness := (true, "bd02829a45b6bc18beb3927edeeabd85a453980e5312a932520a38645c959760"), looks := false }, kinds := [], alts := [], laidByText := true, laidKinds := [.data], laidTests := true, laidLooks := .later }
def SealNilUptoCardSaid : Prop := Claim7.holds Tryd.pinned (.plain (OpenSpec.upto sealNilSpec)) sealNilUptoCard
end Rows
end Go.Proofs.YtbghpdfhloalhaaDoor
