/-
  NARROWER THAN 'FOR EVERY INPUT', by the rows' own cells (each row's printed sentence says how): MsgNumbers: laid · SheetLays: laid · SheetBack: laid · SheetLater: laid · SheetPayloads: laid · MsgWrites: laid · MsgReads: laid · MsgTurns: laid.
  DERIVED. THE GIVEN ROWS OF THIS SEAT. 8 by the template 'for every input the law returns true; each argument reads behind the call as it read before'; 0 by the template 'total and deterministic' (their statements: YtlpdjpkdgagjpaaDoorTotals.lean).
  GIVEN WITH THE SEED: the statements are not yours to turn. If you find one false, say at which input.
  Laid BY PROGRAM, IN A SANDBOX (cutbox-rows.mjs): the forced cells as the released guide's own fill.sh prints them over the translation 2475de8472a08816… (all of the seat's roots in one cut). By AI agents, Wed Nov 11 2026. No macro, syntax, notation, axiom, sorry.
-/
import Derived.Test.YtlpdjpkdgagjpaaDoorChecked
import GoSem.Claim
import GoSem.ClaimJoined
import GoSem.ClaimMapViews
import Derived.JoinedTies
import Derived.KernelRfl
namespace Go.Proofs.YtlpdjpkdgagjpaaDoor
/- THE CELL 'sum', in the pinned program and in every row, IS THE sha256 OF THE DUMP (.gsa) THAT YtlpdjpkdgagjpaaDoorProg.lean LOADS. Nothing in Lean hashes anything: it is a label: what it is worth is what the hold of that sum in a sandbox is worth. -/
noncomputable def Tryd.pinned : Pinned := { name := "ytlpdjpkdgagjpaadoor", sum := "2475de8472a08816a9b704d6129eb8fb6a4ff18797dcb82cc4697f18458a0164", checked := Tryd.checked }
namespace Rows
def none {H : Type} : Left H := { results := [], args := [] }

/- WHAT THE LISTED PACKAGE-LEVEL VARIABLES READ AS WHEN THE CALL BEGINS. Each datum BY PROGRAM (the guide's laid-datum.mjs) off the statement by which the dump's own 'gosem.cut.vars' lays the variable. In a bare row this is a premise. The card (YtlpdjpkdgagjpaaDoorCards.lean) ties it to the program's text. -/
def laid_troth_crc_half {H : Type} : DataW H := .agg [.lit (.int .u32 0), .lit (.int .u32 498536548), .lit (.int .u32 997073096), .lit (.int .u32 651767980), .lit (.int .u32 1994146192), .lit (.int .u32 1802195444), .lit (.int .u32 1303535960), .lit (.int .u32 1342533948), .lit (.int .u32 3988292384), .lit (.int .u32 4027552580), .lit (.int .u32 3604390888), .lit (.int .u32 3412177804), .lit (.int .u32 2607071920), .lit (.int .u32 2262029012), .lit (.int .u32 2685067896), .lit (.int .u32 3183342108)]

/-- 'trothlaw19.MsgNumbers': WHATEVER THE INPUT: true; the input reads as it did. -/
def msgNumbersSpec : ChangeSpec := { name := "msgNumbers", fn := fun _ => fun
  | [d1, d2, d3, d4, d5, d6] => { results := [.lit (.bool true)], args := [d1, d2, d3, d4, d5, d6] }
  | _ => none }
def msgNumbersRow : OpenClaim := { program := "ytlpdjpkdgagjpaadoor", sum := "2475de8472a08816a9b704d6129eb8fb6a4ff18797dcb82cc4697f18458a0164", func := "troth/trothlaw19.MsgNumbers", spec := "msgNumbers", unfollowed := true, recurses := true, named := ["troth/crc.half"], apart := false, laid := [("troth/crc.half", laid_troth_crc_half)] }
def MsgNumbersSaid : Prop := msgNumbersRow.holds Tryd.pinned (OpenSpec.ofChange msgNumbersSpec)

/-- ITS FALSE NEIGHBOUR: 'it returns false'. Refute it at one input. -/
def msgNumbersWrong : ChangeSpec := { name := "msgNumbers", fn := fun _ => fun
  | [d1, d2, d3, d4, d5, d6] => { results := [.lit (.bool false)], args := [d1, d2, d3, d4, d5, d6] }
  | _ => none }
def MsgNumbersWrongFalsely : Prop := msgNumbersRow.holds Tryd.pinned (OpenSpec.ofChange msgNumbersWrong)

/-- 'trothlaw08.SheetLays': WHATEVER THE INPUT: true; the input reads as it did. -/
def sheetLaysSpec : ChangeSpec := { name := "sheetLays", fn := fun _ => fun
  | [d1, d2, d3, d4] => { results := [.lit (.bool true)], args := [d1, d2, d3, d4] }
  | _ => none }
def sheetLaysRow : OpenClaim := { program := "ytlpdjpkdgagjpaadoor", sum := "2475de8472a08816a9b704d6129eb8fb6a4ff18797dcb82cc4697f18458a0164", func := "troth/trothlaw08.SheetLays", spec := "sheetLays", unfollowed := true, recurses := true, named := ["troth/crc.half"], apart := false, laid := [("troth/crc.half", laid_troth_crc_half)] }
def SheetLaysSaid : Prop := sheetLaysRow.holds Tryd.pinned (OpenSpec.ofChange sheetLaysSpec)

/-- ITS FALSE NEIGHBOUR: 'it returns false'. Refute it at one input. -/
def sheetLaysWrong : ChangeSpec := { name := "sheetLays", fn := fun _ => fun
  | [d1, d2, d3, d4] => { results := [.lit (.bool false)], args := [d1, d2, d3, d4] }
  | _ => none }
def SheetLaysWrongFalsely : Prop := sheetLaysRow.holds Tryd.pinned (OpenSpec.ofChange sheetLaysWrong)

/-- 'trothlaw08.SheetBack': WHATEVER THE INPUT: true; the input reads as it did. -/
def sheetBackSpec : ChangeSpec := { name := "sheetBack", fn := fun _ => fun
  | [d1, d2, d3, d4] => { results := [.lit (.bool true)], args := [d1, d2, d3, d4] }
  | _ => none }
def sheetBackRow : OpenClaim := { program := "ytlpdjpkdgagjpaadoor", sum := "2475de8472a08816a9b704d6129eb8fb6a4ff18797dcb82cc4697f18458a0164", func := "troth/trothlaw08.SheetBack", spec := "sheetBack", unfollowed := true, recurses := true, named := ["troth/crc.half"], apart := false, laid := [("troth/crc.half", laid_troth_crc_half)] }
def SheetBackSaid : Prop := sheetBackRow.holds Tryd.pinned (OpenSpec.ofChange sheetBackSpec)

/-- ITS FALSE NEIGHBOUR: 'it returns false'. Refute it at one input. -/
def sheetBackWrong : ChangeSpec := { name := "sheetBack", fn := fun _ => fun
  | [d1, d2, d3, d4] => { results := [.lit (.bool false)], args := [d1, d2, d3, d4] }
  | _ => none }
def SheetBackWrongFalsely : Prop := sheetBackRow.holds Tryd.pinned (OpenSpec.ofChange sheetBackWrong)

/-- 'trothlaw08.SheetLater': WHATEVER THE INPUT: true; the input reads as it did. -/
def sheetLaterSpec : ChangeSpec := { name := "sheetLater", fn := fun _ => fun
  | [d1, d2, d3] => { results := [.lit (.bool true)], args := [d1, d2, d3] }
  | _ => none }
def sheetLaterRow : OpenClaim := { program := "ytlpdjpkdgagjpaadoor", sum := "2475de8472a08816a9b704d6129eb8fb6a4ff18797dcb82cc4697f18458a0164", func := "troth/trothlaw08.SheetLater", spec := "sheetLater", unfollowed := true, recurses := true, named := ["troth/crc.half"], apart := false, laid := [("troth/crc.half", laid_troth_crc_half)] }
def SheetLaterSaid : Prop := sheetLaterRow.holds Tryd.pinned (OpenSpec.ofChange sheetLaterSpec)

/-- ITS FALSE NEIGHBOUR: 'it returns false'. Refute it at one input. -/
def sheetLaterWrong : ChangeSpec := { name := "sheetLater", fn := fun _ => fun
  | [d1, d2, d3] => { results := [.lit (.bool false)], args := [d1, d2, d3] }
  | _ => none }
def SheetLaterWrongFalsely : Prop := sheetLaterRow.holds Tryd.pinned (OpenSpec.ofChange sheetLaterWrong)

/-- 'trothlaw08.SheetPayloads': WHATEVER THE INPUT: true; the input reads as it did. -/
def sheetPayloadsSpec : ChangeSpec := { name := "sheetPayloads", fn := fun _ => fun
  | [d1, d2] => { results := [.lit (.bool true)], args := [d1, d2] }
  | _ => none }
def sheetPayloadsRow : OpenClaim := { program := "ytlpdjpkdgagjpaadoor", sum := "2475de8472a08816a9b704d6129eb8fb6a4ff18797dcb82cc4697f18458a0164", func := "troth/trothlaw08.SheetPayloads", spec := "sheetPayloads", unfollowed := true, recurses := true, named := ["troth/crc.half"], apart := false, laid := [("troth/crc.half", laid_troth_crc_half)] }
def SheetPayloadsSaid : Prop := sheetPayloadsRow.holds Tryd.pinned (OpenSpec.ofChange sheetPayloadsSpec)

/-- ITS FALSE NEIGHBOUR: 'it returns false'. Refute it at one input. -/
def sheetPayloadsWrong : ChangeSpec := { name := "sheetPayloads", fn := fun _ => fun
  | [d1, d2] => { results := [.lit (.bool false)], args := [d1, d2] }
  | _ => none }
def SheetPayloadsWrongFalsely : Prop := sheetPayloadsRow.holds Tryd.pinned (OpenSpec.ofChange sheetPayloadsWrong)

/-- 'trothlaw19.MsgWrites': WHATEVER THE INPUT: true; the input reads as it did. -/
def msgWritesSpec : ChangeSpec := { name := "msgWrites", fn := fun _ => fun
  | [d] => { results := [.lit (.bool true)], args := [d] }
  | _ => none }
def msgWritesRow : OpenClaim := { program := "ytlpdjpkdgagjpaadoor", sum := "2475de8472a08816a9b704d6129eb8fb6a4ff18797dcb82cc4697f18458a0164", func := "troth/trothlaw19.MsgWrites", spec := "msgWrites", unfollowed := true, recurses := true, named := ["troth/crc.half"], apart := false, laid := [("troth/crc.half", laid_troth_crc_half)] }
def MsgWritesSaid : Prop := msgWritesRow.holds Tryd.pinned (OpenSpec.ofChange msgWritesSpec)

/-- ITS FALSE NEIGHBOUR: 'it returns false'. Refute it at one input. -/
def msgWritesWrong : ChangeSpec := { name := "msgWrites", fn := fun _ => fun
  | [d] => { results := [.lit (.bool false)], args := [d] }
  | _ => none }
def MsgWritesWrongFalsely : Prop := msgWritesRow.holds Tryd.pinned (OpenSpec.ofChange msgWritesWrong)

/-- 'trothlaw19.MsgReads': WHATEVER THE INPUT: true; the input reads as it did. -/
def msgReadsSpec : ChangeSpec := { name := "msgReads", fn := fun _ => fun
  | [d] => { results := [.lit (.bool true)], args := [d] }
  | _ => none }
def msgReadsRow : OpenClaim := { program := "ytlpdjpkdgagjpaadoor", sum := "2475de8472a08816a9b704d6129eb8fb6a4ff18797dcb82cc4697f18458a0164", func := "troth/trothlaw19.MsgReads", spec := "msgReads", unfollowed := true, recurses := true, named := ["troth/crc.half"], apart := false, laid := [("troth/crc.half", laid_troth_crc_half)] }
def MsgReadsSaid : Prop := msgReadsRow.holds Tryd.pinned (OpenSpec.ofChange msgReadsSpec)

/-- ITS FALSE NEIGHBOUR: 'it returns false'. Refute it at one input. -/
def msgReadsWrong : ChangeSpec := { name := "msgReads", fn := fun _ => fun
  | [d] => { results := [.lit (.bool false)], args := [d] }
  | _ => none }
def MsgReadsWrongFalsely : Prop := msgReadsRow.holds Tryd.pinned (OpenSpec.ofChange msgReadsWrong)

/-- 'trothlaw19.MsgTurns': WHATEVER THE INPUT: true; the input reads as it did. -/
def msgTurnsSpec : ChangeSpec := { name := "msgTurns", fn := fun _ => fun
  | [d1, d2, d3] => { results := [.lit (.bool true)], args := [d1, d2, d3] }
  | _ => none }
def msgTurnsRow : OpenClaim := { program := "ytlpdjpkdgagjpaadoor", sum := "2475de8472a08816a9b704d6129eb8fb6a4ff18797dcb82cc4697f18458a0164", func := "troth/trothlaw19.MsgTurns", spec := "msgTurns", unfollowed := true, recurses := true, named := ["troth/crc.half"], apart := false, laid := [("troth/crc.half", laid_troth_crc_half)] }
def MsgTurnsSaid : Prop := msgTurnsRow.holds Tryd.pinned (OpenSpec.ofChange msgTurnsSpec)

/-- ITS FALSE NEIGHBOUR: 'it returns false'. Refute it at one input. -/
def msgTurnsWrong : ChangeSpec := { name := "msgTurns", fn := fun _ => fun
  | [d1, d2, d3] => { results := [.lit (.bool false)], args := [d1, d2, d3] }
  | _ => none }
def MsgTurnsWrongFalsely : Prop := msgTurnsRow.holds Tryd.pinned (OpenSpec.ofChange msgTurnsWrong)

/- THE SECOND FORM. 'bulk': how many values and letters a reading holds, each counted each time it is reached (what is shared counts as often as it is met; a slice's spare places count too). A statement '..UptoSaid' is the law's where the arguments, and the package variables that the reading takes, are together of bulk at most 1048576: NARROWER than '..Said'. Prove '..Said' where nothing that the law and all that it calls make is longer than what came in: it says more and counts as full. Else prove '..UptoSaid'. A law counts once. -/
mutual
def uptoBulk {H : Type} : DataW H → Nat
  | .lit (.string bytes) => bytes.length + 1
  | .lit _ => 1
  | .nil => 1
  | .ptr d => uptoBulk d + 1
  | .slice elems spare => uptoBulkAll elems + uptoBulkAll spare + 1
  | .agg parts => uptoBulkAll parts + 1
  | .iface _ d => uptoBulk d + 1
  | .map entries => uptoBulkEntries entries + 1
  | .held _ => 1
def uptoBulkAll {H : Type} : List (DataW H) → Nat
  | [] => 0
  | d :: r => uptoBulk d + uptoBulkAll r
def uptoBulkEntries {H : Type} : List (Lit × DataW H) → Nat
  | [] => 0
  | x :: r => uptoBulkEntry x + uptoBulkEntries r
def uptoBulkEntry {H : Type} : Lit × DataW H → Nat
  | (.string bytes, d) => bytes.length + uptoBulk d + 1
  | (_, d) => uptoBulk d + 1
 end
def uptoSmall : (H : Type) → List (DataW H) → Bool := fun _ ds => decide (uptoBulkAll ds ≤ 1048576)
def OpenSpec.upto (s : _root_.Go.ChangeSpec) : _root_.Go.OpenSpec := { _root_.Go.OpenSpec.ofChange s with cond := some uptoSmall }

/-- 'trothlaw19.MsgNumbers', WHERE WHAT IT READS IS OF BULK AT MOST 1048576: true; the input reads as it did. -/
def msgNumbersUptoRow : OpenClaim := { program := "ytlpdjpkdgagjpaadoor", sum := "2475de8472a08816a9b704d6129eb8fb6a4ff18797dcb82cc4697f18458a0164", func := "troth/trothlaw19.MsgNumbers", spec := "msgNumbers", unfollowed := true, recurses := true, named := ["troth/crc.half"], apart := false, laid := [("troth/crc.half", laid_troth_crc_half)], narrowed := true }
def MsgNumbersUptoSaid : Prop := msgNumbersUptoRow.holds Tryd.pinned (OpenSpec.upto msgNumbersSpec)

/-- 'trothlaw08.SheetLays', WHERE WHAT IT READS IS OF BULK AT MOST 1048576: true; the input reads as it did. -/
def sheetLaysUptoRow : OpenClaim := { program := "ytlpdjpkdgagjpaadoor", sum := "2475de8472a08816a9b704d6129eb8fb6a4ff18797dcb82cc4697f18458a0164", func := "troth/trothlaw08.SheetLays", spec := "sheetLays", unfollowed := true, recurses := true, named := ["troth/crc.half"], apart := false, laid := [("troth/crc.half", laid_troth_crc_half)], narrowed := true }
def SheetLaysUptoSaid : Prop := sheetLaysUptoRow.holds Tryd.pinned (OpenSpec.upto sheetLaysSpec)

/-- 'trothlaw08.SheetBack', WHERE WHAT IT READS IS OF BULK AT MOST 1048576: true; the input reads as it did. -/
def sheetBackUptoRow : OpenClaim := { program := "ytlpdjpkdgagjpaadoor", sum := "2475de8472a08816a9b704d6129eb8fb6a4ff18797dcb82cc4697f18458a0164", func := "troth/trothlaw08.SheetBack", spec := "sheetBack", unfollowed := true, recurses := true, named := ["troth/crc.half"], apart := false, laid := [("troth/crc.half", laid_troth_crc_half)], narrowed := true }
def SheetBackUptoSaid : Prop := sheetBackUptoRow.holds Tryd.pinned (OpenSpec.upto sheetBackSpec)

/-- 'trothlaw08.SheetLater', WHERE WHAT IT READS IS OF BULK AT MOST 1048576: true; the input reads as it did. -/
def sheetLaterUptoRow : OpenClaim := { program := "ytlpdjpkdgagjpaadoor", sum := "2475de8472a08816a9b704d6129eb8fb6a4ff18797dcb82cc4697f18458a0164", func := "troth/trothlaw08.SheetLater", spec := "sheetLater", unfollowed := true, recurses := true, named := ["troth/crc.half"], apart := false, laid := [("troth/crc.half", laid_troth_crc_half)], narrowed := true }
def SheetLaterUptoSaid : Prop := sheetLaterUptoRow.holds Tryd.pinned (OpenSpec.upto sheetLaterSpec)

/-- 'trothlaw08.SheetPayloads', WHERE WHAT IT READS IS OF BULK AT MOST 1048576: true; the input reads as it did. -/
def sheetPayloadsUptoRow : OpenClaim := { program := "ytlpdjpkdgagjpaadoor", sum := "2475de8472a08816a9b704d6129eb8fb6a4ff18797dcb82cc4697f18458a0164", func := "troth/trothlaw08.SheetPayloads", spec := "sheetPayloads", unfollowed := true, recurses := true, named := ["troth/crc.half"], apart := false, laid := [("troth/crc.half", laid_troth_crc_half)], narrowed := true }
def SheetPayloadsUptoSaid : Prop := sheetPayloadsUptoRow.holds Tryd.pinned (OpenSpec.upto sheetPayloadsSpec)

/-- 'trothlaw19.MsgWrites', WHERE WHAT IT READS IS OF BULK AT MOST 1048576: true; the input reads as it did. -/
def msgWritesUptoRow : OpenClaim := { program := "ytlpdjpkdgagjpaadoor", sum := "2475de8472a08816a9b704d6129eb8fb6a4ff18797dcb82cc4697f18458a0164", func := "troth/trothlaw19.MsgWrites", spec := "msgWrites", unfollowed := true, recurses := true, named := ["troth/crc.half"], apart := false, laid := [("troth/crc.half", laid_troth_crc_half)], narrowed := true }
def MsgWritesUptoSaid : Prop := msgWritesUptoRow.holds Tryd.pinned (OpenSpec.upto msgWritesSpec)

/-- 'trothlaw19.MsgReads', WHERE WHAT IT READS IS OF BULK AT MOST 1048576: true; the input reads as it did. -/
def msgReadsUptoRow : OpenClaim := { program := "ytlpdjpkdgagjpaadoor", sum := "2475de8472a08816a9b704d6129eb8fb6a4ff18797dcb82cc4697f18458a0164", func := "troth/trothlaw19.MsgReads", spec := "msgReads", unfollowed := true, recurses := true, named := ["troth/crc.half"], apart := false, laid := [("troth/crc.half", laid_troth_crc_half)], narrowed := true }
def MsgReadsUptoSaid : Prop := msgReadsUptoRow.holds Tryd.pinned (OpenSpec.upto msgReadsSpec)

/-- 'trothlaw19.MsgTurns', WHERE WHAT IT READS IS OF BULK AT MOST 1048576: true; the input reads as it did. -/
def msgTurnsUptoRow : OpenClaim := { program := "ytlpdjpkdgagjpaadoor", sum := "2475de8472a08816a9b704d6129eb8fb6a4ff18797dcb82cc4697f18458a0164", func := "troth/trothlaw19.MsgTurns", spec := "msgTurns", unfollowed := true, recurses := true, named := ["troth/crc.half"], apart := false, laid := [("troth/crc.half", laid_troth_crc_half)], narrowed := true }
def MsgTurnsUptoSaid : Prop := msgTurnsUptoRow.holds Tryd.pinned (OpenSpec.upto msgTurnsSpec)

end Rows
end Go.Proofs.YtlpdjpkdgagjpaaDoor
