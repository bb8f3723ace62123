/-
  NARROWER THAN 'FOR EVERY INPUT', by the rows' own cells (each row's printed sentence says how): SealOpens: laid · SealCuts: laid · SealTurns: laid · SealWrites: laid · SealOwn: laid · SealReads: laid · SealBack: laid · SealNil: laid.
  DERIVED. THE GIVEN ROWS OF THIS SEAT. 8 by the template 'for every input the law returns true; each argument reads behind the call as it read before'; 0 by the template 'total and deterministic' (their statements: YtbghpdfhloalhaaDoorTotals.lean).
  GIVEN WITH THE SEED: the statements are not yours to turn. If you find one false, say at which input.
  Laid BY PROGRAM, IN A SANDBOX (cutbox-rows.mjs): the forced cells as the released guide's own fill.sh prints them over the translation 57e6f608bacfd96f… (all of the seat's roots in one cut). By AI agents, Wed Nov 11 2026. No macro, syntax, notation, axiom, sorry.
-/
import Derived.Test.YtbghpdfhloalhaaDoorChecked
import GoSem.Claim
import GoSem.ClaimJoined
import GoSem.ClaimMapViews
import Derived.JoinedTies
import Derived.KernelRfl
namespace Go.Proofs.YtbghpdfhloalhaaDoor
/- THE CELL 'sum', in the pinned program and in every row, IS THE sha256 OF THE DUMP (.gsa) THAT YtbghpdfhloalhaaDoorProg.lean LOADS. Nothing in Lean hashes anything: it is a label: what it is worth is what the hold of that sum in a sandbox is worth. -/
noncomputable def Tryd.pinned : Pinned := { name := "ytbghpdfhloalhaadoor", sum := "57e6f608bacfd96f047563c80719dde3abe5178bc5b6140bab8c391ca582c639", checked := Tryd.checked }
namespace Rows
def none {H : Type} : Left H := { results := [], args := [] }

/- WHAT THE LISTED PACKAGE-LEVEL VARIABLES READ AS WHEN THE CALL BEGINS. Each datum BY PROGRAM (the guide's laid-datum.mjs) off the statement by which the dump's own 'gosem.cut.vars' lays the variable. In a bare row this is a premise. The card (YtbghpdfhloalhaaDoorCards.lean) ties it to the program's text. -/
def laid_troth_crc_half {H : Type} : DataW H := .agg [.lit (.int .u32 0), .lit (.int .u32 498536548), .lit (.int .u32 997073096), .lit (.int .u32 651767980), .lit (.int .u32 1994146192), .lit (.int .u32 1802195444), .lit (.int .u32 1303535960), .lit (.int .u32 1342533948), .lit (.int .u32 3988292384), .lit (.int .u32 4027552580), .lit (.int .u32 3604390888), .lit (.int .u32 3412177804), .lit (.int .u32 2607071920), .lit (.int .u32 2262029012), .lit (.int .u32 2685067896), .lit (.int .u32 3183342108)]

/-- 'trothlaw03.SealOpens': WHATEVER THE INPUT: true; the input reads as it did. -/
def sealOpensSpec : ChangeSpec := { name := "sealOpens", fn := fun _ => fun
  | [d1, d2] => { results := [.lit (.bool true)], args := [d1, d2] }
  | _ => none }
def sealOpensRow : OpenClaim := { program := "ytbghpdfhloalhaadoor", sum := "57e6f608bacfd96f047563c80719dde3abe5178bc5b6140bab8c391ca582c639", func := "troth/trothlaw03.SealOpens", spec := "sealOpens", unfollowed := true, recurses := true, named := ["troth/crc.half"], apart := false, laid := [("troth/crc.half", laid_troth_crc_half)] }
def SealOpensSaid : Prop := sealOpensRow.holds Tryd.pinned (OpenSpec.ofChange sealOpensSpec)

/-- ITS FALSE NEIGHBOUR: 'it returns false'. Refute it at one input. -/
def sealOpensWrong : ChangeSpec := { name := "sealOpens", fn := fun _ => fun
  | [d1, d2] => { results := [.lit (.bool false)], args := [d1, d2] }
  | _ => none }
def SealOpensWrongFalsely : Prop := sealOpensRow.holds Tryd.pinned (OpenSpec.ofChange sealOpensWrong)

/-- 'trothlaw03.SealCuts': WHATEVER THE INPUT: true; the input reads as it did. -/
def sealCutsSpec : ChangeSpec := { name := "sealCuts", fn := fun _ => fun
  | [d1, d2] => { results := [.lit (.bool true)], args := [d1, d2] }
  | _ => none }
def sealCutsRow : OpenClaim := { program := "ytbghpdfhloalhaadoor", sum := "57e6f608bacfd96f047563c80719dde3abe5178bc5b6140bab8c391ca582c639", func := "troth/trothlaw03.SealCuts", spec := "sealCuts", unfollowed := true, recurses := true, named := ["troth/crc.half"], apart := false, laid := [("troth/crc.half", laid_troth_crc_half)] }
def SealCutsSaid : Prop := sealCutsRow.holds Tryd.pinned (OpenSpec.ofChange sealCutsSpec)

/-- ITS FALSE NEIGHBOUR: 'it returns false'. Refute it at one input. -/
def sealCutsWrong : ChangeSpec := { name := "sealCuts", fn := fun _ => fun
  | [d1, d2] => { results := [.lit (.bool false)], args := [d1, d2] }
  | _ => none }
def SealCutsWrongFalsely : Prop := sealCutsRow.holds Tryd.pinned (OpenSpec.ofChange sealCutsWrong)

/-- 'trothlaw03.SealTurns': WHATEVER THE INPUT: true; the input reads as it did. -/
def sealTurnsSpec : ChangeSpec := { name := "sealTurns", fn := fun _ => fun
  | [d1, d2, d3] => { results := [.lit (.bool true)], args := [d1, d2, d3] }
  | _ => none }
def sealTurnsRow : OpenClaim := { program := "ytbghpdfhloalhaadoor", sum := "57e6f608bacfd96f047563c80719dde3abe5178bc5b6140bab8c391ca582c639", func := "troth/trothlaw03.SealTurns", spec := "sealTurns", unfollowed := true, recurses := true, named := ["troth/crc.half"], apart := false, laid := [("troth/crc.half", laid_troth_crc_half)] }
def SealTurnsSaid : Prop := sealTurnsRow.holds Tryd.pinned (OpenSpec.ofChange sealTurnsSpec)

/-- ITS FALSE NEIGHBOUR: 'it returns false'. Refute it at one input. -/
def sealTurnsWrong : ChangeSpec := { name := "sealTurns", fn := fun _ => fun
  | [d1, d2, d3] => { results := [.lit (.bool false)], args := [d1, d2, d3] }
  | _ => none }
def SealTurnsWrongFalsely : Prop := sealTurnsRow.holds Tryd.pinned (OpenSpec.ofChange sealTurnsWrong)

/-- 'trothlaw03.SealWrites': WHATEVER THE INPUT: true; the input reads as it did. -/
def sealWritesSpec : ChangeSpec := { name := "sealWrites", fn := fun _ => fun
  | [d] => { results := [.lit (.bool true)], args := [d] }
  | _ => none }
def sealWritesRow : OpenClaim := { program := "ytbghpdfhloalhaadoor", sum := "57e6f608bacfd96f047563c80719dde3abe5178bc5b6140bab8c391ca582c639", func := "troth/trothlaw03.SealWrites", spec := "sealWrites", unfollowed := true, recurses := true, named := ["troth/crc.half"], apart := false, laid := [("troth/crc.half", laid_troth_crc_half)] }
def SealWritesSaid : Prop := sealWritesRow.holds Tryd.pinned (OpenSpec.ofChange sealWritesSpec)

/-- ITS FALSE NEIGHBOUR: 'it returns false'. Refute it at one input. -/
def sealWritesWrong : ChangeSpec := { name := "sealWrites", fn := fun _ => fun
  | [d] => { results := [.lit (.bool false)], args := [d] }
  | _ => none }
def SealWritesWrongFalsely : Prop := sealWritesRow.holds Tryd.pinned (OpenSpec.ofChange sealWritesWrong)

/-- 'trothlaw03.SealOwn': WHATEVER THE INPUT: true; the input reads as it did. -/
def sealOwnSpec : ChangeSpec := { name := "sealOwn", fn := fun _ => fun
  | [d1, d2] => { results := [.lit (.bool true)], args := [d1, d2] }
  | _ => none }
def sealOwnRow : OpenClaim := { program := "ytbghpdfhloalhaadoor", sum := "57e6f608bacfd96f047563c80719dde3abe5178bc5b6140bab8c391ca582c639", func := "troth/trothlaw03.SealOwn", spec := "sealOwn", unfollowed := true, recurses := true, named := ["troth/crc.half"], apart := false, laid := [("troth/crc.half", laid_troth_crc_half)] }
def SealOwnSaid : Prop := sealOwnRow.holds Tryd.pinned (OpenSpec.ofChange sealOwnSpec)

/-- ITS FALSE NEIGHBOUR: 'it returns false'. Refute it at one input. -/
def sealOwnWrong : ChangeSpec := { name := "sealOwn", fn := fun _ => fun
  | [d1, d2] => { results := [.lit (.bool false)], args := [d1, d2] }
  | _ => none }
def SealOwnWrongFalsely : Prop := sealOwnRow.holds Tryd.pinned (OpenSpec.ofChange sealOwnWrong)

/-- 'trothlaw03.SealReads': WHATEVER THE INPUT: true; the input reads as it did. -/
def sealReadsSpec : ChangeSpec := { name := "sealReads", fn := fun _ => fun
  | [d1, d2, d3] => { results := [.lit (.bool true)], args := [d1, d2, d3] }
  | _ => none }
def sealReadsRow : OpenClaim := { program := "ytbghpdfhloalhaadoor", sum := "57e6f608bacfd96f047563c80719dde3abe5178bc5b6140bab8c391ca582c639", func := "troth/trothlaw03.SealReads", spec := "sealReads", unfollowed := true, recurses := true, named := ["troth/crc.half"], apart := false, laid := [("troth/crc.half", laid_troth_crc_half)] }
def SealReadsSaid : Prop := sealReadsRow.holds Tryd.pinned (OpenSpec.ofChange sealReadsSpec)

/-- ITS FALSE NEIGHBOUR: 'it returns false'. Refute it at one input. -/
def sealReadsWrong : ChangeSpec := { name := "sealReads", fn := fun _ => fun
  | [d1, d2, d3] => { results := [.lit (.bool false)], args := [d1, d2, d3] }
  | _ => none }
def SealReadsWrongFalsely : Prop := sealReadsRow.holds Tryd.pinned (OpenSpec.ofChange sealReadsWrong)

/-- 'trothlaw03.SealBack': WHATEVER THE INPUT: true; the input reads as it did. -/
def sealBackSpec : ChangeSpec := { name := "sealBack", fn := fun _ => fun
  | [d1, d2] => { results := [.lit (.bool true)], args := [d1, d2] }
  | _ => none }
def sealBackRow : OpenClaim := { program := "ytbghpdfhloalhaadoor", sum := "57e6f608bacfd96f047563c80719dde3abe5178bc5b6140bab8c391ca582c639", func := "troth/trothlaw03.SealBack", spec := "sealBack", unfollowed := true, recurses := true, named := ["troth/crc.half"], apart := false, laid := [("troth/crc.half", laid_troth_crc_half)] }
def SealBackSaid : Prop := sealBackRow.holds Tryd.pinned (OpenSpec.ofChange sealBackSpec)

/-- ITS FALSE NEIGHBOUR: 'it returns false'. Refute it at one input. -/
def sealBackWrong : ChangeSpec := { name := "sealBack", fn := fun _ => fun
  | [d1, d2] => { results := [.lit (.bool false)], args := [d1, d2] }
  | _ => none }
def SealBackWrongFalsely : Prop := sealBackRow.holds Tryd.pinned (OpenSpec.ofChange sealBackWrong)

/-- 'trothlaw03.SealNil': WHATEVER THE INPUT: true; the input reads as it did. -/
def sealNilSpec : ChangeSpec := { name := "sealNil", fn := fun _ => fun
  | [d1, d2] => { results := [.lit (.bool true)], args := [d1, d2] }
  | _ => none }
def sealNilRow : OpenClaim := { program := "ytbghpdfhloalhaadoor", sum := "57e6f608bacfd96f047563c80719dde3abe5178bc5b6140bab8c391ca582c639", func := "troth/trothlaw03.SealNil", spec := "sealNil", unfollowed := true, recurses := true, named := ["troth/crc.half"], apart := false, laid := [("troth/crc.half", laid_troth_crc_half)] }
def SealNilSaid : Prop := sealNilRow.holds Tryd.pinned (OpenSpec.ofChange sealNilSpec)

/-- ITS FALSE NEIGHBOUR: 'it returns false'. Refute it at one input. -/
def sealNilWrong : ChangeSpec := { name := "sealNil", fn := fun _ => fun
  | [d1, d2] => { results := [.lit (.bool false)], args := [d1, d2] }
  | _ => none }
def SealNilWrongFalsely : Prop := sealNilRow.holds Tryd.pinned (OpenSpec.ofChange sealNilWrong)

/- THE SECOND FORM. 'bulk': how many values and letters a reading holds, each counted each time it is reached (what is shared counts as often as it is met; a slice's spare places count too). A statement '..UptoSaid' is the law's where the arguments, and the package variables that the reading takes, are together of bulk at most 1048576: NARROWER than '..Said'. Prove '..Said' where nothing that the law and all that it calls make is longer than what came in: it says more and counts as full. Else prove '..UptoSaid'. A law counts once. -/
mutual
def uptoBulk {H : Type} : DataW H → Nat
  | .lit (.string bytes) => bytes.length + 1
  | .lit _ => 1
  | .nil => 1
  | .ptr d => uptoBulk d + 1
  | .slice elems spare => uptoBulkAll elems + uptoBulkAll spare + 1
  | .agg parts => uptoBulkAll parts + 1
  | .iface _ d => uptoBulk d + 1
  | .map entries => uptoBulkEntries entries + 1
  | .held _ => 1
def uptoBulkAll {H : Type} : List (DataW H) → Nat
  | [] => 0
  | d :: r => uptoBulk d + uptoBulkAll r
def uptoBulkEntries {H : Type} : List (Lit × DataW H) → Nat
  | [] => 0
  | x :: r => uptoBulkEntry x + uptoBulkEntries r
def uptoBulkEntry {H : Type} : Lit × DataW H → Nat
  | (.string bytes, d) => bytes.length + uptoBulk d + 1
  | (_, d) => uptoBulk d + 1
 end
def uptoSmall : (H : Type) → List (DataW H) → Bool := fun _ ds => decide (uptoBulkAll ds ≤ 1048576)
def OpenSpec.upto (s : _root_.Go.ChangeSpec) : _root_.Go.OpenSpec := { _root_.Go.OpenSpec.ofChange s with cond := some uptoSmall }

/-- 'trothlaw03.SealOpens', WHERE WHAT IT READS IS OF BULK AT MOST 1048576: true; the input reads as it did. -/
def sealOpensUptoRow : OpenClaim := { program := "ytbghpdfhloalhaadoor", sum := "57e6f608bacfd96f047563c80719dde3abe5178bc5b6140bab8c391ca582c639", func := "troth/trothlaw03.SealOpens", spec := "sealOpens", unfollowed := true, recurses := true, named := ["troth/crc.half"], apart := false, laid := [("troth/crc.half", laid_troth_crc_half)], narrowed := true }
def SealOpensUptoSaid : Prop := sealOpensUptoRow.holds Tryd.pinned (OpenSpec.upto sealOpensSpec)

/-- 'trothlaw03.SealCuts', WHERE WHAT IT READS IS OF BULK AT MOST 1048576: true; the input reads as it did. -/
def sealCutsUptoRow : OpenClaim := { program := "ytbghpdfhloalhaadoor", sum := "57e6f608bacfd96f047563c80719dde3abe5178bc5b6140bab8c391ca582c639", func := "troth/trothlaw03.SealCuts", spec := "sealCuts", unfollowed := true, recurses := true, named := ["troth/crc.half"], apart := false, laid := [("troth/crc.half", laid_troth_crc_half)], narrowed := true }
def SealCutsUptoSaid : Prop := sealCutsUptoRow.holds Tryd.pinned (OpenSpec.upto sealCutsSpec)

/-- 'trothlaw03.SealTurns', WHERE WHAT IT READS IS OF BULK AT MOST 1048576: true; the input reads as it did. -/
def sealTurnsUptoRow : OpenClaim := { program := "ytbghpdfhloalhaadoor", sum := "57e6f608bacfd96f047563c80719dde3abe5178bc5b6140bab8c391ca582c639", func := "troth/trothlaw03.SealTurns", spec := "sealTurns", unfollowed := true, recurses := true, named := ["troth/crc.half"], apart := false, laid := [("troth/crc.half", laid_troth_crc_half)], narrowed := true }
def SealTurnsUptoSaid : Prop := sealTurnsUptoRow.holds Tryd.pinned (OpenSpec.upto sealTurnsSpec)

/-- 'trothlaw03.SealWrites', WHERE WHAT IT READS IS OF BULK AT MOST 1048576: true; the input reads as it did. -/
def sealWritesUptoRow : OpenClaim := { program := "ytbghpdfhloalhaadoor", sum := "57e6f608bacfd96f047563c80719dde3abe5178bc5b6140bab8c391ca582c639", func := "troth/trothlaw03.SealWrites", spec := "sealWrites", unfollowed := true, recurses := true, named := ["troth/crc.half"], apart := false, laid := [("troth/crc.half", laid_troth_crc_half)], narrowed := true }
def SealWritesUptoSaid : Prop := sealWritesUptoRow.holds Tryd.pinned (OpenSpec.upto sealWritesSpec)

/-- 'trothlaw03.SealOwn', WHERE WHAT IT READS IS OF BULK AT MOST 1048576: true; the input reads as it did. -/
def sealOwnUptoRow : OpenClaim := { program := "ytbghpdfhloalhaadoor", sum := "57e6f608bacfd96f047563c80719dde3abe5178bc5b6140bab8c391ca582c639", func := "troth/trothlaw03.SealOwn", spec := "sealOwn", unfollowed := true, recurses := true, named := ["troth/crc.half"], apart := false, laid := [("troth/crc.half", laid_troth_crc_half)], narrowed := true }
def SealOwnUptoSaid : Prop := sealOwnUptoRow.holds Tryd.pinned (OpenSpec.upto sealOwnSpec)

/-- 'trothlaw03.SealReads', WHERE WHAT IT READS IS OF BULK AT MOST 1048576: true; the input reads as it did. -/
def sealReadsUptoRow : OpenClaim := { program := "ytbghpdfhloalhaadoor", sum := "57e6f608bacfd96f047563c80719dde3abe5178bc5b6140bab8c391ca582c639", func := "troth/trothlaw03.SealReads", spec := "sealReads", unfollowed := true, recurses := true, named := ["troth/crc.half"], apart := false, laid := [("troth/crc.half", laid_troth_crc_half)], narrowed := true }
def SealReadsUptoSaid : Prop := sealReadsUptoRow.holds Tryd.pinned (OpenSpec.upto sealReadsSpec)

/-- 'trothlaw03.SealBack', WHERE WHAT IT READS IS OF BULK AT MOST 1048576: true; the input reads as it did. -/
def sealBackUptoRow : OpenClaim := { program := "ytbghpdfhloalhaadoor", sum := "57e6f608bacfd96f047563c80719dde3abe5178bc5b6140bab8c391ca582c639", func := "troth/trothlaw03.SealBack", spec := "sealBack", unfollowed := true, recurses := true, named := ["troth/crc.half"], apart := false, laid := [("troth/crc.half", laid_troth_crc_half)], narrowed := true }
def SealBackUptoSaid : Prop := sealBackUptoRow.holds Tryd.pinned (OpenSpec.upto sealBackSpec)

/-- 'trothlaw03.SealNil', WHERE WHAT IT READS IS OF BULK AT MOST 1048576: true; the input reads as it did. -/
def sealNilUptoRow : OpenClaim := { program := "ytbghpdfhloalhaadoor", sum := "57e6f608bacfd96f047563c80719dde3abe5178bc5b6140bab8c391ca582c639", func := "troth/trothlaw03.SealNil", spec := "sealNil", unfollowed := true, recurses := true, named := ["troth/crc.half"], apart := false, laid := [("troth/crc.half", laid_troth_crc_half)], narrowed := true }
def SealNilUptoSaid : Prop := sealNilUptoRow.holds Tryd.pinned (OpenSpec.upto sealNilSpec)

end Rows
end Go.Proofs.YtbghpdfhloalhaaDoor
