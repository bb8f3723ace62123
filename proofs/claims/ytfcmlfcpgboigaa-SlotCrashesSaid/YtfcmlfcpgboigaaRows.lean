/-
  No cell of these rows narrows 'for every input' (looked for: loops, veiled, ifaces, maps, wideKeys, modest, calm, conditions, laid).
  DERIVED. THE GIVEN ROWS OF THIS SEAT. 12 by the template 'for every input the law returns true; each argument reads behind the call as it read before'; 0 by the template 'total and deterministic' (their statements: YtfcmlfcpgboigaaTotals.lean).
  GIVEN WITH THE SEED: the statements are not yours to turn. If you find one false, say at which input.
  Laid BY PROGRAM, IN A SANDBOX (cutbox-rows.mjs): the forced cells as the released guide's own fill.sh prints them over the translation c9ebbc086964be56… (all of the seat's roots in one cut). By AI agents, Wed Nov 11 2026. No macro, syntax, notation, axiom, sorry.
-/
import Derived.Test.YtfcmlfcpgboigaaChecked
import GoSem.Claim
import GoSem.ClaimJoined
import GoSem.ClaimMapViews
import Derived.JoinedTies
import Derived.KernelRfl
namespace Go.Proofs.Ytfcmlfcpgboigaa
/- THE CELL 'sum', in the pinned program and in every row, IS THE sha256 OF THE DUMP (.gsa) THAT YtfcmlfcpgboigaaProg.lean LOADS. Nothing in Lean hashes anything: it is a label: what it is worth is what the hold of that sum in a sandbox is worth. -/
noncomputable def Try.pinned : Pinned := { name := "ytfcmlfcpgboigaa", sum := "c9ebbc086964be5633b2883178f3306e73145e2073d39b035c364f1fc72ead21", checked := Try.checked }
namespace Rows
def none {H : Type} : Left H := { results := [], args := [] }

/-- 'trothlaw10.PageBack': WHATEVER THE INPUT: true; the input reads as it did. -/
def pageBackSpec : ChangeSpec := { name := "pageBack", fn := fun _ => fun
  | [d1, d2, d3, d4, d5, d6] => { results := [.lit (.bool true)], args := [d1, d2, d3, d4, d5, d6] }
  | _ => none }
def pageBackRow : OpenClaim := { program := "ytfcmlfcpgboigaa", sum := "c9ebbc086964be5633b2883178f3306e73145e2073d39b035c364f1fc72ead21", func := "troth/trothlaw10.PageBack", spec := "pageBack", inPlace := ["internal/bytealg.abigen_runtime_cmpstring", "slices.overlaps[troth/api.Cell]"], unfollowed := true, recurses := true, apart := false }
def PageBackSaid : Prop := pageBackRow.holds Try.pinned (OpenSpec.ofChange pageBackSpec)

/-- ITS FALSE NEIGHBOUR: 'it returns false'. Refute it at one input. -/
def pageBackWrong : ChangeSpec := { name := "pageBack", fn := fun _ => fun
  | [d1, d2, d3, d4, d5, d6] => { results := [.lit (.bool false)], args := [d1, d2, d3, d4, d5, d6] }
  | _ => none }
def PageBackWrongFalsely : Prop := pageBackRow.holds Try.pinned (OpenSpec.ofChange pageBackWrong)

/-- 'trothlaw10.PageOwn': WHATEVER THE INPUT: true; the input reads as it did. -/
def pageOwnSpec : ChangeSpec := { name := "pageOwn", fn := fun _ => fun
  | [d1, d2, d3, d4] => { results := [.lit (.bool true)], args := [d1, d2, d3, d4] }
  | _ => none }
def pageOwnRow : OpenClaim := { program := "ytfcmlfcpgboigaa", sum := "c9ebbc086964be5633b2883178f3306e73145e2073d39b035c364f1fc72ead21", func := "troth/trothlaw10.PageOwn", spec := "pageOwn", inPlace := ["internal/bytealg.abigen_runtime_cmpstring", "slices.overlaps[troth/api.Cell]"], unfollowed := true, recurses := true, apart := false }
def PageOwnSaid : Prop := pageOwnRow.holds Try.pinned (OpenSpec.ofChange pageOwnSpec)

/-- ITS FALSE NEIGHBOUR: 'it returns false'. Refute it at one input. -/
def pageOwnWrong : ChangeSpec := { name := "pageOwn", fn := fun _ => fun
  | [d1, d2, d3, d4] => { results := [.lit (.bool false)], args := [d1, d2, d3, d4] }
  | _ => none }
def PageOwnWrongFalsely : Prop := pageOwnRow.holds Try.pinned (OpenSpec.ofChange pageOwnWrong)

/-- 'trothlaw06.MasterLoads': WHATEVER THE INPUT: true; the input reads as it did. -/
def masterLoadsSpec : ChangeSpec := { name := "masterLoads", fn := fun _ => fun
  | [d1, d2] => { results := [.lit (.bool true)], args := [d1, d2] }
  | _ => none }
def masterLoadsRow : OpenClaim := { program := "ytfcmlfcpgboigaa", sum := "c9ebbc086964be5633b2883178f3306e73145e2073d39b035c364f1fc72ead21", func := "troth/trothlaw06.MasterLoads", spec := "masterLoads", unfollowed := true, recurses := true, apart := false }
def MasterLoadsSaid : Prop := masterLoadsRow.holds Try.pinned (OpenSpec.ofChange masterLoadsSpec)

/-- ITS FALSE NEIGHBOUR: 'it returns false'. Refute it at one input. -/
def masterLoadsWrong : ChangeSpec := { name := "masterLoads", fn := fun _ => fun
  | [d1, d2] => { results := [.lit (.bool false)], args := [d1, d2] }
  | _ => none }
def MasterLoadsWrongFalsely : Prop := masterLoadsRow.holds Try.pinned (OpenSpec.ofChange masterLoadsWrong)

/-- 'trothlaw06.MasterNil': WHATEVER THE INPUT: true; the input reads as it did. -/
def masterNilSpec : ChangeSpec := { name := "masterNil", fn := fun _ => fun
  | [d] => { results := [.lit (.bool true)], args := [d] }
  | _ => none }
def masterNilRow : OpenClaim := { program := "ytfcmlfcpgboigaa", sum := "c9ebbc086964be5633b2883178f3306e73145e2073d39b035c364f1fc72ead21", func := "troth/trothlaw06.MasterNil", spec := "masterNil", unfollowed := true, recurses := true, apart := false }
def MasterNilSaid : Prop := masterNilRow.holds Try.pinned (OpenSpec.ofChange masterNilSpec)

/-- ITS FALSE NEIGHBOUR: 'it returns false'. Refute it at one input. -/
def masterNilWrong : ChangeSpec := { name := "masterNil", fn := fun _ => fun
  | [d] => { results := [.lit (.bool false)], args := [d] }
  | _ => none }
def MasterNilWrongFalsely : Prop := masterNilRow.holds Try.pinned (OpenSpec.ofChange masterNilWrong)

/-- 'trothlaw06.MasterSaves': WHATEVER THE INPUT: true; the input reads as it did. -/
def masterSavesSpec : ChangeSpec := { name := "masterSaves", fn := fun _ => fun
  | [d] => { results := [.lit (.bool true)], args := [d] }
  | _ => none }
def masterSavesRow : OpenClaim := { program := "ytfcmlfcpgboigaa", sum := "c9ebbc086964be5633b2883178f3306e73145e2073d39b035c364f1fc72ead21", func := "troth/trothlaw06.MasterSaves", spec := "masterSaves", unfollowed := true, recurses := true, apart := false }
def MasterSavesSaid : Prop := masterSavesRow.holds Try.pinned (OpenSpec.ofChange masterSavesSpec)

/-- ITS FALSE NEIGHBOUR: 'it returns false'. Refute it at one input. -/
def masterSavesWrong : ChangeSpec := { name := "masterSaves", fn := fun _ => fun
  | [d] => { results := [.lit (.bool false)], args := [d] }
  | _ => none }
def MasterSavesWrongFalsely : Prop := masterSavesRow.holds Try.pinned (OpenSpec.ofChange masterSavesWrong)

/-- 'trothlaw10.PagePlaces': WHATEVER THE INPUT: true; the input reads as it did. -/
def pagePlacesSpec : ChangeSpec := { name := "pagePlaces", fn := fun _ => fun
  | [d1, d2] => { results := [.lit (.bool true)], args := [d1, d2] }
  | _ => none }
def pagePlacesRow : OpenClaim := { program := "ytfcmlfcpgboigaa", sum := "c9ebbc086964be5633b2883178f3306e73145e2073d39b035c364f1fc72ead21", func := "troth/trothlaw10.PagePlaces", spec := "pagePlaces", inPlace := ["internal/bytealg.abigen_runtime_cmpstring", "slices.overlaps[troth/api.Cell]", "math/bits.Add64"], unfollowed := true, recurses := true, named := ["math/bits.divideError", "math/bits.overflowError"], apart := false }
def PagePlacesSaid : Prop := pagePlacesRow.holds Try.pinned (OpenSpec.ofChange pagePlacesSpec)

/-- ITS FALSE NEIGHBOUR: 'it returns false'. Refute it at one input. -/
def pagePlacesWrong : ChangeSpec := { name := "pagePlaces", fn := fun _ => fun
  | [d1, d2] => { results := [.lit (.bool false)], args := [d1, d2] }
  | _ => none }
def PagePlacesWrongFalsely : Prop := pagePlacesRow.holds Try.pinned (OpenSpec.ofChange pagePlacesWrong)

/-- 'trothlaw06.MasterCrashes': WHATEVER THE INPUT: true; the input reads as it did. -/
def masterCrashesSpec : ChangeSpec := { name := "masterCrashes", fn := fun _ => fun
  | [d] => { results := [.lit (.bool true)], args := [d] }
  | _ => none }
def masterCrashesRow : OpenClaim := { program := "ytfcmlfcpgboigaa", sum := "c9ebbc086964be5633b2883178f3306e73145e2073d39b035c364f1fc72ead21", func := "troth/trothlaw06.MasterCrashes", spec := "masterCrashes", inPlace := ["maps.clone"], unfollowed := true, recurses := true, apart := false }
def MasterCrashesSaid : Prop := masterCrashesRow.holds Try.pinned (OpenSpec.ofChange masterCrashesSpec)

/-- ITS FALSE NEIGHBOUR: 'it returns false'. Refute it at one input. -/
def masterCrashesWrong : ChangeSpec := { name := "masterCrashes", fn := fun _ => fun
  | [d] => { results := [.lit (.bool false)], args := [d] }
  | _ => none }
def MasterCrashesWrongFalsely : Prop := masterCrashesRow.holds Try.pinned (OpenSpec.ofChange masterCrashesWrong)

/-- 'trothlaw10.PageWrites': WHATEVER THE INPUT: true; the input reads as it did. -/
def pageWritesSpec : ChangeSpec := { name := "pageWrites", fn := fun _ => fun
  | [d1, d2] => { results := [.lit (.bool true)], args := [d1, d2] }
  | _ => none }
def pageWritesRow : OpenClaim := { program := "ytfcmlfcpgboigaa", sum := "c9ebbc086964be5633b2883178f3306e73145e2073d39b035c364f1fc72ead21", func := "troth/trothlaw10.PageWrites", spec := "pageWrites", inPlace := ["internal/bytealg.abigen_runtime_cmpstring", "slices.overlaps[troth/api.Cell]"], unfollowed := true, recurses := true, apart := false }
def PageWritesSaid : Prop := pageWritesRow.holds Try.pinned (OpenSpec.ofChange pageWritesSpec)

/-- ITS FALSE NEIGHBOUR: 'it returns false'. Refute it at one input. -/
def pageWritesWrong : ChangeSpec := { name := "pageWrites", fn := fun _ => fun
  | [d1, d2] => { results := [.lit (.bool false)], args := [d1, d2] }
  | _ => none }
def PageWritesWrongFalsely : Prop := pageWritesRow.holds Try.pinned (OpenSpec.ofChange pageWritesWrong)

/-- 'trothlaw11.SlotSaves': WHATEVER THE INPUT: true; the input reads as it did. -/
def slotSavesSpec : ChangeSpec := { name := "slotSaves", fn := fun _ => fun
  | [d1, d2, d3, d4] => { results := [.lit (.bool true)], args := [d1, d2, d3, d4] }
  | _ => none }
def slotSavesRow : OpenClaim := { program := "ytfcmlfcpgboigaa", sum := "c9ebbc086964be5633b2883178f3306e73145e2073d39b035c364f1fc72ead21", func := "troth/trothlaw11.SlotSaves", spec := "slotSaves", unfollowed := true, recurses := true, apart := false }
def SlotSavesSaid : Prop := slotSavesRow.holds Try.pinned (OpenSpec.ofChange slotSavesSpec)

/-- ITS FALSE NEIGHBOUR: 'it returns false'. Refute it at one input. -/
def slotSavesWrong : ChangeSpec := { name := "slotSaves", fn := fun _ => fun
  | [d1, d2, d3, d4] => { results := [.lit (.bool false)], args := [d1, d2, d3, d4] }
  | _ => none }
def SlotSavesWrongFalsely : Prop := slotSavesRow.holds Try.pinned (OpenSpec.ofChange slotSavesWrong)

/-- 'trothlaw11.SlotLoads': WHATEVER THE INPUT: true; the input reads as it did. -/
def slotLoadsSpec : ChangeSpec := { name := "slotLoads", fn := fun _ => fun
  | [d1, d2] => { results := [.lit (.bool true)], args := [d1, d2] }
  | _ => none }
def slotLoadsRow : OpenClaim := { program := "ytfcmlfcpgboigaa", sum := "c9ebbc086964be5633b2883178f3306e73145e2073d39b035c364f1fc72ead21", func := "troth/trothlaw11.SlotLoads", spec := "slotLoads", unfollowed := true, recurses := true, apart := false }
def SlotLoadsSaid : Prop := slotLoadsRow.holds Try.pinned (OpenSpec.ofChange slotLoadsSpec)

/-- ITS FALSE NEIGHBOUR: 'it returns false'. Refute it at one input. -/
def slotLoadsWrong : ChangeSpec := { name := "slotLoads", fn := fun _ => fun
  | [d1, d2] => { results := [.lit (.bool false)], args := [d1, d2] }
  | _ => none }
def SlotLoadsWrongFalsely : Prop := slotLoadsRow.holds Try.pinned (OpenSpec.ofChange slotLoadsWrong)

/-- 'trothlaw11.SlotNil': WHATEVER THE INPUT: true; the input reads as it did. -/
def slotNilSpec : ChangeSpec := { name := "slotNil", fn := fun _ => fun
  | [d1, d2] => { results := [.lit (.bool true)], args := [d1, d2] }
  | _ => none }
def slotNilRow : OpenClaim := { program := "ytfcmlfcpgboigaa", sum := "c9ebbc086964be5633b2883178f3306e73145e2073d39b035c364f1fc72ead21", func := "troth/trothlaw11.SlotNil", spec := "slotNil", unfollowed := true, recurses := true, apart := false }
def SlotNilSaid : Prop := slotNilRow.holds Try.pinned (OpenSpec.ofChange slotNilSpec)

/-- ITS FALSE NEIGHBOUR: 'it returns false'. Refute it at one input. -/
def slotNilWrong : ChangeSpec := { name := "slotNil", fn := fun _ => fun
  | [d1, d2] => { results := [.lit (.bool false)], args := [d1, d2] }
  | _ => none }
def SlotNilWrongFalsely : Prop := slotNilRow.holds Try.pinned (OpenSpec.ofChange slotNilWrong)

/-- 'trothlaw11.SlotCrashes': WHATEVER THE INPUT: true; the input reads as it did. -/
def slotCrashesSpec : ChangeSpec := { name := "slotCrashes", fn := fun _ => fun
  | [d] => { results := [.lit (.bool true)], args := [d] }
  | _ => none }
def slotCrashesRow : OpenClaim := { program := "ytfcmlfcpgboigaa", sum := "c9ebbc086964be5633b2883178f3306e73145e2073d39b035c364f1fc72ead21", func := "troth/trothlaw11.SlotCrashes", spec := "slotCrashes", inPlace := ["maps.clone"], unfollowed := true, recurses := true, apart := false }
def SlotCrashesSaid : Prop := slotCrashesRow.holds Try.pinned (OpenSpec.ofChange slotCrashesSpec)

/-- ITS FALSE NEIGHBOUR: 'it returns false'. Refute it at one input. -/
def slotCrashesWrong : ChangeSpec := { name := "slotCrashes", fn := fun _ => fun
  | [d] => { results := [.lit (.bool false)], args := [d] }
  | _ => none }
def SlotCrashesWrongFalsely : Prop := slotCrashesRow.holds Try.pinned (OpenSpec.ofChange slotCrashesWrong)

/- THE SECOND FORM. 'bulk': how many values and letters a reading holds, each counted each time it is reached (what is shared counts as often as it is met; a slice's spare places count too). A statement '..UptoSaid' is the law's where the arguments, and the package variables that the reading takes, are together of bulk at most 1048576: NARROWER than '..Said'. Prove '..Said' where nothing that the law and all that it calls make is longer than what came in: it says more and counts as full. Else prove '..UptoSaid'. A law counts once. -/
mutual
def uptoBulk {H : Type} : DataW H → Nat
  | .lit (.string bytes) => bytes.length + 1
  | .lit _ => 1
  | .nil => 1
  | .ptr d => uptoBulk d + 1
  | .slice elems spare => uptoBulkAll elems + uptoBulkAll spare + 1
  | .agg parts => uptoBulkAll parts + 1
  | .iface _ d => uptoBulk d + 1
  | .map entries => uptoBulkEntries entries + 1
  | .held _ => 1
def uptoBulkAll {H : Type} : List (DataW H) → Nat
  | [] => 0
  | d :: r => uptoBulk d + uptoBulkAll r
def uptoBulkEntries {H : Type} : List (Lit × DataW H) → Nat
  | [] => 0
  | x :: r => uptoBulkEntry x + uptoBulkEntries r
def uptoBulkEntry {H : Type} : Lit × DataW H → Nat
  | (.string bytes, d) => bytes.length + uptoBulk d + 1
  | (_, d) => uptoBulk d + 1
 end
def uptoSmall : (H : Type) → List (DataW H) → Bool := fun _ ds => decide (uptoBulkAll ds ≤ 1048576)
def OpenSpec.upto (s : _root_.Go.ChangeSpec) : _root_.Go.OpenSpec := { _root_.Go.OpenSpec.ofChange s with cond := some uptoSmall }

/-- 'trothlaw10.PageBack', WHERE WHAT IT READS IS OF BULK AT MOST 1048576: true; the input reads as it did. -/
def pageBackUptoRow : OpenClaim := { program := "ytfcmlfcpgboigaa", sum := "c9ebbc086964be5633b2883178f3306e73145e2073d39b035c364f1fc72ead21", func := "troth/trothlaw10.PageBack", spec := "pageBack", inPlace := ["internal/bytealg.abigen_runtime_cmpstring", "slices.overlaps[troth/api.Cell]"], unfollowed := true, recurses := true, apart := false, narrowed := true }
def PageBackUptoSaid : Prop := pageBackUptoRow.holds Try.pinned (OpenSpec.upto pageBackSpec)

/-- 'trothlaw10.PageOwn', WHERE WHAT IT READS IS OF BULK AT MOST 1048576: true; the input reads as it did. -/
def pageOwnUptoRow : OpenClaim := { program := "ytfcmlfcpgboigaa", sum := "c9ebbc086964be5633b2883178f3306e73145e2073d39b035c364f1fc72ead21", func := "troth/trothlaw10.PageOwn", spec := "pageOwn", inPlace := ["internal/bytealg.abigen_runtime_cmpstring", "slices.overlaps[troth/api.Cell]"], unfollowed := true, recurses := true, apart := false, narrowed := true }
def PageOwnUptoSaid : Prop := pageOwnUptoRow.holds Try.pinned (OpenSpec.upto pageOwnSpec)

/-- 'trothlaw06.MasterLoads', WHERE WHAT IT READS IS OF BULK AT MOST 1048576: true; the input reads as it did. -/
def masterLoadsUptoRow : OpenClaim := { program := "ytfcmlfcpgboigaa", sum := "c9ebbc086964be5633b2883178f3306e73145e2073d39b035c364f1fc72ead21", func := "troth/trothlaw06.MasterLoads", spec := "masterLoads", unfollowed := true, recurses := true, apart := false, narrowed := true }
def MasterLoadsUptoSaid : Prop := masterLoadsUptoRow.holds Try.pinned (OpenSpec.upto masterLoadsSpec)

/-- 'trothlaw06.MasterNil', WHERE WHAT IT READS IS OF BULK AT MOST 1048576: true; the input reads as it did. -/
def masterNilUptoRow : OpenClaim := { program := "ytfcmlfcpgboigaa", sum := "c9ebbc086964be5633b2883178f3306e73145e2073d39b035c364f1fc72ead21", func := "troth/trothlaw06.MasterNil", spec := "masterNil", unfollowed := true, recurses := true, apart := false, narrowed := true }
def MasterNilUptoSaid : Prop := masterNilUptoRow.holds Try.pinned (OpenSpec.upto masterNilSpec)

/-- 'trothlaw06.MasterSaves', WHERE WHAT IT READS IS OF BULK AT MOST 1048576: true; the input reads as it did. -/
def masterSavesUptoRow : OpenClaim := { program := "ytfcmlfcpgboigaa", sum := "c9ebbc086964be5633b2883178f3306e73145e2073d39b035c364f1fc72ead21", func := "troth/trothlaw06.MasterSaves", spec := "masterSaves", unfollowed := true, recurses := true, apart := false, narrowed := true }
def MasterSavesUptoSaid : Prop := masterSavesUptoRow.holds Try.pinned (OpenSpec.upto masterSavesSpec)

/-- 'trothlaw10.PagePlaces', WHERE WHAT IT READS IS OF BULK AT MOST 1048576: true; the input reads as it did. -/
def pagePlacesUptoRow : OpenClaim := { program := "ytfcmlfcpgboigaa", sum := "c9ebbc086964be5633b2883178f3306e73145e2073d39b035c364f1fc72ead21", func := "troth/trothlaw10.PagePlaces", spec := "pagePlaces", inPlace := ["internal/bytealg.abigen_runtime_cmpstring", "slices.overlaps[troth/api.Cell]", "math/bits.Add64"], unfollowed := true, recurses := true, named := ["math/bits.divideError", "math/bits.overflowError"], apart := false, narrowed := true }
def PagePlacesUptoSaid : Prop := pagePlacesUptoRow.holds Try.pinned (OpenSpec.upto pagePlacesSpec)

/-- 'trothlaw06.MasterCrashes', WHERE WHAT IT READS IS OF BULK AT MOST 1048576: true; the input reads as it did. -/
def masterCrashesUptoRow : OpenClaim := { program := "ytfcmlfcpgboigaa", sum := "c9ebbc086964be5633b2883178f3306e73145e2073d39b035c364f1fc72ead21", func := "troth/trothlaw06.MasterCrashes", spec := "masterCrashes", inPlace := ["maps.clone"], unfollowed := true, recurses := true, apart := false, narrowed := true }
def MasterCrashesUptoSaid : Prop := masterCrashesUptoRow.holds Try.pinned (OpenSpec.upto masterCrashesSpec)

/-- 'trothlaw10.PageWrites', WHERE WHAT IT READS IS OF BULK AT MOST 1048576: true; the input reads as it did. -/
def pageWritesUptoRow : OpenClaim := { program := "ytfcmlfcpgboigaa", sum := "c9ebbc086964be5633b2883178f3306e73145e2073d39b035c364f1fc72ead21", func := "troth/trothlaw10.PageWrites", spec := "pageWrites", inPlace := ["internal/bytealg.abigen_runtime_cmpstring", "slices.overlaps[troth/api.Cell]"], unfollowed := true, recurses := true, apart := false, narrowed := true }
def PageWritesUptoSaid : Prop := pageWritesUptoRow.holds Try.pinned (OpenSpec.upto pageWritesSpec)

/-- 'trothlaw11.SlotSaves', WHERE WHAT IT READS IS OF BULK AT MOST 1048576: true; the input reads as it did. -/
def slotSavesUptoRow : OpenClaim := { program := "ytfcmlfcpgboigaa", sum := "c9ebbc086964be5633b2883178f3306e73145e2073d39b035c364f1fc72ead21", func := "troth/trothlaw11.SlotSaves", spec := "slotSaves", unfollowed := true, recurses := true, apart := false, narrowed := true }
def SlotSavesUptoSaid : Prop := slotSavesUptoRow.holds Try.pinned (OpenSpec.upto slotSavesSpec)

/-- 'trothlaw11.SlotLoads', WHERE WHAT IT READS IS OF BULK AT MOST 1048576: true; the input reads as it did. -/
def slotLoadsUptoRow : OpenClaim := { program := "ytfcmlfcpgboigaa", sum := "c9ebbc086964be5633b2883178f3306e73145e2073d39b035c364f1fc72ead21", func := "troth/trothlaw11.SlotLoads", spec := "slotLoads", unfollowed := true, recurses := true, apart := false, narrowed := true }
def SlotLoadsUptoSaid : Prop := slotLoadsUptoRow.holds Try.pinned (OpenSpec.upto slotLoadsSpec)

/-- 'trothlaw11.SlotNil', WHERE WHAT IT READS IS OF BULK AT MOST 1048576: true; the input reads as it did. -/
def slotNilUptoRow : OpenClaim := { program := "ytfcmlfcpgboigaa", sum := "c9ebbc086964be5633b2883178f3306e73145e2073d39b035c364f1fc72ead21", func := "troth/trothlaw11.SlotNil", spec := "slotNil", unfollowed := true, recurses := true, apart := false, narrowed := true }
def SlotNilUptoSaid : Prop := slotNilUptoRow.holds Try.pinned (OpenSpec.upto slotNilSpec)

/-- 'trothlaw11.SlotCrashes', WHERE WHAT IT READS IS OF BULK AT MOST 1048576: true; the input reads as it did. -/
def slotCrashesUptoRow : OpenClaim := { program := "ytfcmlfcpgboigaa", sum := "c9ebbc086964be5633b2883178f3306e73145e2073d39b035c364f1fc72ead21", func := "troth/trothlaw11.SlotCrashes", spec := "slotCrashes", inPlace := ["maps.clone"], unfollowed := true, recurses := true, apart := false, narrowed := true }
def SlotCrashesUptoSaid : Prop := slotCrashesUptoRow.holds Try.pinned (OpenSpec.upto slotCrashesSpec)

end Rows
end Go.Proofs.Ytfcmlfcpgboigaa
