/-
  No cell of these rows narrows 'for every input' (looked for: loops, veiled, ifaces, maps, wideKeys, modest, calm, conditions, laid).
  DERIVED. THE GIVEN ROWS OF THIS SEAT. 5 by the template 'for every input the law returns true; each argument reads behind the call as it read before'; 0 by the template 'total and deterministic' (their statements: YtlijfnekopjogaaTotals.lean).
  GIVEN WITH THE SEED: the statements are not yours to turn. If you find one false, say at which input.
  Laid BY PROGRAM, IN A SANDBOX (cutbox-rows.mjs): the forced cells as the released guide's own fill.sh prints them over the translation d4e1c97a9a3b91a6… (all of the seat's roots in one cut). By AI agents, Wed Nov 11 2026. No macro, syntax, notation, axiom, sorry.
-/
import Derived.Test.YtlijfnekopjogaaChecked
import GoSem.Claim
import GoSem.ClaimJoined
import GoSem.ClaimMapViews
import Derived.JoinedTies
import Derived.KernelRfl
namespace Go.Proofs.Ytlijfnekopjogaa
/- THE CELL 'sum', in the pinned program and in every row, IS THE sha256 OF THE DUMP (.gsa) THAT YtlijfnekopjogaaProg.lean LOADS. Nothing in Lean hashes anything: it is a label: what it is worth is what the hold of that sum in a sandbox is worth. -/
noncomputable def Try.pinned : Pinned := { name := "ytlijfnekopjogaa", sum := "d4e1c97a9a3b91a6b41f962b804fa55777c038ae948cb7ea71c6c606a4c728a2", checked := Try.checked }
namespace Rows
def none {H : Type} : Left H := { results := [], args := [] }

/-- 'trothlaw07.RecWrites': WHATEVER THE INPUT: true; the input reads as it did. -/
def recWritesSpec : ChangeSpec := { name := "recWrites", fn := fun _ => fun
  | [d] => { results := [.lit (.bool true)], args := [d] }
  | _ => none }
def recWritesRow : OpenClaim := { program := "ytlijfnekopjogaa", sum := "d4e1c97a9a3b91a6b41f962b804fa55777c038ae948cb7ea71c6c606a4c728a2", func := "troth/trothlaw07.RecWrites", spec := "recWrites", unfollowed := true, recurses := true, apart := false }
def RecWritesSaid : Prop := recWritesRow.holds Try.pinned (OpenSpec.ofChange recWritesSpec)

/-- ITS FALSE NEIGHBOUR: 'it returns false'. Refute it at one input. -/
def recWritesWrong : ChangeSpec := { name := "recWrites", fn := fun _ => fun
  | [d] => { results := [.lit (.bool false)], args := [d] }
  | _ => none }
def RecWritesWrongFalsely : Prop := recWritesRow.holds Try.pinned (OpenSpec.ofChange recWritesWrong)

/-- 'trothlaw07.RecReads': WHATEVER THE INPUT: true; the input reads as it did. -/
def recReadsSpec : ChangeSpec := { name := "recReads", fn := fun _ => fun
  | [d] => { results := [.lit (.bool true)], args := [d] }
  | _ => none }
def recReadsRow : OpenClaim := { program := "ytlijfnekopjogaa", sum := "d4e1c97a9a3b91a6b41f962b804fa55777c038ae948cb7ea71c6c606a4c728a2", func := "troth/trothlaw07.RecReads", spec := "recReads", unfollowed := true, recurses := true, apart := false }
def RecReadsSaid : Prop := recReadsRow.holds Try.pinned (OpenSpec.ofChange recReadsSpec)

/-- ITS FALSE NEIGHBOUR: 'it returns false'. Refute it at one input. -/
def recReadsWrong : ChangeSpec := { name := "recReads", fn := fun _ => fun
  | [d] => { results := [.lit (.bool false)], args := [d] }
  | _ => none }
def RecReadsWrongFalsely : Prop := recReadsRow.holds Try.pinned (OpenSpec.ofChange recReadsWrong)

/-- 'trothlaw07.RecBack': WHATEVER THE INPUT: true; the input reads as it did. -/
def recBackSpec : ChangeSpec := { name := "recBack", fn := fun _ => fun
  | [d] => { results := [.lit (.bool true)], args := [d] }
  | _ => none }
def recBackRow : OpenClaim := { program := "ytlijfnekopjogaa", sum := "d4e1c97a9a3b91a6b41f962b804fa55777c038ae948cb7ea71c6c606a4c728a2", func := "troth/trothlaw07.RecBack", spec := "recBack", unfollowed := true, recurses := true, apart := false }
def RecBackSaid : Prop := recBackRow.holds Try.pinned (OpenSpec.ofChange recBackSpec)

/-- ITS FALSE NEIGHBOUR: 'it returns false'. Refute it at one input. -/
def recBackWrong : ChangeSpec := { name := "recBack", fn := fun _ => fun
  | [d] => { results := [.lit (.bool false)], args := [d] }
  | _ => none }
def RecBackWrongFalsely : Prop := recBackRow.holds Try.pinned (OpenSpec.ofChange recBackWrong)

/-- 'trothlaw07.RecCuts': WHATEVER THE INPUT: true; the input reads as it did. -/
def recCutsSpec : ChangeSpec := { name := "recCuts", fn := fun _ => fun
  | [d1, d2] => { results := [.lit (.bool true)], args := [d1, d2] }
  | _ => none }
def recCutsRow : OpenClaim := { program := "ytlijfnekopjogaa", sum := "d4e1c97a9a3b91a6b41f962b804fa55777c038ae948cb7ea71c6c606a4c728a2", func := "troth/trothlaw07.RecCuts", spec := "recCuts", unfollowed := true, recurses := true, apart := false }
def RecCutsSaid : Prop := recCutsRow.holds Try.pinned (OpenSpec.ofChange recCutsSpec)

/-- ITS FALSE NEIGHBOUR: 'it returns false'. Refute it at one input. -/
def recCutsWrong : ChangeSpec := { name := "recCuts", fn := fun _ => fun
  | [d1, d2] => { results := [.lit (.bool false)], args := [d1, d2] }
  | _ => none }
def RecCutsWrongFalsely : Prop := recCutsRow.holds Try.pinned (OpenSpec.ofChange recCutsWrong)

/-- 'trothlaw07.RecOwn': WHATEVER THE INPUT: true; the input reads as it did. -/
def recOwnSpec : ChangeSpec := { name := "recOwn", fn := fun _ => fun
  | [d] => { results := [.lit (.bool true)], args := [d] }
  | _ => none }
def recOwnRow : OpenClaim := { program := "ytlijfnekopjogaa", sum := "d4e1c97a9a3b91a6b41f962b804fa55777c038ae948cb7ea71c6c606a4c728a2", func := "troth/trothlaw07.RecOwn", spec := "recOwn", unfollowed := true, recurses := true, apart := false }
def RecOwnSaid : Prop := recOwnRow.holds Try.pinned (OpenSpec.ofChange recOwnSpec)

/-- ITS FALSE NEIGHBOUR: 'it returns false'. Refute it at one input. -/
def recOwnWrong : ChangeSpec := { name := "recOwn", fn := fun _ => fun
  | [d] => { results := [.lit (.bool false)], args := [d] }
  | _ => none }
def RecOwnWrongFalsely : Prop := recOwnRow.holds Try.pinned (OpenSpec.ofChange recOwnWrong)

/- THE SECOND FORM. 'bulk': how many values and letters a reading holds, each counted each time it is reached (what is shared counts as often as it is met; a slice's spare places count too). A statement '..UptoSaid' is the law's where the arguments, and the package variables that the reading takes, are together of bulk at most 1048576: NARROWER than '..Said'. Prove '..Said' where nothing that the law and all that it calls make is longer than what came in: it says more and counts as full. Else prove '..UptoSaid'. A law counts once. -/
mutual
def uptoBulk {H : Type} : DataW H → Nat
  | .lit (.string bytes) => bytes.length + 1
  | .lit _ => 1
  | .nil => 1
  | .ptr d => uptoBulk d + 1
  | .slice elems spare => uptoBulkAll elems + uptoBulkAll spare + 1
  | .agg parts => uptoBulkAll parts + 1
  | .iface _ d => uptoBulk d + 1
  | .map entries => uptoBulkEntries entries + 1
  | .held _ => 1
def uptoBulkAll {H : Type} : List (DataW H) → Nat
  | [] => 0
  | d :: r => uptoBulk d + uptoBulkAll r
def uptoBulkEntries {H : Type} : List (Lit × DataW H) → Nat
  | [] => 0
  | x :: r => uptoBulkEntry x + uptoBulkEntries r
def uptoBulkEntry {H : Type} : Lit × DataW H → Nat
  | (.string bytes, d) => bytes.length + uptoBulk d + 1
  | (_, d) => uptoBulk d + 1
 end
def uptoSmall : (H : Type) → List (DataW H) → Bool := fun _ ds => decide (uptoBulkAll ds ≤ 1048576)
def OpenSpec.upto (s : _root_.Go.ChangeSpec) : _root_.Go.OpenSpec := { _root_.Go.OpenSpec.ofChange s with cond := some uptoSmall }

/-- 'trothlaw07.RecWrites', WHERE WHAT IT READS IS OF BULK AT MOST 1048576: true; the input reads as it did. -/
def recWritesUptoRow : OpenClaim := { program := "ytlijfnekopjogaa", sum := "d4e1c97a9a3b91a6b41f962b804fa55777c038ae948cb7ea71c6c606a4c728a2", func := "troth/trothlaw07.RecWrites", spec := "recWrites", unfollowed := true, recurses := true, apart := false, narrowed := true }
def RecWritesUptoSaid : Prop := recWritesUptoRow.holds Try.pinned (OpenSpec.upto recWritesSpec)

/-- 'trothlaw07.RecReads', WHERE WHAT IT READS IS OF BULK AT MOST 1048576: true; the input reads as it did. -/
def recReadsUptoRow : OpenClaim := { program := "ytlijfnekopjogaa", sum := "d4e1c97a9a3b91a6b41f962b804fa55777c038ae948cb7ea71c6c606a4c728a2", func := "troth/trothlaw07.RecReads", spec := "recReads", unfollowed := true, recurses := true, apart := false, narrowed := true }
def RecReadsUptoSaid : Prop := recReadsUptoRow.holds Try.pinned (OpenSpec.upto recReadsSpec)

/-- 'trothlaw07.RecBack', WHERE WHAT IT READS IS OF BULK AT MOST 1048576: true; the input reads as it did. -/
def recBackUptoRow : OpenClaim := { program := "ytlijfnekopjogaa", sum := "d4e1c97a9a3b91a6b41f962b804fa55777c038ae948cb7ea71c6c606a4c728a2", func := "troth/trothlaw07.RecBack", spec := "recBack", unfollowed := true, recurses := true, apart := false, narrowed := true }
def RecBackUptoSaid : Prop := recBackUptoRow.holds Try.pinned (OpenSpec.upto recBackSpec)

/-- 'trothlaw07.RecCuts', WHERE WHAT IT READS IS OF BULK AT MOST 1048576: true; the input reads as it did. -/
def recCutsUptoRow : OpenClaim := { program := "ytlijfnekopjogaa", sum := "d4e1c97a9a3b91a6b41f962b804fa55777c038ae948cb7ea71c6c606a4c728a2", func := "troth/trothlaw07.RecCuts", spec := "recCuts", unfollowed := true, recurses := true, apart := false, narrowed := true }
def RecCutsUptoSaid : Prop := recCutsUptoRow.holds Try.pinned (OpenSpec.upto recCutsSpec)

/-- 'trothlaw07.RecOwn', WHERE WHAT IT READS IS OF BULK AT MOST 1048576: true; the input reads as it did. -/
def recOwnUptoRow : OpenClaim := { program := "ytlijfnekopjogaa", sum := "d4e1c97a9a3b91a6b41f962b804fa55777c038ae948cb7ea71c6c606a4c728a2", func := "troth/trothlaw07.RecOwn", spec := "recOwn", unfollowed := true, recurses := true, apart := false, narrowed := true }
def RecOwnUptoSaid : Prop := recOwnUptoRow.holds Try.pinned (OpenSpec.upto recOwnSpec)

end Rows
end Go.Proofs.Ytlijfnekopjogaa
