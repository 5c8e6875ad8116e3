/-
  No cell of these rows narrows 'for every input' (looked for: loops, veiled, ifaces, maps, wideKeys, modest, calm, conditions, laid).
  DERIVED. THE GIVEN ROWS OF THIS SEAT. 12 by the template 'for every input the law returns true; each argument reads behind the call as it read before'; 0 by the template 'total and deterministic' (their statements: YtbbjkgpilmcldaaTotals.lean).
  GIVEN WITH THE SEED: the statements are not yours to turn. If you find one false, say at which input.
  Laid BY PROGRAM, IN A SANDBOX (cutbox-rows.mjs): the forced cells as the released guide's own fill.sh prints them over the translation daea1dab01d15186… (all of the seat's roots in one cut). By AI agents, Wed Nov 11 2026. No macro, syntax, notation, axiom, sorry.
-/
import Derived.Test.YtbbjkgpilmcldaaChecked
import GoSem.Claim
import GoSem.ClaimJoined
import GoSem.ClaimMapViews
import Derived.JoinedTies
import Derived.KernelRfl
namespace Go.Proofs.Ytbbjkgpilmcldaa
/- THE CELL 'sum', in the pinned program and in every row, IS THE sha256 OF THE DUMP (.gsa) THAT YtbbjkgpilmcldaaProg.lean LOADS. Nothing in Lean hashes anything: it is a label: what it is worth is what the hold of that sum in a sandbox is worth. -/
noncomputable def Try.pinned : Pinned := { name := "ytbbjkgpilmcldaa", sum := "daea1dab01d15186696bcd86ed0839575aa9eddcc74820f88aa22b4b28d7dbfc", checked := Try.checked }
namespace Rows
def none {H : Type} : Left H := { results := [], args := [] }

/-- 'tributarylaw2.RowsGroups': WHATEVER THE INPUT: true; the input reads as it did. -/
def rowsGroupsSpec : ChangeSpec := { name := "rowsGroups", fn := fun _ => fun
  | [d1, d2] => { results := [.lit (.bool true)], args := [d1, d2] }
  | _ => none }
def rowsGroupsRow : OpenClaim := { program := "ytbbjkgpilmcldaa", sum := "daea1dab01d15186696bcd86ed0839575aa9eddcc74820f88aa22b4b28d7dbfc", func := "tributary/tributarylaw2.RowsGroups", spec := "rowsGroups", unfollowed := true, recurses := true, apart := false }
def RowsGroupsSaid : Prop := rowsGroupsRow.holds Try.pinned (OpenSpec.ofChange rowsGroupsSpec)

/-- ITS FALSE NEIGHBOUR: 'it returns false'. Refute it at one input. -/
def rowsGroupsWrong : ChangeSpec := { name := "rowsGroups", fn := fun _ => fun
  | [d1, d2] => { results := [.lit (.bool false)], args := [d1, d2] }
  | _ => none }
def RowsGroupsWrongFalsely : Prop := rowsGroupsRow.holds Try.pinned (OpenSpec.ofChange rowsGroupsWrong)

/-- 'tributarylaw4.WideTwice': WHATEVER THE INPUT: true; the input reads as it did. -/
def wideTwiceSpec : ChangeSpec := { name := "wideTwice", fn := fun _ => fun
  | [d1, d2, d3, d4] => { results := [.lit (.bool true)], args := [d1, d2, d3, d4] }
  | _ => none }
def wideTwiceRow : OpenClaim := { program := "ytbbjkgpilmcldaa", sum := "daea1dab01d15186696bcd86ed0839575aa9eddcc74820f88aa22b4b28d7dbfc", func := "tributary/tributarylaw4.WideTwice", spec := "wideTwice", unfollowed := true, recurses := true, apart := false }
def WideTwiceSaid : Prop := wideTwiceRow.holds Try.pinned (OpenSpec.ofChange wideTwiceSpec)

/-- ITS FALSE NEIGHBOUR: 'it returns false'. Refute it at one input. -/
def wideTwiceWrong : ChangeSpec := { name := "wideTwice", fn := fun _ => fun
  | [d1, d2, d3, d4] => { results := [.lit (.bool false)], args := [d1, d2, d3, d4] }
  | _ => none }
def WideTwiceWrongFalsely : Prop := wideTwiceRow.holds Try.pinned (OpenSpec.ofChange wideTwiceWrong)

/-- 'tributarylaw4.WideKeys': WHATEVER THE INPUT: true; the input reads as it did. -/
def wideKeysSpec : ChangeSpec := { name := "wideKeys", fn := fun _ => fun
  | [d1, d2, d3] => { results := [.lit (.bool true)], args := [d1, d2, d3] }
  | _ => none }
def wideKeysRow : OpenClaim := { program := "ytbbjkgpilmcldaa", sum := "daea1dab01d15186696bcd86ed0839575aa9eddcc74820f88aa22b4b28d7dbfc", func := "tributary/tributarylaw4.WideKeys", spec := "wideKeys", unfollowed := true, recurses := true, apart := false }
def WideKeysSaid : Prop := wideKeysRow.holds Try.pinned (OpenSpec.ofChange wideKeysSpec)

/-- ITS FALSE NEIGHBOUR: 'it returns false'. Refute it at one input. -/
def wideKeysWrong : ChangeSpec := { name := "wideKeys", fn := fun _ => fun
  | [d1, d2, d3] => { results := [.lit (.bool false)], args := [d1, d2, d3] }
  | _ => none }
def WideKeysWrongFalsely : Prop := wideKeysRow.holds Try.pinned (OpenSpec.ofChange wideKeysWrong)

/-- 'tributarylaw4.WideSums': WHATEVER THE INPUT: true; the input reads as it did. -/
def wideSumsSpec : ChangeSpec := { name := "wideSums", fn := fun _ => fun
  | [d] => { results := [.lit (.bool true)], args := [d] }
  | _ => none }
def wideSumsRow : OpenClaim := { program := "ytbbjkgpilmcldaa", sum := "daea1dab01d15186696bcd86ed0839575aa9eddcc74820f88aa22b4b28d7dbfc", func := "tributary/tributarylaw4.WideSums", spec := "wideSums", unfollowed := true, recurses := true, apart := false }
def WideSumsSaid : Prop := wideSumsRow.holds Try.pinned (OpenSpec.ofChange wideSumsSpec)

/-- ITS FALSE NEIGHBOUR: 'it returns false'. Refute it at one input. -/
def wideSumsWrong : ChangeSpec := { name := "wideSums", fn := fun _ => fun
  | [d] => { results := [.lit (.bool false)], args := [d] }
  | _ => none }
def WideSumsWrongFalsely : Prop := wideSumsRow.holds Try.pinned (OpenSpec.ofChange wideSumsWrong)

/-- 'tributarylaw4.WideAgain': WHATEVER THE INPUT: true; the input reads as it did. -/
def wideAgainSpec : ChangeSpec := { name := "wideAgain", fn := fun _ => fun
  | [d] => { results := [.lit (.bool true)], args := [d] }
  | _ => none }
def wideAgainRow : OpenClaim := { program := "ytbbjkgpilmcldaa", sum := "daea1dab01d15186696bcd86ed0839575aa9eddcc74820f88aa22b4b28d7dbfc", func := "tributary/tributarylaw4.WideAgain", spec := "wideAgain", unfollowed := true, recurses := true, apart := false }
def WideAgainSaid : Prop := wideAgainRow.holds Try.pinned (OpenSpec.ofChange wideAgainSpec)

/-- ITS FALSE NEIGHBOUR: 'it returns false'. Refute it at one input. -/
def wideAgainWrong : ChangeSpec := { name := "wideAgain", fn := fun _ => fun
  | [d] => { results := [.lit (.bool false)], args := [d] }
  | _ => none }
def WideAgainWrongFalsely : Prop := wideAgainRow.holds Try.pinned (OpenSpec.ofChange wideAgainWrong)

/-- 'tributarylaw4.WideTurned': WHATEVER THE INPUT: true; the input reads as it did. -/
def wideTurnedSpec : ChangeSpec := { name := "wideTurned", fn := fun _ => fun
  | [d1, d2] => { results := [.lit (.bool true)], args := [d1, d2] }
  | _ => none }
def wideTurnedRow : OpenClaim := { program := "ytbbjkgpilmcldaa", sum := "daea1dab01d15186696bcd86ed0839575aa9eddcc74820f88aa22b4b28d7dbfc", func := "tributary/tributarylaw4.WideTurned", spec := "wideTurned", unfollowed := true, recurses := true, apart := false }
def WideTurnedSaid : Prop := wideTurnedRow.holds Try.pinned (OpenSpec.ofChange wideTurnedSpec)

/-- ITS FALSE NEIGHBOUR: 'it returns false'. Refute it at one input. -/
def wideTurnedWrong : ChangeSpec := { name := "wideTurned", fn := fun _ => fun
  | [d1, d2] => { results := [.lit (.bool false)], args := [d1, d2] }
  | _ => none }
def WideTurnedWrongFalsely : Prop := wideTurnedRow.holds Try.pinned (OpenSpec.ofChange wideTurnedWrong)

/-- 'tributarylaw4.WideMerges': WHATEVER THE INPUT: true; the input reads as it did. -/
def wideMergesSpec : ChangeSpec := { name := "wideMerges", fn := fun _ => fun
  | [d1, d2, d3] => { results := [.lit (.bool true)], args := [d1, d2, d3] }
  | _ => none }
def wideMergesRow : OpenClaim := { program := "ytbbjkgpilmcldaa", sum := "daea1dab01d15186696bcd86ed0839575aa9eddcc74820f88aa22b4b28d7dbfc", func := "tributary/tributarylaw4.WideMerges", spec := "wideMerges", unfollowed := true, recurses := true, apart := false }
def WideMergesSaid : Prop := wideMergesRow.holds Try.pinned (OpenSpec.ofChange wideMergesSpec)

/-- ITS FALSE NEIGHBOUR: 'it returns false'. Refute it at one input. -/
def wideMergesWrong : ChangeSpec := { name := "wideMerges", fn := fun _ => fun
  | [d1, d2, d3] => { results := [.lit (.bool false)], args := [d1, d2, d3] }
  | _ => none }
def WideMergesWrongFalsely : Prop := wideMergesRow.holds Try.pinned (OpenSpec.ofChange wideMergesWrong)

/-- 'tributarylaw4.WideOrder': WHATEVER THE INPUT: true; the input reads as it did. -/
def wideOrderSpec : ChangeSpec := { name := "wideOrder", fn := fun _ => fun
  | [d1, d2, d3] => { results := [.lit (.bool true)], args := [d1, d2, d3] }
  | _ => none }
def wideOrderRow : OpenClaim := { program := "ytbbjkgpilmcldaa", sum := "daea1dab01d15186696bcd86ed0839575aa9eddcc74820f88aa22b4b28d7dbfc", func := "tributary/tributarylaw4.WideOrder", spec := "wideOrder", unfollowed := true, recurses := true, apart := false }
def WideOrderSaid : Prop := wideOrderRow.holds Try.pinned (OpenSpec.ofChange wideOrderSpec)

/-- ITS FALSE NEIGHBOUR: 'it returns false'. Refute it at one input. -/
def wideOrderWrong : ChangeSpec := { name := "wideOrder", fn := fun _ => fun
  | [d1, d2, d3] => { results := [.lit (.bool false)], args := [d1, d2, d3] }
  | _ => none }
def WideOrderWrongFalsely : Prop := wideOrderRow.holds Try.pinned (OpenSpec.ofChange wideOrderWrong)

/-- 'tributarylaw4.WideShuffle': WHATEVER THE INPUT: true; the input reads as it did. -/
def wideShuffleSpec : ChangeSpec := { name := "wideShuffle", fn := fun _ => fun
  | [d1, d2, d3] => { results := [.lit (.bool true)], args := [d1, d2, d3] }
  | _ => none }
def wideShuffleRow : OpenClaim := { program := "ytbbjkgpilmcldaa", sum := "daea1dab01d15186696bcd86ed0839575aa9eddcc74820f88aa22b4b28d7dbfc", func := "tributary/tributarylaw4.WideShuffle", spec := "wideShuffle", unfollowed := true, recurses := true, apart := false }
def WideShuffleSaid : Prop := wideShuffleRow.holds Try.pinned (OpenSpec.ofChange wideShuffleSpec)

/-- ITS FALSE NEIGHBOUR: 'it returns false'. Refute it at one input. -/
def wideShuffleWrong : ChangeSpec := { name := "wideShuffle", fn := fun _ => fun
  | [d1, d2, d3] => { results := [.lit (.bool false)], args := [d1, d2, d3] }
  | _ => none }
def WideShuffleWrongFalsely : Prop := wideShuffleRow.holds Try.pinned (OpenSpec.ofChange wideShuffleWrong)

/-- 'tributarylaw4.WideStates': WHATEVER THE INPUT: true; the input reads as it did. -/
def wideStatesSpec : ChangeSpec := { name := "wideStates", fn := fun _ => fun
  | [d1, d2, d3, d4] => { results := [.lit (.bool true)], args := [d1, d2, d3, d4] }
  | _ => none }
def wideStatesRow : OpenClaim := { program := "ytbbjkgpilmcldaa", sum := "daea1dab01d15186696bcd86ed0839575aa9eddcc74820f88aa22b4b28d7dbfc", func := "tributary/tributarylaw4.WideStates", spec := "wideStates", unfollowed := true, recurses := true, apart := false }
def WideStatesSaid : Prop := wideStatesRow.holds Try.pinned (OpenSpec.ofChange wideStatesSpec)

/-- ITS FALSE NEIGHBOUR: 'it returns false'. Refute it at one input. -/
def wideStatesWrong : ChangeSpec := { name := "wideStates", fn := fun _ => fun
  | [d1, d2, d3, d4] => { results := [.lit (.bool false)], args := [d1, d2, d3, d4] }
  | _ => none }
def WideStatesWrongFalsely : Prop := wideStatesRow.holds Try.pinned (OpenSpec.ofChange wideStatesWrong)

/-- 'tributarylaw4.WidePairs': WHATEVER THE INPUT: true; the input reads as it did. -/
def widePairsSpec : ChangeSpec := { name := "widePairs", fn := fun _ => fun
  | [d1, d2, d3, d4] => { results := [.lit (.bool true)], args := [d1, d2, d3, d4] }
  | _ => none }
def widePairsRow : OpenClaim := { program := "ytbbjkgpilmcldaa", sum := "daea1dab01d15186696bcd86ed0839575aa9eddcc74820f88aa22b4b28d7dbfc", func := "tributary/tributarylaw4.WidePairs", spec := "widePairs", unfollowed := true, recurses := true, apart := false }
def WidePairsSaid : Prop := widePairsRow.holds Try.pinned (OpenSpec.ofChange widePairsSpec)

/-- ITS FALSE NEIGHBOUR: 'it returns false'. Refute it at one input. -/
def widePairsWrong : ChangeSpec := { name := "widePairs", fn := fun _ => fun
  | [d1, d2, d3, d4] => { results := [.lit (.bool false)], args := [d1, d2, d3, d4] }
  | _ => none }
def WidePairsWrongFalsely : Prop := widePairsRow.holds Try.pinned (OpenSpec.ofChange widePairsWrong)

/-- 'tributarylaw4.WideTells': WHATEVER THE INPUT: true; the input reads as it did. -/
def wideTellsSpec : ChangeSpec := { name := "wideTells", fn := fun _ => fun
  | [d1, d2, d3, d4] => { results := [.lit (.bool true)], args := [d1, d2, d3, d4] }
  | _ => none }
def wideTellsRow : OpenClaim := { program := "ytbbjkgpilmcldaa", sum := "daea1dab01d15186696bcd86ed0839575aa9eddcc74820f88aa22b4b28d7dbfc", func := "tributary/tributarylaw4.WideTells", spec := "wideTells", unfollowed := true, recurses := true, apart := false }
def WideTellsSaid : Prop := wideTellsRow.holds Try.pinned (OpenSpec.ofChange wideTellsSpec)

/-- ITS FALSE NEIGHBOUR: 'it returns false'. Refute it at one input. -/
def wideTellsWrong : ChangeSpec := { name := "wideTells", fn := fun _ => fun
  | [d1, d2, d3, d4] => { results := [.lit (.bool false)], args := [d1, d2, d3, d4] }
  | _ => none }
def WideTellsWrongFalsely : Prop := wideTellsRow.holds Try.pinned (OpenSpec.ofChange wideTellsWrong)

/- THE SECOND FORM. 'bulk': how many values and letters a reading holds, each counted each time it is reached (what is shared counts as often as it is met; a slice's spare places count too). A statement '..UptoSaid' is the law's where the arguments, and the package variables that the reading takes, are together of bulk at most 1048576: NARROWER than '..Said'. Prove '..Said' where nothing that the law and all that it calls make is longer than what came in: it says more and counts as full. Else prove '..UptoSaid'. A law counts once. -/
mutual
def uptoBulk {H : Type} : DataW H → Nat
  | .lit (.string bytes) => bytes.length + 1
  | .lit _ => 1
  | .nil => 1
  | .ptr d => uptoBulk d + 1
  | .slice elems spare => uptoBulkAll elems + uptoBulkAll spare + 1
  | .agg parts => uptoBulkAll parts + 1
  | .iface _ d => uptoBulk d + 1
  | .map entries => uptoBulkEntries entries + 1
  | .held _ => 1
def uptoBulkAll {H : Type} : List (DataW H) → Nat
  | [] => 0
  | d :: r => uptoBulk d + uptoBulkAll r
def uptoBulkEntries {H : Type} : List (Lit × DataW H) → Nat
  | [] => 0
  | x :: r => uptoBulkEntry x + uptoBulkEntries r
def uptoBulkEntry {H : Type} : Lit × DataW H → Nat
  | (.string bytes, d) => bytes.length + uptoBulk d + 1
  | (_, d) => uptoBulk d + 1
 end
def uptoSmall : (H : Type) → List (DataW H) → Bool := fun _ ds => decide (uptoBulkAll ds ≤ 1048576)
def OpenSpec.upto (s : _root_.Go.ChangeSpec) : _root_.Go.OpenSpec := { _root_.Go.OpenSpec.ofChange s with cond := some uptoSmall }

/-- 'tributarylaw2.RowsGroups', WHERE WHAT IT READS IS OF BULK AT MOST 1048576: true; the input reads as it did. -/
def rowsGroupsUptoRow : OpenClaim := { program := "ytbbjkgpilmcldaa", sum := "daea1dab01d15186696bcd86ed0839575aa9eddcc74820f88aa22b4b28d7dbfc", func := "tributary/tributarylaw2.RowsGroups", spec := "rowsGroups", unfollowed := true, recurses := true, apart := false, narrowed := true }
def RowsGroupsUptoSaid : Prop := rowsGroupsUptoRow.holds Try.pinned (OpenSpec.upto rowsGroupsSpec)

/-- 'tributarylaw4.WideTwice', WHERE WHAT IT READS IS OF BULK AT MOST 1048576: true; the input reads as it did. -/
def wideTwiceUptoRow : OpenClaim := { program := "ytbbjkgpilmcldaa", sum := "daea1dab01d15186696bcd86ed0839575aa9eddcc74820f88aa22b4b28d7dbfc", func := "tributary/tributarylaw4.WideTwice", spec := "wideTwice", unfollowed := true, recurses := true, apart := false, narrowed := true }
def WideTwiceUptoSaid : Prop := wideTwiceUptoRow.holds Try.pinned (OpenSpec.upto wideTwiceSpec)

/-- 'tributarylaw4.WideKeys', WHERE WHAT IT READS IS OF BULK AT MOST 1048576: true; the input reads as it did. -/
def wideKeysUptoRow : OpenClaim := { program := "ytbbjkgpilmcldaa", sum := "daea1dab01d15186696bcd86ed0839575aa9eddcc74820f88aa22b4b28d7dbfc", func := "tributary/tributarylaw4.WideKeys", spec := "wideKeys", unfollowed := true, recurses := true, apart := false, narrowed := true }
def WideKeysUptoSaid : Prop := wideKeysUptoRow.holds Try.pinned (OpenSpec.upto wideKeysSpec)

/-- 'tributarylaw4.WideSums', WHERE WHAT IT READS IS OF BULK AT MOST 1048576: true; the input reads as it did. -/
def wideSumsUptoRow : OpenClaim := { program := "ytbbjkgpilmcldaa", sum := "daea1dab01d15186696bcd86ed0839575aa9eddcc74820f88aa22b4b28d7dbfc", func := "tributary/tributarylaw4.WideSums", spec := "wideSums", unfollowed := true, recurses := true, apart := false, narrowed := true }
def WideSumsUptoSaid : Prop := wideSumsUptoRow.holds Try.pinned (OpenSpec.upto wideSumsSpec)

/-- 'tributarylaw4.WideAgain', WHERE WHAT IT READS IS OF BULK AT MOST 1048576: true; the input reads as it did. -/
def wideAgainUptoRow : OpenClaim := { program := "ytbbjkgpilmcldaa", sum := "daea1dab01d15186696bcd86ed0839575aa9eddcc74820f88aa22b4b28d7dbfc", func := "tributary/tributarylaw4.WideAgain", spec := "wideAgain", unfollowed := true, recurses := true, apart := false, narrowed := true }
def WideAgainUptoSaid : Prop := wideAgainUptoRow.holds Try.pinned (OpenSpec.upto wideAgainSpec)

/-- 'tributarylaw4.WideTurned', WHERE WHAT IT READS IS OF BULK AT MOST 1048576: true; the input reads as it did. -/
def wideTurnedUptoRow : OpenClaim := { program := "ytbbjkgpilmcldaa", sum := "daea1dab01d15186696bcd86ed0839575aa9eddcc74820f88aa22b4b28d7dbfc", func := "tributary/tributarylaw4.WideTurned", spec := "wideTurned", unfollowed := true, recurses := true, apart := false, narrowed := true }
def WideTurnedUptoSaid : Prop := wideTurnedUptoRow.holds Try.pinned (OpenSpec.upto wideTurnedSpec)

/-- 'tributarylaw4.WideMerges', WHERE WHAT IT READS IS OF BULK AT MOST 1048576: true; the input reads as it did. -/
def wideMergesUptoRow : OpenClaim := { program := "ytbbjkgpilmcldaa", sum := "daea1dab01d15186696bcd86ed0839575aa9eddcc74820f88aa22b4b28d7dbfc", func := "tributary/tributarylaw4.WideMerges", spec := "wideMerges", unfollowed := true, recurses := true, apart := false, narrowed := true }
def WideMergesUptoSaid : Prop := wideMergesUptoRow.holds Try.pinned (OpenSpec.upto wideMergesSpec)

/-- 'tributarylaw4.WideOrder', WHERE WHAT IT READS IS OF BULK AT MOST 1048576: true; the input reads as it did. -/
def wideOrderUptoRow : OpenClaim := { program := "ytbbjkgpilmcldaa", sum := "daea1dab01d15186696bcd86ed0839575aa9eddcc74820f88aa22b4b28d7dbfc", func := "tributary/tributarylaw4.WideOrder", spec := "wideOrder", unfollowed := true, recurses := true, apart := false, narrowed := true }
def WideOrderUptoSaid : Prop := wideOrderUptoRow.holds Try.pinned (OpenSpec.upto wideOrderSpec)

/-- 'tributarylaw4.WideShuffle', WHERE WHAT IT READS IS OF BULK AT MOST 1048576: true; the input reads as it did. -/
def wideShuffleUptoRow : OpenClaim := { program := "ytbbjkgpilmcldaa", sum := "daea1dab01d15186696bcd86ed0839575aa9eddcc74820f88aa22b4b28d7dbfc", func := "tributary/tributarylaw4.WideShuffle", spec := "wideShuffle", unfollowed := true, recurses := true, apart := false, narrowed := true }
def WideShuffleUptoSaid : Prop := wideShuffleUptoRow.holds Try.pinned (OpenSpec.upto wideShuffleSpec)

/-- 'tributarylaw4.WideStates', WHERE WHAT IT READS IS OF BULK AT MOST 1048576: true; the input reads as it did. -/
def wideStatesUptoRow : OpenClaim := { program := "ytbbjkgpilmcldaa", sum := "daea1dab01d15186696bcd86ed0839575aa9eddcc74820f88aa22b4b28d7dbfc", func := "tributary/tributarylaw4.WideStates", spec := "wideStates", unfollowed := true, recurses := true, apart := false, narrowed := true }
def WideStatesUptoSaid : Prop := wideStatesUptoRow.holds Try.pinned (OpenSpec.upto wideStatesSpec)

/-- 'tributarylaw4.WidePairs', WHERE WHAT IT READS IS OF BULK AT MOST 1048576: true; the input reads as it did. -/
def widePairsUptoRow : OpenClaim := { program := "ytbbjkgpilmcldaa", sum := "daea1dab01d15186696bcd86ed0839575aa9eddcc74820f88aa22b4b28d7dbfc", func := "tributary/tributarylaw4.WidePairs", spec := "widePairs", unfollowed := true, recurses := true, apart := false, narrowed := true }
def WidePairsUptoSaid : Prop := widePairsUptoRow.holds Try.pinned (OpenSpec.upto widePairsSpec)

/-- 'tributarylaw4.WideTells', WHERE WHAT IT READS IS OF BULK AT MOST 1048576: true; the input reads as it did. -/
def wideTellsUptoRow : OpenClaim := { program := "ytbbjkgpilmcldaa", sum := "daea1dab01d15186696bcd86ed0839575aa9eddcc74820f88aa22b4b28d7dbfc", func := "tributary/tributarylaw4.WideTells", spec := "wideTells", unfollowed := true, recurses := true, apart := false, narrowed := true }
def WideTellsUptoSaid : Prop := wideTellsUptoRow.holds Try.pinned (OpenSpec.upto wideTellsSpec)

end Rows
end Go.Proofs.Ytbbjkgpilmcldaa
