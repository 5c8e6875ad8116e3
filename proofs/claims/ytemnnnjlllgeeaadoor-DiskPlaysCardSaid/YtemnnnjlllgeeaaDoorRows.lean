/-
  NARROWER THAN 'FOR EVERY INPUT', by the rows' own cells (each row's printed sentence says how): DiskKeeps: laid · DiskArms: laid · DiskApart: laid · DiskPlays: laid · OpsRight: laid · OpsApply: laid · OpsJoins: laid · OpsShapes: laid · OpsBack: laid · OpsUnion: laid.
  DERIVED. THE GIVEN ROWS OF THIS SEAT. 10 by the template 'for every input the law returns true; each argument reads behind the call as it read before'; 0 by the template 'total and deterministic' (their statements: YtemnnnjlllgeeaaDoorTotals.lean).
  GIVEN WITH THE SEED: the statements are not yours to turn. If you find one false, say at which input.
  Laid BY PROGRAM, IN A SANDBOX (cutbox-rows.mjs): the forced cells as the released guide's own fill.sh prints them over the translation 2687195cf831088b… (all of the seat's roots in one cut). By AI agents, Wed Nov 11 2026. No macro, syntax, notation, axiom, sorry.
-/
import Derived.Test.YtemnnnjlllgeeaaDoorChecked
import GoSem.Claim
import GoSem.ClaimJoined
import GoSem.ClaimMapViews
import Derived.JoinedTies
import Derived.KernelRfl
namespace Go.Proofs.YtemnnnjlllgeeaaDoor
/- THE CELL 'sum', in the pinned program and in every row, IS THE sha256 OF THE DUMP (.gsa) THAT YtemnnnjlllgeeaaDoorProg.lean LOADS. Nothing in Lean hashes anything: it is a label: what it is worth is what the hold of that sum in a sandbox is worth. -/
noncomputable def Tryd.pinned : Pinned := { name := "ytemnnnjlllgeeaadoor", sum := "2687195cf831088bf6ade6a5420c8714c2a52ab7afcfcf430109e5bec9f56c3f", checked := Tryd.checked }
namespace Rows
def none {H : Type} : Left H := { results := [], args := [] }

/- WHAT THE LISTED PACKAGE-LEVEL VARIABLES READ AS WHEN THE CALL BEGINS. Each datum BY PROGRAM (the guide's laid-datum.mjs) off the statement by which the dump's own 'gosem.cut.vars' lays the variable. In a bare row this is a premise. The card (YtemnnnjlllgeeaaDoorCards.lean) ties it to the program's text. -/
def laid_errors_errorType {H : Type} : DataW H := .iface "internal/reflectlite.rtype" (.agg [.ptr (.lit (.string [101, 114, 114, 111, 114]))])

/-- 'tributarylaw7.DiskKeeps': WHATEVER THE INPUT: true; the input reads as it did. -/
def diskKeepsSpec : ChangeSpec := { name := "diskKeeps", fn := fun _ => fun
  | [d] => { results := [.lit (.bool true)], args := [d] }
  | _ => none }
def diskKeepsRow : OpenClaim := { program := "ytemnnnjlllgeeaadoor", sum := "2687195cf831088bf6ade6a5420c8714c2a52ab7afcfcf430109e5bec9f56c3f", func := "tributary/tributarylaw7.DiskKeeps", spec := "diskKeeps", inPlace := ["internal/reflectlite.ValueOf", "(internal/reflectlite.Value).Type", "(internal/reflectlite.Value).IsNil", "internal/reflectlite.TypeOf", "(internal/reflectlite.Value).Elem", "(internal/reflectlite.Value).Set"], unfollowed := true, recurses := true, named := ["errors.errorType"], apart := false, laid := [("errors.errorType", laid_errors_errorType)] }
def DiskKeepsSaid : Prop := diskKeepsRow.holds Tryd.pinned (OpenSpec.ofChange diskKeepsSpec)

/-- ITS FALSE NEIGHBOUR: 'it returns false'. Refute it at one input. -/
def diskKeepsWrong : ChangeSpec := { name := "diskKeeps", fn := fun _ => fun
  | [d] => { results := [.lit (.bool false)], args := [d] }
  | _ => none }
def DiskKeepsWrongFalsely : Prop := diskKeepsRow.holds Tryd.pinned (OpenSpec.ofChange diskKeepsWrong)

/-- 'tributarylaw7.DiskArms': WHATEVER THE INPUT: true; the input reads as it did. -/
def diskArmsSpec : ChangeSpec := { name := "diskArms", fn := fun _ => fun
  | [d1, d2] => { results := [.lit (.bool true)], args := [d1, d2] }
  | _ => none }
def diskArmsRow : OpenClaim := { program := "ytemnnnjlllgeeaadoor", sum := "2687195cf831088bf6ade6a5420c8714c2a52ab7afcfcf430109e5bec9f56c3f", func := "tributary/tributarylaw7.DiskArms", spec := "diskArms", inPlace := ["internal/reflectlite.ValueOf", "(internal/reflectlite.Value).Type", "(internal/reflectlite.Value).IsNil", "internal/reflectlite.TypeOf", "(internal/reflectlite.Value).Elem", "(internal/reflectlite.Value).Set"], unfollowed := true, recurses := true, named := ["errors.errorType"], apart := false, laid := [("errors.errorType", laid_errors_errorType)] }
def DiskArmsSaid : Prop := diskArmsRow.holds Tryd.pinned (OpenSpec.ofChange diskArmsSpec)

/-- ITS FALSE NEIGHBOUR: 'it returns false'. Refute it at one input. -/
def diskArmsWrong : ChangeSpec := { name := "diskArms", fn := fun _ => fun
  | [d1, d2] => { results := [.lit (.bool false)], args := [d1, d2] }
  | _ => none }
def DiskArmsWrongFalsely : Prop := diskArmsRow.holds Tryd.pinned (OpenSpec.ofChange diskArmsWrong)

/-- 'tributarylaw7.DiskApart': WHATEVER THE INPUT: true; the input reads as it did. -/
def diskApartSpec : ChangeSpec := { name := "diskApart", fn := fun _ => fun
  | [d1, d2] => { results := [.lit (.bool true)], args := [d1, d2] }
  | _ => none }
def diskApartRow : OpenClaim := { program := "ytemnnnjlllgeeaadoor", sum := "2687195cf831088bf6ade6a5420c8714c2a52ab7afcfcf430109e5bec9f56c3f", func := "tributary/tributarylaw7.DiskApart", spec := "diskApart", inPlace := ["internal/reflectlite.ValueOf", "(internal/reflectlite.Value).Type", "(internal/reflectlite.Value).IsNil", "internal/reflectlite.TypeOf", "(internal/reflectlite.Value).Elem", "(internal/reflectlite.Value).Set"], unfollowed := true, recurses := true, named := ["errors.errorType"], apart := false, laid := [("errors.errorType", laid_errors_errorType)] }
def DiskApartSaid : Prop := diskApartRow.holds Tryd.pinned (OpenSpec.ofChange diskApartSpec)

/-- ITS FALSE NEIGHBOUR: 'it returns false'. Refute it at one input. -/
def diskApartWrong : ChangeSpec := { name := "diskApart", fn := fun _ => fun
  | [d1, d2] => { results := [.lit (.bool false)], args := [d1, d2] }
  | _ => none }
def DiskApartWrongFalsely : Prop := diskApartRow.holds Tryd.pinned (OpenSpec.ofChange diskApartWrong)

/-- 'tributarylaw7.DiskPlays': WHATEVER THE INPUT: true; the input reads as it did. -/
def diskPlaysSpec : ChangeSpec := { name := "diskPlays", fn := fun _ => fun
  | [d1, d2] => { results := [.lit (.bool true)], args := [d1, d2] }
  | _ => none }
def diskPlaysRow : OpenClaim := { program := "ytemnnnjlllgeeaadoor", sum := "2687195cf831088bf6ade6a5420c8714c2a52ab7afcfcf430109e5bec9f56c3f", func := "tributary/tributarylaw7.DiskPlays", spec := "diskPlays", inPlace := ["internal/reflectlite.ValueOf", "(internal/reflectlite.Value).Type", "(internal/reflectlite.Value).IsNil", "internal/reflectlite.TypeOf", "(internal/reflectlite.Value).Elem", "(internal/reflectlite.Value).Set"], unfollowed := true, recurses := true, named := ["errors.errorType"], apart := false, laid := [("errors.errorType", laid_errors_errorType)] }
def DiskPlaysSaid : Prop := diskPlaysRow.holds Tryd.pinned (OpenSpec.ofChange diskPlaysSpec)

/-- ITS FALSE NEIGHBOUR: 'it returns false'. Refute it at one input. -/
def diskPlaysWrong : ChangeSpec := { name := "diskPlays", fn := fun _ => fun
  | [d1, d2] => { results := [.lit (.bool false)], args := [d1, d2] }
  | _ => none }
def DiskPlaysWrongFalsely : Prop := diskPlaysRow.holds Tryd.pinned (OpenSpec.ofChange diskPlaysWrong)

/-- 'tributarylaw3.OpsRight': WHATEVER THE INPUT: true; the input reads as it did. -/
def opsRightSpec : ChangeSpec := { name := "opsRight", fn := fun _ => fun
  | [d] => { results := [.lit (.bool true)], args := [d] }
  | _ => none }
def opsRightRow : OpenClaim := { program := "ytemnnnjlllgeeaadoor", sum := "2687195cf831088bf6ade6a5420c8714c2a52ab7afcfcf430109e5bec9f56c3f", func := "tributary/tributarylaw3.OpsRight", spec := "opsRight", inPlace := ["internal/reflectlite.ValueOf", "(internal/reflectlite.Value).Type", "(internal/reflectlite.Value).IsNil", "internal/reflectlite.TypeOf", "(internal/reflectlite.Value).Elem", "(internal/reflectlite.Value).Set"], unfollowed := true, recurses := true, named := ["errors.errorType"], apart := false, laid := [("errors.errorType", laid_errors_errorType)] }
def OpsRightSaid : Prop := opsRightRow.holds Tryd.pinned (OpenSpec.ofChange opsRightSpec)

/-- ITS FALSE NEIGHBOUR: 'it returns false'. Refute it at one input. -/
def opsRightWrong : ChangeSpec := { name := "opsRight", fn := fun _ => fun
  | [d] => { results := [.lit (.bool false)], args := [d] }
  | _ => none }
def OpsRightWrongFalsely : Prop := opsRightRow.holds Tryd.pinned (OpenSpec.ofChange opsRightWrong)

/-- 'tributarylaw3.OpsApply': WHATEVER THE INPUT: true; the input reads as it did. -/
def opsApplySpec : ChangeSpec := { name := "opsApply", fn := fun _ => fun
  | [d1, d2, d3, d4] => { results := [.lit (.bool true)], args := [d1, d2, d3, d4] }
  | _ => none }
def opsApplyRow : OpenClaim := { program := "ytemnnnjlllgeeaadoor", sum := "2687195cf831088bf6ade6a5420c8714c2a52ab7afcfcf430109e5bec9f56c3f", func := "tributary/tributarylaw3.OpsApply", spec := "opsApply", inPlace := ["internal/reflectlite.ValueOf", "(internal/reflectlite.Value).Type", "(internal/reflectlite.Value).IsNil", "internal/reflectlite.TypeOf", "(internal/reflectlite.Value).Elem", "(internal/reflectlite.Value).Set"], unfollowed := true, recurses := true, named := ["errors.errorType"], apart := false, laid := [("errors.errorType", laid_errors_errorType)] }
def OpsApplySaid : Prop := opsApplyRow.holds Tryd.pinned (OpenSpec.ofChange opsApplySpec)

/-- ITS FALSE NEIGHBOUR: 'it returns false'. Refute it at one input. -/
def opsApplyWrong : ChangeSpec := { name := "opsApply", fn := fun _ => fun
  | [d1, d2, d3, d4] => { results := [.lit (.bool false)], args := [d1, d2, d3, d4] }
  | _ => none }
def OpsApplyWrongFalsely : Prop := opsApplyRow.holds Tryd.pinned (OpenSpec.ofChange opsApplyWrong)

/-- 'tributarylaw3.OpsJoins': WHATEVER THE INPUT: true; the input reads as it did. -/
def opsJoinsSpec : ChangeSpec := { name := "opsJoins", fn := fun _ => fun
  | [d1, d2, d3] => { results := [.lit (.bool true)], args := [d1, d2, d3] }
  | _ => none }
def opsJoinsRow : OpenClaim := { program := "ytemnnnjlllgeeaadoor", sum := "2687195cf831088bf6ade6a5420c8714c2a52ab7afcfcf430109e5bec9f56c3f", func := "tributary/tributarylaw3.OpsJoins", spec := "opsJoins", inPlace := ["internal/reflectlite.ValueOf", "(internal/reflectlite.Value).Type", "(internal/reflectlite.Value).IsNil", "internal/reflectlite.TypeOf", "(internal/reflectlite.Value).Elem", "(internal/reflectlite.Value).Set"], unfollowed := true, recurses := true, named := ["errors.errorType"], apart := false, laid := [("errors.errorType", laid_errors_errorType)] }
def OpsJoinsSaid : Prop := opsJoinsRow.holds Tryd.pinned (OpenSpec.ofChange opsJoinsSpec)

/-- ITS FALSE NEIGHBOUR: 'it returns false'. Refute it at one input. -/
def opsJoinsWrong : ChangeSpec := { name := "opsJoins", fn := fun _ => fun
  | [d1, d2, d3] => { results := [.lit (.bool false)], args := [d1, d2, d3] }
  | _ => none }
def OpsJoinsWrongFalsely : Prop := opsJoinsRow.holds Tryd.pinned (OpenSpec.ofChange opsJoinsWrong)

/-- 'tributarylaw3.OpsShapes': WHATEVER THE INPUT: true; the input reads as it did. -/
def opsShapesSpec : ChangeSpec := { name := "opsShapes", fn := fun _ => fun
  | [d1, d2, d3] => { results := [.lit (.bool true)], args := [d1, d2, d3] }
  | _ => none }
def opsShapesRow : OpenClaim := { program := "ytemnnnjlllgeeaadoor", sum := "2687195cf831088bf6ade6a5420c8714c2a52ab7afcfcf430109e5bec9f56c3f", func := "tributary/tributarylaw3.OpsShapes", spec := "opsShapes", inPlace := ["internal/reflectlite.ValueOf", "(internal/reflectlite.Value).Type", "(internal/reflectlite.Value).IsNil", "internal/reflectlite.TypeOf", "(internal/reflectlite.Value).Elem", "(internal/reflectlite.Value).Set"], unfollowed := true, recurses := true, named := ["errors.errorType"], apart := false, laid := [("errors.errorType", laid_errors_errorType)] }
def OpsShapesSaid : Prop := opsShapesRow.holds Tryd.pinned (OpenSpec.ofChange opsShapesSpec)

/-- ITS FALSE NEIGHBOUR: 'it returns false'. Refute it at one input. -/
def opsShapesWrong : ChangeSpec := { name := "opsShapes", fn := fun _ => fun
  | [d1, d2, d3] => { results := [.lit (.bool false)], args := [d1, d2, d3] }
  | _ => none }
def OpsShapesWrongFalsely : Prop := opsShapesRow.holds Tryd.pinned (OpenSpec.ofChange opsShapesWrong)

/-- 'tributarylaw3.OpsBack': WHATEVER THE INPUT: true; the input reads as it did. -/
def opsBackSpec : ChangeSpec := { name := "opsBack", fn := fun _ => fun
  | [d1, d2] => { results := [.lit (.bool true)], args := [d1, d2] }
  | _ => none }
def opsBackRow : OpenClaim := { program := "ytemnnnjlllgeeaadoor", sum := "2687195cf831088bf6ade6a5420c8714c2a52ab7afcfcf430109e5bec9f56c3f", func := "tributary/tributarylaw3.OpsBack", spec := "opsBack", inPlace := ["internal/reflectlite.ValueOf", "(internal/reflectlite.Value).Type", "(internal/reflectlite.Value).IsNil", "internal/reflectlite.TypeOf", "(internal/reflectlite.Value).Elem", "(internal/reflectlite.Value).Set"], unfollowed := true, recurses := true, named := ["errors.errorType"], apart := false, laid := [("errors.errorType", laid_errors_errorType)] }
def OpsBackSaid : Prop := opsBackRow.holds Tryd.pinned (OpenSpec.ofChange opsBackSpec)

/-- ITS FALSE NEIGHBOUR: 'it returns false'. Refute it at one input. -/
def opsBackWrong : ChangeSpec := { name := "opsBack", fn := fun _ => fun
  | [d1, d2] => { results := [.lit (.bool false)], args := [d1, d2] }
  | _ => none }
def OpsBackWrongFalsely : Prop := opsBackRow.holds Tryd.pinned (OpenSpec.ofChange opsBackWrong)

/-- 'tributarylaw3.OpsUnion': WHATEVER THE INPUT: true; the input reads as it did. -/
def opsUnionSpec : ChangeSpec := { name := "opsUnion", fn := fun _ => fun
  | [d1, d2, d3] => { results := [.lit (.bool true)], args := [d1, d2, d3] }
  | _ => none }
def opsUnionRow : OpenClaim := { program := "ytemnnnjlllgeeaadoor", sum := "2687195cf831088bf6ade6a5420c8714c2a52ab7afcfcf430109e5bec9f56c3f", func := "tributary/tributarylaw3.OpsUnion", spec := "opsUnion", inPlace := ["internal/reflectlite.ValueOf", "(internal/reflectlite.Value).Type", "(internal/reflectlite.Value).IsNil", "internal/reflectlite.TypeOf", "(internal/reflectlite.Value).Elem", "(internal/reflectlite.Value).Set"], unfollowed := true, recurses := true, named := ["errors.errorType"], apart := false, laid := [("errors.errorType", laid_errors_errorType)] }
def OpsUnionSaid : Prop := opsUnionRow.holds Tryd.pinned (OpenSpec.ofChange opsUnionSpec)

/-- ITS FALSE NEIGHBOUR: 'it returns false'. Refute it at one input. -/
def opsUnionWrong : ChangeSpec := { name := "opsUnion", fn := fun _ => fun
  | [d1, d2, d3] => { results := [.lit (.bool false)], args := [d1, d2, d3] }
  | _ => none }
def OpsUnionWrongFalsely : Prop := opsUnionRow.holds Tryd.pinned (OpenSpec.ofChange opsUnionWrong)

/- THE SECOND FORM. 'bulk': how many values and letters a reading holds, each counted each time it is reached (what is shared counts as often as it is met; a slice's spare places count too). A statement '..UptoSaid' is the law's where the arguments, and the package variables that the reading takes, are together of bulk at most 1048576: NARROWER than '..Said'. Prove '..Said' where nothing that the law and all that it calls make is longer than what came in: it says more and counts as full. Else prove '..UptoSaid'. A law counts once. -/
mutual
def uptoBulk {H : Type} : DataW H → Nat
  | .lit (.string bytes) => bytes.length + 1
  | .lit _ => 1
  | .nil => 1
  | .ptr d => uptoBulk d + 1
  | .slice elems spare => uptoBulkAll elems + uptoBulkAll spare + 1
  | .agg parts => uptoBulkAll parts + 1
  | .iface _ d => uptoBulk d + 1
  | .map entries => uptoBulkEntries entries + 1
  | .held _ => 1
def uptoBulkAll {H : Type} : List (DataW H) → Nat
  | [] => 0
  | d :: r => uptoBulk d + uptoBulkAll r
def uptoBulkEntries {H : Type} : List (Lit × DataW H) → Nat
  | [] => 0
  | x :: r => uptoBulkEntry x + uptoBulkEntries r
def uptoBulkEntry {H : Type} : Lit × DataW H → Nat
  | (.string bytes, d) => bytes.length + uptoBulk d + 1
  | (_, d) => uptoBulk d + 1
 end
def uptoSmall : (H : Type) → List (DataW H) → Bool := fun _ ds => decide (uptoBulkAll ds ≤ 1048576)
def OpenSpec.upto (s : _root_.Go.ChangeSpec) : _root_.Go.OpenSpec := { _root_.Go.OpenSpec.ofChange s with cond := some uptoSmall }

/-- 'tributarylaw7.DiskKeeps', WHERE WHAT IT READS IS OF BULK AT MOST 1048576: true; the input reads as it did. -/
def diskKeepsUptoRow : OpenClaim := { program := "ytemnnnjlllgeeaadoor", sum := "2687195cf831088bf6ade6a5420c8714c2a52ab7afcfcf430109e5bec9f56c3f", func := "tributary/tributarylaw7.DiskKeeps", spec := "diskKeeps", inPlace := ["internal/reflectlite.ValueOf", "(internal/reflectlite.Value).Type", "(internal/reflectlite.Value).IsNil", "internal/reflectlite.TypeOf", "(internal/reflectlite.Value).Elem", "(internal/reflectlite.Value).Set"], unfollowed := true, recurses := true, named := ["errors.errorType"], apart := false, laid := [("errors.errorType", laid_errors_errorType)], narrowed := true }
def DiskKeepsUptoSaid : Prop := diskKeepsUptoRow.holds Tryd.pinned (OpenSpec.upto diskKeepsSpec)

/-- 'tributarylaw7.DiskArms', WHERE WHAT IT READS IS OF BULK AT MOST 1048576: true; the input reads as it did. -/
def diskArmsUptoRow : OpenClaim := { program := "ytemnnnjlllgeeaadoor", sum := "2687195cf831088bf6ade6a5420c8714c2a52ab7afcfcf430109e5bec9f56c3f", func := "tributary/tributarylaw7.DiskArms", spec := "diskArms", inPlace := ["internal/reflectlite.ValueOf", "(internal/reflectlite.Value).Type", "(internal/reflectlite.Value).IsNil", "internal/reflectlite.TypeOf", "(internal/reflectlite.Value).Elem", "(internal/reflectlite.Value).Set"], unfollowed := true, recurses := true, named := ["errors.errorType"], apart := false, laid := [("errors.errorType", laid_errors_errorType)], narrowed := true }
def DiskArmsUptoSaid : Prop := diskArmsUptoRow.holds Tryd.pinned (OpenSpec.upto diskArmsSpec)

/-- 'tributarylaw7.DiskApart', WHERE WHAT IT READS IS OF BULK AT MOST 1048576: true; the input reads as it did. -/
def diskApartUptoRow : OpenClaim := { program := "ytemnnnjlllgeeaadoor", sum := "2687195cf831088bf6ade6a5420c8714c2a52ab7afcfcf430109e5bec9f56c3f", func := "tributary/tributarylaw7.DiskApart", spec := "diskApart", inPlace := ["internal/reflectlite.ValueOf", "(internal/reflectlite.Value).Type", "(internal/reflectlite.Value).IsNil", "internal/reflectlite.TypeOf", "(internal/reflectlite.Value).Elem", "(internal/reflectlite.Value).Set"], unfollowed := true, recurses := true, named := ["errors.errorType"], apart := false, laid := [("errors.errorType", laid_errors_errorType)], narrowed := true }
def DiskApartUptoSaid : Prop := diskApartUptoRow.holds Tryd.pinned (OpenSpec.upto diskApartSpec)

/-- 'tributarylaw7.DiskPlays', WHERE WHAT IT READS IS OF BULK AT MOST 1048576: true; the input reads as it did. -/
def diskPlaysUptoRow : OpenClaim := { program := "ytemnnnjlllgeeaadoor", sum := "2687195cf831088bf6ade6a5420c8714c2a52ab7afcfcf430109e5bec9f56c3f", func := "tributary/tributarylaw7.DiskPlays", spec := "diskPlays", inPlace := ["internal/reflectlite.ValueOf", "(internal/reflectlite.Value).Type", "(internal/reflectlite.Value).IsNil", "internal/reflectlite.TypeOf", "(internal/reflectlite.Value).Elem", "(internal/reflectlite.Value).Set"], unfollowed := true, recurses := true, named := ["errors.errorType"], apart := false, laid := [("errors.errorType", laid_errors_errorType)], narrowed := true }
def DiskPlaysUptoSaid : Prop := diskPlaysUptoRow.holds Tryd.pinned (OpenSpec.upto diskPlaysSpec)

/-- 'tributarylaw3.OpsRight', WHERE WHAT IT READS IS OF BULK AT MOST 1048576: true; the input reads as it did. -/
def opsRightUptoRow : OpenClaim := { program := "ytemnnnjlllgeeaadoor", sum := "2687195cf831088bf6ade6a5420c8714c2a52ab7afcfcf430109e5bec9f56c3f", func := "tributary/tributarylaw3.OpsRight", spec := "opsRight", inPlace := ["internal/reflectlite.ValueOf", "(internal/reflectlite.Value).Type", "(internal/reflectlite.Value).IsNil", "internal/reflectlite.TypeOf", "(internal/reflectlite.Value).Elem", "(internal/reflectlite.Value).Set"], unfollowed := true, recurses := true, named := ["errors.errorType"], apart := false, laid := [("errors.errorType", laid_errors_errorType)], narrowed := true }
def OpsRightUptoSaid : Prop := opsRightUptoRow.holds Tryd.pinned (OpenSpec.upto opsRightSpec)

/-- 'tributarylaw3.OpsApply', WHERE WHAT IT READS IS OF BULK AT MOST 1048576: true; the input reads as it did. -/
def opsApplyUptoRow : OpenClaim := { program := "ytemnnnjlllgeeaadoor", sum := "2687195cf831088bf6ade6a5420c8714c2a52ab7afcfcf430109e5bec9f56c3f", func := "tributary/tributarylaw3.OpsApply", spec := "opsApply", inPlace := ["internal/reflectlite.ValueOf", "(internal/reflectlite.Value).Type", "(internal/reflectlite.Value).IsNil", "internal/reflectlite.TypeOf", "(internal/reflectlite.Value).Elem", "(internal/reflectlite.Value).Set"], unfollowed := true, recurses := true, named := ["errors.errorType"], apart := false, laid := [("errors.errorType", laid_errors_errorType)], narrowed := true }
def OpsApplyUptoSaid : Prop := opsApplyUptoRow.holds Tryd.pinned (OpenSpec.upto opsApplySpec)

/-- 'tributarylaw3.OpsJoins', WHERE WHAT IT READS IS OF BULK AT MOST 1048576: true; the input reads as it did. -/
def opsJoinsUptoRow : OpenClaim := { program := "ytemnnnjlllgeeaadoor", sum := "2687195cf831088bf6ade6a5420c8714c2a52ab7afcfcf430109e5bec9f56c3f", func := "tributary/tributarylaw3.OpsJoins", spec := "opsJoins", inPlace := ["internal/reflectlite.ValueOf", "(internal/reflectlite.Value).Type", "(internal/reflectlite.Value).IsNil", "internal/reflectlite.TypeOf", "(internal/reflectlite.Value).Elem", "(internal/reflectlite.Value).Set"], unfollowed := true, recurses := true, named := ["errors.errorType"], apart := false, laid := [("errors.errorType", laid_errors_errorType)], narrowed := true }
def OpsJoinsUptoSaid : Prop := opsJoinsUptoRow.holds Tryd.pinned (OpenSpec.upto opsJoinsSpec)

/-- 'tributarylaw3.OpsShapes', WHERE WHAT IT READS IS OF BULK AT MOST 1048576: true; the input reads as it did. -/
def opsShapesUptoRow : OpenClaim := { program := "ytemnnnjlllgeeaadoor", sum := "2687195cf831088bf6ade6a5420c8714c2a52ab7afcfcf430109e5bec9f56c3f", func := "tributary/tributarylaw3.OpsShapes", spec := "opsShapes", inPlace := ["internal/reflectlite.ValueOf", "(internal/reflectlite.Value).Type", "(internal/reflectlite.Value).IsNil", "internal/reflectlite.TypeOf", "(internal/reflectlite.Value).Elem", "(internal/reflectlite.Value).Set"], unfollowed := true, recurses := true, named := ["errors.errorType"], apart := false, laid := [("errors.errorType", laid_errors_errorType)], narrowed := true }
def OpsShapesUptoSaid : Prop := opsShapesUptoRow.holds Tryd.pinned (OpenSpec.upto opsShapesSpec)

/-- 'tributarylaw3.OpsBack', WHERE WHAT IT READS IS OF BULK AT MOST 1048576: true; the input reads as it did. -/
def opsBackUptoRow : OpenClaim := { program := "ytemnnnjlllgeeaadoor", sum := "2687195cf831088bf6ade6a5420c8714c2a52ab7afcfcf430109e5bec9f56c3f", func := "tributary/tributarylaw3.OpsBack", spec := "opsBack", inPlace := ["internal/reflectlite.ValueOf", "(internal/reflectlite.Value).Type", "(internal/reflectlite.Value).IsNil", "internal/reflectlite.TypeOf", "(internal/reflectlite.Value).Elem", "(internal/reflectlite.Value).Set"], unfollowed := true, recurses := true, named := ["errors.errorType"], apart := false, laid := [("errors.errorType", laid_errors_errorType)], narrowed := true }
def OpsBackUptoSaid : Prop := opsBackUptoRow.holds Tryd.pinned (OpenSpec.upto opsBackSpec)

/-- 'tributarylaw3.OpsUnion', WHERE WHAT IT READS IS OF BULK AT MOST 1048576: true; the input reads as it did. -/
def opsUnionUptoRow : OpenClaim := { program := "ytemnnnjlllgeeaadoor", sum := "2687195cf831088bf6ade6a5420c8714c2a52ab7afcfcf430109e5bec9f56c3f", func := "tributary/tributarylaw3.OpsUnion", spec := "opsUnion", inPlace := ["internal/reflectlite.ValueOf", "(internal/reflectlite.Value).Type", "(internal/reflectlite.Value).IsNil", "internal/reflectlite.TypeOf", "(internal/reflectlite.Value).Elem", "(internal/reflectlite.Value).Set"], unfollowed := true, recurses := true, named := ["errors.errorType"], apart := false, laid := [("errors.errorType", laid_errors_errorType)], narrowed := true }
def OpsUnionUptoSaid : Prop := opsUnionUptoRow.holds Tryd.pinned (OpenSpec.upto opsUnionSpec)

end Rows
end Go.Proofs.YtemnnnjlllgeeaaDoor
