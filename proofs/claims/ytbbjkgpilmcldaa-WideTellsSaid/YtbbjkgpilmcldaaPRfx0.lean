-- written by a program of this session, a turned copy of the print tool
import Derived.Test.YtbbjkgpilmcldaaProg
import Derived.Below
import Derived.Deep.Draws
import Derived.Deep.AppendLies
import Derived.Maps.AppendAt
import Derived.OwnWalk
import Derived.Laws.BytesArg
import Derived.Laws.MakeOwn
import Derived.Laws.OwnMore
import Derived.Deep.OwnRows
import Derived.Tactics
import Derived.Lib.ConvBytes
import Derived.Laws.Slices
import Derived.WalkKit
import Derived.KernelRfl
import Derived.RowKit3
import Derived.Deep.LoopGhost
import Derived.Deep.QuietTactic
import Derived.BigQuiet
import Derived.WideLaws
import Derived.Deep.DeepCutAuto
import Derived.Deep.CutBlock
import Derived.Deep.RegionHeld3
import Derived.Laws.Rows
import Derived.Lib.AppendStr
import Derived.ArgAppend
import Derived.Laws.IdiomCopy
import Derived.OrdersHeld
import Derived.Laws.BitsLemmas
import Derived.RowKit
import Derived.Test.YtbbjkgpilmcldaaWWords
import Derived.Test.YtbbjkgpilmcldaaWLast
import Derived.Test.YtbbjkgpilmcldaaWTab
import Derived.Test.YtbbjkgpilmcldaaWFour
import Derived.Test.YtbbjkgpilmcldaaWQPut
import Derived.Test.YtbbjkgpilmcldaaWApart
import Derived.Test.YtbbjkgpilmcldaaWArr
import Derived.Test.YtbbjkgpilmcldaaWZeros
import Derived.Test.YtbbjkgpilmcldaaWFoot
import Derived.Test.YtbbjkgpilmcldaaWKept
import Derived.Test.YtbbjkgpilmcldaaWShare
import Derived.Test.YtbbjkgpilmcldaaWN
import Derived.Test.YtbbjkgpilmcldaaWFootNe
import Derived.Test.YtbbjkgpilmcldaaWAt
import Derived.Test.YtbbjkgpilmcldaaWEqStruct
import Derived.Test.YtbbjkgpilmcldaaWRepsOne
import Derived.Test.YtbbjkgpilmcldaaWInv
import Derived.Test.YtbbjkgpilmcldaaWInvWords
import Derived.Test.YtbbjkgpilmcldaaWGuard
import Derived.Test.YtbbjkgpilmcldaaWNEv
import Derived.Test.YtbbjkgpilmcldaaWMore
namespace Go.Proofs.Ytbbjkgpilmcldaa.PRf
open Go.RowKit Go.Proofs.YtbbjkgpilmcldaaW.PrintWords Go.Proofs.YtbbjkgpilmcldaaW.PrintLast Go.Proofs.YtbbjkgpilmcldaaW.PrintMore
attribute [local go_sem] max2_int min2_int max_two min_two max_three min_three max_four min_four   -- for this text's walks alone
set_option linter.unusedVariables false
set_option linter.unusedSimpArgs false



def errW : Option Int → Value
  | none => .nilIface
  | some c => .iface 0 (.int .i64 c)
theorem errW_none : errW none = .nilIface := rfl
theorem errW_some (c : Int) : errW (some c) = .iface 0 (.int .i64 c) := rfl

-- the values' own types

end Go.Proofs.Ytbbjkgpilmcldaa.PRf
