/- What the Go functions of this law return, told as Lean functions and proved by their walks, and the row of the law; laid by a program of this session out of Lean's own print of the translation. No conditions of its own. -/
import Derived.Test.YtipoiifilnmagaaProg
import Derived.Below
import Derived.Deep.Draws
import Derived.Deep.AppendLies
import Derived.Maps.AppendAt
import Derived.OwnWalk
import Derived.Laws.BytesArg
import Derived.Laws.MakeOwn
import Derived.Laws.OwnMore
import Derived.Deep.OwnRows
import Derived.Tactics
import Derived.Lib.ConvBytes
import Derived.Laws.Slices
import Derived.WalkKit
import Derived.KernelRfl
import Derived.RowKit3
import Derived.Deep.LoopGhost
import Derived.Deep.QuietTactic
import Derived.BigQuiet
import Derived.WideLaws
import Derived.Deep.DeepCutAuto
import Derived.Deep.CutBlock
import Derived.Deep.RegionHeld3
import Derived.Laws.Rows
import Derived.Lib.AppendStr
import Derived.ArgAppend
import Derived.Laws.IdiomCopy
import Derived.OrdersHeld
import Derived.Laws.BitsLemmas
import Derived.RowKit
import Derived.Test.YtipoiifilnmagaaPilotHand
import Derived.Test.YtipoiifilnmagaaWWords
import Derived.Test.YtipoiifilnmagaaWLast
import Derived.Test.YtipoiifilnmagaaWTab
import Derived.Test.YtipoiifilnmagaaWFour
import Derived.Test.YtipoiifilnmagaaWQPut
import Derived.Test.YtipoiifilnmagaaWApart
import Derived.Test.YtipoiifilnmagaaWArr
import Derived.Test.YtipoiifilnmagaaWZeros
import Derived.Test.YtipoiifilnmagaaWFoot
import Derived.Test.YtipoiifilnmagaaWKept
import Derived.Test.YtipoiifilnmagaaWShare
import Derived.Test.YtipoiifilnmagaaWN
import Derived.Test.YtipoiifilnmagaaWFootNe
import Derived.Test.YtipoiifilnmagaaWAt
import Derived.Test.YtipoiifilnmagaaWEqStruct
import Derived.Test.YtipoiifilnmagaaWRepsOne
import Derived.Test.YtipoiifilnmagaaWInv
import Derived.Test.YtipoiifilnmagaaWInvWords
import Derived.Test.YtipoiifilnmagaaWGuard
import Derived.Test.YtipoiifilnmagaaWNEv
import Derived.Test.YtipoiifilnmagaaWMore
namespace Go.Proofs.Ytipoiifilnmagaa.PPilotOrder
open Go.RowKit Go.Proofs.YtipoiifilnmagaaW.PrintWords Go.Proofs.YtipoiifilnmagaaW.PrintLast Go.Proofs.YtipoiifilnmagaaW.PrintMore
attribute [local go_sem] max2_int min2_int max_two min_two max_three min_three max_four min_four   -- for this text's walks alone
set_option linter.unusedVariables false
set_option linter.unusedSimpArgs false



def errW : Option Int → Value
  | none => .nilIface
  | some c => .iface 0 (.int .i64 c)
theorem errW_none : errW none = .nilIface := rfl
theorem errW_some (c : Int) : errW (some c) = .iface 0 (.int .i64 c) := rfl

-- the values' own types

end Go.Proofs.Ytipoiifilnmagaa.PPilotOrder
