/- The machine's side of the laws of this seat: for each Go function a Lean function of lists and numbers, and that the call answers what it answers. No condition but those in the theorems. -/
import Derived.Test.YtoddldamekamoaaDoorProg
import Derived.Below
import Derived.Deep.Draws
import Derived.Deep.AppendLies
import Derived.Maps.AppendAt
import Derived.OwnWalk
import Derived.Laws.BytesArg
import Derived.Laws.MakeOwn
import Derived.Laws.OwnMore
import Derived.Deep.OwnRows
import Derived.Tactics
import Derived.Lib.ConvBytes
import Derived.Laws.Slices
import Derived.WalkKit
import Derived.KernelRfl
import Derived.RowKit3
import Derived.Deep.LoopGhost
import Derived.Deep.QuietTactic
import Derived.BigQuiet
import Derived.WideLaws
import Derived.Deep.DeepCutAuto
import Derived.Deep.CutBlock
import Derived.Deep.RegionHeld3
import Derived.Laws.Rows
import Derived.Lib.AppendStr
import Derived.ArgAppend
import Derived.Laws.IdiomCopy
import Derived.OrdersHeld
import Derived.Laws.BitsLemmas
import Derived.RowKit
import Derived.Test.YtoddldamekamoaaDoorWWords
import Derived.Test.YtoddldamekamoaaDoorWLast
import Derived.Test.YtoddldamekamoaaDoorWTab
import Derived.Test.YtoddldamekamoaaDoorWFour
import Derived.Test.YtoddldamekamoaaDoorWQPut
import Derived.Test.YtoddldamekamoaaDoorWApart
import Derived.Test.YtoddldamekamoaaDoorWArr
import Derived.Test.YtoddldamekamoaaDoorWZeros
import Derived.Test.YtoddldamekamoaaDoorWFoot
import Derived.Test.YtoddldamekamoaaDoorWKept
import Derived.Test.YtoddldamekamoaaDoorWShare
import Derived.Test.YtoddldamekamoaaDoorWN
import Derived.Test.YtoddldamekamoaaDoorWFootNe
import Derived.Test.YtoddldamekamoaaDoorWAt
import Derived.Test.YtoddldamekamoaaDoorWEqStruct
import Derived.Test.YtoddldamekamoaaDoorWRepsOne
import Derived.Test.YtoddldamekamoaaDoorWInv
import Derived.Test.YtoddldamekamoaaDoorWInvWords
import Derived.Test.YtoddldamekamoaaDoorWGuard
import Derived.Test.YtoddldamekamoaaDoorWNEv
import Derived.Test.YtoddldamekamoaaDoorWMore
import Derived.Test.YtoddldamekamoaaDoorM
namespace Go.Proofs.YtoddldamekamoaaDoor.Y
open Go.RowKit Go.Proofs.YtoddldamekamoaaDoorW.PrintWords Go.Proofs.YtoddldamekamoaaDoorW.PrintLast Go.Proofs.YtoddldamekamoaaDoorW.PrintMore
attribute [local go_sem] max2_int min2_int max_two min_two max_three min_three max_four min_four   -- for this text's walks alone
set_option linter.unusedVariables false
set_option linter.unusedSimpArgs false



def errW : Option Int → Value
  | none => .nilIface
  | some c => .iface 0 (.int .i64 c)
theorem errW_none : errW none = .nilIface := rfl
theorem errW_some (c : Int) : errW (some c) = .iface 0 (.int .i64 c) := rfl

-- the values' own types

end Go.Proofs.YtoddldamekamoaaDoor.Y
