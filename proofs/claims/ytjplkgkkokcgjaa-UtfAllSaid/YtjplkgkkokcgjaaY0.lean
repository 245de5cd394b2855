/- The machine's side of the laws of this seat: for each Go function a Lean function of lists and numbers, and that the call answers what it answers. No condition but those in the theorems. -/
import Derived.Test.YtjplkgkkokcgjaaProg
import Derived.Below
import Derived.Deep.Draws
import Derived.Deep.AppendLies
import Derived.Maps.AppendAt
import Derived.OwnWalk
import Derived.Laws.BytesArg
import Derived.Laws.MakeOwn
import Derived.Laws.OwnMore
import Derived.Deep.OwnRows
import Derived.Tactics
import Derived.Lib.ConvBytes
import Derived.Laws.Slices
import Derived.WalkKit
import Derived.KernelRfl
import Derived.RowKit3
import Derived.Deep.LoopGhost
import Derived.Deep.QuietTactic
import Derived.BigQuiet
import Derived.WideLaws
import Derived.Deep.DeepCutAuto
import Derived.Deep.CutBlock
import Derived.Deep.RegionHeld3
import Derived.Laws.Rows
import Derived.Lib.AppendStr
import Derived.ArgAppend
import Derived.Laws.IdiomCopy
import Derived.OrdersHeld
import Derived.Laws.BitsLemmas
import Derived.RowKit
import Derived.Test.YtjplkgkkokcgjaaWWords
import Derived.Test.YtjplkgkkokcgjaaWLast
import Derived.Test.YtjplkgkkokcgjaaWTab
import Derived.Test.YtjplkgkkokcgjaaWFour
import Derived.Test.YtjplkgkkokcgjaaWQPut
import Derived.Test.YtjplkgkkokcgjaaWApart
import Derived.Test.YtjplkgkkokcgjaaWArr
import Derived.Test.YtjplkgkkokcgjaaWZeros
import Derived.Test.YtjplkgkkokcgjaaWFoot
import Derived.Test.YtjplkgkkokcgjaaWKept
import Derived.Test.YtjplkgkkokcgjaaWShare
import Derived.Test.YtjplkgkkokcgjaaWN
import Derived.Test.YtjplkgkkokcgjaaWFootNe
import Derived.Test.YtjplkgkkokcgjaaWAt
import Derived.Test.YtjplkgkkokcgjaaWEqStruct
import Derived.Test.YtjplkgkkokcgjaaWRepsOne
import Derived.Test.YtjplkgkkokcgjaaWInv
import Derived.Test.YtjplkgkkokcgjaaWInvWords
import Derived.Test.YtjplkgkkokcgjaaWGuard
import Derived.Test.YtjplkgkkokcgjaaWNEv
import Derived.Test.YtjplkgkkokcgjaaWMore
import Derived.Test.YtjplkgkkokcgjaaM
namespace Go.Proofs.Ytjplkgkkokcgjaa.Y
open Go.RowKit Go.Proofs.YtjplkgkkokcgjaaW.PrintWords Go.Proofs.YtjplkgkkokcgjaaW.PrintLast Go.Proofs.YtjplkgkkokcgjaaW.PrintMore
attribute [local go_sem] max2_int min2_int max_two min_two max_three min_three max_four min_four   -- for this text's walks alone
set_option linter.unusedVariables false
set_option linter.unusedSimpArgs false



def errW : Option Int → Value
  | none => .nilIface
  | some c => .iface 0 (.int .i64 c)
theorem errW_none : errW none = .nilIface := rfl
theorem errW_some (c : Int) : errW (some c) = .iface 0 (.int .i64 c) := rfl

theorem info5 : (Try.prog.info? 5).map (fun i => (i.zero, i.size, i.bytes)) = some (some (.int .u8 0), 1, 1) := by kernel_rfl
-- the values' own types

end Go.Proofs.Ytjplkgkkokcgjaa.Y
