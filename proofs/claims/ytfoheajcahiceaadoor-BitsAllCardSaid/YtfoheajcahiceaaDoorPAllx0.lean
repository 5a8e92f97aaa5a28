-- written by a program of this session (wip/px): the walk of printed functions
import Derived.Test.YtfoheajcahiceaaDoorProg
import Derived.Below
import Derived.Deep.Draws
import Derived.Deep.AppendLies
import Derived.Maps.AppendAt
import Derived.OwnWalk
import Derived.Laws.BytesArg
import Derived.Laws.MakeOwn
import Derived.Laws.OwnMore
import Derived.Deep.OwnRows
import Derived.Tactics
import Derived.Lib.ConvBytes
import Derived.Laws.Slices
import Derived.WalkKit
import Derived.KernelRfl
import Derived.RowKit3
import Derived.Deep.LoopGhost
import Derived.Deep.QuietTactic
import Derived.BigQuiet
import Derived.WideLaws
import Derived.Deep.DeepCutAuto
import Derived.Deep.CutBlock
import Derived.Deep.RegionHeld3
import Derived.Laws.Rows
import Derived.Lib.AppendStr
import Derived.ArgAppend
import Derived.Laws.IdiomCopy
import Derived.OrdersHeld
import Derived.Laws.BitsLemmas
import Derived.RowKit
import Derived.Test.YtfoheajcahiceaaDoorWWords
import Derived.Test.YtfoheajcahiceaaDoorWLast
import Derived.Test.YtfoheajcahiceaaDoorWTab
import Derived.Test.YtfoheajcahiceaaDoorWFour
import Derived.Test.YtfoheajcahiceaaDoorWQPut
import Derived.Test.YtfoheajcahiceaaDoorWApart
import Derived.Test.YtfoheajcahiceaaDoorWArr
import Derived.Test.YtfoheajcahiceaaDoorWZeros
import Derived.Test.YtfoheajcahiceaaDoorWFoot
import Derived.Test.YtfoheajcahiceaaDoorWKept
import Derived.Test.YtfoheajcahiceaaDoorWShare
import Derived.Test.YtfoheajcahiceaaDoorWN
import Derived.Test.YtfoheajcahiceaaDoorWFootNe
import Derived.Test.YtfoheajcahiceaaDoorWAt
import Derived.Test.YtfoheajcahiceaaDoorWEqStruct
import Derived.Test.YtfoheajcahiceaaDoorWRepsOne
import Derived.Test.YtfoheajcahiceaaDoorWInv
import Derived.Test.YtfoheajcahiceaaDoorWInvWords
import Derived.Test.YtfoheajcahiceaaDoorWGuard
import Derived.Test.YtfoheajcahiceaaDoorWNEv
import Derived.Test.YtfoheajcahiceaaDoorWMore
namespace Go.Proofs.YtfoheajcahiceaaDoor.PAll
open Go.RowKit Go.Proofs.YtfoheajcahiceaaDoorW.PrintWords Go.Proofs.YtfoheajcahiceaaDoorW.PrintLast Go.Proofs.YtfoheajcahiceaaDoorW.PrintMore
attribute [local go_sem] max2_int min2_int max_two min_two max_three min_three max_four min_four   -- for this text's walks alone
set_option linter.unusedVariables false
set_option linter.unusedSimpArgs false



def errW : Option Int → Value
  | none => .nilIface
  | some c => .iface 0 (.int .i64 c)
theorem errW_none : errW none = .nilIface := rfl
theorem errW_some (c : Int) : errW (some c) = .iface 0 (.int .i64 c) := rfl

theorem info3 : (Tryd.prog.info? 3).map (fun i => (i.zero, i.size, i.bytes)) = some (some (.int .i64 0), 1, 8) := by kernel_rfl
theorem info4 : (Tryd.prog.info? 4).map (fun i => (i.zero, i.size, i.bytes)) = some (some (.bool false), 1, 1) := by kernel_rfl
theorem info57 : (Tryd.prog.info? 57).map (fun i => (i.zero, i.size, i.bytes)) = some (some (.int .u64 0), 1, 8) := by kernel_rfl
-- the values' own types

end Go.Proofs.YtfoheajcahiceaaDoor.PAll
