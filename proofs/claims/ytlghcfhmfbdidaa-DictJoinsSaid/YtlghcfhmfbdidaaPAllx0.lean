-- written by a program of this session (wip/px): the walk of printed functions
import Derived.Test.YtlghcfhmfbdidaaProg
import Derived.Below
import Derived.Deep.Draws
import Derived.Deep.AppendLies
import Derived.Maps.AppendAt
import Derived.OwnWalk
import Derived.Laws.BytesArg
import Derived.Laws.MakeOwn
import Derived.Laws.OwnMore
import Derived.Deep.OwnRows
import Derived.Tactics
import Derived.Lib.ConvBytes
import Derived.Laws.Slices
import Derived.WalkKit
import Derived.KernelRfl
import Derived.RowKit3
import Derived.Deep.LoopGhost
import Derived.Deep.QuietTactic
import Derived.BigQuiet
import Derived.WideLaws
import Derived.Deep.DeepCutAuto
import Derived.Deep.CutBlock
import Derived.Deep.RegionHeld3
import Derived.Laws.Rows
import Derived.Lib.AppendStr
import Derived.ArgAppend
import Derived.Laws.IdiomCopy
import Derived.OrdersHeld
import Derived.Laws.BitsLemmas
import Derived.RowKit
import Derived.Test.YtlghcfhmfbdidaaLeq
import Derived.Test.YtlghcfhmfbdidaaWWords
import Derived.Test.YtlghcfhmfbdidaaWLast
import Derived.Test.YtlghcfhmfbdidaaWTab
import Derived.Test.YtlghcfhmfbdidaaWFour
import Derived.Test.YtlghcfhmfbdidaaWQPut
import Derived.Test.YtlghcfhmfbdidaaWApart
import Derived.Test.YtlghcfhmfbdidaaWArr
import Derived.Test.YtlghcfhmfbdidaaWZeros
import Derived.Test.YtlghcfhmfbdidaaWFoot
import Derived.Test.YtlghcfhmfbdidaaWKept
import Derived.Test.YtlghcfhmfbdidaaWShare
import Derived.Test.YtlghcfhmfbdidaaWN
import Derived.Test.YtlghcfhmfbdidaaWFootNe
import Derived.Test.YtlghcfhmfbdidaaWAt
import Derived.Test.YtlghcfhmfbdidaaWEqStruct
import Derived.Test.YtlghcfhmfbdidaaWRepsOne
import Derived.Test.YtlghcfhmfbdidaaWInv
import Derived.Test.YtlghcfhmfbdidaaWInvWords
import Derived.Test.YtlghcfhmfbdidaaWGuard
import Derived.Test.YtlghcfhmfbdidaaWNEv
import Derived.Test.YtlghcfhmfbdidaaWMore
namespace Go.Proofs.Ytlghcfhmfbdidaa.PAll
open Go.RowKit Go.Proofs.YtlghcfhmfbdidaaW.PrintWords Go.Proofs.YtlghcfhmfbdidaaW.PrintLast Go.Proofs.YtlghcfhmfbdidaaW.PrintMore
attribute [local go_sem] max2_int min2_int max_two min_two max_three min_three max_four min_four   -- for this text's walks alone
set_option linter.unusedVariables false
set_option linter.unusedSimpArgs false



def errW : Option Int → Value
  | none => .nilIface
  | some c => .iface 0 (.int .i64 c)
theorem errW_none : errW none = .nilIface := rfl
theorem errW_some (c : Int) : errW (some c) = .iface 0 (.int .i64 c) := rfl

theorem info9 : (Try.prog.info? 9).map (fun i => (i.zero, i.size, i.bytes)) = some (some (.string ⟨#[]⟩), 1, 16) := by kernel_rfl
-- the values' own types

end Go.Proofs.Ytlghcfhmfbdidaa.PAll
