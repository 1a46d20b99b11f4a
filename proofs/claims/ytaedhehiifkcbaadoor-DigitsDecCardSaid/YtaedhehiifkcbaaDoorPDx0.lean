-- Printed by a session's own turn of the kit's print (wip/xprint): Lean checks it.
import Derived.Test.YtaedhehiifkcbaaDoorProg
import Derived.Below
import Derived.Deep.Draws
import Derived.Deep.AppendLies
import Derived.Maps.AppendAt
import Derived.OwnWalk
import Derived.Laws.BytesArg
import Derived.Laws.MakeOwn
import Derived.Laws.OwnMore
import Derived.Deep.OwnRows
import Derived.Tactics
import Derived.Lib.ConvBytes
import Derived.Laws.Slices
import Derived.WalkKit
import Derived.KernelRfl
import Derived.RowKit3
import Derived.Deep.LoopGhost
import Derived.Deep.QuietTactic
import Derived.BigQuiet
import Derived.WideLaws
import Derived.Deep.DeepCutAuto
import Derived.Deep.CutBlock
import Derived.Deep.RegionHeld3
import Derived.Laws.Rows
import Derived.Lib.AppendStr
import Derived.ArgAppend
import Derived.Laws.IdiomCopy
import Derived.OrdersHeld
import Derived.Laws.BitsLemmas
import Derived.RowKit
import Derived.Test.YtaedhehiifkcbaaDoorGood
import Derived.Test.YtaedhehiifkcbaaDoorWWords
import Derived.Test.YtaedhehiifkcbaaDoorWLast
import Derived.Test.YtaedhehiifkcbaaDoorWTab
import Derived.Test.YtaedhehiifkcbaaDoorWFour
import Derived.Test.YtaedhehiifkcbaaDoorWQPut
import Derived.Test.YtaedhehiifkcbaaDoorWApart
import Derived.Test.YtaedhehiifkcbaaDoorWArr
import Derived.Test.YtaedhehiifkcbaaDoorWZeros
import Derived.Test.YtaedhehiifkcbaaDoorWFoot
import Derived.Test.YtaedhehiifkcbaaDoorWKept
import Derived.Test.YtaedhehiifkcbaaDoorWShare
import Derived.Test.YtaedhehiifkcbaaDoorWN
import Derived.Test.YtaedhehiifkcbaaDoorWFootNe
import Derived.Test.YtaedhehiifkcbaaDoorWAt
import Derived.Test.YtaedhehiifkcbaaDoorWEqStruct
import Derived.Test.YtaedhehiifkcbaaDoorWRepsOne
import Derived.Test.YtaedhehiifkcbaaDoorWInv
import Derived.Test.YtaedhehiifkcbaaDoorWInvWords
import Derived.Test.YtaedhehiifkcbaaDoorWGuard
import Derived.Test.YtaedhehiifkcbaaDoorWNEv
import Derived.Test.YtaedhehiifkcbaaDoorWMore
namespace Go.Proofs.YtaedhehiifkcbaaDoor.PD
open Go.RowKit Go.Proofs.YtaedhehiifkcbaaDoorW.PrintWords Go.Proofs.YtaedhehiifkcbaaDoorW.PrintLast Go.Proofs.YtaedhehiifkcbaaDoorW.PrintMore
attribute [local go_sem] max2_int min2_int max_two min_two max_three min_three max_four min_four   -- for this text's walks alone
set_option linter.unusedVariables false
set_option linter.unusedSimpArgs false



def errW : Option Int → Value
  | none => .nilIface
  | some c => .iface 0 (.int .i64 c)
theorem errW_none : errW none = .nilIface := rfl
theorem errW_some (c : Int) : errW (some c) = .iface 0 (.int .i64 c) := rfl

theorem info5 : (Tryd.prog.info? 5).map (fun i => (i.zero, i.size, i.bytes)) = some (some (.int .u8 0), 1, 1) := by kernel_rfl
theorem info9 : (Tryd.prog.info? 9).map (fun i => (i.zero, i.size, i.bytes)) = some (some (.string ⟨#[]⟩), 1, 16) := by kernel_rfl
-- the values' own types

end Go.Proofs.YtaedhehiifkcbaaDoor.PD
