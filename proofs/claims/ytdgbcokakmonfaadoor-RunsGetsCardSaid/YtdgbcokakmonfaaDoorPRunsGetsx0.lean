-- PRINTED BY print.sh 35421559b90ae4d0a3588c463048766b98c2df88dd9212a6774a882060cdf62d: not written by this session
import Derived.Test.YtdgbcokakmonfaaDoorProg
import Derived.Below
import Derived.Deep.Draws
import Derived.Deep.AppendLies
import Derived.Maps.AppendAt
import Derived.OwnWalk
import Derived.Laws.BytesArg
import Derived.Laws.MakeOwn
import Derived.Laws.OwnMore
import Derived.Deep.OwnRows
import Derived.Tactics
import Derived.Lib.ConvBytes
import Derived.Laws.Slices
import Derived.WalkKit
import Derived.KernelRfl
import Derived.RowKit3
import Derived.Deep.LoopGhost
import Derived.Deep.QuietTactic
import Derived.BigQuiet
import Derived.WideLaws
import Derived.Deep.DeepCutAuto
import Derived.Deep.CutBlock
import Derived.Deep.RegionHeld3
import Derived.Laws.Rows
import Derived.Lib.AppendStr
import Derived.ArgAppend
import Derived.Laws.IdiomCopy
import Derived.OrdersHeld
import Derived.Laws.BitsLemmas
import Derived.RowKit
import Derived.Test.YtdgbcokakmonfaaDoorWWords
import Derived.Test.YtdgbcokakmonfaaDoorWLast
import Derived.Test.YtdgbcokakmonfaaDoorWTab
import Derived.Test.YtdgbcokakmonfaaDoorWFour
import Derived.Test.YtdgbcokakmonfaaDoorWQPut
import Derived.Test.YtdgbcokakmonfaaDoorWApart
import Derived.Test.YtdgbcokakmonfaaDoorWArr
import Derived.Test.YtdgbcokakmonfaaDoorWZeros
import Derived.Test.YtdgbcokakmonfaaDoorWFoot
import Derived.Test.YtdgbcokakmonfaaDoorWKept
import Derived.Test.YtdgbcokakmonfaaDoorWShare
import Derived.Test.YtdgbcokakmonfaaDoorWN
import Derived.Test.YtdgbcokakmonfaaDoorWFootNe
import Derived.Test.YtdgbcokakmonfaaDoorWAt
import Derived.Test.YtdgbcokakmonfaaDoorWEqStruct
import Derived.Test.YtdgbcokakmonfaaDoorWRepsOne
import Derived.Test.YtdgbcokakmonfaaDoorWInv
import Derived.Test.YtdgbcokakmonfaaDoorWInvWords
import Derived.Test.YtdgbcokakmonfaaDoorWGuard
import Derived.Test.YtdgbcokakmonfaaDoorWNEv
import Derived.Test.YtdgbcokakmonfaaDoorWMore
namespace Go.Proofs.YtdgbcokakmonfaaDoor.PRunsGets
open Go.RowKit Go.Proofs.YtdgbcokakmonfaaDoorW.PrintWords Go.Proofs.YtdgbcokakmonfaaDoorW.PrintLast Go.Proofs.YtdgbcokakmonfaaDoorW.PrintMore
attribute [local go_sem] max2_int min2_int max_two min_two max_three min_three max_four min_four   -- for this text's walks alone
set_option linter.unusedVariables false
set_option linter.unusedSimpArgs false



def errW : Option Int → Value
  | none => .nilIface
  | some c => .iface 29 (.int .i64 c)
theorem errW_none : errW none = .nilIface := rfl
theorem errW_some (c : Int) : errW (some c) = .iface 29 (.int .i64 c) := rfl

theorem info5 : (Tryd.prog.info? 5).map (fun i => (i.zero, i.size, i.bytes)) = some (some (.int .u8 0), 1, 1) := by kernel_rfl
theorem info40 : (Tryd.prog.info? 40).map (fun i => (i.zero, i.size, i.bytes)) = some (some (.int .u64 0), 1, 8) := by kernel_rfl
-- the values' own types

end Go.Proofs.YtdgbcokakmonfaaDoor.PRunsGets
