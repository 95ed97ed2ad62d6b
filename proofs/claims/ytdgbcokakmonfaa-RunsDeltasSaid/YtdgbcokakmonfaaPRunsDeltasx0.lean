-- PRINTED BY print.sh 35421559b90ae4d0a3588c463048766b98c2df88dd9212a6774a882060cdf62d: not written by this session
import Derived.Test.YtdgbcokakmonfaaProg
import Derived.Below
import Derived.Deep.Draws
import Derived.Deep.AppendLies
import Derived.Maps.AppendAt
import Derived.OwnWalk
import Derived.Laws.BytesArg
import Derived.Laws.MakeOwn
import Derived.Laws.OwnMore
import Derived.Deep.OwnRows
import Derived.Tactics
import Derived.Lib.ConvBytes
import Derived.Laws.Slices
import Derived.WalkKit
import Derived.KernelRfl
import Derived.RowKit3
import Derived.Deep.LoopGhost
import Derived.Deep.QuietTactic
import Derived.BigQuiet
import Derived.WideLaws
import Derived.Deep.DeepCutAuto
import Derived.Deep.CutBlock
import Derived.Deep.RegionHeld3
import Derived.Laws.Rows
import Derived.Lib.AppendStr
import Derived.ArgAppend
import Derived.Laws.IdiomCopy
import Derived.OrdersHeld
import Derived.Laws.BitsLemmas
import Derived.RowKit
import Derived.Test.YtdgbcokakmonfaaWWords
import Derived.Test.YtdgbcokakmonfaaWLast
import Derived.Test.YtdgbcokakmonfaaWTab
import Derived.Test.YtdgbcokakmonfaaWFour
import Derived.Test.YtdgbcokakmonfaaWQPut
import Derived.Test.YtdgbcokakmonfaaWApart
import Derived.Test.YtdgbcokakmonfaaWArr
import Derived.Test.YtdgbcokakmonfaaWZeros
import Derived.Test.YtdgbcokakmonfaaWFoot
import Derived.Test.YtdgbcokakmonfaaWKept
import Derived.Test.YtdgbcokakmonfaaWShare
import Derived.Test.YtdgbcokakmonfaaWN
import Derived.Test.YtdgbcokakmonfaaWFootNe
import Derived.Test.YtdgbcokakmonfaaWAt
import Derived.Test.YtdgbcokakmonfaaWEqStruct
import Derived.Test.YtdgbcokakmonfaaWRepsOne
import Derived.Test.YtdgbcokakmonfaaWInv
import Derived.Test.YtdgbcokakmonfaaWInvWords
import Derived.Test.YtdgbcokakmonfaaWGuard
import Derived.Test.YtdgbcokakmonfaaWNEv
import Derived.Test.YtdgbcokakmonfaaWMore
namespace Go.Proofs.Ytdgbcokakmonfaa.PRunsDeltas
open Go.RowKit Go.Proofs.YtdgbcokakmonfaaW.PrintWords Go.Proofs.YtdgbcokakmonfaaW.PrintLast Go.Proofs.YtdgbcokakmonfaaW.PrintMore
attribute [local go_sem] max2_int min2_int max_two min_two max_three min_three max_four min_four   -- for this text's walks alone
set_option linter.unusedVariables false
set_option linter.unusedSimpArgs false



def errW : Option Int → Value
  | none => .nilIface
  | some c => .iface 37 (.int .i64 c)
theorem errW_none : errW none = .nilIface := rfl
theorem errW_some (c : Int) : errW (some c) = .iface 37 (.int .i64 c) := rfl

theorem info5 : (Try.prog.info? 5).map (fun i => (i.zero, i.size, i.bytes)) = some (some (.int .u8 0), 1, 1) := by kernel_rfl
theorem info36 : (Try.prog.info? 36).map (fun i => (i.zero, i.size, i.bytes)) = some (some (.int .u64 0), 1, 8) := by kernel_rfl
-- the values' own types

end Go.Proofs.Ytdgbcokakmonfaa.PRunsDeltas
