import Derived.Test.YtnghlkbmfhkmoaaGreatDoorProg
import Derived.Below
import Derived.Deep.Draws
import Derived.Deep.AppendLies
import Derived.Maps.AppendAt
import Derived.OwnWalk
import Derived.Laws.BytesArg
import Derived.Laws.MakeOwn
import Derived.Laws.OwnMore
import Derived.Deep.OwnRows
import Derived.Tactics
import Derived.Lib.ConvBytes
import Derived.Laws.Slices
import Derived.WalkKit
import Derived.KernelRfl
import Derived.RowKit3
import Derived.Deep.LoopGhost
import Derived.Deep.QuietTactic
import Derived.BigQuiet
import Derived.WideLaws
import Derived.Deep.DeepCutAuto
import Derived.Deep.CutBlock
import Derived.Deep.RegionHeld3
import Derived.Laws.Rows
import Derived.Lib.AppendStr
import Derived.ArgAppend
import Derived.Laws.IdiomCopy
import Derived.OrdersHeld
import Derived.Laws.BitsLemmas
import Derived.RowKit
import Derived.Test.YtnghlkbmfhkmoaaGreatDoorMhhfprggg
import Derived.Test.YtnghlkbmfhkmoaaGreatDoorMkhvakyml
import Derived.Test.YtnghlkbmfhkmoaaGreatDoorMlbqecauz
import Derived.Test.YtnghlkbmfhkmoaaGreatDoorMipttzuam
import Derived.Test.YtnghlkbmfhkmoaaGreatDoorMjpzjxbjw
import Derived.Test.YtnghlkbmfhkmoaaGreatDoorMlqxgayme
import Derived.Test.YtnghlkbmfhkmoaaGreatDoorMdcpduktd
import Derived.Laws.StructEq
import Derived.Test.YtnghlkbmfhkmoaaGreatDoorMvfhbwlmy
import Derived.Test.YtnghlkbmfhkmoaaGreatDoorMmyyqihvb
-- Printed words of print.sh, trimmed by this claim's session to what the claim names; what stands here was printed by that tool.
namespace Go.Proofs.YtnghlkbmfhkmoaaGreatDoor.CExm
open Go.RowKit Go.Proofs.YtnghlkbmfhkmoaaGreatDoorW.PrintWords Go.Proofs.YtnghlkbmfhkmoaaGreatDoorW.PrintLast Go.Proofs.YtnghlkbmfhkmoaaGreatDoorW.PrintMore
attribute [local go_sem] max2_int min2_int max_two min_two max_three min_three max_four min_four   -- for this text's walks alone
set_option linter.unusedVariables false
set_option linter.unusedSimpArgs false
def errW : Option Int → Value
  | none => .nilIface
  | some c => .iface 36 (.int .i64 c)
theorem errW_none : errW none = .nilIface := rfl
theorem errW_some (c : Int) : errW (some c) = .iface 36 (.int .i64 c) := rfl
theorem info5 : (Tryz.prog.info? 5).map (fun i => (i.zero, i.size, i.bytes)) = some (some (.int .u8 0), 1, 1) := by kernel_rfl
def hygref_take.f (a0 : Int) (a1 : Int) : Option (Int) := if a0 < 0 then (some (-1)) else (if a1 > (wrap64 (a0 - 20)) then (some (-1)) else (some (wrap64 ((wrap64 (a0 - a1)) - 20))))
set_option maxHeartbeats 8000000 in
set_option maxRecDepth 100000 in
theorem hygref_take.calls (a0 : Int) (a1 : Int) (r : Int) (w : World) (h : hygref_take.f a0 a1 = some r) :
    Calls Tryz.prog 38 #[.int .i64 a0, .int .i64 a1] w fun e w' => e = .returned (.int .i64 r) ∧ Drawn0 w w' := by
  have H : (if a0 < 0 then (some (-1)) else (if a1 > (wrap64 (a0 - 20)) then (some (-1)) else (some (wrap64 ((wrap64 (a0 - a1)) - 20))))) = some r := h
  clear h
  by_cases c3 : a0 < 0
  · rw [if_pos c3] at H
    have c3b0 : decide (a0 < 0) = true := decide_eq_true c3
    clear c3
    obtain rfl := Option.some.inj H
    go_enter Tryz.func38, Tryz.ntmps38
    go_wp2
    go_ret
    exact ⟨by first | rfl | (simp; done) | (simp [*]; done), by repeat (first | exact Drawn0.refl _ | apply Drawn0.step)⟩
  · rw [if_neg c3] at H
    have c3b0 : decide (a0 < 0) = false := decide_eq_false c3
    clear c3
    by_cases c4 : a1 > (wrap64 (a0 - 20))
    · rw [if_pos c4] at H
      have c4b0 : decide ((wrap64 (a0 - 20)) < a1) = true := decide_eq_true c4
      clear c4
      obtain rfl := Option.some.inj H
      go_enter Tryz.func38, Tryz.ntmps38
      go_wp2
      go_ret
      exact ⟨by first | rfl | (simp; done) | (simp [*]; done), by repeat (first | exact Drawn0.refl _ | apply Drawn0.step)⟩
    · rw [if_neg c4] at H
      have c4b0 : decide ((wrap64 (a0 - 20)) < a1) = false := decide_eq_false c4
      clear c4
      obtain rfl := Option.some.inj H
      go_enter Tryz.func38, Tryz.ntmps38
      go_wp2
      go_ret
      exact ⟨by first | rfl | (simp; done) | (simp [*]; done), by repeat (first | exact Drawn0.refl _ | apply Drawn0.step)⟩
end Go.Proofs.YtnghlkbmfhkmoaaGreatDoor.CExm
