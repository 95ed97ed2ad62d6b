import Derived.Test.YtfkpebdjobhfgaaDodPut
import Derived.Test.YtfkpebdjobhfgaaNums
namespace Go.Proofs.Ytfkpebdjobhfgaa
open Go.RowKit Go.Proofs.YtfkpebdjobhfgaaW.PrintWords Go.Proofs.YtfkpebdjobhfgaaW.PrintLast Go.Proofs.YtfkpebdjobhfgaaW.PrintMore Hy

theorem offsFirst : offs [] [10, 20, 30] = [10, 20, 0] := by decide +kernel
theorem unoffsFirst : unoffs [] [10, 20, 0] = [10, 20, 30] := by decide +kernel
theorem putsFirst : putsL [10, 20, 0] = [10, 20, 0] := by
  rw [putsL_cons, putsL_cons, putsL_cons, putsL_nil, putL_lo _ (by decide), putL_lo _ (by decide), putL_lo _ (by decide)]
  rfl
theorem u64sFirst : u64s [10, 20, 0] := by intro x hx; simp at hx; omega
theorem u64sFirst2 : u64s [10, 20, 30] := by intro x hx; simp at hx; omega
theorem dodPut_first (W : World) : Calls Try.prog 21 #[.slice (some ⟨W.heap.size, 0, none⟩) 3 3] (W.alloc (.cells #[.int .u64 10, .int .u64 20, .int .u64 30] 22)) fun e w' => e = .returned (.tuple #[.string ⟨#[10, 20, 0]⟩, .nilIface]) ∧ Below (W.alloc (.cells #[.int .u64 10, .int .u64 20, .int .u64 30] 22)).heap.size (W.alloc (.cells #[.int .u64 10, .int .u64 20, .int .u64 30] 22)) w' := by
  have h := dodPut_ok (some ⟨W.heap.size, 0, none⟩) 3 [10, 20, 30] (W.alloc (.cells (nums .u64 [10, 20, 30]).toArray 22)) (C_lit W .u64 [10, 20, 30] _ (by decide)) (by decide) (by decide) u64sFirst2
  rw [offsFirst, putsFirst] at h
  exact h
theorem dodGet_first (w : World) : Calls Try.prog 22 #[.string ⟨#[10, 20, 0]⟩, .int .i64 3] w fun e w' => ∃ A c, e = .returned (.tuple #[.slice A 3 c, .nilIface]) ∧ Kd.C (Kd.int .u64) w' A 3 [10, 20, 30] ∧ 3 ≤ c ∧ Below w.heap.size w w' := by
  have h := dodGet_ok ⟨#[10, 20, 0]⟩ 3 [10, 20, 0] w (by decide) (by decide) (by decide) (by
    have := getN_puts [10, 20, 0] [] u64sFirst
    rw [List.append_nil, putsFirst] at this
    exact this)
  rw [unoffsFirst] at h
  exact h
theorem nums_first (A : Option Addr) (c : Nat) (W : World) (h : Kd.C (Kd.int .u64) W A 3 [10, 20, 30]) (hc : 3 ≤ c) :
    Calls Try.prog 23 #[.slice A 3 c, .slice (some ⟨W.heap.size, 0, none⟩) 3 3] (W.alloc (.cells #[.int .u64 10, .int .u64 20, .int .u64 30] 22)) fun e w' => e = .returned (.bool true) ∧ Drawn0 (W.alloc (.cells #[.int .u64 10, .int .u64 20, .int .u64 30] 22)) w' := by
  have h := nums_any A c [10, 20, 30] (some ⟨W.heap.size, 0, none⟩) 3 [10, 20, 30] (W.alloc (.cells (nums .u64 [10, 20, 30]).toArray 22)) (Kd.C_alloc h _) hc (C_lit W .u64 [10, 20, 30] _ (by decide)) (by decide) (by decide)
  exact h
set_option maxHeartbeats 1000000 in
theorem dod_first (w : World) : Calls Try.prog 20 #[] w fun e w' => e = .returned (.bool true) ∧ Below w.heap.size w w' := by
  have HB := Aside0.mk (Below.refl w.heap.size w)
  go_enter Try.func20, Try.ntmps20
  go_wp2_with (first
    | (go_at_call 21; refine (dodPut_first _).mono ?_; rintro e wb ⟨rfl, hb⟩; have HBn : Aside0 (Below w.heap.size w wb) := ⟨below_next (by repeat (first | (with_reducible exact HB.out) | apply below_alloc | apply pw_below_drewN | apply below_drew1)) hb⟩; clear HB hb; have HB := HBn; clear HBn)
    | (go_at_call 22; refine (dodGet_first _).mono ?_; rintro e wb ⟨A, c, rfl, hC, hc, hb⟩; have HBn : Aside0 (Below w.heap.size w wb) := ⟨below_next HB.out hb⟩; clear HB hb; have HB := HBn; clear HBn; have HC := Aside0.mk hC; clear hC)
    | (go_at_call 23; refine (nums_first _ _ _ HC.out hc).mono ?_; rintro e wd ⟨rfl, ⟨nd, rfl⟩⟩))
  go_ret
  exact ⟨rfl, (by repeat (first | (with_reducible exact HB.out) | apply below_alloc | apply pw_below_drewN | apply below_drew1))⟩
end Go.Proofs.Ytfkpebdjobhfgaa
