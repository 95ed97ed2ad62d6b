import Derived.Test.YtdgbcokakmonfaaRunsPut
namespace Go.Proofs.Ytdgbcokakmonfaa
open Go.RowKit Go.Proofs.YtdgbcokakmonfaaW.PrintWords Go.Proofs.YtdgbcokakmonfaaW.PrintLast Go.Proofs.YtdgbcokakmonfaaW.PrintMore Hy

theorem grpFirst : grp [7, 7, 7] = [7, 2] := by decide +kernel
theorem putsFirst : putsL [7, 2] = [7, 2] := by
  rw [putsL_cons, putsL_cons, putsL_nil, putL_lo _ (by decide), putL_lo _ (by decide)]
  rfl
theorem u64sFirst : u64s [7, 7, 7] := by intro x hx; simp at hx; omega
theorem runsPut_first (W : World) : Calls Try.prog 7 #[.slice (some ⟨W.heap.size, 0, none⟩) 3 3] (W.alloc (.cells #[.int .u64 7, .int .u64 7, .int .u64 7] 36)) fun e w' => e = .returned (.tuple #[.string ⟨#[7, 2]⟩, .nilIface]) ∧ Below (W.alloc (.cells #[.int .u64 7, .int .u64 7, .int .u64 7] 36)).heap.size (W.alloc (.cells #[.int .u64 7, .int .u64 7, .int .u64 7] 36)) w' := by
  have h := runsPut_ok (some ⟨W.heap.size, 0, none⟩) 3 [7, 7, 7] (W.alloc (.cells (nums .u64 [7, 7, 7]).toArray 36)) (C_lit W .u64 [7, 7, 7] _ (by decide)) (by decide) (by decide) u64sFirst
  rw [grpFirst, putsFirst] at h
  exact h
theorem runsGet_first (w : World) : Calls Try.prog 8 #[.string ⟨#[7, 2]⟩, .int .i64 3] w fun e w' => ∃ A c, e = .returned (.tuple #[.slice A 3 c, .nilIface]) ∧ Kd.C (Kd.int .u64) w' A 3 [7, 7, 7] ∧ 3 ≤ c ∧ Below w.heap.size w w' :=
  runsGet_ok ⟨#[7, 2]⟩ 3 [7, 7, 7] w (by decide) (by decide) ⟨by rw [grpFirst, putsFirst]; rfl, u64sFirst⟩ rfl
theorem nums_first (A : Option Addr) (c : Nat) (W : World) (h : Kd.C (Kd.int .u64) W A 3 [7, 7, 7]) (hc : 3 ≤ c) :
    Calls Try.prog 9 #[.slice A 3 c, .slice (some ⟨W.heap.size, 0, none⟩) 3 3] (W.alloc (.cells #[.int .u64 7, .int .u64 7, .int .u64 7] 36)) fun e w' => e = .returned (.bool true) ∧ Drawn0 (W.alloc (.cells #[.int .u64 7, .int .u64 7, .int .u64 7] 36)) w' := by
  have h := nums_any A c [7, 7, 7] (some ⟨W.heap.size, 0, none⟩) 3 [7, 7, 7] (W.alloc (.cells (nums .u64 [7, 7, 7]).toArray 36)) (Kd.C_alloc h _) hc (C_lit W .u64 [7, 7, 7] _ (by decide)) (by decide) (by decide)
  exact h
set_option maxHeartbeats 1000000 in
theorem runs_first (w : World) : Calls Try.prog 6 #[] w fun e w' => e = .returned (.bool true) ∧ Below w.heap.size w w' := by
  have HB := Aside0.mk (Below.refl w.heap.size w)
  go_enter Try.func6, Try.ntmps6
  go_wp2_with (first
    | (go_at_call 7; refine (runsPut_first _).mono ?_; rintro e wb ⟨rfl, hb⟩; have HBn : Aside0 (Below w.heap.size w wb) := ⟨below_next (by repeat (first | (with_reducible exact HB.out) | apply below_alloc | apply pw_below_drewN | apply below_drew1)) hb⟩; clear HB hb; have HB := HBn; clear HBn)
    | (go_at_call 8; refine (runsGet_first _).mono ?_; rintro e wb ⟨A, c, rfl, hC, hc, hb⟩; have HBn : Aside0 (Below w.heap.size w wb) := ⟨below_next HB.out hb⟩; clear HB hb; have HB := HBn; clear HBn; have HC := Aside0.mk hC; clear hC)
    | (go_at_call 9; refine (nums_first _ _ _ HC.out hc).mono ?_; rintro e wd ⟨rfl, ⟨nd, rfl⟩⟩))
  go_ret
  exact ⟨rfl, (by repeat (first | (with_reducible exact HB.out) | apply below_alloc | apply pw_below_drewN | apply below_drew1))⟩
end Go.Proofs.Ytdgbcokakmonfaa
