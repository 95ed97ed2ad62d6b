import Derived.Test.YtfkpebdjobhfgaaGet
namespace Go.Proofs.Ytfkpebdjobhfgaa
open Go.RowKit Go.Proofs.YtfkpebdjobhfgaaW.PrintWords Go.Proofs.YtfkpebdjobhfgaaW.PrintLast Go.Proofs.YtfkpebdjobhfgaaW.PrintMore Hy

theorem put300 : put 300 = ⟨#[172, 2]⟩ := by
  unfold put
  rw [show (300 : Int).toNat = 300 from rfl, putL_hi 300 (by omega), putL_lo (300 / 128) (by omega)]
  rfl
theorem var_first (w : World) : Calls Try.prog 7 #[] w fun e w' => e = .returned (.bool true) ∧ Below w.heap.size w w' := by
  have HB := Aside0.mk (Below.refl w.heap.size w)
  go_enter Try.func7, Try.ntmps7
  go_wp2_with (first
    | (go_at_call 19; refine (get_ok _ 0 300 2 _ (by omega) (by simp) (by decide) (by rfl)).mono ?_; rintro e wb ⟨rfl, hb⟩; have HBn : Aside0 (Below w.heap.size w wb) := ⟨below_next (by repeat (first | (with_reducible exact HB.out) | apply below_alloc | apply pw_below_drewN | apply below_drew1)) hb⟩; clear HB hb; have HB := HBn; clear HBn)
    | (go_at_call 8; refine (put_any 300 _ (by omega) (by omega)).mono ?_; rintro e wb ⟨rfl, hb⟩; have HBn : Aside0 (Below w.heap.size w wb) := ⟨below_next (by repeat (first | (with_reducible exact HB.out) | apply below_alloc | apply pw_below_drewN | apply below_drew1)) hb⟩; clear HB hb; have HB := HBn; clear HBn; rw [put300])
    | (go_at_call 10; refine (size_any 300 _ (by omega) (by omega)).mono ?_; rintro e wd ⟨rfl, ⟨nd, rfl⟩⟩; rw [put300])
    | (go_at_call 11; refine (zig_any (-2) _ (by omega) (by omega)).mono ?_; rintro e wd ⟨rfl, ⟨nd, rfl⟩⟩; rw [show zig (-2) = 3 from rfl])
    | (go_at_call 13; refine (zag_any 3 _ (by omega) (by omega)).mono ?_; rintro e wd ⟨rfl, ⟨nd, rfl⟩⟩; rw [show zag 3 = -2 from rfl]))
  go_ret
  exact ⟨rfl, (by repeat (first | (with_reducible exact HB.out) | apply below_alloc | apply pw_below_drewN | apply below_drew1))⟩
end Go.Proofs.Ytfkpebdjobhfgaa
