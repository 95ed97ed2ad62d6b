import Derived.Test.YtfkpebdjobhfgaaVarFirst
import Derived.Test.YtfkpebdjobhfgaaVarR
namespace Go.Proofs.Ytfkpebdjobhfgaa
open Go.RowKit Go.Proofs.YtfkpebdjobhfgaaW.PrintWords Go.Proofs.YtfkpebdjobhfgaaW.PrintLast Go.Proofs.YtfkpebdjobhfgaaW.PrintMore Hy

theorem varintPuts_walk (n m k : Int) (w : World) (hn0 : 0 ≤ n) (hn1 : n < 18446744073709551616) (hm0 : -9223372036854775808 ≤ m) (hm1 : m < 9223372036854775808) (hk0 : -2147483648 ≤ k) (hk1 : k < 2147483648) :
    Calls Try.prog 3 #[.int .u64 n, .int .i64 m, .int .i32 k] w fun e w' => e = .returned (.bool true) ∧ Below w.heap.size w w' := by
  have HB := Aside0.mk (Below.refl w.heap.size w)
  have A1 := fun w => put_any n w hn0 hn1
  have A2 := fun w => rput_any n w hn0 hn1
  have A3 := fun w => size_any n w hn0 hn1
  have A4 := fun w => zig_any m w hm0 hm1
  have A5 := fun w => rzig_any m w hm0 hm1
  have A6 := fun w => zag_any n w hn0 hn1
  have A7 := fun w => rzag_any n w hn0 hn1
  have A8 := fun w => zig32_any k w hk0 hk1
  have A9 := fun w => rzig32_any k w hk0 hk1
  have A10 := fun w => zag32_any n w hn0 hn1
  have A11 := fun w => rzag32_any n w hn0 hn1
  clear hn0 hn1 hm0 hm1 hk0 hk1
  go_enter Try.func3, Try.ntmps3
  go_wp2_with (first
    | (go_at_call 7; refine (var_first _).mono ?_; rintro e wb ⟨rfl, hb⟩; have HBn := Aside0.mk (below_next (by repeat (first | (with_reducible exact HB.out) | (with_reducible exact Below.refl _ _) | apply below_alloc | apply pw_below_drewN | apply below_drew1)) hb); clear HB hb; have HB := HBn; clear HBn)
    | (go_at_call 8; refine (A1 _).mono ?_; rintro e wb ⟨rfl, hb⟩; have HBn := Aside0.mk (below_next (by repeat (first | (with_reducible exact HB.out) | (with_reducible exact Below.refl _ _) | apply below_alloc | apply pw_below_drewN | apply below_drew1)) hb); clear HB hb; have HB := HBn; clear HBn)
    | (go_at_call 9; refine (A2 _).mono ?_; rintro e wb ⟨rfl, hb⟩; have HBn := Aside0.mk (below_next (by repeat (first | (with_reducible exact HB.out) | (with_reducible exact Below.refl _ _) | apply below_alloc | apply pw_below_drewN | apply below_drew1)) hb); clear HB hb; have HB := HBn; clear HBn)
    | (go_at_call 10; refine (A3 _).mono ?_; rintro e wd ⟨rfl, ⟨nd, rfl⟩⟩)
    | (go_at_call 11; refine (A4 _).mono ?_; rintro e wd ⟨rfl, ⟨nd, rfl⟩⟩)
    | (go_at_call 12; refine (A5 _).mono ?_; rintro e wd ⟨rfl, ⟨nd, rfl⟩⟩)
    | (go_at_call 13; refine (A6 _).mono ?_; rintro e wd ⟨rfl, ⟨nd, rfl⟩⟩)
    | (go_at_call 14; refine (A7 _).mono ?_; rintro e wd ⟨rfl, ⟨nd, rfl⟩⟩)
    | (go_at_call 15; refine (A8 _).mono ?_; rintro e wd ⟨rfl, ⟨nd, rfl⟩⟩)
    | (go_at_call 16; refine (A9 _).mono ?_; rintro e wd ⟨rfl, ⟨nd, rfl⟩⟩)
    | (go_at_call 17; refine (A10 _).mono ?_; rintro e wd ⟨rfl, ⟨nd, rfl⟩⟩)
    | (go_at_call 18; refine (A11 _).mono ?_; rintro e wd ⟨rfl, ⟨nd, rfl⟩⟩))
  go_ret
  exact ⟨rfl, (by repeat (first | (with_reducible exact HB.out) | (with_reducible exact Below.refl _ _) | apply below_alloc | apply pw_below_drewN | apply below_drew1))⟩
end Go.Proofs.Ytfkpebdjobhfgaa
