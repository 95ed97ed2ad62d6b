import Derived.Test.YtfkpebdjobhfgaaVarFirst
import Derived.Test.YtfkpebdjobhfgaaVarR
namespace Go.Proofs.Ytfkpebdjobhfgaa
open Go.RowKit Go.Proofs.YtfkpebdjobhfgaaW.PrintWords Go.Proofs.YtfkpebdjobhfgaaW.PrintLast Go.Proofs.YtfkpebdjobhfgaaW.PrintMore Hy

theorem cellAt {w : World} {A : Option Addr} {l : List Int} {ik : IntKind} (h : Kd.C (Kd.int ik) w A l.length l) (k : Nat) (hk : k < l.length) : ∃ ad, A = some ad ∧ w.cell? (ad.add k) = some (.int ik (l[k])) := by
  obtain ⟨ad, e, hx⟩ := Kd.at_int h (k : Int) (by omega) (by omega)
  refine ⟨ad, e, ?_⟩
  simpa [rd, List.getD_eq_getElem?_getD, hk] using hx

set_option maxHeartbeats 1000000 in
theorem varintBack_walk (A : Option Addr) (c : Nat) (l : List Int) (m k : Int) (w : World) (hr : Kd.C (Kd.int .u64) w A l.length l) (hc : l.length ≤ c) (hl : l.length * 8 ≤ 140737488351232) (hx : ∀ x ∈ l, 0 ≤ x ∧ x < 18446744073709551616)
    (hm0 : -9223372036854775808 ≤ m) (hm1 : m < 9223372036854775808) (hk0 : -2147483648 ≤ k) (hk1 : k < 2147483648) :
    Calls Try.prog 4 #[.slice A l.length c, .int .i64 m, .int .i32 k] w fun e w' => e = .returned (.bool true) ∧ Below w.heap.size w w' := by
  have HB := Aside0.mk (Below.refl w.heap.size w)
  have HR := Aside0.mk hr
  have HX := Aside0.mk hx
  clear hr hc hl hx
  by_cases hlen : 200 < l.length
  · go_enter Try.func4, Try.ntmps4
    go_wp2_with (first
      | (go_at_call 7; refine (var_first _).mono ?_; rintro e wb ⟨rfl, hb⟩; have HBn : Aside0 (Below w.heap.size w wb) := ⟨below_next (by repeat (first | (with_reducible exact HB.out) | apply below_alloc | apply pw_below_drewN | apply below_drew1)) hb⟩; clear HB hb; have HB := HBn; clear HBn))
    go_ret
    exact ⟨rfl, (by repeat (first | (with_reducible exact HB.out) | apply below_alloc | apply pw_below_drewN | apply below_drew1))⟩
  · have hl2 := putsL_len l HX.out
    go_enter Try.func4, Try.ntmps4
    go_wp2_with (first
      | (go_at_call 7; refine (var_first _).mono ?_; rintro e wb ⟨rfl, hb⟩; have HBn : Aside0 (Below w.heap.size w wb) := ⟨below_next (by repeat (first | (with_reducible exact HB.out) | apply below_alloc | apply pw_below_drewN | apply below_drew1)) hb⟩; clear HB hb; have HB := HBn; clear HBn))
    go_loopw [7, 8] (fun v7 v8 w' => ∃ j : Nat, j ≤ l.length ∧ v8 = .int .i64 j ∧ v7 = .string (st (putsL (l.take j))) ∧ Aside0 (Below w.heap.size w w')) (fun _ v8 _ => l.length - (intOf v8).toNat)
    case atStart => exact ⟨0, by omega, rfl, rfl, HB⟩
    case round =>
      clear HB
      obtain ⟨j, hj, rfl, rfl, HB⟩ := hrel
      by_cases hlt : j < l.length
      · obtain ⟨ad, rfl, hcell⟩ := cellAt (Kd.C_below HR.out HB.out) j hlt
        have hxj := HX.out _ (List.getElem_mem hlt)
        have A1 := fun w => put_any l[j] w hxj.1 hxj.2
        have hsz : (st (putsL (l.take j))).size + (put l[j]).size ≤ 9223372036854775807 := by
          have h1 := putsL_take_le l j
          have h2 := putL_len10 l[j].toNat (by omega)
          rw [st_size, put_size]; omega
        clear hxj hl2
        go_wp2_with (first
          | (go_at_call 8; refine (A1 _).mono ?_; rintro e wb ⟨rfl, hb⟩; have HBn : Aside0 (Below w.heap.size w wb) := ⟨below_next (by repeat (first | (with_reducible exact HB.out) | apply below_alloc | apply pw_below_drewN | apply below_drew1)) hb⟩; clear HB hb; have HB := HBn; clear HBn))
        go_roundw
        case rel => exact ⟨j + 1, by omega, by go_num, by rw [putsL_snoc l j hlt, st_append]; rfl, HB⟩
        case measure => simp [intOf]; omega
      · obtain rfl : j = l.length := by omega
        rw [List.take_length]
        have hsz : (st (putsL l)).size ≤ 2000 := by rw [st_size]; omega
        clear hj hlt
        go_wp2_with fail
        go_loopw [9, 10] (fun v9 v10 w' => ∃ j : Nat, j ≤ l.length ∧ v10 = .int .i64 j ∧ v9 = .int .i64 ((putsL (l.take j)).length : Int) ∧ Aside0 (Below w.heap.size w w')) (fun _ v10 _ => l.length - (intOf v10).toNat)
        case atStart => exact ⟨0, by omega, rfl, rfl, HB⟩
        case round =>
          clear HB
          obtain ⟨j, hj, rfl, rfl, HB⟩ := hrel
          by_cases hlt : j < l.length
          · obtain ⟨ad, rfl, hcw⟩ := cellAt HR.out j hlt
            have HC := Aside0.mk hcw
            clear hcw
            have hxj := HX.out _ (List.getElem_mem hlt)
            have h1 := putsL_take_le l j
            have A1 := fun w => get_put (st (putsL l)) ((putsL (l.take j)).length : Int) l[j] (putsL (l.drop (j + 1))) w (by omega) (by rw [st_size]; omega) (by omega) hxj.1 hxj.2 (by
              rw [bs_st _ (putsL_ok l), Int.toNat_natCast, putsL_drop l j hlt])
            have A2 := fun w => size_any l[j] w hxj.1 hxj.2
            have h3 : (put l[j]).size ≤ 10 := by rw [put_size]; exact putL_len10 _ (by omega)
            clear hxj
            go_wp2_with (first
              | (go_at_call 19; refine (A1 _).mono ?_; rintro e wb ⟨rfl, hb⟩; have HBn : Aside0 (Below w.heap.size w wb) := ⟨below_next (by repeat (first | (with_reducible exact HB.out) | apply below_alloc | apply pw_below_drewN | apply below_drew1)) hb⟩; clear HB hb; have HB := HBn; clear HBn; have hcell := pw_cell_below HB.out HC.out)
              | (go_at_call 10; refine (A2 _).mono ?_; rintro e wd ⟨rfl, ⟨nd, rfl⟩⟩))
            go_roundw
            case rel => exact ⟨j + 1, by omega, by go_num, by rw [putsL_snoc l j hlt, List.length_append, put_size]; go_num, ⟨(by repeat (first | (with_reducible exact HB.out) | apply below_alloc | apply pw_below_drewN | apply below_drew1))⟩⟩
            case measure => simp [intOf]; omega
          · obtain rfl : j = l.length := by omega
            rw [List.take_length]
            have A4 := fun w => zig_any m w hm0 hm1
            have A6 := fun w => zag_any (zig m) w (zig_range m hm0 hm1).1 (zig_range m hm0 hm1).2
            have A8 := fun w => zig32_any k w hk0 hk1
            have A10 := fun w => zag32_any (zig k) w (zig_range32 k hk0 hk1).1 (by have := (zig_range32 k hk0 hk1).2; omega)
            rw [zag_zig] at A6
            rw [Int.emod_eq_of_lt (zig_range32 k hk0 hk1).1 (zig_range32 k hk0 hk1).2, zag_zig] at A10
            have hz := zig_range m hm0 hm1
            have hz2 : (zig m % 2 == 0) = decide (0 ≤ m) := by
              rw [Bool.eq_iff_iff]; simp; unfold zig; split <;> omega
            have hz3 : -4611686018427387904 ≤ m → m < 4611686018427387904 → zig m < 9223372036854775808 := by unfold zig; split <;> omega
            clear hj hlt hl2
            rw [show ((putsL l).length : Int) = ((st (putsL l)).size : Int) by rw [st_size]]
            by_cases hmid : -4611686018427387904 ≤ m ∧ m < 4611686018427387904
            all_goals
              go_wp2_with (first
                | (go_at_call 7; refine (var_first _).mono ?_; rintro e wb ⟨rfl, hb⟩; have HBn : Aside0 (Below w.heap.size w wb) := ⟨below_next (by repeat (first | (with_reducible exact HB.out) | apply below_alloc | apply pw_below_drewN | apply below_drew1)) hb⟩; clear HB hb; have HB := HBn; clear HBn)
                | (go_at_call 11; refine (A4 _).mono ?_; rintro e wd ⟨rfl, ⟨nd, rfl⟩⟩)
                | (go_at_call 13; refine (A6 _).mono ?_; rintro e wd ⟨rfl, ⟨nd, rfl⟩⟩)
                | (go_at_call 15; refine (A8 _).mono ?_; rintro e wd ⟨rfl, ⟨nd, rfl⟩⟩)
                | (go_at_call 17; refine (A10 _).mono ?_; rintro e wd ⟨rfl, ⟨nd, rfl⟩⟩))
              all_goals
                go_ret
                exact ⟨by first | rfl | (simp; omega), (by repeat (first | (with_reducible exact HB.out) | apply below_alloc | apply pw_below_drewN | apply below_drew1))⟩
end Go.Proofs.Ytfkpebdjobhfgaa
