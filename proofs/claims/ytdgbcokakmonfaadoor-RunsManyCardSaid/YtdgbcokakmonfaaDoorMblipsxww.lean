import Derived.Test.YtdgbcokakmonfaaDoorMfhnydibo
import Derived.Test.YtdgbcokakmonfaaDoorMisltvmnq
import Derived.Test.YtdgbcokakmonfaaDoorMueusuvpf
namespace Go.Proofs.YtdgbcokakmonfaaDoor
open Go.RowKit Go.Proofs.YtdgbcokakmonfaaDoorW.PrintWords Go.Proofs.YtdgbcokakmonfaaDoorW.PrintLast Go.Proofs.YtdgbcokakmonfaaDoorW.PrintMore Hy

theorem grp_len20 (l : List Int) (hl : l.length ≤ 20000) (hx : u64s l) : (st (putsL (grp l))).size ≤ 400000 := by
  rw [st_size]
  have h1 := grp_len l
  have h2 := putsL_len (grp l) (grp_u64 l hx (by omega)).1
  omega
theorem code9 (w : World) (hg : Laid w) : Calls Tryd.prog 10 #[.iface 29 (.int .i64 9)] w fun e w' => e = .returned (.int .i64 9) ∧ Below w.heap.size w w' := code_any (.code 9) _ w hg rfl
set_option maxHeartbeats 2000000 in
theorem runsMany_walk (more n : Int) (w : World) (hm0 : -9223372036854775808 ≤ more) (hm1 : more < 9223372036854775808) (hn0 : 0 ≤ n) (hn1 : n < 18446744073709551616) (hg : Laid w) :
    Calls Tryd.prog 5 #[.int .i64 more, .int .u64 n] w fun e w' => e = .returned (.bool true) ∧ Below w.heap.size w w' := by
  have HB := Aside0.mk (Below.refl w.heap.size w)
  have HG := Aside0.mk hg
  have HN := Aside0.mk (And.intro hn0 hn1)
  clear hg hn1
  by_cases hr : more < -1 ∨ 1 < more
  · by_cases hr2 : more < -1
    all_goals
      go_enter Tryd.func5, Tryd.ntmps5
      go_wp2_with (first
        | (go_at_call 6; refine (runs_first _).mono ?_; rintro e wb ⟨rfl, hb⟩; have HBn : Aside0 (Below w.heap.size w wb) := ⟨below_next (by repeat (first | (with_reducible exact HB.out) | apply below_alloc | apply pw_below_drewN | apply below_drew1)) hb⟩; clear HB hb; have HB := HBn; clear HBn))
      go_ret
      exact ⟨rfl, (by repeat (first | (with_reducible exact HB.out) | apply below_alloc | apply pw_below_drewN | apply below_drew1))⟩
  · have hr1 : ¬ more < -1 := by omega
    have hr2 : ¬ 1 < more := by omega
    obtain ⟨L, hL⟩ : ∃ L : Nat, 20000 + more = (L : Int) := ⟨(20000 + more).toNat, by omega⟩
    have hL0 : 19999 ≤ L := by omega
    have hL1 : L ≤ 20001 := by omega
    have HL := Aside0.mk hL
    clear hr
    go_enter Tryd.func5, Tryd.ntmps5
    go_wp2_with (first
      | (go_at_call 6; refine (runs_first _).mono ?_; rintro e wb ⟨rfl, hb⟩; have HBn : Aside0 (Below w.heap.size w wb) := ⟨below_next (by repeat (first | (with_reducible exact HB.out) | apply below_alloc | apply pw_below_drewN | apply below_drew1)) hb⟩; clear HB hb; have HB := HBn; clear HBn)
      | (refine Kd.R_make (Kd.int .u64) (w0 := w) w.heap.size 40 rfl (N := 22) rfl 22 (.tmp 21) (.tmp 21) rfl (L : Int) rfl rfl Tryd.underlying22 (.int .u64 0) 8 info_u64 rfl (by decide) (by omega) (0 : Int) (ok := fun _ => True) (okp := fun _ => False) rfl (fun _ hk => hk.elim) trivial (by omega) (by omega) (by repeat (first | (with_reducible exact HB.out) | apply below_alloc | apply pw_below_drewN | apply below_drew1)) (below_size (by repeat (first | (with_reducible exact HB.out) | apply below_alloc | apply pw_below_drewN | apply below_drew1))) ?_; intro va wa ho hb _ _; have HO := Aside0.mk ho; clear HB; have HB := Aside0.mk hb; clear ho hb))
    have ho := HO.out
    rw [Int.toNat_natCast] at ho
    obtain ⟨g, cap, hva, hg1, hg2, _⟩ := Kd.R_form ho (by rw [List.length_replicate]; omega)
    rw [List.length_replicate] at hva
    subst hva
    have HO2 : Aside0 (Kd.R (Kd.int .u64) 40 wa w.heap.size (fun _ => True) (.slice (some ⟨g, 0, none⟩) L cap) (List.replicate 0 n ++ List.replicate (L - 0) 0)) := ⟨ho⟩
    clear HO ho hg2
    go_loopw [6] (fun v6 w' => ∃ i : Nat, i ≤ L ∧ v6 = .int .i64 (i : Int) ∧ Aside0 (Kd.R (Kd.int .u64) 40 w' w.heap.size (fun _ => True) (.slice (some ⟨g, 0, none⟩) L cap) (List.replicate i n ++ List.replicate (L - i) 0)) ∧ Aside0 (Below w.heap.size w w')) (fun v6 _ => L - (intOf v6).toNat)
    case atStart => exact ⟨0, by omega, rfl, HO2, HB⟩
    case round =>
      clear HO2 HB
      obtain ⟨i, hi, rfl, HO, HB⟩ := hrel
      by_cases hlt : i < L
      · have hlen := fill_len i L n hi
        have ho := HO.out
        rw [show Value.slice (some ⟨g, 0, none⟩) L cap = .slice (some ⟨g, 0, none⟩) (List.replicate i n ++ List.replicate (L - i) (0 : Int)).length cap by rw [hlen]] at ho
        obtain ⟨hc, hf⟩ := Kd.R_cell (0 : Int) ho (i : Int) (by omega) (by rw [hlen]; omega)
        have hput := (Kd.R_put ho (i : Int) n).1
        rw [Int.toNat_natCast] at hc hf hput
        rw [set_fill i L n hlt, hlen] at hput
        have HP := Aside0.mk hput
        have HB2 := Aside0.mk (HB.out.setCell (p := ⟨g, i, none⟩) hg1 (.int .u64 n))
        clear hput ho hlen
        go_wp2_with fail
        go_roundw
        case rel => exact ⟨i + 1, by omega, by go_num, HP, HB2⟩
        case measure => simp [intOf]; omega
      · obtain rfl : i = L := by omega
        have ho := HO.out
        rw [Nat.sub_self, List.replicate_zero, List.append_nil] at ho
        obtain ⟨r1, r2, r3⟩ := R_C ho
        have hll : (List.replicate i n).length = i := List.length_replicate
        have hxs : ∀ x ∈ List.replicate i n, 0 ≤ x ∧ x < 18446744073709551616 := by intro x hx; rw [List.eq_of_mem_replicate hx]; exact HN.out
        have HC := Aside0.mk r1
        have HX := Aside0.mk hxs
        rw [hll] at r3
        clear ho HO hll hxs r1 r2
        by_cases hm : 0 < more
        · have HP : ∀ w', Calls Tryd.prog 8 #[.slice (some ⟨g, 0, none⟩) i cap] w' fun e w'' => e = .returned (.tuple #[.string ⟨#[]⟩, .iface 29 (.int .i64 9)]) ∧ w'' = w' := by
            intro w'
            exact (runsPut_range (some ⟨g, 0, none⟩) cap i w' (by have := HL.out; omega) (by omega)).mono fun _ _ h => ⟨h.1, h.2.symm⟩
          go_wp2_with (first
            | (go_at_call 8; refine (HP _).mono ?_; rintro e w' ⟨rfl, hw⟩; subst w')
            | (go_at_call 6; refine (runs_first _).mono ?_; rintro e wb ⟨rfl, hb⟩; have HBn : Aside0 (Below w.heap.size w wb) := ⟨below_next (by repeat (first | (with_reducible exact HB.out) | apply below_alloc | apply pw_below_drewN | apply below_drew1)) hb⟩; clear HB hb; have HB := HBn; clear HBn)
            | (go_at_call 10; refine (code9 _ (HG.out.below HB.out)).mono ?_; rintro e wb ⟨rfl, hb⟩; have HBn : Aside0 (Below w.heap.size w wb) := ⟨below_next (by repeat (first | (with_reducible exact HB.out) | apply below_alloc | apply pw_below_drewN | apply below_drew1)) hb⟩; clear HB hb; have HB := HBn; clear HBn))
          go_ret
          exact ⟨rfl, (by repeat (first | (with_reducible exact HB.out) | apply below_alloc | apply pw_below_drewN | apply below_drew1))⟩
        · have hi20 : i ≤ 20000 := by have := HL.out; omega
          have HP := fun w' h => runsPut_ok (some ⟨g, 0, none⟩) cap (List.replicate i n) w' h (by rw [List.length_replicate]; exact r3) (by rw [List.length_replicate]; exact hi20) HX.out
          rw [List.length_replicate] at HP
          have hszT : (st (putsL (grp (List.replicate i n)))).size ≤ 400000 := by
            exact grp_len20 _ (by rw [List.length_replicate]; exact hi20) HX.out
          have HCC := HC.out
          rw [List.length_replicate] at HCC
          have HC2 := Aside0.mk HCC
          clear HCC HC
          have HGet := fun w' => runsGet_ok (st (putsL (grp (List.replicate i n)))) (i : Int) (List.replicate i n) w' (by omega) (by omega) ⟨bs_st _ (putsL_ok _), HX.out⟩ (by rw [List.length_replicate])
          rw [List.length_replicate] at HGet
          have HNums : ∀ w' A2 c2, Kd.C (Kd.int .u64) w' (some ⟨g, 0, none⟩) i (List.replicate i n) → Kd.C (Kd.int .u64) w' A2 i (List.replicate i n) → i ≤ c2 → Calls Tryd.prog 11 #[.slice (some ⟨g, 0, none⟩) i cap, .slice A2 i c2] w' fun e w'' => e = .returned (.bool true) ∧ Drawn0 w' w'' := by
            intro w' A2 c2 h1 h2 h3
            have := nums_any (some ⟨g, 0, none⟩) cap (List.replicate i n) A2 c2 (List.replicate i n) w' (by rw [List.length_replicate]; exact h1) (by rw [List.length_replicate]; exact r3) (by rw [List.length_replicate]; exact h2) (by rw [List.length_replicate]; exact h3) (by rw [List.length_replicate]; omega)
            rw [List.length_replicate, decide_eq_true rfl] at this
            exact this
          generalize st (putsL (grp (List.replicate i n))) = T at *
          go_wp2_with (first
            | (go_at_call 8; refine (HP _ HC2.out).mono ?_; rintro e wb ⟨rfl, hb⟩; have HC3 := Aside0.mk (Kd.C_below HC2.out hb); have HBn : Aside0 (Below w.heap.size w wb) := ⟨below_next (by repeat (first | (with_reducible exact HB.out) | apply below_alloc | apply pw_below_drewN | apply below_drew1)) hb⟩; clear HB hb; have HB := HBn; clear HBn))
          refine (HGet _).mono ?_
          rintro e wc ⟨A2, c2, rfl, hC4, hc2, hb⟩
          have HC4 := Aside0.mk (Kd.C_below HC3.out hb)
          have HC5 := Aside0.mk hC4
          have HBn : Aside0 (Below w.heap.size w wc) := ⟨below_next HB.out hb⟩
          clear HB hb hC4
          have HB := HBn
          clear HBn
          go_wp2_with (first
            | (go_at_call 6; refine (runs_first _).mono ?_; rintro e wb ⟨rfl, hb⟩; have HC6 := Aside0.mk (Kd.C_below HC4.out hb); have HC7 := Aside0.mk (Kd.C_below HC5.out hb); have HBn : Aside0 (Below w.heap.size w wb) := ⟨below_next (by repeat (first | (with_reducible exact HB.out) | apply below_alloc | apply pw_below_drewN | apply below_drew1)) hb⟩; clear HB hb; have HB := HBn; clear HBn)
            | (go_at_call 11; refine (HNums _ _ _ HC6.out HC7.out hc2).mono ?_; rintro e wd ⟨rfl, ⟨nd, rfl⟩⟩))
          go_ret
          exact ⟨rfl, (by repeat (first | (with_reducible exact HB.out) | apply below_alloc | apply pw_below_drewN | apply below_drew1))⟩
end Go.Proofs.YtdgbcokakmonfaaDoor
