import Derived.Test.YtklkiofhenhafaaMmoqqvpso
namespace Go.Proofs.Ytklkiofhenhafaa
open Go.RowKit Go.Proofs.YtklkiofhenhafaaW.PrintWords Go.Proofs.YtklkiofhenhafaaW.PrintLast Go.Proofs.YtklkiofhenhafaaW.PrintMore Hy

def fT (v : Nat) : ByteArray := st (9 :: leL 8 v)
theorem fT_size (v : Nat) : (fT v).size = 9 := by unfold fT; rw [st_size, List.length_cons, leL_length]
theorem fT_ok (v : Nat) : okB (9 :: leL 8 v) := by
  intro x hx
  rcases List.mem_cons.1 hx with rfl | hx
  · decide
  · exact leL_ok 8 v x hx
theorem fT_ex (v : Nat) : (fT v).extract 1 9 = st (leL 8 v) := by
  apply bs_inj
  rw [bs_extract, bs_st _ (leL_ok 8 v)]
  unfold fT
  rw [bs_st _ (fT_ok v), List.take_of_length_le (by rw [List.length_cons, leL_length]; decide)]
  rfl
theorem wfixed_T (v : Nat) (w : World) (hv : v < 18446744073709551616) : Calls Try.prog 7 #[.int .i64 1, .int .u64 (v : Int)] w fun e w' => e = .returned (.string (fT v)) ∧ Below w.heap.size w w' := by
  have h := wfixed_any 1 v w hv
  have e : recB 1 1 (st (leL 8 v)) = fT v := by
    unfold recB
    rw [if_neg (by omega)]
    apply bs_inj
    unfold fT
    rw [bs_append, bs_put, bs_st _ (leL_ok 8 v), bs_st _ (fT_ok v), show Int.toNat (1 * 8 + 1) = 9 from rfl, putL_lo 9 (by omega)]
    rfl
  rw [e] at h
  exact h
theorem tag_eq (n k : Int) (h1 : ¬ n < 1) (h2 : ¬ 536870912 ≤ n) (h3 : ¬ k < 0) (h4 : ¬ 5 < k) : tagB n k = put (8 * n + k) := by
  unfold tagB
  rw [if_neg (by omega), Int.mul_comm]
set_option maxHeartbeats 8000000 in
theorem wireNumbers_walk (A : Option Addr) (c : Nat) (l : List Int) (num kind : Int) (w : World) (hr : Kd.C (Kd.int .u64) w A l.length l) (hc : l.length ≤ c) (_hl : l.length * 8 ≤ 140737488351232) (hx : ∀ x ∈ l, 0 ≤ x ∧ x < 18446744073709551616)
    (hn0 : -9223372036854775808 ≤ num) (hn1 : num < 9223372036854775808) (hk0 : -9223372036854775808 ≤ kind) (hk1 : kind < 9223372036854775808) :
    Calls Try.prog 4 #[.slice A l.length c, .int .i64 num, .int .i64 kind] w fun e w' => e = .returned (.bool true) ∧ Below w.heap.size w w' := by
  have HB := Aside0.mk (Below.refl w.heap.size w)
  have HR := Aside0.mk hr
  have HX := Aside0.mk hx
  have hcc := hc
  clear hr hc _hl hx
  by_cases h1 : 400 < l.length
  · go_enter Try.func4, Try.ntmps4
    go_wp2_with (first
      | (go_at_call 5; refine (wire_first _).mono ?_; rintro e wb ⟨rfl, hb⟩; have HBn : Aside0 (Below w.heap.size w wb) := ⟨below_next (by repeat (first | (with_reducible exact HB.out) | apply below_alloc | apply pw_below_drewN | apply below_drew1)) hb⟩; clear HB hb; have HB := HBn; clear HBn))
    go_ret
    exact ⟨rfl, (by repeat (first | (with_reducible exact HB.out) | apply below_alloc | apply pw_below_drewN | apply below_drew1))⟩
  by_cases h2 : num < 1
  · go_enter Try.func4, Try.ntmps4
    go_wp2_with (first
      | (go_at_call 5; refine (wire_first _).mono ?_; rintro e wb ⟨rfl, hb⟩; have HBn : Aside0 (Below w.heap.size w wb) := ⟨below_next (by repeat (first | (with_reducible exact HB.out) | apply below_alloc | apply pw_below_drewN | apply below_drew1)) hb⟩; clear HB hb; have HB := HBn; clear HBn))
    go_ret
    exact ⟨rfl, (by repeat (first | (with_reducible exact HB.out) | apply below_alloc | apply pw_below_drewN | apply below_drew1))⟩
  by_cases h3 : 536870912 ≤ num
  · go_enter Try.func4, Try.ntmps4
    go_wp2_with (first
      | (go_at_call 5; refine (wire_first _).mono ?_; rintro e wb ⟨rfl, hb⟩; have HBn : Aside0 (Below w.heap.size w wb) := ⟨below_next (by repeat (first | (with_reducible exact HB.out) | apply below_alloc | apply pw_below_drewN | apply below_drew1)) hb⟩; clear HB hb; have HB := HBn; clear HBn))
    go_ret
    exact ⟨rfl, (by repeat (first | (with_reducible exact HB.out) | apply below_alloc | apply pw_below_drewN | apply below_drew1))⟩
  by_cases h4 : kind < 0
  · go_enter Try.func4, Try.ntmps4
    go_wp2_with (first
      | (go_at_call 5; refine (wire_first _).mono ?_; rintro e wb ⟨rfl, hb⟩; have HBn : Aside0 (Below w.heap.size w wb) := ⟨below_next (by repeat (first | (with_reducible exact HB.out) | apply below_alloc | apply pw_below_drewN | apply below_drew1)) hb⟩; clear HB hb; have HB := HBn; clear HBn))
    go_ret
    exact ⟨rfl, (by repeat (first | (with_reducible exact HB.out) | apply below_alloc | apply pw_below_drewN | apply below_drew1))⟩
  by_cases h5 : 5 < kind
  · go_enter Try.func4, Try.ntmps4
    go_wp2_with (first
      | (go_at_call 5; refine (wire_first _).mono ?_; rintro e wb ⟨rfl, hb⟩; have HBn : Aside0 (Below w.heap.size w wb) := ⟨below_next (by repeat (first | (with_reducible exact HB.out) | apply below_alloc | apply pw_below_drewN | apply below_drew1)) hb⟩; clear HB hb; have HB := HBn; clear HBn))
    go_ret
    exact ⟨rfl, (by repeat (first | (with_reducible exact HB.out) | apply below_alloc | apply pw_below_drewN | apply below_drew1))⟩
  have A3 := fun w => tag_any num kind w
  rw [tag_eq num kind h2 h3 h4 h5] at A3
  have A4 := fun w => put_any (8 * num + kind) w (by omega) (by omega)
  have HW := Aside0.mk (show IntKind.u64.wrap (8 * num + kind) = 8 * num + kind by rw [wrap_u64]; omega)
  go_enter Try.func4, Try.ntmps4
  go_wp2_with (first
    | (go_at_call 5; refine (wire_first _).mono ?_; rintro e wb ⟨rfl, hb⟩; have HBn : Aside0 (Below w.heap.size w wb) := ⟨below_next (by repeat (first | (with_reducible exact HB.out) | apply below_alloc | apply pw_below_drewN | apply below_drew1)) hb⟩; clear HB hb; have HB := HBn; clear HBn))
  go_loopw [7, 8, 9] (fun v7 v8 v9 w' => ∃ j : Nat, j ≤ l.length ∧ v7 = .string (st (fixL (l.take j))) ∧ v8 = .string (st (putsL (l.take j))) ∧ v9 = .int .i64 (j : Int) ∧ Aside0 (Below w.heap.size w w')) (fun _ _ v9 _ => l.length - (intOf v9).toNat)
  case atStart => exact ⟨0, by omega, rfl, rfl, rfl, HB⟩
  case round =>
    clear HB
    obtain ⟨j, hj, rfl, rfl, rfl, HB⟩ := hrel
    by_cases hlt : j < l.length
    · obtain ⟨ad, rfl, hc0⟩ := cellAt HR.out j hlt
      have hxj := HX.out _ (List.getElem_mem hlt)
      have HJ := Aside0.mk hlt
      obtain ⟨v, hv⟩ : ∃ v : Nat, l[j] = (v : Int) := ⟨(l[j]).toNat, by omega⟩
      have HV := Aside0.mk hv
      rw [hv] at hc0
      have HC := Aside0.mk hc0
      have hcell := pw_cell_below HB.out HC.out
      clear hc0
      have hv64 : v < 18446744073709551616 := by omega
      have A1 := fun w => wfixed_T v w hv64
      have A2 := fun w => put_any (v : Int) w (by omega) (by omega)
      have hts := fT_size v
      have hte := fT_ex v
      have hjb : j ≤ 400 := by omega
      have hb1 : (st (fixL (l.take j))).size + (st (leL 8 v)).size ≤ 9223372036854775807 := by
        rw [st_size, st_size, fixL_length, leL_length, List.length_take]; omega
      have hb2 : (st (putsL (l.take j))).size + (put (v : Int)).size ≤ 9223372036854775807 := by
        have h1 := putsL_take_le l j
        have h2 := putsL_len l HX.out
        have h3 := putL_len10 ((v : Int)).toNat (by omega)
        rw [st_size, put_size]; omega
      clear hxj hv hv64 A3 A4
      go_wp2_with (first
        | (go_at_call 7; refine (A1 _).mono ?_; rintro e wb ⟨rfl, hb⟩; have HBn : Aside0 (Below w.heap.size w wb) := ⟨below_next (by repeat (first | (with_reducible exact HB.out) | apply below_alloc | apply pw_below_drewN | apply below_drew1)) hb⟩; clear HB hb; have HB := HBn; clear HBn; clear hcell; have hcell := pw_cell_below HB.out HC.out)
        | (go_at_call 8; refine (A2 _).mono ?_; rintro e wb ⟨rfl, hb⟩; have HBn : Aside0 (Below w.heap.size w wb) := ⟨below_next (by repeat (first | (with_reducible exact HB.out) | apply below_alloc | apply pw_below_drewN | apply below_drew1)) hb⟩; clear HB hb; have HB := HBn; clear HBn))
      refine ⟨⟨j + 1, by omega, ?_, ?_, by go_num, HB⟩, by simp [intOf]; omega⟩
      · rw [fixL_snoc l j HJ.out, HV.out, Int.toNat_natCast, st_append]
      · rw [putsL_snoc l j HJ.out, HV.out, st_append]; rfl
    · obtain rfl : j = l.length := by omega
      rw [List.take_length]
      have B1 := fun w => wfixeds_l w (st (fixL l)) l (bs_st _ (fixL_ok l)) (by omega) HX.out
      have B2 := fun w => wvarints_l w (st (putsL l)) l (bs_st _ (putsL_ok l)) (by omega) HX.out
      have hl4 : l.length ≤ 140737488355328 := by omega
      clear hj hlt
      go_wp2_with fail
      refine (B1 _).mono ?_
      rintro e wb ⟨A_x, c_x, rfl, hC_, hc_x, hb⟩
      have HBn : Aside0 (Below w.heap.size w wb) := ⟨below_next (by repeat (first | (with_reducible exact HB.out) | apply below_alloc | apply pw_below_drewN | apply below_drew1)) hb⟩; clear HB; have HB := HBn; clear HBn; have HC_x := Aside0.mk hC_; clear hb hC_
      clear B1
      go_wp2_with fail
      refine (B2 _).mono ?_
      rintro e wb ⟨A_y, c_y, rfl, hC_, hc_y, hb⟩
      have Hn_ := Aside0.mk (Kd.C_below (by (with_reducible repeat (first | apply Kd.C_alloc | apply Kd.C_drewN | apply Kd.C_drew)); exact HC_x.out) hb); clear HC_x; have HC_x := Hn_; clear Hn_; have HBn : Aside0 (Below w.heap.size w wb) := ⟨below_next (by repeat (first | (with_reducible exact HB.out) | apply below_alloc | apply pw_below_drewN | apply below_drew1)) hb⟩; clear HB; have HB := HBn; clear HBn; have HC_y := Aside0.mk hC_; clear hb hC_
      clear B2
      go_wp2_with fail
      refine (wire_first _).mono ?_
      rintro e wb ⟨rfl, hb⟩
      have Hn_ := Aside0.mk (Kd.C_below (by (with_reducible repeat (first | apply Kd.C_alloc | apply Kd.C_drewN | apply Kd.C_drew)); exact HC_x.out) hb); clear HC_x; have HC_x := Hn_; clear Hn_; have Hn_ := Aside0.mk (Kd.C_below (by (with_reducible repeat (first | apply Kd.C_alloc | apply Kd.C_drewN | apply Kd.C_drew)); exact HC_y.out) hb); clear HC_y; have HC_y := Hn_; clear Hn_; have HBn : Aside0 (Below w.heap.size w wb) := ⟨below_next (by repeat (first | (with_reducible exact HB.out) | apply below_alloc | apply pw_below_drewN | apply below_drew1)) hb⟩; clear HB; have HB := HBn; clear HBn; clear hb
      have hw := HW.out
      clear hn0 hn1 hk0 hk1
      go_wp2_with fail
      refine (nums_any A_x c_x l A c l _ HC_x.out hc_x (Kd.C_below HR.out HB.out) hcc hl4).mono ?_
      rintro e wd ⟨rfl, ⟨nd, rfl⟩⟩
      rw [show decide (l = l) = true from decide_eq_true rfl]
      go_wp2_with fail
      refine (nums_any A_y c_y l A c l _ (Kd.C_drewN HC_y.out _) hc_y (Kd.C_drewN (Kd.C_below HR.out HB.out) _) hcc hl4).mono ?_
      rintro e wd ⟨rfl, ⟨nd2, rfl⟩⟩
      rw [show decide (l = l) = true from decide_eq_true rfl]
      go_wp2_with (first
        | (go_at_call 12; refine (A3 _).mono ?_; rintro e wb ⟨rfl, hb⟩; have HBn : Aside0 (Below w.heap.size w wb) := ⟨below_next (by repeat (first | (with_reducible exact HB.out) | apply below_alloc | apply pw_below_drewN | apply below_drew1)) hb⟩; clear HB hb; have HB := HBn; clear HBn)
        | (go_at_call 8; refine (A4 _).mono ?_; rintro e wb ⟨rfl, hb⟩; have HBn : Aside0 (Below w.heap.size w wb) := ⟨below_next (by repeat (first | (with_reducible exact HB.out) | apply below_alloc | apply pw_below_drewN | apply below_drew1)) hb⟩; clear HB hb; have HB := HBn; clear HBn))
      go_ret
      exact ⟨rfl, HB.out⟩
end Go.Proofs.Ytklkiofhenhafaa
