import Derived.Test.YtklkiofhenhafaaMzwgqloqo
import Derived.Test.YtklkiofhenhafaaMkjvpszcr
import Derived.Test.YtklkiofhenhafaaMbwsbjcua
namespace Go.Proofs.Ytklkiofhenhafaa
open Go.RowKit Go.Proofs.YtklkiofhenhafaaW.PrintWords Go.Proofs.YtklkiofhenhafaaW.PrintLast Go.Proofs.YtklkiofhenhafaaW.PrintMore Hy

theorem recAt {w : World} {A : Option Addr} {L : List RecL} (h : Kd.C Rc w A L.length L) (j : Nat) (hj : j < L.length) : ∃ ad, A = some ad ∧ w.cell? (ad.add (j * 5 + 4)) = some (.string (st (L[j]).raw)) ∧ w.cell? ⟨ad.block, ad.off + j * 5 + 4, none⟩ = some (.string (st (L[j]).raw)) ∧ w.cell? ⟨(ad.add (j * 5)).block, (ad.add (j * 5)).off + 4, none⟩ = some (.string (st (L[j]).raw)) ∧ w.cell? ⟨ad.block, ad.off + (j * 5 + 4), none⟩ = some (.string (st (L[j]).raw)) := by
  obtain ⟨ad, e, hc⟩ := h.2.2 (by omega)
  obtain ⟨c, hs, hr, hcell⟩ := hc j _ (List.getElem?_eq_getElem hj)
  refine ⟨ad, e, ?_⟩
  have hr' : c = recC L[j] := hr.1
  rw [rc_sz] at hcell
  have h4 := hcell 4 _ (by rw [hr']; rfl)
  have e1 : ad.add (j * 5 + 4) = ⟨ad.block, ad.off + (j * 5 + 4), none⟩ := by rw [show j * 5 + 4 = (j * 5 + 3) + 1 by omega, Addr.add_succ']
  have e2 : (ad.add (j * 5)).block = ad.block ∧ (ad.add (j * 5)).off = ad.off + j * 5 := by unfold Addr.add; split <;> simp_all
  have h5 := h4
  rw [e1] at h5
  refine ⟨h4, by rw [Nat.add_assoc]; exact h5, by rw [e2.1, e2.2, Nat.add_assoc]; exact h5, h5⟩
def AGood (w : World) (L : List RecL) (e : Ending) (w' : World) : Prop := ∃ A c, e = .returned (.tuple #[.slice A L.length c, .nilIface]) ∧ Kd.C Rc w' A L.length L ∧ L.length ≤ c ∧ Below w.heap.size w w'
def ALen (w : World) (n : Nat) (e : Ending) (w' : World) : Prop := ∃ A c, e = .returned (.tuple #[.slice A n c, .nilIface]) ∧ Below w.heap.size w w'
def AErr (w : World) (e : Ending) (w' : World) : Prop := ∃ T v, e = .returned (.tuple #[.slice none 0 0, .iface T v]) ∧ Below w.heap.size w w'
def AAny (w : World) (e : Ending) (w' : World) : Prop := ∃ x y, e = .returned (.tuple #[x, y]) ∧ Below w.heap.size w w'
theorem all_good {s : ByteArray} {dp : Int} {L : List RecL} (w : World) (hs : s.size ≤ 100000) (hd0 : -9223372036854775808 ≤ dp) (hd1 : dp < 9223372036854775808) (h : recsL dp.toNat (bs s) = some L) : Calls Try.prog 6 #[.string s, .int .i64 dp] w (AGood w L) := by
  refine (wall_any w s dp hs hd0 hd1).mono ?_
  rintro e w' (⟨L', A, c, hL, rfl, hC, hc, hb⟩ | ⟨hn, _⟩)
  · rw [h] at hL
    injection hL with hL
    subst hL
    exact ⟨A, c, rfl, hC, hc, hb⟩
  · rw [h] at hn; cases hn
theorem all_len {s : ByteArray} {dp : Int} {L : List RecL} (w : World) (n : Nat) (hs : s.size ≤ 100000) (hd0 : -9223372036854775808 ≤ dp) (hd1 : dp < 9223372036854775808) (h : recsL dp.toNat (bs s) = some L) (hn : L.length = n) : Calls Try.prog 6 #[.string s, .int .i64 dp] w (ALen w n) := by
  refine (all_good w hs hd0 hd1 h).mono ?_
  rintro e w' ⟨A, c, rfl, _, _, hb⟩
  subst hn
  exact ⟨A, c, rfl, hb⟩
theorem all_err {s : ByteArray} {dp : Int} (w : World) (hs : s.size ≤ 100000) (hd0 : -9223372036854775808 ≤ dp) (hd1 : dp < 9223372036854775808) (h : recsL dp.toNat (bs s) = none) : Calls Try.prog 6 #[.string s, .int .i64 dp] w (AErr w) := by
  refine (wall_any w s dp hs hd0 hd1).mono ?_
  rintro e w' (⟨L', A, c, hL, _⟩ | ⟨_, T, v, _, rfl, _, _, hb⟩)
  · rw [h] at hL; cases hL
  · exact ⟨T, v, rfl, hb⟩
theorem all_any {s : ByteArray} {dp : Int} (w : World) (hs : s.size ≤ 100000) (hd0 : -9223372036854775808 ≤ dp) (hd1 : dp < 9223372036854775808) : Calls Try.prog 6 #[.string s, .int .i64 dp] w (AAny w) := by
  refine (wall_any w s dp hs hd0 hd1).mono ?_
  rintro e w' (⟨L', A, c, hL, rfl, _, _, hb⟩ | ⟨_, T, v, _, rfl, _, _, hb⟩)
  · exact ⟨_, _, rfl, hb⟩
  · exact ⟨_, _, rfl, hb⟩
theorem raws_take (L : List RecL) (j : Nat) (hj : j < L.length) : raws (L.take (j + 1)) = raws (L.take j) ++ (L[j]).raw := by
  rw [List.take_succ_eq_append_getElem hj]
  unfold raws
  rw [List.flatMap_append]
  simp
theorem raws_take_le (L : List RecL) (j : Nat) : (raws (L.take j)).length ≤ (raws L).length := by
  have e : raws L = raws (L.take j) ++ raws (L.drop j) := by
    unfold raws
    rw [← List.flatMap_append, List.take_append_drop]
  rw [e, List.length_append]
  omega
theorem len_raws : ∀ (L : List RecL), (∀ R ∈ L, 2 ≤ R.raw.length) → L.length ≤ (raws L).length := by
  intro L
  induction L with
  | nil => intro _; exact Nat.zero_le _
  | cons Q L ih =>
    intro h
    have h1 := ih (fun R hR => h R (List.mem_cons_of_mem _ hR))
    have h2 := h Q List.mem_cons_self
    rw [show raws (Q :: L) = Q.raw ++ raws L from rfl, List.length_append, List.length_cons]
    omega
set_option maxHeartbeats 600000 in
set_option maxRecDepth 100000 in
theorem wcut_0 (s t : ByteArray) (depth cut : Int) (w : World) (hs4 : s.size ≤ 4000) (ht4 : t.size ≤ 4000) (hd0 : 0 ≤ depth) (hd1 : depth < 9223372036854775808) (hc0 : 0 ≤ cut) (hc1 : cut < 9223372036854775808) (h : recsL depth.toNat (bs s) = none) :
    Calls Try.prog 3 #[.string s, .string t, .int .i64 depth, .int .i64 cut] w fun e w' => e = .returned (.bool true) ∧ Below w.heap.size w w' := by
  have HB := Aside0.mk (Below.refl w.heap.size w)
  have hst : (s ++ t).size ≤ 100000 := by rw [ByteArray.size_append]; omega
  have hsum : s.size + t.size ≤ 9223372036854775807 := by omega
  have g1 : ¬ ((s.size : Int) > 4000) := by omega
  have g2 : ¬ ((t.size : Int) > 4000) := by omega
  have g3 : ¬ (depth < 0) := by omega
  have g4 : ¬ (cut < 0) := by omega
  have A1 := fun w => all_err (s := s) (dp := depth) w (by omega) (by omega) hd1 h
  have A2 := fun w => all_any (s := s ++ t) (dp := depth) w hst (by omega) hd1
  have A3 := fun w => all_any (s := t) (dp := depth) w (by omega) (by omega) hd1
  clear h hst
  go_enter Try.func3, Try.ntmps3
  go_wp2_with fail
  refine (wire_first _).mono ?_
  rintro e wb ⟨rfl, hb⟩
  have HBn : Aside0 (Below w.heap.size w wb) := ⟨below_next (by repeat (first | (with_reducible exact HB.out) | apply below_alloc | apply pw_below_drewN | apply below_drew1)) hb⟩; clear HB; have HB := HBn; clear HBn; clear hb
  go_wp2_with fail
  refine (A1 _).mono ?_
  rintro e wb ⟨T1, v1, rfl, hb⟩
  have HBn : Aside0 (Below w.heap.size w wb) := ⟨below_next (by repeat (first | (with_reducible exact HB.out) | apply below_alloc | apply pw_below_drewN | apply below_drew1)) hb⟩; clear HB; have HB := HBn; clear HBn; clear hb
  go_wp2_with fail
  refine (A2 _).mono ?_
  rintro e wb ⟨x2, y2, rfl, hb⟩
  have HBn : Aside0 (Below w.heap.size w wb) := ⟨below_next (by repeat (first | (with_reducible exact HB.out) | apply below_alloc | apply pw_below_drewN | apply below_drew1)) hb⟩; clear HB; have HB := HBn; clear HBn; clear hb
  go_wp2_with fail
  refine (A3 _).mono ?_
  rintro e wb ⟨x3, y3, rfl, hb⟩
  have HBn : Aside0 (Below w.heap.size w wb) := ⟨below_next (by repeat (first | (with_reducible exact HB.out) | apply below_alloc | apply pw_below_drewN | apply below_drew1)) hb⟩; clear HB; have HB := HBn; clear HBn; clear hb
  go_wp2_with fail
  refine (wire_first _).mono ?_
  rintro e wb ⟨rfl, hb⟩
  have HBn : Aside0 (Below w.heap.size w wb) := ⟨below_next (by repeat (first | (with_reducible exact HB.out) | apply below_alloc | apply pw_below_drewN | apply below_drew1)) hb⟩; clear HB; have HB := HBn; clear HBn; clear hb
  go_wp2_with fail
  go_ret
  exact ⟨rfl, (by repeat (first | (with_reducible exact HB.out) | apply below_alloc | apply pw_below_drewN | apply below_drew1))⟩
set_option maxHeartbeats 600000 in
set_option maxRecDepth 100000 in
theorem wcut_1 (s t : ByteArray) (depth cut : Int) (w : World) (hs4 : s.size ≤ 4000) (ht4 : t.size ≤ 4000) (hd0 : 0 ≤ depth) (hd1 : depth < 9223372036854775808) (hc0 : 0 ≤ cut) (hc1 : cut < 9223372036854775808) (L : List RecL) (h : recsL depth.toNat (bs s) = some L) (K : List RecL) (hk : recsL depth.toNat (bs t) = some K) :
    Calls Try.prog 3 #[.string s, .string t, .int .i64 depth, .int .i64 cut] w fun e w' => e = .returned (.bool true) ∧ Below w.heap.size w w' := by
  have HB := Aside0.mk (Below.refl w.heap.size w)
  have hst : (s ++ t).size ≤ 100000 := by rw [ByteArray.size_append]; omega
  have hsum : s.size + t.size ≤ 9223372036854775807 := by omega
  have g1 : ¬ ((s.size : Int) > 4000) := by omega
  have g2 : ¬ ((t.size : Int) > 4000) := by omega
  have g3 : ¬ (depth < 0) := by omega
  have g4 : ¬ (cut < 0) := by omega
  have hpre := recs_pre (bs t) _ (bs s) depth.toNat L rfl h
  rw [hk, ← bs_append] at hpre
  have hraw := recs_raws _ (bs s) depth.toNat L rfl h
  have A1 := fun w => all_good (s := s) (dp := depth) w (by omega) (by omega) hd1 h
  have A2 := fun w => all_len (s := s ++ t) (dp := depth) w (L.length + K.length) hst (by omega) hd1 hpre (by rw [List.length_append])
  have A3 := fun w => all_len (s := t) (dp := depth) w K.length (by omega) (by omega) hd1 hk rfl
  have hKl : K.length ≤ 4000 := by
    have h1 := (recs_raws _ (bs t) depth.toNat K rfl hk)
    have h2 := len_raws K h1.2
    rw [h1.1, bs_length] at h2
    omega
  have hLl : L.length ≤ 4000 := by
    have h2 := len_raws L hraw.2
    rw [hraw.1, bs_length] at h2
    omega
  have HH := Aside0.mk h
  have HRW := Aside0.mk hraw
  clear h hk hst hpre hraw
  go_enter Try.func3, Try.ntmps3
  go_wp2_with fail
  refine (wire_first _).mono ?_
  rintro e wb ⟨rfl, hb⟩
  have HBn : Aside0 (Below w.heap.size w wb) := ⟨below_next (by repeat (first | (with_reducible exact HB.out) | apply below_alloc | apply pw_below_drewN | apply below_drew1)) hb⟩; clear HB; have HB := HBn; clear HBn; clear hb
  go_wp2_with fail
  refine (A1 _).mono ?_
  rintro e wb ⟨A_x, c_x, rfl, hC_, hc_x, hb⟩
  have HC_x := Aside0.mk hC_; clear hC_
  have HBn : Aside0 (Below w.heap.size w wb) := ⟨below_next (by repeat (first | (with_reducible exact HB.out) | apply below_alloc | apply pw_below_drewN | apply below_drew1)) hb⟩; clear HB; have HB := HBn; clear HBn; clear hb
  go_wp2_with fail
  refine (A2 _).mono ?_
  rintro e wb ⟨A_2, c_2, rfl, hb⟩
  have Hn_ := Aside0.mk (Kd.C_below (by (with_reducible repeat (first | apply Kd.C_alloc | apply Kd.C_drewN | apply Kd.C_drew)); exact HC_x.out) hb); clear HC_x; have HC_x := Hn_; clear Hn_
  have HBn : Aside0 (Below w.heap.size w wb) := ⟨below_next (by repeat (first | (with_reducible exact HB.out) | apply below_alloc | apply pw_below_drewN | apply below_drew1)) hb⟩; clear HB; have HB := HBn; clear HBn; clear hb
  go_wp2_with fail
  refine (A3 _).mono ?_
  rintro e wb ⟨A_3, c_3, rfl, hb⟩
  have Hn_ := Aside0.mk (Kd.C_below (by (with_reducible repeat (first | apply Kd.C_alloc | apply Kd.C_drewN | apply Kd.C_drew)); exact HC_x.out) hb); clear HC_x; have HC_x := Hn_; clear Hn_
  have HBn : Aside0 (Below w.heap.size w wb) := ⟨below_next (by repeat (first | (with_reducible exact HB.out) | apply below_alloc | apply pw_below_drewN | apply below_drew1)) hb⟩; clear HB; have HB := HBn; clear HBn; clear hb
  go_wp2_with fail
  have HC := HC_x
  clear HC_x A1 A2 A3
  have HB1 := HB
  go_loopw [15, 16] (fun v15 v16 w' => ∃ j : Nat, j ≤ L.length ∧ v15 = .string (st (raws (L.take j))) ∧ v16 = .int .i64 (j : Int) ∧ w' = wb) (fun _ v16 _ => L.length - (intOf v16).toNat)
  case atStart => exact ⟨0, by omega, rfl, rfl, rfl⟩
  case round =>
    obtain ⟨j, hj, rfl, rfl, rfl⟩ := hrel
    by_cases hlt : j < L.length
    · obtain ⟨ad, rfl, hcell, hcell2, hcell3, hcell4⟩ := recAt HC.out j hlt
      have hjl : (j : Int) < (L.length : Int) := by omega
      have hsm : (st (raws (L.take j))).size + (st (L[j]).raw).size ≤ 9223372036854775807 := by
        have h1 := raws_take_le L j
        have h2 := raw_le L L[j] (List.getElem_mem hlt)
        have h3 := HRW.out.1
        rw [h3, bs_length] at h1 h2
        rw [st_size, st_size]; omega
      go_wp2_with fail
      refine ⟨⟨j + 1, by omega, ?_, by go_num, trivial⟩, by simp [intOf]; omega⟩
      rw [raws_take L j hlt, st_append]
    · obtain rfl : j = L.length := by omega
      rw [List.take_length, HRW.out.1, st_bs]
      clear hj hlt
      by_cases hL0 : L.length = 0
      · obtain rfl : L = [] := List.eq_nil_of_length_eq_zero hL0
        have hse : s = ByteArray.empty := bs_inj HRW.out.1.symm
        subst hse
        clear hL0
        go_wp2_with fail
        go_quiet (fail)
        go_wp2_with fail
        refine (wire_first _).mono ?_
        rintro e wb2 ⟨rfl, hb⟩
        have HB2 := Aside0.mk (below_next (by apply pw_below_drewN; exact HB.out) hb)
        clear hb
        go_wp2_with fail
        go_ret
        exact ⟨rfl, HB2.out⟩
      · obtain ⟨i, hi⟩ : ∃ i, i + 1 = L.length := ⟨L.length - 1, by omega⟩
        obtain ⟨F, hF⟩ : ∃ F : ByteArray, st (L[i]'(by omega)).raw = F := ⟨_, rfl⟩
        obtain ⟨ad, rfl, hcell, hcell2, hcell3, hcell4⟩ := recAt HC.out i (by omega)
        rw [hF] at hcell hcell2 hcell3 hcell4
        have HF := Aside0.mk (And.intro hF (HRW.out.2 L[i] (List.getElem_mem (by omega))))
        have hFs : 2 ≤ F.size := by rw [← hF, st_size]; exact HF.out.2
        have hidx : (L.length : Int) - 1 = (i : Int) := by omega
        have hil : (i : Int) < (L.length : Int) := by omega
        have hL0i : ¬ ((L.length : Int) = 0) := by omega
        have hFu : F.size ≤ s.size := by
          have h2 := raw_le L L[i] (List.getElem_mem (by omega))
          rw [HRW.out.1, bs_length] at h2
          rw [← hF, st_size]; exact h2
        obtain ⟨m, hm⟩ : ∃ m : Nat, m = F.size - 1 := ⟨_, rfl⟩
        have e1 : wrap64 ((F.size : Int) - 1) = (m : Int) := by unfold wrap64; omega
        have hm0 : ¬ ((m : Int) = 0) := by omega
        obtain ⟨q, hq⟩ : ∃ q : Nat, cut % (m : Int) = (q : Int) := ⟨(cut % (m : Int)).toNat, by have := Int.emod_nonneg cut hm0; omega⟩
        have hq2 : q < m := by have := Int.emod_lt_of_pos cut (show 0 < (m : Int) by omega); omega
        obtain ⟨p, hp⟩ : ∃ p : Nat, p = s.size - (q + 1) := ⟨_, rfl⟩
        have e3 : wrap64 ((s.size : Int) - 1 - (q : Int)) = (p : Int) := by unfold wrap64; omega
        have hps : (p : Int) ≤ (s.size : Int) := by omega
        have hA : recsL depth.toNat (bs (s.extract 0 p)) = none := by
          have hc := recs_cut HH.out i hi (q + 1) (by omega) (by have h3 : F.size = (L[i]'(by omega)).raw.length := by rw [← hF, st_size]
                                                                 omega)
          rw [bs_length] at hc
          rw [bs_extract, List.drop_zero, hp]
          exact hc
        have A4 := fun w => all_err (s := s.extract 0 p) (dp := depth) w (by rw [ByteArray.size_extract]; omega) (by omega) hd1 hA
        clear hFu hm hq2 hp HF
        clear hL0 hF hA
        clear hi
        go_wp2_with fail
        go_quiet (fail)
        go_wp2_with fail
        refine (A4 _).mono ?_
        rintro e wb2 ⟨T4, v4, rfl, hb⟩
        have HB2 := Aside0.mk (below_next (by apply pw_below_drewN; exact HB.out) hb)
        clear hb A4
        go_wp2_with fail
        refine (wire_first _).mono ?_
        rintro e wb3 ⟨rfl, hb⟩
        have HB3 := Aside0.mk (below_next HB2.out hb)
        clear hb
        go_wp2_with fail
        go_ret
        exact ⟨rfl, HB3.out⟩
set_option maxHeartbeats 600000 in
set_option maxRecDepth 100000 in
theorem wcut_2 (s t : ByteArray) (depth cut : Int) (w : World) (hs4 : s.size ≤ 4000) (ht4 : t.size ≤ 4000) (hd0 : 0 ≤ depth) (hd1 : depth < 9223372036854775808) (hc0 : 0 ≤ cut) (hc1 : cut < 9223372036854775808) (L : List RecL) (h : recsL depth.toNat (bs s) = some L) (hk : recsL depth.toNat (bs t) = none) :
    Calls Try.prog 3 #[.string s, .string t, .int .i64 depth, .int .i64 cut] w fun e w' => e = .returned (.bool true) ∧ Below w.heap.size w w' := by
  have HB := Aside0.mk (Below.refl w.heap.size w)
  have hst : (s ++ t).size ≤ 100000 := by rw [ByteArray.size_append]; omega
  have hsum : s.size + t.size ≤ 9223372036854775807 := by omega
  have g1 : ¬ ((s.size : Int) > 4000) := by omega
  have g2 : ¬ ((t.size : Int) > 4000) := by omega
  have g3 : ¬ (depth < 0) := by omega
  have g4 : ¬ (cut < 0) := by omega
  have hpre := recs_pre (bs t) _ (bs s) depth.toNat L rfl h
  rw [hk, ← bs_append] at hpre
  have hraw := recs_raws _ (bs s) depth.toNat L rfl h
  have A1 := fun w => all_good (s := s) (dp := depth) w (by omega) (by omega) hd1 h
  have A2 := fun w => all_err (s := s ++ t) (dp := depth) w hst (by omega) hd1 hpre
  have A3 := fun w => all_err (s := t) (dp := depth) w (by omega) (by omega) hd1 hk
  have hLl : L.length ≤ 4000 := by
    have h2 := len_raws L hraw.2
    rw [hraw.1, bs_length] at h2
    omega
  have HH := Aside0.mk h
  have HRW := Aside0.mk hraw
  clear h hk hst hpre hraw
  go_enter Try.func3, Try.ntmps3
  go_wp2_with fail
  refine (wire_first _).mono ?_
  rintro e wb ⟨rfl, hb⟩
  have HBn : Aside0 (Below w.heap.size w wb) := ⟨below_next (by repeat (first | (with_reducible exact HB.out) | apply below_alloc | apply pw_below_drewN | apply below_drew1)) hb⟩; clear HB; have HB := HBn; clear HBn; clear hb
  go_wp2_with fail
  refine (A1 _).mono ?_
  rintro e wb ⟨A_x, c_x, rfl, hC_, hc_x, hb⟩
  have HC_x := Aside0.mk hC_; clear hC_
  have HBn : Aside0 (Below w.heap.size w wb) := ⟨below_next (by repeat (first | (with_reducible exact HB.out) | apply below_alloc | apply pw_below_drewN | apply below_drew1)) hb⟩; clear HB; have HB := HBn; clear HBn; clear hb
  go_wp2_with fail
  refine (A2 _).mono ?_
  rintro e wb ⟨T2, v2, rfl, hb⟩
  have Hn_ := Aside0.mk (Kd.C_below (by (with_reducible repeat (first | apply Kd.C_alloc | apply Kd.C_drewN | apply Kd.C_drew)); exact HC_x.out) hb); clear HC_x; have HC_x := Hn_; clear Hn_
  have HBn : Aside0 (Below w.heap.size w wb) := ⟨below_next (by repeat (first | (with_reducible exact HB.out) | apply below_alloc | apply pw_below_drewN | apply below_drew1)) hb⟩; clear HB; have HB := HBn; clear HBn; clear hb
  go_wp2_with fail
  refine (A3 _).mono ?_
  rintro e wb ⟨T3, v3, rfl, hb⟩
  have Hn_ := Aside0.mk (Kd.C_below (by (with_reducible repeat (first | apply Kd.C_alloc | apply Kd.C_drewN | apply Kd.C_drew)); exact HC_x.out) hb); clear HC_x; have HC_x := Hn_; clear Hn_
  have HBn : Aside0 (Below w.heap.size w wb) := ⟨below_next (by repeat (first | (with_reducible exact HB.out) | apply below_alloc | apply pw_below_drewN | apply below_drew1)) hb⟩; clear HB; have HB := HBn; clear HBn; clear hb
  go_wp2_with fail
  have HC := HC_x
  clear HC_x A1 A2 A3
  have HB1 := HB
  go_loopw [15, 16] (fun v15 v16 w' => ∃ j : Nat, j ≤ L.length ∧ v15 = .string (st (raws (L.take j))) ∧ v16 = .int .i64 (j : Int) ∧ w' = wb) (fun _ v16 _ => L.length - (intOf v16).toNat)
  case atStart => exact ⟨0, by omega, rfl, rfl, rfl⟩
  case round =>
    obtain ⟨j, hj, rfl, rfl, rfl⟩ := hrel
    by_cases hlt : j < L.length
    · obtain ⟨ad, rfl, hcell, hcell2, hcell3, hcell4⟩ := recAt HC.out j hlt
      have hjl : (j : Int) < (L.length : Int) := by omega
      have hsm : (st (raws (L.take j))).size + (st (L[j]).raw).size ≤ 9223372036854775807 := by
        have h1 := raws_take_le L j
        have h2 := raw_le L L[j] (List.getElem_mem hlt)
        have h3 := HRW.out.1
        rw [h3, bs_length] at h1 h2
        rw [st_size, st_size]; omega
      go_wp2_with fail
      refine ⟨⟨j + 1, by omega, ?_, by go_num, trivial⟩, by simp [intOf]; omega⟩
      rw [raws_take L j hlt, st_append]
    · obtain rfl : j = L.length := by omega
      rw [List.take_length, HRW.out.1, st_bs]
      clear hj hlt
      by_cases hL0 : L.length = 0
      · obtain rfl : L = [] := List.eq_nil_of_length_eq_zero hL0
        have hse : s = ByteArray.empty := bs_inj HRW.out.1.symm
        subst hse
        clear hL0
        go_wp2_with fail
        go_quiet (fail)
        go_wp2_with fail
        refine (wire_first _).mono ?_
        rintro e wb2 ⟨rfl, hb⟩
        have HB2 := Aside0.mk (below_next (by apply pw_below_drewN; exact HB.out) hb)
        clear hb
        go_wp2_with fail
        go_ret
        exact ⟨rfl, HB2.out⟩
      · obtain ⟨i, hi⟩ : ∃ i, i + 1 = L.length := ⟨L.length - 1, by omega⟩
        obtain ⟨F, hF⟩ : ∃ F : ByteArray, st (L[i]'(by omega)).raw = F := ⟨_, rfl⟩
        obtain ⟨ad, rfl, hcell, hcell2, hcell3, hcell4⟩ := recAt HC.out i (by omega)
        rw [hF] at hcell hcell2 hcell3 hcell4
        have HF := Aside0.mk (And.intro hF (HRW.out.2 L[i] (List.getElem_mem (by omega))))
        have hFs : 2 ≤ F.size := by rw [← hF, st_size]; exact HF.out.2
        have hidx : (L.length : Int) - 1 = (i : Int) := by omega
        have hil : (i : Int) < (L.length : Int) := by omega
        have hL0i : ¬ ((L.length : Int) = 0) := by omega
        have hFu : F.size ≤ s.size := by
          have h2 := raw_le L L[i] (List.getElem_mem (by omega))
          rw [HRW.out.1, bs_length] at h2
          rw [← hF, st_size]; exact h2
        obtain ⟨m, hm⟩ : ∃ m : Nat, m = F.size - 1 := ⟨_, rfl⟩
        have e1 : wrap64 ((F.size : Int) - 1) = (m : Int) := by unfold wrap64; omega
        have hm0 : ¬ ((m : Int) = 0) := by omega
        obtain ⟨q, hq⟩ : ∃ q : Nat, cut % (m : Int) = (q : Int) := ⟨(cut % (m : Int)).toNat, by have := Int.emod_nonneg cut hm0; omega⟩
        have hq2 : q < m := by have := Int.emod_lt_of_pos cut (show 0 < (m : Int) by omega); omega
        obtain ⟨p, hp⟩ : ∃ p : Nat, p = s.size - (q + 1) := ⟨_, rfl⟩
        have e3 : wrap64 ((s.size : Int) - 1 - (q : Int)) = (p : Int) := by unfold wrap64; omega
        have hps : (p : Int) ≤ (s.size : Int) := by omega
        have hA : recsL depth.toNat (bs (s.extract 0 p)) = none := by
          have hc := recs_cut HH.out i hi (q + 1) (by omega) (by have h3 : F.size = (L[i]'(by omega)).raw.length := by rw [← hF, st_size]
                                                                 omega)
          rw [bs_length] at hc
          rw [bs_extract, List.drop_zero, hp]
          exact hc
        have A4 := fun w => all_err (s := s.extract 0 p) (dp := depth) w (by rw [ByteArray.size_extract]; omega) (by omega) hd1 hA
        clear hFu hm hq2 hp HF
        clear hL0 hF hA
        clear hi
        go_wp2_with fail
        go_quiet (fail)
        go_wp2_with fail
        refine (A4 _).mono ?_
        rintro e wb2 ⟨T4, v4, rfl, hb⟩
        have HB2 := Aside0.mk (below_next (by apply pw_below_drewN; exact HB.out) hb)
        clear hb A4
        go_wp2_with fail
        refine (wire_first _).mono ?_
        rintro e wb3 ⟨rfl, hb⟩
        have HB3 := Aside0.mk (below_next HB2.out hb)
        clear hb
        go_wp2_with fail
        go_ret
        exact ⟨rfl, HB3.out⟩
set_option maxHeartbeats 4000000 in
set_option maxRecDepth 100000 in
theorem wireCut_walk (s t : ByteArray) (depth cut : Int) (w : World) (hs : s.size ≤ 140737488351232) (ht : t.size ≤ 140737488351232) (_hd0 : -9223372036854775808 ≤ depth) (hd1 : depth < 9223372036854775808) (_hc0 : -9223372036854775808 ≤ cut) (hc1 : cut < 9223372036854775808) :
    Calls Try.prog 3 #[.string s, .string t, .int .i64 depth, .int .i64 cut] w fun e w' => e = .returned (.bool true) ∧ Below w.heap.size w w' := by
  have HB := Aside0.mk (Below.refl w.heap.size w)
  by_cases c1 : 4000 < s.size
  · clear hs ht
    go_enter Try.func3, Try.ntmps3
    go_wp2_with (first
      | (go_at_call 5; refine (wire_first _).mono ?_; rintro e wb ⟨rfl, hb⟩; have HBn : Aside0 (Below w.heap.size w wb) := ⟨below_next (by repeat (first | (with_reducible exact HB.out) | apply below_alloc | apply pw_below_drewN | apply below_drew1)) hb⟩; clear HB hb; have HB := HBn; clear HBn))
    go_ret
    exact ⟨rfl, (by repeat (first | (with_reducible exact HB.out) | apply below_alloc | apply pw_below_drewN | apply below_drew1))⟩
  by_cases c2 : 4000 < t.size
  · clear hs ht
    go_enter Try.func3, Try.ntmps3
    go_wp2_with (first
      | (go_at_call 5; refine (wire_first _).mono ?_; rintro e wb ⟨rfl, hb⟩; have HBn : Aside0 (Below w.heap.size w wb) := ⟨below_next (by repeat (first | (with_reducible exact HB.out) | apply below_alloc | apply pw_below_drewN | apply below_drew1)) hb⟩; clear HB hb; have HB := HBn; clear HBn))
    go_ret
    exact ⟨rfl, (by repeat (first | (with_reducible exact HB.out) | apply below_alloc | apply pw_below_drewN | apply below_drew1))⟩
  by_cases c3 : depth < 0
  · clear hs ht
    go_enter Try.func3, Try.ntmps3
    go_wp2_with (first
      | (go_at_call 5; refine (wire_first _).mono ?_; rintro e wb ⟨rfl, hb⟩; have HBn : Aside0 (Below w.heap.size w wb) := ⟨below_next (by repeat (first | (with_reducible exact HB.out) | apply below_alloc | apply pw_below_drewN | apply below_drew1)) hb⟩; clear HB hb; have HB := HBn; clear HBn))
    go_ret
    exact ⟨rfl, (by repeat (first | (with_reducible exact HB.out) | apply below_alloc | apply pw_below_drewN | apply below_drew1))⟩
  by_cases c4 : cut < 0
  · clear hs ht
    go_enter Try.func3, Try.ntmps3
    go_wp2_with (first
      | (go_at_call 5; refine (wire_first _).mono ?_; rintro e wb ⟨rfl, hb⟩; have HBn : Aside0 (Below w.heap.size w wb) := ⟨below_next (by repeat (first | (with_reducible exact HB.out) | apply below_alloc | apply pw_below_drewN | apply below_drew1)) hb⟩; clear HB hb; have HB := HBn; clear HBn))
    go_ret
    exact ⟨rfl, (by repeat (first | (with_reducible exact HB.out) | apply below_alloc | apply pw_below_drewN | apply below_drew1))⟩
  cases h : recsL depth.toNat (bs s) with
  | none => exact wcut_0 s t depth cut w (by omega) (by omega) (by omega) hd1 (by omega) hc1 h
  | some L =>
    cases hk : recsL depth.toNat (bs t) with
    | none => exact wcut_2 s t depth cut w (by omega) (by omega) (by omega) hd1 (by omega) hc1 L h hk
    | some K => exact wcut_1 s t depth cut w (by omega) (by omega) (by omega) hd1 (by omega) hc1 L h K hk
end Go.Proofs.Ytklkiofhenhafaa
