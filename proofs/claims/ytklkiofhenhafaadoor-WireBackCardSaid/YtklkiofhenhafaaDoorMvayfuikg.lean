import Derived.Test.YtklkiofhenhafaaDoorMnsecdrwy
import Derived.Test.YtklkiofhenhafaaDoorMpnogqffe
import Derived.Test.YtklkiofhenhafaaDoorMlrlhopvx
namespace Go.Proofs.YtklkiofhenhafaaDoor
open Go.RowKit Go.Proofs.YtklkiofhenhafaaDoorW.PrintWords Go.Proofs.YtklkiofhenhafaaDoorW.PrintLast Go.Proofs.YtklkiofhenhafaaDoorW.PrintMore Hy

theorem str_info : (Tryd.prog.info? 9).map (fun i => (i.zero, i.size, i.bytes)) = some (some (.string ByteArray.empty), 1, 16) := by kernel_rfl
/-- What is known of a record that is written. -/
def TOk (t : ByteArray) (b : Nat) : Prop := t.size ≤ b ∧ (t = ByteArray.empty ∨ IsRec (bs t))
theorem IsRec.ne {t : ByteArray} (h : IsRec (bs t)) : ¬ t = ByteArray.empty := by
  rintro rfl
  obtain ⟨R, _, hd⟩ := h
  have := recL_le (hd 0)
  rw [show bs ByteArray.empty = [] from rfl, List.length_nil] at this
  omega
theorem recB_size (n t : Int) (x : ByteArray) : (recB n t x).size ≤ 5 + x.size := by
  unfold recB
  by_cases h : n < 1 ∨ n > 536870911 ∨ t < 0 ∨ t > 5
  · rw [if_pos h]
    exact Nat.zero_le _
  · rw [if_neg h, ByteArray.size_append, put_size]
    have := putL_len 4 (n * 8 + t).toNat (by omega)
    omega
theorem tok_0 (n : Int) (v : Nat) (hv : v < 18446744073709551616) : TOk (recB n 0 (put v)) 20 := by
  refine ⟨?_, ?_⟩
  · have h1 := recB_size n 0 (put v)
    have h2 := putL_len10 v hv
    rw [put_size, Int.toNat_natCast] at h1
    omega
  · by_cases h : n < 1 ∨ 536870911 < n
    · exact .inl (recB_none n 0 _ h)
    · rw [bs_recB n 0 _ (by omega) (by omega) (by omega) (by omega), bs_put, Int.toNat_natCast]
      exact .inr (isRec_0 n.toNat v (by omega) (by omega) hv)
theorem tok_1 (n : Int) (v : Nat) : TOk (recB n 1 (st (leL 8 v))) 20 := by
  refine ⟨?_, ?_⟩
  · have h1 := recB_size n 1 (st (leL 8 v))
    rw [st_size, leL_length] at h1
    omega
  · by_cases h : n < 1 ∨ 536870911 < n
    · exact .inl (recB_none n 1 _ h)
    · rw [bs_recB n 1 _ (by omega) (by omega) (by omega) (by omega), bs_st _ (leL_ok _ _)]
      exact .inr (isRec_1 n.toNat v (by omega) (by omega))
theorem tok_2 (n : Int) (x : ByteArray) (hx : x.size ≤ 1400) : TOk (recB n 2 (put (x.size : Int) ++ x)) 1420 := by
  refine ⟨?_, ?_⟩
  · have h1 := recB_size n 2 (put (x.size : Int) ++ x)
    have h2 := putL_len10 x.size (by omega)
    rw [ByteArray.size_append, put_size, Int.toNat_natCast] at h1
    omega
  · by_cases h : n < 1 ∨ 536870911 < n
    · exact .inl (recB_none n 2 _ h)
    · rw [bs_recB n 2 _ (by omega) (by omega) (by omega) (by omega), bs_append, bs_put, Int.toNat_natCast]
      have := isRec_2 n.toNat (bs x) (by omega) (by omega) (by rw [bs_length]; omega)
      rw [bs_length] at this
      exact .inr this
theorem next_self (R : RecL) (t : ByteArray) (w : World) (hr : R.raw = bs t) (h : recL 0 R.raw = some (R, R.raw.length)) (hs : t.size ≤ 100000) :
    Calls Tryd.prog 7 #[.string t, .int .i64 0, .int .i64 0] w fun e w' => e = .returned (.tuple #[recV (R.num : Int) (R.type : Int) (R.n : Int) (st R.s) t, .int .i64 (t.size : Int), .nilIface]) ∧ Below w.heap.size w w' := by
  rw [hr, bs_length] at h
  have hex : t.extract 0 t.size = t := by simp
  have hst : st R.raw = t := by rw [hr, st_bs]
  have H := wnext_ok w t 0 t.size R.num R.type 0 R.n (st R.s) (Nat.zero_le _) (Nat.le_refl _) (by omega) (fun W r hW => by
    have := record_ok t (by omega) W r 0 t.size R 0 hW (Nat.zero_le _) (by omega) (by omega) (by rw [List.drop_zero]; exact h)
    rw [hst, Nat.zero_add] at this
    unfold RecOk
    rw [hex]
    exact this)
  rw [hex] at H
  exact H
theorem size_up (i r a t : Nat) (hr : i % 3 = r) (ha : a ≤ 20 * i + 1400 * (i / 3)) (ht : t ≤ if r = 2 then 1420 else 20) : a + t ≤ 20 * (i + 1) + 1400 * ((i + 1) / 3) := by
  by_cases h : r = 2
  · rw [if_pos h] at ht; omega
  · rw [if_neg h] at ht; omega
set_option maxHeartbeats 8000000 in
set_option maxRecDepth 100000 in
theorem wback_go (A1 : Option Addr) (c1 : Nat) (l : List Int) (A2 : Option Addr) (c2 : Nat) (u : List Int) (n : Nat) (s : ByteArray) (D : Nat) (w : World) (h1 : Kd.C (Kd.int .i64) w A1 l.length l) (h2 : Kd.C (Kd.int .u64) w A2 u.length u) (hl : l.length = n) (hu : u.length = n) (hn : n ≤ 100) (hs : s.size ≤ 4000) (hD : D ≤ 50)
    (hx : ∀ x ∈ l, -9223372036854775808 ≤ x ∧ x < 9223372036854775808) (hy : ∀ x ∈ u, 0 ≤ x ∧ x < 18446744073709551616) (hg : Laid w) :
    Calls Tryd.prog 4 #[.slice A1 n c1, .slice A2 n c2, .string s, .int .i64 (D : Int)] w fun e w' => e = .returned (.bool true) ∧ Below w.heap.size w w' := by
  have HB := Aside0.mk (Below.refl w.heap.size w)
  have HR1 := Aside0.mk h1
  have HR2 := Aside0.mk h2
  have HL := Aside0.mk hl
  have HLU := Aside0.mk hu
  have HG := Aside0.mk hg
  have HX := Aside0.mk hx
  have HY := Aside0.mk hy
  have HD := Aside0.mk hD
  have HS := Aside0.mk hs
  have HN := Aside0.mk hn
  have g1 : ¬ ((n : Int) > 100) := by omega
  have g2 : ¬ ((s.size : Int) > 4000) := by omega
  have g3 : ¬ ((D : Int) < 0) := by omega
  have g4 : ¬ ((D : Int) > 50) := by omega
  clear h1 h2 hl hu hg hx hy hs hD
  go_enter Tryd.func4, Tryd.ntmps4
  go_wp2_with (first
    | (go_at_call 6; refine (wire_first _).mono ?_; rintro e wb ⟨rfl, hb⟩; have HBn : Aside0 (Below w.heap.size w wb) := ⟨below_next (by repeat (first | (with_reducible exact HB.out) | apply below_alloc | apply pw_below_drewN | apply below_drew1)) hb⟩; clear HB hb; have HB := HBn; clear HBn))
  go_loopw [9, 10, 11, 12] (fun v9 v10 v11 _ w' => ∃ (i k : Nat) (all : ByteArray) (W : List ByteArray) (A3 : Option Addr) (c3 : Nat), v9 = .string all ∧ v10 = .slice A3 k c3 ∧ v11 = .int .i64 (i : Int) ∧ i ≤ n ∧ k ≤ i ∧ Aside0 (W.length = k) ∧ Aside0 (AllIn all W) ∧ Aside0 (all.size ≤ 20 * i + 1400 * (i / 3)) ∧ Aside0 (Kd.R Kd.string 9 w' w.heap.size (fun _ => True) (.slice A3 k c3) W) ∧ Aside0 (Below w.heap.size w w')) (fun _ _ v11 _ _ => n - (intOf v11).toNat)
  case atStart => exact ⟨0, 0, ByteArray.empty, [], none, 0, rfl, rfl, rfl, Nat.zero_le _, Nat.le_refl _, ⟨rfl⟩, ⟨allIn_nil⟩, ⟨Nat.zero_le _⟩, ⟨Kd.R_nil _ _ _ _ _⟩, HB⟩
  case round =>
    clear HB
    obtain ⟨i, k, all, W, A3, c3, rfl, rfl, rfl, hi, hk, HW, HA, HZ, HO, HB⟩ := hrel
    by_cases hlt : i < n
    · obtain ⟨ad, rfl, hc1⟩ := cellAt (Kd.C_below HR1.out HB.out) i (by have := HL.out; omega)
      obtain ⟨ae, rfl, hc2⟩ := cellAt (Kd.C_below HR2.out HB.out) i (by have := HLU.out; omega)
      have hyi := HY.out _ (List.getElem_mem (show i < u.length by have := HLU.out; omega))
      generalize l[i]'(by have := HL.out; omega) = x at hc1
      obtain ⟨y, hyv⟩ : ∃ y : Nat, u[i]'(by have := HLU.out; omega) = (y : Int) := ⟨(u[i]'(by have := HLU.out; omega)).toNat, by omega⟩
      rw [hyv] at hc2 hyi
      have hy64 : y < 18446744073709551616 := by omega
      have T0 := Aside0.mk (tok_0 x y hy64)
      have V0 := fun w => wvarint_any x (y : Int) w (by omega) (by omega)
      obtain ⟨r, hr⟩ : ∃ r, i % 3 = r := ⟨_, rfl⟩
      have HRr := Aside0.mk hr
      have HC1 := Aside0.mk hc1
      have HC2 := Aside0.mk hc2
      have HY64 := Aside0.mk hy64
      generalize recB x 0 (put (y : Int)) = t0 at V0 T0
      clear hc1 hc2 hyi hyv hy64
      go_wp2_with fail
      refine start_ (n := 10) (S := fun w' => w'.cell? (ad.add i) = some (.int .i64 x) ∧ w'.cell? (ae.add i) = some (.int .u64 (y : Int))) (ds := []) #[false, false, false, false, false, false, false, false, false, false] (by kernel_rfl) rfl rfl ⟨HC1.out, HC2.out⟩ (fun hHeld => ?_)
      refine pure_ (i := 0) (N := some 55) (v := ?_) (a' := ?_) #[true, false, false, false, false, false, false, false, false, false] rfl rfl (by kernel_rfl) (fun _ _ _ h => h) (Or.inl ⟨by rfl, ?_⟩) ?_ ?_
      rotate_left
      · intro w'
        go_simp
        first | with_reducible rfl | (rw [if_neg (by first | omega | (rw [ByteArray.size_append]; omega))])
      rotate_left
      · simp only [Act.put, List.setIfInBounds_toArray, List.set_cons_zero, List.set_cons_succ]
        rfl
      refine pure_ (i := 1) (N := some 56) (v := ?_) (a' := ?_) #[true, true, false, false, false, false, false, false, false, false] rfl rfl (by kernel_rfl) (fun _ _ _ h => h) (Or.inl ⟨by rfl, ?_⟩) ?_ ?_
      rotate_left
      · intro w'
        go_simp
        first | with_reducible rfl | (rw [if_neg (by first | omega | (rw [ByteArray.size_append]; omega))])
      rotate_left
      · simp only [Act.put, List.setIfInBounds_toArray, List.set_cons_zero, List.set_cons_succ]
        rfl
      refine pure_ (i := 2) (N := some 57) (v := ?_) (a' := ?_) #[true, true, true, false, false, false, false, false, false, false] rfl rfl (by kernel_rfl) (fun _ _ _ h => h) (Or.inl ⟨by rfl, ?_⟩) ?_ ?_
      rotate_left
      · intro w'
        go_simp
        first | with_reducible rfl | (rw [if_neg (by first | omega | (rw [ByteArray.size_append]; omega))])
      rotate_left
      · simp only [Act.put, List.setIfInBounds_toArray, List.set_cons_zero, List.set_cons_succ]
        rfl
      refine pure_ (i := 4) (N := some 59) (v := ?_) (a' := ?_) #[true, true, true, false, true, false, false, false, false, false] rfl rfl (by kernel_rfl) (fun _ _ _ h => h) (Or.inl ⟨by rfl, ?_⟩) ?_ ?_
      rotate_left
      · intro w'
        go_simp
        first | with_reducible rfl | (rw [if_neg (by first | omega | (rw [ByteArray.size_append]; omega))])
      rotate_left
      · simp only [Act.put, List.setIfInBounds_toArray, List.set_cons_zero, List.set_cons_succ]
        rfl
      refine pure_ (i := 5) (N := some 60) (v := ?_) (a' := ?_) #[true, true, true, false, true, true, false, false, false, false] rfl rfl (by kernel_rfl) (fun _ _ _ h => h) (Or.inl ⟨by rfl, ?_⟩) ?_ ?_
      rotate_left
      · intro w'
        go_simp
        first | with_reducible rfl | (rw [if_neg (by first | omega | (rw [ByteArray.size_append]; omega))])
      rotate_left
      · simp only [Act.put, List.setIfInBounds_toArray, List.set_cons_zero, List.set_cons_succ]
        rfl
      refine pure_ (i := 6) (N := some 61) (v := ?_) (a' := ?_) #[true, true, true, false, true, true, true, false, false, false] rfl rfl (by kernel_rfl) (fun _ _ _ h => h) (Or.inl ⟨by rfl, ?_⟩) ?_ ?_
      rotate_left
      · intro w'
        go_simp
        first | with_reducible rfl | (rw [if_neg (by first | omega | (rw [ByteArray.size_append]; omega))])
      rotate_left
      · simp only [Act.put, List.setIfInBounds_toArray, List.set_cons_zero, List.set_cons_succ]
        rfl
      refine take_ (i := 3) (N := some 58) (v := ?_) (a' := ?_) #[true, true, true, true, true, true, true, false, false, false] rfl rfl (by kernel_rfl) (fun _ _ _ h => h) (Or.inl ⟨by rfl, ?_⟩) hHeld ?_ ?_
      rotate_left
      · rintro w' ⟨s0, s1⟩
        go_simp
        first | with_reducible rfl | (rw [if_neg (by first | omega | (rw [ByteArray.size_append]; omega))])
      rotate_left
      · simp only [Act.put, List.setIfInBounds_toArray, List.set_cons_zero, List.set_cons_succ]
        rfl
      refine take_ (i := 7) (N := some 62) (v := ?_) (a' := ?_) #[true, true, true, true, true, true, true, true, false, false] rfl rfl (by kernel_rfl) (fun _ _ _ h => h) (Or.inl ⟨by rfl, ?_⟩) hHeld ?_ ?_
      rotate_left
      · rintro w' ⟨s0, s1⟩
        go_simp
        first | with_reducible rfl | (rw [if_neg (by first | omega | (rw [ByteArray.size_append]; omega))])
      rotate_left
      · simp only [Act.put, List.setIfInBounds_toArray, List.set_cons_zero, List.set_cons_succ]
        rfl
      refine one_ (i := 8) (N := some 63) #[true, true, true, true, true, true, true, true, true, false] rfl rfl (by kernel_rfl) (by decide) (fun K hK => ?_)
      refine goes_ Tryd.func14 (by kernel_rfl) rfl #[.int .i64 x, .int .u64 (y : Int)] (by rfl) rfl rfl (by simp only [List.map_toArray, List.map_cons, List.map_nil]; rfl) ?_
      with_reducible refine (V0 _).mono ?_
      rintro e w2 ⟨rfl, hb⟩
      refine ⟨_, rfl, ?_⟩
      have HBn : Aside0 (Below w.heap.size w w2) := ⟨below_next (below_drew1 HB.out) hb⟩
      clear HB
      have HB := HBn
      clear HBn
      have HOn := Aside0.mk (Kd.R_below (Kd.R_drew HO.out) hb)
      clear HO
      have HO := HOn
      clear HOn
      have HCn : Aside0 (w2.cell? (ad.add i) = some (.int .i64 x)) := ⟨(hb.cell (cell_lt (show (wr.drew).cell? _ = _ from HC1.out))).trans HC1.out⟩
      clear HC1
      have HC1 := HCn
      clear HCn
      have HCn : Aside0 (w2.cell? (ae.add i) = some (.int .u64 (y : Int))) := ⟨(hb.cell (cell_lt (show (wr.drew).cell? _ = _ from HC2.out))).trans HC2.out⟩
      clear HC2
      have HC2 := HCn
      clear HCn hb
      refine hK.out _ _ ⟨HC1.out, HC2.out⟩ (fun hHeld => ?_)
      clear hK K
      refine norm_ (a' := ?_) ?_ ?_
      rotate_left
      · show Act.put _ (some 63) _ = _
        simp only [Act.put, List.setIfInBounds_toArray, List.set_cons_zero, List.set_cons_succ]
        rfl
      refine pure_ (i := 9) (N := some 12) (v := ?_) (a' := ?_) #[true, true, true, true, true, true, true, true, true, true] rfl rfl (by kernel_rfl) (fun _ _ _ h => h) (Or.inl ⟨by rfl, ?_⟩) ?_ ?_
      rotate_left
      · intro w'
        go_simp
        first | with_reducible rfl | (rw [if_neg (by first | omega | (rw [ByteArray.size_append]; omega))])
      rotate_left
      · simp only [Act.put, List.setIfInBounds_toArray, List.set_cons_zero, List.set_cons_succ]
        rfl
      refine done_ (by kernel_rfl) ?_
      clear V0
      have hr3 : r = 0 ∨ r = 1 ∨ r = 2 := by omega
      rcases hr3 with rfl | rfl | rfl
      · have hm : (i : Int) % 3 = 0 := by omega
        clear hr
        have HT := T0
        have hsum : all.size + t0.size ≤ 9223372036854775807 := by have h1 := HT.out.1; have h2 := HZ.out; omega
        have HZn : Aside0 ((all ++ t0).size ≤ 20 * (i + 1) + 1400 * ((i + 1) / 3)) := ⟨by rw [ByteArray.size_append]; exact size_up i 0 all.size t0.size HRr.out HZ.out (by have := HT.out.1; simpa using this)⟩
        rcases HT.out.2 with he | hrec
        · subst he
          have HZm : Aside0 (all.size ≤ 20 * (i + 1) + 1400 * ((i + 1) / 3)) := ⟨by have := HZn.out; rwa [ByteArray.append_empty] at this⟩
          clear HT T0
          go_wp2_with fail
          go_roundw
          case rel => exact ⟨i + 1, k, all, W, A3, c3, rfl, rfl, by go_num, by omega, by omega, HW, HA, HZm, HO, HB⟩
          case measure => simp [intOf]; omega
        · have HAn : Aside0 (AllIn (all ++ t0) (W ++ [t0])) := ⟨allIn_snoc HA.out hrec⟩
          have hne : ¬ t0.toList = ([] : List UInt8) := fun e => hrec.ne (str_toList (by rw [e, ByteArray.toList_eq]; rfl))
          have hne2 : (t0.toList == ([] : List UInt8)) = false := by simpa using hne
          have hne3 : t0.toList.isEmpty = false := by simpa using hne
          clear HT T0 hrec
          go_wp2_with (first
            | ((with_reducible refine gate_builtin (b := .append) (xs := #[.tmp 93, .tmp 95]) rfl ?_); at_builtin; refine Kd.R_append Kd.string (w0 := w) w.heap.size rfl (.tmp 93) (.tmp 95) 46 9 (.string ByteArray.empty) 16 rfl Tryd.underlying46 str_info rfl (by decide) (by omega) (.slice A3 k c3) W t0 [.string t0] (fun _ => True) (fun _ => False) rfl rfl ?aP (fun _ hk => hk.elim) ?aF ?aO ?aB ?aS ?aL ?_; (case aP => exact rfl); (case aB => exact (by repeat (first | (with_reducible exact HB.out) | apply below_alloc | apply pw_below_drewN | apply below_drew1))); (case aF => exact (fun _ _ => trivial)); (case aO => exact (by (with_reducible repeat (first | apply Kd.R_alloc | apply Kd.R_drewN | apply Kd.R_drew)); exact HO.out)); (case aS => exact (below_size (by repeat (first | (with_reducible exact HB.out) | apply below_alloc | apply pw_below_drewN | apply below_drew1)))); (case aL => (have := HW.out; have := HN.out; omega)); intro va wa ho hb hg hat; have n0_ := Aside0.mk hb; have n1_ := Aside0.mk ho; clear HB HO; have HB := n0_; have HO := n1_; clear n0_ n1_ ho hb hg hat))
          obtain ⟨A4, c4, rfl, hc4, _⟩ := Kd.R_reads HO.out
          have hlen : (W ++ [t0]).length = k + 1 := by rw [List.length_append, List.length_singleton, HW.out]
          have HOn := HO.out
          rw [hlen] at HOn ⊢
          have HOn := Aside0.mk HOn
          have HWn := Aside0.mk hlen
          clear hlen HO hc4 hne hne2 hne3 hsum
          go_wp2_with fail
          go_roundw
          case rel => exact ⟨i + 1, k + 1, _, W ++ [t0], A4, c4, rfl, rfl, by go_num, by omega, by omega, HWn, HAn, HZn, HOn, HB⟩
          case measure => simp [intOf]; omega
      · have hm : (i : Int) % 3 = 1 := by omega
        have V1 := fun w => wfixed_any x y w HY64.out
        have T1 := Aside0.mk (tok_1 x y)
        generalize recB x 1 (st (leL 8 y)) = t1 at V1 T1
        clear hr
        clear hHeld
        go_wp2_with fail
        refine start_ (n := 10) (S := fun w' => w'.cell? (ad.add i) = some (.int .i64 x) ∧ w'.cell? (ae.add i) = some (.int .u64 (y : Int))) (ds := []) #[false, false, false, false, false, false, false, false, false, false] (by kernel_rfl) rfl rfl ⟨HC1.out, HC2.out⟩ (fun hHeld => ?_)
        refine pure_ (i := 0) (N := some 68) (v := ?_) (a' := ?_) #[true, false, false, false, false, false, false, false, false, false] rfl rfl (by kernel_rfl) (fun _ _ _ h => h) (Or.inl ⟨by rfl, ?_⟩) ?_ ?_
        rotate_left
        · intro w'
          go_simp
          first | with_reducible rfl | (rw [if_neg (by first | omega | (rw [ByteArray.size_append]; omega))])
        rotate_left
        · simp only [Act.put, List.setIfInBounds_toArray, List.set_cons_zero, List.set_cons_succ]
          rfl
        refine pure_ (i := 1) (N := some 69) (v := ?_) (a' := ?_) #[true, true, false, false, false, false, false, false, false, false] rfl rfl (by kernel_rfl) (fun _ _ _ h => h) (Or.inl ⟨by rfl, ?_⟩) ?_ ?_
        rotate_left
        · intro w'
          go_simp
          first | with_reducible rfl | (rw [if_neg (by first | omega | (rw [ByteArray.size_append]; omega))])
        rotate_left
        · simp only [Act.put, List.setIfInBounds_toArray, List.set_cons_zero, List.set_cons_succ]
          rfl
        refine pure_ (i := 2) (N := some 70) (v := ?_) (a' := ?_) #[true, true, true, false, false, false, false, false, false, false] rfl rfl (by kernel_rfl) (fun _ _ _ h => h) (Or.inl ⟨by rfl, ?_⟩) ?_ ?_
        rotate_left
        · intro w'
          go_simp
          first | with_reducible rfl | (rw [if_neg (by first | omega | (rw [ByteArray.size_append]; omega))])
        rotate_left
        · simp only [Act.put, List.setIfInBounds_toArray, List.set_cons_zero, List.set_cons_succ]
          rfl
        refine pure_ (i := 4) (N := some 72) (v := ?_) (a' := ?_) #[true, true, true, false, true, false, false, false, false, false] rfl rfl (by kernel_rfl) (fun _ _ _ h => h) (Or.inl ⟨by rfl, ?_⟩) ?_ ?_
        rotate_left
        · intro w'
          go_simp
          first | with_reducible rfl | (rw [if_neg (by first | omega | (rw [ByteArray.size_append]; omega))])
        rotate_left
        · simp only [Act.put, List.setIfInBounds_toArray, List.set_cons_zero, List.set_cons_succ]
          rfl
        refine pure_ (i := 5) (N := some 73) (v := ?_) (a' := ?_) #[true, true, true, false, true, true, false, false, false, false] rfl rfl (by kernel_rfl) (fun _ _ _ h => h) (Or.inl ⟨by rfl, ?_⟩) ?_ ?_
        rotate_left
        · intro w'
          go_simp
          first | with_reducible rfl | (rw [if_neg (by first | omega | (rw [ByteArray.size_append]; omega))])
        rotate_left
        · simp only [Act.put, List.setIfInBounds_toArray, List.set_cons_zero, List.set_cons_succ]
          rfl
        refine pure_ (i := 6) (N := some 74) (v := ?_) (a' := ?_) #[true, true, true, false, true, true, true, false, false, false] rfl rfl (by kernel_rfl) (fun _ _ _ h => h) (Or.inl ⟨by rfl, ?_⟩) ?_ ?_
        rotate_left
        · intro w'
          go_simp
          first | with_reducible rfl | (rw [if_neg (by first | omega | (rw [ByteArray.size_append]; omega))])
        rotate_left
        · simp only [Act.put, List.setIfInBounds_toArray, List.set_cons_zero, List.set_cons_succ]
          rfl
        refine take_ (i := 3) (N := some 71) (v := ?_) (a' := ?_) #[true, true, true, true, true, true, true, false, false, false] rfl rfl (by kernel_rfl) (fun _ _ _ h => h) (Or.inl ⟨by rfl, ?_⟩) hHeld ?_ ?_
        rotate_left
        · rintro w' ⟨s0, s1⟩
          go_simp
          first | with_reducible rfl | (rw [if_neg (by first | omega | (rw [ByteArray.size_append]; omega))])
        rotate_left
        · simp only [Act.put, List.setIfInBounds_toArray, List.set_cons_zero, List.set_cons_succ]
          rfl
        refine take_ (i := 7) (N := some 75) (v := ?_) (a' := ?_) #[true, true, true, true, true, true, true, true, false, false] rfl rfl (by kernel_rfl) (fun _ _ _ h => h) (Or.inl ⟨by rfl, ?_⟩) hHeld ?_ ?_
        rotate_left
        · rintro w' ⟨s0, s1⟩
          go_simp
          first | with_reducible rfl | (rw [if_neg (by first | omega | (rw [ByteArray.size_append]; omega))])
        rotate_left
        · simp only [Act.put, List.setIfInBounds_toArray, List.set_cons_zero, List.set_cons_succ]
          rfl
        refine one_ (i := 8) (N := some 76) #[true, true, true, true, true, true, true, true, true, false] rfl rfl (by kernel_rfl) (by decide) (fun K hK => ?_)
        refine goes_ Tryd.func15 (by kernel_rfl) rfl #[.int .i64 x, .int .u64 (y : Int)] (by rfl) rfl rfl (by simp only [List.map_toArray, List.map_cons, List.map_nil]; rfl) ?_
        with_reducible refine (V1 _).mono ?_
        rintro e w3 ⟨rfl, hb⟩
        refine ⟨_, rfl, ?_⟩
        have HBn : Aside0 (Below w.heap.size w w3) := ⟨below_next (below_drew1 HB.out) hb⟩
        clear HB
        have HB := HBn
        clear HBn
        have HOn := Aside0.mk (Kd.R_below (Kd.R_drew HO.out) hb)
        clear HO
        have HO := HOn
        clear HOn
        have HCn : Aside0 (w3.cell? (ad.add i) = some (.int .i64 x)) := ⟨(hb.cell (cell_lt (show (w2.drew).cell? _ = _ from HC1.out))).trans HC1.out⟩
        clear HC1
        have HC1 := HCn
        clear HCn
        have HCn : Aside0 (w3.cell? (ae.add i) = some (.int .u64 (y : Int))) := ⟨(hb.cell (cell_lt (show (w2.drew).cell? _ = _ from HC2.out))).trans HC2.out⟩
        clear HC2
        have HC2 := HCn
        clear HCn hb
        refine hK.out _ _ ⟨HC1.out, HC2.out⟩ (fun hHeld => ?_)
        clear hK K
        refine norm_ (a' := ?_) ?_ ?_
        rotate_left
        · show Act.put _ (some 76) _ = _
          simp only [Act.put, List.setIfInBounds_toArray, List.set_cons_zero, List.set_cons_succ]
          rfl
        refine pure_ (i := 9) (N := some 12) (v := ?_) (a' := ?_) #[true, true, true, true, true, true, true, true, true, true] rfl rfl (by kernel_rfl) (fun _ _ _ h => h) (Or.inl ⟨by rfl, ?_⟩) ?_ ?_
        rotate_left
        · intro w'
          go_simp
          first | with_reducible rfl | (rw [if_neg (by first | omega | (rw [ByteArray.size_append]; omega))])
        rotate_left
        · simp only [Act.put, List.setIfInBounds_toArray, List.set_cons_zero, List.set_cons_succ]
          rfl
        refine done_ (by kernel_rfl) ?_
        clear V1 hHeld
        have HT := T1
        have hsum : all.size + t1.size ≤ 9223372036854775807 := by have h1 := HT.out.1; have h2 := HZ.out; omega
        have HZn : Aside0 ((all ++ t1).size ≤ 20 * (i + 1) + 1400 * ((i + 1) / 3)) := ⟨by rw [ByteArray.size_append]; exact size_up i 1 all.size t1.size HRr.out HZ.out (by have := HT.out.1; simpa using this)⟩
        rcases HT.out.2 with he | hrec
        · subst he
          have HZm : Aside0 (all.size ≤ 20 * (i + 1) + 1400 * ((i + 1) / 3)) := ⟨by have := HZn.out; rwa [ByteArray.append_empty] at this⟩
          clear HT T1
          go_wp2_with fail
          go_roundw
          case rel => exact ⟨i + 1, k, all, W, A3, c3, rfl, rfl, by go_num, by omega, by omega, HW, HA, HZm, HO, HB⟩
          case measure => simp [intOf]; omega
        · have HAn : Aside0 (AllIn (all ++ t1) (W ++ [t1])) := ⟨allIn_snoc HA.out hrec⟩
          have hne : ¬ t1.toList = ([] : List UInt8) := fun e => hrec.ne (str_toList (by rw [e, ByteArray.toList_eq]; rfl))
          have hne2 : (t1.toList == ([] : List UInt8)) = false := by simpa using hne
          have hne3 : t1.toList.isEmpty = false := by simpa using hne
          clear HT T1 hrec
          go_wp2_with (first
            | ((with_reducible refine gate_builtin (b := .append) (xs := #[.tmp 93, .tmp 95]) rfl ?_); at_builtin; refine Kd.R_append Kd.string (w0 := w) w.heap.size rfl (.tmp 93) (.tmp 95) 46 9 (.string ByteArray.empty) 16 rfl Tryd.underlying46 str_info rfl (by decide) (by omega) (.slice A3 k c3) W t1 [.string t1] (fun _ => True) (fun _ => False) rfl rfl ?aP (fun _ hk => hk.elim) ?aF ?aO ?aB ?aS ?aL ?_; (case aP => exact rfl); (case aB => exact (by repeat (first | (with_reducible exact HB.out) | apply below_alloc | apply pw_below_drewN | apply below_drew1))); (case aF => exact (fun _ _ => trivial)); (case aO => exact (by (with_reducible repeat (first | apply Kd.R_alloc | apply Kd.R_drewN | apply Kd.R_drew)); exact HO.out)); (case aS => exact (below_size (by repeat (first | (with_reducible exact HB.out) | apply below_alloc | apply pw_below_drewN | apply below_drew1)))); (case aL => (have := HW.out; have := HN.out; omega)); intro va wa ho hb hg hat; have n0_ := Aside0.mk hb; have n1_ := Aside0.mk ho; clear HB HO; have HB := n0_; have HO := n1_; clear n0_ n1_ ho hb hg hat))
          obtain ⟨A4, c4, rfl, hc4, _⟩ := Kd.R_reads HO.out
          have hlen : (W ++ [t1]).length = k + 1 := by rw [List.length_append, List.length_singleton, HW.out]
          have HOn := HO.out
          rw [hlen] at HOn ⊢
          have HOn := Aside0.mk HOn
          have HWn := Aside0.mk hlen
          clear hlen HO hc4 hne hne2 hne3 hsum
          go_wp2_with fail
          go_roundw
          case rel => exact ⟨i + 1, k + 1, _, W ++ [t1], A4, c4, rfl, rfl, by go_num, by omega, by omega, HWn, HAn, HZn, HOn, HB⟩
          case measure => simp [intOf]; omega
      · have hm : (i : Int) % 3 = 2 := by omega
        clear hr
        clear hHeld
        have hi2 : 2 ≤ i := by have := HRr.out; omega
        obtain ⟨q, hq⟩ : ∃ q : Nat, s.size / (i + 1) = q := ⟨_, rfl⟩
        have hq1 : q ≤ 1400 := by
          rw [← hq]
          have h1 : s.size / (i + 1) ≤ s.size / 3 := Nat.div_le_div_left (by omega) (by omega)
          have h2 := HS.out
          omega
        have hq2 : q ≤ s.size := by rw [← hq]; exact Nat.div_le_self _ _
        have hqi : (s.size : Int) / ((i : Int) + 1) = (q : Int) := by rw [← hq]; simp
        have hxs : (s.extract 0 q).size = q := by rw [ByteArray.size_extract]; omega
        have V2 := fun w => wbytes_any x (s.extract 0 q) w (by omega)
        have T2 := Aside0.mk (tok_2 x (s.extract 0 q) (by omega))
        generalize recB x 2 (put ((s.extract 0 q).size : Int) ++ s.extract 0 q) = t2 at V2 T2
        have hq0 : (0 : Int) ≤ (q : Int) := by omega
        have hq3 : (q : Int) ≤ (s.size : Int) := by omega
        have hi1 : IntKind.i64.wrap ((i : Int) + 1) = (i : Int) + 1 := by rw [IntKind.wrap_i64]; have := HN.out; omega
        have hi0 : (0 : Int) < (i : Int) + 1 := by omega
        have hwq : wrap64 (q : Int) = (q : Int) := by unfold wrap64; omega
        clear hq hq1 hq2 hxs hi2
        go_wp2_with fail
        refine start_ (n := 13) (S := fun w' => w'.cell? (ad.add i) = some (.int .i64 x)) (ds := []) #[false, false, false, false, false, false, false, false, false, false, false, false, false] (by kernel_rfl) rfl rfl (HC1.out) (fun hHeld => ?_)
        refine pure_ (i := 0) (N := some 79) (v := ?_) (a' := ?_) #[true, false, false, false, false, false, false, false, false, false, false, false, false] rfl rfl (by kernel_rfl) (fun _ _ _ h => h) (Or.inl ⟨by rfl, ?_⟩) ?_ ?_
        rotate_left
        · intro w'
          go_simp
          first | with_reducible rfl | (rw [if_neg (by first | omega | (rw [ByteArray.size_append]; omega))])
        rotate_left
        · simp only [Act.put, List.setIfInBounds_toArray, List.set_cons_zero, List.set_cons_succ]
          rfl
        refine pure_ (i := 1) (N := some 80) (v := ?_) (a' := ?_) #[true, true, false, false, false, false, false, false, false, false, false, false, false] rfl rfl (by kernel_rfl) (fun _ _ _ h => h) (Or.inl ⟨by rfl, ?_⟩) ?_ ?_
        rotate_left
        · intro w'
          go_simp
          first | with_reducible rfl | (rw [if_neg (by first | omega | (rw [ByteArray.size_append]; omega))])
        rotate_left
        · simp only [Act.put, List.setIfInBounds_toArray, List.set_cons_zero, List.set_cons_succ]
          rfl
        refine pure_ (i := 2) (N := some 81) (v := ?_) (a' := ?_) #[true, true, true, false, false, false, false, false, false, false, false, false, false] rfl rfl (by kernel_rfl) (fun _ _ _ h => h) (Or.inl ⟨by rfl, ?_⟩) ?_ ?_
        rotate_left
        · intro w'
          go_simp
          first | with_reducible rfl | (rw [if_neg (by first | omega | (rw [ByteArray.size_append]; omega))])
        rotate_left
        · simp only [Act.put, List.setIfInBounds_toArray, List.set_cons_zero, List.set_cons_succ]
          rfl
        refine pure_ (i := 4) (N := some 83) (v := ?_) (a' := ?_) #[true, true, true, false, true, false, false, false, false, false, false, false, false] rfl rfl (by kernel_rfl) (fun _ _ _ h => h) (Or.inl ⟨by rfl, ?_⟩) ?_ ?_
        rotate_left
        · intro w'
          go_simp
          first | with_reducible rfl | (rw [if_neg (by first | omega | (rw [ByteArray.size_append]; omega))])
        rotate_left
        · simp only [Act.put, List.setIfInBounds_toArray, List.set_cons_zero, List.set_cons_succ]
          rfl
        refine pure_ (i := 5) (N := some 84) (v := ?_) (a' := ?_) #[true, true, true, false, true, true, false, false, false, false, false, false, false] rfl rfl (by kernel_rfl) (fun _ _ _ h => h) (Or.inl ⟨by rfl, ?_⟩) ?_ ?_
        rotate_left
        · intro w'
          go_simp
          first | with_reducible rfl | (rw [if_neg (by first | omega | (rw [ByteArray.size_append]; omega))])
        rotate_left
        · simp only [Act.put, List.setIfInBounds_toArray, List.set_cons_zero, List.set_cons_succ]
          rfl
        refine pure_ (i := 6) (N := some 85) (v := ?_) (a' := ?_) #[true, true, true, false, true, true, true, false, false, false, false, false, false] rfl rfl (by kernel_rfl) (fun _ _ _ h => h) (Or.inl ⟨by rfl, ?_⟩) ?_ ?_
        rotate_left
        · intro w'
          go_simp
          first | with_reducible rfl | (rw [if_neg (by first | omega | (rw [ByteArray.size_append]; omega))])
        rotate_left
        · simp only [Act.put, List.setIfInBounds_toArray, List.set_cons_zero, List.set_cons_succ]
          rfl
        refine pure_ (i := 7) (N := some 86) (v := ?_) (a' := ?_) #[true, true, true, false, true, true, true, true, false, false, false, false, false] rfl rfl (by kernel_rfl) (fun _ _ _ h => h) (Or.inl ⟨by rfl, ?_⟩) ?_ ?_
        rotate_left
        · intro w'
          go_simp
          first | with_reducible rfl | (rw [if_neg (by first | omega | (rw [ByteArray.size_append]; omega))])
        rotate_left
        · simp only [Act.put, List.setIfInBounds_toArray, List.set_cons_zero, List.set_cons_succ]
          rfl
        refine pure_ (i := 8) (N := some 87) (v := ?_) (a' := ?_) #[true, true, true, false, true, true, true, true, true, false, false, false, false] rfl rfl (by kernel_rfl) (fun _ _ _ h => h) (Or.inl ⟨by rfl, ?_⟩) ?_ ?_
        rotate_left
        · intro w'
          go_simp
          first | with_reducible rfl | (rw [if_neg (by first | omega | (rw [ByteArray.size_append]; omega))])
        rotate_left
        · simp only [Act.put, List.setIfInBounds_toArray, List.set_cons_zero, List.set_cons_succ]
          rfl
        refine pure_ (i := 9) (N := some 88) (v := ?_) (a' := ?_) #[true, true, true, false, true, true, true, true, true, true, false, false, false] rfl rfl (by kernel_rfl) (fun _ _ _ h => h) (Or.inl ⟨by rfl, ?_⟩) ?_ ?_
        rotate_left
        · intro w'
          go_simp
          first | with_reducible rfl | (rw [if_neg (by first | omega | (rw [ByteArray.size_append]; omega))])
        rotate_left
        · simp only [Act.put, List.setIfInBounds_toArray, List.set_cons_zero, List.set_cons_succ, i64_w]
          rfl
        refine pure_ (i := 10) (N := some 89) (v := ?_) (a' := ?_) #[true, true, true, false, true, true, true, true, true, true, true, false, false] rfl rfl (by kernel_rfl) (fun _ _ _ h => h) (Or.inl ⟨by rfl, ?_⟩) ?_ ?_
        rotate_left
        · intro w'
          go_simp
          first | with_reducible rfl | (rw [if_neg (by first | omega | (rw [ByteArray.size_append]; omega))])
        rotate_left
        · simp only [Act.put, List.setIfInBounds_toArray, List.set_cons_zero, List.set_cons_succ]
          rfl
        refine take_ (i := 3) (N := some 82) (v := ?_) (a' := ?_) #[true, true, true, true, true, true, true, true, true, true, true, false, false] rfl rfl (by kernel_rfl) (fun _ _ _ h => h) (Or.inl ⟨by rfl, ?_⟩) hHeld ?_ ?_
        rotate_left
        · intro w' s0
          go_simp
          first | with_reducible rfl | (rw [if_neg (by first | omega | (rw [ByteArray.size_append]; omega))])
        rotate_left
        · simp only [Act.put, List.setIfInBounds_toArray, List.set_cons_zero, List.set_cons_succ]
          rfl
        refine one_ (i := 11) (N := some 90) #[true, true, true, true, true, true, true, true, true, true, true, true, false] rfl rfl (by kernel_rfl) (by decide) (fun K hK => ?_)
        refine goes_ Tryd.func16 (by kernel_rfl) rfl #[.int .i64 x, .string (s.extract 0 q)] (by rfl) rfl rfl (by simp only [List.map_toArray, List.map_cons, List.map_nil]; rfl) ?_
        with_reducible refine (V2 _).mono ?_
        rintro e w3 ⟨rfl, hb⟩
        refine ⟨_, rfl, ?_⟩
        have HBn : Aside0 (Below w.heap.size w w3) := ⟨below_next (below_drew1 HB.out) hb⟩
        clear HB
        have HB := HBn
        clear HBn
        have HOn := Aside0.mk (Kd.R_below (Kd.R_drew HO.out) hb)
        clear HO
        have HO := HOn
        clear HOn
        have HCn : Aside0 (w3.cell? (ad.add i) = some (.int .i64 x)) := ⟨(hb.cell (cell_lt (show (w2.drew).cell? _ = _ from HC1.out))).trans HC1.out⟩
        clear HC1
        have HC1 := HCn
        clear HCn
        have HCn : Aside0 (w3.cell? (ae.add i) = some (.int .u64 (y : Int))) := ⟨(hb.cell (cell_lt (show (w2.drew).cell? _ = _ from HC2.out))).trans HC2.out⟩
        clear HC2
        have HC2 := HCn
        clear HCn hb
        refine hK.out _ _ (HC1.out) (fun hHeld => ?_)
        clear hK K
        refine norm_ (a' := ?_) ?_ ?_
        rotate_left
        · show Act.put _ (some 90) _ = _
          simp only [Act.put, List.setIfInBounds_toArray, List.set_cons_zero, List.set_cons_succ]
          rfl
        refine pure_ (i := 12) (N := some 12) (v := ?_) (a' := ?_) #[true, true, true, true, true, true, true, true, true, true, true, true, true] rfl rfl (by kernel_rfl) (fun _ _ _ h => h) (Or.inl ⟨by rfl, ?_⟩) ?_ ?_
        rotate_left
        · intro w'
          go_simp
          first | with_reducible rfl | (rw [if_neg (by first | omega | (rw [ByteArray.size_append]; omega))])
        rotate_left
        · simp only [Act.put, List.setIfInBounds_toArray, List.set_cons_zero, List.set_cons_succ]
          rfl
        refine done_ (by kernel_rfl) ?_
        clear V2 hHeld hwq hqi hi1 hi0 hq0 hq3
        have HT := T2
        have hsum : all.size + t2.size ≤ 9223372036854775807 := by have h1 := HT.out.1; have h2 := HZ.out; omega
        have HZn : Aside0 ((all ++ t2).size ≤ 20 * (i + 1) + 1400 * ((i + 1) / 3)) := ⟨by rw [ByteArray.size_append]; exact size_up i 2 all.size t2.size HRr.out HZ.out (by have := HT.out.1; simpa using this)⟩
        rcases HT.out.2 with he | hrec
        · subst he
          have HZm : Aside0 (all.size ≤ 20 * (i + 1) + 1400 * ((i + 1) / 3)) := ⟨by have := HZn.out; rwa [ByteArray.append_empty] at this⟩
          clear HT T2
          go_wp2_with fail
          go_roundw
          case rel => exact ⟨i + 1, k, all, W, A3, c3, rfl, rfl, by go_num, by omega, by omega, HW, HA, HZm, HO, HB⟩
          case measure => simp [intOf]; omega
        · have HAn : Aside0 (AllIn (all ++ t2) (W ++ [t2])) := ⟨allIn_snoc HA.out hrec⟩
          have hne : ¬ t2.toList = ([] : List UInt8) := fun e => hrec.ne (str_toList (by rw [e, ByteArray.toList_eq]; rfl))
          have hne2 : (t2.toList == ([] : List UInt8)) = false := by simpa using hne
          have hne3 : t2.toList.isEmpty = false := by simpa using hne
          clear HT T2 hrec
          go_wp2_with (first
            | ((with_reducible refine gate_builtin (b := .append) (xs := #[.tmp 93, .tmp 95]) rfl ?_); at_builtin; refine Kd.R_append Kd.string (w0 := w) w.heap.size rfl (.tmp 93) (.tmp 95) 46 9 (.string ByteArray.empty) 16 rfl Tryd.underlying46 str_info rfl (by decide) (by omega) (.slice A3 k c3) W t2 [.string t2] (fun _ => True) (fun _ => False) rfl rfl ?aP (fun _ hk => hk.elim) ?aF ?aO ?aB ?aS ?aL ?_; (case aP => exact rfl); (case aB => exact (by repeat (first | (with_reducible exact HB.out) | apply below_alloc | apply pw_below_drewN | apply below_drew1))); (case aF => exact (fun _ _ => trivial)); (case aO => exact (by (with_reducible repeat (first | apply Kd.R_alloc | apply Kd.R_drewN | apply Kd.R_drew)); exact HO.out)); (case aS => exact (below_size (by repeat (first | (with_reducible exact HB.out) | apply below_alloc | apply pw_below_drewN | apply below_drew1)))); (case aL => (have := HW.out; have := HN.out; omega)); intro va wa ho hb hg hat; have n0_ := Aside0.mk hb; have n1_ := Aside0.mk ho; clear HB HO; have HB := n0_; have HO := n1_; clear n0_ n1_ ho hb hg hat))
          obtain ⟨A4, c4, rfl, hc4, _⟩ := Kd.R_reads HO.out
          have hlen : (W ++ [t2]).length = k + 1 := by rw [List.length_append, List.length_singleton, HW.out]
          have HOn := HO.out
          rw [hlen] at HOn ⊢
          have HOn := Aside0.mk HOn
          have HWn := Aside0.mk hlen
          clear hlen HO hc4 hne hne2 hne3 hsum
          go_wp2_with fail
          go_roundw
          case rel => exact ⟨i + 1, k + 1, _, W ++ [t2], A4, c4, rfl, rfl, by go_num, by omega, by omega, HWn, HAn, HZn, HOn, HB⟩
          case measure => simp [intOf]; omega
    · obtain rfl : i = n := by omega
      have hz : all.size ≤ 48500 := by have h1 := HZ.out; have h2 := HN.out; omega
      have HZ2 := Aside0.mk hz
      clear hz hlt hi HZ
      go_wp2_with fail
      go_loopw [9, 13] (fun v9 v13 w' => ∃ j : Nat, v9 = .string (nestB j all) ∧ v13 = .int .i64 (j : Int) ∧ j ≤ D ∧ Aside0 (Kd.R Kd.string 9 w' w.heap.size (fun _ => True) (.slice A3 k c3) W) ∧ Aside0 (Below w.heap.size w w')) (fun _ v13 _ => D - (intOf v13).toNat)
      case atStart => exact ⟨0, rfl, rfl, Nat.zero_le _, HO, HB⟩
      case round =>
        clear HO HB
        obtain ⟨j, rfl, rfl, hj, HO, HB⟩ := hrel
        by_cases hlt : j < D
        · have V3 := fun w => tag_any ((j : Int) + 1) 3 w
          have V4 := fun w => tag_any ((j : Int) + 1) 4 w
          have HE := Aside0.mk (show nestB (j + 1) all = tagB ((j : Int) + 1) 3 ++ nestB j all ++ tagB ((j : Int) + 1) 4 from rfl)
          have hsz : (nestB (j + 1) all).size ≤ 50000 := by have := nest_size (j + 1) all (by have := HD.out; omega); have := HZ2.out; have := HD.out; omega
          rw [HE.out, ByteArray.size_append, ByteArray.size_append] at hsz
          generalize tagB ((j : Int) + 1) 3 = t3 at *
          generalize tagB ((j : Int) + 1) 4 = t4 at *
          generalize nestB j all = nb at *
          have hs1 : t3.size + nb.size ≤ 9223372036854775807 := by omega
          have hs2 : (t3 ++ nb).size + t4.size ≤ 9223372036854775807 := by rw [ByteArray.size_append]; omega
          have hs3 : t3.size + nb.size + t4.size ≤ 9223372036854775807 := by omega
          clear hsz
          go_wp2_with fail
          refine (V3 _).mono ?_
          rintro e w2 ⟨rfl, hb⟩
          have HOn := Aside0.mk (Kd.R_below HO.out hb); clear HO; have HO := HOn; clear HOn
          have HBn := Aside0.mk (below_next HB.out hb); clear HB; have HB := HBn; clear HBn hb
          go_wp2_with fail
          refine (V4 _).mono ?_
          rintro e w3 ⟨rfl, hb⟩
          have HOn := Aside0.mk (Kd.R_below HO.out hb); clear HO; have HO := HOn; clear HOn
          have HBn := Aside0.mk (below_next HB.out hb); clear HB; have HB := HBn; clear HBn hb V3 V4
          go_wp2_with fail
          go_roundw
          case rel => exact ⟨j + 1, by rw [HE.out], by go_num, by omega, HO, HB⟩
          case measure => simp [intOf]; omega
        · obtain rfl : j = D := by omega
          clear hlt hj
          by_cases hd0 : j = 0
          · subst hd0
            obtain ⟨L, hL0, hL1, hL2⟩ := HA.out
            have H3 := fun w => wall_any w all 0 (by have := HZ2.out; omega) (by omega) (by omega)
            have HL0 := Aside0.mk hL0
            have HL1 := Aside0.mk hL1
            have HL2 := Aside0.mk hL2
            rw [show nestB 0 all = all from rfl]
            clear hL0 hL1 hL2 g3 g4 HD
            rw [show ((0 : Nat) : Int) = 0 from rfl]
            go_wp2_with fail
            refine (H3 _).mono ?_
            rintro e w2 (⟨L', A, c, hL, rfl, hC, hc, hb⟩ | ⟨hN, _⟩)
            · obtain rfl : L' = L := by have := hL.symm.trans (HL0.out _); injection this
              have HOn := Aside0.mk (Kd.R_below HO.out hb); clear HO; have HO := HOn; clear HOn
              have HBn := Aside0.mk (below_next HB.out hb); clear HB; have HB := HBn; clear HBn
              have HC := Aside0.mk hC
              have hLW : L'.length = k := by
                have := congrArg List.length HL1.out
                rw [List.length_map, List.length_map, HW.out] at this
                exact this
              have HLW := Aside0.mk hLW
              clear hb hC hc hL hLW H3
              obtain ⟨hOC, hOk, hOc⟩ := R_Cw HO.out
              rw [hOk] at HO
              have HOC := Aside0.mk hOC
              have HOc := Aside0.mk hOc
              have HBw := HB
              have HB := Aside0.mk (Below.refl w2.heap.size w2)
              have HKW := Aside0.mk hOk
              clear hOC hOc HO hOk
              go_wp2_with fail
              go_loopw [18, 19, 20, 21, 22] (fun v18 v19 _ _ _ w' => ∃ (m : Nat) (A5 : Option Addr) (c5 : Nat), v18 = .slice A5 m c5 ∧ v19 = .int .i64 (m : Int) ∧ m ≤ L'.length ∧ Aside0 (Kd.R Kd.string 9 w' w2.heap.size (fun _ => True) (.slice A5 m c5) (W.take m)) ∧ Aside0 (Below w2.heap.size w2 w')) (fun _ v19 _ _ _ _ => L'.length - (intOf v19).toNat)
              case atStart => exact ⟨0, none, 0, rfl, rfl, Nat.zero_le _, ⟨Kd.R_nil _ _ _ _ _⟩, HB⟩
              case round =>
                clear HB
                obtain ⟨m, A5, c5, rfl, rfl, hm, HO, HB⟩ := hrel
                by_cases hlt : m < L'.length
                · obtain ⟨al, rfl, ha⟩ := recCells (Kd.C_below HC.out HB.out) m hlt
                  have hlw : m < W.length := by have := HLW.out; have := HW.out; omega
                  have hraw : L'[m].raw = bs W[m] := by
                    have h := congrArg (fun l => l[m]?) HL1.out
                    simpa [hlt, hlw] using h
                  have hsz : W[m].size ≤ 48500 := by
                    have h1 := (recs_raws _ (bs all) 0 L' rfl (HL0.out 0)).1
                    have h2 := raw_le L' _ (List.getElem_mem hlt)
                    rw [h1, hraw, bs_length, bs_length] at h2
                    have := HZ2.out
                    omega
                  have NX := fun w => next_self L'[m] W[m] w hraw (HL2.out _ (List.getElem_mem hlt) 0) (by omega)
                  have hst : st L'[m].raw = W[m] := by rw [hraw, st_bs]
                  have htk := Aside0.mk (List.take_succ_eq_append_getElem hlw)
                  have hml : m ≤ 100 := by have := HLW.out; have := HN.out; omega
                  have hlen : (W.take m).length = m := by rw [List.length_take]; omega
                  have HLN := Aside0.mk hlen
                  have HML := Aside0.mk hml
                  rw [hst] at ha
                  generalize W[m] = t at *
                  generalize (L'[m].num : Int) = f0 at *
                  generalize (L'[m].type : Int) = f1 at *
                  generalize (L'[m].n : Int) = f2 at *
                  generalize st L'[m].s = f3 at *
                  have Ha := Aside0.mk ha
                  have q4 := ha.c4
                  clear ha hraw hst hsz hlen hml
                  go_wp2_with fail
                  refine (NX _).mono ?_
                  rintro e w3 ⟨rfl, hb⟩
                  unfold recV
                  have HOn := Aside0.mk (Kd.R_below HO.out hb); clear HO; have HO := HOn; clear HOn
                  have Han := Aside0.mk (Ha.out.below hb); clear Ha; have Ha := Han; clear Han
                  have HBn := Aside0.mk (below_next HB.out hb); clear HB; have HB := HBn; clear HBn hb NX q4
                  go_upto_region 34 with (first
                    | ((with_reducible refine gate_dst (N := 20) rfl ?_); refine box_event ?hg (N := 20) ?hd (cs := #[.int .i64 0, .int .i64 0, .int .u64 0, .string ⟨#[]⟩, .string ⟨#[]⟩]) (t := 25) ?hr ?_; (case hd => rfl); (case hg => rfl); (case hr => first | (go_simp; done) | (go_simp; rfl)); intro x hx w4 hx4 hb4
                       have hx4 : XW w4 x 0 0 0 ByteArray.empty ByteArray.empty := hx4
                       have hxw : w3.heap.size ≤ x := by omega
                       clear hx
                       have z0 := hx4.c0
                       have z1 := hx4.c1
                       have z2 := hx4.c2
                       have z3 := hx4.c3
                       have z4 := hx4.c4
                       have zf := fun i => hx4.fz i
                       have k5 := kp_all w4 x (.int .i64 f0) (.int .i64 f1) (.int .u64 f2) (.string f3) (.string t)
                       have Hx := Aside0.mk (hx4.all f0 f1 f2 f3 t)
                       have hb := hb4.trans (k5.toBelow hb4.size (fun k e => by rw [e]; exact hxw))
                       have HOn := Aside0.mk (Kd.R_below HO.out hb); clear HO; have HO := HOn; clear HOn
                       have Han := Aside0.mk (Ha.out.below hb); clear Ha; have Ha := Han; clear Han
                       have HBn := Aside0.mk (below_next HB.out hb); clear HB; have HB := HBn; clear HBn
                       clear hx4 k5 hb4 hb))
                  clear z0 z1 z2 z3 z4 zf hxw hx4
                  generalize ((((w4.setCell ⟨x, 0, none⟩ (.int .i64 f0)).setCell ⟨x, 1, none⟩ (.int .i64 f1)).setCell ⟨x, 2, none⟩ (.int .u64 f2)).setCell ⟨x, 3, none⟩ (.string f3)).setCell ⟨x, 4, none⟩ (.string t) = w5 at *
                  have Hal := Aside0.mk (Ha.out.below (below_drew1 (Below.refl _ _)))
                  have Hxd : Aside0 (XW w5.drew x f0 f1 f2 f3 t) := ⟨Hx.out⟩
                  have HOn := Aside0.mk (Kd.R_drew HO.out); clear HO; have HO := HOn; clear HOn
                  have HBn := Aside0.mk (below_drew1 HB.out); clear HB; have HB := HBn; clear HBn
                  clear Ha Hx
                  refine start_ (n := 20) (S := fun w' => w'.cell? (al.add (m * 5)) = some (.int .i64 f0) ∧ w'.cell? ⟨(al.add (m * 5)).block, (al.add (m * 5)).off + 1, none⟩ = some (.int .i64 f1) ∧ w'.cell? ⟨(al.add (m * 5)).block, (al.add (m * 5)).off + 2, none⟩ = some (.int .u64 f2) ∧ w'.cell? ⟨(al.add (m * 5)).block, (al.add (m * 5)).off + 3, none⟩ = some (.string f3) ∧ w'.cell? ⟨(al.add (m * 5)).block, (al.add (m * 5)).off + 4, none⟩ = some (.string t) ∧ w'.cell? ⟨x, 0, none⟩ = some (.int .i64 f0) ∧ w'.cell? ⟨x, 1, none⟩ = some (.int .i64 f1) ∧ w'.cell? ⟨x, 2, none⟩ = some (.int .u64 f2) ∧ w'.cell? ⟨x, 3, none⟩ = some (.string f3) ∧ w'.cell? ⟨x, 4, none⟩ = some (.string t)) (ds := []) #[false, false, false, false, false, false, false, false, false, false, false, false, false, false, false, false, false, false, false, false] (by kernel_rfl) rfl rfl ⟨Hal.out.c0, Hal.out.c1, Hal.out.c2, Hal.out.c3, Hal.out.c4, Hxd.out.c0, Hxd.out.c1, Hxd.out.c2, Hxd.out.c3, Hxd.out.c4⟩ (fun hHeld => ?_)
                  refine pure_ (i := 0) (N := some 181) (v := ?_) (a' := ?_) #[true, false, false, false, false, false, false, false, false, false, false, false, false, false, false, false, false, false, false, false] rfl rfl (by kernel_rfl) (fun _ _ _ h => h) (Or.inl ⟨by rfl, ?_⟩) ?_ ?_
                  rotate_left
                  · intro w'
                    go_simp
                    first | with_reducible rfl | (rw [if_neg (by first | omega | (rw [ByteArray.size_append]; omega))])
                  rotate_left
                  · simp only [Act.put, List.setIfInBounds_toArray, List.set_cons_zero, List.set_cons_succ]
                    rfl
                  refine pure_ (i := 1) (N := some 182) (v := ?_) (a' := ?_) #[true, true, false, false, false, false, false, false, false, false, false, false, false, false, false, false, false, false, false, false] rfl rfl (by kernel_rfl) (fun _ _ _ h => h) (Or.inl ⟨by rfl, ?_⟩) ?_ ?_
                  rotate_left
                  · intro w'
                    go_simp
                    first | with_reducible rfl | (rw [if_neg (by first | omega | (rw [ByteArray.size_append]; omega))])
                  rotate_left
                  · simp only [Act.put, List.setIfInBounds_toArray, List.set_cons_zero, List.set_cons_succ]
                    rfl
                  refine pure_ (i := 2) (N := some 183) (v := ?_) (a' := ?_) #[true, true, true, false, false, false, false, false, false, false, false, false, false, false, false, false, false, false, false, false] rfl rfl (by kernel_rfl) (fun _ _ _ h => h) (Or.inl ⟨by rfl, ?_⟩) ?_ ?_
                  rotate_left
                  · intro w'
                    go_simp
                    first | with_reducible rfl | (rw [if_neg (by first | omega | (rw [ByteArray.size_append]; omega))])
                  rotate_left
                  · simp only [Act.put, List.setIfInBounds_toArray, List.set_cons_zero, List.set_cons_succ]
                    rfl
                  refine pure_ (i := 3) (N := some 184) (v := ?_) (a' := ?_) #[true, true, true, true, false, false, false, false, false, false, false, false, false, false, false, false, false, false, false, false] rfl rfl (by kernel_rfl) (fun _ _ _ h => h) (Or.inl ⟨by rfl, ?_⟩) ?_ ?_
                  rotate_left
                  · intro w'
                    go_simp
                    first | with_reducible rfl | (rw [if_neg (by first | omega | (rw [ByteArray.size_append]; omega))])
                  rotate_left
                  · simp only [Act.put, List.setIfInBounds_toArray, List.set_cons_zero, List.set_cons_succ]
                    rfl
                  refine pure_ (i := 4) (N := some 185) (v := ?_) (a' := ?_) #[true, true, true, true, true, false, false, false, false, false, false, false, false, false, false, false, false, false, false, false] rfl rfl (by kernel_rfl) (fun _ _ _ h => h) (Or.inl ⟨by rfl, ?_⟩) ?_ ?_
                  rotate_left
                  · intro w'
                    go_simp
                    first | with_reducible rfl | (rw [if_neg (by first | omega | (rw [ByteArray.size_append]; omega))])
                  rotate_left
                  · simp only [Act.put, List.setIfInBounds_toArray, List.set_cons_zero, List.set_cons_succ]
                    rfl
                  refine pure_ (i := 5) (N := some 186) (v := ?_) (a' := ?_) #[true, true, true, true, true, true, false, false, false, false, false, false, false, false, false, false, false, false, false, false] rfl rfl (by kernel_rfl) (fun _ _ _ h => h) (Or.inl ⟨by rfl, ?_⟩) ?_ ?_
                  rotate_left
                  · intro w'
                    go_simp
                    first | with_reducible rfl | (rw [if_neg (by first | omega | (rw [ByteArray.size_append]; omega))])
                  rotate_left
                  · simp only [Act.put, List.setIfInBounds_toArray, List.set_cons_zero, List.set_cons_succ]
                    rfl
                  refine pure_ (i := 6) (N := some 187) (v := ?_) (a' := ?_) #[true, true, true, true, true, true, true, false, false, false, false, false, false, false, false, false, false, false, false, false] rfl rfl (by kernel_rfl) (fun _ _ _ h => h) (Or.inl ⟨by rfl, ?_⟩) ?_ ?_
                  rotate_left
                  · intro w'
                    go_simp
                    first | with_reducible rfl | (rw [if_neg (by first | omega | (rw [ByteArray.size_append]; omega))])
                  rotate_left
                  · simp only [Act.put, List.setIfInBounds_toArray, List.set_cons_zero, List.set_cons_succ]
                    rfl
                  refine pure_ (i := 7) (N := some 188) (v := ?_) (a' := ?_) #[true, true, true, true, true, true, true, true, false, false, false, false, false, false, false, false, false, false, false, false] rfl rfl (by kernel_rfl) (fun _ _ _ h => h) (Or.inl ⟨by rfl, ?_⟩) ?_ ?_
                  rotate_left
                  · intro w'
                    go_simp
                    first | with_reducible rfl | (rw [if_neg (by first | omega | (rw [ByteArray.size_append]; omega))])
                  rotate_left
                  · simp only [Act.put, List.setIfInBounds_toArray, List.set_cons_zero, List.set_cons_succ]
                    rfl
                  refine take_ (i := 8) (N := some 189) (v := ?_) (a' := ?_) #[true, true, true, true, true, true, true, true, true, false, false, false, false, false, false, false, false, false, false, false] rfl rfl (by kernel_rfl) (fun _ _ _ h => h) (Or.inl ⟨by rfl, ?_⟩) hHeld ?_ ?_
                  rotate_left
                  · rintro w' ⟨s0, s1, s2, s3, s4, s5, s6, s7, s8, s9⟩
                    go_simp
                    first | with_reducible rfl | (rw [if_neg (by first | omega | (rw [ByteArray.size_append]; omega))])
                  rotate_left
                  · simp only [Act.put, List.setIfInBounds_toArray, List.set_cons_zero, List.set_cons_succ]
                    rfl
                  refine pure_ (i := 9) (N := some 190) (v := ?_) (a' := ?_) #[true, true, true, true, true, true, true, true, true, true, false, false, false, false, false, false, false, false, false, false] rfl rfl (by kernel_rfl) (fun _ _ _ h => h) (Or.inl ⟨by rfl, ?_⟩) ?_ ?_
                  rotate_left
                  · intro w'
                    go_simp
                    first | with_reducible rfl | (rw [if_neg (by first | omega | (rw [ByteArray.size_append]; omega))])
                  rotate_left
                  · simp only [Act.put, List.setIfInBounds_toArray, List.set_cons_zero, List.set_cons_succ]
                    rfl
                  refine pure_ (i := 10) (N := some 191) (v := ?_) (a' := ?_) #[true, true, true, true, true, true, true, true, true, true, true, false, false, false, false, false, false, false, false, false] rfl rfl (by kernel_rfl) (fun _ _ _ h => h) (Or.inl ⟨by rfl, ?_⟩) ?_ ?_
                  rotate_left
                  · intro w'
                    go_simp
                    first | with_reducible rfl | (rw [if_neg (by first | omega | (rw [ByteArray.size_append]; omega))])
                  rotate_left
                  · simp only [Act.put, List.setIfInBounds_toArray, List.set_cons_zero, List.set_cons_succ]
                    rfl
                  refine pure_ (i := 11) (N := some 192) (v := ?_) (a' := ?_) #[true, true, true, true, true, true, true, true, true, true, true, true, false, false, false, false, false, false, false, false] rfl rfl (by kernel_rfl) (fun _ _ _ h => h) (Or.inl ⟨by rfl, ?_⟩) ?_ ?_
                  rotate_left
                  · intro w'
                    go_simp
                    first | with_reducible rfl | (rw [if_neg (by first | omega | (rw [ByteArray.size_append]; omega))])
                  rotate_left
                  · simp only [Act.put, List.setIfInBounds_toArray, List.set_cons_zero, List.set_cons_succ]
                    rfl
                  refine pure_ (i := 12) (N := some 193) (v := ?_) (a' := ?_) #[true, true, true, true, true, true, true, true, true, true, true, true, true, false, false, false, false, false, false, false] rfl rfl (by kernel_rfl) (fun _ _ _ h => h) (Or.inl ⟨by rfl, ?_⟩) ?_ ?_
                  rotate_left
                  · intro w'
                    go_simp
                    first | with_reducible rfl | (rw [if_neg (by first | omega | (rw [ByteArray.size_append]; omega))])
                  rotate_left
                  · simp only [Act.put, List.setIfInBounds_toArray, List.set_cons_zero, List.set_cons_succ]
                    rfl
                  refine pure_ (i := 14) (N := some 195) (v := ?_) (a' := ?_) #[true, true, true, true, true, true, true, true, true, true, true, true, true, false, true, false, false, false, false, false] rfl rfl (by kernel_rfl) (fun _ _ _ h => h) (Or.inl ⟨by rfl, ?_⟩) ?_ ?_
                  rotate_left
                  · intro w'
                    go_simp
                    first | with_reducible rfl | (rw [if_neg (by first | omega | (rw [ByteArray.size_append]; omega))])
                  rotate_left
                  · simp only [Act.put, List.setIfInBounds_toArray, List.set_cons_zero, List.set_cons_succ]
                    rfl
                  refine pure_ (i := 15) (N := some 196) (v := ?_) (a' := ?_) #[true, true, true, true, true, true, true, true, true, true, true, true, true, false, true, true, false, false, false, false] rfl rfl (by kernel_rfl) (fun _ _ _ h => h) (Or.inl ⟨by rfl, ?_⟩) ?_ ?_
                  rotate_left
                  · intro w'
                    go_simp
                    first | with_reducible rfl | (rw [if_neg (by first | omega | (rw [ByteArray.size_append]; omega))])
                  rotate_left
                  · simp only [Act.put, List.setIfInBounds_toArray, List.set_cons_zero, List.set_cons_succ]
                    rfl
                  refine pure_ (i := 16) (N := some 197) (v := ?_) (a' := ?_) #[true, true, true, true, true, true, true, true, true, true, true, true, true, false, true, true, true, false, false, false] rfl rfl (by kernel_rfl) (fun _ _ _ h => h) (Or.inl ⟨by rfl, ?_⟩) ?_ ?_
                  rotate_left
                  · intro w'
                    go_simp
                    first | with_reducible rfl | (rw [if_neg (by first | omega | (rw [ByteArray.size_append]; omega))])
                  rotate_left
                  · simp only [Act.put, List.setIfInBounds_toArray, List.set_cons_zero, List.set_cons_succ]
                    rfl
                  refine take_ (i := 13) (N := some 194) (v := ?_) (a' := ?_) #[true, true, true, true, true, true, true, true, true, true, true, true, true, true, true, true, true, false, false, false] rfl rfl (by kernel_rfl) (fun _ _ _ h => h) (Or.inl ⟨by rfl, ?_⟩) hHeld ?_ ?_
                  rotate_left
                  · rintro w' ⟨s0, s1, s2, s3, s4, s5, s6, s7, s8, s9⟩
                    go_simp
                    first | with_reducible rfl | (rw [if_neg (by first | omega | (rw [ByteArray.size_append]; omega))])
                  rotate_left
                  · simp only [Act.put, List.setIfInBounds_toArray, List.set_cons_zero, List.set_cons_succ]
                    rfl
                  refine take_ (i := 17) (N := some 198) (v := ?_) (a' := ?_) #[true, true, true, true, true, true, true, true, true, true, true, true, true, true, true, true, true, true, false, false] rfl rfl (by kernel_rfl) (fun _ _ _ h => h) (Or.inl ⟨by rfl, ?_⟩) hHeld ?_ ?_
                  rotate_left
                  · rintro w' ⟨s0, s1, s2, s3, s4, s5, s6, s7, s8, s9⟩
                    go_simp
                    first | with_reducible rfl | (rw [if_neg (by first | omega | (rw [ByteArray.size_append]; omega))])
                  rotate_left
                  · simp only [Act.put, List.setIfInBounds_toArray, List.set_cons_zero, List.set_cons_succ]
                    rfl
                  refine pure_ (i := 18) (N := some 199) (v := ?_) (a' := ?_) #[true, true, true, true, true, true, true, true, true, true, true, true, true, true, true, true, true, true, true, false] rfl rfl (by kernel_rfl) (fun _ _ _ h => h) (Or.inl ⟨by rfl, ?_⟩) ?_ ?_
                  rotate_left
                  · intro w'
                    go_simp
                    first | with_reducible rfl | (rw [if_neg (by first | omega | (rw [ByteArray.size_append]; omega))])
                  rotate_left
                  · simp only [Act.put, List.setIfInBounds_toArray, List.set_cons_zero, List.set_cons_succ]
                    rfl
                  refine pure_ (i := 19) (N := some 200) (v := ?_) (a' := ?_) #[true, true, true, true, true, true, true, true, true, true, true, true, true, true, true, true, true, true, true, true] rfl rfl (by kernel_rfl) (fun _ _ _ h => h) (Or.inl ⟨by rfl, ?_⟩) ?_ ?_
                  rotate_left
                  · intro w'
                    go_simp
                    first | with_reducible rfl | (rw [if_neg (by first | omega | (rw [ByteArray.size_append]; omega))])
                  rotate_left
                  · simp only [Act.put, List.setIfInBounds_toArray, List.set_cons_zero, List.set_cons_succ]
                    rfl
                  refine done_ (by kernel_rfl) ?_
                  have q4 := Hal.out.c4
                  clear hHeld Hxd
                  generalize w5.drew = w6 at *
                  have hml := HML.out
                  go_wp2_with (first
                    | ((with_reducible refine gate_builtin (b := .append) (xs := #[.tmp 201, .tmp 207]) rfl ?_); at_builtin; refine Kd.R_append Kd.string (w0 := w2) w2.heap.size rfl (.tmp 201) (.tmp 207) 46 9 (.string ByteArray.empty) 16 rfl Tryd.underlying46 str_info rfl (by decide) (by omega) (.slice A5 m c5) (W.take m) t [.string t] (fun _ => True) (fun _ => False) rfl rfl ?aP (fun _ hk => hk.elim) ?aF ?aO ?aB ?aS ?aL ?_; (case aP => exact rfl); (case aB => exact (by repeat (first | (with_reducible exact HB.out) | apply below_alloc | apply pw_below_drewN | apply below_drew1))); (case aF => exact (fun _ _ => trivial)); (case aO => exact (by (with_reducible repeat (first | apply Kd.R_alloc | apply Kd.R_drewN | apply Kd.R_drew)); exact HO.out)); (case aS => exact (below_size (by repeat (first | (with_reducible exact HB.out) | apply below_alloc | apply pw_below_drewN | apply below_drew1)))); (case aL => (have := HLN.out; have := HML.out; omega)); intro va wa ho hb hg hat; have n0_ := Aside0.mk hb; have n1_ := Aside0.mk ho; clear HB HO; have HB := n0_; have HO := n1_; clear n0_ n1_ ho hb hg hat))
                  obtain ⟨A6, c6, rfl, hc6, _⟩ := Kd.R_reads HO.out
                  have hlen2 : (W.take m ++ [t]).length = m + 1 := by rw [List.length_append, List.length_singleton, HLN.out]
                  have HOn := HO.out
                  rw [hlen2] at HOn ⊢
                  rw [← htk.out] at HOn
                  have HOn := Aside0.mk HOn
                  clear hlen2 HO hc6 q4
                  go_wp2_with fail
                  go_roundw
                  case rel => exact ⟨m + 1, A6, c6, rfl, by go_num, by omega, HOn, HB⟩
                  case measure => simp [intOf]; omega
                · obtain rfl : m = L'.length := by omega
                  have htk : W.take L'.length = W := by rw [List.take_of_length_le (by have := HLW.out; have := HW.out; omega)]
                  rw [htk] at HO
                  obtain ⟨hPC, hPk, hPc⟩ := R_Cw HO.out
                  have TX : ∀ w', Kd.C Kd.string w' A5 W.length W → Kd.C Kd.string w' A3 W.length W → Calls Tryd.prog 18 #[.slice A5 L'.length c5, .slice A3 k c3] w' fun e w'' => e = .returned (.bool true) ∧ Drawn0 w' w'' := fun w' h1 h2 => by
                    rw [hPk, HKW.out]
                    exact texts_same A5 c5 W A3 c3 w' h1 hPc h2 HOc.out (by have := HW.out; have := HN.out; omega)
                  have HPC := Aside0.mk hPC
                  have HTX := Aside0.mk TX
                  clear hPC hPk hPc TX htk hlt hm
                  go_wp2_with fail
                  refine (wire_first _).mono ?_
                  rintro e w3 ⟨rfl, hb⟩
                  have HPn := Aside0.mk (Kd.C_below HPC.out hb); clear HPC; have HPC := HPn; clear HPn
                  have HBn := Aside0.mk (below_next HB.out hb); clear HB; have HB := HBn; clear HBn hb
                  go_wp2_with fail
                  refine (HTX.out _ HPC.out (Kd.C_below HOC.out HB.out)).mono ?_
                  rintro e wd ⟨rfl, ⟨nd, rfl⟩⟩
                  go_wp2_with fail
                  go_ret
                  exact ⟨rfl, by apply pw_below_drewN; exact HBw.out.trans (HB.out.mono HBw.out.size)⟩
            · exact absurd (hN.symm.trans (HL0.out _)) (by simp)
          · obtain ⟨d, rfl⟩ : ∃ d, j = d + 1 := ⟨j - 1, by omega⟩
            obtain ⟨L, hL0, _, _⟩ := HA.out
            have hd50 := HD.out
            have hone := nest_one all L hL0 d (d + 1) (by omega) (Nat.le_refl _)
            have hdeep := deep_all all d (by omega)
            have hsz : (nestB (d + 1) all).size ≤ 50000 := by have := nest_size (d + 1) all (by omega); have := HZ2.out; omega
            generalize nestB (d + 1) all = nb at *
            have H3 := fun w => wall_any w nb ((d + 1 : Nat) : Int) (by omega) (by omega) (by omega)
            have H6 := fun w => wall6 w nb d (by omega) (by omega) hdeep
            have HONE := Aside0.mk hone
            have hdm : ((d + 1 : Nat) : Int) - 1 = (d : Int) := by omega
            have HD1 := Aside0.mk (show d + 1 ≤ 50 from hd50)
            obtain ⟨z, hz⟩ : ∃ z : Int, ((d + 1 : Nat) : Int) = z := ⟨_, rfl⟩
            have HZZ := Aside0.mk hz
            rw [hz] at H3 hdm g3 g4 ⊢
            have hz0 : 0 < z := by omega
            have hzd : z.toNat = d + 1 := by omega
            have HZD := Aside0.mk hzd
            have H3 : ∀ w, Calls Tryd.prog 12 #[.string nb, .int .i64 z] w (AllOk nb z w) := H3
            have H6 : ∀ w, Calls Tryd.prog 12 #[.string nb, .int .i64 (z - 1)] w (AErr6 nb w) := by rw [hdm]; exact H6
            clear hL0 hone hdeep hsz hd50 hdm hz hzd hd0 HD
            go_wp2_with fail
            refine (H3 _).mono ?_
            rintro e w2 (⟨L', A, c, hL, rfl, hC, hc, hb⟩ | ⟨hN, _⟩)
            · rw [HZD.out] at hL
              obtain rfl : L' = [⟨d + 1, 3, 0, [], bs nb⟩] := by have := hL.symm.trans HONE.out; injection this
              obtain ⟨ad, rfl, ha⟩ := recCells hC 0 (by simp)
              have ha : RecC w2 ad 0 z 3 0 ByteArray.empty nb := by
                have h : RecC w2 ad 0 ((d + 1 : Nat) : Int) 3 0 (st []) (st (bs nb)) := ha
                rw [HZZ.out, st_nil, st_bs] at h
                exact h
              have HBn := Aside0.mk (below_next HB.out hb); clear HB; have HB := HBn; clear HBn
              have Ha := Aside0.mk ha
              clear hb hC hc hL ha H3
              go_wp2_with fail
              refine (H6 _).mono ?_
              rintro e w3 ⟨T, v, E, rfl, hu, hE, hb⟩
              obtain ⟨p6, rfl, _⟩ := hE
              have HU := Aside0.mk hu
              have HBn := Aside0.mk (below_next HB.out hb); clear HB; have HB := HBn; clear HBn
              have Han := Aside0.mk (Ha.out.below hb); clear Ha; have Ha := Han; clear Han
              clear hb hu H6
              go_wp2_with fail
              refine (wire_first _).mono ?_
              rintro e w4 ⟨rfl, hb⟩
              have HUn := Aside0.mk (HU.out.below hb); clear HU; have HU := HUn; clear HUn
              have HBn := Aside0.mk (below_next HB.out hb); clear HB; have HB := HBn; clear HBn
              have Han := Aside0.mk (Ha.out.below hb); clear Ha; have Ha := Han; clear Han
              clear hb
              have q0 := Ha.out.c0
              have q1 := Ha.out.c1
              have q4 := Ha.out.c4
              have e0 : ad.add (0 * 5) = ad := by simp [Addr.add]
              rw [e0] at q0 q1 q4
              have r1 := q1
              have r4 := q4
              rw [show ad = ad.add 0 by simp [Addr.add]] at r1 r4
              clear e0
              have CD := fun (hg : Laid w4) => codeAt p6 6 _ w4 hg HU.out
              go_wp2_with fail
              refine (CD (HG.out.below HB.out)).mono ?_
              rintro e w5 ⟨rfl, hb⟩
              have HBn := Aside0.mk (below_next HB.out hb); clear HB; have HB := HBn; clear HBn
              clear hb
              go_wp2_with fail
              go_ret
              exact ⟨rfl, HB.out⟩
            · rw [HZD.out, HONE.out] at hN
              cases hN
end Go.Proofs.YtklkiofhenhafaaDoor
namespace Go.Proofs.YtklkiofhenhafaaDoor
open Go.RowKit Go.Proofs.YtklkiofhenhafaaDoorW.PrintWords Go.Proofs.YtklkiofhenhafaaDoorW.PrintLast Go.Proofs.YtklkiofhenhafaaDoorW.PrintMore Hy

set_option maxHeartbeats 1000000 in
set_option maxRecDepth 100000 in
theorem wireBack_walk (A1 : Option Addr) (c1 : Nat) (l : List Int) (A2 : Option Addr) (c2 : Nat) (u : List Int) (s : ByteArray) (deep : Int) (w : World)
    (h1 : Kd.C (Kd.int .i64) w A1 l.length l) (_hc1 : l.length ≤ c1) (_hl1 : l.length * 8 ≤ 140737488351232) (hx : ∀ x ∈ l, -9223372036854775808 ≤ x ∧ x < 9223372036854775808)
    (h2 : Kd.C (Kd.int .u64) w A2 u.length u) (_hc2 : u.length ≤ c2) (_hl2 : u.length * 8 ≤ 140737488351232) (hy : ∀ x ∈ u, 0 ≤ x ∧ x < 18446744073709551616)
    (_hs : s.size ≤ 140737488351232) (_hd0 : -9223372036854775808 ≤ deep) (_hd1 : deep < 9223372036854775808) (hg : Laid w) :
    Calls Tryd.prog 4 #[.slice A1 l.length c1, .slice A2 u.length c2, .string s, .int .i64 deep] w fun e w' => e = .returned (.bool true) ∧ Below w.heap.size w w' := by
  have HB := Aside0.mk (Below.refl w.heap.size w)
  by_cases hgo : l.length ≤ 100 ∧ u.length = l.length ∧ s.size ≤ 4000 ∧ 0 ≤ deep ∧ deep ≤ 50
  · obtain ⟨g1, g2, g3, g4, g5⟩ := hgo
    obtain ⟨D, rfl⟩ := Int.eq_ofNat_of_zero_le g4
    have H := wback_go A1 c1 l A2 c2 u l.length s D w h1 h2 rfl g2 g1 g3 (by omega) hx hy hg
    rw [g2]
    exact H
  · clear h1 h2 hx hy hg _hl1 _hl2 _hs _hd0 _hd1
    by_cases k1 : 100 < l.length
    · clear hgo
      go_enter Tryd.func4, Tryd.ntmps4
      go_wp2_with (first
        | (go_at_call 6; refine (wire_first _).mono ?_; rintro e wb ⟨rfl, hb⟩; have HBn : Aside0 (Below w.heap.size w wb) := ⟨below_next (by repeat (first | (with_reducible exact HB.out) | apply below_alloc | apply pw_below_drewN | apply below_drew1)) hb⟩; clear HB hb; have HB := HBn; clear HBn))
      go_ret
      exact ⟨rfl, (by repeat (first | (with_reducible exact HB.out) | apply below_alloc | apply pw_below_drewN | apply below_drew1))⟩
    by_cases k2 : u.length = l.length
    · generalize u.length = n2 at *
      subst k2
      by_cases k3 : 4000 < s.size
      · clear hgo
        go_enter Tryd.func4, Tryd.ntmps4
        go_wp2_with (first
          | (go_at_call 6; refine (wire_first _).mono ?_; rintro e wb ⟨rfl, hb⟩; have HBn : Aside0 (Below w.heap.size w wb) := ⟨below_next (by repeat (first | (with_reducible exact HB.out) | apply below_alloc | apply pw_below_drewN | apply below_drew1)) hb⟩; clear HB hb; have HB := HBn; clear HBn))
        go_ret
        exact ⟨rfl, (by repeat (first | (with_reducible exact HB.out) | apply below_alloc | apply pw_below_drewN | apply below_drew1))⟩
      by_cases k4 : deep < 0
      · clear hgo
        go_enter Tryd.func4, Tryd.ntmps4
        go_wp2_with (first
          | (go_at_call 6; refine (wire_first _).mono ?_; rintro e wb ⟨rfl, hb⟩; have HBn : Aside0 (Below w.heap.size w wb) := ⟨below_next (by repeat (first | (with_reducible exact HB.out) | apply below_alloc | apply pw_below_drewN | apply below_drew1)) hb⟩; clear HB hb; have HB := HBn; clear HBn))
        go_ret
        exact ⟨rfl, (by repeat (first | (with_reducible exact HB.out) | apply below_alloc | apply pw_below_drewN | apply below_drew1))⟩
      by_cases k5 : 50 < deep
      · clear hgo
        go_enter Tryd.func4, Tryd.ntmps4
        go_wp2_with (first
          | (go_at_call 6; refine (wire_first _).mono ?_; rintro e wb ⟨rfl, hb⟩; have HBn : Aside0 (Below w.heap.size w wb) := ⟨below_next (by repeat (first | (with_reducible exact HB.out) | apply below_alloc | apply pw_below_drewN | apply below_drew1)) hb⟩; clear HB hb; have HB := HBn; clear HBn))
        go_ret
        exact ⟨rfl, (by repeat (first | (with_reducible exact HB.out) | apply below_alloc | apply pw_below_drewN | apply below_drew1))⟩
      · exact absurd ⟨by omega, rfl, by omega, by omega, by omega⟩ hgo
    · have k2i : ¬ (u.length : Int) = (l.length : Int) := by omega
      clear hgo
      go_enter Tryd.func4, Tryd.ntmps4
      go_wp2_with (first
        | (go_at_call 6; refine (wire_first _).mono ?_; rintro e wb ⟨rfl, hb⟩; have HBn : Aside0 (Below w.heap.size w wb) := ⟨below_next (by repeat (first | (with_reducible exact HB.out) | apply below_alloc | apply pw_below_drewN | apply below_drew1)) hb⟩; clear HB hb; have HB := HBn; clear HBn))
      go_ret
      exact ⟨rfl, (by repeat (first | (with_reducible exact HB.out) | apply below_alloc | apply pw_below_drewN | apply below_drew1))⟩
end Go.Proofs.YtklkiofhenhafaaDoor
