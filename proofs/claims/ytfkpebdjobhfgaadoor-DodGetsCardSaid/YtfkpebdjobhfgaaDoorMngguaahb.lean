import Derived.Test.YtfkpebdjobhfgaaDoorMqyobvjmj
import Derived.Test.YtfkpebdjobhfgaaDoorMsrebcxpn
import Derived.Test.YtfkpebdjobhfgaaDoorPDodGetsx
namespace Go.Proofs.YtfkpebdjobhfgaaDoor
open Go.RowKit Go.Proofs.YtfkpebdjobhfgaaDoorW.PrintWords Go.Proofs.YtfkpebdjobhfgaaDoorW.PrintLast Go.Proofs.YtfkpebdjobhfgaaDoorW.PrintMore Hy

theorem guess_f (l : List Int) (hl : l.length ≤ 140737488355328) : PDodGets.dod_guess.f l = some (guess l) := by
  unfold PDodGets.dod_guess.f
  rcases h : l.reverse with _ | ⟨a, t⟩
  · obtain rfl : l = [] := by simpa using h
    rfl
  · rcases t with _ | ⟨b, t⟩
    · have e : l = [a] := by rw [← List.reverse_reverse l, h]; rfl
      subst e
      rfl
    · have e : l = t.reverse ++ [b, a] := by rw [← List.reverse_reverse l, h]; simp
      have hn : l.length = t.length + 2 := by rw [e]; simp
      have w1 : wrap64 ((l.length : Int) - 1) = ((t.length + 1 : Nat) : Int) := by unfold wrap64; omega
      have w2 : wrap64 ((l.length : Int) - 2) = ((t.length : Nat) : Int) := by unfold wrap64; omega
      rw [if_neg (by omega), if_neg (by omega), w1, w2, if_pos (by omega), if_pos (by omega), if_pos (by omega), if_pos (by omega)]
      have r1 : rd l ((t.length + 1 : Nat) : Int) = a := by
        unfold rd
        rw [Int.toNat_natCast, e]
        simp [List.getD_eq_getElem?_getD]
      have r2 : rd l ((t.length : Nat) : Int) = b := by
        unfold rd
        rw [Int.toNat_natCast, e]
        simp [List.getD_eq_getElem?_getD]
      rw [r1, r2, wrap_u64, wrap_u64]
      unfold guess
      rw [h]
      simp only
      congr 1
      omega
theorem guess_any (A : Option Addr) (c : Nat) (l : List Int) (w : World) (hr : Kd.C (Kd.int .u64) w A l.length l) (hc : l.length ≤ c) (hl : l.length ≤ 140737488355328) :
    Calls Tryd.prog 27 #[.slice A l.length c] w fun e w' => e = .returned (.int .u64 (guess l)) ∧ Drawn0 w w' :=
  PDodGets.dod_guess.calls A c l _ w hr hc (guess_f l hl)
theorem guess_take (A : Option Addr) (c n : Nat) (l : List Int) (w : World) (hr : Kd.C (Kd.int .u64) w A l.length l) (hc : l.length ≤ c) (hn : n ≤ l.length) (hl : l.length ≤ 140737488355328) :
    Calls Tryd.prog 27 #[.slice A n c] w fun e w' => e = .returned (.int .u64 (guess (l.take n))) ∧ Drawn0 w w' := by
  have h := guess_any A c (l.take n) w (Kd.C_take hr hn) (by simp; omega) (by simp; omega)
  rw [List.length_take, Nat.min_eq_left hn] at h
  exact h

set_option maxHeartbeats 1000000 in
set_option maxRecDepth 100000 in
theorem dodGet_ok (s : ByteArray) (count : Int) (vs : List Int) (w : World) (h0 : 0 ≤ count) (h1 : count ≤ 20000) (hs : s.size ≤ 140737488351232) (h : getN count.toNat (bs s) = some (vs, [])) :
    Calls Tryd.prog 19 #[.string s, .int .i64 count] w fun e w' => ∃ A c, e = .returned (.tuple #[.slice A (unoffs [] vs).length c, .nilIface]) ∧ Kd.C (Kd.int .u64) w' A (unoffs [] vs).length (unoffs [] vs) ∧ (unoffs [] vs).length ≤ c ∧ Below w.heap.size w w' := by
  have HB := Aside0.mk (Below.refl w.heap.size w)
  obtain ⟨hb, hn, hv⟩ := getN_some _ _ _ _ (bs_ok s) h
  rw [List.append_nil] at hb
  have hsz : (putsL vs).length = s.size := by rw [← hb, bs_length]
  have HS := Aside0.mk hb
  have HN := Aside0.mk hn
  have HV := Aside0.mk hv
  have HZ := Aside0.mk hsz
  clear h hb hn hv hsz
  go_enter Tryd.func19, Tryd.ntmps19
  go_wp2_with fail
  go_loopw [6, 7, 20] (fun v6 v7 v20 w' => ∃ j : Nat, j ≤ vs.length ∧ v20 = .int .i64 j ∧ v7 = .int .i64 ((putsL (vs.take j)).length : Int) ∧ Aside0 (Kd.R (Kd.int .u64) 22 w' w.heap.size (fun _ => True) v6 (unoffs [] (vs.take j))) ∧ Aside0 (Below w.heap.size w w')) (fun _ _ v20 _ => vs.length - (intOf v20).toNat)
  case atStart => exact ⟨0, by omega, rfl, rfl, ⟨Kd.R_nil _ _ _ _ _⟩, HB⟩
  case round =>
    clear HB
    obtain ⟨j, hj, rfl, rfl, HO, HB⟩ := hrel
    by_cases hlt : j < vs.length
    · have hxj := HV.out _ (List.getElem_mem hlt)
      have h2 := putsL_take_le vs j
      have h3 : (putL vs[j].toNat).length ≤ 10 := putL_len10 _ (by omega)
      have A1 := fun w => get_put s ((putsL (vs.take j)).length : Int) vs[j] (putsL (vs.drop (j + 1))) w (by omega) (by have := HZ.out; omega) hs hxj.1 hxj.2 (by
        rw [HS.out, Int.toNat_natCast, putsL_drop vs j hlt])
      have A2 := fun w => size_any vs[j] w hxj.1 hxj.2
      have A3 := fun w => zag_any vs[j] w hxj.1 hxj.2
      have h4 : j < 20000 := by have := HN.out; omega
      have hlen : (unoffs [] (vs.take j)).length = j := by rw [unoffs_length]; simp; omega
      have h5 : (j : Int) < count := by have := HN.out; omega
      have hps : (put vs[j]).size ≤ 10 := by rw [put_size]; exact h3
      obtain ⟨A, c, rfl, hAc, _⟩ := Kd.R_reads HO.out
      have hl47 : (unoffs [] (vs.take j)).length ≤ 20000 := by omega
      have hnx : unoffs [] (vs.take (j + 1)) = unoffs [] (vs.take j) ++ [unoff (unoffs [] (vs.take j)) vs[j]] := by
        rw [List.take_succ_eq_append_getElem hlt, unoffs_snoc]
      by_cases hj0 : j = 0
      · have hj1 : ¬ (0 : Int) < (j : Int) := by omega
        have hv := unoff_first (unoffs [] (vs.take j)) vs[j] (by omega)
        rw [← hv, ← wrap_u64] at hnx
        have HX := Aside0.mk hnx
        clear hnx hv hlen hj0
        go_wp2_with (first
          | (go_at_call 10; refine (A1 _).mono ?_; rintro e wb ⟨rfl, hb⟩; have HOn := Aside0.mk (Kd.R_below (by (with_reducible repeat (first | apply Kd.R_alloc | apply Kd.R_drewN | apply Kd.R_drew)); exact HO.out) hb); clear HO; have HO := HOn; clear HOn; have HBn : Aside0 (Below w.heap.size w wb) := ⟨below_next (by repeat (first | (with_reducible exact HB.out) | apply below_alloc | apply pw_below_drewN | apply below_drew1)) hb⟩; clear HB hb; have HB := HBn; clear HBn)
          | (go_at_call 21; refine (A2 _).mono ?_; rintro e wd ⟨rfl, ⟨nd, rfl⟩⟩)
          | (go_at_call 23; refine (A3 _).mono ?_; rintro e wd ⟨rfl, ⟨nd, rfl⟩⟩)
          | (go_at_call 27; refine (guess_any A c _ _ (R_C (by (with_reducible repeat (first | apply Kd.R_alloc | apply Kd.R_drewN | apply Kd.R_drew)); exact HO.out)).1 hAc (by omega)).mono ?_; rintro e wd ⟨rfl, ⟨nd, rfl⟩⟩)
          | ((with_reducible refine gate_builtin (b := .append) (xs := #[.tmp 47, .tmp 52]) rfl ?_); at_builtin; refine Kd.R_append (Kd.int .u64) (w0 := w) w.heap.size rfl (.tmp 47) (.tmp 52) 38 22 (.int .u64 0) 8 rfl Tryd.underlying38 info_u64 rfl (by decide) (by omega) (.slice A (unoffs [] (vs.take j)).length c) (unoffs [] (vs.take j)) (IntKind.u64.wrap (guess (unoffs [] (vs.take j)) + vs[j])) [.int .u64 (IntKind.u64.wrap (guess (unoffs [] (vs.take j)) + vs[j]))] (fun _ => True) (fun _ => False) rfl rfl ?aP (fun _ hk => hk.elim) ?aF ?aO ?aB ?aS ?aL ?_; (case aP => exact rfl); (case aB => exact (by repeat (first | (with_reducible exact HB.out) | apply below_alloc | apply pw_below_drewN | apply below_drew1))); (case aF => exact (fun _ _ => trivial)); (case aO => exact (by (with_reducible repeat (first | apply Kd.R_alloc | apply Kd.R_drewN | apply Kd.R_drew)); exact HO.out)); (case aS => exact (below_size (by repeat (first | (with_reducible exact HB.out) | apply below_alloc | apply pw_below_drewN | apply below_drew1)))); (case aL => omega); intro va wa ho hb hg hat; have n0_ := Aside0.mk hb; have n1_ := Aside0.mk ho; clear HB HO; have HB := n0_; have HO := n1_; clear n0_ n1_ ho hb hg hat))
        rw [← HX.out] at HO
        go_roundw
        case rel => exact ⟨j + 1, by omega, by go_num, by rw [putsL_snoc vs j hlt, List.length_append, put_size]; go_num, HO, HB⟩
        case measure => simp [intOf]; omega
      · have hj1 : (0 : Int) < (j : Int) := by omega
        have hv := unoff_next (unoffs [] (vs.take j)) vs[j] (by omega)
        rw [← hv, ← wrap_u64, ← wrap_u64] at hnx
        have HX := Aside0.mk hnx
        clear hnx hv hlen hj0
        go_wp2_with (first
          | (go_at_call 10; refine (A1 _).mono ?_; rintro e wb ⟨rfl, hb⟩; have HOn := Aside0.mk (Kd.R_below (by (with_reducible repeat (first | apply Kd.R_alloc | apply Kd.R_drewN | apply Kd.R_drew)); exact HO.out) hb); clear HO; have HO := HOn; clear HOn; have HBn : Aside0 (Below w.heap.size w wb) := ⟨below_next (by repeat (first | (with_reducible exact HB.out) | apply below_alloc | apply pw_below_drewN | apply below_drew1)) hb⟩; clear HB hb; have HB := HBn; clear HBn)
          | (go_at_call 21; refine (A2 _).mono ?_; rintro e wd ⟨rfl, ⟨nd, rfl⟩⟩)
          | (go_at_call 23; refine (A3 _).mono ?_; rintro e wd ⟨rfl, ⟨nd, rfl⟩⟩)
          | (go_at_call 27; refine (guess_any A c _ _ (R_C (by (with_reducible repeat (first | apply Kd.R_alloc | apply Kd.R_drewN | apply Kd.R_drew)); exact HO.out)).1 hAc (by omega)).mono ?_; rintro e wd ⟨rfl, ⟨nd, rfl⟩⟩)
          | ((with_reducible refine gate_builtin (b := .append) (xs := #[.tmp 47, .tmp 52]) rfl ?_); at_builtin; refine Kd.R_append (Kd.int .u64) (w0 := w) w.heap.size rfl (.tmp 47) (.tmp 52) 38 22 (.int .u64 0) 8 rfl Tryd.underlying38 info_u64 rfl (by decide) (by omega) (.slice A (unoffs [] (vs.take j)).length c) (unoffs [] (vs.take j)) (IntKind.u64.wrap (guess (unoffs [] (vs.take j)) + IntKind.u64.wrap (zag vs[j]))) [.int .u64 (IntKind.u64.wrap (guess (unoffs [] (vs.take j)) + IntKind.u64.wrap (zag vs[j])))] (fun _ => True) (fun _ => False) rfl rfl ?aP (fun _ hk => hk.elim) ?aF ?aO ?aB ?aS ?aL ?_; (case aP => exact rfl); (case aB => exact (by repeat (first | (with_reducible exact HB.out) | apply below_alloc | apply pw_below_drewN | apply below_drew1))); (case aF => exact (fun _ _ => trivial)); (case aO => exact (by (with_reducible repeat (first | apply Kd.R_alloc | apply Kd.R_drewN | apply Kd.R_drew)); exact HO.out)); (case aS => exact (below_size (by repeat (first | (with_reducible exact HB.out) | apply below_alloc | apply pw_below_drewN | apply below_drew1)))); (case aL => omega); intro va wa ho hb hg hat; have n0_ := Aside0.mk hb; have n1_ := Aside0.mk ho; clear HB HO; have HB := n0_; have HO := n1_; clear n0_ n1_ ho hb hg hat))
        rw [← HX.out] at HO
        go_roundw
        case rel => exact ⟨j + 1, by omega, by go_num, by rw [putsL_snoc vs j hlt, List.length_append, put_size]; go_num, HO, HB⟩
        case measure => simp [intOf]; omega
    · obtain rfl : j = vs.length := by omega
      rw [List.take_length] at HO
      rw [List.take_length, HZ.out]
      obtain ⟨A, c, rfl, hAc, hC⟩ := Kd.R_reads HO.out
      clear hj hlt
      have hlt : ¬ ((vs.length : Int) < count) := by have := HN.out; omega
      go_wp2_with fail
      go_ret2
      exact ⟨A, c, rfl, hC, hAc, HB.out⟩

/-- An error comes back, and no numbers. -/
def ErrBack (w : World) (e : Ending) (w' : World) : Prop := ∃ u E, e = .returned (.tuple #[.slice none 0 0, u]) ∧ IsE w' E u ∧ E ≠ .nil ∧ Below w.heap.size w w'

set_option maxHeartbeats 400000 in
theorem dodGet_range (s : ByteArray) (count : Int) (w : World) (h : count < 0 ∨ 20000 < count) :
    Calls Tryd.prog 19 #[.string s, .int .i64 count] w fun e w' => e = .returned (.tuple #[.slice none 0 0, .iface 30 (.int .i64 9)]) ∧ Below w.heap.size w w' := by
  have HB := Aside0.mk (Below.refl w.heap.size w)
  by_cases h0 : count < 0
  · clear h
    go_enter Tryd.func19, Tryd.ntmps19
    go_wp2
    go_ret2
    exact ⟨rfl, HB.out⟩
  · have h1 : 20000 < count := by omega
    clear h
    go_enter Tryd.func19, Tryd.ntmps19
    go_wp2
    go_ret2
    exact ⟨rfl, HB.out⟩

set_option maxHeartbeats 2000000 in
set_option maxRecDepth 100000 in
theorem dodGet_err (s : ByteArray) (count : Int) (w : World) (h0 : 0 ≤ count) (h1 : count ≤ 20000) (hs : s.size ≤ 140737488351232) (h : ∀ vs, getN count.toNat (bs s) ≠ some (vs, [])) :
    Calls Tryd.prog 19 #[.string s, .int .i64 count] w (ErrBack w) := by
  have HB := Aside0.mk (Below.refl w.heap.size w)
  have HS := Aside0.mk h
  clear h
  go_enter Tryd.func19, Tryd.ntmps19
  go_wp2_with fail
  go_loopw [6, 7, 20] (fun v6 v7 v20 w' => ∃ (vs : List Int) (r : List Nat), Aside0 (bs s = putsL vs ++ r) ∧ vs.length ≤ count.toNat ∧ Aside0 (u64s vs) ∧ Aside0 (∀ x, getN (count.toNat - vs.length) r ≠ some (x, [])) ∧ v20 = .int .i64 (vs.length : Int) ∧ v7 = .int .i64 ((putsL vs).length : Int) ∧ Aside0 (Kd.R (Kd.int .u64) 22 w' w.heap.size (fun _ => True) v6 (unoffs [] vs)) ∧ Aside0 (Below w.heap.size w w')) (fun _ _ v20 _ => count.toNat - (intOf v20).toNat)
  case atStart => exact ⟨[], bs s, ⟨rfl⟩, by simp, ⟨fun x hx => by simp at hx⟩, HS, rfl, rfl, ⟨Kd.R_nil _ _ _ _ _⟩, HB⟩
  case round =>
    clear HB HS
    obtain ⟨vs, r, HE, hj, HV, HG, rfl, rfl, HO, HB⟩ := hrel
    have hsz : (putsL vs).length + r.length = s.size := by rw [← bs_length, HE.out, List.length_append]
    have hdrop : (bs s).drop (putsL vs).length = r := by rw [HE.out, List.drop_left]
    have HD := Aside0.mk hdrop
    clear hdrop
    by_cases hlt : (vs.length : Int) < count
    · have hgn := HG.out
      obtain ⟨n, hn⟩ : ∃ n, count.toNat - vs.length = n + 1 := ⟨count.toNat - vs.length - 1, by omega⟩
      rw [hn] at hgn
      simp only [getN] at hgn
      rcases hd : dec 0 r with c | ⟨v, k⟩
      · have A1 := fun w => get_err s ((putsL vs).length : Int) c w (by omega) (by omega) hs (by rw [Int.toNat_natCast, HD.out]; exact hd)
        clear hgn hd hn
        go_wp2_with (first
          | (go_at_call 10; refine (A1 _).mono ?_; rintro e wb ⟨u, rfl, hu, hb⟩; obtain ⟨uT, ux, rfl⟩ := hu.iface (by simp); have HBn : Aside0 (Below w.heap.size w wb) := ⟨below_next (by repeat (first | (with_reducible exact HB.out) | apply below_alloc | apply pw_below_drewN | apply below_drew1)) hb⟩; clear HB hb; have HB := HBn; clear HBn; have HU := Aside0.mk hu; clear hu))
        go_ret2
        exact ⟨_, _, rfl, HU.out, by simp, HB.out⟩
      · have hokr : okB r := by
          intro x hx; exact bs_ok s x (by rw [HE.out]; simp [hx])
        have hds := dec_some r 0 v k hokr (by omega) hd
        have A1 := fun w => get_ok s ((putsL vs).length : Int) v k w (by omega) (by omega) hs (by rw [Int.toNat_natCast, HD.out]; exact hd)
        have A2 := fun w => size_any (v : Int) w (by omega) (by omega)
        rw [hd] at hgn
        simp only at hgn
        have hps : (put (v : Int)).size ≤ 10 := by rw [put_size]; exact putL_len10 _ (by omega)
        have hpz : (put (v : Int)).size = (putL v).length := by rw [put_size, Int.toNat_natCast]
        by_cases hk : k = (putL v).length
        · rw [if_pos hk] at hgn
          have hcan := dec_canon0 r v k hokr hd hk
          have hlen : (unoffs [] vs).length = vs.length := by rw [unoffs_length]; simp
          have hl47 : (unoffs [] vs).length ≤ 20000 := by omega
          obtain ⟨A, c, rfl, hAc, _⟩ := Kd.R_reads HO.out
          have A3 := fun w => zag_any (v : Int) w (by omega) (by omega)
          have hnx : unoffs [] (vs ++ [(v : Int)]) = unoffs [] vs ++ [unoff (unoffs [] vs) (v : Int)] := unoffs_snoc [] vs v
          have hrest : Aside0 (bs s = putsL (vs ++ [(v : Int)]) ++ r.drop k) := ⟨by
            rw [HE.out, putsL_append, putsL_cons, putsL_nil, List.append_nil, Int.toNat_natCast, List.append_assoc, ← hcan]⟩
          have hgn2 : Aside0 (∀ x, getN (count.toNat - (vs ++ [(v : Int)]).length) (r.drop k) ≠ some (x, [])) := ⟨by
            intro x hx
            rw [show count.toNat - (vs ++ [(v : Int)]).length = n by simp; omega] at hx
            rw [hx] at hgn
            exact hgn _ rfl⟩
          have hv2 : Aside0 (u64s (vs ++ [(v : Int)])) := ⟨by
            intro x hx
            rcases List.mem_append.1 hx with hx | hx
            · exact HV.out x hx
            · simp at hx; omega⟩
          have hat : Aside0 (((putsL vs).length : Int) + ((k : Nat) : Int) = ((putsL (vs ++ [(v : Int)])).length : Int)) := ⟨by
            rw [putsL_append, putsL_cons, putsL_nil, List.append_nil, Int.toNat_natCast, List.length_append, hk]; simp⟩
          have hlen2 : (vs ++ [(v : Int)]).length = vs.length + 1 := by simp
          have HL2 := Aside0.mk hlen2
          have hk2 : ((k : Int) == ((put (v : Int)).size : Int)) = true := by rw [hpz, hk]; simp
          have hk3 : ((k : Int) != ((put (v : Int)).size : Int)) = false := by rw [hpz, hk]; simp
          have hk10 : k ≤ 10 := by omega
          by_cases hj0 : vs.length = 0
          · have hj1 : ¬ (0 : Int) < (vs.length : Int) := by omega
            have hv := unoff_first (unoffs [] vs) (v : Int) (by omega)
            rw [← hv, ← wrap_u64] at hnx
            have HX := Aside0.mk hnx
            clear hnx hv hlen hj0 hgn hcan hk hd hn hpz hlen2 hds hokr
            go_wp2_with (first
              | (go_at_call 10; refine (A1 _).mono ?_; rintro e wb ⟨rfl, hb⟩; have HOn := Aside0.mk (Kd.R_below (by (with_reducible repeat (first | apply Kd.R_alloc | apply Kd.R_drewN | apply Kd.R_drew)); exact HO.out) hb); clear HO; have HO := HOn; clear HOn; have HBn : Aside0 (Below w.heap.size w wb) := ⟨below_next (by repeat (first | (with_reducible exact HB.out) | apply below_alloc | apply pw_below_drewN | apply below_drew1)) hb⟩; clear HB hb; have HB := HBn; clear HBn)
              | (go_at_call 21; refine (A2 _).mono ?_; rintro e wd ⟨rfl, ⟨nd, rfl⟩⟩)
              | (go_at_call 23; refine (A3 _).mono ?_; rintro e wd ⟨rfl, ⟨nd, rfl⟩⟩)
              | (go_at_call 27; refine (guess_any A c _ _ (R_C (by (with_reducible repeat (first | apply Kd.R_alloc | apply Kd.R_drewN | apply Kd.R_drew)); exact HO.out)).1 hAc (by omega)).mono ?_; rintro e wd ⟨rfl, ⟨nd, rfl⟩⟩)
              | ((with_reducible refine gate_builtin (b := .append) (xs := #[.tmp 47, .tmp 52]) rfl ?_); at_builtin; refine Kd.R_append (Kd.int .u64) (w0 := w) w.heap.size rfl (.tmp 47) (.tmp 52) 38 22 (.int .u64 0) 8 rfl Tryd.underlying38 info_u64 rfl (by decide) (by omega) (.slice A (unoffs [] vs).length c) (unoffs [] vs) (IntKind.u64.wrap (guess (unoffs [] vs) + (v : Int))) [.int .u64 (IntKind.u64.wrap (guess (unoffs [] vs) + (v : Int)))] (fun _ => True) (fun _ => False) rfl rfl ?aP (fun _ hk => hk.elim) ?aF ?aO ?aB ?aS ?aL ?_; (case aP => exact rfl); (case aB => exact (by repeat (first | (with_reducible exact HB.out) | apply below_alloc | apply pw_below_drewN | apply below_drew1))); (case aF => exact (fun _ _ => trivial)); (case aO => exact (by (with_reducible repeat (first | apply Kd.R_alloc | apply Kd.R_drewN | apply Kd.R_drew)); exact HO.out)); (case aS => exact (below_size (by repeat (first | (with_reducible exact HB.out) | apply below_alloc | apply pw_below_drewN | apply below_drew1)))); (case aL => omega); intro va wa ho hb hg hat; have n0_ := Aside0.mk hb; have n1_ := Aside0.mk ho; clear HB HO; have HB := n0_; have HO := n1_; clear n0_ n1_ ho hb hg hat))
            rw [← HX.out] at HO
            go_roundw
            case rel => exact ⟨vs ++ [(v : Int)], r.drop k, hrest, by rw [HL2.out]; omega, hv2, hgn2, by rw [HL2.out]; go_num, by rw [← hat.out], HO, HB⟩
            case measure => simp [intOf]; omega
          · have hj1 : (0 : Int) < (vs.length : Int) := by omega
            have hv := unoff_next (unoffs [] vs) (v : Int) (by omega)
            rw [← hv, ← wrap_u64, ← wrap_u64] at hnx
            have HX := Aside0.mk hnx
            clear hnx hv hlen hj0 hgn hcan hk hd hn hpz hlen2 hds hokr
            go_wp2_with (first
              | (go_at_call 10; refine (A1 _).mono ?_; rintro e wb ⟨rfl, hb⟩; have HOn := Aside0.mk (Kd.R_below (by (with_reducible repeat (first | apply Kd.R_alloc | apply Kd.R_drewN | apply Kd.R_drew)); exact HO.out) hb); clear HO; have HO := HOn; clear HOn; have HBn : Aside0 (Below w.heap.size w wb) := ⟨below_next (by repeat (first | (with_reducible exact HB.out) | apply below_alloc | apply pw_below_drewN | apply below_drew1)) hb⟩; clear HB hb; have HB := HBn; clear HBn)
              | (go_at_call 21; refine (A2 _).mono ?_; rintro e wd ⟨rfl, ⟨nd, rfl⟩⟩)
              | (go_at_call 23; refine (A3 _).mono ?_; rintro e wd ⟨rfl, ⟨nd, rfl⟩⟩)
              | (go_at_call 27; refine (guess_any A c _ _ (R_C (by (with_reducible repeat (first | apply Kd.R_alloc | apply Kd.R_drewN | apply Kd.R_drew)); exact HO.out)).1 hAc (by omega)).mono ?_; rintro e wd ⟨rfl, ⟨nd, rfl⟩⟩)
              | ((with_reducible refine gate_builtin (b := .append) (xs := #[.tmp 47, .tmp 52]) rfl ?_); at_builtin; refine Kd.R_append (Kd.int .u64) (w0 := w) w.heap.size rfl (.tmp 47) (.tmp 52) 38 22 (.int .u64 0) 8 rfl Tryd.underlying38 info_u64 rfl (by decide) (by omega) (.slice A (unoffs [] vs).length c) (unoffs [] vs) (IntKind.u64.wrap (guess (unoffs [] vs) + IntKind.u64.wrap (zag (v : Int)))) [.int .u64 (IntKind.u64.wrap (guess (unoffs [] vs) + IntKind.u64.wrap (zag (v : Int))))] (fun _ => True) (fun _ => False) rfl rfl ?aP (fun _ hk => hk.elim) ?aF ?aO ?aB ?aS ?aL ?_; (case aP => exact rfl); (case aB => exact (by repeat (first | (with_reducible exact HB.out) | apply below_alloc | apply pw_below_drewN | apply below_drew1))); (case aF => exact (fun _ _ => trivial)); (case aO => exact (by (with_reducible repeat (first | apply Kd.R_alloc | apply Kd.R_drewN | apply Kd.R_drew)); exact HO.out)); (case aS => exact (below_size (by repeat (first | (with_reducible exact HB.out) | apply below_alloc | apply pw_below_drewN | apply below_drew1)))); (case aL => omega); intro va wa ho hb hg hat; have n0_ := Aside0.mk hb; have n1_ := Aside0.mk ho; clear HB HO; have HB := n0_; have HO := n1_; clear n0_ n1_ ho hb hg hat))
            rw [← HX.out] at HO
            go_roundw
            case rel => exact ⟨vs ++ [(v : Int)], r.drop k, hrest, by rw [HL2.out]; omega, hv2, hgn2, by rw [HL2.out]; go_num, by rw [← hat.out], HO, HB⟩
            case measure => simp [intOf]; omega
        · have hk2 : ((k : Int) == ((put (v : Int)).size : Int)) = false := by rw [hpz]; simp; omega
          have hk3 : ((k : Int) != ((put (v : Int)).size : Int)) = true := by rw [hpz]; simp; omega
          have hk10 : k ≤ 10 := by omega
          clear hgn hk hd hn hpz hds hokr
          go_wp2_with (first
            | (go_at_call 10; refine (A1 _).mono ?_; rintro e wb ⟨rfl, hb⟩; have HBn : Aside0 (Below w.heap.size w wb) := ⟨below_next (by repeat (first | (with_reducible exact HB.out) | apply below_alloc | apply pw_below_drewN | apply below_drew1)) hb⟩; clear HB hb; have HB := HBn; clear HBn)
            | (go_at_call 21; refine (A2 _).mono ?_; rintro e wd ⟨rfl, ⟨nd, rfl⟩⟩)
            | (go_at_call 24; refine (at_any _ _ _ ⟨_, _, rfl⟩).mono ?_; rintro e wx ⟨rfl, rfl⟩))
          go_ret2
          exact ⟨_, _, rfl, IsE.new (e := .code 3) rfl, by simp, (by repeat (first | (with_reducible exact HB.out) | apply below_alloc | apply pw_below_drewN | apply below_drew1))⟩
    · have hr : 0 < r.length := by
        have hgn := HG.out
        rw [show count.toNat - vs.length = 0 by omega] at hgn
        simp only [getN] at hgn
        cases r with
        | nil => exact absurd rfl (hgn [])
        | cons a t => simp
      have hat : (putsL vs).length < s.size := by omega
      clear hr hsz
      go_wp2_with (first
        | (go_at_call 24; refine (at_any _ _ _ ⟨_, _, rfl⟩).mono ?_; rintro e wx ⟨rfl, rfl⟩))
      go_ret2
      exact ⟨_, _, rfl, IsE.new (e := .code 2) rfl, by simp, (by repeat (first | (with_reducible exact HB.out) | apply below_alloc | apply pw_below_drewN | apply below_drew1))⟩
end Go.Proofs.YtfkpebdjobhfgaaDoor
namespace Go.Proofs.YtfkpebdjobhfgaaDoor
open Go.RowKit Go.Proofs.YtfkpebdjobhfgaaDoorW.PrintWords Go.Proofs.YtfkpebdjobhfgaaDoorW.PrintLast Go.Proofs.YtfkpebdjobhfgaaDoorW.PrintMore Hy

set_option maxHeartbeats 1000000 in
set_option maxRecDepth 100000 in
theorem dodPut_ok (A : Option Addr) (c : Nat) (l : List Int) (w : World) (hr : Kd.C (Kd.int .u64) w A l.length l) (hc : l.length ≤ c) (hl : l.length ≤ 20000) (hx : u64s l) :
    Calls Tryd.prog 16 #[.slice A l.length c] w fun e w' => e = .returned (.tuple #[.string (st (putsL (offs [] l))), .nilIface]) ∧ Below w.heap.size w w' := by
  have HB := Aside0.mk (Below.refl w.heap.size w)
  have HR := Aside0.mk hr
  have HX := Aside0.mk hx
  have HC := Aside0.mk hc
  clear hr hx hc
  go_enter Tryd.func16, Tryd.ntmps16
  go_wp2_with fail
  go_loopw [14] (fun v14 w' => ∃ j : Nat, j ≤ l.length ∧ v14 = .int .i64 j ∧ Aside0 (Lib.IsBuilder 65 5 w.heap.size w.heap.size (Lib.strCells (st (putsL (offs [] (l.take j))))) w') ∧ Aside0 (Below w.heap.size w w')) (fun v14 _ => l.length - (intOf v14).toNat)
  case atStart => exact ⟨0, by omega, rfl, ⟨bld_new _ _ w⟩, ⟨(by repeat (first | (with_reducible exact HB.out) | apply below_alloc | apply pw_below_drewN | apply below_drew1))⟩⟩
  case round =>
    clear HB
    obtain ⟨j, hj, rfl, HD, HB⟩ := hrel
    by_cases hlt : j < l.length
    · obtain ⟨ad, rfl, hcell⟩ := cellAt (Kd.C_below HR.out HB.out) j hlt
      have hxj := HX.out _ (List.getElem_mem hlt)
      have HC' := HC.out
      have HR' := Aside0.mk (Kd.C_below HR.out HB.out)
      have hlen : (offs [] (l.take j)).length = j := by rw [offs_length]; simp; omega
      have hsz : (Lib.strCells (st (putsL (offs [] (l.take j))))).length ≤ 200000 := by
        rw [Lib.strCells_length, st_size]
        have := putsL_len _ (offs_range [] (l.take j))
        omega
      have hnx : offs [] (l.take (j + 1)) = offs [] (l.take j) ++ [off (l.take j) l[j]] := by
        rw [List.take_succ_eq_append_getElem hlt, offs_snoc]; rfl
      have hnx2 : Aside0 (Lib.strCells (st (putsL (offs [] (l.take (j + 1))))) = Lib.strCells (st (putsL (offs [] (l.take j)))) ++ Lib.strCells (put (off (l.take j) l[j]))) := ⟨by
        rw [hnx, putsL_append, st_append, ← strCells_append, putsL_cons, putsL_nil, List.append_nil]; rfl⟩
      have hor := off_range (l.take j) l[j]
      have hps : (put (off (l.take j) l[j])).size ≤ 10 := by rw [put_size]; exact putL_len10 _ (by omega)
      clear hnx hlen
      by_cases hj0 : j = 0
      · have hj1 : ¬ (0 : Int) < (j : Int) := by omega
        have hv : off (l.take j) l[j] = IntKind.u64.wrap (l[j] - guess (l.take j)) := by
          unfold off; rw [if_pos (by rw [hj0]; rfl), wrap_u64]
        rw [hv] at hnx2 hor hps
        clear hv hj0
        go_wp2_with (first
          | (go_at_call 27; refine (guess_take (some ad) c j l _ (by (with_reducible repeat (first | apply Kd.C_alloc | apply Kd.C_drewN | apply Kd.C_drew)); exact HR'.out) HC.out (by omega) (by omega)).mono ?_; rintro e wd ⟨rfl, ⟨nd, rfl⟩⟩)
          | (go_at_call 9; refine (put_any _ _ hor.1 hor.2).mono ?_; rintro e wb ⟨rfl, hb⟩; have HDn := Aside0.mk (bld_below (by repeat (first | (with_reducible exact HD.out) | apply bld_drewN)) hb); clear HD; have HD := HDn; clear HDn; have HBn : Aside0 (Below w.heap.size w wb) := ⟨below_next (by repeat (first | (with_reducible exact HB.out) | apply below_alloc | apply pw_below_drewN | apply below_drew1)) hb⟩; clear HB hb; have HB := HBn; clear HBn)
          | (go_at_call 28; refine (bld_write _ _ _ (_) _ (by repeat (first | (with_reducible exact HD.out) | apply bld_drewN)) (by omega) (below_size (by repeat (first | (with_reducible exact HB.out) | apply below_alloc | apply pw_below_drewN | apply below_drew1)))).mono ?_; rintro e wb ⟨rfl, hd, hb⟩; have HBn : Aside0 (Below w.heap.size w wb) := ⟨Below.trans (by repeat (first | (with_reducible exact HB.out) | apply below_alloc | apply pw_below_drewN | apply below_drew1)) hb⟩; clear HB; have HB := HBn; clear HBn hb; have HDn := Aside0.mk (bld_at hd); clear HD hd; have HD := HDn; clear HDn))
        rw [← hnx2.out] at HD
        go_roundw
        case rel => exact ⟨j + 1, by omega, by go_num, HD, HB⟩
        case measure => simp [intOf]; omega
      · have hj1 : (0 : Int) < (j : Int) := by omega
        have hv : off (l.take j) l[j] = zig (wrap64 (IntKind.u64.wrap (l[j] - guess (l.take j)))) := by
          unfold off; rw [if_neg (by intro e; have h_ := congrArg List.length e; rw [List.length_take, List.length_nil] at h_; omega), wrap_u64]
        rw [hv] at hnx2 hor hps
        clear hv hj0
        go_wp2_with (first
          | (go_at_call 27; refine (guess_take (some ad) c j l _ (by (with_reducible repeat (first | apply Kd.C_alloc | apply Kd.C_drewN | apply Kd.C_drew)); exact HR'.out) HC.out (by omega) (by omega)).mono ?_; rintro e wd ⟨rfl, ⟨nd, rfl⟩⟩)
          | (go_at_call 22; refine (zig_any _ _ (by unfold wrap64; omega) (by unfold wrap64; omega)).mono ?_; rintro e wd ⟨rfl, ⟨nd, rfl⟩⟩)
          | (go_at_call 9; refine (put_any _ _ hor.1 hor.2).mono ?_; rintro e wb ⟨rfl, hb⟩; have HDn := Aside0.mk (bld_below (by repeat (first | (with_reducible exact HD.out) | apply bld_drewN)) hb); clear HD; have HD := HDn; clear HDn; have HBn : Aside0 (Below w.heap.size w wb) := ⟨below_next (by repeat (first | (with_reducible exact HB.out) | apply below_alloc | apply pw_below_drewN | apply below_drew1)) hb⟩; clear HB hb; have HB := HBn; clear HBn)
          | (go_at_call 28; refine (bld_write _ _ _ (_) _ (by repeat (first | (with_reducible exact HD.out) | apply bld_drewN)) (by omega) (below_size (by repeat (first | (with_reducible exact HB.out) | apply below_alloc | apply pw_below_drewN | apply below_drew1)))).mono ?_; rintro e wb ⟨rfl, hd, hb⟩; have HBn : Aside0 (Below w.heap.size w wb) := ⟨Below.trans (by repeat (first | (with_reducible exact HB.out) | apply below_alloc | apply pw_below_drewN | apply below_drew1)) hb⟩; clear HB; have HB := HBn; clear HBn hb; have HDn := Aside0.mk (bld_at hd); clear HD hd; have HD := HDn; clear HDn))
        rw [← hnx2.out] at HD
        go_roundw
        case rel => exact ⟨j + 1, by omega, by go_num, HD, HB⟩
        case measure => simp [intOf]; omega
    · obtain rfl : j = l.length := by omega
      rw [List.take_length] at HD
      have hS : Aside0 (Lib.IsBuilder 65 5 w.heap.size w.heap.size (Lib.byteCells (st (putsL (offs [] l))).data.toList) wr) := HD
      clear hj hlt
      go_wp2_with (first
        | (go_at_call 29; refine (bld_string _ _ _ _ hS.out (below_size HB.out)).mono ?_; rintro e wb ⟨rfl, hb⟩; have HBn : Aside0 (Below w.heap.size w wb) := ⟨Below.trans HB.out hb⟩; clear HB; have HB := HBn; clear HBn hb))
      go_ret2
      exact ⟨by simp, HB.out⟩
theorem dodPut_range (A : Option Addr) (c n : Nat) (w : World) (hn : 20000 < n) (_hc : n ≤ c) :
    Calls Tryd.prog 16 #[.slice A n c] w fun e w' => e = .returned (.tuple #[.string ⟨#[]⟩, .iface 30 (.int .i64 9)]) ∧ w = w' := by
  go_enter Tryd.func16, Tryd.ntmps16
  go_wp2
  go_ret2
  exact ⟨rfl, rfl⟩
end Go.Proofs.YtfkpebdjobhfgaaDoor
namespace Go.Proofs.YtfkpebdjobhfgaaDoor
open Go.RowKit Go.Proofs.YtfkpebdjobhfgaaDoorW.PrintWords Go.Proofs.YtfkpebdjobhfgaaDoorW.PrintLast Go.Proofs.YtfkpebdjobhfgaaDoorW.PrintMore Hy

theorem offsFirst : offs [] [10, 20, 30] = [10, 20, 0] := by decide +kernel
theorem unoffsFirst : unoffs [] [10, 20, 0] = [10, 20, 30] := by decide +kernel
theorem putsFirst : putsL [10, 20, 0] = [10, 20, 0] := by
  rw [putsL_cons, putsL_cons, putsL_cons, putsL_nil, putL_lo _ (by decide), putL_lo _ (by decide), putL_lo _ (by decide)]
  rfl
theorem u64sFirst : u64s [10, 20, 0] := by intro x hx; simp at hx; omega
theorem u64sFirst2 : u64s [10, 20, 30] := by intro x hx; simp at hx; omega
theorem dodPut_first (W : World) : Calls Tryd.prog 16 #[.slice (some ⟨W.heap.size, 0, none⟩) 3 3] (W.alloc (.cells #[.int .u64 10, .int .u64 20, .int .u64 30] 22)) fun e w' => e = .returned (.tuple #[.string ⟨#[10, 20, 0]⟩, .nilIface]) ∧ Below (W.alloc (.cells #[.int .u64 10, .int .u64 20, .int .u64 30] 22)).heap.size (W.alloc (.cells #[.int .u64 10, .int .u64 20, .int .u64 30] 22)) w' := by
  have h := dodPut_ok (some ⟨W.heap.size, 0, none⟩) 3 [10, 20, 30] (W.alloc (.cells (nums .u64 [10, 20, 30]).toArray 22)) (C_lit W .u64 [10, 20, 30] _ (by decide)) (by decide) (by decide) u64sFirst2
  rw [offsFirst, putsFirst] at h
  exact h
theorem dodGet_first (w : World) : Calls Tryd.prog 19 #[.string ⟨#[10, 20, 0]⟩, .int .i64 3] w fun e w' => ∃ A c, e = .returned (.tuple #[.slice A 3 c, .nilIface]) ∧ Kd.C (Kd.int .u64) w' A 3 [10, 20, 30] ∧ 3 ≤ c ∧ Below w.heap.size w w' := by
  have h := dodGet_ok ⟨#[10, 20, 0]⟩ 3 [10, 20, 0] w (by decide) (by decide) (by decide) (by
    have := getN_puts [10, 20, 0] [] u64sFirst
    rw [List.append_nil, putsFirst] at this
    exact this)
  rw [unoffsFirst] at h
  exact h
theorem nums_first (A : Option Addr) (c : Nat) (W : World) (h : Kd.C (Kd.int .u64) W A 3 [10, 20, 30]) (hc : 3 ≤ c) :
    Calls Tryd.prog 18 #[.slice A 3 c, .slice (some ⟨W.heap.size, 0, none⟩) 3 3] (W.alloc (.cells #[.int .u64 10, .int .u64 20, .int .u64 30] 22)) fun e w' => e = .returned (.bool true) ∧ Drawn0 (W.alloc (.cells #[.int .u64 10, .int .u64 20, .int .u64 30] 22)) w' := by
  have h := nums_any A c [10, 20, 30] (some ⟨W.heap.size, 0, none⟩) 3 [10, 20, 30] (W.alloc (.cells (nums .u64 [10, 20, 30]).toArray 22)) (Kd.C_alloc h _) hc (C_lit W .u64 [10, 20, 30] _ (by decide)) (by decide) (by decide)
  exact h
set_option maxHeartbeats 1000000 in
theorem dod_first (w : World) : Calls Tryd.prog 14 #[] w fun e w' => e = .returned (.bool true) ∧ Below w.heap.size w w' := by
  have HB := Aside0.mk (Below.refl w.heap.size w)
  go_enter Tryd.func14, Tryd.ntmps14
  go_wp2_with (first
    | (go_at_call 16; refine (dodPut_first _).mono ?_; rintro e wb ⟨rfl, hb⟩; have HBn : Aside0 (Below w.heap.size w wb) := ⟨below_next (by repeat (first | (with_reducible exact HB.out) | apply below_alloc | apply pw_below_drewN | apply below_drew1)) hb⟩; clear HB hb; have HB := HBn; clear HBn)
    | (go_at_call 19; refine (dodGet_first _).mono ?_; rintro e wb ⟨A, c, rfl, hC, hc, hb⟩; have HBn : Aside0 (Below w.heap.size w wb) := ⟨below_next HB.out hb⟩; clear HB hb; have HB := HBn; clear HBn; have HC := Aside0.mk hC; clear hC)
    | (go_at_call 18; refine (nums_first _ _ _ HC.out hc).mono ?_; rintro e wd ⟨rfl, ⟨nd, rfl⟩⟩))
  go_ret
  exact ⟨rfl, (by repeat (first | (with_reducible exact HB.out) | apply below_alloc | apply pw_below_drewN | apply below_drew1))⟩
end Go.Proofs.YtfkpebdjobhfgaaDoor
