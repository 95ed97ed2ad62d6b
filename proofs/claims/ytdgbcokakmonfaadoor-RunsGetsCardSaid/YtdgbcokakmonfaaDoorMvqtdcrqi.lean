import Derived.Test.YtdgbcokakmonfaaDoorMbktchjtt
import Derived.Test.YtdgbcokakmonfaaDoorMggzlhgxc
import Derived.Deep.QuietTactic
import Derived.BigQuiet
namespace Go.Proofs.YtdgbcokakmonfaaDoor
open Go.RowKit Go.Proofs.YtdgbcokakmonfaaDoorW.PrintWords Go.Proofs.YtdgbcokakmonfaaDoorW.PrintLast Go.Proofs.YtdgbcokakmonfaaDoorW.PrintMore Hy

theorem number_ok (s : ByteArray) (at_ : Int) (n : Int) (rest : List Nat) (w : World) (h0 : 0 ≤ at_) (h1 : at_ ≤ s.size) (hs : s.size ≤ 140737488351232) (hn0 : 0 ≤ n) (hn1 : n < 18446744073709551616)
   (h : (bs s).drop at_.toNat = putL n.toNat ++ rest) :
    Calls Tryd.prog 19 #[.string s, .int .i64 at_] w fun e w' => e = .returned (.tuple #[.int .u64 n, .int .i64 (at_ + ((put n).size : Int)), .nilIface]) ∧ Below w.heap.size w w' := by
  have HB := Aside0.mk (Below.refl w.heap.size w)
  have A1 := fun w => get_put s at_ n rest w h0 h1 hs hn0 hn1 h
  have A2 := fun w => size_any n w hn0 hn1
  have h3 : (put n).size ≤ 10 := by rw [put_size]; exact putL_len10 _ (by omega)
  clear h
  go_enter Tryd.func19, Tryd.ntmps19
  go_wp2_with (first
    | (go_at_call 27; refine (A1 _).mono ?_; rintro e wb ⟨rfl, hb⟩; have HBn : Aside0 (Below w.heap.size w wb) := ⟨below_next (by repeat (first | (with_reducible exact HB.out) | apply below_alloc | apply pw_below_drewN | apply below_drew1)) hb⟩; clear HB hb; have HB := HBn; clear HBn)
    | (go_at_call 28; refine (A2 _).mono ?_; rintro e wd ⟨rfl, ⟨nd, rfl⟩⟩))
  go_ret3
  exact ⟨rfl, (by repeat (first | (with_reducible exact HB.out) | apply below_alloc | apply pw_below_drewN | apply below_drew1))⟩
/-- An error comes back. -/
def ErrNum (w : World) (e : Ending) (w' : World) : Prop := ∃ a b u E, e = .returned (.tuple #[.int .u64 a, .int .i64 b, u]) ∧ IsE w' E u ∧ E ≠ .nil ∧ Below w.heap.size w w'
theorem number_err (s : ByteArray) (at_ : Int) (w : World) (h0 : 0 ≤ at_) (h1 : at_ ≤ s.size) (hs : s.size ≤ 140737488351232)
   (h : ∀ v k, dec 0 ((bs s).drop at_.toNat) = .inr (v, k) → k ≠ (putL v).length) :
    Calls Tryd.prog 19 #[.string s, .int .i64 at_] w (ErrNum w) := by
  have HB := Aside0.mk (Below.refl w.heap.size w)
  rcases hd : dec 0 ((bs s).drop at_.toNat) with c | ⟨v, k⟩
  · have A1 := fun w => get_err s at_ c w h0 h1 hs hd
    clear h hd
    go_enter Tryd.func19, Tryd.ntmps19
    go_wp2_with (first
      | (go_at_call 27; refine (A1 _).mono ?_; rintro e wb ⟨u, rfl, hu, hb⟩; obtain ⟨uT, ux, rfl⟩ := hu.iface (by simp); have HBn : Aside0 (Below w.heap.size w wb) := ⟨below_next (by repeat (first | (with_reducible exact HB.out) | apply below_alloc | apply pw_below_drewN | apply below_drew1)) hb⟩; clear HB hb; have HB := HBn; clear HBn; have HU := Aside0.mk hu; clear hu))
    go_ret3
    exact ⟨_, _, _, _, rfl, HU.out, by simp, HB.out⟩
  · have hk := h v k hd
    have hds := dec_some _ 0 v k (okB_drop (bs_ok s) _) (by omega) hd
    have A1 := fun w => get_ok s at_ v k w h0 h1 hs hd
    have A2 := fun w => size_any (v : Int) w (by omega) (by omega)
    have hpz : (put (v : Int)).size = (putL v).length := by rw [put_size, Int.toNat_natCast]
    have hk2 : ((k : Int) == ((put (v : Int)).size : Int)) = false := by rw [hpz]; simp; omega
    have hk3 : ((k : Int) != ((put (v : Int)).size : Int)) = true := by rw [hpz]; simp; omega
    have hk10 : k ≤ 10 := by omega
    clear h hk hd hpz hds
    go_enter Tryd.func19, Tryd.ntmps19
    go_wp2_with (first
      | (go_at_call 27; refine (A1 _).mono ?_; rintro e wb ⟨rfl, hb⟩; have HBn : Aside0 (Below w.heap.size w wb) := ⟨below_next (by repeat (first | (with_reducible exact HB.out) | apply below_alloc | apply pw_below_drewN | apply below_drew1)) hb⟩; clear HB hb; have HB := HBn; clear HBn)
      | (go_at_call 28; refine (A2 _).mono ?_; rintro e wd ⟨rfl, ⟨nd, rfl⟩⟩)
      | (go_at_call 20; refine (at_any _ _ _ ⟨_, _, rfl⟩).mono ?_; rintro e wx ⟨rfl, rfl⟩))
    go_ret3
    exact ⟨_, _, _, _, rfl, IsE.new (e := .code 3) rfl, by simp, (by repeat (first | (with_reducible exact HB.out) | apply below_alloc | apply pw_below_drewN | apply below_drew1))⟩

theorem runsGet_range (s : ByteArray) (count : Int) (w : World) (h : count < 0 ∨ 20000 < count) :
    Calls Tryd.prog 12 #[.string s, .int .i64 count] w fun e w' => e = .returned (.tuple #[.slice none 0 0, .iface 29 (.int .i64 9)]) ∧ Below w.heap.size w w' := by
  have HB := Aside0.mk (Below.refl w.heap.size w)
  by_cases h0 : count < 0
  · clear h
    go_enter Tryd.func12, Tryd.ntmps12
    go_wp2
    go_ret2
    exact ⟨rfl, HB.out⟩
  · have h1 : 20000 < count := by omega
    clear h
    go_enter Tryd.func12, Tryd.ntmps12
    go_wp2
    go_ret2
    exact ⟨rfl, HB.out⟩

/-- The last number, if there is one. -/
theorem last_at (l : List Int) (h : 0 < l.length) : l.getLast? = some l[l.length - 1] := by
  rw [List.getLast?_eq_getElem?, List.getElem?_eq_getElem]
theorem dec_or (r : List Nat) (hok : okB r) : (∃ v : Nat, v < 18446744073709551616 ∧ r = putL v ++ r.drop (putL v).length) ∨ ∀ v k, dec 0 r = .inr (v, k) → k ≠ (putL v).length := by
  rcases hd : dec 0 r with c | ⟨v, k⟩
  · exact .inr fun v k h => by cases h
  · by_cases hk : k = (putL v).length
    · refine .inl ⟨v, (dec_some r 0 v k hok (by omega) hd).2.2.2.2, ?_⟩
      rw [← hk]; exact dec_canon0 r v k hok hd hk
    · refine .inr fun v' k' h => ?_
      simp only [Sum.inr.injEq, Prod.mk.injEq] at h
      obtain ⟨rfl, rfl⟩ := h
      exact hk
/-- An error comes back, and no numbers. -/
def ErrBack (w : World) (e : Ending) (w' : World) : Prop := ∃ u E, e = .returned (.tuple #[.slice none 0 0, u]) ∧ IsE w' E u ∧ E ≠ .nil ∧ Below w.heap.size w w'

set_option maxHeartbeats 4000000 in
set_option maxRecDepth 100000 in
theorem runsGet_err (s : ByteArray) (count : Int) (w : World) (h0 : 0 ≤ count) (h1 : count ≤ 20000) (hs : s.size ≤ 140737488351232) (h : ∀ l, isRuns (bs s) l → (l.length : Int) ≠ count) :
    Calls Tryd.prog 12 #[.string s, .int .i64 count] w (ErrBack w) := by
  have HB := Aside0.mk (Below.refl w.heap.size w)
  have HS := Aside0.mk h
  clear h
  go_enter Tryd.func12, Tryd.ntmps12
  go_wp2_with fail
  go_loopw [6, 7] (fun v6 v7 w' => ∃ (l : List Int) (r : List Nat) (A : Option Addr) (c : Nat), Aside0 (bs s = putsL (grp l) ++ r) ∧ (l.length : Int) ≤ count ∧ Aside0 (u64s l) ∧ v6 = .slice A l.length c ∧ v7 = .int .i64 ((putsL (grp l)).length : Int) ∧ Aside0 (Kd.R (Kd.int .u64) 40 w' w.heap.size (fun _ => True) (.slice A l.length c) l) ∧ Aside0 (Below w.heap.size w w')) (fun v6 _ _ => count.toNat - (match v6 with | .slice _ n _ => n | _ => 0))
  case atStart => exact ⟨[], bs s, none, 0, ⟨rfl⟩, by simp; omega, ⟨fun x hx => by simp at hx⟩, rfl, rfl, ⟨Kd.R_nil _ _ _ _ _⟩, HB⟩
  case round =>
    clear HB
    obtain ⟨l, r, A, c, HE, hj, HV, rfl, rfl, HO, HB⟩ := hrel
    have hsz : (putsL (grp l)).length + r.length = s.size := by rw [← bs_length, HE.out, List.length_append]
    have hdrop : (bs s).drop (putsL (grp l)).length = r := by rw [HE.out, List.drop_left]
    have HD := Aside0.mk hdrop
    clear hdrop
    have hokr : okB r := by intro x hx; exact bs_ok s x (by rw [HE.out]; simp [hx])
    by_cases hlt : (l.length : Int) < count
    · rcases dec_or r hokr with ⟨v, hv, hrv⟩ | hbad
      · have A1 := fun w => number_ok s ((putsL (grp l)).length : Int) (v : Int) (r.drop (putL v).length) w (by omega) (by omega) hs (by omega) (by omega) (by rw [Int.toNat_natCast, HD.out, Int.toNat_natCast]; exact hrv)
        have hps : (put (v : Int)).size ≤ 10 := by rw [put_size]; exact putL_len10 _ (by omega)
        have hpl : (put (v : Int)).size = (putL v).length := by rw [put_size, Int.toNat_natCast]
        have hr2 : (putL v).length ≤ r.length := by rw [hrv]; simp
        have hmid : (((putsL (grp l)).length : Int) + ((put (v : Int)).size : Int)).toNat = (putsL (grp l)).length + (putL v).length := by omega
        have hd2 : (bs s).drop ((putsL (grp l)).length + (putL v).length) = r.drop (putL v).length := by rw [← List.drop_drop, HD.out]
        have hok2 : okB (r.drop (putL v).length) := okB_drop hokr _
        rcases dec_or (r.drop (putL v).length) hok2 with ⟨n, hn, hrn⟩ | hbad
        · have A2 := fun w => number_ok s (((putsL (grp l)).length : Int) + ((put (v : Int)).size : Int)) (n : Int) ((r.drop (putL v).length).drop (putL n).length) w (by omega) (by omega) hs (by omega) (by omega) (by rw [hmid, hd2, Int.toNat_natCast]; exact hrn)
          have hpn : (put (n : Int)).size ≤ 10 := by rw [put_size]; exact putL_len10 _ (by omega)
          have hpm : (put (n : Int)).size = (putL n).length := by rw [put_size, Int.toNat_natCast]
          by_cases hlast : l.getLast? = some (v : Int)
          · have hl0 : 0 < l.length := by
              cases l with
              | nil => simp at hlast
              | cons a t => simp
            obtain ⟨ad, rfl, hcell⟩ := cellAt (R_C HO.out).1 (l.length - 1) (by omega)
            have hx : l[l.length - 1] = (v : Int) := by
              have := last_at l hl0
              rw [hlast] at this
              exact (Option.some.inj this).symm
            rw [hx] at hcell
            have HC := Aside0.mk hcell
            clear hlast hx hcell hmid hd2 hok2 hrn hrv hpm hpl hokr hsz hr2
            go_wp2_with (first
              | (go_at_call 19; (with_reducible refine (A1 _).mono ?_); rintro e wb ⟨rfl, hb⟩; have HBn : Aside0 (Below w.heap.size w wb) := ⟨below_next HB.out hb⟩; have HCn := Aside0.mk (pw_cell_below hb HC.out); clear HB hb HC; have HB := HBn; have HC := HCn; clear HBn HCn)
              | (go_at_call 19; (with_reducible refine (A2 _).mono ?_); rintro e wb ⟨rfl, hb⟩; have HBn : Aside0 (Below w.heap.size w wb) := ⟨below_next HB.out hb⟩; have HCn := Aside0.mk (pw_cell_below hb HC.out); have hcell := HCn.out; clear HB hb HC; have HB := HBn; have HC := HCn; clear HBn HCn)
              | (go_at_call 20; refine (at_any _ _ _ ⟨_, _, rfl⟩).mono ?_; rintro e wx ⟨rfl, rfl⟩))
            go_ret2
            exact ⟨_, _, rfl, IsE.new (e := .code 3) rfl, by simp, (by repeat (first | (with_reducible exact HB.out) | apply below_alloc | apply pw_below_drewN | apply below_drew1))⟩
          · have hgs := grp_snoc l (v : Int) n hlast
            have hrest : Aside0 (bs s = putsL (grp (l ++ List.replicate (n + 1) (v : Int))) ++ (r.drop (putL v).length).drop (putL n).length) := ⟨by
              rw [hgs, HE.out, putsL_append, putsL_cons, putsL_cons, putsL_nil, List.append_nil, Int.toNat_natCast, Int.toNat_natCast, List.append_assoc, List.append_assoc, ← hrn, ← hrv]⟩
            have hg2 : Aside0 (((putsL (grp l)).length : Int) + ((put (v : Int)).size : Int) + ((put (n : Int)).size : Int) = ((putsL (grp (l ++ List.replicate (n + 1) (v : Int)))).length : Int)) := ⟨by
              rw [hgs, putsL_append, putsL_cons, putsL_cons, putsL_nil, List.append_nil, List.length_append, List.length_append, Int.toNat_natCast, Int.toNat_natCast, hpl, hpm]; omega⟩
            have hv2 : Aside0 (u64s (l ++ List.replicate (n + 1) (v : Int))) := ⟨by
              intro x hx
              rcases List.mem_append.1 hx with hx | hx
              · exact HV.out x hx
              · rw [(List.mem_replicate.1 hx).2]; omega⟩
            by_cases hl0 : 0 < l.length
            · obtain ⟨ad, rfl, hcell⟩ := cellAt (R_C HO.out).1 (l.length - 1) (by omega)
              have hne : (l[l.length - 1] == (v : Int)) = false := by
                have := last_at l hl0
                rw [beq_eq_false_iff_ne]
                intro e
                exact hlast (by rw [this, e])
              have HC := Aside0.mk hcell
              clear hlast hcell hmid hd2 hok2 hrn hrv hpm hpl hokr hsz hr2 hgs
              by_cases hge : count - (l.length : Int) ≤ (n : Int)
              · clear hrest hg2 hv2 HO
                go_wp2_with (first
                  | (go_at_call 19; (with_reducible refine (A1 _).mono ?_); rintro e wb ⟨rfl, hb⟩; have HBn : Aside0 (Below w.heap.size w wb) := ⟨below_next HB.out hb⟩; have HCn := Aside0.mk (pw_cell_below hb HC.out); clear HB hb HC; have HB := HBn; clear HBn; have HC := HCn; clear HCn)
                  | (go_at_call 19; (with_reducible refine (A2 _).mono ?_); rintro e wb ⟨rfl, hb⟩; have HBn : Aside0 (Below w.heap.size w wb) := ⟨below_next HB.out hb⟩; have HCn := Aside0.mk (pw_cell_below hb HC.out); have hcell := HCn.out; clear HB hb HC; have HB := HBn; clear HBn; have HC := HCn; clear HCn)
                  | (go_at_call 20; refine (at_any _ _ _ ⟨_, _, rfl⟩).mono ?_; rintro e wx ⟨rfl, rfl⟩))
                go_ret2
                exact ⟨_, _, rfl, IsE.new (e := .code 3) rfl, by simp, (by repeat (first | (with_reducible exact HB.out) | apply below_alloc | apply pw_below_drewN | apply below_drew1))⟩
              · have hge2 : (n : Int) < count - (l.length : Int) := by omega
                clear hge
                go_wp2_with (first
                  | (go_at_call 19; (with_reducible refine (A1 _).mono ?_); rintro e wb ⟨rfl, hb⟩; have HBn : Aside0 (Below w.heap.size w wb) := ⟨below_next HB.out hb⟩; have HCn := Aside0.mk (pw_cell_below hb HC.out); have HOn := Aside0.mk (Kd.R_below HO.out hb); clear HB hb HC HO; have HB := HBn; clear HBn; have HC := HCn; clear HCn; have HO := HOn; clear HOn)
                  | (go_at_call 19; (with_reducible refine (A2 _).mono ?_); rintro e wb ⟨rfl, hb⟩; have HBn : Aside0 (Below w.heap.size w wb) := ⟨below_next HB.out hb⟩; have HCn := Aside0.mk (pw_cell_below hb HC.out); have HOn := Aside0.mk (Kd.R_below HO.out hb); have hcell := HCn.out; clear HB hb HC HO; have HB := HBn; clear HBn; have HC := HCn; clear HCn; have HO := HOn; clear HOn))
                clear hcell HC
                clear A1 A2
                go_loopw [6, 75] (fun v6 v75 w' => ∃ (i : Nat) (A : Option Addr) (c : Nat), i ≤ n + 1 ∧ v75 = .int .u64 (i : Int) ∧ v6 = .slice A (l ++ List.replicate i (v : Int)).length c ∧ Aside0 (Kd.R (Kd.int .u64) 40 w' w.heap.size (fun _ => True) (.slice A (l ++ List.replicate i (v : Int)).length c) (l ++ List.replicate i (v : Int))) ∧ Aside0 (Below w.heap.size w w')) (fun _ v75 _ => n + 1 - (intOf v75).toNat)
                case atStart => exact ⟨0, _, c, by omega, rfl, by rw [List.replicate_zero, List.append_nil], ⟨by rw [List.replicate_zero, List.append_nil]; exact HO.out⟩, HB⟩
                case round =>
                  clear HB HO
                  obtain ⟨i, A', c', hi, rfl, rfl, HO, HB⟩ := hrel
                  have hlen : (l ++ List.replicate i (v : Int)).length ≤ 20000 := by rw [List.length_append, List.length_replicate]; omega
                  by_cases hin : i < n + 1
                  · have hin2 : (i : Int) < (n : Int) + 1 := by omega
                    go_wp2_with (first
                      | ((with_reducible refine gate_builtin (b := .append) (xs := #[.tmp 77, .tmp 79]) rfl ?_); at_builtin; refine Kd.R_append (Kd.int .u64) (w0 := w) w.heap.size rfl (.tmp 77) (.tmp 79) 22 40 (.int .u64 0) 8 rfl Tryd.underlying22 info_u64 rfl (by decide) (by omega) (.slice A' (l ++ List.replicate i (v : Int)).length c') (l ++ List.replicate i (v : Int)) (v : Int) [.int .u64 (v : Int)] (fun _ => True) (fun _ => False) rfl rfl ?aP (fun _ hk => hk.elim) ?aF ?aO ?aB ?aS ?aL ?_; (case aP => exact rfl); (case aB => exact (by repeat (first | (with_reducible exact HB.out) | apply below_alloc | apply pw_below_drewN | apply below_drew1))); (case aF => exact (fun _ _ => trivial)); (case aO => exact (by (with_reducible repeat (first | apply Kd.R_alloc | apply Kd.R_drewN | apply Kd.R_drew)); exact HO.out)); (case aS => exact (below_size (by repeat (first | (with_reducible exact HB.out) | apply below_alloc | apply pw_below_drewN | apply below_drew1)))); (case aL => omega); intro va wa ho hb hg hat; have n0_ := Aside0.mk hb; have n1_ := Aside0.mk ho; clear HB HO; have HB := n0_; have HO := n1_; clear n0_ n1_ ho hb hg hat))
                    rw [List.append_assoc, ← List.replicate_succ'] at HO
                    obtain ⟨A2, c2, rfl, hc2, _⟩ := Kd.R_reads HO.out
                    go_roundw
                    case rel => exact ⟨i + 1, A2, c2, by omega, by go_num, rfl, HO, HB⟩
                    case measure => simp [intOf]; omega
                  · obtain rfl : i = n + 1 := by omega
                    have hin2 : ¬ (((n + 1 : Nat) : Int) < (n : Int) + 1) := by omega
                    clear hin hi
                    go_wp2_with fail
                    go_roundw
                    case rel => exact ⟨l ++ List.replicate (n + 1) (v : Int), _, A', c', hrest, by rw [List.length_append, List.length_replicate]; omega, hv2, rfl, by rw [← hg2.out], HO, HB⟩
                    case measure => simp only [List.length_append, List.length_replicate]; omega
            · have hl1 : ¬ (0 : Int) < (l.length : Int) := by omega
              clear hlast hmid hd2 hok2 hrn hrv hpm hpl hokr hsz hr2 hgs hl0
              by_cases hge : count - (l.length : Int) ≤ (n : Int)
              · clear hrest hg2 hv2 HO
                go_wp2_with (first
                  | (go_at_call 19; (with_reducible refine (A1 _).mono ?_); rintro e wb ⟨rfl, hb⟩; have HBn : Aside0 (Below w.heap.size w wb) := ⟨below_next HB.out hb⟩; clear HB hb; have HB := HBn; clear HBn)
                  | (go_at_call 19; (with_reducible refine (A2 _).mono ?_); rintro e wb ⟨rfl, hb⟩; have HBn : Aside0 (Below w.heap.size w wb) := ⟨below_next HB.out hb⟩; clear HB hb; have HB := HBn; clear HBn)
                  | (go_at_call 20; refine (at_any _ _ _ ⟨_, _, rfl⟩).mono ?_; rintro e wx ⟨rfl, rfl⟩))
                go_ret2
                exact ⟨_, _, rfl, IsE.new (e := .code 3) rfl, by simp, (by repeat (first | (with_reducible exact HB.out) | apply below_alloc | apply pw_below_drewN | apply below_drew1))⟩
              · have hge2 : (n : Int) < count - (l.length : Int) := by omega
                clear hge
                go_wp2_with (first
                  | (go_at_call 19; (with_reducible refine (A1 _).mono ?_); rintro e wb ⟨rfl, hb⟩; have HBn : Aside0 (Below w.heap.size w wb) := ⟨below_next HB.out hb⟩; have HOn := Aside0.mk (Kd.R_below HO.out hb); clear HB hb HO; have HB := HBn; clear HBn; have HO := HOn; clear HOn)
                  | (go_at_call 19; (with_reducible refine (A2 _).mono ?_); rintro e wb ⟨rfl, hb⟩; have HBn : Aside0 (Below w.heap.size w wb) := ⟨below_next HB.out hb⟩; have HOn := Aside0.mk (Kd.R_below HO.out hb); clear HB hb HO; have HB := HBn; clear HBn; have HO := HOn; clear HOn))
                clear A1 A2
                go_loopw [6, 75] (fun v6 v75 w' => ∃ (i : Nat) (A : Option Addr) (c : Nat), i ≤ n + 1 ∧ v75 = .int .u64 (i : Int) ∧ v6 = .slice A (l ++ List.replicate i (v : Int)).length c ∧ Aside0 (Kd.R (Kd.int .u64) 40 w' w.heap.size (fun _ => True) (.slice A (l ++ List.replicate i (v : Int)).length c) (l ++ List.replicate i (v : Int))) ∧ Aside0 (Below w.heap.size w w')) (fun _ v75 _ => n + 1 - (intOf v75).toNat)
                case atStart => exact ⟨0, _, c, by omega, rfl, by rw [List.replicate_zero, List.append_nil], ⟨by rw [List.replicate_zero, List.append_nil]; exact HO.out⟩, HB⟩
                case round =>
                  clear HB HO
                  obtain ⟨i, A', c', hi, rfl, rfl, HO, HB⟩ := hrel
                  have hlen : (l ++ List.replicate i (v : Int)).length ≤ 20000 := by rw [List.length_append, List.length_replicate]; omega
                  by_cases hin : i < n + 1
                  · have hin2 : (i : Int) < (n : Int) + 1 := by omega
                    go_wp2_with (first
                      | ((with_reducible refine gate_builtin (b := .append) (xs := #[.tmp 77, .tmp 79]) rfl ?_); at_builtin; refine Kd.R_append (Kd.int .u64) (w0 := w) w.heap.size rfl (.tmp 77) (.tmp 79) 22 40 (.int .u64 0) 8 rfl Tryd.underlying22 info_u64 rfl (by decide) (by omega) (.slice A' (l ++ List.replicate i (v : Int)).length c') (l ++ List.replicate i (v : Int)) (v : Int) [.int .u64 (v : Int)] (fun _ => True) (fun _ => False) rfl rfl ?aP (fun _ hk => hk.elim) ?aF ?aO ?aB ?aS ?aL ?_; (case aP => exact rfl); (case aB => exact (by repeat (first | (with_reducible exact HB.out) | apply below_alloc | apply pw_below_drewN | apply below_drew1))); (case aF => exact (fun _ _ => trivial)); (case aO => exact (by (with_reducible repeat (first | apply Kd.R_alloc | apply Kd.R_drewN | apply Kd.R_drew)); exact HO.out)); (case aS => exact (below_size (by repeat (first | (with_reducible exact HB.out) | apply below_alloc | apply pw_below_drewN | apply below_drew1)))); (case aL => omega); intro va wa ho hb hg hat; have n0_ := Aside0.mk hb; have n1_ := Aside0.mk ho; clear HB HO; have HB := n0_; have HO := n1_; clear n0_ n1_ ho hb hg hat))
                    rw [List.append_assoc, ← List.replicate_succ'] at HO
                    obtain ⟨A2, c2, rfl, hc2, _⟩ := Kd.R_reads HO.out
                    go_roundw
                    case rel => exact ⟨i + 1, A2, c2, by omega, by go_num, rfl, HO, HB⟩
                    case measure => simp [intOf]; omega
                  · obtain rfl : i = n + 1 := by omega
                    have hin2 : ¬ (((n + 1 : Nat) : Int) < (n : Int) + 1) := by omega
                    clear hin hi
                    go_wp2_with fail
                    go_roundw
                    case rel => exact ⟨l ++ List.replicate (n + 1) (v : Int), _, A', c', hrest, by rw [List.length_append, List.length_replicate]; omega, hv2, rfl, by rw [← hg2.out], HO, HB⟩
                    case measure => simp only [List.length_append, List.length_replicate]; omega
        · have A2 := fun w => number_err s (((putsL (grp l)).length : Int) + ((put (v : Int)).size : Int)) w (by omega) (by omega) hs (by rw [hmid, hd2]; exact hbad)
          clear hbad hmid hd2 hok2 hpl hrv hsz hr2
          go_wp2_with (first
            | (go_at_call 19; (with_reducible refine (A1 _).mono ?_); rintro e wb ⟨rfl, hb⟩; have HBn : Aside0 (Below w.heap.size w wb) := ⟨below_next HB.out hb⟩; clear HB hb; have HB := HBn; clear HBn)
            | (go_at_call 19; (with_reducible refine (A2 _).mono ?_); rintro e wb ⟨xa, xb, u, E, rfl, hu, hne, hb⟩; have HBn : Aside0 (Below w.heap.size w wb) := ⟨below_next (by repeat (first | (with_reducible exact HB.out) | apply below_alloc | apply pw_below_drewN | apply below_drew1)) hb⟩; clear HB hb; have HB := HBn; clear HBn; obtain ⟨uT, ux, rfl⟩ := hu.iface hne; have HU := Aside0.mk hu; have HNE := Aside0.mk hne; clear hu hne))
          go_ret2
          exact ⟨_, _, rfl, HU.out, HNE.out, HB.out⟩
      · have A1 := fun w => number_err s ((putsL (grp l)).length : Int) w (by omega) (by omega) hs (by rw [Int.toNat_natCast, HD.out]; exact hbad)
        clear hbad
        go_wp2_with (first
          | (go_at_call 19; refine (A1 _).mono ?_; rintro e wb ⟨a, b, u, E, rfl, hu, hne, hb⟩; have HBn : Aside0 (Below w.heap.size w wb) := ⟨below_next HB.out hb⟩; clear HB hb; have HB := HBn; clear HBn; obtain ⟨uT, ux, rfl⟩ := hu.iface hne; have HU := Aside0.mk hu; have HNE := Aside0.mk hne; clear hu hne))
        go_ret2
        exact ⟨_, _, rfl, HU.out, HNE.out, HB.out⟩
    · have hr : 0 < r.length := by
        cases r with
        | nil =>
          rw [List.append_nil] at HE
          exact absurd (by omega) (HS.out l ⟨HE.out, HV.out⟩)
        | cons a t => simp
      have hat : (putsL (grp l)).length < s.size := by omega
      clear hr hsz hokr
      go_wp2_with (first
        | (go_at_call 20; refine (at_any _ _ _ ⟨_, _, rfl⟩).mono ?_; rintro e wx ⟨rfl, rfl⟩))
      go_ret2
      exact ⟨_, _, rfl, IsE.new (e := .code 2) rfl, by simp, (by repeat (first | (with_reducible exact HB.out) | apply below_alloc | apply pw_below_drewN | apply below_drew1))⟩

set_option maxHeartbeats 4000000 in
set_option maxRecDepth 100000 in
theorem runsGet_ok (s : ByteArray) (count : Int) (L : List Int) (w : World) (h1 : count ≤ 20000) (hs : s.size ≤ 140737488351232) (h : isRuns (bs s) L) (hcount : (L.length : Int) = count) :
    Calls Tryd.prog 12 #[.string s, .int .i64 count] w fun e w' => ∃ A c, e = .returned (.tuple #[.slice A L.length c, .nilIface]) ∧ Kd.C (Kd.int .u64) w' A L.length L ∧ L.length ≤ c ∧ Below w.heap.size w w' := by
  have HB := Aside0.mk (Below.refl w.heap.size w)
  have HE := Aside0.mk h.1
  have HV := Aside0.mk h.2
  have h0 : 0 ≤ count := by omega
  have HL := Aside0.mk hcount
  have HG := Aside0.mk (grp_u64 L h.2 (by omega)).1
  have hsz : (putsL (grp L)).length = s.size := by rw [← h.1, bs_length]
  have HZ := Aside0.mk hsz
  clear h hcount hsz
  go_enter Tryd.func12, Tryd.ntmps12
  go_wp2_with fail
  go_loopw [6, 7] (fun v6 v7 w' => ∃ (l l2 : List Int) (A : Option Addr) (c : Nat), Aside0 (L = l ++ l2) ∧ Aside0 (∀ x, l.getLast? = some x → l2.head? ≠ some x) ∧ v6 = .slice A l.length c ∧ v7 = .int .i64 ((putsL (grp l)).length : Int) ∧ Aside0 (Kd.R (Kd.int .u64) 40 w' w.heap.size (fun _ => True) (.slice A l.length c) l) ∧ Aside0 (Below w.heap.size w w')) (fun v6 _ _ => count.toNat - (match v6 with | .slice _ n _ => n | _ => 0))
  case atStart => exact ⟨[], L, none, 0, ⟨rfl⟩, ⟨fun x hx => by simp at hx⟩, rfl, rfl, ⟨Kd.R_nil _ _ _ _ _⟩, HB⟩
  case round =>
    clear HB
    obtain ⟨l, l2, A, c, hL, hbd, rfl, rfl, HO, HB⟩ := hrel
    have hlen : (l.length : Int) + l2.length = count := by rw [← HL.out, hL.out, List.length_append]; omega
    have hgl : grp L = grp l ++ grp l2 := by rw [hL.out, grp_append l.length l l2 (Nat.le_refl _) hbd.out]
    by_cases h2 : l2 = []
    · subst h2
      rw [List.append_nil] at hL
      obtain rfl := hL.out
      have hat : ¬ ((putsL (grp L)).length < s.size) := by have := HZ.out; omega
      have hnl : ¬ (L.length : Int) < count := by have := HL.out; omega
      obtain ⟨hC, _, hc⟩ := R_C HO.out
      clear hlen hgl hbd
      go_wp2_with fail
      go_ret2
      exact ⟨A, c, rfl, hC, hc, HB.out⟩
    · obtain ⟨vi, n, l3, e2, h3⟩ := split_run l2 h2
      have hvi := HV.out vi (by rw [hL.out, e2]; simp)
      obtain ⟨v, rfl⟩ := Int.eq_ofNat_of_zero_le hvi.1
      have hl2n : l2.length = n + 1 + l3.length := by rw [e2]; simp
      have hlt : (l.length : Int) < count := by omega
      have hg2l : grp l2 = (v : Int) :: (n : Int) :: grp l3 := by rw [e2]; exact grp_run _ n l3 h3
      have hE2 : bs s = putsL (grp l) ++ (putL v ++ (putL n ++ putsL (grp l3))) := by
        rw [HE.out, hgl, hg2l, putsL_append, putsL_cons, putsL_cons, Int.toNat_natCast, Int.toNat_natCast]
      have hsz : (putsL (grp l)).length + ((putL v).length + (putL n).length) ≤ s.size := by
        rw [← bs_length, hE2]; simp
      have hps : (put (v : Int)).size ≤ 10 := by rw [put_size]; exact putL_len10 _ (by omega)
      have hpl : (put (v : Int)).size = (putL v).length := by rw [put_size, Int.toNat_natCast]
      have hpn : (put (n : Int)).size ≤ 10 := by rw [put_size]; exact putL_len10 _ (by omega)
      have hpm : (put (n : Int)).size = (putL n).length := by rw [put_size, Int.toNat_natCast]
      have hmid : (((putsL (grp l)).length : Int) + ((put (v : Int)).size : Int)).toNat = (putsL (grp l)).length + (putL v).length := by omega
      have A1 := fun w => number_ok s ((putsL (grp l)).length : Int) (v : Int) (putL n ++ putsL (grp l3)) w (by omega) (by omega) hs (by omega) (by omega) (by rw [Int.toNat_natCast, hE2, List.drop_left, Int.toNat_natCast])
      have A2 := fun w => number_ok s (((putsL (grp l)).length : Int) + ((put (v : Int)).size : Int)) (n : Int) (putsL (grp l3)) w (by omega) (by omega) hs (by omega) (by omega) (by rw [hmid, ← List.drop_drop, hE2, List.drop_left, List.drop_left, Int.toNat_natCast])
      have hlast : l.getLast? ≠ some (v : Int) := by
        intro e
        exact hbd.out _ e (by rw [e2]; simp [List.replicate_succ])
      have hgs := grp_snoc l (v : Int) n hlast
      have hg2 : Aside0 (((putsL (grp l)).length : Int) + ((put (v : Int)).size : Int) + ((put (n : Int)).size : Int) = ((putsL (grp (l ++ List.replicate (n + 1) (v : Int)))).length : Int)) := ⟨by
        rw [hgs, putsL_append, putsL_cons, putsL_cons, putsL_nil, List.append_nil, List.length_append, List.length_append, Int.toNat_natCast, Int.toNat_natCast, hpl, hpm]; omega⟩
      have hL2 : Aside0 (L = (l ++ List.replicate (n + 1) (v : Int)) ++ l3) := ⟨by rw [hL.out, e2, List.append_assoc]⟩
      have hb3 : Aside0 (∀ x, (l ++ List.replicate (n + 1) (v : Int)).getLast? = some x → l3.head? ≠ some x) := ⟨by
        intro x hx
        rw [List.getLast?_append, List.getLast?_replicate] at hx
        simp at hx
        rw [← hx]; exact h3⟩
      have hge2 : (n : Int) < count - (l.length : Int) := by omega
      by_cases hl0 : 0 < l.length
      · obtain ⟨ad, rfl, hcell⟩ := cellAt (R_C HO.out).1 (l.length - 1) (by omega)
        have hne : (l[l.length - 1] == (v : Int)) = false := by
          have := last_at l hl0
          rw [beq_eq_false_iff_ne]
          intro e
          exact hlast (by rw [this, e])
        have HC := Aside0.mk hcell
        clear hlast hcell hmid hpm hpl hsz hgs hlen hgl h2 e2 h3 hvi hl2n hg2l hE2
        go_wp2_with (first
          | (go_at_call 19; (with_reducible refine (A1 _).mono ?_); rintro e wb ⟨rfl, hb⟩; have HBn : Aside0 (Below w.heap.size w wb) := ⟨below_next HB.out hb⟩; have HCn := Aside0.mk (pw_cell_below hb HC.out); have HOn := Aside0.mk (Kd.R_below HO.out hb); clear HB hb HC HO; have HB := HBn; clear HBn; have HC := HCn; clear HCn; have HO := HOn; clear HOn)
          | (go_at_call 19; (with_reducible refine (A2 _).mono ?_); rintro e wb ⟨rfl, hb⟩; have HBn : Aside0 (Below w.heap.size w wb) := ⟨below_next HB.out hb⟩; have HCn := Aside0.mk (pw_cell_below hb HC.out); have HOn := Aside0.mk (Kd.R_below HO.out hb); have hcell := HCn.out; clear HB hb HC HO; have HB := HBn; clear HBn; have HC := HCn; clear HCn; have HO := HOn; clear HOn))
        clear hcell HC
        clear A1 A2
        go_loopw [6, 75] (fun v6 v75 w' => ∃ (i : Nat) (A : Option Addr) (c : Nat), i ≤ n + 1 ∧ v75 = .int .u64 (i : Int) ∧ v6 = .slice A (l ++ List.replicate i (v : Int)).length c ∧ Aside0 (Kd.R (Kd.int .u64) 40 w' w.heap.size (fun _ => True) (.slice A (l ++ List.replicate i (v : Int)).length c) (l ++ List.replicate i (v : Int))) ∧ Aside0 (Below w.heap.size w w')) (fun _ v75 _ => n + 1 - (intOf v75).toNat)
        case atStart => exact ⟨0, _, c, by omega, rfl, by rw [List.replicate_zero, List.append_nil], ⟨by rw [List.replicate_zero, List.append_nil]; exact HO.out⟩, HB⟩
        case round =>
          clear HB HO
          obtain ⟨i, A', c', hi, rfl, rfl, HO, HB⟩ := hrel
          have hlen : (l ++ List.replicate i (v : Int)).length ≤ 20000 := by rw [List.length_append, List.length_replicate]; omega
          by_cases hin : i < n + 1
          · have hin2 : (i : Int) < (n : Int) + 1 := by omega
            go_wp2_with (first
              | ((with_reducible refine gate_builtin (b := .append) (xs := #[.tmp 77, .tmp 79]) rfl ?_); at_builtin; refine Kd.R_append (Kd.int .u64) (w0 := w) w.heap.size rfl (.tmp 77) (.tmp 79) 22 40 (.int .u64 0) 8 rfl Tryd.underlying22 info_u64 rfl (by decide) (by omega) (.slice A' (l ++ List.replicate i (v : Int)).length c') (l ++ List.replicate i (v : Int)) (v : Int) [.int .u64 (v : Int)] (fun _ => True) (fun _ => False) rfl rfl ?aP (fun _ hk => hk.elim) ?aF ?aO ?aB ?aS ?aL ?_; (case aP => exact rfl); (case aB => exact (by repeat (first | (with_reducible exact HB.out) | apply below_alloc | apply pw_below_drewN | apply below_drew1))); (case aF => exact (fun _ _ => trivial)); (case aO => exact (by (with_reducible repeat (first | apply Kd.R_alloc | apply Kd.R_drewN | apply Kd.R_drew)); exact HO.out)); (case aS => exact (below_size (by repeat (first | (with_reducible exact HB.out) | apply below_alloc | apply pw_below_drewN | apply below_drew1)))); (case aL => omega); intro va wa ho hb hg hat; have n0_ := Aside0.mk hb; have n1_ := Aside0.mk ho; clear HB HO; have HB := n0_; have HO := n1_; clear n0_ n1_ ho hb hg hat))
            rw [List.append_assoc, ← List.replicate_succ'] at HO
            obtain ⟨A2, c2, rfl, hc2, _⟩ := Kd.R_reads HO.out
            go_roundw
            case rel => exact ⟨i + 1, A2, c2, by omega, by go_num, rfl, HO, HB⟩
            case measure => simp [intOf]; omega
          · obtain rfl : i = n + 1 := by omega
            have hin2 : ¬ (((n + 1 : Nat) : Int) < (n : Int) + 1) := by omega
            clear hin hi
            go_wp2_with fail
            go_roundw
            case rel => exact ⟨l ++ List.replicate (n + 1) (v : Int), l3, A', c', hL2, hb3, rfl, by rw [← hg2.out], HO, HB⟩
            case measure => simp only [List.length_append, List.length_replicate]; omega
      · have hl1 : ¬ (0 : Int) < (l.length : Int) := by omega
        clear hlast hmid hpm hpl hsz hgs hlen hgl h2 e2 h3 hvi hl2n hg2l hE2 hl0
        go_wp2_with (first
          | (go_at_call 19; (with_reducible refine (A1 _).mono ?_); rintro e wb ⟨rfl, hb⟩; have HBn : Aside0 (Below w.heap.size w wb) := ⟨below_next HB.out hb⟩; have HOn := Aside0.mk (Kd.R_below HO.out hb); clear HB hb HO; have HB := HBn; clear HBn; have HO := HOn; clear HOn)
          | (go_at_call 19; (with_reducible refine (A2 _).mono ?_); rintro e wb ⟨rfl, hb⟩; have HBn : Aside0 (Below w.heap.size w wb) := ⟨below_next HB.out hb⟩; have HOn := Aside0.mk (Kd.R_below HO.out hb); clear HB hb HO; have HB := HBn; clear HBn; have HO := HOn; clear HOn))
        clear A1 A2
        go_loopw [6, 75] (fun v6 v75 w' => ∃ (i : Nat) (A : Option Addr) (c : Nat), i ≤ n + 1 ∧ v75 = .int .u64 (i : Int) ∧ v6 = .slice A (l ++ List.replicate i (v : Int)).length c ∧ Aside0 (Kd.R (Kd.int .u64) 40 w' w.heap.size (fun _ => True) (.slice A (l ++ List.replicate i (v : Int)).length c) (l ++ List.replicate i (v : Int))) ∧ Aside0 (Below w.heap.size w w')) (fun _ v75 _ => n + 1 - (intOf v75).toNat)
        case atStart => exact ⟨0, _, c, by omega, rfl, by rw [List.replicate_zero, List.append_nil], ⟨by rw [List.replicate_zero, List.append_nil]; exact HO.out⟩, HB⟩
        case round =>
          clear HB HO
          obtain ⟨i, A', c', hi, rfl, rfl, HO, HB⟩ := hrel
          have hlen : (l ++ List.replicate i (v : Int)).length ≤ 20000 := by rw [List.length_append, List.length_replicate]; omega
          by_cases hin : i < n + 1
          · have hin2 : (i : Int) < (n : Int) + 1 := by omega
            go_wp2_with (first
              | ((with_reducible refine gate_builtin (b := .append) (xs := #[.tmp 77, .tmp 79]) rfl ?_); at_builtin; refine Kd.R_append (Kd.int .u64) (w0 := w) w.heap.size rfl (.tmp 77) (.tmp 79) 22 40 (.int .u64 0) 8 rfl Tryd.underlying22 info_u64 rfl (by decide) (by omega) (.slice A' (l ++ List.replicate i (v : Int)).length c') (l ++ List.replicate i (v : Int)) (v : Int) [.int .u64 (v : Int)] (fun _ => True) (fun _ => False) rfl rfl ?aP (fun _ hk => hk.elim) ?aF ?aO ?aB ?aS ?aL ?_; (case aP => exact rfl); (case aB => exact (by repeat (first | (with_reducible exact HB.out) | apply below_alloc | apply pw_below_drewN | apply below_drew1))); (case aF => exact (fun _ _ => trivial)); (case aO => exact (by (with_reducible repeat (first | apply Kd.R_alloc | apply Kd.R_drewN | apply Kd.R_drew)); exact HO.out)); (case aS => exact (below_size (by repeat (first | (with_reducible exact HB.out) | apply below_alloc | apply pw_below_drewN | apply below_drew1)))); (case aL => omega); intro va wa ho hb hg hat; have n0_ := Aside0.mk hb; have n1_ := Aside0.mk ho; clear HB HO; have HB := n0_; have HO := n1_; clear n0_ n1_ ho hb hg hat))
            rw [List.append_assoc, ← List.replicate_succ'] at HO
            obtain ⟨A2, c2, rfl, hc2, _⟩ := Kd.R_reads HO.out
            go_roundw
            case rel => exact ⟨i + 1, A2, c2, by omega, by go_num, rfl, HO, HB⟩
            case measure => simp [intOf]; omega
          · obtain rfl : i = n + 1 := by omega
            have hin2 : ¬ (((n + 1 : Nat) : Int) < (n : Int) + 1) := by omega
            clear hin hi
            go_wp2_with fail
            go_roundw
            case rel => exact ⟨l ++ List.replicate (n + 1) (v : Int), l3, A', c', hL2, hb3, rfl, by rw [← hg2.out], HO, HB⟩
            case measure => simp only [List.length_append, List.length_replicate]; omega
end Go.Proofs.YtdgbcokakmonfaaDoor
namespace Go.Proofs.YtdgbcokakmonfaaDoor
open Go.RowKit Go.Proofs.YtdgbcokakmonfaaDoorW.PrintWords Go.Proofs.YtdgbcokakmonfaaDoorW.PrintLast Go.Proofs.YtdgbcokakmonfaaDoorW.PrintMore Hy

theorem runsPut_range (A : Option Addr) (c n : Nat) (w : World) (hn : 20000 < n) (_hc : n ≤ c) :
    Calls Tryd.prog 8 #[.slice A n c] w fun e w' => e = .returned (.tuple #[.string ⟨#[]⟩, .iface 29 (.int .i64 9)]) ∧ w = w' := by
  go_enter Tryd.func8, Tryd.ntmps8
  go_wp2
  go_ret2
  exact ⟨rfl, rfl⟩
set_option maxHeartbeats 2000000 in
set_option maxRecDepth 100000 in
theorem runsPut_ok (A : Option Addr) (c : Nat) (L : List Int) (w : World) (hr : Kd.C (Kd.int .u64) w A L.length L) (hc : L.length ≤ c) (hl : L.length ≤ 20000) (hx : u64s L) :
    Calls Tryd.prog 8 #[.slice A L.length c] w fun e w' => e = .returned (.tuple #[.string (st (putsL (grp L))), .nilIface]) ∧ Below w.heap.size w w' := by
  have HB := Aside0.mk (Below.refl w.heap.size w)
  have HR := Aside0.mk hr
  have HX := Aside0.mk hx
  have HC := Aside0.mk hc
  clear hr hx hc
  go_enter Tryd.func8, Tryd.ntmps8
  go_wp2_with fail
  go_loopw [0] (fun v0 w' => ∃ (l l2 : List Int) (A : Option Addr) (c : Nat), Aside0 (L = l ++ l2) ∧ Aside0 (∀ x, l.getLast? = some x → l2.head? ≠ some x) ∧ v0 = .slice A l2.length c ∧ l2.length ≤ c ∧ Aside0 (Kd.C (Kd.int .u64) w A l2.length l2) ∧ Aside0 (Lib.IsBuilder 45 5 w.heap.size w.heap.size (Lib.strCells (st (putsL (grp l)))) w') ∧ Aside0 (Below w.heap.size w w')) (fun v0 _ => (match v0 with | .slice _ n _ => n | _ => 0))
  case atStart => exact ⟨[], L, A, c, ⟨rfl⟩, ⟨fun x hx => by simp at hx⟩, rfl, HC.out, HR, ⟨bld_new _ _ w⟩, ⟨(by repeat (first | (with_reducible exact HB.out) | apply below_alloc | apply pw_below_drewN | apply below_drew1))⟩⟩
  case round =>
    clear HB HR HC
    obtain ⟨l, l2, A, c, hL, hbd, rfl, hc, HR, HD, HB⟩ := hrel
    by_cases h2 : l2 = []
    · subst h2
      rw [List.append_nil] at hL
      obtain rfl := hL.out
      have hS : Aside0 (Lib.IsBuilder 45 5 w.heap.size w.heap.size (Lib.byteCells (st (putsL (grp L))).data.toList) wr) := HD
      clear hbd
      go_wp2_with (first
        | (go_at_call 16; refine (bld_string _ _ _ _ hS.out (below_size HB.out)).mono ?_; rintro e wb ⟨rfl, hb⟩; have HBn : Aside0 (Below w.heap.size w wb) := ⟨Below.trans HB.out hb⟩; clear HB; have HB := HBn; clear HBn hb))
      go_ret2
      exact ⟨by simp, HB.out⟩
    · obtain ⟨vi, n, l3, e2, h3⟩ := split_run l2 h2
      have hl2n : l2.length = n + 1 + l3.length := by rw [e2]; simp
      have hLlen : L.length = l.length + l2.length := by rw [hL.out, List.length_append]
      have hvi := HX.out vi (by rw [hL.out, e2]; simp)
      have hlast : l.getLast? ≠ some vi := by
        intro e
        exact hbd.out _ e (by rw [e2]; simp [List.replicate_succ])
      have hgs := grp_snoc l vi n hlast
      have hcat : ∀ j, j < n + 1 → ∃ ad, A = some ad ∧ w.cell? (ad.add j) = some (.int .u64 vi) := by
        intro j hj
        obtain ⟨ad, e, hcell⟩ := cellAt HR.out j (by omega)
        refine ⟨ad, e, ?_⟩
        rw [hcell]
        congr 2
        have : l2[j]? = some vi := by rw [e2, List.getElem?_append_left (by simp; omega), List.getElem?_replicate, if_pos hj]
        rw [List.getElem?_eq_getElem (by omega)] at this
        exact Option.some.inj this
      obtain ⟨ad, rfl, hc0⟩ := hcat 0 (by omega)
      have HC0 := Aside0.mk hc0
      have HCA := Aside0.mk hcat
      have HE2 := Aside0.mk e2
      have HL2 := Aside0.mk hl2n
      have hpos : (0 : Int) < (l2.length : Int) := by omega
      have hcell0 := pw_cell_below HB.out hc0
      have HW0 := Aside0.mk hcell0
      have hnl2 : n < l2.length := by omega
      have hn20 : n < 20000 := by omega
      clear hc0 hcat e2 h2 hlast hcell0 hl2n hLlen
      go_wp2_with fail
      go_loopw [5] (fun v5 w' => ∃ j : Nat, 1 ≤ j ∧ j ≤ n + 1 ∧ v5 = .int .i64 (j : Int) ∧ Drawn0 wr w') (fun v5 _ => n + 1 - (intOf v5).toNat)
      case atStart => exact ⟨1, by omega, by omega, rfl, Drawn0.refl _⟩
      case round =>
        obtain ⟨j, hj1, hj2, rfl, ⟨m, rfl⟩⟩ := hrel
        have hcell0 := HW0.out
        rw [Addr.add_zero'] at hcell0
        by_cases hlt : j < n + 1
        · obtain ⟨ad', e, hcj⟩ := HCA.out j hlt
          obtain rfl : ad = ad' := Option.some.inj e
          have hcellj := pw_cell_below HB.out hcj
          have hb1 : decide ((j : Int) < (l2.length : Int)) = true := by have := HL2.out; simp; omega
          have hb2 : decide (j < l2.length) = true := by have := HL2.out; simp; omega
          have hq1 : ((j : Int) < (l2.length : Int)) = True := by have := HL2.out; exact eq_true (by omega)
          have hq2 : (j < l2.length) = True := by have := HL2.out; exact eq_true (by omega)
          have hq3 : (0 < l2.length) = True := eq_true (by omega)
          clear hcj e
          go_wp2_with fail
          go_quiet (fail)
          go_wp2_with fail
          go_roundw
          case rel => exact ⟨j + 1, by omega, by omega, by go_num, by repeat (first | exact Drawn0.refl _ | apply Drawn0.step)⟩
          case measure => simp [intOf]; omega
        · have hjn : j = n + 1 := by omega
          have hsz : (Lib.strCells (st (putsL (grp l)))).length ≤ 400000 := by
            rw [Lib.strCells_length, st_size]
            have h1 := grp_len l
            have h2 := putsL_len (grp l) (grp_u64 l (fun x hx => HX.out x (by rw [hL.out]; simp [hx])) (by have := congrArg List.length hL.out; rw [List.length_append] at this; omega)).1
            have := congrArg List.length hL.out
            rw [List.length_append] at this
            omega
          have hp1 : (put vi).size ≤ 10 := by rw [put_size]; exact putL_len10 _ (by omega)
          have hp2 : (put ((j : Int) - 1)).size ≤ 10 := by rw [put_size]; exact putL_len10 _ (by omega)
          have A1 := fun w => put_any vi w hvi.1 hvi.2
          have A2 := fun w => put_any ((j : Int) - 1) w (by omega) (by omega)
          have hx3 : (l3 = [] ∧ decide ((j : Int) < (l2.length : Int)) = false ∧ decide (j < l2.length) = false) ∨ (∃ y, wr.cell? (ad.add j) = some (.int .u64 y) ∧ (y == vi) = false ∧ decide ((j : Int) < (l2.length : Int)) = true ∧ decide (j < l2.length) = true ∧ j < l2.length) := by
            subst hjn
            cases hl3 : l3 with
            | nil =>
              refine .inl ⟨rfl, ?_, ?_⟩ <;> (have := HL2.out; rw [hl3] at this; simp at this ⊢; omega)
            | cons y t =>
              have hlt : n + 1 < l2.length := by have := HL2.out; rw [hl3] at this; simp at this; omega
              obtain ⟨ad', e, hcj⟩ := cellAt HR.out (n + 1) hlt
              obtain rfl : ad = ad' := Option.some.inj e
              refine .inr ⟨l2[n + 1], pw_cell_below HB.out hcj, ?_, by simp; omega, by simp; omega, hlt⟩
              have : l2[n + 1]? = some y := by rw [HE2.out, hl3, List.getElem?_append_right (by simp)]; simp
              rw [List.getElem?_eq_getElem hlt] at this
              rw [Option.some.inj this, beq_eq_false_iff_ne]
              intro e2
              exact h3 (by rw [hl3, e2]; rfl)
          have hHC := HW0.out
          rw [Addr.add_zero'] at hHC
          have HW := Aside0.mk hHC
          have HJ := Aside0.mk hjn
          have hjl : j ≤ l2.length := by have := HL2.out; omega
          have hjc : j ≤ c := by omega
          have hj20 : j ≤ 20000 := by omega
          have hdl : l2.drop j = l3 := by rw [hjn, HE2.out, List.drop_left' (by simp)]
          have hA : Aside0 (Kd.C (Kd.int .u64) w (if c = j then some ad else some (ad.add j)) (l2.drop j).length (l2.drop j)) := ⟨by
            have := Kd.C_drop (m := j) (c := c) HR.out hjl hc
            simpa [show (Kd.int IntKind.u64).sz = 1 from rfl] using this⟩
          have hS : Aside0 (Lib.strCells (st (putsL (grp l))) ++ Lib.strCells (put vi) ++ Lib.strCells (put ((j : Int) - 1)) = Lib.strCells (st (putsL (grp (l ++ List.replicate (n + 1) vi))))) := ⟨by
            rw [hgs, putsL_append, putsL_cons, putsL_cons, putsL_nil, List.append_nil, st_append, st_append, ← strCells_append, ← strCells_append, List.append_assoc, hjn, show (((n + 1 : Nat) : Int) - 1) = (n : Int) by omega]
            rfl⟩
          have hL2 : Aside0 (L = (l ++ List.replicate (n + 1) vi) ++ l2.drop j) := ⟨by rw [hdl, hL.out, HE2.out, List.append_assoc]⟩
          have hb3 : Aside0 (∀ x, (l ++ List.replicate (n + 1) vi).getLast? = some x → (l2.drop j).head? ≠ some x) := ⟨by
            intro x hx
            rw [List.getLast?_append, List.getLast?_replicate] at hx
            simp at hx
            rw [← hx, hdl]; exact h3⟩
          clear hHC hlt hj2 hjn hdl hgs
          rcases hx3 with ⟨_, hb1, hb2⟩ | ⟨y, hcy, hy, hb1, hb2, hjl2⟩
          · go_wp2_with fail
            go_quiet (fail)
            go_wp2_with (first
              | (go_at_call 15; (with_reducible refine (A1 _).mono ?_); rintro e wb ⟨rfl, hb⟩; have HDn := Aside0.mk (bld_below (by repeat (first | (with_reducible exact HD.out) | apply bld_drewN)) hb); clear HD; have HD := HDn; clear HDn; have HBn : Aside0 (Below w.heap.size w wb) := ⟨below_next (by repeat (first | (with_reducible exact HB.out) | apply below_alloc | apply pw_below_drewN | apply below_drew1)) hb⟩; clear HB hb; have HB := HBn; clear HBn)
              | (go_at_call 15; (with_reducible refine (A2 _).mono ?_); rintro e wb ⟨rfl, hb⟩; have HDn := Aside0.mk (bld_below (by repeat (first | (with_reducible exact HD.out) | apply bld_drewN)) hb); clear HD; have HD := HDn; clear HDn; have HBn : Aside0 (Below w.heap.size w wb) := ⟨below_next (by repeat (first | (with_reducible exact HB.out) | apply below_alloc | apply pw_below_drewN | apply below_drew1)) hb⟩; clear HB hb; have HB := HBn; clear HBn)
              | (go_at_call 14; refine (bld_write _ _ _ (_) _ (by repeat (first | (with_reducible exact HD.out) | apply bld_drewN)) (by omega) (below_size (by repeat (first | (with_reducible exact HB.out) | apply below_alloc | apply pw_below_drewN | apply below_drew1)))).mono ?_; rintro e wb ⟨rfl, hd, hb⟩; have HBn : Aside0 (Below w.heap.size w wb) := ⟨Below.trans (by repeat (first | (with_reducible exact HB.out) | apply below_alloc | apply pw_below_drewN | apply below_drew1)) hb⟩; clear HB; have HB := HBn; clear HBn hb; have HDn := Aside0.mk (bld_at hd); clear HD hd; have HD := HDn; clear HDn)
              | (go_at_call 14; refine (bld_write _ _ _ (_) _ (by repeat (first | (with_reducible exact HD.out) | apply bld_drewN)) (by rw [List.length_append, Lib.strCells_length (put vi)]; omega) (below_size (by repeat (first | (with_reducible exact HB.out) | apply below_alloc | apply pw_below_drewN | apply below_drew1)))).mono ?_; rintro e wb ⟨rfl, hd, hb⟩; have HBn : Aside0 (Below w.heap.size w wb) := ⟨Below.trans (by repeat (first | (with_reducible exact HB.out) | apply below_alloc | apply pw_below_drewN | apply below_drew1)) hb⟩; clear HB; have HB := HBn; clear HBn hb; have HDn := Aside0.mk (bld_at hd); clear HD hd; have HD := HDn; clear HDn))
            rw [hS.out] at HD
            go_roundw
            case rel => exact ⟨l ++ List.replicate (n + 1) vi, l2.drop j, _, c - j, hL2, hb3, by rw [List.length_drop], by rw [List.length_drop]; omega, hA, HD, HB⟩
            case measure => simp only []; omega
          · go_wp2_with fail
            go_quiet (fail)
            go_wp2_with (first
              | (go_at_call 15; (with_reducible refine (A1 _).mono ?_); rintro e wb ⟨rfl, hb⟩; have HDn := Aside0.mk (bld_below (by repeat (first | (with_reducible exact HD.out) | apply bld_drewN)) hb); clear HD; have HD := HDn; clear HDn; have HBn : Aside0 (Below w.heap.size w wb) := ⟨below_next (by repeat (first | (with_reducible exact HB.out) | apply below_alloc | apply pw_below_drewN | apply below_drew1)) hb⟩; clear HB hb; have HB := HBn; clear HBn)
              | (go_at_call 15; (with_reducible refine (A2 _).mono ?_); rintro e wb ⟨rfl, hb⟩; have HDn := Aside0.mk (bld_below (by repeat (first | (with_reducible exact HD.out) | apply bld_drewN)) hb); clear HD; have HD := HDn; clear HDn; have HBn : Aside0 (Below w.heap.size w wb) := ⟨below_next (by repeat (first | (with_reducible exact HB.out) | apply below_alloc | apply pw_below_drewN | apply below_drew1)) hb⟩; clear HB hb; have HB := HBn; clear HBn)
              | (go_at_call 14; refine (bld_write _ _ _ (_) _ (by repeat (first | (with_reducible exact HD.out) | apply bld_drewN)) (by omega) (below_size (by repeat (first | (with_reducible exact HB.out) | apply below_alloc | apply pw_below_drewN | apply below_drew1)))).mono ?_; rintro e wb ⟨rfl, hd, hb⟩; have HBn : Aside0 (Below w.heap.size w wb) := ⟨Below.trans (by repeat (first | (with_reducible exact HB.out) | apply below_alloc | apply pw_below_drewN | apply below_drew1)) hb⟩; clear HB; have HB := HBn; clear HBn hb; have HDn := Aside0.mk (bld_at hd); clear HD hd; have HD := HDn; clear HDn)
              | (go_at_call 14; refine (bld_write _ _ _ (_) _ (by repeat (first | (with_reducible exact HD.out) | apply bld_drewN)) (by rw [List.length_append, Lib.strCells_length (put vi)]; omega) (below_size (by repeat (first | (with_reducible exact HB.out) | apply below_alloc | apply pw_below_drewN | apply below_drew1)))).mono ?_; rintro e wb ⟨rfl, hd, hb⟩; have HBn : Aside0 (Below w.heap.size w wb) := ⟨Below.trans (by repeat (first | (with_reducible exact HB.out) | apply below_alloc | apply pw_below_drewN | apply below_drew1)) hb⟩; clear HB; have HB := HBn; clear HBn hb; have HDn := Aside0.mk (bld_at hd); clear HD hd; have HD := HDn; clear HDn))
            rw [hS.out] at HD
            go_roundw
            case rel => exact ⟨l ++ List.replicate (n + 1) vi, l2.drop j, (if c = j then some ad else some (ad.add j)), c - j, hL2, hb3, by rw [List.length_drop, if_neg (by omega)], by rw [List.length_drop]; omega, hA, HD, HB⟩
            case measure => simp only []; omega
end Go.Proofs.YtdgbcokakmonfaaDoor
namespace Go.Proofs.YtdgbcokakmonfaaDoor
open Go.RowKit Go.Proofs.YtdgbcokakmonfaaDoorW.PrintWords Go.Proofs.YtdgbcokakmonfaaDoorW.PrintLast Go.Proofs.YtdgbcokakmonfaaDoorW.PrintMore Hy

theorem grpFirst : grp [7, 7, 7] = [7, 2] := by decide +kernel
theorem putsFirst : putsL [7, 2] = [7, 2] := by
  rw [putsL_cons, putsL_cons, putsL_nil, putL_lo _ (by decide), putL_lo _ (by decide)]
  rfl
theorem u64sFirst : u64s [7, 7, 7] := by intro x hx; simp at hx; omega
theorem runsPut_first (W : World) : Calls Tryd.prog 8 #[.slice (some ⟨W.heap.size, 0, none⟩) 3 3] (W.alloc (.cells #[.int .u64 7, .int .u64 7, .int .u64 7] 40)) fun e w' => e = .returned (.tuple #[.string ⟨#[7, 2]⟩, .nilIface]) ∧ Below (W.alloc (.cells #[.int .u64 7, .int .u64 7, .int .u64 7] 40)).heap.size (W.alloc (.cells #[.int .u64 7, .int .u64 7, .int .u64 7] 40)) w' := by
  have h := runsPut_ok (some ⟨W.heap.size, 0, none⟩) 3 [7, 7, 7] (W.alloc (.cells (nums .u64 [7, 7, 7]).toArray 40)) (C_lit W .u64 [7, 7, 7] _ (by decide)) (by decide) (by decide) u64sFirst
  rw [grpFirst, putsFirst] at h
  exact h
theorem runsGet_first (w : World) : Calls Tryd.prog 12 #[.string ⟨#[7, 2]⟩, .int .i64 3] w fun e w' => ∃ A c, e = .returned (.tuple #[.slice A 3 c, .nilIface]) ∧ Kd.C (Kd.int .u64) w' A 3 [7, 7, 7] ∧ 3 ≤ c ∧ Below w.heap.size w w' :=
  runsGet_ok ⟨#[7, 2]⟩ 3 [7, 7, 7] w (by decide) (by decide) ⟨by rw [grpFirst, putsFirst]; rfl, u64sFirst⟩ rfl
theorem nums_first (A : Option Addr) (c : Nat) (W : World) (h : Kd.C (Kd.int .u64) W A 3 [7, 7, 7]) (hc : 3 ≤ c) :
    Calls Tryd.prog 11 #[.slice A 3 c, .slice (some ⟨W.heap.size, 0, none⟩) 3 3] (W.alloc (.cells #[.int .u64 7, .int .u64 7, .int .u64 7] 40)) fun e w' => e = .returned (.bool true) ∧ Drawn0 (W.alloc (.cells #[.int .u64 7, .int .u64 7, .int .u64 7] 40)) w' := by
  have h := nums_any A c [7, 7, 7] (some ⟨W.heap.size, 0, none⟩) 3 [7, 7, 7] (W.alloc (.cells (nums .u64 [7, 7, 7]).toArray 40)) (Kd.C_alloc h _) hc (C_lit W .u64 [7, 7, 7] _ (by decide)) (by decide) (by decide)
  exact h
set_option maxHeartbeats 1000000 in
theorem runs_first (w : World) : Calls Tryd.prog 6 #[] w fun e w' => e = .returned (.bool true) ∧ Below w.heap.size w w' := by
  have HB := Aside0.mk (Below.refl w.heap.size w)
  go_enter Tryd.func6, Tryd.ntmps6
  go_wp2_with (first
    | (go_at_call 8; refine (runsPut_first _).mono ?_; rintro e wb ⟨rfl, hb⟩; have HBn : Aside0 (Below w.heap.size w wb) := ⟨below_next (by repeat (first | (with_reducible exact HB.out) | apply below_alloc | apply pw_below_drewN | apply below_drew1)) hb⟩; clear HB hb; have HB := HBn; clear HBn)
    | (go_at_call 12; refine (runsGet_first _).mono ?_; rintro e wb ⟨A, c, rfl, hC, hc, hb⟩; have HBn : Aside0 (Below w.heap.size w wb) := ⟨below_next HB.out hb⟩; clear HB hb; have HB := HBn; clear HBn; have HC := Aside0.mk hC; clear hC)
    | (go_at_call 11; refine (nums_first _ _ _ HC.out hc).mono ?_; rintro e wd ⟨rfl, ⟨nd, rfl⟩⟩))
  go_ret
  exact ⟨rfl, (by repeat (first | (with_reducible exact HB.out) | apply below_alloc | apply pw_below_drewN | apply below_drew1))⟩
end Go.Proofs.YtdgbcokakmonfaaDoor
