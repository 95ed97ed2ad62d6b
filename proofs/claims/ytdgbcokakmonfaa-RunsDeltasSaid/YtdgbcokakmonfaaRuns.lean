import Derived.Test.YtdgbcokakmonfaaRunsP
import Derived.Test.YtdgbcokakmonfaaSl
import Derived.Test.YtdgbcokakmonfaaGet
import Derived.Test.YtdgbcokakmonfaaBld
namespace Go.Proofs.Ytdgbcokakmonfaa
open Go.RowKit Go.Proofs.YtdgbcokakmonfaaW.PrintWords Go.Proofs.YtdgbcokakmonfaaW.PrintLast Go.Proofs.YtdgbcokakmonfaaW.PrintMore Hy

theorem number_ok (s : ByteArray) (at_ : Int) (n : Int) (rest : List Nat) (w : World) (h0 : 0 ≤ at_) (h1 : at_ ≤ s.size) (hs : s.size ≤ 140737488351232) (hn0 : 0 ≤ n) (hn1 : n < 18446744073709551616)
   (h : (bs s).drop at_.toNat = putL n.toNat ++ rest) :
    Calls Try.prog 18 #[.string s, .int .i64 at_] w fun e w' => e = .returned (.tuple #[.int .u64 n, .int .i64 (at_ + ((put n).size : Int)), .nilIface]) ∧ Below w.heap.size w w' := by
  have HB := Aside0.mk (Below.refl w.heap.size w)
  have A1 := fun w => get_put s at_ n rest w h0 h1 hs hn0 hn1 h
  have A2 := fun w => size_any n w hn0 hn1
  have h3 : (put n).size ≤ 10 := by rw [put_size]; exact putL_len10 _ (by omega)
  clear h
  go_enter Try.func18, Try.ntmps18
  go_wp2_with (first
    | (go_at_call 25; refine (A1 _).mono ?_; rintro e wb ⟨rfl, hb⟩; have HBn : Aside0 (Below w.heap.size w wb) := ⟨below_next (by repeat (first | (with_reducible exact HB.out) | apply below_alloc | apply pw_below_drewN | apply below_drew1)) hb⟩; clear HB hb; have HB := HBn; clear HBn)
    | (go_at_call 26; refine (A2 _).mono ?_; rintro e wd ⟨rfl, ⟨nd, rfl⟩⟩))
  go_ret3
  exact ⟨rfl, (by repeat (first | (with_reducible exact HB.out) | apply below_alloc | apply pw_below_drewN | apply below_drew1))⟩
/-- An error comes back. -/
def ErrNum (w : World) (e : Ending) (w' : World) : Prop := ∃ a b u E, e = .returned (.tuple #[.int .u64 a, .int .i64 b, u]) ∧ IsE w' E u ∧ E ≠ .nil ∧ Below w.heap.size w w'
theorem number_err (s : ByteArray) (at_ : Int) (w : World) (h0 : 0 ≤ at_) (h1 : at_ ≤ s.size) (hs : s.size ≤ 140737488351232)
   (h : ∀ v k, dec 0 ((bs s).drop at_.toNat) = .inr (v, k) → k ≠ (putL v).length) :
    Calls Try.prog 18 #[.string s, .int .i64 at_] w (ErrNum w) := by
  have HB := Aside0.mk (Below.refl w.heap.size w)
  rcases hd : dec 0 ((bs s).drop at_.toNat) with c | ⟨v, k⟩
  · have A1 := fun w => get_err s at_ c w h0 h1 hs hd
    clear h hd
    go_enter Try.func18, Try.ntmps18
    go_wp2_with (first
      | (go_at_call 25; refine (A1 _).mono ?_; rintro e wb ⟨u, rfl, hu, hb⟩; obtain ⟨uT, ux, rfl⟩ := hu.iface (by simp); have HBn : Aside0 (Below w.heap.size w wb) := ⟨below_next (by repeat (first | (with_reducible exact HB.out) | apply below_alloc | apply pw_below_drewN | apply below_drew1)) hb⟩; clear HB hb; have HB := HBn; clear HBn; have HU := Aside0.mk hu; clear hu))
    go_ret3
    exact ⟨_, _, _, _, rfl, HU.out, by simp, HB.out⟩
  · have hk := h v k hd
    have hds := dec_some _ 0 v k (okB_drop (bs_ok s) _) (by omega) hd
    have A1 := fun w => get_ok s at_ v k w h0 h1 hs hd
    have A2 := fun w => size_any (v : Int) w (by omega) (by omega)
    have hpz : (put (v : Int)).size = (putL v).length := by rw [put_size, Int.toNat_natCast]
    have hk2 : ((k : Int) == ((put (v : Int)).size : Int)) = false := by rw [hpz]; simp; omega
    have hk3 : ((k : Int) != ((put (v : Int)).size : Int)) = true := by rw [hpz]; simp; omega
    have hk10 : k ≤ 10 := by omega
    clear h hk hd hpz hds
    go_enter Try.func18, Try.ntmps18
    go_wp2_with (first
      | (go_at_call 25; refine (A1 _).mono ?_; rintro e wb ⟨rfl, hb⟩; have HBn : Aside0 (Below w.heap.size w wb) := ⟨below_next (by repeat (first | (with_reducible exact HB.out) | apply below_alloc | apply pw_below_drewN | apply below_drew1)) hb⟩; clear HB hb; have HB := HBn; clear HBn)
      | (go_at_call 26; refine (A2 _).mono ?_; rintro e wd ⟨rfl, ⟨nd, rfl⟩⟩)
      | (go_at_call 19; refine (at_any _ _ _ ⟨_, _, rfl⟩).mono ?_; rintro e wx ⟨rfl, rfl⟩))
    go_ret3
    exact ⟨_, _, _, _, rfl, IsE.new (e := .code 3) rfl, by simp, (by repeat (first | (with_reducible exact HB.out) | apply below_alloc | apply pw_below_drewN | apply below_drew1))⟩

theorem runsGet_range (s : ByteArray) (count : Int) (w : World) (h : count < 0 ∨ 20000 < count) :
    Calls Try.prog 8 #[.string s, .int .i64 count] w fun e w' => e = .returned (.tuple #[.slice none 0 0, .iface 37 (.int .i64 9)]) ∧ Below w.heap.size w w' := by
  have HB := Aside0.mk (Below.refl w.heap.size w)
  by_cases h0 : count < 0
  · clear h
    go_enter Try.func8, Try.ntmps8
    go_wp2
    go_ret2
    exact ⟨rfl, HB.out⟩
  · have h1 : 20000 < count := by omega
    clear h
    go_enter Try.func8, Try.ntmps8
    go_wp2
    go_ret2
    exact ⟨rfl, HB.out⟩

/-- The last number, if there is one. -/
theorem last_at (l : List Int) (h : 0 < l.length) : l.getLast? = some l[l.length - 1] := by
  rw [List.getLast?_eq_getElem?, List.getElem?_eq_getElem]
theorem dec_or (r : List Nat) (hok : okB r) : (∃ v : Nat, v < 18446744073709551616 ∧ r = putL v ++ r.drop (putL v).length) ∨ ∀ v k, dec 0 r = .inr (v, k) → k ≠ (putL v).length := by
  rcases hd : dec 0 r with c | ⟨v, k⟩
  · exact .inr fun v k h => by cases h
  · by_cases hk : k = (putL v).length
    · refine .inl ⟨v, (dec_some r 0 v k hok (by omega) hd).2.2.2.2, ?_⟩
      rw [← hk]; exact dec_canon0 r v k hok hd hk
    · refine .inr fun v' k' h => ?_
      simp only [Sum.inr.injEq, Prod.mk.injEq] at h
      obtain ⟨rfl, rfl⟩ := h
      exact hk
/-- An error comes back, and no numbers. -/
def ErrBack (w : World) (e : Ending) (w' : World) : Prop := ∃ u E, e = .returned (.tuple #[.slice none 0 0, u]) ∧ IsE w' E u ∧ E ≠ .nil ∧ Below w.heap.size w w'

set_option maxHeartbeats 4000000 in
set_option maxRecDepth 100000 in
theorem runsGet_err (s : ByteArray) (count : Int) (w : World) (h0 : 0 ≤ count) (h1 : count ≤ 20000) (hs : s.size ≤ 140737488351232) (h : ∀ l, isRuns (bs s) l → (l.length : Int) ≠ count) :
    Calls Try.prog 8 #[.string s, .int .i64 count] w (ErrBack w) := by
  have HB := Aside0.mk (Below.refl w.heap.size w)
  have HS := Aside0.mk h
  clear h
  go_enter Try.func8, Try.ntmps8
  go_wp2_with fail
  go_loopw [6, 7] (fun v6 v7 w' => ∃ (l : List Int) (r : List Nat) (A : Option Addr) (c : Nat), Aside0 (bs s = putsL (grp l) ++ r) ∧ (l.length : Int) ≤ count ∧ Aside0 (u64s l) ∧ v6 = .slice A l.length c ∧ v7 = .int .i64 ((putsL (grp l)).length : Int) ∧ Aside0 (Kd.R (Kd.int .u64) 36 w' w.heap.size (fun _ => True) (.slice A l.length c) l) ∧ Aside0 (Below w.heap.size w w')) (fun v6 _ _ => count.toNat - (match v6 with | .slice _ n _ => n | _ => 0))
  case atStart => exact ⟨[], bs s, none, 0, ⟨rfl⟩, by simp; omega, ⟨fun x hx => by simp at hx⟩, rfl, rfl, ⟨Kd.R_nil _ _ _ _ _⟩, HB⟩
  case round =>
    clear HB
    obtain ⟨l, r, A, c, HE, hj, HV, rfl, rfl, HO, HB⟩ := hrel
    have hsz : (putsL (grp l)).length + r.length = s.size := by rw [← bs_length, HE.out, List.length_append]
    have hdrop : (bs s).drop (putsL (grp l)).length = r := by rw [HE.out, List.drop_left]
    have HD := Aside0.mk hdrop
    clear hdrop
    have hokr : okB r := by intro x hx; exact bs_ok s x (by rw [HE.out]; simp [hx])
    by_cases hlt : (l.length : Int) < count
    · rcases dec_or r hokr with ⟨v, hv, hrv⟩ | hbad
      · have A1 := fun w => number_ok s ((putsL (grp l)).length : Int) (v : Int) (r.drop (putL v).length) w (by omega) (by omega) hs (by omega) (by omega) (by rw [Int.toNat_natCast, HD.out, Int.toNat_natCast]; exact hrv)
        have hps : (put (v : Int)).size ≤ 10 := by rw [put_size]; exact putL_len10 _ (by omega)
        have hpl : (put (v : Int)).size = (putL v).length := by rw [put_size, Int.toNat_natCast]
        have hr2 : (putL v).length ≤ r.length := by rw [hrv]; simp
        have hmid : (((putsL (grp l)).length : Int) + ((put (v : Int)).size : Int)).toNat = (putsL (grp l)).length + (putL v).length := by omega
        have hd2 : (bs s).drop ((putsL (grp l)).length + (putL v).length) = r.drop (putL v).length := by rw [← List.drop_drop, HD.out]
        have hok2 : okB (r.drop (putL v).length) := okB_drop hokr _
        rcases dec_or (r.drop (putL v).length) hok2 with ⟨n, hn, hrn⟩ | hbad
        · have A2 := fun w => number_ok s (((putsL (grp l)).length : Int) + ((put (v : Int)).size : Int)) (n : Int) ((r.drop (putL v).length).drop (putL n).length) w (by omega) (by omega) hs (by omega) (by omega) (by rw [hmid, hd2, Int.toNat_natCast]; exact hrn)
          have hpn : (put (n : Int)).size ≤ 10 := by rw [put_size]; exact putL_len10 _ (by omega)
          have hpm : (put (n : Int)).size = (putL n).length := by rw [put_size, Int.toNat_natCast]
          by_cases hlast : l.getLast? = some (v : Int)
          · have hl0 : 0 < l.length := by
              cases l with
              | nil => simp at hlast
              | cons a t => simp
            obtain ⟨ad, rfl, hcell⟩ := cellAt (R_C HO.out).1 (l.length - 1) (by omega)
            have hx : l[l.length - 1] = (v : Int) := by
              have := last_at l hl0
              rw [hlast] at this
              exact (Option.some.inj this).symm
            rw [hx] at hcell
            have HC := Aside0.mk hcell
            clear hlast hx hcell hmid hd2 hok2 hrn hrv hpm hpl hokr hsz hr2
            go_wp2_with (first
              | (go_at_call 18; (with_reducible refine (A1 _).mono ?_); rintro e wb ⟨rfl, hb⟩; have HBn : Aside0 (Below w.heap.size w wb) := ⟨below_next HB.out hb⟩; have HCn := Aside0.mk (pw_cell_below hb HC.out); clear HB hb HC; have HB := HBn; have HC := HCn; clear HBn HCn)
              | (go_at_call 18; (with_reducible refine (A2 _).mono ?_); rintro e wb ⟨rfl, hb⟩; have HBn : Aside0 (Below w.heap.size w wb) := ⟨below_next HB.out hb⟩; have HCn := Aside0.mk (pw_cell_below hb HC.out); have hcell := HCn.out; clear HB hb HC; have HB := HBn; have HC := HCn; clear HBn HCn)
              | (go_at_call 19; refine (at_any _ _ _ ⟨_, _, rfl⟩).mono ?_; rintro e wx ⟨rfl, rfl⟩))
            go_ret2
            exact ⟨_, _, rfl, IsE.new (e := .code 3) rfl, by simp, (by repeat (first | (with_reducible exact HB.out) | apply below_alloc | apply pw_below_drewN | apply below_drew1))⟩
          · have hgs := grp_snoc l (v : Int) n hlast
            have hrest : Aside0 (bs s = putsL (grp (l ++ List.replicate (n + 1) (v : Int))) ++ (r.drop (putL v).length).drop (putL n).length) := ⟨by
              rw [hgs, HE.out, putsL_append, putsL_cons, putsL_cons, putsL_nil, List.append_nil, Int.toNat_natCast, Int.toNat_natCast, List.append_assoc, List.append_assoc, ← hrn, ← hrv]⟩
            have hg2 : Aside0 (((putsL (grp l)).length : Int) + ((put (v : Int)).size : Int) + ((put (n : Int)).size : Int) = ((putsL (grp (l ++ List.replicate (n + 1) (v : Int)))).length : Int)) := ⟨by
              rw [hgs, putsL_append, putsL_cons, putsL_cons, putsL_nil, List.append_nil, List.length_append, List.length_append, Int.toNat_natCast, Int.toNat_natCast, hpl, hpm]; omega⟩
            have hv2 : Aside0 (u64s (l ++ List.replicate (n + 1) (v : Int))) := ⟨by
              intro x hx
              rcases List.mem_append.1 hx with hx | hx
              · exact HV.out x hx
              · rw [(List.mem_replicate.1 hx).2]; omega⟩
            by_cases hl0 : 0 < l.length
            · obtain ⟨ad, rfl, hcell⟩ := cellAt (R_C HO.out).1 (l.length - 1) (by omega)
              have hne : (l[l.length - 1] == (v : Int)) = false := by
                have := last_at l hl0
                rw [beq_eq_false_iff_ne]
                intro e
                exact hlast (by rw [this, e])
              have HC := Aside0.mk hcell
              clear hlast hcell hmid hd2 hok2 hrn hrv hpm hpl hokr hsz hr2 hgs
              by_cases hge : count - (l.length : Int) ≤ (n : Int)
              · clear hrest hg2 hv2 HO
                go_wp2_with (first
                  | (go_at_call 18; (with_reducible refine (A1 _).mono ?_); rintro e wb ⟨rfl, hb⟩; have HBn : Aside0 (Below w.heap.size w wb) := ⟨below_next HB.out hb⟩; have HCn := Aside0.mk (pw_cell_below hb HC.out); clear HB hb HC; have HB := HBn; clear HBn; have HC := HCn; clear HCn)
                  | (go_at_call 18; (with_reducible refine (A2 _).mono ?_); rintro e wb ⟨rfl, hb⟩; have HBn : Aside0 (Below w.heap.size w wb) := ⟨below_next HB.out hb⟩; have HCn := Aside0.mk (pw_cell_below hb HC.out); have hcell := HCn.out; clear HB hb HC; have HB := HBn; clear HBn; have HC := HCn; clear HCn)
                  | (go_at_call 19; refine (at_any _ _ _ ⟨_, _, rfl⟩).mono ?_; rintro e wx ⟨rfl, rfl⟩))
                go_ret2
                exact ⟨_, _, rfl, IsE.new (e := .code 3) rfl, by simp, (by repeat (first | (with_reducible exact HB.out) | apply below_alloc | apply pw_below_drewN | apply below_drew1))⟩
              · have hge2 : (n : Int) < count - (l.length : Int) := by omega
                clear hge
                go_wp2_with (first
                  | (go_at_call 18; (with_reducible refine (A1 _).mono ?_); rintro e wb ⟨rfl, hb⟩; have HBn : Aside0 (Below w.heap.size w wb) := ⟨below_next HB.out hb⟩; have HCn := Aside0.mk (pw_cell_below hb HC.out); have HOn := Aside0.mk (Kd.R_below HO.out hb); clear HB hb HC HO; have HB := HBn; clear HBn; have HC := HCn; clear HCn; have HO := HOn; clear HOn)
                  | (go_at_call 18; (with_reducible refine (A2 _).mono ?_); rintro e wb ⟨rfl, hb⟩; have HBn : Aside0 (Below w.heap.size w wb) := ⟨below_next HB.out hb⟩; have HCn := Aside0.mk (pw_cell_below hb HC.out); have HOn := Aside0.mk (Kd.R_below HO.out hb); have hcell := HCn.out; clear HB hb HC HO; have HB := HBn; clear HBn; have HC := HCn; clear HCn; have HO := HOn; clear HOn))
                clear hcell HC
                clear A1 A2
                go_loopw [6, 75] (fun v6 v75 w' => ∃ (i : Nat) (A : Option Addr) (c : Nat), i ≤ n + 1 ∧ v75 = .int .u64 (i : Int) ∧ v6 = .slice A (l ++ List.replicate i (v : Int)).length c ∧ Aside0 (Kd.R (Kd.int .u64) 36 w' w.heap.size (fun _ => True) (.slice A (l ++ List.replicate i (v : Int)).length c) (l ++ List.replicate i (v : Int))) ∧ Aside0 (Below w.heap.size w w')) (fun _ v75 _ => n + 1 - (intOf v75).toNat)
                case atStart => exact ⟨0, _, c, by omega, rfl, by rw [List.replicate_zero, List.append_nil], ⟨by rw [List.replicate_zero, List.append_nil]; exact HO.out⟩, HB⟩
                case round =>
                  clear HB HO
                  obtain ⟨i, A', c', hi, rfl, rfl, HO, HB⟩ := hrel
                  have hlen : (l ++ List.replicate i (v : Int)).length ≤ 20000 := by rw [List.length_append, List.length_replicate]; omega
                  by_cases hin : i < n + 1
                  · have hin2 : (i : Int) < (n : Int) + 1 := by omega
                    go_wp2_with (first
                      | ((with_reducible refine gate_builtin (b := .append) (xs := #[.tmp 77, .tmp 79]) rfl ?_); at_builtin; refine Kd.R_append (Kd.int .u64) (w0 := w) w.heap.size rfl (.tmp 77) (.tmp 79) 22 36 (.int .u64 0) 8 rfl Try.underlying22 info_u64 rfl (by decide) (by omega) (.slice A' (l ++ List.replicate i (v : Int)).length c') (l ++ List.replicate i (v : Int)) (v : Int) [.int .u64 (v : Int)] (fun _ => True) (fun _ => False) rfl rfl ?aP (fun _ hk => hk.elim) ?aF ?aO ?aB ?aS ?aL ?_; (case aP => exact rfl); (case aB => exact (by repeat (first | (with_reducible exact HB.out) | apply below_alloc | apply pw_below_drewN | apply below_drew1))); (case aF => exact (fun _ _ => trivial)); (case aO => exact (by (with_reducible repeat (first | apply Kd.R_alloc | apply Kd.R_drewN | apply Kd.R_drew)); exact HO.out)); (case aS => exact (below_size (by repeat (first | (with_reducible exact HB.out) | apply below_alloc | apply pw_below_drewN | apply below_drew1)))); (case aL => omega); intro va wa ho hb hg hat; have n0_ := Aside0.mk hb; have n1_ := Aside0.mk ho; clear HB HO; have HB := n0_; have HO := n1_; clear n0_ n1_ ho hb hg hat))
                    rw [List.append_assoc, ← List.replicate_succ'] at HO
                    obtain ⟨A2, c2, rfl, hc2, _⟩ := Kd.R_reads HO.out
                    go_roundw
                    case rel => exact ⟨i + 1, A2, c2, by omega, by go_num, rfl, HO, HB⟩
                    case measure => simp [intOf]; omega
                  · obtain rfl : i = n + 1 := by omega
                    have hin2 : ¬ (((n + 1 : Nat) : Int) < (n : Int) + 1) := by omega
                    clear hin hi
                    go_wp2_with fail
                    go_roundw
                    case rel => exact ⟨l ++ List.replicate (n + 1) (v : Int), _, A', c', hrest, by rw [List.length_append, List.length_replicate]; omega, hv2, rfl, by rw [← hg2.out], HO, HB⟩
                    case measure => simp only [List.length_append, List.length_replicate]; omega
            · have hl1 : ¬ (0 : Int) < (l.length : Int) := by omega
              clear hlast hmid hd2 hok2 hrn hrv hpm hpl hokr hsz hr2 hgs hl0
              by_cases hge : count - (l.length : Int) ≤ (n : Int)
              · clear hrest hg2 hv2 HO
                go_wp2_with (first
                  | (go_at_call 18; (with_reducible refine (A1 _).mono ?_); rintro e wb ⟨rfl, hb⟩; have HBn : Aside0 (Below w.heap.size w wb) := ⟨below_next HB.out hb⟩; clear HB hb; have HB := HBn; clear HBn)
                  | (go_at_call 18; (with_reducible refine (A2 _).mono ?_); rintro e wb ⟨rfl, hb⟩; have HBn : Aside0 (Below w.heap.size w wb) := ⟨below_next HB.out hb⟩; clear HB hb; have HB := HBn; clear HBn)
                  | (go_at_call 19; refine (at_any _ _ _ ⟨_, _, rfl⟩).mono ?_; rintro e wx ⟨rfl, rfl⟩))
                go_ret2
                exact ⟨_, _, rfl, IsE.new (e := .code 3) rfl, by simp, (by repeat (first | (with_reducible exact HB.out) | apply below_alloc | apply pw_below_drewN | apply below_drew1))⟩
              · have hge2 : (n : Int) < count - (l.length : Int) := by omega
                clear hge
                go_wp2_with (first
                  | (go_at_call 18; (with_reducible refine (A1 _).mono ?_); rintro e wb ⟨rfl, hb⟩; have HBn : Aside0 (Below w.heap.size w wb) := ⟨below_next HB.out hb⟩; have HOn := Aside0.mk (Kd.R_below HO.out hb); clear HB hb HO; have HB := HBn; clear HBn; have HO := HOn; clear HOn)
                  | (go_at_call 18; (with_reducible refine (A2 _).mono ?_); rintro e wb ⟨rfl, hb⟩; have HBn : Aside0 (Below w.heap.size w wb) := ⟨below_next HB.out hb⟩; have HOn := Aside0.mk (Kd.R_below HO.out hb); clear HB hb HO; have HB := HBn; clear HBn; have HO := HOn; clear HOn))
                clear A1 A2
                go_loopw [6, 75] (fun v6 v75 w' => ∃ (i : Nat) (A : Option Addr) (c : Nat), i ≤ n + 1 ∧ v75 = .int .u64 (i : Int) ∧ v6 = .slice A (l ++ List.replicate i (v : Int)).length c ∧ Aside0 (Kd.R (Kd.int .u64) 36 w' w.heap.size (fun _ => True) (.slice A (l ++ List.replicate i (v : Int)).length c) (l ++ List.replicate i (v : Int))) ∧ Aside0 (Below w.heap.size w w')) (fun _ v75 _ => n + 1 - (intOf v75).toNat)
                case atStart => exact ⟨0, _, c, by omega, rfl, by rw [List.replicate_zero, List.append_nil], ⟨by rw [List.replicate_zero, List.append_nil]; exact HO.out⟩, HB⟩
                case round =>
                  clear HB HO
                  obtain ⟨i, A', c', hi, rfl, rfl, HO, HB⟩ := hrel
                  have hlen : (l ++ List.replicate i (v : Int)).length ≤ 20000 := by rw [List.length_append, List.length_replicate]; omega
                  by_cases hin : i < n + 1
                  · have hin2 : (i : Int) < (n : Int) + 1 := by omega
                    go_wp2_with (first
                      | ((with_reducible refine gate_builtin (b := .append) (xs := #[.tmp 77, .tmp 79]) rfl ?_); at_builtin; refine Kd.R_append (Kd.int .u64) (w0 := w) w.heap.size rfl (.tmp 77) (.tmp 79) 22 36 (.int .u64 0) 8 rfl Try.underlying22 info_u64 rfl (by decide) (by omega) (.slice A' (l ++ List.replicate i (v : Int)).length c') (l ++ List.replicate i (v : Int)) (v : Int) [.int .u64 (v : Int)] (fun _ => True) (fun _ => False) rfl rfl ?aP (fun _ hk => hk.elim) ?aF ?aO ?aB ?aS ?aL ?_; (case aP => exact rfl); (case aB => exact (by repeat (first | (with_reducible exact HB.out) | apply below_alloc | apply pw_below_drewN | apply below_drew1))); (case aF => exact (fun _ _ => trivial)); (case aO => exact (by (with_reducible repeat (first | apply Kd.R_alloc | apply Kd.R_drewN | apply Kd.R_drew)); exact HO.out)); (case aS => exact (below_size (by repeat (first | (with_reducible exact HB.out) | apply below_alloc | apply pw_below_drewN | apply below_drew1)))); (case aL => omega); intro va wa ho hb hg hat; have n0_ := Aside0.mk hb; have n1_ := Aside0.mk ho; clear HB HO; have HB := n0_; have HO := n1_; clear n0_ n1_ ho hb hg hat))
                    rw [List.append_assoc, ← List.replicate_succ'] at HO
                    obtain ⟨A2, c2, rfl, hc2, _⟩ := Kd.R_reads HO.out
                    go_roundw
                    case rel => exact ⟨i + 1, A2, c2, by omega, by go_num, rfl, HO, HB⟩
                    case measure => simp [intOf]; omega
                  · obtain rfl : i = n + 1 := by omega
                    have hin2 : ¬ (((n + 1 : Nat) : Int) < (n : Int) + 1) := by omega
                    clear hin hi
                    go_wp2_with fail
                    go_roundw
                    case rel => exact ⟨l ++ List.replicate (n + 1) (v : Int), _, A', c', hrest, by rw [List.length_append, List.length_replicate]; omega, hv2, rfl, by rw [← hg2.out], HO, HB⟩
                    case measure => simp only [List.length_append, List.length_replicate]; omega
        · have A2 := fun w => number_err s (((putsL (grp l)).length : Int) + ((put (v : Int)).size : Int)) w (by omega) (by omega) hs (by rw [hmid, hd2]; exact hbad)
          clear hbad hmid hd2 hok2 hpl hrv hsz hr2
          go_wp2_with (first
            | (go_at_call 18; (with_reducible refine (A1 _).mono ?_); rintro e wb ⟨rfl, hb⟩; have HBn : Aside0 (Below w.heap.size w wb) := ⟨below_next HB.out hb⟩; clear HB hb; have HB := HBn; clear HBn)
            | (go_at_call 18; (with_reducible refine (A2 _).mono ?_); rintro e wb ⟨xa, xb, u, E, rfl, hu, hne, hb⟩; have HBn : Aside0 (Below w.heap.size w wb) := ⟨below_next (by repeat (first | (with_reducible exact HB.out) | apply below_alloc | apply pw_below_drewN | apply below_drew1)) hb⟩; clear HB hb; have HB := HBn; clear HBn; obtain ⟨uT, ux, rfl⟩ := hu.iface hne; have HU := Aside0.mk hu; have HNE := Aside0.mk hne; clear hu hne))
          go_ret2
          exact ⟨_, _, rfl, HU.out, HNE.out, HB.out⟩
      · have A1 := fun w => number_err s ((putsL (grp l)).length : Int) w (by omega) (by omega) hs (by rw [Int.toNat_natCast, HD.out]; exact hbad)
        clear hbad
        go_wp2_with (first
          | (go_at_call 18; refine (A1 _).mono ?_; rintro e wb ⟨a, b, u, E, rfl, hu, hne, hb⟩; have HBn : Aside0 (Below w.heap.size w wb) := ⟨below_next HB.out hb⟩; clear HB hb; have HB := HBn; clear HBn; obtain ⟨uT, ux, rfl⟩ := hu.iface hne; have HU := Aside0.mk hu; have HNE := Aside0.mk hne; clear hu hne))
        go_ret2
        exact ⟨_, _, rfl, HU.out, HNE.out, HB.out⟩
    · have hr : 0 < r.length := by
        cases r with
        | nil =>
          rw [List.append_nil] at HE
          exact absurd (by omega) (HS.out l ⟨HE.out, HV.out⟩)
        | cons a t => simp
      have hat : (putsL (grp l)).length < s.size := by omega
      clear hr hsz hokr
      go_wp2_with (first
        | (go_at_call 19; refine (at_any _ _ _ ⟨_, _, rfl⟩).mono ?_; rintro e wx ⟨rfl, rfl⟩))
      go_ret2
      exact ⟨_, _, rfl, IsE.new (e := .code 2) rfl, by simp, (by repeat (first | (with_reducible exact HB.out) | apply below_alloc | apply pw_below_drewN | apply below_drew1))⟩

set_option maxHeartbeats 4000000 in
set_option maxRecDepth 100000 in
theorem runsGet_ok (s : ByteArray) (count : Int) (L : List Int) (w : World) (h1 : count ≤ 20000) (hs : s.size ≤ 140737488351232) (h : isRuns (bs s) L) (hcount : (L.length : Int) = count) :
    Calls Try.prog 8 #[.string s, .int .i64 count] w fun e w' => ∃ A c, e = .returned (.tuple #[.slice A L.length c, .nilIface]) ∧ Kd.C (Kd.int .u64) w' A L.length L ∧ L.length ≤ c ∧ Below w.heap.size w w' := by
  have HB := Aside0.mk (Below.refl w.heap.size w)
  have HE := Aside0.mk h.1
  have HV := Aside0.mk h.2
  have h0 : 0 ≤ count := by omega
  have HL := Aside0.mk hcount
  have HG := Aside0.mk (grp_u64 L h.2 (by omega)).1
  have hsz : (putsL (grp L)).length = s.size := by rw [← h.1, bs_length]
  have HZ := Aside0.mk hsz
  clear h hcount hsz
  go_enter Try.func8, Try.ntmps8
  go_wp2_with fail
  go_loopw [6, 7] (fun v6 v7 w' => ∃ (l l2 : List Int) (A : Option Addr) (c : Nat), Aside0 (L = l ++ l2) ∧ Aside0 (∀ x, l.getLast? = some x → l2.head? ≠ some x) ∧ v6 = .slice A l.length c ∧ v7 = .int .i64 ((putsL (grp l)).length : Int) ∧ Aside0 (Kd.R (Kd.int .u64) 36 w' w.heap.size (fun _ => True) (.slice A l.length c) l) ∧ Aside0 (Below w.heap.size w w')) (fun v6 _ _ => count.toNat - (match v6 with | .slice _ n _ => n | _ => 0))
  case atStart => exact ⟨[], L, none, 0, ⟨rfl⟩, ⟨fun x hx => by simp at hx⟩, rfl, rfl, ⟨Kd.R_nil _ _ _ _ _⟩, HB⟩
  case round =>
    clear HB
    obtain ⟨l, l2, A, c, hL, hbd, rfl, rfl, HO, HB⟩ := hrel
    have hlen : (l.length : Int) + l2.length = count := by rw [← HL.out, hL.out, List.length_append]; omega
    have hgl : grp L = grp l ++ grp l2 := by rw [hL.out, grp_append l.length l l2 (Nat.le_refl _) hbd.out]
    by_cases h2 : l2 = []
    · subst h2
      rw [List.append_nil] at hL
      obtain rfl := hL.out
      have hat : ¬ ((putsL (grp L)).length < s.size) := by have := HZ.out; omega
      have hnl : ¬ (L.length : Int) < count := by have := HL.out; omega
      obtain ⟨hC, _, hc⟩ := R_C HO.out
      clear hlen hgl hbd
      go_wp2_with fail
      go_ret2
      exact ⟨A, c, rfl, hC, hc, HB.out⟩
    · obtain ⟨vi, n, l3, e2, h3⟩ := split_run l2 h2
      have hvi := HV.out vi (by rw [hL.out, e2]; simp)
      obtain ⟨v, rfl⟩ := Int.eq_ofNat_of_zero_le hvi.1
      have hl2n : l2.length = n + 1 + l3.length := by rw [e2]; simp
      have hlt : (l.length : Int) < count := by omega
      have hg2l : grp l2 = (v : Int) :: (n : Int) :: grp l3 := by rw [e2]; exact grp_run _ n l3 h3
      have hE2 : bs s = putsL (grp l) ++ (putL v ++ (putL n ++ putsL (grp l3))) := by
        rw [HE.out, hgl, hg2l, putsL_append, putsL_cons, putsL_cons, Int.toNat_natCast, Int.toNat_natCast]
      have hsz : (putsL (grp l)).length + ((putL v).length + (putL n).length) ≤ s.size := by
        rw [← bs_length, hE2]; simp
      have hps : (put (v : Int)).size ≤ 10 := by rw [put_size]; exact putL_len10 _ (by omega)
      have hpl : (put (v : Int)).size = (putL v).length := by rw [put_size, Int.toNat_natCast]
      have hpn : (put (n : Int)).size ≤ 10 := by rw [put_size]; exact putL_len10 _ (by omega)
      have hpm : (put (n : Int)).size = (putL n).length := by rw [put_size, Int.toNat_natCast]
      have hmid : (((putsL (grp l)).length : Int) + ((put (v : Int)).size : Int)).toNat = (putsL (grp l)).length + (putL v).length := by omega
      have A1 := fun w => number_ok s ((putsL (grp l)).length : Int) (v : Int) (putL n ++ putsL (grp l3)) w (by omega) (by omega) hs (by omega) (by omega) (by rw [Int.toNat_natCast, hE2, List.drop_left, Int.toNat_natCast])
      have A2 := fun w => number_ok s (((putsL (grp l)).length : Int) + ((put (v : Int)).size : Int)) (n : Int) (putsL (grp l3)) w (by omega) (by omega) hs (by omega) (by omega) (by rw [hmid, ← List.drop_drop, hE2, List.drop_left, List.drop_left, Int.toNat_natCast])
      have hlast : l.getLast? ≠ some (v : Int) := by
        intro e
        exact hbd.out _ e (by rw [e2]; simp [List.replicate_succ])
      have hgs := grp_snoc l (v : Int) n hlast
      have hg2 : Aside0 (((putsL (grp l)).length : Int) + ((put (v : Int)).size : Int) + ((put (n : Int)).size : Int) = ((putsL (grp (l ++ List.replicate (n + 1) (v : Int)))).length : Int)) := ⟨by
        rw [hgs, putsL_append, putsL_cons, putsL_cons, putsL_nil, List.append_nil, List.length_append, List.length_append, Int.toNat_natCast, Int.toNat_natCast, hpl, hpm]; omega⟩
      have hL2 : Aside0 (L = (l ++ List.replicate (n + 1) (v : Int)) ++ l3) := ⟨by rw [hL.out, e2, List.append_assoc]⟩
      have hb3 : Aside0 (∀ x, (l ++ List.replicate (n + 1) (v : Int)).getLast? = some x → l3.head? ≠ some x) := ⟨by
        intro x hx
        rw [List.getLast?_append, List.getLast?_replicate] at hx
        simp at hx
        rw [← hx]; exact h3⟩
      have hge2 : (n : Int) < count - (l.length : Int) := by omega
      by_cases hl0 : 0 < l.length
      · obtain ⟨ad, rfl, hcell⟩ := cellAt (R_C HO.out).1 (l.length - 1) (by omega)
        have hne : (l[l.length - 1] == (v : Int)) = false := by
          have := last_at l hl0
          rw [beq_eq_false_iff_ne]
          intro e
          exact hlast (by rw [this, e])
        have HC := Aside0.mk hcell
        clear hlast hcell hmid hpm hpl hsz hgs hlen hgl h2 e2 h3 hvi hl2n hg2l hE2
        go_wp2_with (first
          | (go_at_call 18; (with_reducible refine (A1 _).mono ?_); rintro e wb ⟨rfl, hb⟩; have HBn : Aside0 (Below w.heap.size w wb) := ⟨below_next HB.out hb⟩; have HCn := Aside0.mk (pw_cell_below hb HC.out); have HOn := Aside0.mk (Kd.R_below HO.out hb); clear HB hb HC HO; have HB := HBn; clear HBn; have HC := HCn; clear HCn; have HO := HOn; clear HOn)
          | (go_at_call 18; (with_reducible refine (A2 _).mono ?_); rintro e wb ⟨rfl, hb⟩; have HBn : Aside0 (Below w.heap.size w wb) := ⟨below_next HB.out hb⟩; have HCn := Aside0.mk (pw_cell_below hb HC.out); have HOn := Aside0.mk (Kd.R_below HO.out hb); have hcell := HCn.out; clear HB hb HC HO; have HB := HBn; clear HBn; have HC := HCn; clear HCn; have HO := HOn; clear HOn))
        clear hcell HC
        clear A1 A2
        go_loopw [6, 75] (fun v6 v75 w' => ∃ (i : Nat) (A : Option Addr) (c : Nat), i ≤ n + 1 ∧ v75 = .int .u64 (i : Int) ∧ v6 = .slice A (l ++ List.replicate i (v : Int)).length c ∧ Aside0 (Kd.R (Kd.int .u64) 36 w' w.heap.size (fun _ => True) (.slice A (l ++ List.replicate i (v : Int)).length c) (l ++ List.replicate i (v : Int))) ∧ Aside0 (Below w.heap.size w w')) (fun _ v75 _ => n + 1 - (intOf v75).toNat)
        case atStart => exact ⟨0, _, c, by omega, rfl, by rw [List.replicate_zero, List.append_nil], ⟨by rw [List.replicate_zero, List.append_nil]; exact HO.out⟩, HB⟩
        case round =>
          clear HB HO
          obtain ⟨i, A', c', hi, rfl, rfl, HO, HB⟩ := hrel
          have hlen : (l ++ List.replicate i (v : Int)).length ≤ 20000 := by rw [List.length_append, List.length_replicate]; omega
          by_cases hin : i < n + 1
          · have hin2 : (i : Int) < (n : Int) + 1 := by omega
            go_wp2_with (first
              | ((with_reducible refine gate_builtin (b := .append) (xs := #[.tmp 77, .tmp 79]) rfl ?_); at_builtin; refine Kd.R_append (Kd.int .u64) (w0 := w) w.heap.size rfl (.tmp 77) (.tmp 79) 22 36 (.int .u64 0) 8 rfl Try.underlying22 info_u64 rfl (by decide) (by omega) (.slice A' (l ++ List.replicate i (v : Int)).length c') (l ++ List.replicate i (v : Int)) (v : Int) [.int .u64 (v : Int)] (fun _ => True) (fun _ => False) rfl rfl ?aP (fun _ hk => hk.elim) ?aF ?aO ?aB ?aS ?aL ?_; (case aP => exact rfl); (case aB => exact (by repeat (first | (with_reducible exact HB.out) | apply below_alloc | apply pw_below_drewN | apply below_drew1))); (case aF => exact (fun _ _ => trivial)); (case aO => exact (by (with_reducible repeat (first | apply Kd.R_alloc | apply Kd.R_drewN | apply Kd.R_drew)); exact HO.out)); (case aS => exact (below_size (by repeat (first | (with_reducible exact HB.out) | apply below_alloc | apply pw_below_drewN | apply below_drew1)))); (case aL => omega); intro va wa ho hb hg hat; have n0_ := Aside0.mk hb; have n1_ := Aside0.mk ho; clear HB HO; have HB := n0_; have HO := n1_; clear n0_ n1_ ho hb hg hat))
            rw [List.append_assoc, ← List.replicate_succ'] at HO
            obtain ⟨A2, c2, rfl, hc2, _⟩ := Kd.R_reads HO.out
            go_roundw
            case rel => exact ⟨i + 1, A2, c2, by omega, by go_num, rfl, HO, HB⟩
            case measure => simp [intOf]; omega
          · obtain rfl : i = n + 1 := by omega
            have hin2 : ¬ (((n + 1 : Nat) : Int) < (n : Int) + 1) := by omega
            clear hin hi
            go_wp2_with fail
            go_roundw
            case rel => exact ⟨l ++ List.replicate (n + 1) (v : Int), l3, A', c', hL2, hb3, rfl, by rw [← hg2.out], HO, HB⟩
            case measure => simp only [List.length_append, List.length_replicate]; omega
      · have hl1 : ¬ (0 : Int) < (l.length : Int) := by omega
        clear hlast hmid hpm hpl hsz hgs hlen hgl h2 e2 h3 hvi hl2n hg2l hE2 hl0
        go_wp2_with (first
          | (go_at_call 18; (with_reducible refine (A1 _).mono ?_); rintro e wb ⟨rfl, hb⟩; have HBn : Aside0 (Below w.heap.size w wb) := ⟨below_next HB.out hb⟩; have HOn := Aside0.mk (Kd.R_below HO.out hb); clear HB hb HO; have HB := HBn; clear HBn; have HO := HOn; clear HOn)
          | (go_at_call 18; (with_reducible refine (A2 _).mono ?_); rintro e wb ⟨rfl, hb⟩; have HBn : Aside0 (Below w.heap.size w wb) := ⟨below_next HB.out hb⟩; have HOn := Aside0.mk (Kd.R_below HO.out hb); clear HB hb HO; have HB := HBn; clear HBn; have HO := HOn; clear HOn))
        clear A1 A2
        go_loopw [6, 75] (fun v6 v75 w' => ∃ (i : Nat) (A : Option Addr) (c : Nat), i ≤ n + 1 ∧ v75 = .int .u64 (i : Int) ∧ v6 = .slice A (l ++ List.replicate i (v : Int)).length c ∧ Aside0 (Kd.R (Kd.int .u64) 36 w' w.heap.size (fun _ => True) (.slice A (l ++ List.replicate i (v : Int)).length c) (l ++ List.replicate i (v : Int))) ∧ Aside0 (Below w.heap.size w w')) (fun _ v75 _ => n + 1 - (intOf v75).toNat)
        case atStart => exact ⟨0, _, c, by omega, rfl, by rw [List.replicate_zero, List.append_nil], ⟨by rw [List.replicate_zero, List.append_nil]; exact HO.out⟩, HB⟩
        case round =>
          clear HB HO
          obtain ⟨i, A', c', hi, rfl, rfl, HO, HB⟩ := hrel
          have hlen : (l ++ List.replicate i (v : Int)).length ≤ 20000 := by rw [List.length_append, List.length_replicate]; omega
          by_cases hin : i < n + 1
          · have hin2 : (i : Int) < (n : Int) + 1 := by omega
            go_wp2_with (first
              | ((with_reducible refine gate_builtin (b := .append) (xs := #[.tmp 77, .tmp 79]) rfl ?_); at_builtin; refine Kd.R_append (Kd.int .u64) (w0 := w) w.heap.size rfl (.tmp 77) (.tmp 79) 22 36 (.int .u64 0) 8 rfl Try.underlying22 info_u64 rfl (by decide) (by omega) (.slice A' (l ++ List.replicate i (v : Int)).length c') (l ++ List.replicate i (v : Int)) (v : Int) [.int .u64 (v : Int)] (fun _ => True) (fun _ => False) rfl rfl ?aP (fun _ hk => hk.elim) ?aF ?aO ?aB ?aS ?aL ?_; (case aP => exact rfl); (case aB => exact (by repeat (first | (with_reducible exact HB.out) | apply below_alloc | apply pw_below_drewN | apply below_drew1))); (case aF => exact (fun _ _ => trivial)); (case aO => exact (by (with_reducible repeat (first | apply Kd.R_alloc | apply Kd.R_drewN | apply Kd.R_drew)); exact HO.out)); (case aS => exact (below_size (by repeat (first | (with_reducible exact HB.out) | apply below_alloc | apply pw_below_drewN | apply below_drew1)))); (case aL => omega); intro va wa ho hb hg hat; have n0_ := Aside0.mk hb; have n1_ := Aside0.mk ho; clear HB HO; have HB := n0_; have HO := n1_; clear n0_ n1_ ho hb hg hat))
            rw [List.append_assoc, ← List.replicate_succ'] at HO
            obtain ⟨A2, c2, rfl, hc2, _⟩ := Kd.R_reads HO.out
            go_roundw
            case rel => exact ⟨i + 1, A2, c2, by omega, by go_num, rfl, HO, HB⟩
            case measure => simp [intOf]; omega
          · obtain rfl : i = n + 1 := by omega
            have hin2 : ¬ (((n + 1 : Nat) : Int) < (n : Int) + 1) := by omega
            clear hin hi
            go_wp2_with fail
            go_roundw
            case rel => exact ⟨l ++ List.replicate (n + 1) (v : Int), l3, A', c', hL2, hb3, rfl, by rw [← hg2.out], HO, HB⟩
            case measure => simp only [List.length_append, List.length_replicate]; omega
end Go.Proofs.Ytdgbcokakmonfaa
