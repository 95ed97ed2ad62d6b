import Derived.Test.YtdgbcokakmonfaaRunsFirst
namespace Go.Proofs.Ytdgbcokakmonfaa
open Go.RowKit Go.Proofs.YtdgbcokakmonfaaW.PrintWords Go.Proofs.YtdgbcokakmonfaaW.PrintLast Go.Proofs.YtdgbcokakmonfaaW.PrintMore Hy

theorem runs_size (l : List Int) (hl : l.length ≤ 2000) (hx : u64s l) : (st (putsL (grp l))).size ≤ 40000 := by
  rw [st_size]
  have h1 := grp_len l
  have h2 := putsL_len (grp l) (grp_u64 l hx (by omega)).1
  omega
theorem runsGet_back (l : List Int) (w : World) (hl : l.length ≤ 2000) (hx : u64s l) :
    Calls Try.prog 8 #[.string (st (putsL (grp l))), .int .i64 (l.length : Int)] w fun e w' => ∃ A c, e = .returned (.tuple #[.slice A l.length c, .nilIface]) ∧ Kd.C (Kd.int .u64) w' A l.length l ∧ l.length ≤ c ∧ Below w.heap.size w w' :=
  runsGet_ok (st (putsL (grp l))) (l.length : Int) l w (by omega) (by have := runs_size l hl hx; omega) ⟨bs_st _ (putsL_ok _), hx⟩ rfl
theorem runsGet_longer (l : List Int) (x : Int) (w : World) (hl : l.length ≤ 2000) (hx : u64s l) (hk0 : 0 ≤ x) (hk1 : x < 256) :
    Calls Try.prog 8 #[.string (st (putsL (grp l)) ++ st [x.toNat]), .int .i64 (l.length : Int)] w (ErrBack w) := by
  have hs := runs_size l hl hx
  have h1 : (st [x.toNat]).size = 1 := rfl
  refine runsGet_err _ (l.length : Int) w (by omega) (by omega) (by rw [ByteArray.size_append, h1]; omega) ?_
  intro l' h' e
  have hb : bs (st (putsL (grp l)) ++ st [x.toNat]) = putsL (grp l) ++ [x.toNat] := by
    rw [bs_append, bs_st _ (putsL_ok _), bs_st _ (by intro y hy; simp at hy; omega)]
  have := runs_one l l' (by omega) (by omega) hx h'.2 [x.toNat] (by rw [← hb]; exact h'.1) (by simp)
  omega
theorem runsGet_more (l : List Int) (count : Int) (w : World) (hl : l.length ≤ 2000) (hx : u64s l) (h1 : l.length < count) (h2 : count ≤ 20000) :
    Calls Try.prog 8 #[.string (st (putsL (grp l))), .int .i64 count] w (ErrBack w) := by
  have hs := runs_size l hl hx
  refine runsGet_err _ count w (by omega) h2 (by omega) ?_
  intro l' h' e
  have := runs_same l l' (by omega) (by omega) hx h'.2 (by rw [← h'.1, bs_st _ (putsL_ok _)])
  omega
theorem runsGet_cut (l : List Int) (w : World) (hl : l.length ≤ 2000) (hx : u64s l) (h0 : 0 < (st (putsL (grp l))).size) :
    Calls Try.prog 8 #[.string ((st (putsL (grp l))).extract 0 ((st (putsL (grp l))).size - 1)), .int .i64 (l.length : Int)] w (ErrBack w) := by
  have hs := runs_size l hl hx
  refine runsGet_err _ (l.length : Int) w (by omega) (by omega) (by rw [ByteArray.size_extract]; omega) ?_
  intro l' h' e
  have hnn : putsL (grp l) ≠ [] := by intro e; rw [e] at h0; exact absurd h0 (by decide)
  have hb : bs ((st (putsL (grp l))).extract 0 ((st (putsL (grp l))).size - 1)) = (putsL (grp l)).take ((putsL (grp l)).length - 1) := by
    rw [bs_extract, bs_st _ (putsL_ok _), st_size, List.drop_zero]
  have hcut : putsL (grp l') ++ [(putsL (grp l)).getLast hnn] = putsL (grp l) := by
    rw [← h'.1, hb, ← List.dropLast_eq_take, List.dropLast_concat_getLast]
  have := runs_one l' l (by omega) (by omega) h'.2 hx _ hcut (by simp)
  omega
set_option maxHeartbeats 2000000 in
theorem runsBack_walk (A : Option Addr) (c : Nat) (l : List Int) (less x : Int) (w : World) (hr : Kd.C (Kd.int .u64) w A l.length l) (hc : l.length ≤ c) (hl : l.length * 8 ≤ 140737488351232) (hx : ∀ x ∈ l, 0 ≤ x ∧ x < 18446744073709551616)
    (hm0 : -9223372036854775808 ≤ less) (hm1 : less < 9223372036854775808) (hk0 : 0 ≤ x) (hk1 : x < 256) :
    Calls Try.prog 3 #[.slice A l.length c, .int .i64 less, .int .u8 x] w fun e w' => e = .returned (.bool true) ∧ Below w.heap.size w w' := by
  have HB := Aside0.mk (Below.refl w.heap.size w)
  have HR := Aside0.mk hr
  have HX := Aside0.mk hx
  have HC := Aside0.mk hc
  clear hr hc hl hx
  by_cases hg : 2000 < l.length ∨ less < 1
  · by_cases hlen : 2000 < l.length
    all_goals
      go_enter Try.func3, Try.ntmps3
      go_wp2_with (first
        | (go_at_call 6; refine (runs_first _).mono ?_; rintro e wb ⟨rfl, hb⟩; have HBn : Aside0 (Below w.heap.size w wb) := ⟨below_next (by repeat (first | (with_reducible exact HB.out) | apply below_alloc | apply pw_below_drewN | apply below_drew1)) hb⟩; clear HB hb; have HB := HBn; clear HBn))
      go_ret
      exact ⟨rfl, (by repeat (first | (with_reducible exact HB.out) | apply below_alloc | apply pw_below_drewN | apply below_drew1))⟩
  · have hlen : l.length ≤ 2000 := by omega
    have hless : 1 ≤ less := by omega
    clear hg
    go_enter Try.func3, Try.ntmps3
    go_wp2_with (first
      | (go_at_call 6; refine (runs_first _).mono ?_; rintro e wb ⟨rfl, hb⟩; have HBn : Aside0 (Below w.heap.size w wb) := ⟨below_next (by repeat (first | (with_reducible exact HB.out) | apply below_alloc | apply pw_below_drewN | apply below_drew1)) hb⟩; clear HB hb; have HB := HBn; clear HBn)
      | (go_at_call 7; refine (runsPut_ok A c l _ (Kd.C_below HR.out (by repeat (first | (with_reducible exact HB.out) | apply below_alloc | apply pw_below_drewN | apply below_drew1))) HC.out (by omega) HX.out).mono ?_; rintro e wb ⟨rfl, hb⟩; have HBn : Aside0 (Below w.heap.size w wb) := ⟨below_next (by repeat (first | (with_reducible exact HB.out) | apply below_alloc | apply pw_below_drewN | apply below_drew1)) hb⟩; clear HB hb; have HB := HBn; clear HBn))
    refine (runsGet_back l _ hlen HX.out).mono ?_
    rintro e wb ⟨A2, c2, rfl, hC2, hc2, hb⟩
    have HBn : Aside0 (Below w.heap.size w wb) := ⟨below_next HB.out hb⟩
    clear HB hb
    have HB := HBn
    clear HBn
    have HC2 := Aside0.mk hC2
    have HN : ∀ n, Calls Try.prog 9 #[.slice A l.length c, .slice A2 l.length c2] (wb.drewN n) fun e w' => e = .returned (.bool true) ∧ Drawn0 (wb.drewN n) w' := by
      intro n
      have := nums_any A c l A2 c2 l (wb.drewN n) (Kd.C_drewN (Kd.C_below HR.out HB.out) n) HC.out (Kd.C_drewN HC2.out n) hc2 (by omega)
      simpa using this
    have hcv := conv_byte x
    have hsz : (st (putsL (grp l))).size ≤ 40000 := runs_size l hlen HX.out
    have hsz1 : (st [x.toNat]).size = 1 := rfl
    have hsz2 : (st (putsL (grp l))).size + (st [x.toNat]).size ≤ 9223372036854775807 := by omega
    clear hC2 hc2 hsz1
    go_wp2_with (first
      | (go_at_call 9; refine (HN _).mono ?_; rintro e wd ⟨rfl, ⟨nd, rfl⟩⟩)
      | (go_at_call 9; refine (HN 0).mono ?_; rintro e wd ⟨rfl, ⟨nd, rfl⟩⟩))
    clear hcv
    refine (runsGet_longer l x _ hlen HX.out hk0 hk1).mono ?_
    rintro e wb ⟨u, E, rfl, hu, hne, hb⟩; have HBn : Aside0 (Below w.heap.size w wb) := ⟨below_next (by repeat (first | (with_reducible exact HB.out) | apply below_alloc | apply pw_below_drewN | apply below_drew1)) hb⟩; clear HB hb; have HB := HBn; clear HBn; obtain ⟨uT, ux, rfl⟩ := hu.iface hne; clear hu hne
    go_wp2_with fail
    refine (runsGet_more l _ _ (by omega) HX.out (by omega) (by omega)).mono ?_
    rintro e wb ⟨u, E, rfl, hu, hne, hb⟩; have HBn : Aside0 (Below w.heap.size w wb) := ⟨below_next (by repeat (first | (with_reducible exact HB.out) | apply below_alloc | apply pw_below_drewN | apply below_drew1)) hb⟩; clear HB hb; have HB := HBn; clear HBn; obtain ⟨uT, ux, rfl⟩ := hu.iface hne; clear hu hne
    by_cases hz : l = []
    · have hst : (st (putsL (grp l))).size = 0 := by rw [hz]; rfl
      have hl0 : l.length = 0 := by rw [hz]; rfl
      clear hz
      go_wp2_with (first
        | (go_at_call 6; refine (runs_first _).mono ?_; rintro e wb ⟨rfl, hb⟩; have HBn : Aside0 (Below w.heap.size w wb) := ⟨below_next (by repeat (first | (with_reducible exact HB.out) | apply below_alloc | apply pw_below_drewN | apply below_drew1)) hb⟩; clear HB hb; have HB := HBn; clear HBn))
      go_ret
      exact ⟨rfl, (by repeat (first | (with_reducible exact HB.out) | apply below_alloc | apply pw_below_drewN | apply below_drew1))⟩
    · have hst : 0 < (st (putsL (grp l))).size := by
        obtain ⟨a, t, e⟩ := List.exists_cons_of_ne_nil hz
        obtain ⟨n, r, e2, _⟩ := grp_shape a t
        rw [st_size, e, e2, putsL_cons, List.length_append]
        have := putL_pos a.toNat
        omega
      clear hz
      go_wp2_with fail
      refine (runsGet_cut l _ hlen HX.out hst).mono ?_
      rintro e wb ⟨u, E, rfl, hu, hne, hb⟩; have HBn : Aside0 (Below w.heap.size w wb) := ⟨below_next (by repeat (first | (with_reducible exact HB.out) | apply below_alloc | apply pw_below_drewN | apply below_drew1)) hb⟩; clear HB hb; have HB := HBn; clear HBn; obtain ⟨uT, ux, rfl⟩ := hu.iface hne; clear hu hne
      go_wp2_with (first
        | (go_at_call 6; refine (runs_first _).mono ?_; rintro e wb ⟨rfl, hb⟩; have HBn : Aside0 (Below w.heap.size w wb) := ⟨below_next (by repeat (first | (with_reducible exact HB.out) | apply below_alloc | apply pw_below_drewN | apply below_drew1)) hb⟩; clear HB hb; have HB := HBn; clear HBn))
      go_ret
      exact ⟨rfl, (by repeat (first | (with_reducible exact HB.out) | apply below_alloc | apply pw_below_drewN | apply below_drew1))⟩
end Go.Proofs.Ytdgbcokakmonfaa
