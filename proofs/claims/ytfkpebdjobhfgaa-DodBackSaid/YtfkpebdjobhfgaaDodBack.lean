import Derived.Test.YtfkpebdjobhfgaaDodFirst
namespace Go.Proofs.Ytfkpebdjobhfgaa
open Go.RowKit Go.Proofs.YtfkpebdjobhfgaaW.PrintWords Go.Proofs.YtfkpebdjobhfgaaW.PrintLast Go.Proofs.YtfkpebdjobhfgaaW.PrintMore Hy

theorem dodGet_back (l : List Int) (w : World) (hl : l.length ≤ 2000) (hx : u64s l) :
    Calls Try.prog 22 #[.string (st (putsL (offs [] l))), .int .i64 (l.length : Int)] w fun e w' => ∃ A c, e = .returned (.tuple #[.slice A l.length c, .nilIface]) ∧ Kd.C (Kd.int .u64) w' A l.length l ∧ l.length ≤ c ∧ Below w.heap.size w w' := by
  have h := dodGet_ok (st (putsL (offs [] l))) (l.length : Int) (offs [] l) w (by omega) (by omega) (by
    rw [st_size]; have := putsL_len _ (offs_range [] l); rw [offs_length] at this; omega) (by
    rw [Int.toNat_natCast, bs_st _ (putsL_ok _)]
    have := getN_puts (offs [] l) [] (offs_range [] l)
    rw [List.append_nil, offs_length] at this
    exact this)
  rw [unoffs_offs [] l hx, List.nil_append] at h
  exact h
theorem dodGet_none (l : List Int) (s : ByteArray) (n : Nat) (w : World) (hl : l.length ≤ 20000) (hs : s.size ≤ 140737488351232) (h : ∀ vs, getN l.length (bs s) ≠ some (vs, [])) :
    Calls Try.prog 22 #[.string s, .int .i64 (l.length : Int)] w (ErrBack w) :=
  dodGet_err s (l.length : Int) w (by omega) (by omega) hs (by rw [Int.toNat_natCast]; exact h)
theorem dodGet_more (l : List Int) (count : Int) (w : World) (hl : l.length ≤ 2000) (h1 : l.length < count) (h2 : count ≤ 20000) :
    Calls Try.prog 22 #[.string (st (putsL (offs [] l))), .int .i64 count] w (ErrBack w) := by
  refine dodGet_err _ count w (by omega) h2 (by rw [st_size]; have := putsL_len _ (offs_range [] l); rw [offs_length] at this; omega) ?_
  intro vs
  rw [bs_st _ (putsL_ok _), getN_more (offs [] l) count.toNat (offs_range [] l) (by rw [offs_length]; omega)]
  simp
set_option maxHeartbeats 2000000 in
theorem dodBack_walk (A : Option Addr) (c : Nat) (l : List Int) (less x : Int) (w : World) (hr : Kd.C (Kd.int .u64) w A l.length l) (hc : l.length ≤ c) (hl : l.length * 8 ≤ 140737488351232) (hx : ∀ x ∈ l, 0 ≤ x ∧ x < 18446744073709551616)
    (hm0 : -9223372036854775808 ≤ less) (hm1 : less < 9223372036854775808) (hk0 : 0 ≤ x) (hk1 : x < 256) :
    Calls Try.prog 5 #[.slice A l.length c, .int .i64 less, .int .u8 x] w fun e w' => e = .returned (.bool true) ∧ Below w.heap.size w w' := by
  have HB := Aside0.mk (Below.refl w.heap.size w)
  have HR := Aside0.mk hr
  have HX := Aside0.mk hx
  have HC := Aside0.mk hc
  clear hr hc hl hx
  by_cases hg : 2000 < l.length ∨ less < 1
  · by_cases hlen : 2000 < l.length
    all_goals
      go_enter Try.func5, Try.ntmps5
      go_wp2_with (first
        | (go_at_call 20; refine (dod_first _).mono ?_; rintro e wb ⟨rfl, hb⟩; have HBn : Aside0 (Below w.heap.size w wb) := ⟨below_next (by repeat (first | (with_reducible exact HB.out) | apply below_alloc | apply pw_below_drewN | apply below_drew1)) hb⟩; clear HB hb; have HB := HBn; clear HBn))
      go_ret
      exact ⟨rfl, (by repeat (first | (with_reducible exact HB.out) | apply below_alloc | apply pw_below_drewN | apply below_drew1))⟩
  · have hlen : l.length ≤ 2000 := by omega
    have hless : 1 ≤ less := by omega
    clear hg
    go_enter Try.func5, Try.ntmps5
    go_wp2_with (first
      | (go_at_call 20; refine (dod_first _).mono ?_; rintro e wb ⟨rfl, hb⟩; have HBn : Aside0 (Below w.heap.size w wb) := ⟨below_next (by repeat (first | (with_reducible exact HB.out) | apply below_alloc | apply pw_below_drewN | apply below_drew1)) hb⟩; clear HB hb; have HB := HBn; clear HBn)
      | (go_at_call 21; refine (dodPut_ok A c l _ (Kd.C_below HR.out (by repeat (first | (with_reducible exact HB.out) | apply below_alloc | apply pw_below_drewN | apply below_drew1))) HC.out (by omega) HX.out).mono ?_; rintro e wb ⟨rfl, hb⟩; have HBn : Aside0 (Below w.heap.size w wb) := ⟨below_next (by repeat (first | (with_reducible exact HB.out) | apply below_alloc | apply pw_below_drewN | apply below_drew1)) hb⟩; clear HB hb; have HB := HBn; clear HBn))
    refine (dodGet_back l _ hlen HX.out).mono ?_
    rintro e wb ⟨A2, c2, rfl, hC2, hc2, hb⟩
    have HBn : Aside0 (Below w.heap.size w wb) := ⟨below_next HB.out hb⟩
    clear HB hb
    have HB := HBn
    clear HBn
    have HC2 := Aside0.mk hC2
    have HN : ∀ n, Calls Try.prog 23 #[.slice A l.length c, .slice A2 l.length c2] (wb.drewN n) fun e w' => e = .returned (.bool true) ∧ Drawn0 (wb.drewN n) w' := by
      intro n
      have := nums_any A c l A2 c2 l (wb.drewN n) (Kd.C_drewN (Kd.C_below HR.out HB.out) n) HC.out (Kd.C_drewN HC2.out n) hc2 (by omega)
      simpa using this
    have hcv := conv_byte x
    have hsz : (st (putsL (offs [] l))).size ≤ 20000 := by rw [st_size]; have := putsL_len _ (offs_range [] l); rw [offs_length] at this; omega
    have hsz1 : (st [x.toNat]).size = 1 := rfl
    have HZ1 := Aside0.mk hsz1
    have hsz2 : (st (putsL (offs [] l))).size + (st [x.toNat]).size ≤ 9223372036854775807 := by omega
    clear hC2 hc2 hsz1
    go_wp2_with (first
      | (go_at_call 23; refine (HN _).mono ?_; rintro e wd ⟨rfl, ⟨nd, rfl⟩⟩)
      | (go_at_call 23; refine (HN 0).mono ?_; rintro e wd ⟨rfl, ⟨nd, rfl⟩⟩))
    clear hcv
    refine (dodGet_none l _ 0 _ (by omega) (by rw [ByteArray.size_append, HZ1.out]; omega) ?_).mono ?_
    · intro vs
      rw [bs_append, bs_st _ (putsL_ok _), bs_st _ (by intro y hy; simp at hy; omega)]
      have := getN_puts (offs [] l) [x.toNat] (offs_range [] l)
      rw [offs_length] at this
      rw [this]; simp
    rintro e wb ⟨u, E, rfl, hu, hne, hb⟩; have HBn : Aside0 (Below w.heap.size w wb) := ⟨below_next (by repeat (first | (with_reducible exact HB.out) | apply below_alloc | apply pw_below_drewN | apply below_drew1)) hb⟩; clear HB hb; have HB := HBn; clear HBn; obtain ⟨uT, ux, rfl⟩ := hu.iface hne; clear hu hne
    go_wp2_with fail
    refine (dodGet_more l _ _ (by omega) (by omega) (by omega)).mono ?_
    rintro e wb ⟨u, E, rfl, hu, hne, hb⟩; have HBn : Aside0 (Below w.heap.size w wb) := ⟨below_next (by repeat (first | (with_reducible exact HB.out) | apply below_alloc | apply pw_below_drewN | apply below_drew1)) hb⟩; clear HB hb; have HB := HBn; clear HBn; obtain ⟨uT, ux, rfl⟩ := hu.iface hne; clear hu hne
    by_cases hz : l = []
    · have hst : (st (putsL (offs [] l))).size = 0 := by rw [hz]; rfl
      have hl0 : l.length = 0 := by rw [hz]; rfl
      clear hz
      go_wp2_with (first
        | (go_at_call 20; refine (dod_first _).mono ?_; rintro e wb ⟨rfl, hb⟩; have HBn : Aside0 (Below w.heap.size w wb) := ⟨below_next (by repeat (first | (with_reducible exact HB.out) | apply below_alloc | apply pw_below_drewN | apply below_drew1)) hb⟩; clear HB hb; have HB := HBn; clear HBn))
      go_ret
      exact ⟨rfl, (by repeat (first | (with_reducible exact HB.out) | apply below_alloc | apply pw_below_drewN | apply below_drew1))⟩
    · have hne : offs [] l ≠ [] := by
        intro e
        have h_ := congrArg List.length e
        rw [offs_length] at h_
        exact hz (List.eq_nil_of_length_eq_zero h_)
      have hpos : 0 < (putsL (offs [] l)).length := by
        obtain ⟨a, t, e⟩ := List.exists_cons_of_ne_nil hne
        rw [e, putsL_cons, List.length_append]
        have := putL_pos a.toNat
        omega
      have hst : 0 < (st (putsL (offs [] l))).size := by rw [st_size]; exact hpos
      clear hz hne
      go_wp2_with fail
      refine (dodGet_none l _ 0 _ (by omega) (by rw [ByteArray.size_extract]; omega) ?_).mono ?_
      · intro vs
        have hnn : putsL (offs [] l) ≠ [] := by intro e; rw [e] at hpos; simp at hpos
        have hcut := getN_cut (offs [] l) ((putsL (offs [] l)).take ((putsL (offs [] l)).length - 1)) ((putsL (offs [] l)).getLast hnn) (offs_range [] l) (by
          rw [← List.dropLast_eq_take, List.dropLast_concat_getLast])
        rw [offs_length] at hcut
        rw [bs_extract, bs_st _ (putsL_ok _), st_size, List.drop_zero, hcut]
        simp
      rintro e wb ⟨u, E, rfl, hu, hne, hb⟩; have HBn : Aside0 (Below w.heap.size w wb) := ⟨below_next (by repeat (first | (with_reducible exact HB.out) | apply below_alloc | apply pw_below_drewN | apply below_drew1)) hb⟩; clear HB hb; have HB := HBn; clear HBn; obtain ⟨uT, ux, rfl⟩ := hu.iface hne; clear hu hne
      go_wp2_with (first
        | (go_at_call 20; refine (dod_first _).mono ?_; rintro e wb ⟨rfl, hb⟩; have HBn : Aside0 (Below w.heap.size w wb) := ⟨below_next (by repeat (first | (with_reducible exact HB.out) | apply below_alloc | apply pw_below_drewN | apply below_drew1)) hb⟩; clear HB hb; have HB := HBn; clear HBn))
      go_ret
      exact ⟨rfl, (by repeat (first | (with_reducible exact HB.out) | apply below_alloc | apply pw_below_drewN | apply below_drew1))⟩
end Go.Proofs.Ytfkpebdjobhfgaa
