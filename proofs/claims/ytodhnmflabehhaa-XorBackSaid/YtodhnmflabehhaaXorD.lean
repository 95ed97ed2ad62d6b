import Derived.Test.YtodhnmflabehhaaXorR
namespace Go.Proofs.Ytodhnmflabehhaa
open Go.RowKit Go.Proofs.YtodhnmflabehhaaW.PrintWords Go.Proofs.YtodhnmflabehhaaW.PrintLast Go.Proofs.YtodhnmflabehhaaW.PrintMore Hy

theorem gets_is (B g r : Nat) (s : ByteArray) (a a' : Nat) (c v : Int) (w : World) (hs : s.size ≤ 140737488351232) (hc0 : 0 ≤ c) (hc : c ≤ 64) (ha : a + c.toNat = a') (ha' : a' ≤ 8 * s.size) (hv : ((val (((unp (bs s)).drop a).take c.toNat) : Nat) : Int) = v) (h : XAt B g r s a .nilIface w) :
    Calls Try.prog 20 #[.pointer (some ⟨r, 0, none⟩), .int .i64 c] w fun e w' => e = .returned (.int .u64 v) ∧ XAt B g r s a' .nilIface w' ∧ Kp (GR g r) w w' := by
  have := gets_ok B g r s a c w hs hc0 hc (by omega) h
  rw [hv, ha] at this
  exact this
theorem xdiff_zero (B g r : Nat) (s : ByteArray) (a : Nat) (R : List Bool) (w : World) (hs : s.size ≤ 140737488351232) (hd : (unp (bs s)).drop a = false :: R) (h : XAt B g r s a .nilIface w) :
    Calls Try.prog 21 #[.pointer (some ⟨r, 0, none⟩)] w fun e w' => e = .returned (.int .u64 0) ∧ XAt B g r s (a + 1) .nilIface w' ∧ Kp (GR g r) w w' := by
  have hl := congrArg List.length hd
  rw [List.length_drop, unp_length, bs_length, List.length_cons] at hl
  have G1 := gets_is B g r s a (a + 1) 1 0 w hs (by decide) (by decide) rfl (by omega) (by rw [hd]; rfl) h
  clear hd hl h
  go_enter Try.func21, Try.ntmps21
  go_wp2_with (go_at_call 20; refine G1.mono ?_; rintro e w1 ⟨rfl, h1, h2⟩; have H1 := Aside0.mk h1; have H2 := Aside0.mk h2; clear h1 h2)
  go_ret
  exact ⟨rfl, H1.out, H2.out⟩
set_option maxHeartbeats 2000000 in
theorem xdiff_some (B g r : Nat) (s : ByteArray) (a x : Nat) (R : List Bool) (w : World) (hs : s.size ≤ 140737488351232) (hx0 : x ≠ 0) (hx : x < 18446744073709551616) (hd : (unp (bs s)).drop a = encD x ++ R) (h : XAt B g r s a .nilIface w) :
    Calls Try.prog 21 #[.pointer (some ⟨r, 0, none⟩)] w fun e w' => e = .returned (.int .u64 (x : Int)) ∧ XAt B g r s (a + (encD x).length) .nilIface w' ∧ Kp (GR g r) w w' := by
  have hl := congrArg List.length hd
  rw [List.length_drop, unp_length, bs_length, List.length_append] at hl
  obtain ⟨s1, _, _, s4⟩ := ends_says x hx0 hx
  have z := size_lt x hx0 hx
  have A1 := fun w => lead_any x w hx
  have A2 := fun w => trail_any x w hx
  have he : encD x = true :: (bitsOf (lead x) 6 ++ (bitsOf (63 - lead x - trail x) 6 ++ bitsOf (x / 2 ^ trail x) (64 - lead x - trail x))) := by unfold encD; rw [if_neg hx0]
  have hel : (encD x).length = 13 + (64 - lead x - trail x) := by rw [he]; simp only [List.length_cons, List.length_append, bitsOf_length]; omega
  rw [he] at hd
  have HI := Aside0.mk h
  rw [hel] at hl ⊢
  clear he hel
  generalize lead x = L at *
  generalize trail x = t at *
  obtain ⟨q, hq⟩ : ∃ q, x / 2 ^ t = q := ⟨_, rfl⟩
  obtain ⟨S, hS⟩ : ∃ S, 64 - L - t = S := ⟨_, rfl⟩
  obtain ⟨S1, hS1⟩ : ∃ S1, 63 - L - t = S1 := ⟨_, rfl⟩
  rw [hq] at z hd s4
  rw [hS] at z hd hl ⊢
  rw [hS1] at hd
  simp only [List.cons_append, List.append_assoc] at hd
  have d1 : (unp (bs s)).drop (a + 1) = bitsOf L 6 ++ (bitsOf S1 6 ++ (bitsOf q S ++ R)) := by rw [← List.drop_drop, hd]; rfl
  have d2 : (unp (bs s)).drop (a + 1 + 6) = bitsOf S1 6 ++ (bitsOf q S ++ R) := by rw [← List.drop_drop, d1, List.drop_left' (bitsOf_length _ _)]
  have d3 : (unp (bs s)).drop (a + 1 + 6 + 6) = bitsOf q S ++ R := by rw [← List.drop_drop, d2, List.drop_left' (bitsOf_length _ _)]
  have G1 := gets_is B g r s a (a + 1) 1 1 w hs (by decide) (by decide) rfl (by omega) (by rw [hd]; rfl) h
  have G2 := fun w => gets_is B g r s (a + 1) (a + 1 + 6) 6 (L : Int) w hs (by decide) (by decide) rfl (by omega) (by rw [d1, show Int.toNat 6 = 6 from rfl, List.take_left' (bitsOf_length _ _), val_small _ _ (by omega)])
  have G3 := fun w => gets_is B g r s (a + 1 + 6) (a + 1 + 6 + 6) 6 (S1 : Int) w hs (by decide) (by decide) rfl (by omega) (by rw [d2, show Int.toNat 6 = 6 from rfl, List.take_left' (bitsOf_length _ _), val_small _ _ (by omega)])
  have G4 := fun w => gets_is B g r s (a + 1 + 6 + 6) (a + (13 + S)) (S : Int) (q : Int) w hs (by omega) (by omega) (by omega) (by omega) (by rw [d3, Int.toNat_natCast, List.take_left' (bitsOf_length _ _), val_small _ _ z])
  have AT := fun w h => rat_any B g s (a + 1) w h
  have f3 : (64 : Int) - (L : Int) - (S : Int) = (t : Int) := by omega
  have f4 : (S1 : Int) + 1 = (S : Int) := by omega
  have f5 : IntKind.u64.wrap ((q : Int) * 2 ^ t) = (x : Int) := by rw [cast_shl, s4, wrap_u64]; omega
  have f6 : ((L : Int) != (L : Int)) = false := by simp
  have f7 : ((t : Int) != (t : Int)) = false := by simp
  have hL2 : (L : Int) ≤ 63 := by omega
  have ht2 : (t : Int) ≤ 63 := by omega
  have ht3 : max (t : Int) 0 = (t : Int) := by omega
  have ht4 : ¬ (t : Int) < 0 := by omega
  have hS2 : (S : Int) ≤ 64 := by omega
  have hS3 : (S1 : Int) ≤ 63 := by omega
  clear z hq hS hS1 hx s1 hx0 hd d1 d2 d3 hl s4 h
  go_enter Try.func21, Try.ntmps21
  go_wp2_with fail
  refine G1.mono ?_
  rintro e w1 ⟨rfl, h1, b1⟩
  have H1 := Aside0.mk h1
  have B1 := Aside0.mk b1
  have k0 := h1.k0
  clear h1 b1 G1
  go_wp2_with (go_at_call 25; refine (AT _ H1.out.1).mono ?_; rintro e w' ⟨rfl, hw⟩; subst w')
  refine (G2 _ H1.out).mono ?_
  rintro e w2 ⟨rfl, h1, b1⟩
  have H2 := Aside0.mk h1
  have B2 := Aside0.mk (B1.out.trans b1)
  clear h1 b1 H1 B1 G2 k0
  go_wp2_with fail
  refine (G3 _ H2.out).mono ?_
  rintro e w3 ⟨rfl, h1, b1⟩
  have H3 := Aside0.mk h1
  have B3 := Aside0.mk (B2.out.trans b1)
  have k1 := h1.k1
  clear h1 b1 H2 B2 G3
  go_wp2_with fail
  refine (G4 _ H3.out).mono ?_
  rintro e w4 ⟨rfl, h1, b1⟩
  have H4 := Aside0.mk h1
  have B4 := Aside0.mk (B3.out.trans b1)
  have q1 := h1.k1
  clear h1 b1 H3 B3 G4 k1
  go_wp2_with (first
      | (go_at_call 7; refine (A1 _).mono ?_; rintro e wd ⟨rfl, ⟨nd, rfl⟩⟩)
      | (go_at_call 8; refine (A2 _).mono ?_; rintro e wd ⟨rfl, ⟨nd, rfl⟩⟩))
  go_ret
  exact ⟨rfl, H4.out, B4.out.drewN _⟩

/-- What a reader that is stuck leaves. -/
def XBad (B g r : Nat) (s : ByteArray) (w : World) (e : Ending) (w' : World) : Prop := ∃ (v : Int) (a' : Nat) (T : TypeId) (x : Value), e = .returned (.int .u64 v) ∧ 0 ≤ v ∧ v < 18446744073709551616 ∧ XAt B g r s a' (.iface T x) w' ∧ Kp (GR g r) w w'
theorem xdiff_bad0 (B g r : Nat) (s : ByteArray) (a : Nat) (w : World) (hs : s.size ≤ 140737488351232) (hf : a = 8 * s.size) (h : XAt B g r s a .nilIface w) :
    Calls Try.prog 21 #[.pointer (some ⟨r, 0, none⟩)] w (XBad B g r s w) := by
  have G1 := gets_short B g r s a 0 1 w hs (by decide) (by decide) (by omega) (by decide) h
  clear h hf
  go_enter Try.func21, Try.ntmps21
  go_wp2_with (go_at_call 20; refine G1.mono ?_; rintro e w1 ⟨T, x, rfl, h1, h2⟩; have H1 := Aside0.mk h1; have H2 := Aside0.mk h2; clear h1 h2)
  go_ret
  exact ⟨_, _, _, _, rfl, by decide, by decide, H1.out, H2.out⟩
/-- The counts' bits lack. -/
theorem xdiff_bad1 (B g r : Nat) (s : ByteArray) (a f : Nat) (w : World) (hs : s.size ≤ 140737488351232) (hf : a + f = 8 * s.size) (hf1 : 1 ≤ f) (hf6 : f ≤ 6) (hd : ∃ R, (unp (bs s)).drop a = true :: R) (h : XAt B g r s a .nilIface w) :
    Calls Try.prog 21 #[.pointer (some ⟨r, 0, none⟩)] w (XBad B g r s w) := by
  obtain ⟨R, hd⟩ := hd
  have G1 := gets_is B g r s a (a + 1) 1 1 w hs (by decide) (by decide) rfl (by omega) (by rw [hd]; rfl) h
  have G2 := fun w => gets_short B g r s (a + 1) (f - 1) 6 w hs (by decide) (by decide) (by omega) (by omega)
  have G3 := fun T x w => gets_err B g r s (a + 1) 6 T x w
  have G4 := fun T x w => gets_err B g r s (a + 1) 1 T x w
  have AT := fun w h => rat_any B g s (a + 1) w h
  have ms : max (63 : Int) 0 = 63 := by decide
  clear h hf hd
  go_enter Try.func21, Try.ntmps21
  go_wp2_with fail
  refine G1.mono ?_
  rintro e w1 ⟨rfl, h1, b1⟩
  have H1 := Aside0.mk h1
  have B1 := Aside0.mk b1
  have k0 := h1.k0
  clear h1 b1 G1
  go_wp2_with (go_at_call 25; refine (AT _ H1.out.1).mono ?_; rintro e w' ⟨rfl, hw⟩; subst w')
  refine (G2 _ H1.out).mono ?_
  rintro e w2 ⟨T, x, rfl, h1, b1⟩
  have H2 := Aside0.mk h1
  have B2 := Aside0.mk (B1.out.trans b1)
  have k1 := h1.k1
  clear h1 b1 H1 B1 G2 k0
  go_wp2_with fail
  refine (G3 _ _ _ H2.out).mono ?_
  rintro e w' ⟨rfl, hw⟩
  subst w'
  go_wp2_with fail
  refine (G4 _ _ _ H2.out).mono ?_
  rintro e w' ⟨rfl, hw⟩
  subst w'
  go_wp2_with fail
  go_ret
  exact ⟨_, _, _, _, rfl, by decide, by decide, H2.out, B2.out⟩
/-- The second count's bits lack. -/
theorem xdiff_bad2 (B g r : Nat) (s : ByteArray) (a f L : Nat) (w : World) (hs : s.size ≤ 140737488351232) (hf : a + f = 8 * s.size) (hf1 : 7 ≤ f) (hf6 : f ≤ 12) (hd : ∃ R, (unp (bs s)).drop a = true :: R) (hL : val (((unp (bs s)).drop (a + 1)).take 6) = L) (hL6 : L < 64) (h : XAt B g r s a .nilIface w) :
    Calls Try.prog 21 #[.pointer (some ⟨r, 0, none⟩)] w (XBad B g r s w) := by
  obtain ⟨R, hd⟩ := hd
  have G1 := gets_is B g r s a (a + 1) 1 1 w hs (by decide) (by decide) rfl (by omega) (by rw [hd]; rfl) h
  have G2 := fun w => gets_is B g r s (a + 1) (a + 1 + 6) 6 (L : Int) w hs (by decide) (by decide) rfl (by omega) (by rw [show Int.toNat 6 = 6 from rfl, hL])
  have G3 := fun w => gets_short B g r s (a + 1 + 6) (f - 7) 6 w hs (by decide) (by decide) (by omega) (by omega)
  have G4 := fun T x w => gets_err B g r s (a + 1 + 6) 1 T x w
  have AT := fun w h => rat_any B g s (a + 1) w h
  obtain ⟨t, ht⟩ : ∃ t, 63 - L = t := ⟨_, rfl⟩
  have f3 : (64 : Int) - (L : Int) - 1 = (t : Int) := by omega
  have hL2 : (L : Int) ≤ 63 := by omega
  have ht2 : (t : Int) ≤ 63 := by omega
  have ms : max (t : Int) 0 = (t : Int) := by omega
  clear h hf hd hL ht
  go_enter Try.func21, Try.ntmps21
  go_wp2_with fail
  refine G1.mono ?_
  rintro e w1 ⟨rfl, h1, b1⟩
  have H1 := Aside0.mk h1
  have B1 := Aside0.mk b1
  have k0 := h1.k0
  clear h1 b1 G1
  go_wp2_with (go_at_call 25; refine (AT _ H1.out.1).mono ?_; rintro e w' ⟨rfl, hw⟩; subst w')
  refine (G2 _ H1.out).mono ?_
  rintro e w2 ⟨rfl, h1, b1⟩
  have H2 := Aside0.mk h1
  have B2 := Aside0.mk (B1.out.trans b1)
  clear h1 b1 H1 B1 G2 k0
  go_wp2_with fail
  refine (G3 _ H2.out).mono ?_
  rintro e w3 ⟨T, x, rfl, h1, b1⟩
  have H3 := Aside0.mk h1
  have B3 := Aside0.mk (B2.out.trans b1)
  have k1 := h1.k1
  clear h1 b1 H2 B2 G3
  go_wp2_with fail
  refine (G4 _ _ _ H3.out).mono ?_
  rintro e w' ⟨rfl, hw⟩
  subst w'
  go_wp2_with fail
  go_ret
  exact ⟨_, _, _, _, rfl, by decide, by decide, H3.out, B3.out⟩
end Go.Proofs.Ytodhnmflabehhaa
