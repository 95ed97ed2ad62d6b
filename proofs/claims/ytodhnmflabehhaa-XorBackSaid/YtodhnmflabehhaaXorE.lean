import Derived.Test.YtodhnmflabehhaaXorD
namespace Go.Proofs.Ytodhnmflabehhaa
open Go.RowKit Go.Proofs.YtodhnmflabehhaaW.PrintWords Go.Proofs.YtodhnmflabehhaaW.PrintLast Go.Proofs.YtodhnmflabehhaaW.PrintMore Hy

theorem at_some (n : Int) (T : TypeId) (x : Value) (w : World) :
    Calls Try.prog 23 #[.int .i64 n, .iface T x] w fun e w' => ∃ y : Nat, e = .returned (.iface 63 (.pointer (some ⟨y, 0, none⟩))) ∧ Below w.heap.size w w' :=
  (at_any n _ w ⟨_, _, rfl⟩).mono fun _ _ ⟨h1, h2⟩ => ⟨_, h1, by rw [h2]; exact (Below.refl _ _).alloc (Nat.le_refl _) _⟩
set_option maxHeartbeats 1000000 in
theorem xdiff_bad3 (B g r : Nat) (s : ByteArray) (a L S1 : Nat) (w : World) (hs : s.size ≤ 140737488351232) (hf : a + 13 ≤ 8 * s.size) (hd : ∃ R, (unp (bs s)).drop a = true :: R) (hL : val (((unp (bs s)).drop (a + 1)).take 6) = L) (hL6 : L < 64) (hS : val (((unp (bs s)).drop (a + 1 + 6)).take 6) = S1) (hS6 : S1 < 64) (hn : 64 < L + S1 + 1) (h : XAt B g r s a .nilIface w) :
    Calls Try.prog 21 #[.pointer (some ⟨r, 0, none⟩)] w (XBad B g r s w) := by
  obtain ⟨R, hd⟩ := hd
  have G1 := gets_is B g r s a (a + 1) 1 1 w hs (by decide) (by decide) rfl (by omega) (by rw [hd]; rfl) h
  have G2 := fun w => gets_is B g r s (a + 1) (a + 1 + 6) 6 (L : Int) w hs (by decide) (by decide) rfl (by omega) (by rw [show Int.toNat 6 = 6 from rfl, hL])
  have G3 := fun w => gets_is B g r s (a + 1 + 6) (a + 1 + 6 + 6) 6 (S1 : Int) w hs (by decide) (by decide) rfl (by omega) (by rw [show Int.toNat 6 = 6 from rfl, hS])
  have G4 := fun T x w => gets_err B g r s (a + 1 + 6 + 6) ((S1 : Int) + 1) T x w
  have AT := fun w h => rat_any B g s (a + 1) w h
  have hL2 : (L : Int) ≤ 63 := by omega
  have hS3 : (S1 : Int) ≤ 63 := by omega
  have ht4 : (64 : Int) - (L : Int) - ((S1 : Int) + 1) < 0 := by omega
  have ms : max ((64 : Int) - (L : Int) - ((S1 : Int) + 1)) 0 = 0 := by omega
  clear h hf hd hL hS
  go_enter Try.func21, Try.ntmps21
  go_wp2_with fail
  refine G1.mono ?_
  rintro e w1 ⟨rfl, h1, b1⟩
  have H1 := Aside0.mk h1
  have B1 := Aside0.mk b1
  have k0 := h1.k0
  clear h1 b1 G1
  go_wp2_with (go_at_call 25; refine (AT _ H1.out.1).mono ?_; rintro e w' ⟨rfl, hw⟩; subst w')
  refine (G2 _ H1.out).mono ?_
  rintro e w2 ⟨rfl, h1, b1⟩
  have H2 := Aside0.mk h1
  have B2 := Aside0.mk (B1.out.trans b1)
  clear h1 b1 H1 B1 G2 k0
  go_wp2_with fail
  refine (G3 _ H2.out).mono ?_
  rintro e w3 ⟨rfl, h1, b1⟩
  have H3 := Aside0.mk h1
  have B3 := Aside0.mk (B2.out.trans b1)
  have k1 := h1.k1
  clear h1 b1 H2 B2 G3
  go_wp2_with (go_at_call 23; refine (at_some _ _ _ _).mono ?_; rintro e wx ⟨y, rfl, hb⟩; have H4 := Aside0.mk (H3.out.below hb); have B4 := Aside0.mk (B3.out.next hb); have f1 := H4.out.f1; have q2 := H4.out.k1; clear hb k1 H3 B3)
  have H5 := Aside0.mk (H4.out.put (.iface 63 (.pointer (some ⟨y, 0, none⟩))))
  have B5 := Aside0.mk (B4.out.set (p := ⟨r, 1, none⟩) (.inr rfl) (.iface 63 (.pointer (some ⟨y, 0, none⟩))))
  clear H4 B4 f1 q2
  refine (G4 _ _ _ H5.out).mono ?_
  rintro e w' ⟨rfl, hw⟩
  subst w'
  have q1 := H5.out.k1
  go_wp2_with fail
  go_ret
  exact ⟨_, _, _, _, rfl, by decide, by decide, H5.out, B5.out⟩
set_option maxHeartbeats 1000000 in
theorem xdiff_bad4 (B g r : Nat) (s : ByteArray) (a f L S1 : Nat) (w : World) (hs : s.size ≤ 140737488351232) (hf : a + f = 8 * s.size) (hf13 : 13 ≤ f) (hd : ∃ R, (unp (bs s)).drop a = true :: R) (hL : val (((unp (bs s)).drop (a + 1)).take 6) = L) (hL6 : L < 64) (hS : val (((unp (bs s)).drop (a + 1 + 6)).take 6) = S1) (hS6 : S1 < 64) (hn : L + S1 + 1 ≤ 64) (hf2 : f < 13 + (S1 + 1)) (h : XAt B g r s a .nilIface w) :
    Calls Try.prog 21 #[.pointer (some ⟨r, 0, none⟩)] w (XBad B g r s w) := by
  obtain ⟨R, hd⟩ := hd
  obtain ⟨t, ht⟩ : ∃ t, 63 - L - S1 = t := ⟨_, rfl⟩
  have G1 := gets_is B g r s a (a + 1) 1 1 w hs (by decide) (by decide) rfl (by omega) (by rw [hd]; rfl) h
  have G2 := fun w => gets_is B g r s (a + 1) (a + 1 + 6) 6 (L : Int) w hs (by decide) (by decide) rfl (by omega) (by rw [show Int.toNat 6 = 6 from rfl, hL])
  have G3 := fun w => gets_is B g r s (a + 1 + 6) (a + 1 + 6 + 6) 6 (S1 : Int) w hs (by decide) (by decide) rfl (by omega) (by rw [show Int.toNat 6 = 6 from rfl, hS])
  have G4 := fun w => gets_short B g r s (a + 1 + 6 + 6) (f - 13) ((S1 : Int) + 1) w hs (by omega) (by omega) (by omega) (by omega)
  have AT := fun w h => rat_any B g s (a + 1) w h
  have hL2 : (L : Int) ≤ 63 := by omega
  have hS3 : (S1 : Int) ≤ 63 := by omega
  have ht4 : (64 : Int) - (L : Int) - ((S1 : Int) + 1) = (t : Int) := by omega
  have ht2 : (t : Int) ≤ 63 := by omega
  have ht3 : ¬ (t : Int) < 0 := by omega
  have ms : max (t : Int) 0 = (t : Int) := by omega
  clear h hf hd hL hS ht hf2
  go_enter Try.func21, Try.ntmps21
  go_wp2_with fail
  refine G1.mono ?_
  rintro e w1 ⟨rfl, h1, b1⟩
  have H1 := Aside0.mk h1
  have B1 := Aside0.mk b1
  have k0 := h1.k0
  clear h1 b1 G1
  go_wp2_with (go_at_call 25; refine (AT _ H1.out.1).mono ?_; rintro e w' ⟨rfl, hw⟩; subst w')
  refine (G2 _ H1.out).mono ?_
  rintro e w2 ⟨rfl, h1, b1⟩
  have H2 := Aside0.mk h1
  have B2 := Aside0.mk (B1.out.trans b1)
  clear h1 b1 H1 B1 G2 k0
  go_wp2_with fail
  refine (G3 _ H2.out).mono ?_
  rintro e w3 ⟨rfl, h1, b1⟩
  have H3 := Aside0.mk h1
  have B3 := Aside0.mk (B2.out.trans b1)
  have k1 := h1.k1
  clear h1 b1 H2 B2 G3
  go_wp2_with fail
  refine (G4 _ H3.out).mono ?_
  rintro e w4 ⟨T, x, rfl, h1, b1⟩
  have H4 := Aside0.mk h1
  have B4 := Aside0.mk (B3.out.trans b1)
  have q1 := h1.k1
  clear h1 b1 H3 B3 G4 k1
  go_wp2_with fail
  go_ret
  exact ⟨_, _, _, _, rfl, by decide, by decide, H4.out, B4.out⟩
/-- A count does not fit. -/
theorem xdiff_bad5 (B g r : Nat) (s : ByteArray) (a L S1 v x : Nat) (w : World) (hs : s.size ≤ 140737488351232) (hf13 : a + 13 + (S1 + 1) ≤ 8 * s.size) (hd : ∃ R, (unp (bs s)).drop a = true :: R) (hL : val (((unp (bs s)).drop (a + 1)).take 6) = L) (hL6 : L < 64) (hS : val (((unp (bs s)).drop (a + 1 + 6)).take 6) = S1) (hS6 : S1 < 64) (hn : L + S1 + 1 ≤ 64)
    (hv : val (((unp (bs s)).drop (a + 1 + 6 + 6)).take (S1 + 1)) = v) (hx : v * 2 ^ (63 - L - S1) = x) (hx64 : x < 18446744073709551616) (hne : lead x ≠ L ∨ trail x ≠ 63 - L - S1) (h : XAt B g r s a .nilIface w) :
    Calls Try.prog 21 #[.pointer (some ⟨r, 0, none⟩)] w (XBad B g r s w) := by
  obtain ⟨R, hd⟩ := hd
  obtain ⟨t, ht⟩ : ∃ t, 63 - L - S1 = t := ⟨_, rfl⟩
  rw [ht] at hx hne
  have A1 := fun w => lead_any x w hx64
  have A2 := fun w => trail_any x w hx64
  have G1 := gets_is B g r s a (a + 1) 1 1 w hs (by decide) (by decide) rfl (by omega) (by rw [hd]; rfl) h
  have G2 := fun w => gets_is B g r s (a + 1) (a + 1 + 6) 6 (L : Int) w hs (by decide) (by decide) rfl (by omega) (by rw [show Int.toNat 6 = 6 from rfl, hL])
  have G3 := fun w => gets_is B g r s (a + 1 + 6) (a + 1 + 6 + 6) 6 (S1 : Int) w hs (by decide) (by decide) rfl (by omega) (by rw [show Int.toNat 6 = 6 from rfl, hS])
  have G4 := fun w => gets_is B g r s (a + 1 + 6 + 6) (a + 13 + (S1 + 1)) ((S1 : Int) + 1) (v : Int) w hs (by omega) (by omega) (by omega) (by omega) (by rw [show ((S1 : Int) + 1).toNat = S1 + 1 by omega, hv])
  have AT := fun w h => rat_any B g s (a + 1) w h
  have f5 : IntKind.u64.wrap ((v : Int) * 2 ^ t) = (x : Int) := by rw [cast_shl, hx, wrap_u64]; omega
  have hL2 : (L : Int) ≤ 63 := by omega
  have hS3 : (S1 : Int) ≤ 63 := by omega
  have ht4 : (64 : Int) - (L : Int) - ((S1 : Int) + 1) = (t : Int) := by omega
  have ht2 : (t : Int) ≤ 63 := by omega
  have ht3 : ¬ (t : Int) < 0 := by omega
  have ms : max (t : Int) 0 = (t : Int) := by omega
  have X64 := Aside0.mk hx64
  generalize lead x = L' at *
  generalize trail x = t' at *
  by_cases hl : L' = L
  · have f6 : ((L' : Int) != (L : Int)) = false := by rw [bne_eq_false_iff_eq]; omega
    have f7 : ((t' : Int) != (t : Int)) = true := by rw [bne_iff_ne]; omega
    clear h hd hL hS ht hv hx hx64 hne hl
    go_enter Try.func21, Try.ntmps21
    go_wp2_with fail
    refine G1.mono ?_
    rintro e w1 ⟨rfl, h1, b1⟩
    have H1 := Aside0.mk h1
    have B1 := Aside0.mk b1
    have k0 := h1.k0
    clear h1 b1 G1
    go_wp2_with (go_at_call 25; refine (AT _ H1.out.1).mono ?_; rintro e w' ⟨rfl, hw⟩; subst w')
    refine (G2 _ H1.out).mono ?_
    rintro e w2 ⟨rfl, h1, b1⟩
    have H2 := Aside0.mk h1
    have B2 := Aside0.mk (B1.out.trans b1)
    clear h1 b1 H1 B1 G2 k0
    go_wp2_with fail
    refine (G3 _ H2.out).mono ?_
    rintro e w3 ⟨rfl, h1, b1⟩
    have H3 := Aside0.mk h1
    have B3 := Aside0.mk (B2.out.trans b1)
    have k1 := h1.k1
    clear h1 b1 H2 B2 G3
    go_wp2_with fail
    refine (G4 _ H3.out).mono ?_
    rintro e w4 ⟨rfl, h1, b1⟩
    have H4 := Aside0.mk h1
    have B4 := Aside0.mk (B3.out.trans b1)
    have q1 := h1.k1
    clear h1 b1 H3 B3 G4 k1
    go_wp2_with (first
      | (go_at_call 7; refine (A1 _).mono ?_; rintro e wd ⟨rfl, ⟨nd, rfl⟩⟩)
      | (go_at_call 8; refine (A2 _).mono ?_; rintro e wd ⟨rfl, ⟨nd, rfl⟩⟩)
      | (go_at_call 23; refine (at_some _ _ _ _).mono ?_; rintro e wx ⟨y, rfl, hb⟩; have H5 := Aside0.mk ((H4.out.drewN _).below hb); have B5 := Aside0.mk ((B4.out.drewN _).next hb); have f1 := H5.out.f1; have q2 := H5.out.k1; clear hb q1 H4 B4))
    go_ret
    exact ⟨_, _, _, _, rfl, by omega, by have := X64.out; omega, H5.out.put _, B5.out.set (.inr rfl) _⟩
  · have f6 : ((L' : Int) != (L : Int)) = true := by rw [bne_iff_ne]; omega
    clear h hd hL hS ht hv hx hx64 hne hl
    go_enter Try.func21, Try.ntmps21
    go_wp2_with fail
    refine G1.mono ?_
    rintro e w1 ⟨rfl, h1, b1⟩
    have H1 := Aside0.mk h1
    have B1 := Aside0.mk b1
    have k0 := h1.k0
    clear h1 b1 G1
    go_wp2_with (go_at_call 25; refine (AT _ H1.out.1).mono ?_; rintro e w' ⟨rfl, hw⟩; subst w')
    refine (G2 _ H1.out).mono ?_
    rintro e w2 ⟨rfl, h1, b1⟩
    have H2 := Aside0.mk h1
    have B2 := Aside0.mk (B1.out.trans b1)
    clear h1 b1 H1 B1 G2 k0
    go_wp2_with fail
    refine (G3 _ H2.out).mono ?_
    rintro e w3 ⟨rfl, h1, b1⟩
    have H3 := Aside0.mk h1
    have B3 := Aside0.mk (B2.out.trans b1)
    have k1 := h1.k1
    clear h1 b1 H2 B2 G3
    go_wp2_with fail
    refine (G4 _ H3.out).mono ?_
    rintro e w4 ⟨rfl, h1, b1⟩
    have H4 := Aside0.mk h1
    have B4 := Aside0.mk (B3.out.trans b1)
    have q1 := h1.k1
    clear h1 b1 H3 B3 G4 k1
    go_wp2_with (first
      | (go_at_call 7; refine (A1 _).mono ?_; rintro e wd ⟨rfl, ⟨nd, rfl⟩⟩)
      | (go_at_call 8; refine (A2 _).mono ?_; rintro e wd ⟨rfl, ⟨nd, rfl⟩⟩)
      | (go_at_call 23; refine (at_some _ _ _ _).mono ?_; rintro e wx ⟨y, rfl, hb⟩; have H5 := Aside0.mk ((H4.out.drewN _).below hb); have B5 := Aside0.mk ((B4.out.drewN _).next hb); have f1 := H5.out.f1; have q2 := H5.out.k1; clear hb q1 H4 B4))
    go_ret
    exact ⟨_, _, _, _, rfl, by omega, by have := X64.out; omega, H5.out.put _, B5.out.set (.inr rfl) _⟩
end Go.Proofs.Ytodhnmflabehhaa
