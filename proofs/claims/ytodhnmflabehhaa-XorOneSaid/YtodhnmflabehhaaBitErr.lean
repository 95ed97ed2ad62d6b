import Derived.Test.YtodhnmflabehhaaBitR
namespace Go.Proofs.Ytodhnmflabehhaa
open Go.RowKit Go.Proofs.YtodhnmflabehhaaW.PrintWords Go.Proofs.YtodhnmflabehhaaW.PrintLast Go.Proofs.YtodhnmflabehhaaW.PrintMore Hy

theorem IsW.drewN {T B g : Nat} {l : List Bool} {w : World} (h : IsW T B g l w) (m : Nat) : IsW T B g l (w.drewN m) := h
theorem RAt.drewN {B g : Nat} {s : ByteArray} {a : Nat} {w : World} (h : RAt B g s a w) (m : Nat) : RAt B g s a (w.drewN m) := h
theorem RAt.below {B g : Nat} {s : ByteArray} {a : Nat} {w w' : World} (h : RAt B g s a w) (hb : Below w.heap.size w w') : RAt B g s a w' := ⟨h.1, blk_below h.2 hb⟩
theorem left_is (B g : Nat) (s : ByteArray) (a f : Nat) (w : World) (hs : s.size ≤ 140737488351232) (hf : a + f = 8 * s.size) (h : RAt B g s a w) :
    Calls Try.prog 24 #[.pointer (some ⟨g, 0, none⟩)] w fun e w' => e = .returned (.int .i64 (f : Int)) ∧ ∃ m, w' = w.drewN m := by
  have := left_any B g s a w hs (by omega) h
  rw [show 8 * (s.size : Int) - (a : Int) = (f : Int) by omega] at this
  exact this
theorem rat_any (B g : Nat) (s : ByteArray) (a : Nat) (w : World) (h : RAt B g s a w) :
    Calls Try.prog 25 #[.pointer (some ⟨g, 0, none⟩)] w fun e w' => e = .returned (.int .i64 (a : Int)) ∧ w' = w := by
  have c1 := h.c1
  clear h
  go_enter Try.func25, Try.ntmps25
  go_wp2
  go_ret
  exact ⟨rfl, rfl⟩
/-- Too few bits: nothing is got. -/
theorem rget_short (B g : Nat) (s : ByteArray) (a f : Nat) (c : Int) (w : World) (hs : s.size ≤ 140737488351232) (hc0 : 0 ≤ c) (hc : c ≤ 64) (hf : a + f = 8 * s.size) (hfc : (f : Int) < c) (h : RAt B g s a w) :
    Calls Try.prog 15 #[.pointer (some ⟨g, 0, none⟩), .int .i64 c] w fun e w' => ∃ u E, e = .returned (.tuple #[.int .u64 0, u]) ∧ IsE w' E u ∧ E = .at_ (a : Int) (.code 1) ∧ RAt B g s a w' ∧ Below w.heap.size w w' := by
  have HB := Aside0.mk (Below.refl w.heap.size w)
  have HI := Aside0.mk h
  have c1 := h.c1
  have hL := left_is B g s a f w hs hf h
  clear h hf
  go_enter Try.func15, Try.ntmps15
  go_wp2_with (first
    | (go_at_call 24; refine hL.mono ?_; rintro e w1 ⟨rfl, m1, rfl⟩)
    | (go_at_call 23; refine (at_any _ _ _ ⟨_, _, rfl⟩).mono ?_; rintro e wx ⟨rfl, rfl⟩))
  go_ret2
  exact ⟨_, _, rfl, IsE.new (e := .code 1) rfl, rfl, (HI.out.drewN m1).below ((Below.refl _ _).alloc (Nat.le_refl _) _), (drewN_below HB.out _).alloc (Nat.le_refl _) _⟩
/-! ### what is left -/
theorem mask_u8 (c f : Nat) (hc : c < 256) (hf : f ≤ 7) : Go.bits .and .u8 (c : Int) ((2 ^ f - 1) % 256) = ((c % 2 ^ f : Nat) : Int) := by
  have h2 : (2 : Int) ^ f ≤ 128 ∧ 1 ≤ (2 : Int) ^ f := by
    rcases (by omega : f = 0 ∨ f = 1 ∨ f = 2 ∨ f = 3 ∨ f = 4 ∨ f = 5 ∨ f = 6 ∨ f = 7) with rfl | rfl | rfl | rfl | rfl | rfl | rfl | rfl <;> decide
  rw [Int.emod_eq_of_lt (by omega) (by omega)]
  rw [bits_mask .u8 8 (by decide) wraps_u8 f (by omega) (c : Int) (by omega) (by omega)]
  rw [Int.natCast_emod, Int.natCast_pow]; rfl
theorem rest_zero (L : List Nat) (hL : okB L) (a f c : Nat) (hf : a + f = 8 * L.length) (hf7 : f < 8) (hf0 : 0 < f) (hc : L[a / 8]? = some c) : (unp L).drop a = List.replicate f false ↔ c % 2 ^ f = 0 := by
  have hlen : ((unp L).drop a).length = f := by rw [List.length_drop, unp_length]; omega
  have hp := unp_piece L a f c hc (by omega)
  rw [List.take_of_length_le (by omega), show 8 - a % 8 - f = 0 by omega, Nat.pow_zero, Nat.div_one] at hp
  rw [hp]
  constructor
  · intro e
    have := congrArg val e
    rw [val_bitsOf, val_zeros] at this
    exact this
  · intro e
    apply val_inj
    · rw [bitsOf_length, List.length_replicate]
    · rw [val_bitsOf, val_zeros, e]
theorem rend_long (B g : Nat) (s : ByteArray) (a f : Nat) (w : World) (hs : s.size ≤ 140737488351232) (hf : a + f = 8 * s.size) (hf8 : 8 ≤ f) (h : RAt B g s a w) :
    Calls Try.prog 22 #[.pointer (some ⟨g, 0, none⟩)] w fun e w' => ∃ u E, e = .returned u ∧ IsE w' E u ∧ E ≠ .nil ∧ Below w.heap.size w w' := by
  have hL := left_is B g s a f w hs hf h
  have c1 := h.c1
  have h8 : (8 : Int) ≤ (f : Int) := by omega
  clear h hf
  go_enter Try.func22, Try.ntmps22
  go_wp2_with (first
    | (go_at_call 24; refine hL.mono ?_; rintro e w1 ⟨rfl, m1, rfl⟩)
    | (go_at_call 23; refine (at_any _ _ _ ⟨_, _, rfl⟩).mono ?_; rintro e wx ⟨rfl, rfl⟩))
  go_ret
  exact ⟨_, _, rfl, IsE.new (e := .code 2) rfl, by simp, (drewN_below (Below.refl _ w) _).alloc (Nat.le_refl _) _⟩
set_option maxHeartbeats 1000000 in
theorem rend_none (B g : Nat) (s : ByteArray) (a : Nat) (w : World) (hs : s.size ≤ 140737488351232) (hf : a = 8 * s.size) (h : RAt B g s a w) :
    Calls Try.prog 22 #[.pointer (some ⟨g, 0, none⟩)] w fun e w' => e = .returned .nilIface ∧ ∃ m, w' = w.drewN m := by
  have hL := left_is B g s a 0 w hs (by omega) h
  have HI := Aside0.mk h
  have c0 := h.c0
  have c1 := h.c1
  clear h
  have hf2 := Aside0.mk hf
  clear hf
  go_enter Try.func22, Try.ntmps22
  go_wp2_with (first
    | (go_at_call 24; refine hL.mono ?_; rintro e w1 ⟨rfl, m1, hw1⟩; have HW1 := Aside0.mk hw1; have HI1 : Aside0 (RAt B g s a w1) := ⟨by rw [hw1]; exact HI.out.drewN m1⟩; have k0 := HI1.out.c0; have k1 := HI1.out.c1; clear hw1 c0 c1))
  have hQ := fun m => left_is B g s a 0 (w1.drewN m) hs (by have := hf2.out; omega) (HI1.out.drewN m)
  go_quiet ((go_at_call 24; exact Calls.quiet_of (hQ _)))
  go_wp2_with fail
  go_ret
  exact ⟨rfl, m1 + _, by rw [HW1.out, World.drewN_drewN]⟩
theorem rend_bits (B g : Nat) (s : ByteArray) (a f c : Nat) (w : World) (hs : s.size ≤ 140737488351232) (hf : a + f = 8 * s.size) (hf0 : 0 < f) (hf8 : f < 8) (hc : (bs s)[a / 8]? = some c) (h : RAt B g s a w) :
    (c % 2 ^ f = 0 → Calls Try.prog 22 #[.pointer (some ⟨g, 0, none⟩)] w fun e w' => e = .returned .nilIface ∧ ∃ m, w' = w.drewN m) ∧
    (c % 2 ^ f ≠ 0 → Calls Try.prog 22 #[.pointer (some ⟨g, 0, none⟩)] w fun e w' => ∃ u E, e = .returned u ∧ IsE w' E u ∧ E ≠ .nil ∧ Below w.heap.size w w') := by
  have hp : a / 8 < s.size := by omega
  have hsc : s[a / 8].toNat = c := by rw [get_bs s (a / 8) hp, List.getD_eq_getElem?_getD, hc]; rfl
  have hc256 : c < 256 := by rw [← hsc]; exact UInt8.toNat_lt _
  have hm := mask_u8 c f hc256 (by omega)
  have hle : c % 2 ^ f ≤ c := Nat.mod_le _ _
  obtain ⟨z, hz⟩ : ∃ z, c % 2 ^ f = z := ⟨_, rfl⟩
  obtain ⟨p, hpp⟩ : ∃ p, a / 8 = p := ⟨_, rfl⟩
  rw [hz] at hm hle ⊢
  have hp2 : (a : Int) / 8 = (p : Int) := by omega
  have hps : p < s.size := by omega
  have hbyte : ((s[p].toNat : Nat) : Int) = (c : Int) := by subst hpp; rw [hsc]
  have HI := Aside0.mk h
  have c0 := h.c0
  have c1 := h.c1
  have hL0 := left_is B g s a f w hs hf h
  have h8 : ¬ (8 : Int) ≤ (f : Int) := by omega
  have hf1 : (0 : Int) < (f : Int) := by omega
  have hf7 : (f : Int) ≤ 7 := by omega
  have hz255 : (z : Int) ≤ 255 := by omega
  have hf := Aside0.mk hf
  clear h hz hc hpp hsc hp hc256
  constructor
  · intro hz0
    subst hz0
    go_enter Try.func22, Try.ntmps22
    go_wp2_with (first
      | (go_at_call 24; refine hL0.mono ?_; rintro e w1 ⟨rfl, m1, hw1⟩; have HW1 := Aside0.mk hw1; have HI1 : Aside0 (RAt B g s a w1) := ⟨by rw [hw1]; exact HI.out.drewN m1⟩; have k0 := HI1.out.c0; have k1 := HI1.out.c1; clear hw1 c0 c1))
    have hQ := fun m => left_is B g s a f (w1.drewN m) hs hf.out (HI1.out.drewN m)
    go_quiet ((go_at_call 24; exact Calls.quiet_of (hQ _)))
    go_wp2_with fail
    go_ret
    exact ⟨rfl, m1 + _, by rw [HW1.out, World.drewN_drewN]⟩
  · intro hz0
    have hz1 : (0 : Int) < (z : Int) := by omega
    clear hz0
    go_enter Try.func22, Try.ntmps22
    go_wp2_with (first
      | (go_at_call 24; refine hL0.mono ?_; rintro e w1 ⟨rfl, m1, hw1⟩; have HW1 := Aside0.mk hw1; have HI1 : Aside0 (RAt B g s a w1) := ⟨by rw [hw1]; exact HI.out.drewN m1⟩; have k0 := HI1.out.c0; have k1 := HI1.out.c1; clear hw1 c0 c1))
    have hQ := fun m => left_is B g s a f (w1.drewN m) hs hf.out (HI1.out.drewN m)
    go_quiet ((go_at_call 24; exact Calls.quiet_of (hQ _)))
    go_wp2_with (first
      | (go_at_call 23; refine (at_any _ _ _ ⟨_, _, rfl⟩).mono ?_; rintro e wx ⟨rfl, rfl⟩))
    go_ret
    exact ⟨_, _, rfl, IsE.new (e := .code 3) rfl, by simp, (show Below w.heap.size w _ by rw [HW1.out]; exact (drewN_below (drewN_below (Below.refl _ w) _) _).alloc (Nat.le_refl _) _)⟩
theorem rend_ok (B g : Nat) (s : ByteArray) (a f : Nat) (w : World) (hs : s.size ≤ 140737488351232) (hf : a + f = 8 * s.size) (hf8 : f < 8) (hz : (unp (bs s)).drop a = List.replicate f false) (h : RAt B g s a w) :
    Calls Try.prog 22 #[.pointer (some ⟨g, 0, none⟩)] w fun e w' => e = .returned .nilIface ∧ ∃ m, w' = w.drewN m := by
  by_cases h0 : f = 0
  · exact rend_none B g s a w hs (by omega) h
  · have hp : a / 8 < (bs s).length := by rw [bs_length]; omega
    have hc := List.getElem?_eq_getElem hp
    exact (rend_bits B g s a f _ w hs hf (by omega) hf8 hc h).1 ((rest_zero (bs s) (bs_ok s) a f _ (by rw [bs_length]; exact hf) hf8 (by omega) hc).1 hz)
theorem rend_bad (B g : Nat) (s : ByteArray) (a f : Nat) (w : World) (hs : s.size ≤ 140737488351232) (hf : a + f = 8 * s.size) (hz : ∀ k, k < 8 → (unp (bs s)).drop a ≠ List.replicate k false) (h : RAt B g s a w) :
    Calls Try.prog 22 #[.pointer (some ⟨g, 0, none⟩)] w fun e w' => ∃ u E, e = .returned u ∧ IsE w' E u ∧ E ≠ .nil ∧ Below w.heap.size w w' := by
  have hlen : ((unp (bs s)).drop a).length = f := by rw [List.length_drop, unp_length, bs_length]; omega
  by_cases h8 : f < 8
  · by_cases h0 : f = 0
    · exact absurd (List.eq_nil_of_length_eq_zero (by omega)) (hz 0 (by omega))
    · have hp : a / 8 < (bs s).length := by rw [bs_length]; omega
      have hc := List.getElem?_eq_getElem hp
      exact (rend_bits B g s a f _ w hs hf (by omega) h8 hc h).2 (fun e => hz f h8 ((rest_zero (bs s) (bs_ok s) a f _ (by rw [bs_length]; exact hf) h8 (by omega) hc).2 e))
  · exact rend_long B g s a f w hs hf (by omega) h
end Go.Proofs.Ytodhnmflabehhaa
