import Derived.Test.YtodhnmflabehhaaDoorMkztwohdw
import Derived.Test.YtodhnmflabehhaaDoorWLast
import Derived.Test.YtodhnmflabehhaaDoorWMore
import Derived.WalkKit
import Derived.Below
import Derived.Test.YtodhnmflabehhaaDoorPXorPutsx
import Derived.Deep.RegionHeld3
import Derived.Test.YtodhnmflabehhaaDoorProg
import Derived.LaidEql
import Derived.Stop.Asserts
import Derived.RowKitTokens
import Derived.Deep.LoopGhost
namespace Go.Proofs.YtodhnmflabehhaaDoor
open Go.RowKit Go.Proofs.YtodhnmflabehhaaDoorW.PrintWords Go.Proofs.YtodhnmflabehhaaDoorW.PrintLast Go.Proofs.YtodhnmflabehhaaDoorW.PrintMore Hy

theorem IsW.below {T B g : Nat} {l : List Bool} {w w' : World} (h : IsW T B g l w) (hb : Below w.heap.size w w') : IsW T B g l w' := by
  obtain ⟨v, h1, h2, h3⟩ := h
  exact ⟨v, h1, blk_below h2 hb, own_move h3 (fun k hk => hb.block k (own_lt h3 k hk))⟩
theorem IsW.new (T : Nat) (w : World) : IsW T w.heap.size w.heap.size [] (w.alloc (.cells #[.slice none 0 0, .int .i64 0] T)) :=
  ⟨.slice none 0 0, Nat.le_refl _, heap_alloc_new w _, by rw [pk_nil]; exact own_nil _ _ _ _⟩
theorem RAt.low {B B' g : Nat} {s : ByteArray} {a : Nat} {w : World} (h : RAt B g s a w) (hb : B' ≤ B) : RAt B' g s a w := ⟨Nat.le_trans hb h.1, h.2⟩
theorem wstring_any (T : TypeId) (B g : Nat) (l : List Bool) (w : World) (h : IsW T B g l w) :
    Calls Tryd.prog 18 #[.pointer (some ⟨g, 0, none⟩)] w fun e w' => e = .returned (.string (st (pk l))) ∧ w' = w := by
  obtain ⟨v, hv⟩ := h
  have c0 := hv.c0
  have hcv := own_string (P := Tryd.prog) Tryd.underlying25 Tryd.underlying5 Tryd.underlying9 hv.2.2
  have hst : strOfNums (ints (pk l)) = st (pk l) := strOfNums_eq _
  rw [hst] at hcv
  clear hv hst
  go_enter Tryd.func18, Tryd.ntmps18
  go_wp2
  go_ret
  exact ⟨rfl, rfl⟩
theorem wlen_any (T : TypeId) (B g : Nat) (l : List Bool) (w : World) (h : IsW T B g l w) :
    Calls Tryd.prog 13 #[.pointer (some ⟨g, 0, none⟩)] w fun e w' => e = .returned (.int .i64 (l.length : Int)) ∧ w' = w := by
  obtain ⟨v, hv⟩ := h
  have c1 := hv.c1
  clear hv
  go_enter Tryd.func13, Tryd.ntmps13
  go_wp2
  go_ret
  exact ⟨rfl, rfl⟩
theorem newReader_any (s : ByteArray) (w : World) :
    Calls Tryd.prog 20 #[.string s] w fun e w' => ∃ g, e = .returned (.pointer (some ⟨g, 0, none⟩)) ∧ RAt w.heap.size g s 0 w' ∧ Below w.heap.size w w' := by
  have HB := Aside0.mk (Below.refl w.heap.size w)
  go_enter Tryd.func20, Tryd.ntmps20
  go_wp2
  go_ret
  exact ⟨w.heap.size, rfl, ⟨Nat.le_refl _, heap_alloc_new w _⟩, HB.out.alloc (Nat.le_refl _) _⟩
end Go.Proofs.YtodhnmflabehhaaDoor
namespace Go.Proofs.YtodhnmflabehhaaDoor
open Go.RowKit Go.Proofs.YtodhnmflabehhaaDoorW.PrintWords Go.Proofs.YtodhnmflabehhaaDoorW.PrintLast Go.Proofs.YtodhnmflabehhaaDoorW.PrintMore Hy

theorem IsW.drewN {T B g : Nat} {l : List Bool} {w : World} (h : IsW T B g l w) (m : Nat) : IsW T B g l (w.drewN m) := h
theorem RAt.drewN {B g : Nat} {s : ByteArray} {a : Nat} {w : World} (h : RAt B g s a w) (m : Nat) : RAt B g s a (w.drewN m) := h
theorem RAt.below {B g : Nat} {s : ByteArray} {a : Nat} {w w' : World} (h : RAt B g s a w) (hb : Below w.heap.size w w') : RAt B g s a w' := ⟨h.1, blk_below h.2 hb⟩
theorem left_is (B g : Nat) (s : ByteArray) (a f : Nat) (w : World) (hs : s.size ≤ 140737488351232) (hf : a + f = 8 * s.size) (h : RAt B g s a w) :
    Calls Tryd.prog 36 #[.pointer (some ⟨g, 0, none⟩)] w fun e w' => e = .returned (.int .i64 (f : Int)) ∧ ∃ m, w' = w.drewN m := by
  have := left_any B g s a w hs (by omega) h
  rw [show 8 * (s.size : Int) - (a : Int) = (f : Int) by omega] at this
  exact this
theorem rat_any (B g : Nat) (s : ByteArray) (a : Nat) (w : World) (h : RAt B g s a w) :
    Calls Tryd.prog 22 #[.pointer (some ⟨g, 0, none⟩)] w fun e w' => e = .returned (.int .i64 (a : Int)) ∧ w' = w := by
  have c1 := h.c1
  clear h
  go_enter Tryd.func22, Tryd.ntmps22
  go_wp2
  go_ret
  exact ⟨rfl, rfl⟩
/-- Too few bits: nothing is got. -/
theorem rget_short (B g : Nat) (s : ByteArray) (a f : Nat) (c : Int) (w : World) (hs : s.size ≤ 140737488351232) (hc0 : 0 ≤ c) (hc : c ≤ 64) (hf : a + f = 8 * s.size) (hfc : (f : Int) < c) (h : RAt B g s a w) :
    Calls Tryd.prog 21 #[.pointer (some ⟨g, 0, none⟩), .int .i64 c] w fun e w' => ∃ u E, e = .returned (.tuple #[.int .u64 0, u]) ∧ IsE w' E u ∧ E = .at_ (a : Int) (.code 1) ∧ RAt B g s a w' ∧ Below w.heap.size w w' := by
  have HB := Aside0.mk (Below.refl w.heap.size w)
  have HI := Aside0.mk h
  have c1 := h.c1
  have hL := left_is B g s a f w hs hf h
  clear h hf
  go_enter Tryd.func21, Tryd.ntmps21
  go_wp2_with (first
    | (go_at_call 36; refine hL.mono ?_; rintro e w1 ⟨rfl, m1, rfl⟩)
    | (go_at_call 34; refine (at_any _ _ _ ⟨_, _, rfl⟩).mono ?_; rintro e wx ⟨rfl, rfl⟩))
  go_ret2
  exact ⟨_, _, rfl, IsE.new (e := .code 1) rfl, rfl, (HI.out.drewN m1).below ((Below.refl _ _).alloc (Nat.le_refl _) _), (drewN_below HB.out _).alloc (Nat.le_refl _) _⟩
/-! ### what is left -/
theorem mask_u8 (c f : Nat) (hc : c < 256) (hf : f ≤ 7) : Go.bits .and .u8 (c : Int) ((2 ^ f - 1) % 256) = ((c % 2 ^ f : Nat) : Int) := by
  have h2 : (2 : Int) ^ f ≤ 128 ∧ 1 ≤ (2 : Int) ^ f := by
    rcases (by omega : f = 0 ∨ f = 1 ∨ f = 2 ∨ f = 3 ∨ f = 4 ∨ f = 5 ∨ f = 6 ∨ f = 7) with rfl | rfl | rfl | rfl | rfl | rfl | rfl | rfl <;> decide
  rw [Int.emod_eq_of_lt (by omega) (by omega)]
  rw [bits_mask .u8 8 (by decide) wraps_u8 f (by omega) (c : Int) (by omega) (by omega)]
  rw [Int.natCast_emod, Int.natCast_pow]; rfl
theorem rest_zero (L : List Nat) (hL : okB L) (a f c : Nat) (hf : a + f = 8 * L.length) (hf7 : f < 8) (hf0 : 0 < f) (hc : L[a / 8]? = some c) : (unp L).drop a = List.replicate f false ↔ c % 2 ^ f = 0 := by
  have hlen : ((unp L).drop a).length = f := by rw [List.length_drop, unp_length]; omega
  have hp := unp_piece L a f c hc (by omega)
  rw [List.take_of_length_le (by omega), show 8 - a % 8 - f = 0 by omega, Nat.pow_zero, Nat.div_one] at hp
  rw [hp]
  constructor
  · intro e
    have := congrArg val e
    rw [val_bitsOf, val_zeros] at this
    exact this
  · intro e
    apply val_inj
    · rw [bitsOf_length, List.length_replicate]
    · rw [val_bitsOf, val_zeros, e]
theorem rend_long (B g : Nat) (s : ByteArray) (a f : Nat) (w : World) (hs : s.size ≤ 140737488351232) (hf : a + f = 8 * s.size) (hf8 : 8 ≤ f) (h : RAt B g s a w) :
    Calls Tryd.prog 23 #[.pointer (some ⟨g, 0, none⟩)] w fun e w' => ∃ u E, e = .returned u ∧ IsE w' E u ∧ E ≠ .nil ∧ Below w.heap.size w w' := by
  have hL := left_is B g s a f w hs hf h
  have c1 := h.c1
  have h8 : (8 : Int) ≤ (f : Int) := by omega
  clear h hf
  go_enter Tryd.func23, Tryd.ntmps23
  go_wp2_with (first
    | (go_at_call 36; refine hL.mono ?_; rintro e w1 ⟨rfl, m1, rfl⟩)
    | (go_at_call 34; refine (at_any _ _ _ ⟨_, _, rfl⟩).mono ?_; rintro e wx ⟨rfl, rfl⟩))
  go_ret
  exact ⟨_, _, rfl, IsE.new (e := .code 2) rfl, by simp, (drewN_below (Below.refl _ w) _).alloc (Nat.le_refl _) _⟩
set_option maxHeartbeats 1000000 in
theorem rend_none (B g : Nat) (s : ByteArray) (a : Nat) (w : World) (hs : s.size ≤ 140737488351232) (hf : a = 8 * s.size) (h : RAt B g s a w) :
    Calls Tryd.prog 23 #[.pointer (some ⟨g, 0, none⟩)] w fun e w' => e = .returned .nilIface ∧ ∃ m, w' = w.drewN m := by
  have hL := left_is B g s a 0 w hs (by omega) h
  have HI := Aside0.mk h
  have c0 := h.c0
  have c1 := h.c1
  clear h
  have hf2 := Aside0.mk hf
  clear hf
  go_enter Tryd.func23, Tryd.ntmps23
  go_wp2_with (first
    | (go_at_call 36; refine hL.mono ?_; rintro e w1 ⟨rfl, m1, hw1⟩; have HW1 := Aside0.mk hw1; have HI1 : Aside0 (RAt B g s a w1) := ⟨by rw [hw1]; exact HI.out.drewN m1⟩; have k0 := HI1.out.c0; have k1 := HI1.out.c1; clear hw1 c0 c1))
  have hQ := fun m => left_is B g s a 0 (w1.drewN m) hs (by have := hf2.out; omega) (HI1.out.drewN m)
  go_quiet ((go_at_call 36; exact Calls.quiet_of (hQ _)))
  go_wp2_with fail
  go_ret
  exact ⟨rfl, m1 + _, by rw [HW1.out, World.drewN_drewN]⟩
theorem rend_bits (B g : Nat) (s : ByteArray) (a f c : Nat) (w : World) (hs : s.size ≤ 140737488351232) (hf : a + f = 8 * s.size) (hf0 : 0 < f) (hf8 : f < 8) (hc : (bs s)[a / 8]? = some c) (h : RAt B g s a w) :
    (c % 2 ^ f = 0 → Calls Tryd.prog 23 #[.pointer (some ⟨g, 0, none⟩)] w fun e w' => e = .returned .nilIface ∧ ∃ m, w' = w.drewN m) ∧
    (c % 2 ^ f ≠ 0 → Calls Tryd.prog 23 #[.pointer (some ⟨g, 0, none⟩)] w fun e w' => ∃ u E, e = .returned u ∧ IsE w' E u ∧ E ≠ .nil ∧ Below w.heap.size w w') := by
  have hp : a / 8 < s.size := by omega
  have hsc : s[a / 8].toNat = c := by rw [get_bs s (a / 8) hp, List.getD_eq_getElem?_getD, hc]; rfl
  have hc256 : c < 256 := by rw [← hsc]; exact UInt8.toNat_lt _
  have hm := mask_u8 c f hc256 (by omega)
  have hle : c % 2 ^ f ≤ c := Nat.mod_le _ _
  obtain ⟨z, hz⟩ : ∃ z, c % 2 ^ f = z := ⟨_, rfl⟩
  obtain ⟨p, hpp⟩ : ∃ p, a / 8 = p := ⟨_, rfl⟩
  rw [hz] at hm hle ⊢
  have hp2 : (a : Int) / 8 = (p : Int) := by omega
  have hps : p < s.size := by omega
  have hbyte : ((s[p].toNat : Nat) : Int) = (c : Int) := by subst hpp; rw [hsc]
  have HI := Aside0.mk h
  have c0 := h.c0
  have c1 := h.c1
  have hL0 := left_is B g s a f w hs hf h
  have h8 : ¬ (8 : Int) ≤ (f : Int) := by omega
  have hf1 : (0 : Int) < (f : Int) := by omega
  have hf7 : (f : Int) ≤ 7 := by omega
  have hz255 : (z : Int) ≤ 255 := by omega
  have hf := Aside0.mk hf
  clear h hz hc hpp hsc hp hc256
  constructor
  · intro hz0
    subst hz0
    go_enter Tryd.func23, Tryd.ntmps23
    go_wp2_with (first
      | (go_at_call 36; refine hL0.mono ?_; rintro e w1 ⟨rfl, m1, hw1⟩; have HW1 := Aside0.mk hw1; have HI1 : Aside0 (RAt B g s a w1) := ⟨by rw [hw1]; exact HI.out.drewN m1⟩; have k0 := HI1.out.c0; have k1 := HI1.out.c1; clear hw1 c0 c1))
    have hQ := fun m => left_is B g s a f (w1.drewN m) hs hf.out (HI1.out.drewN m)
    go_quiet ((go_at_call 36; exact Calls.quiet_of (hQ _)))
    go_wp2_with fail
    go_ret
    exact ⟨rfl, m1 + _, by rw [HW1.out, World.drewN_drewN]⟩
  · intro hz0
    have hz1 : (0 : Int) < (z : Int) := by omega
    clear hz0
    go_enter Tryd.func23, Tryd.ntmps23
    go_wp2_with (first
      | (go_at_call 36; refine hL0.mono ?_; rintro e w1 ⟨rfl, m1, hw1⟩; have HW1 := Aside0.mk hw1; have HI1 : Aside0 (RAt B g s a w1) := ⟨by rw [hw1]; exact HI.out.drewN m1⟩; have k0 := HI1.out.c0; have k1 := HI1.out.c1; clear hw1 c0 c1))
    have hQ := fun m => left_is B g s a f (w1.drewN m) hs hf.out (HI1.out.drewN m)
    go_quiet ((go_at_call 36; exact Calls.quiet_of (hQ _)))
    go_wp2_with (first
      | (go_at_call 34; refine (at_any _ _ _ ⟨_, _, rfl⟩).mono ?_; rintro e wx ⟨rfl, rfl⟩))
    go_ret
    exact ⟨_, _, rfl, IsE.new (e := .code 3) rfl, by simp, (show Below w.heap.size w _ by rw [HW1.out]; exact (drewN_below (drewN_below (Below.refl _ w) _) _).alloc (Nat.le_refl _) _)⟩
theorem rend_ok (B g : Nat) (s : ByteArray) (a f : Nat) (w : World) (hs : s.size ≤ 140737488351232) (hf : a + f = 8 * s.size) (hf8 : f < 8) (hz : (unp (bs s)).drop a = List.replicate f false) (h : RAt B g s a w) :
    Calls Tryd.prog 23 #[.pointer (some ⟨g, 0, none⟩)] w fun e w' => e = .returned .nilIface ∧ ∃ m, w' = w.drewN m := by
  by_cases h0 : f = 0
  · exact rend_none B g s a w hs (by omega) h
  · have hp : a / 8 < (bs s).length := by rw [bs_length]; omega
    have hc := List.getElem?_eq_getElem hp
    exact (rend_bits B g s a f _ w hs hf (by omega) hf8 hc h).1 ((rest_zero (bs s) (bs_ok s) a f _ (by rw [bs_length]; exact hf) hf8 (by omega) hc).1 hz)
theorem rend_bad (B g : Nat) (s : ByteArray) (a f : Nat) (w : World) (hs : s.size ≤ 140737488351232) (hf : a + f = 8 * s.size) (hz : ∀ k, k < 8 → (unp (bs s)).drop a ≠ List.replicate k false) (h : RAt B g s a w) :
    Calls Tryd.prog 23 #[.pointer (some ⟨g, 0, none⟩)] w fun e w' => ∃ u E, e = .returned u ∧ IsE w' E u ∧ E ≠ .nil ∧ Below w.heap.size w w' := by
  have hlen : ((unp (bs s)).drop a).length = f := by rw [List.length_drop, unp_length, bs_length]; omega
  by_cases h8 : f < 8
  · by_cases h0 : f = 0
    · exact absurd (List.eq_nil_of_length_eq_zero (by omega)) (hz 0 (by omega))
    · have hp : a / 8 < (bs s).length := by rw [bs_length]; omega
      have hc := List.getElem?_eq_getElem hp
      exact (rend_bits B g s a f _ w hs hf (by omega) h8 hc h).2 (fun e => hz f h8 ((rest_zero (bs s) (bs_ok s) a f _ (by rw [bs_length]; exact hf) h8 (by omega) hc).2 e))
  · exact rend_long B g s a f w hs hf (by omega) h
end Go.Proofs.YtodhnmflabehhaaDoor
namespace Go.Proofs.YtodhnmflabehhaaDoor
open Go.RowKit Go.Proofs.YtodhnmflabehhaaDoorW.PrintWords Go.Proofs.YtodhnmflabehhaaDoorW.PrintLast Go.Proofs.YtodhnmflabehhaaDoorW.PrintMore Hy

/-- A column's reader of the call's own: where it stands, and its error. -/
def XAt (B g r : Nat) (s : ByteArray) (a : Nat) (ev : Value) (w : World) : Prop := RAt B g s a w ∧ B ≤ r ∧ r ≠ g ∧ w.heap[r]? = some (.cells #[.pointer (some ⟨g, 0, none⟩), ev] 89 (0, 0))
theorem XAt.k0 {B g r s a ev w} (h : XAt B g r s a ev w) : w.cell? ⟨r, 0, none⟩ = some (.pointer (some ⟨g, 0, none⟩)) := by rw [blk_cell h.2.2.2]; rfl
theorem XAt.k1 {B g r s a ev w} (h : XAt B g r s a ev w) : w.cell? ⟨r, 1, none⟩ = some ev := by rw [blk_cell h.2.2.2]; rfl
theorem XAt.f1 {B g r s a ev w} (h : XAt B g r s a ev w) : w.frozen? ⟨r, 1, none⟩ = false := blk_frozen h.2.2.2 1
theorem XAt.put {B g r s a ev w} (h : XAt B g r s a ev w) (ev' : Value) : XAt B g r s a ev' (w.setCell ⟨r, 1, none⟩ ev') :=
  ⟨⟨h.1.1, by rw [blk_far h.1.2 (by exact Ne.symm h.2.2.1)]⟩, h.2.1, h.2.2.1, by rw [blk_set h.2.2.2]; rfl⟩
theorem XAt.below {B g r s a ev} {w w' : World} (h : XAt B g r s a ev w) (hb : Below w.heap.size w w') : XAt B g r s a ev w' := ⟨h.1.below hb, h.2.1, h.2.2.1, blk_below h.2.2.2 hb⟩
theorem XAt.drew {B g r s a ev} {w : World} (h : XAt B g r s a ev w) : XAt B g r s a ev w.drew := h
theorem XAt.drewN {B g r s a ev} {w : World} (h : XAt B g r s a ev w) (m : Nat) : XAt B g r s a ev (w.drewN m) := h
def GR (g r : Nat) (k : Nat) : Prop := k = g ∨ k = r
theorem XAt.get {B g r s a a' ev} {w w1 : World} (h : XAt B g r s a ev w) (hr : RAt B g s a' w1) (hk : Kp (· = g) w w1) : XAt B g r s a' ev w1 := ⟨hr, h.2.1, h.2.2.1, hk.obj h.2.2.2 h.2.2.1⟩
theorem XAt.B {B g r s a ev} {w : World} (h : XAt B g r s a ev w) : B ≤ w.heap.size := Nat.le_trans h.1.1 (Nat.le_of_lt (blk_lt h.1.2))
theorem XAt.grown {B g r s a ev} {w w1 : World} {row : Option Nat} (h : XAt B g r s a ev w) (hg : w.grownBy w1 row) (hn : ∀ k, row = some k → ¬ GR g r k) : XAt B g r s a ev w1 :=
  ⟨⟨h.1.1, blk_grown h.1.2 hg (fun e => hn g e.symm (.inl rfl))⟩, h.2.1, h.2.2.1, blk_grown h.2.2.2 hg (fun e => hn r e.symm (.inr rfl))⟩
theorem gets_ok (B g r : Nat) (s : ByteArray) (a : Nat) (c : Int) (w : World) (hs : s.size ≤ 140737488351232) (hc0 : 0 ≤ c) (hc : c ≤ 64) (ha : a + c.toNat ≤ 8 * s.size) (h : XAt B g r s a .nilIface w) :
    Calls Tryd.prog 39 #[.pointer (some ⟨r, 0, none⟩), .int .i64 c] w fun e w' => e = .returned (.int .u64 ((val (((unp (bs s)).drop a).take c.toNat) : Nat) : Int)) ∧ XAt B g r s (a + c.toNat) .nilIface w' ∧ Kp (GR g r) w w' := by
  obtain ⟨c, rfl⟩ := Int.eq_ofNat_of_zero_le hc0
  rw [Int.toNat_natCast] at *
  have H := rget_ok B g s a c w hs (by omega) ha h.B h.1
  obtain ⟨v, hv⟩ : ∃ v, val (((unp (bs s)).drop a).take c) = v := ⟨_, rfl⟩
  rw [hv] at H ⊢
  have HI := Aside0.mk h
  have k0 := h.k0
  have k1 := h.k1
  clear h hv ha
  go_enter Tryd.func39, Tryd.ntmps39
  go_wp2_with (first
    | (go_at_call 21; refine H.mono ?_; rintro e w1 ⟨rfl, h1, h2⟩; have HI1 := Aside0.mk (HI.out.get h1 h2); have HK := Aside0.mk h2; have f1 := HI1.out.f1; have q1 := HI1.out.k1; clear h1 h2 k0 k1))
  go_ret
  exact ⟨rfl, HI1.out.put _, (HK.out.mono (fun k hk => .inl hk)).set (.inr rfl) _⟩
theorem gets_short (B g r : Nat) (s : ByteArray) (a f : Nat) (c : Int) (w : World) (hs : s.size ≤ 140737488351232) (hc0 : 0 ≤ c) (hc : c ≤ 64) (hf : a + f = 8 * s.size) (hfc : (f : Int) < c) (h : XAt B g r s a .nilIface w) :
    Calls Tryd.prog 39 #[.pointer (some ⟨r, 0, none⟩), .int .i64 c] w fun e w' => ∃ T x, e = .returned (.int .u64 0) ∧ XAt B g r s a (.iface T x) w' ∧ Kp (GR g r) w w' := by
  have H := rget_short B g s a f c w hs hc0 hc hf hfc h.1
  have HI := Aside0.mk h
  have k0 := h.k0
  have k1 := h.k1
  clear h hf
  go_enter Tryd.func39, Tryd.ntmps39
  go_wp2_with (first
    | (go_at_call 21; refine H.mono ?_; rintro e w1 ⟨u, E, rfl, hu, hE, h1, h2⟩; obtain ⟨uT, ux, rfl⟩ := hu.iface (by rw [hE]; simp); have HI1 := Aside0.mk (HI.out.below h2); have HK := Aside0.mk h2; have f1 := HI1.out.f1; have q1 := HI1.out.k1; clear h1 h2 k0 k1 hu hE))
  go_ret
  exact ⟨_, _, rfl, HI1.out.put _, (Kp.ofBelow HK.out).set (.inr rfl) _⟩
theorem gets_err (B g r : Nat) (s : ByteArray) (a : Nat) (c : Int) (T : TypeId) (x : Value) (w : World) (h : XAt B g r s a (.iface T x) w) :
    Calls Tryd.prog 39 #[.pointer (some ⟨r, 0, none⟩), .int .i64 c] w fun e w' => e = .returned (.int .u64 0) ∧ w' = w := by
  have k1 := h.k1
  clear h
  go_enter Tryd.func39, Tryd.ntmps39
  go_wp2_with fail
  go_ret
  exact ⟨rfl, rfl⟩
end Go.Proofs.YtodhnmflabehhaaDoor
namespace Go.Proofs.YtodhnmflabehhaaDoor
open Go.RowKit Go.Proofs.YtodhnmflabehhaaDoorW.PrintWords Go.Proofs.YtodhnmflabehhaaDoorW.PrintLast Go.Proofs.YtodhnmflabehhaaDoorW.PrintMore Hy

theorem gets_is (B g r : Nat) (s : ByteArray) (a a' : Nat) (c v : Int) (w : World) (hs : s.size ≤ 140737488351232) (hc0 : 0 ≤ c) (hc : c ≤ 64) (ha : a + c.toNat = a') (ha' : a' ≤ 8 * s.size) (hv : ((val (((unp (bs s)).drop a).take c.toNat) : Nat) : Int) = v) (h : XAt B g r s a .nilIface w) :
    Calls Tryd.prog 39 #[.pointer (some ⟨r, 0, none⟩), .int .i64 c] w fun e w' => e = .returned (.int .u64 v) ∧ XAt B g r s a' .nilIface w' ∧ Kp (GR g r) w w' := by
  have := gets_ok B g r s a c w hs hc0 hc (by omega) h
  rw [hv, ha] at this
  exact this
theorem xdiff_zero (B g r : Nat) (s : ByteArray) (a : Nat) (R : List Bool) (w : World) (hs : s.size ≤ 140737488351232) (hd : (unp (bs s)).drop a = false :: R) (h : XAt B g r s a .nilIface w) :
    Calls Tryd.prog 40 #[.pointer (some ⟨r, 0, none⟩)] w fun e w' => e = .returned (.int .u64 0) ∧ XAt B g r s (a + 1) .nilIface w' ∧ Kp (GR g r) w w' := by
  have hl := congrArg List.length hd
  rw [List.length_drop, unp_length, bs_length, List.length_cons] at hl
  have G1 := gets_is B g r s a (a + 1) 1 0 w hs (by decide) (by decide) rfl (by omega) (by rw [hd]; rfl) h
  clear hd hl h
  go_enter Tryd.func40, Tryd.ntmps40
  go_wp2_with (go_at_call 39; refine G1.mono ?_; rintro e w1 ⟨rfl, h1, h2⟩; have H1 := Aside0.mk h1; have H2 := Aside0.mk h2; clear h1 h2)
  go_ret
  exact ⟨rfl, H1.out, H2.out⟩
set_option maxHeartbeats 2000000 in
theorem xdiff_some (B g r : Nat) (s : ByteArray) (a x : Nat) (R : List Bool) (w : World) (hs : s.size ≤ 140737488351232) (hx0 : x ≠ 0) (hx : x < 18446744073709551616) (hd : (unp (bs s)).drop a = encD x ++ R) (h : XAt B g r s a .nilIface w) :
    Calls Tryd.prog 40 #[.pointer (some ⟨r, 0, none⟩)] w fun e w' => e = .returned (.int .u64 (x : Int)) ∧ XAt B g r s (a + (encD x).length) .nilIface w' ∧ Kp (GR g r) w w' := by
  have hl := congrArg List.length hd
  rw [List.length_drop, unp_length, bs_length, List.length_append] at hl
  obtain ⟨s1, _, _, s4⟩ := ends_says x hx0 hx
  have z := size_lt x hx0 hx
  have A1 := fun w => lead_any x w hx
  have A2 := fun w => trail_any x w hx
  have he : encD x = true :: (bitsOf (lead x) 6 ++ (bitsOf (63 - lead x - trail x) 6 ++ bitsOf (x / 2 ^ trail x) (64 - lead x - trail x))) := by unfold encD; rw [if_neg hx0]
  have hel : (encD x).length = 13 + (64 - lead x - trail x) := by rw [he]; simp only [List.length_cons, List.length_append, bitsOf_length]; omega
  rw [he] at hd
  have HI := Aside0.mk h
  rw [hel] at hl ⊢
  clear he hel
  generalize lead x = L at *
  generalize trail x = t at *
  obtain ⟨q, hq⟩ : ∃ q, x / 2 ^ t = q := ⟨_, rfl⟩
  obtain ⟨S, hS⟩ : ∃ S, 64 - L - t = S := ⟨_, rfl⟩
  obtain ⟨S1, hS1⟩ : ∃ S1, 63 - L - t = S1 := ⟨_, rfl⟩
  rw [hq] at z hd s4
  rw [hS] at z hd hl ⊢
  rw [hS1] at hd
  simp only [List.cons_append, List.append_assoc] at hd
  have d1 : (unp (bs s)).drop (a + 1) = bitsOf L 6 ++ (bitsOf S1 6 ++ (bitsOf q S ++ R)) := by rw [← List.drop_drop, hd]; rfl
  have d2 : (unp (bs s)).drop (a + 1 + 6) = bitsOf S1 6 ++ (bitsOf q S ++ R) := by rw [← List.drop_drop, d1, List.drop_left' (bitsOf_length _ _)]
  have d3 : (unp (bs s)).drop (a + 1 + 6 + 6) = bitsOf q S ++ R := by rw [← List.drop_drop, d2, List.drop_left' (bitsOf_length _ _)]
  have G1 := gets_is B g r s a (a + 1) 1 1 w hs (by decide) (by decide) rfl (by omega) (by rw [hd]; rfl) h
  have G2 := fun w => gets_is B g r s (a + 1) (a + 1 + 6) 6 (L : Int) w hs (by decide) (by decide) rfl (by omega) (by rw [d1, show Int.toNat 6 = 6 from rfl, List.take_left' (bitsOf_length _ _), val_small _ _ (by omega)])
  have G3 := fun w => gets_is B g r s (a + 1 + 6) (a + 1 + 6 + 6) 6 (S1 : Int) w hs (by decide) (by decide) rfl (by omega) (by rw [d2, show Int.toNat 6 = 6 from rfl, List.take_left' (bitsOf_length _ _), val_small _ _ (by omega)])
  have G4 := fun w => gets_is B g r s (a + 1 + 6 + 6) (a + (13 + S)) (S : Int) (q : Int) w hs (by omega) (by omega) (by omega) (by omega) (by rw [d3, Int.toNat_natCast, List.take_left' (bitsOf_length _ _), val_small _ _ z])
  have AT := fun w h => rat_any B g s (a + 1) w h
  have f3 : (64 : Int) - (L : Int) - (S : Int) = (t : Int) := by omega
  have f4 : (S1 : Int) + 1 = (S : Int) := by omega
  have f5 : IntKind.u64.wrap ((q : Int) * 2 ^ t) = (x : Int) := by rw [cast_shl, s4, wrap_u64]; omega
  have f6 : ((L : Int) != (L : Int)) = false := by simp
  have f7 : ((t : Int) != (t : Int)) = false := by simp
  have hL2 : (L : Int) ≤ 63 := by omega
  have ht2 : (t : Int) ≤ 63 := by omega
  have ht3 : max (t : Int) 0 = (t : Int) := by omega
  have ht4 : ¬ (t : Int) < 0 := by omega
  have hS2 : (S : Int) ≤ 64 := by omega
  have hS3 : (S1 : Int) ≤ 63 := by omega
  clear z hq hS hS1 hx s1 hx0 hd d1 d2 d3 hl s4 h
  go_enter Tryd.func40, Tryd.ntmps40
  go_wp2_with fail
  refine G1.mono ?_
  rintro e w1 ⟨rfl, h1, b1⟩
  have H1 := Aside0.mk h1
  have B1 := Aside0.mk b1
  have k0 := h1.k0
  clear h1 b1 G1
  go_wp2_with (go_at_call 22; refine (AT _ H1.out.1).mono ?_; rintro e w' ⟨rfl, hw⟩; subst w')
  refine (G2 _ H1.out).mono ?_
  rintro e w2 ⟨rfl, h1, b1⟩
  have H2 := Aside0.mk h1
  have B2 := Aside0.mk (B1.out.trans b1)
  clear h1 b1 H1 B1 G2 k0
  go_wp2_with fail
  refine (G3 _ H2.out).mono ?_
  rintro e w3 ⟨rfl, h1, b1⟩
  have H3 := Aside0.mk h1
  have B3 := Aside0.mk (B2.out.trans b1)
  have k1 := h1.k1
  clear h1 b1 H2 B2 G3
  go_wp2_with fail
  refine (G4 _ H3.out).mono ?_
  rintro e w4 ⟨rfl, h1, b1⟩
  have H4 := Aside0.mk h1
  have B4 := Aside0.mk (B3.out.trans b1)
  have q1 := h1.k1
  clear h1 b1 H3 B3 G4 k1
  go_wp2_with (first
      | (go_at_call 14; refine (A1 _).mono ?_; rintro e wd ⟨rfl, ⟨nd, rfl⟩⟩)
      | (go_at_call 16; refine (A2 _).mono ?_; rintro e wd ⟨rfl, ⟨nd, rfl⟩⟩))
  go_ret
  exact ⟨rfl, H4.out, B4.out.drewN _⟩

/-- What a reader that is stuck leaves. -/
def XBad (B g r : Nat) (s : ByteArray) (w : World) (e : Ending) (w' : World) : Prop := ∃ (v : Int) (a' : Nat) (T : TypeId) (x : Value), e = .returned (.int .u64 v) ∧ 0 ≤ v ∧ v < 18446744073709551616 ∧ XAt B g r s a' (.iface T x) w' ∧ Kp (GR g r) w w'
theorem xdiff_bad0 (B g r : Nat) (s : ByteArray) (a : Nat) (w : World) (hs : s.size ≤ 140737488351232) (hf : a = 8 * s.size) (h : XAt B g r s a .nilIface w) :
    Calls Tryd.prog 40 #[.pointer (some ⟨r, 0, none⟩)] w (XBad B g r s w) := by
  have G1 := gets_short B g r s a 0 1 w hs (by decide) (by decide) (by omega) (by decide) h
  clear h hf
  go_enter Tryd.func40, Tryd.ntmps40
  go_wp2_with (go_at_call 39; refine G1.mono ?_; rintro e w1 ⟨T, x, rfl, h1, h2⟩; have H1 := Aside0.mk h1; have H2 := Aside0.mk h2; clear h1 h2)
  go_ret
  exact ⟨_, _, _, _, rfl, by decide, by decide, H1.out, H2.out⟩
/-- The counts' bits lack. -/
theorem xdiff_bad1 (B g r : Nat) (s : ByteArray) (a f : Nat) (w : World) (hs : s.size ≤ 140737488351232) (hf : a + f = 8 * s.size) (hf1 : 1 ≤ f) (hf6 : f ≤ 6) (hd : ∃ R, (unp (bs s)).drop a = true :: R) (h : XAt B g r s a .nilIface w) :
    Calls Tryd.prog 40 #[.pointer (some ⟨r, 0, none⟩)] w (XBad B g r s w) := by
  obtain ⟨R, hd⟩ := hd
  have G1 := gets_is B g r s a (a + 1) 1 1 w hs (by decide) (by decide) rfl (by omega) (by rw [hd]; rfl) h
  have G2 := fun w => gets_short B g r s (a + 1) (f - 1) 6 w hs (by decide) (by decide) (by omega) (by omega)
  have G3 := fun T x w => gets_err B g r s (a + 1) 6 T x w
  have G4 := fun T x w => gets_err B g r s (a + 1) 1 T x w
  have AT := fun w h => rat_any B g s (a + 1) w h
  have ms : max (63 : Int) 0 = 63 := by decide
  clear h hf hd
  go_enter Tryd.func40, Tryd.ntmps40
  go_wp2_with fail
  refine G1.mono ?_
  rintro e w1 ⟨rfl, h1, b1⟩
  have H1 := Aside0.mk h1
  have B1 := Aside0.mk b1
  have k0 := h1.k0
  clear h1 b1 G1
  go_wp2_with (go_at_call 22; refine (AT _ H1.out.1).mono ?_; rintro e w' ⟨rfl, hw⟩; subst w')
  refine (G2 _ H1.out).mono ?_
  rintro e w2 ⟨T, x, rfl, h1, b1⟩
  have H2 := Aside0.mk h1
  have B2 := Aside0.mk (B1.out.trans b1)
  have k1 := h1.k1
  clear h1 b1 H1 B1 G2 k0
  go_wp2_with fail
  refine (G3 _ _ _ H2.out).mono ?_
  rintro e w' ⟨rfl, hw⟩
  subst w'
  go_wp2_with fail
  refine (G4 _ _ _ H2.out).mono ?_
  rintro e w' ⟨rfl, hw⟩
  subst w'
  go_wp2_with fail
  go_ret
  exact ⟨_, _, _, _, rfl, by decide, by decide, H2.out, B2.out⟩
/-- The second count's bits lack. -/
theorem xdiff_bad2 (B g r : Nat) (s : ByteArray) (a f L : Nat) (w : World) (hs : s.size ≤ 140737488351232) (hf : a + f = 8 * s.size) (hf1 : 7 ≤ f) (hf6 : f ≤ 12) (hd : ∃ R, (unp (bs s)).drop a = true :: R) (hL : val (((unp (bs s)).drop (a + 1)).take 6) = L) (hL6 : L < 64) (h : XAt B g r s a .nilIface w) :
    Calls Tryd.prog 40 #[.pointer (some ⟨r, 0, none⟩)] w (XBad B g r s w) := by
  obtain ⟨R, hd⟩ := hd
  have G1 := gets_is B g r s a (a + 1) 1 1 w hs (by decide) (by decide) rfl (by omega) (by rw [hd]; rfl) h
  have G2 := fun w => gets_is B g r s (a + 1) (a + 1 + 6) 6 (L : Int) w hs (by decide) (by decide) rfl (by omega) (by rw [show Int.toNat 6 = 6 from rfl, hL])
  have G3 := fun w => gets_short B g r s (a + 1 + 6) (f - 7) 6 w hs (by decide) (by decide) (by omega) (by omega)
  have G4 := fun T x w => gets_err B g r s (a + 1 + 6) 1 T x w
  have AT := fun w h => rat_any B g s (a + 1) w h
  obtain ⟨t, ht⟩ : ∃ t, 63 - L = t := ⟨_, rfl⟩
  have f3 : (64 : Int) - (L : Int) - 1 = (t : Int) := by omega
  have hL2 : (L : Int) ≤ 63 := by omega
  have ht2 : (t : Int) ≤ 63 := by omega
  have ms : max (t : Int) 0 = (t : Int) := by omega
  clear h hf hd hL ht
  go_enter Tryd.func40, Tryd.ntmps40
  go_wp2_with fail
  refine G1.mono ?_
  rintro e w1 ⟨rfl, h1, b1⟩
  have H1 := Aside0.mk h1
  have B1 := Aside0.mk b1
  have k0 := h1.k0
  clear h1 b1 G1
  go_wp2_with (go_at_call 22; refine (AT _ H1.out.1).mono ?_; rintro e w' ⟨rfl, hw⟩; subst w')
  refine (G2 _ H1.out).mono ?_
  rintro e w2 ⟨rfl, h1, b1⟩
  have H2 := Aside0.mk h1
  have B2 := Aside0.mk (B1.out.trans b1)
  clear h1 b1 H1 B1 G2 k0
  go_wp2_with fail
  refine (G3 _ H2.out).mono ?_
  rintro e w3 ⟨T, x, rfl, h1, b1⟩
  have H3 := Aside0.mk h1
  have B3 := Aside0.mk (B2.out.trans b1)
  have k1 := h1.k1
  clear h1 b1 H2 B2 G3
  go_wp2_with fail
  refine (G4 _ _ _ H3.out).mono ?_
  rintro e w' ⟨rfl, hw⟩
  subst w'
  go_wp2_with fail
  go_ret
  exact ⟨_, _, _, _, rfl, by decide, by decide, H3.out, B3.out⟩
end Go.Proofs.YtodhnmflabehhaaDoor
namespace Go.Proofs.YtodhnmflabehhaaDoor
open Go.RowKit Go.Proofs.YtodhnmflabehhaaDoorW.PrintWords Go.Proofs.YtodhnmflabehhaaDoorW.PrintLast Go.Proofs.YtodhnmflabehhaaDoorW.PrintMore Hy

theorem at_some (n : Int) (T : TypeId) (x : Value) (w : World) :
    Calls Tryd.prog 34 #[.int .i64 n, .iface T x] w fun e w' => ∃ y : Nat, e = .returned (.iface 79 (.pointer (some ⟨y, 0, none⟩))) ∧ Below w.heap.size w w' :=
  (at_any n _ w ⟨_, _, rfl⟩).mono fun _ _ ⟨h1, h2⟩ => ⟨_, h1, by rw [h2]; exact (Below.refl _ _).alloc (Nat.le_refl _) _⟩
set_option maxHeartbeats 1000000 in
theorem xdiff_bad3 (B g r : Nat) (s : ByteArray) (a L S1 : Nat) (w : World) (hs : s.size ≤ 140737488351232) (hf : a + 13 ≤ 8 * s.size) (hd : ∃ R, (unp (bs s)).drop a = true :: R) (hL : val (((unp (bs s)).drop (a + 1)).take 6) = L) (hL6 : L < 64) (hS : val (((unp (bs s)).drop (a + 1 + 6)).take 6) = S1) (hS6 : S1 < 64) (hn : 64 < L + S1 + 1) (h : XAt B g r s a .nilIface w) :
    Calls Tryd.prog 40 #[.pointer (some ⟨r, 0, none⟩)] w (XBad B g r s w) := by
  obtain ⟨R, hd⟩ := hd
  have G1 := gets_is B g r s a (a + 1) 1 1 w hs (by decide) (by decide) rfl (by omega) (by rw [hd]; rfl) h
  have G2 := fun w => gets_is B g r s (a + 1) (a + 1 + 6) 6 (L : Int) w hs (by decide) (by decide) rfl (by omega) (by rw [show Int.toNat 6 = 6 from rfl, hL])
  have G3 := fun w => gets_is B g r s (a + 1 + 6) (a + 1 + 6 + 6) 6 (S1 : Int) w hs (by decide) (by decide) rfl (by omega) (by rw [show Int.toNat 6 = 6 from rfl, hS])
  have G4 := fun T x w => gets_err B g r s (a + 1 + 6 + 6) ((S1 : Int) + 1) T x w
  have AT := fun w h => rat_any B g s (a + 1) w h
  have hL2 : (L : Int) ≤ 63 := by omega
  have hS3 : (S1 : Int) ≤ 63 := by omega
  have ht4 : (64 : Int) - (L : Int) - ((S1 : Int) + 1) < 0 := by omega
  have ms : max ((64 : Int) - (L : Int) - ((S1 : Int) + 1)) 0 = 0 := by omega
  clear h hf hd hL hS
  go_enter Tryd.func40, Tryd.ntmps40
  go_wp2_with fail
  refine G1.mono ?_
  rintro e w1 ⟨rfl, h1, b1⟩
  have H1 := Aside0.mk h1
  have B1 := Aside0.mk b1
  have k0 := h1.k0
  clear h1 b1 G1
  go_wp2_with (go_at_call 22; refine (AT _ H1.out.1).mono ?_; rintro e w' ⟨rfl, hw⟩; subst w')
  refine (G2 _ H1.out).mono ?_
  rintro e w2 ⟨rfl, h1, b1⟩
  have H2 := Aside0.mk h1
  have B2 := Aside0.mk (B1.out.trans b1)
  clear h1 b1 H1 B1 G2 k0
  go_wp2_with fail
  refine (G3 _ H2.out).mono ?_
  rintro e w3 ⟨rfl, h1, b1⟩
  have H3 := Aside0.mk h1
  have B3 := Aside0.mk (B2.out.trans b1)
  have k1 := h1.k1
  clear h1 b1 H2 B2 G3
  go_wp2_with (go_at_call 34; refine (at_some _ _ _ _).mono ?_; rintro e wx ⟨y, rfl, hb⟩; have H4 := Aside0.mk (H3.out.below hb); have B4 := Aside0.mk (B3.out.next hb); have f1 := H4.out.f1; have q2 := H4.out.k1; clear hb k1 H3 B3)
  have H5 := Aside0.mk (H4.out.put (.iface 79 (.pointer (some ⟨y, 0, none⟩))))
  have B5 := Aside0.mk (B4.out.set (p := ⟨r, 1, none⟩) (.inr rfl) (.iface 79 (.pointer (some ⟨y, 0, none⟩))))
  clear H4 B4 f1 q2
  refine (G4 _ _ _ H5.out).mono ?_
  rintro e w' ⟨rfl, hw⟩
  subst w'
  have q1 := H5.out.k1
  go_wp2_with fail
  go_ret
  exact ⟨_, _, _, _, rfl, by decide, by decide, H5.out, B5.out⟩
set_option maxHeartbeats 1000000 in
theorem xdiff_bad4 (B g r : Nat) (s : ByteArray) (a f L S1 : Nat) (w : World) (hs : s.size ≤ 140737488351232) (hf : a + f = 8 * s.size) (hf13 : 13 ≤ f) (hd : ∃ R, (unp (bs s)).drop a = true :: R) (hL : val (((unp (bs s)).drop (a + 1)).take 6) = L) (hL6 : L < 64) (hS : val (((unp (bs s)).drop (a + 1 + 6)).take 6) = S1) (hS6 : S1 < 64) (hn : L + S1 + 1 ≤ 64) (hf2 : f < 13 + (S1 + 1)) (h : XAt B g r s a .nilIface w) :
    Calls Tryd.prog 40 #[.pointer (some ⟨r, 0, none⟩)] w (XBad B g r s w) := by
  obtain ⟨R, hd⟩ := hd
  obtain ⟨t, ht⟩ : ∃ t, 63 - L - S1 = t := ⟨_, rfl⟩
  have G1 := gets_is B g r s a (a + 1) 1 1 w hs (by decide) (by decide) rfl (by omega) (by rw [hd]; rfl) h
  have G2 := fun w => gets_is B g r s (a + 1) (a + 1 + 6) 6 (L : Int) w hs (by decide) (by decide) rfl (by omega) (by rw [show Int.toNat 6 = 6 from rfl, hL])
  have G3 := fun w => gets_is B g r s (a + 1 + 6) (a + 1 + 6 + 6) 6 (S1 : Int) w hs (by decide) (by decide) rfl (by omega) (by rw [show Int.toNat 6 = 6 from rfl, hS])
  have G4 := fun w => gets_short B g r s (a + 1 + 6 + 6) (f - 13) ((S1 : Int) + 1) w hs (by omega) (by omega) (by omega) (by omega)
  have AT := fun w h => rat_any B g s (a + 1) w h
  have hL2 : (L : Int) ≤ 63 := by omega
  have hS3 : (S1 : Int) ≤ 63 := by omega
  have ht4 : (64 : Int) - (L : Int) - ((S1 : Int) + 1) = (t : Int) := by omega
  have ht2 : (t : Int) ≤ 63 := by omega
  have ht3 : ¬ (t : Int) < 0 := by omega
  have ms : max (t : Int) 0 = (t : Int) := by omega
  clear h hf hd hL hS ht hf2
  go_enter Tryd.func40, Tryd.ntmps40
  go_wp2_with fail
  refine G1.mono ?_
  rintro e w1 ⟨rfl, h1, b1⟩
  have H1 := Aside0.mk h1
  have B1 := Aside0.mk b1
  have k0 := h1.k0
  clear h1 b1 G1
  go_wp2_with (go_at_call 22; refine (AT _ H1.out.1).mono ?_; rintro e w' ⟨rfl, hw⟩; subst w')
  refine (G2 _ H1.out).mono ?_
  rintro e w2 ⟨rfl, h1, b1⟩
  have H2 := Aside0.mk h1
  have B2 := Aside0.mk (B1.out.trans b1)
  clear h1 b1 H1 B1 G2 k0
  go_wp2_with fail
  refine (G3 _ H2.out).mono ?_
  rintro e w3 ⟨rfl, h1, b1⟩
  have H3 := Aside0.mk h1
  have B3 := Aside0.mk (B2.out.trans b1)
  have k1 := h1.k1
  clear h1 b1 H2 B2 G3
  go_wp2_with fail
  refine (G4 _ H3.out).mono ?_
  rintro e w4 ⟨T, x, rfl, h1, b1⟩
  have H4 := Aside0.mk h1
  have B4 := Aside0.mk (B3.out.trans b1)
  have q1 := h1.k1
  clear h1 b1 H3 B3 G4 k1
  go_wp2_with fail
  go_ret
  exact ⟨_, _, _, _, rfl, by decide, by decide, H4.out, B4.out⟩
/-- A count does not fit. -/
theorem xdiff_bad5 (B g r : Nat) (s : ByteArray) (a L S1 v x : Nat) (w : World) (hs : s.size ≤ 140737488351232) (hf13 : a + 13 + (S1 + 1) ≤ 8 * s.size) (hd : ∃ R, (unp (bs s)).drop a = true :: R) (hL : val (((unp (bs s)).drop (a + 1)).take 6) = L) (hL6 : L < 64) (hS : val (((unp (bs s)).drop (a + 1 + 6)).take 6) = S1) (hS6 : S1 < 64) (hn : L + S1 + 1 ≤ 64)
    (hv : val (((unp (bs s)).drop (a + 1 + 6 + 6)).take (S1 + 1)) = v) (hx : v * 2 ^ (63 - L - S1) = x) (hx64 : x < 18446744073709551616) (hne : lead x ≠ L ∨ trail x ≠ 63 - L - S1) (h : XAt B g r s a .nilIface w) :
    Calls Tryd.prog 40 #[.pointer (some ⟨r, 0, none⟩)] w (XBad B g r s w) := by
  obtain ⟨R, hd⟩ := hd
  obtain ⟨t, ht⟩ : ∃ t, 63 - L - S1 = t := ⟨_, rfl⟩
  rw [ht] at hx hne
  have A1 := fun w => lead_any x w hx64
  have A2 := fun w => trail_any x w hx64
  have G1 := gets_is B g r s a (a + 1) 1 1 w hs (by decide) (by decide) rfl (by omega) (by rw [hd]; rfl) h
  have G2 := fun w => gets_is B g r s (a + 1) (a + 1 + 6) 6 (L : Int) w hs (by decide) (by decide) rfl (by omega) (by rw [show Int.toNat 6 = 6 from rfl, hL])
  have G3 := fun w => gets_is B g r s (a + 1 + 6) (a + 1 + 6 + 6) 6 (S1 : Int) w hs (by decide) (by decide) rfl (by omega) (by rw [show Int.toNat 6 = 6 from rfl, hS])
  have G4 := fun w => gets_is B g r s (a + 1 + 6 + 6) (a + 13 + (S1 + 1)) ((S1 : Int) + 1) (v : Int) w hs (by omega) (by omega) (by omega) (by omega) (by rw [show ((S1 : Int) + 1).toNat = S1 + 1 by omega, hv])
  have AT := fun w h => rat_any B g s (a + 1) w h
  have f5 : IntKind.u64.wrap ((v : Int) * 2 ^ t) = (x : Int) := by rw [cast_shl, hx, wrap_u64]; omega
  have hL2 : (L : Int) ≤ 63 := by omega
  have hS3 : (S1 : Int) ≤ 63 := by omega
  have ht4 : (64 : Int) - (L : Int) - ((S1 : Int) + 1) = (t : Int) := by omega
  have ht2 : (t : Int) ≤ 63 := by omega
  have ht3 : ¬ (t : Int) < 0 := by omega
  have ms : max (t : Int) 0 = (t : Int) := by omega
  have X64 := Aside0.mk hx64
  generalize lead x = L' at *
  generalize trail x = t' at *
  by_cases hl : L' = L
  · have f6 : ((L' : Int) != (L : Int)) = false := by rw [bne_eq_false_iff_eq]; omega
    have f7 : ((t' : Int) != (t : Int)) = true := by rw [bne_iff_ne]; omega
    clear h hd hL hS ht hv hx hx64 hne hl
    go_enter Tryd.func40, Tryd.ntmps40
    go_wp2_with fail
    refine G1.mono ?_
    rintro e w1 ⟨rfl, h1, b1⟩
    have H1 := Aside0.mk h1
    have B1 := Aside0.mk b1
    have k0 := h1.k0
    clear h1 b1 G1
    go_wp2_with (go_at_call 22; refine (AT _ H1.out.1).mono ?_; rintro e w' ⟨rfl, hw⟩; subst w')
    refine (G2 _ H1.out).mono ?_
    rintro e w2 ⟨rfl, h1, b1⟩
    have H2 := Aside0.mk h1
    have B2 := Aside0.mk (B1.out.trans b1)
    clear h1 b1 H1 B1 G2 k0
    go_wp2_with fail
    refine (G3 _ H2.out).mono ?_
    rintro e w3 ⟨rfl, h1, b1⟩
    have H3 := Aside0.mk h1
    have B3 := Aside0.mk (B2.out.trans b1)
    have k1 := h1.k1
    clear h1 b1 H2 B2 G3
    go_wp2_with fail
    refine (G4 _ H3.out).mono ?_
    rintro e w4 ⟨rfl, h1, b1⟩
    have H4 := Aside0.mk h1
    have B4 := Aside0.mk (B3.out.trans b1)
    have q1 := h1.k1
    clear h1 b1 H3 B3 G4 k1
    go_wp2_with (first
      | (go_at_call 14; refine (A1 _).mono ?_; rintro e wd ⟨rfl, ⟨nd, rfl⟩⟩)
      | (go_at_call 16; refine (A2 _).mono ?_; rintro e wd ⟨rfl, ⟨nd, rfl⟩⟩)
      | (go_at_call 34; refine (at_some _ _ _ _).mono ?_; rintro e wx ⟨y, rfl, hb⟩; have H5 := Aside0.mk ((H4.out.drewN _).below hb); have B5 := Aside0.mk ((B4.out.drewN _).next hb); have f1 := H5.out.f1; have q2 := H5.out.k1; clear hb q1 H4 B4))
    go_ret
    exact ⟨_, _, _, _, rfl, by omega, by have := X64.out; omega, H5.out.put _, B5.out.set (.inr rfl) _⟩
  · have f6 : ((L' : Int) != (L : Int)) = true := by rw [bne_iff_ne]; omega
    clear h hd hL hS ht hv hx hx64 hne hl
    go_enter Tryd.func40, Tryd.ntmps40
    go_wp2_with fail
    refine G1.mono ?_
    rintro e w1 ⟨rfl, h1, b1⟩
    have H1 := Aside0.mk h1
    have B1 := Aside0.mk b1
    have k0 := h1.k0
    clear h1 b1 G1
    go_wp2_with (go_at_call 22; refine (AT _ H1.out.1).mono ?_; rintro e w' ⟨rfl, hw⟩; subst w')
    refine (G2 _ H1.out).mono ?_
    rintro e w2 ⟨rfl, h1, b1⟩
    have H2 := Aside0.mk h1
    have B2 := Aside0.mk (B1.out.trans b1)
    clear h1 b1 H1 B1 G2 k0
    go_wp2_with fail
    refine (G3 _ H2.out).mono ?_
    rintro e w3 ⟨rfl, h1, b1⟩
    have H3 := Aside0.mk h1
    have B3 := Aside0.mk (B2.out.trans b1)
    have k1 := h1.k1
    clear h1 b1 H2 B2 G3
    go_wp2_with fail
    refine (G4 _ H3.out).mono ?_
    rintro e w4 ⟨rfl, h1, b1⟩
    have H4 := Aside0.mk h1
    have B4 := Aside0.mk (B3.out.trans b1)
    have q1 := h1.k1
    clear h1 b1 H3 B3 G4 k1
    go_wp2_with (first
      | (go_at_call 14; refine (A1 _).mono ?_; rintro e wd ⟨rfl, ⟨nd, rfl⟩⟩)
      | (go_at_call 16; refine (A2 _).mono ?_; rintro e wd ⟨rfl, ⟨nd, rfl⟩⟩)
      | (go_at_call 34; refine (at_some _ _ _ _).mono ?_; rintro e wx ⟨y, rfl, hb⟩; have H5 := Aside0.mk ((H4.out.drewN _).below hb); have B5 := Aside0.mk ((B4.out.drewN _).next hb); have f1 := H5.out.f1; have q2 := H5.out.k1; clear hb q1 H4 B4))
    go_ret
    exact ⟨_, _, _, _, rfl, by omega, by have := X64.out; omega, H5.out.put _, B5.out.set (.inr rfl) _⟩
end Go.Proofs.YtodhnmflabehhaaDoor
namespace Go.Proofs.YtodhnmflabehhaaDoor
open Go.RowKit Go.Proofs.YtodhnmflabehhaaDoorW.PrintWords Go.Proofs.YtodhnmflabehhaaDoorW.PrintLast Go.Proofs.YtodhnmflabehhaaDoorW.PrintMore Hy

theorem puts_any (B g : Nat) (l : List Bool) (n c : Int) (w : World) (h0 : 0 ≤ n) (hc0 : 0 ≤ c) (hn : n.toNat < 2 ^ c.toNat) (hc : c ≤ 64) (hl : l.length ≤ 1000000000) (hB : B ≤ w.heap.size) (h : IsW 84 B g l w) :
    Calls Tryd.prog 37 #[.pointer (some ⟨g, 0, none⟩), .int .u64 n, .int .i64 c] w fun e w' => e = .returned (.tuple #[]) ∧ IsW 84 B g (l ++ bitsOf n.toNat c.toNat) w' ∧ Below B w w' := by
  obtain ⟨n, rfl⟩ := Int.eq_ofNat_of_zero_le h0
  obtain ⟨c, rfl⟩ := Int.eq_ofNat_of_zero_le hc0
  rw [Int.toNat_natCast, Int.toNat_natCast] at *
  have H := wput_ok 84 (by decide) B g l n c w hn (by omega) hl hB h
  clear hn h
  go_enter Tryd.func37, Tryd.ntmps37
  go_wp2_with (go_at_call 10; refine H.mono ?_; rintro e w1 ⟨rfl, h1, h2⟩; have H1 := Aside0.mk h1; have H2 := Aside0.mk h2; clear h1 h2)
  go_end0
  exact ⟨rfl, H1.out, H2.out⟩

theorem wdiff_zero (B g : Nat) (l : List Bool) (w : World) (hl : l.length ≤ 1000000000) (hB : B ≤ w.heap.size) (h : IsW 84 B g l w) :
    Calls Tryd.prog 38 #[.pointer (some ⟨g, 0, none⟩), .int .u64 0] w fun e w' => e = .returned (.tuple #[]) ∧ IsW 84 B g (l ++ encD 0) w' ∧ Below B w w' := by
  have H := puts_any B g l 0 1 w (by decide) (by decide) (by decide) (by decide) hl hB h
  rw [show bitsOf (Int.toNat 0) (Int.toNat 1) = encD 0 from rfl] at H
  clear h
  go_enter Tryd.func38, Tryd.ntmps38
  go_wp2_with (go_at_call 37; refine H.mono ?_; rintro e w1 ⟨rfl, h1, h2⟩; have H1 := Aside0.mk h1; have H2 := Aside0.mk h2; clear h1 h2)
  (try simp only [Exit.inBlock, Exit.then])
  refine bodyPost_ret (results_none rfl _ _ _) rfl ?_
  exact ⟨rfl, H1.out, H2.out⟩
set_option maxHeartbeats 1000000 in
theorem wdiff_some (B g : Nat) (l : List Bool) (x : Nat) (w : World) (hx0 : x ≠ 0) (hx : x < 18446744073709551616) (hl : l.length ≤ 900000000) (hB : B ≤ w.heap.size) (h : IsW 84 B g l w) :
    Calls Tryd.prog 38 #[.pointer (some ⟨g, 0, none⟩), .int .u64 (x : Int)] w fun e w' => e = .returned (.tuple #[]) ∧ IsW 84 B g (l ++ encD x) w' ∧ Below B w w' := by
  obtain ⟨s1, _, _, _⟩ := ends_says x hx0 hx
  have z := size_lt x hx0 hx
  have A1 := fun w => lead_any x w hx
  have A2 := fun w => trail_any x w hx
  have HE : Aside0 (encD x = true :: (bitsOf (lead x) 6 ++ (bitsOf (63 - lead x - trail x) 6 ++ bitsOf (x / 2 ^ trail x) (64 - lead x - trail x)))) := ⟨by unfold encD; rw [if_neg hx0]⟩
  have HI := Aside0.mk h
  have f6 : ((x : Int) == 0) = false := by rw [beq_eq_false_iff_ne]; omega
  generalize lead x = L at *
  generalize trail x = t at *
  obtain ⟨q, hq⟩ : ∃ q, x / 2 ^ t = q := ⟨_, rfl⟩
  obtain ⟨S, hS⟩ : ∃ S, 64 - L - t = S := ⟨_, rfl⟩
  obtain ⟨S1, hS1⟩ : ∃ S1, 63 - L - t = S1 := ⟨_, rfl⟩
  rw [hq, hS, hS1] at HE
  rw [hq, hS] at z
  have f1 : (x : Int) / 2 ^ t = (q : Int) := by rw [cast_div, hq]
  have f3 : (64 : Int) - (L : Int) - (t : Int) = (S : Int) := by omega
  have f4 : (S : Int) - 1 = (S1 : Int) := by omega
  have hL2 : (L : Int) ≤ 63 := by omega
  have ht2 : (t : Int) ≤ 63 := by omega
  have hS2 : (S : Int) ≤ 64 := by omega
  have hS3 : (S1 : Int) ≤ 63 := by omega
  have hS4 : (1 : Int) ≤ (S : Int) := by omega
  have hLn : L < 64 := by omega
  have hSn : S1 < 64 := by omega
  have Z := Aside0.mk z
  clear z hq hS hS1 hx h s1 hx0
  go_enter Tryd.func38, Tryd.ntmps38
  go_wp2_with (first
      | (go_at_call 14; refine (A1 _).mono ?_; rintro e wd ⟨rfl, ⟨nd, rfl⟩⟩)
      | (go_at_call 16; refine (A2 _).mono ?_; rintro e wd ⟨rfl, ⟨nd, rfl⟩⟩))
  refine (puts_any B g l 1 1 _ (by decide) (by decide) (by decide) (by decide) (by omega) (by exact hB) (by exact HI.out)).mono ?_
  rintro e w1 ⟨rfl, h1, b1⟩
  have H1 := Aside0.mk h1
  have B1 : Aside0 (Below B w w1) := ⟨(drewN_below (Below.refl B w) _).trans b1⟩
  clear h1 b1
  go_wp2_with fail
  refine (puts_any B g _ (L : Int) 6 _ (by omega) (by decide) (by rw [Int.toNat_natCast]; exact hLn) (by decide) (by simp [bitsOf_length]; omega) (Nat.le_trans hB B1.out.size) H1.out).mono ?_
  rintro e w2 ⟨rfl, h1, b1⟩
  have H2 := Aside0.mk h1
  have B2 := Aside0.mk (B1.out.trans b1)
  clear h1 b1 H1 B1
  go_wp2_with fail
  refine (puts_any B g _ (S1 : Int) 6 _ (by omega) (by decide) (by rw [Int.toNat_natCast]; exact hSn) (by decide) (by simp [bitsOf_length]; omega) (Nat.le_trans hB B2.out.size) H2.out).mono ?_
  rintro e w3 ⟨rfl, h1, b1⟩
  have H3 := Aside0.mk h1
  have B3 := Aside0.mk (B2.out.trans b1)
  clear h1 b1 H2 B2
  go_wp2_with fail
  refine (puts_any B g _ (q : Int) (S : Int) _ (by omega) (by omega) (by rw [Int.toNat_natCast, Int.toNat_natCast]; exact Z.out) (by omega) (by simp [bitsOf_length]; omega) (Nat.le_trans hB B3.out.size) H3.out).mono ?_
  rintro e w4 ⟨rfl, h1, b1⟩
  have H4 := Aside0.mk h1
  have B4 := Aside0.mk (B3.out.trans b1)
  clear h1 b1 H3 B3
  go_wp2_with fail
  go_end0
  refine ⟨rfl, ?_, B4.out⟩
  have := H4.out
  rw [Int.toNat_natCast, Int.toNat_natCast, Int.toNat_natCast, Int.toNat_natCast] at this
  rw [HE.out]
  simpa [List.append_assoc, bitsOf] using this
theorem wdiff_any (B g : Nat) (l : List Bool) (x : Int) (w : World) (h0 : 0 ≤ x) (hx : x < 18446744073709551616) (hl : l.length ≤ 900000000) (hB : B ≤ w.heap.size) (h : IsW 84 B g l w) :
    Calls Tryd.prog 38 #[.pointer (some ⟨g, 0, none⟩), .int .u64 x] w fun e w' => e = .returned (.tuple #[]) ∧ IsW 84 B g (l ++ encD x.toNat) w' ∧ Below B w w' := by
  obtain ⟨x, rfl⟩ := Int.eq_ofNat_of_zero_le h0
  by_cases hx0 : x = 0
  · subst hx0; exact wdiff_zero B g l w (by omega) hB h
  · exact wdiff_some B g l x w hx0 (by omega) hl hB h
end Go.Proofs.YtodhnmflabehhaaDoor
namespace Go.Proofs.YtodhnmflabehhaaDoor
open Go.RowKit Go.Proofs.YtodhnmflabehhaaDoorW.PrintWords Go.Proofs.YtodhnmflabehhaaDoorW.PrintLast Go.Proofs.YtodhnmflabehhaaDoorW.PrintMore Hy

theorem cellAt {w : World} {A : Option Addr} {l : List Int} {ik : IntKind} (h : Kd.C (Kd.int ik) w A l.length l) (k : Nat) (hk : k < l.length) : ∃ ad, A = some ad ∧ w.cell? (ad.add k) = some (.int ik (l[k])) := by
  obtain ⟨ad, e, hx⟩ := Kd.at_int h (k : Int) (by omega) (by omega)
  refine ⟨ad, e, ?_⟩
  simpa [rd, List.getD_eq_getElem?_getD, hk] using hx

theorem R_C {α : Type} {d : Kd α} {e : Nat} {w : World} {base : Nat} {ok : Nat → Prop} {A : Option Addr} {n c : Nat} {xs : List α} (h : d.R e w base ok (.slice A n c) xs) : d.C w A xs.length xs ∧ n = xs.length ∧ xs.length ≤ c := by
  obtain ⟨A', c', e, hl, hc⟩ := Kd.R_reads h
  injection e with e1 e2 e3
  subst e1; subst e3
  exact ⟨hc, e2, hl⟩
theorem info_u64 : (Tryd.prog.info? 34).map (fun i => (i.zero, i.size, i.bytes)) = some (some (.int .u64 0), 1, 8) := by kernel_rfl

theorem C_lit (W : World) (k : IntKind) (xs : List Int) (e : TypeId) (hm : xs.length ≤ 9223372036854775807) : Kd.C (Kd.int k) (W.alloc (.cells (nums k xs).toArray e)) (some ⟨W.heap.size, 0, none⟩) xs.length xs := by
  have h := own_lit W 0 e k xs (by omega) hm
  obtain ⟨A, c, e1, h2⟩ := own_reads h
  injection e1 with e1 e2 e3
  subst e1
  exact Kd.C_of_reads (d := (0 : Int)) (h1 := fun _ => rfl) h2

/-- string([]byte{x}) -/
theorem conv_byte (x : Int) (W : World) (n : Nat) : (convert 25 9 (.slice (some ⟨W.heap.size, 0, none⟩) 1 1)).run Tryd.prog ((W.drewN n).alloc (.cells #[.int .u8 x] 5)) = .ok (.string (st [x.toNat])) ((W.drewN n).alloc (.cells #[.int .u8 x] 5)) := by
  have h := own_lit (W.drewN n) 0 5 .u8 [x] (by omega) (by simp)
  have h2 := own_string (P := Tryd.prog) Tryd.underlying25 Tryd.underlying5 Tryd.underlying9 h
  exact h2
theorem nums_l0 (a b : List Int) (h : a.length = b.length) (hb : a.length ≤ 140737488355328) : ∀ (d i k : Nat), i + d = a.length → d < k → PXorPuts.hygref_Nums.l0 k a b (i : Int) = some (decide (a.drop i = b.drop i)) := by
  intro d
  induction d with
  | zero =>
    intro i k hi hk
    obtain ⟨k, rfl⟩ : ∃ m, k = m + 1 := ⟨k - 1, by omega⟩
    simp only [PXorPuts.hygref_Nums.l0]
    rw [if_neg (by omega), List.drop_of_length_le (by omega), List.drop_of_length_le (by omega)]
    simp
  | succ d ih =>
    intro i k hi hk
    obtain ⟨k, rfl⟩ : ∃ m, k = m + 1 := ⟨k - 1, by omega⟩
    have hi1 : i < a.length := by omega
    have hi2 : i < b.length := by omega
    have ra : rd a (i : Int) = a[i] := by simp [rd, List.getD_eq_getElem?_getD, hi1]
    have rb : rd b (i : Int) = b[i] := by simp [rd, List.getD_eq_getElem?_getD, hi2]
    simp only [PXorPuts.hygref_Nums.l0]
    rw [if_pos (by omega), if_pos (by omega), if_pos (by omega), ra, rb]
    have hd : (a.drop i = b.drop i) ↔ (a[i] = b[i] ∧ a.drop (i + 1) = b.drop (i + 1)) := by
      rw [List.drop_eq_getElem_cons hi1, List.drop_eq_getElem_cons hi2, List.cons.injEq]
    by_cases he : a[i] = b[i]
    · rw [if_pos he, show wrap64 ((i : Int) + 1) = ((i + 1 : Nat) : Int) by unfold wrap64; omega, ih (i + 1) k (by omega) (by omega)]
      rw [show decide (a.drop i = b.drop i) = decide (a.drop (i + 1) = b.drop (i + 1)) from decide_eq_decide.2 (hd.trans ⟨fun h => h.2, fun h => ⟨he, h⟩⟩)]
    · rw [if_neg he, decide_eq_false (fun e => he (hd.1 e).1)]
theorem nums_f (a b : List Int) (hb : a.length ≤ 140737488355328) : PXorPuts.hygref_Nums.f (a.length + 1) a b = some (decide (a = b)) := by
  unfold PXorPuts.hygref_Nums.f
  by_cases h : a.length = b.length
  · rw [if_pos (by omega)]
    have := nums_l0 a b h hb a.length 0 (a.length + 1) (by omega) (by omega)
    simpa using this
  · rw [if_neg (by omega)]
    simp
    intro e; exact h (by rw [e])
theorem nums_any (A : Option Addr) (c : Nat) (l : List Int) (A' : Option Addr) (c' : Nat) (l' : List Int) (w : World) (hr : Kd.C (Kd.int .u64) w A l.length l) (hc : l.length ≤ c) (hr' : Kd.C (Kd.int .u64) w A' l'.length l') (hc' : l'.length ≤ c') (hl : l.length ≤ 140737488355328) :
    Calls Tryd.prog 31 #[.slice A l.length c, .slice A' l'.length c'] w fun e w' => e = .returned (.bool (decide (l = l'))) ∧ Drawn0 w w' :=
  PXorPuts.hygref_Nums.calls (l.length + 1) A c l A' c' l' _ w hr hc hr' hc' (nums_f l l' hl)
end Go.Proofs.YtodhnmflabehhaaDoor
namespace Go.Proofs.YtodhnmflabehhaaDoor
open Go.RowKit Go.Proofs.YtodhnmflabehhaaDoorW.PrintWords Go.Proofs.YtodhnmflabehhaaDoorW.PrintLast Go.Proofs.YtodhnmflabehhaaDoorW.PrintMore Hy

def nat (l : List Int) : List Nat := l.map Int.toNat
theorem nat_length (l : List Int) : (nat l).length = l.length := by simp [nat]
theorem nat_u64 (l : List Int) (h : ∀ x ∈ l, 0 ≤ x ∧ x < 18446744073709551616) : u64n (nat l) := by
  intro x hx
  obtain ⟨y, hy, rfl⟩ := List.mem_map.1 hx
  have := h y hy; omega
theorem xor_nat (a b : Int) (ha : 0 ≤ a ∧ a < 18446744073709551616) (hb : 0 ≤ b ∧ b < 18446744073709551616) : 0 ≤ Go.bits .xor .u64 a b ∧ Go.bits .xor .u64 a b < 18446744073709551616 ∧ (Go.bits .xor .u64 a b).toNat = a.toNat ^^^ b.toNat := by
  obtain ⟨a, rfl⟩ := Int.eq_ofNat_of_zero_le ha.1
  obtain ⟨b, rfl⟩ := Int.eq_ofNat_of_zero_le hb.1
  have hx := xor_lt (show a < 18446744073709551616 by omega) (show b < 18446744073709551616 by omega)
  rw [bits_xor_nat .u64 a b (by simp [IntKind.bits]; omega) (by simp [IntKind.bits]; omega), wrap_u64, Int.toNat_natCast, Int.toNat_natCast]
  omega
/-- The bits at a round's end. -/
theorem encL_take (l : List Int) (k : Nat) (hk : k + 1 < l.length) : encL (nat (l.take (k + 2))) = encL (nat (l.take (k + 1))) ++ encD ((l[k + 1]).toNat ^^^ (l[k]).toNat) := by
  have h1 : l.take (k + 2) = l.take (k + 1) ++ [l[k + 1]] := by rw [List.take_succ_eq_append_getElem hk]
  have h0 : l.take (k + 1) = l.take k ++ [l[k]] := by rw [List.take_succ_eq_append_getElem (by omega)]
  have h2 : (nat (l.take (k + 1))).getLast? = some (l[k]).toNat := by
    rw [h0, show nat (l.take k ++ [l[k]]) = nat (l.take k) ++ [(l[k]).toNat] from List.map_append]
    exact List.getLast?_concat
  have h3 : nat (l.take (k + 2)) = nat (l.take (k + 1)) ++ [(l[k + 1]).toNat] := by rw [h1]; unfold nat; rw [List.map_append]; rfl
  rw [h3, encL_snoc _ _ (by intro e; rw [e] at h2; simp at h2), h2]
  rfl
set_option maxHeartbeats 2000000 in
theorem xorPut_ok (A : Option Addr) (c : Nat) (l : List Int) (w : World) (hr : Kd.C (Kd.int .u64) w A l.length l) (hc : l.length ≤ c) (hl : l.length ≤ 20000) (hx : ∀ x ∈ l, 0 ≤ x ∧ x < 18446744073709551616) :
    Calls Tryd.prog 29 #[.slice A l.length c] w fun e w' => e = .returned (.tuple #[.string (colT (nat l)), .nilIface]) ∧ Below w.heap.size w w' := by
  have HB := Aside0.mk (Below.refl w.heap.size w)
  have HR := Aside0.mk hr
  have HC := Aside0.mk hc
  have HX := Aside0.mk hx
  clear hr hc hx
  go_enter Tryd.func29, Tryd.ntmps29
  go_wp2_with fail
  go_loopw [13] (fun v13 w' => ∃ k : Nat, k ≤ l.length ∧ v13 = .int .i64 (k : Int) ∧ Aside0 (IsW 84 w.heap.size w.heap.size (encL (nat (l.take k))) w') ∧ Aside0 (Below w.heap.size w w')) (fun v13 _ => l.length - (intOf v13).toNat)
  case atStart => exact ⟨0, by omega, rfl, ⟨IsW.new _ w⟩, ⟨(by repeat (first | (with_reducible exact HB.out) | apply below_alloc | apply pw_below_drewN | apply below_drew1))⟩⟩
  case round =>
    clear HB
    obtain ⟨k, hk, rfl, HI, HB⟩ := hrel
    by_cases hlt : k < l.length
    · obtain ⟨ad, rfl, hcell⟩ := cellAt (Kd.C_below HR.out HB.out) k hlt
      have hxk := Aside0.mk (HX.out _ (List.getElem_mem hlt))
      have HC' := HC.out
      have hbl : (encL (nat (l.take k))).length ≤ 1600000 := by have := encL_len (nat (l.take k)); rw [nat_length, List.length_take] at this; omega
      have hsz := HB.out.size
      by_cases h0 : k = 0
      · have HE : Aside0 (encL (nat (l.take (k + 1))) = encL (nat (l.take k)) ++ bitsOf (l[k]).toNat 64) := ⟨by
          subst h0; rw [List.take_succ_eq_append_getElem hlt]; simp [nat, encL, encT]⟩
        have hk0 : ((k : Int) == 0) = true := by simp; omega
        have hn64 : Aside0 ((l[k]).toNat < 2 ^ (64 : Int).toNat) := ⟨by rw [show (64 : Int).toNat = 64 from rfl]; have := hxk.out; omega⟩
        clear h0
        go_wp2_with (first
          | (go_at_call 37; refine (puts_any w.heap.size w.heap.size _ _ 64 _ hxk.out.1 (by decide) hn64.out (by decide) (by omega) hsz HI.out).mono ?_; rintro e w1 ⟨rfl, h1, b1⟩; have HI1 := Aside0.mk h1; have HB1 := Aside0.mk (HB.out.trans b1); clear h1 b1 HB HI))
        go_roundw
        case rel => exact ⟨k + 1, by omega, by go_num, ⟨by rw [HE.out]; exact HI1.out⟩, HB1⟩
        case measure => simp [intOf]; omega
      · obtain ⟨m, hm⟩ : ∃ m, k = m + 1 := ⟨k - 1, by omega⟩
        have hml : m < l.length := by omega
        obtain ⟨ad', e', hcell2⟩ := cellAt (Kd.C_below HR.out HB.out) m hml
        injection e' with e'
        subst e'
        have hm2 : (k : Int) - 1 = (m : Int) := by omega
        have hk0 : ((k : Int) == 0) = false := by simp; omega
        have hxj := HX.out _ (List.getElem_mem hml)
        obtain ⟨q1, q2, q3⟩ := xor_nat _ _ hxk.out hxj
        have HE : Aside0 (encL (nat (l.take (k + 1))) = encL (nat (l.take k)) ++ encD (Go.bits .xor .u64 l[k] l[m]).toNat) := ⟨by
          subst hm; rw [q3]; exact encL_take l m hlt⟩
        have Q2 := Aside0.mk q2
        clear q3 q2 hxj hm h0
        go_wp2_with (first
          | (go_at_call 38; refine (wdiff_any w.heap.size w.heap.size _ _ _ q1 Q2.out (by omega) hsz HI.out).mono ?_; rintro e w1 ⟨rfl, h1, b1⟩; have HI1 := Aside0.mk h1; have HB1 := Aside0.mk (HB.out.trans b1); clear h1 b1 HB HI))
        go_roundw
        case rel => exact ⟨k + 1, by omega, by go_num, ⟨by rw [HE.out]; exact HI1.out⟩, HB1⟩
        case measure => simp [intOf]; omega
    · obtain rfl : k = l.length := by omega
      rw [List.take_length] at HI
      have hS := fun w' (h : IsW 84 w.heap.size w.heap.size (encL (nat l)) w') => wstring_any _ _ _ _ w' h
      go_wp2_with (go_at_call 18; refine (hS _ HI.out).mono ?_; rintro e w1 ⟨rfl, hw1⟩; subst w1)
      go_ret2
      exact ⟨rfl, HB.out⟩
end Go.Proofs.YtodhnmflabehhaaDoor
namespace Go.Proofs.YtodhnmflabehhaaDoor
open Go.RowKit Go.Proofs.YtodhnmflabehhaaDoorW.PrintWords Go.Proofs.YtodhnmflabehhaaDoorW.PrintLast Go.Proofs.YtodhnmflabehhaaDoorW.PrintMore Hy

theorem xdiff_bad (B g r : Nat) (s : ByteArray) (a : Nat) (w : World) (hs : s.size ≤ 140737488351232) (ha : a ≤ 8 * s.size) (hbad : ∀ x R, x < 18446744073709551616 → (unp (bs s)).drop a ≠ encD x ++ R) (h : XAt B g r s a .nilIface w) :
    Calls Tryd.prog 40 #[.pointer (some ⟨r, 0, none⟩)] w (XBad B g r s w) := by
  obtain ⟨f, hf⟩ : ∃ f, 8 * s.size - a = f := ⟨_, rfl⟩
  have hlen : ((unp (bs s)).drop a).length = f := by rw [List.length_drop, unp_length, bs_length, hf]
  cases hd : (unp (bs s)).drop a with
  | nil => rw [hd] at hlen; exact xdiff_bad0 B g r s a w hs (by simp at hlen; omega) h
  | cons b D =>
    rw [hd] at hlen
    simp only [List.length_cons] at hlen
    cases b with
    | false => exact absurd (by rw [hd]; rfl) (hbad 0 D (by omega))
    | true =>
      have h1 : (unp (bs s)).drop (a + 1) = D := by rw [← List.drop_drop, hd]; rfl
      have v6 : ∀ L : List Bool, val (L.take 6) < 64 := fun L => Nat.lt_of_lt_of_le (val_lt _) (Nat.pow_le_pow_right (n := 2) (by omega) (by rw [List.length_take]; omega : (L.take 6).length ≤ 6))
      by_cases c1 : f ≤ 6
      · exact xdiff_bad1 B g r s a f w hs (by omega) (by omega) c1 ⟨_, hd⟩ h
      · by_cases c2 : f ≤ 12
        · exact xdiff_bad2 B g r s a f _ w hs (by omega) (by omega) c2 ⟨_, hd⟩ rfl (v6 _) h
        · have h2 : (unp (bs s)).drop (a + 1 + 6) = D.drop 6 := by rw [← List.drop_drop, h1]
          have h3 : (unp (bs s)).drop (a + 1 + 6 + 6) = (D.drop 6).drop 6 := by rw [← List.drop_drop, h2]
          obtain ⟨L, hL⟩ : ∃ L, val (D.take 6) = L := ⟨_, rfl⟩
          obtain ⟨S1, hS⟩ : ∃ S1, val ((D.drop 6).take 6) = S1 := ⟨_, rfl⟩
          have hL6 : L < 64 := hL ▸ v6 D
          have hS6 : S1 < 64 := hS ▸ v6 (D.drop 6)
          by_cases c3 : 64 < L + S1 + 1
          · exact xdiff_bad3 B g r s a L S1 w hs (by omega) ⟨_, hd⟩ (by rw [h1, hL]) hL6 (by rw [h2, hS]) hS6 c3 h
          · by_cases c4 : f < 13 + (S1 + 1)
            · exact xdiff_bad4 B g r s a f L S1 w hs (by omega) (by omega) ⟨_, hd⟩ (by rw [h1, hL]) hL6 (by rw [h2, hS]) hS6 (by omega) c4 h
            · obtain ⟨E, hE⟩ : ∃ E, (D.drop 6).drop 6 = E := ⟨_, rfl⟩
              have hEl : E.length = f - 13 := by rw [← hE, List.length_drop, List.length_drop]; omega
              obtain ⟨v, hv⟩ : ∃ v, val (E.take (S1 + 1)) = v := ⟨_, rfl⟩
              have hvl : v < 2 ^ (S1 + 1) := by rw [← hv]; exact Nat.lt_of_lt_of_le (val_lt _) (Nat.pow_le_pow_right (by omega) (by rw [List.length_take]; omega))
              have hx64 : v * 2 ^ (63 - L - S1) < 18446744073709551616 := by
                calc v * 2 ^ (63 - L - S1) < 2 ^ (S1 + 1) * 2 ^ (63 - L - S1) := Nat.mul_lt_mul_of_pos_right hvl (Nat.two_pow_pos _)
                  _ = 2 ^ (S1 + 1 + (63 - L - S1)) := by rw [← Nat.pow_add]
                  _ ≤ 2 ^ 64 := Nat.pow_le_pow_right (by omega) (by omega)
                  _ = 18446744073709551616 := rfl
              by_cases c5 : lead (v * 2 ^ (63 - L - S1)) = L ∧ trail (v * 2 ^ (63 - L - S1)) = 63 - L - S1
              · exfalso
                refine hbad _ (E.drop (S1 + 1)) hx64 ?_
                have hx0 : v * 2 ^ (63 - L - S1) ≠ 0 := by
                  intro e0
                  rw [e0] at c5
                  have := c5.1
                  simp [lead] at this
                  omega
                unfold encD
                rw [if_neg hx0, c5.1, c5.2, Nat.mul_div_cancel _ (Nat.two_pow_pos _), hd, show 63 - L - (63 - L - S1) = S1 by omega, show 64 - L - (63 - L - S1) = S1 + 1 by omega]
                have t1 : bitsOf L 6 = D.take 6 := by
                  have := bitsOf_val (D.take 6)
                  rw [hL, List.length_take, Nat.min_eq_left (by omega)] at this; exact this
                have t2 : bitsOf S1 6 = (D.drop 6).take 6 := by
                  have := bitsOf_val ((D.drop 6).take 6)
                  rw [hS, List.length_take, List.length_drop, Nat.min_eq_left (by omega)] at this; exact this
                have t3 : bitsOf v (S1 + 1) = E.take (S1 + 1) := by
                  have := bitsOf_val (E.take (S1 + 1))
                  rw [hv, List.length_take, Nat.min_eq_left (by omega)] at this; exact this
                rw [t1, t2, t3]
                simp only [List.cons_append, List.append_assoc, List.cons.injEq, true_and]
                rw [List.take_append_drop, ← hE, List.take_append_drop, List.take_append_drop]
              · exact xdiff_bad5 B g r s a L S1 v _ w hs (by omega) ⟨_, hd⟩ (by rw [h1, hL]) hL6 (by rw [h2, hS]) hS6 (by omega) (by rw [h3, hE, hv]) rfl hx64 (by
                  by_cases hl : lead (v * 2 ^ (63 - L - S1)) = L
                  · exact .inr (fun e => c5 ⟨hl, e⟩)
                  · exact .inl hl) h
end Go.Proofs.YtodhnmflabehhaaDoor
namespace Go.Proofs.YtodhnmflabehhaaDoor
open Go.RowKit Go.Proofs.YtodhnmflabehhaaDoorW.PrintWords Go.Proofs.YtodhnmflabehhaaDoorW.PrintLast Go.Proofs.YtodhnmflabehhaaDoorW.PrintMore Hy

/-- What a column's reading comes to. -/
def XGot (s : ByteArray) (n : Nat) (w : World) (e : Ending) (w' : World) : Prop :=
  (∃ (l : List Int) (A : Option Addr) (c : Nat), e = .returned (.tuple #[.slice A l.length c, .nilIface]) ∧ ColX s n (nat l) ∧ (∀ x ∈ l, 0 ≤ x ∧ x < 18446744073709551616) ∧ Kd.C (Kd.int .u64) w' A l.length l ∧ l.length ≤ c ∧ Below w.heap.size w w') ∨
  ((∀ m, ¬ ColX s n m) ∧ ∃ T x, e = .returned (.tuple #[.slice none 0 0, .iface T x]) ∧ Below w.heap.size w w')
/-- How far it has come. -/
def XSt (s : ByteArray) (n : Nat) (l : List Int) (a : Nat) (ev : Value) : Prop :=
  (ev = .nilIface ∧ unp (bs s) = encL (nat l) ++ (unp (bs s)).drop a ∧ a = (encL (nat l)).length ∧ a ≤ 8 * s.size) ∨ ((∃ T x, ev = .iface T x) ∧ ∀ m, ¬ ColX s n m)
theorem xst_end_ok (s : ByteArray) (n : Nat) (l : List Int) (a f : Nat) (hl : l.length = n) (hu : u64n (nat l)) (h : unp (bs s) = encL (nat l) ++ (unp (bs s)).drop a) (hf8 : f < 8) (hz : (unp (bs s)).drop a = List.replicate f false) : ColX s n (nat l) :=
  ⟨by rw [nat_length]; exact hl, hu, f, hf8, by rw [zeros, ← hz]; exact h⟩
theorem xst_end_bad (s : ByteArray) (n : Nat) (l : List Int) (a : Nat) (hl : l.length = n) (hu : u64n (nat l)) (h : unp (bs s) = encL (nat l) ++ (unp (bs s)).drop a) (hz : ∀ k, k < 8 → (unp (bs s)).drop a ≠ List.replicate k false) (m : List Nat) : ¬ ColX s n m := by
  rintro ⟨h1, h2, k, hk, e⟩
  rw [h] at e
  obtain ⟨t, rfl, _, h4⟩ := encL_inj (nat l) m _ _ hu h2 (by rw [nat_length]; omega) e
  obtain rfl : t = [] := List.eq_nil_of_length_eq_zero (by rw [List.length_append, nat_length] at h1; omega)
  exact hz k hk (h4 rfl)
theorem xst_stuck0 (s : ByteArray) (n : Nat) (hn : 0 < n) (hs : 8 * s.size < 64) (m : List Nat) : ¬ ColX s n m := by
  rintro ⟨h1, h2, k, hk, e⟩
  have h3 := encL_pos m (by rintro rfl; simp at h1; omega)
  have := congrArg List.length e
  rw [unp_length, bs_length, List.length_append] at this
  omega
theorem xst_stuck (s : ByteArray) (n : Nat) (l : List Int) (a : Nat) (hl : l.length < n) (h0 : l ≠ []) (hu : u64n (nat l)) (h : unp (bs s) = encL (nat l) ++ (unp (bs s)).drop a) (hbad : ∀ x R, x < 18446744073709551616 → (unp (bs s)).drop a ≠ encD x ++ R) (m : List Nat) : ¬ ColX s n m := by
  rintro ⟨h1, h2, k, hk, e⟩
  rw [h] at e
  obtain ⟨x, R, hx, hR⟩ := encL_step (nat l) m _ _ hu h2 (by intro e; exact h0 (by simpa [nat] using e)) (by rw [nat_length]; omega) e
  exact hbad x R hx hR
theorem xst_snoc (s : ByteArray) (l : List Int) (a x : Nat) (R : List Bool) (m : Nat) (hm : l.length = m + 1) (hl : ∀ y ∈ l, 0 ≤ y ∧ y < 18446744073709551616) (hx : x < 18446744073709551616) (h : unp (bs s) = encL (nat l) ++ (unp (bs s)).drop a) (ha : a = (encL (nat l)).length) (hd : (unp (bs s)).drop a = encD x ++ R) :
    unp (bs s) = encL (nat (l ++ [Go.bits .xor .u64 l[m] (x : Int)])) ++ (unp (bs s)).drop (a + (encD x).length) ∧ a + (encD x).length = (encL (nat (l ++ [Go.bits .xor .u64 l[m] (x : Int)]))).length ∧ a + (encD x).length ≤ 8 * s.size ∧ (∀ y ∈ l ++ [Go.bits .xor .u64 l[m] (x : Int)], 0 ≤ y ∧ y < 18446744073709551616) := by
  have hlm := hl _ (List.getElem_mem (show m < l.length by omega))
  obtain ⟨q1, q2, q3⟩ := xor_nat l[m] (x : Int) hlm (by omega)
  have hgl : (nat l).getLast? = some (l[m]).toNat := by
    rw [List.getLast?_eq_getElem?, nat_length, show l.length - 1 = m by omega]
    unfold nat
    rw [List.getElem?_map, List.getElem?_eq_getElem (by omega)]; rfl
  have he : encL (nat (l ++ [Go.bits .xor .u64 l[m] (x : Int)])) = encL (nat l) ++ encD x := by
    rw [show nat (l ++ [Go.bits .xor .u64 l[m] (x : Int)]) = nat l ++ [(Go.bits .xor .u64 l[m] (x : Int)).toNat] from List.map_append]
    rw [encL_snoc _ _ (by intro e; rw [e] at hgl; simp at hgl), hgl, q3, Int.toNat_natCast, Option.getD_some]
    rw [Nat.xor_comm (l[m]).toNat x, Nat.xor_assoc, Nat.xor_self, Nat.xor_zero]
  have hd2 : (unp (bs s)).drop (a + (encD x).length) = R := by rw [← List.drop_drop, hd, List.drop_left' rfl]
  have hlen := congrArg List.length hd
  rw [List.length_drop, unp_length, bs_length, List.length_append] at hlen
  have hlen2 := congrArg List.length h
  rw [unp_length, bs_length, List.length_append, ← ha] at hlen2
  have hp := encD_pos x
  refine ⟨by rw [he, hd2, List.append_assoc, ← hd]; exact h, by rw [he, List.length_append, ← ha], by omega, ?_⟩
  intro y hy
  rcases List.mem_append.1 hy with hy | hy
  · exact hl y hy
  · rw [List.mem_singleton.1 hy]; exact ⟨q1, q2⟩
theorem xorGet_range (s : ByteArray) (count : Int) (w : World) (h : count < 0 ∨ 20000 < count) :
    Calls Tryd.prog 32 #[.string s, .int .i64 count] w fun e w' => e = .returned (.tuple #[.slice none 0 0, .iface 37 (.int .i64 9)]) ∧ w' = w := by
  rcases h with h | h
  · go_enter Tryd.func32, Tryd.ntmps32
    go_wp2_with fail
    go_ret2
    exact ⟨rfl, rfl⟩
  · have h' : ¬ count < 0 := by omega
    go_enter Tryd.func32, Tryd.ntmps32
    go_wp2_with fail
    go_ret2
    exact ⟨rfl, rfl⟩
theorem xget_step (B g r : Nat) (s : ByteArray) (n : Nat) (l : List Int) (a m : Nat) (w : World) (hs : s.size ≤ 140737488351232) (hml : m < l.length) (hm : l.length = m + 1) (hln : l.length < n) (hl : ∀ y ∈ l, 0 ≤ y ∧ y < 18446744073709551616)
    (e1 : unp (bs s) = encL (nat l) ++ (unp (bs s)).drop a) (e2 : a = (encL (nat l)).length) (e3 : a ≤ 8 * s.size) (h : XAt B g r s a .nilIface w) :
    Calls Tryd.prog 40 #[.pointer (some ⟨r, 0, none⟩)] w fun e w2 => ∃ (v : Int) (a' : Nat) (ev' : Value), e = .returned (.int .u64 v) ∧ XAt B g r s a' ev' w2 ∧ Kp (GR g r) w w2 ∧ (∀ y ∈ l ++ [Go.bits .xor .u64 (l[m]'hml) v], 0 ≤ y ∧ y < 18446744073709551616) ∧ XSt s n (l ++ [Go.bits .xor .u64 (l[m]'hml) v]) a' ev' := by
  by_cases hD : ∃ x R, x < 18446744073709551616 ∧ (unp (bs s)).drop a = encD x ++ R
  · obtain ⟨x, R, hx, hD⟩ := hD
    obtain ⟨f1, f2, f3, f4⟩ := xst_snoc s l a x R m hm hl hx e1 e2 hD
    have H : Calls Tryd.prog 40 #[.pointer (some ⟨r, 0, none⟩)] w fun e w' => e = .returned (.int .u64 (x : Int)) ∧ XAt B g r s (a + (encD x).length) .nilIface w' ∧ Kp (GR g r) w w' := by
      by_cases hx0 : x = 0
      · subst hx0
        exact xdiff_zero B g r s a R w hs (by rw [hD]; rfl) h
      · exact xdiff_some B g r s a x R w hs hx0 hx hD h
    exact H.mono fun _ _ ⟨h1, h2, h3⟩ => ⟨_, _, _, h1, h2, h3, f4, .inl ⟨rfl, f1, f2, f3⟩⟩
  · have hbad : ∀ x R, x < 18446744073709551616 → (unp (bs s)).drop a ≠ encD x ++ R := fun x R hx e => hD ⟨x, R, hx, e⟩
    refine (xdiff_bad B g r s a w hs e3 hbad h).mono ?_
    rintro e w2 ⟨v, a', T, x, h1, h2, h3, h4, h5⟩
    have hq := xor_nat (l[m]'hml) v (hl _ (List.getElem_mem hml)) ⟨h2, h3⟩
    refine ⟨_, _, _, h1, h4, h5, ?_, .inr ⟨⟨_, _, rfl⟩, xst_stuck s n l a hln (by rintro rfl; simp at hm) (nat_u64 l hl) e1 hbad⟩⟩
    intro y hy
    rcases List.mem_append.1 hy with hy | hy
    · exact hl y hy
    · rw [List.mem_singleton.1 hy]; exact ⟨hq.1, hq.2.1⟩
set_option maxHeartbeats 4000000 in
set_option maxRecDepth 100000 in
theorem xorGet_any (s : ByteArray) (count : Int) (w : World) (hs : s.size ≤ 140737488351232) (h0 : 0 ≤ count) (h1 : count ≤ 20000) :
    Calls Tryd.prog 32 #[.string s, .int .i64 count] w (XGot s count.toNat w) := by
  obtain ⟨n, rfl⟩ := Int.eq_ofNat_of_zero_le h0
  rw [Int.toNat_natCast]
  have HB := Aside0.mk (Below.refl w.heap.size w)
  have hn : n ≤ 20000 := by omega
  clear h0
  go_enter Tryd.func32, Tryd.ntmps32
  go_wp2_with (go_at_call 20; refine (newReader_any _ _).mono ?_; rintro e w1 ⟨g, rfl, hr, hb⟩; have HR1 := Aside0.mk hr; have HB1 := Aside0.mk hb; clear hr hb HB)
  have hX : XAt w.heap.size g w1.heap.size s 0 .nilIface (w1.alloc (.cells #[.pointer (some ⟨g, 0, none⟩), .nilIface] 89)) := ⟨HR1.out.below (below_alloc (Below.refl _ _) _), HB1.out.size, by have := blk_lt HR1.out.2; omega, heap_alloc_new _ _⟩
  have HX := Aside0.mk hX
  have HBX := Aside0.mk (HB1.out.alloc HB1.out.size (.cells #[.pointer (some ⟨g, 0, none⟩), .nilIface] 89))
  obtain ⟨r, hr⟩ : ∃ r, w1.heap.size = r := ⟨_, rfl⟩
  rw [hr] at HX ⊢
  have HR := Aside0.mk hr
  clear hX HB1 HR1 hr
  go_loopw [7, 8] (fun v7 v8 w' => ∃ (l : List Int) (A : Option Addr) (c a : Nat) (ev : Value), v7 = .slice A l.length c ∧ v8 = .int .i64 (l.length : Int) ∧ l.length ≤ n ∧ Aside0 (∀ y ∈ l, 0 ≤ y ∧ y < 18446744073709551616) ∧ Aside0 (XAt w.heap.size g r s a ev w') ∧ Aside0 (Kd.R (Kd.int .u64) 34 w' w.heap.size (fun k => ¬ GR g r k) (.slice A l.length c) l) ∧ Aside0 (Below w.heap.size w w') ∧ Aside0 (XSt s n l a ev)) (fun _ v8 _ => n - (intOf v8).toNat)
  case atStart => exact ⟨[], none, 0, 0, .nilIface, rfl, rfl, Nat.zero_le _, ⟨by simp⟩, HX, ⟨Kd.R_nil _ _ _ _ _⟩, HBX, ⟨.inl ⟨rfl, by simp [nat, encL], by simp [nat, encL], by omega⟩⟩⟩
  case round =>
    clear HX HBX
    obtain ⟨l, A, c, a, ev, rfl, rfl, hln, HU, HX, HO, HB, HS⟩ := hrel
    have k0 := HX.out.k0
    have k1 := HX.out.k1
    rcases HS.out with ⟨rfl, e1, e2, e3⟩ | ⟨⟨T, x, rfl⟩, hno⟩
    · have HE := Aside0.mk (And.intro e1 (And.intro e2 e3))
      clear e1 e2 e3
      by_cases hlt : l.length < n
      · have hgr : g < wr.heap.size ∧ r < wr.heap.size := ⟨blk_lt HX.out.1.2, blk_lt HX.out.2.2.2⟩
        have HGR := Aside0.mk hgr
        clear hgr
        by_cases hl0 : l.length = 0
        · obtain rfl : l = [] := List.eq_nil_of_length_eq_zero hl0
          obtain rfl : a = 0 := by rw [HE.out.2.1]; rfl
          have hi0 : (((([] : List Int).length : Nat) : Int) == 0) = true := by decide
          clear hl0
          by_cases h64 : 64 ≤ 8 * s.size
          · obtain ⟨v, hv⟩ : ∃ v, val (((unp (bs s)).drop 0).take 64) = v := ⟨_, rfl⟩
            have hvl : v < 18446744073709551616 := by
              rw [← hv]; exact Nat.lt_of_lt_of_le (val_lt _) (Nat.pow_le_pow_right (n := 2) (by omega) (by rw [List.length_take]; omega : _ ≤ 64))
            have hen : unp (bs s) = encL (nat [(v : Int)]) ++ (unp (bs s)).drop 64 := by
              have h := bitsOf_val ((unp (bs s)).take 64)
              rw [List.drop_zero] at hv
              rw [hv, List.length_take, unp_length, bs_length, Nat.min_eq_left h64] at h
              rw [show nat [(v : Int)] = [v] from rfl, encL_one, h, List.take_append_drop]
            have HV := Aside0.mk (And.intro hvl hen)
            have G := gets_is w.heap.size g r s 0 64 64 (v : Int) wr hs (by decide) (by decide) rfl h64 (by rw [show Int.toNat 64 = 64 from rfl, hv]) HX.out
            clear hv hvl hen
            go_wp2_with (first
              | (go_at_call 39; refine G.mono ?_; rintro e w2 ⟨rfl, hx, hk⟩; have HX2 := Aside0.mk hx; have HB2 := Aside0.mk (hk.below HB.out (fun k hk => hk.elim (fun e => e ▸ HX.out.1.1) (fun e => e ▸ HX.out.2.1))); have HO2 := Aside0.mk (hk.row HO.out (fun k hk => hk)); have hz2 := hk.size; clear HX HB HO hx hk k0 k1; have HB := HB2; have HO := HO2)
              | ((with_reducible refine gate_builtin (b := .append) (xs := #[.tmp 34, .tmp 37]) rfl ?_); at_builtin; refine Kd.R_append (Kd.int .u64) (w0 := w) w.heap.size rfl (.tmp 34) (.tmp 37) 60 34 (.int .u64 0) 8 rfl Tryd.underlying60 info_u64 rfl (by decide) (by omega) (.slice A ([] : List Int).length c) ([] : List Int) (v : Int) [.int .u64 (v : Int)] (fun k => ¬ GR g r k) (fun _ => False) rfl rfl ?aP (fun _ hk => hk.elim) ?aF ?aO ?aB ?aS ?aL ?_; (case aP => exact rfl); (case aB => exact (by repeat (first | (with_reducible exact HB.out) | apply below_alloc | apply pw_below_drewN | apply below_drew1))); (case aF => exact (fun k hk e => by have := HGR.out; rcases e with rfl | rfl <;> omega)); (case aO => exact (by (with_reducible repeat (first | apply Kd.R_alloc | apply Kd.R_drewN | apply Kd.R_drew)); exact HO.out)); (case aS => exact (below_size (by repeat (first | (with_reducible exact HB.out) | apply below_alloc | apply pw_below_drewN | apply below_drew1)))); (case aL => simp); intro va wa ho hb hg hat; have HX3 := Aside0.mk (HX2.out.grown hg HO.out.1); have n0_ := Aside0.mk hb; have n1_ := Aside0.mk ho; clear HB HO; have HB := n0_; have HO := n1_; clear n0_ n1_ ho hb hg hat; obtain ⟨A', c', hva⟩ := Kd.R_slice HO.out; subst hva))
            go_roundw
            case rel => exact ⟨[(v : Int)], A', c', 64, .nilIface, rfl, rfl, by simp; omega, ⟨by intro y hy; rw [List.mem_singleton.1 hy]; have := HV.out.1; omega⟩, HX3, HO, HB, ⟨.inl ⟨rfl, HV.out.2, by simp [nat, encL, encT, bitsOf_length], h64⟩⟩⟩
            case measure => simp [intOf]; omega
          · obtain ⟨f, hf⟩ : ∃ f, 8 * s.size = f := ⟨_, rfl⟩
            have HN := Aside0.mk (xst_stuck0 s n (by simp at hlt; omega) (by omega))
            have G := gets_short w.heap.size g r s 0 f 64 wr hs (by decide) (by decide) (by omega) (by omega) HX.out
            clear hf h64
            go_wp2_with (first
              | (go_at_call 39; refine G.mono ?_; rintro e w2 ⟨uT, ux, rfl, hx, hk⟩; have HX2 := Aside0.mk hx; have HB2 := Aside0.mk (hk.below HB.out (fun k hk => hk.elim (fun e => e ▸ HX.out.1.1) (fun e => e ▸ HX.out.2.1))); have HO2 := Aside0.mk (hk.row HO.out (fun k hk => hk)); have hz2 := hk.size; clear HX HB HO hx hk k0 k1; have HB := HB2; have HO := HO2)
              | ((with_reducible refine gate_builtin (b := .append) (xs := #[.tmp 34, .tmp 37]) rfl ?_); at_builtin; refine Kd.R_append (Kd.int .u64) (w0 := w) w.heap.size rfl (.tmp 34) (.tmp 37) 60 34 (.int .u64 0) 8 rfl Tryd.underlying60 info_u64 rfl (by decide) (by omega) (.slice A ([] : List Int).length c) ([] : List Int) 0 [.int .u64 0] (fun k => ¬ GR g r k) (fun _ => False) rfl rfl ?aP (fun _ hk => hk.elim) ?aF ?aO ?aB ?aS ?aL ?_; (case aP => exact rfl); (case aB => exact (by repeat (first | (with_reducible exact HB.out) | apply below_alloc | apply pw_below_drewN | apply below_drew1))); (case aF => exact (fun k hk e => by have := HGR.out; rcases e with rfl | rfl <;> omega)); (case aO => exact (by (with_reducible repeat (first | apply Kd.R_alloc | apply Kd.R_drewN | apply Kd.R_drew)); exact HO.out)); (case aS => exact (below_size (by repeat (first | (with_reducible exact HB.out) | apply below_alloc | apply pw_below_drewN | apply below_drew1)))); (case aL => simp); intro va wa ho hb hg hat; have HX3 := Aside0.mk (HX2.out.grown hg HO.out.1); have n0_ := Aside0.mk hb; have n1_ := Aside0.mk ho; clear HB HO; have HB := n0_; have HO := n1_; clear n0_ n1_ ho hb hg hat; obtain ⟨A', c', hva⟩ := Kd.R_slice HO.out; subst hva))
            go_roundw
            case rel => exact ⟨[0], A', c', 0, .iface uT ux, rfl, rfl, by simp; omega, ⟨by intro y hy; rw [List.mem_singleton.1 hy]; decide⟩, HX3, HO, HB, ⟨.inr ⟨⟨_, _, rfl⟩, HN.out⟩⟩⟩
            case measure => simp [intOf]; omega
        · obtain ⟨m, hm⟩ : ∃ m, l.length = m + 1 := ⟨l.length - 1, by omega⟩
          have hml : m < l.length := by omega
          obtain ⟨ad, rfl, -⟩ := cellAt (R_C HO.out).1 m hml
          have hcellOf : ∀ w', Kd.R (Kd.int .u64) 34 w' w.heap.size (fun k => ¬ GR g r k) (.slice (some ad) l.length c) l → w'.cell? (ad.add m) = some (.int .u64 l[m]) := by
            intro w' h
            obtain ⟨ad', e', hc⟩ := cellAt (R_C h).1 m hml
            injection e' with e'
            subst e'
            exact hc
          have G := fun w' => xget_step w.heap.size g r s n l a m w' hs hml hm hlt HU.out HE.out.1 HE.out.2.1 HE.out.2.2
          have HM := Aside0.mk hm
          have hm2 : (l.length : Int) - 1 = (m : Int) := by omega
          have hi0 : ((l.length : Int) == 0) = false := by rw [beq_eq_false_iff_ne]; omega
          clear hm hl0
          go_wp2_with fail
          have hw64 : wrap64 (m : Int) = (m : Int) := by unfold wrap64; omega
          have hmi : (m : Int) < (l.length : Int) := by omega
          have hmi0 : (0 : Int) ≤ (m : Int) := by omega
          refine start_ (n := 12) (S := fun w' => w'.cell? (ad.add m) = some (.int .u64 l[m])) (ds := [10]) #[false, false, false, false, false, false, false, false, false, false, false, false] (by kernel_rfl) rfl rfl ((hcellOf _ (Kd.R_drew HO.out))) (fun hHeld => ?_)
          refine pure_ (i := 0) (N := some 39) (v := ?_) (a' := ?_) #[true, false, false, false, false, false, false, false, false, false, false, false] rfl rfl (by kernel_rfl) (fun _ _ _ h => h) (Or.inl ⟨by rfl, ?_⟩) ?_ ?_
          rotate_left
          · intro w'
            go_simp
            with_reducible rfl
          rotate_left
          · simp only [Act.put, List.setIfInBounds_toArray, List.set_cons_zero, List.set_cons_succ, i64_w, i32_w]
            rfl
          refine pure_ (i := 1) (N := some 40) (v := ?_) (a' := ?_) #[true, true, false, false, false, false, false, false, false, false, false, false] rfl rfl (by kernel_rfl) (fun _ _ _ h => h) (Or.inl ⟨by rfl, ?_⟩) ?_ ?_
          rotate_left
          · intro w'
            go_simp
            with_reducible rfl
          rotate_left
          · simp only [Act.put, List.setIfInBounds_toArray, List.set_cons_zero, List.set_cons_succ, i64_w, i32_w]
            rfl
          refine pure_ (i := 2) (N := some 41) (v := ?_) (a' := ?_) #[true, true, true, false, false, false, false, false, false, false, false, false] rfl rfl (by kernel_rfl) (fun _ _ _ h => h) (Or.inl ⟨by rfl, ?_⟩) ?_ ?_
          rotate_left
          · intro w'
            go_simp
            with_reducible rfl
          rotate_left
          · simp only [Act.put, List.setIfInBounds_toArray, List.set_cons_zero, List.set_cons_succ, i64_w, i32_w]
            rfl
          refine pure_ (i := 3) (N := some 42) (v := ?_) (a' := ?_) #[true, true, true, true, false, false, false, false, false, false, false, false] rfl rfl (by kernel_rfl) (fun _ _ _ h => h) (Or.inl ⟨by rfl, ?_⟩) ?_ ?_
          rotate_left
          · intro w'
            go_simp
            with_reducible rfl
          rotate_left
          · simp only [Act.put, List.setIfInBounds_toArray, List.set_cons_zero, List.set_cons_succ, i64_w, i32_w]
            rfl
          refine pure_ (i := 4) (N := some 43) (v := ?_) (a' := ?_) #[true, true, true, true, true, false, false, false, false, false, false, false] rfl rfl (by kernel_rfl) (fun _ _ _ h => h) (Or.inl ⟨by rfl, ?_⟩) ?_ ?_
          rotate_left
          · intro w'
            go_simp
            with_reducible rfl
          rotate_left
          · simp only [Act.put, List.setIfInBounds_toArray, List.set_cons_zero, List.set_cons_succ, i64_w, i32_w]
            rfl
          refine pure_ (i := 6) (N := some 45) (v := ?_) (a' := ?_) #[true, true, true, true, true, false, true, false, false, false, false, false] rfl rfl (by kernel_rfl) (fun _ _ _ h => h) (Or.inl ⟨by rfl, ?_⟩) ?_ ?_
          rotate_left
          · intro w'
            go_simp
            with_reducible rfl
          rotate_left
          · simp only [Act.put, List.setIfInBounds_toArray, List.set_cons_zero, List.set_cons_succ, i64_w, i32_w]
            rfl
          refine take_ (i := 5) (N := some 44) (v := ?_) (a' := ?_) #[true, true, true, true, true, true, true, false, false, false, false, false] rfl rfl (by kernel_rfl) (fun _ _ _ h => h) (Or.inl ⟨by rfl, ?_⟩) hHeld ?_ ?_
          rotate_left
          · intro w' s0
            go_simp
            with_reducible rfl
          rotate_left
          · simp only [Act.put, List.setIfInBounds_toArray, List.set_cons_zero, List.set_cons_succ, i64_w, i32_w]
            rfl
          refine one_ (i := 7) (N := some 46) #[true, true, true, true, true, true, true, true, false, false, false, false] rfl rfl (by kernel_rfl) (by decide) (fun K hK => ?_)
          refine goes_ Tryd.func40 (by kernel_rfl) rfl #[.pointer (some ⟨r, 0, none⟩)] (by rfl) rfl rfl (by simp only [List.map_toArray, List.map_cons, List.map_nil]; rfl) ?_
          with_reducible refine (G _ HX.out.drew).mono ?_
          rintro e w2 ⟨v, a', ev', rfl, hx, hk, hu, hp⟩
          refine ⟨_, rfl, ?_⟩
          have HX2 := Aside0.mk hx
          have HB2 := Aside0.mk (hk.below HB.out.drew (fun k hk => hk.elim (fun e => e ▸ HX.out.1.1) (fun e => e ▸ HX.out.2.1)))
          have HO2 := Aside0.mk (hk.row (Kd.R_drew HO.out) (fun k hk => hk))
          have hz2 : wr.heap.size ≤ w2.heap.size := hk.size
          have HU2 := Aside0.mk hu
          have HS2 := Aside0.mk hp
          clear hx hk hu hp
          refine hK.out _ _ ((hcellOf _ HO2.out)) (fun hHeld => ?_)
          clear hK K
          refine norm_ (a' := ?_) ?_ ?_
          rotate_left
          · show Act.put _ (some 46) _ = _
            simp only [Act.put, List.setIfInBounds_toArray, List.set_cons_zero, List.set_cons_succ, i64_w, i32_w]
            rfl
          refine pure_ (i := 8) (N := some 47) (v := ?_) (a' := ?_) #[true, true, true, true, true, true, true, true, true, false, false, false] rfl rfl (by kernel_rfl) (fun _ _ _ h => h) (Or.inl ⟨by rfl, ?_⟩) ?_ ?_
          rotate_left
          · intro w'
            go_simp
            with_reducible rfl
          rotate_left
          · simp only [Act.put, List.setIfInBounds_toArray, List.set_cons_zero, List.set_cons_succ, i64_w, i32_w]
            rfl
          refine one_ (i := 9) (N := some 48) #[true, true, true, true, true, true, true, true, true, true, false, false] rfl rfl (by kernel_rfl) (by decide) (fun K hK => ?_)
          refine value_ (w1 := ?_) (v := ?_) (by rfl) rfl ?_ ?_
          rotate_left 2
          · go_simp
            constructor
            · rfl
            · rfl
          refine hK.out _ _ ((hcellOf _ (Kd.R_alloc HO2.out _))) (fun hHeld => ?_)
          clear hK K
          refine norm_ (a' := ?_) ?_ ?_
          rotate_left
          · show Act.put _ (some 48) _ = _
            simp only [Act.put, List.setIfInBounds_toArray, List.set_cons_zero, List.set_cons_succ, i64_w, i32_w]
            rfl
          refine last_ (i := 10) (N := some 49) #[true, true, true, true, true, true, true, true, true, true, true, false] rfl rfl (by kernel_rfl) (by decide) (fun K hK => ?_)
          refine Kd.R_append_step (Kd.int .u64) (w0 := w) w.heap.size (by rfl) (.tmp 39) (.tmp 48) 60 34 (.int .u64 0) 8 rfl Tryd.underlying60 info_u64 rfl (by decide) (by omega) (.slice (some ad) l.length c) l (Go.bits .xor .u64 l[m] v) [.int .u64 (Go.bits .xor .u64 l[m] v)] (fun k => ¬ GR g r k) (fun _ => False) (by rfl) (by rfl) rfl (fun _ hk => hk.elim) (fun k hk e => by have := HGR.out; rcases e with rfl | rfl <;> omega) HO2.out HB2.out HB2.out.size (by omega) ?_
          intro va wa ho hb hg hat
          have HX3 := Aside0.mk (HX2.out.grown hg HO2.out.1)
          have HO3 := Aside0.mk ho
          have HB3 := Aside0.mk hb
          obtain ⟨A', c', hva⟩ := Kd.R_slice ho
          subst hva
          clear ho hb hg hat
          refine hK.out _ _ ?_
          clear hK K
          refine norm_ (a' := ?_) ?_ ?_
          rotate_left
          · show Act.put _ (some 49) _ = _
            simp only [Act.put, List.setIfInBounds_toArray, List.set_cons_zero, List.set_cons_succ, i64_w, i32_w]
            rfl
          refine pure_ (i := 11) (N := some 7) (v := ?_) (a' := ?_) #[true, true, true, true, true, true, true, true, true, true, true, true] rfl rfl (by kernel_rfl) (fun _ _ _ h => h) (Or.inl ⟨by rfl, ?_⟩) ?_ ?_
          rotate_left
          · intro w'
            go_simp
            with_reducible rfl
          rotate_left
          · simp only [Act.put, List.setIfInBounds_toArray, List.set_cons_zero, List.set_cons_succ, i64_w, i32_w]
            rfl
          refine done_ (by kernel_rfl) ?_
          clear hw64
          go_wp2_with fail
          go_roundw
          case rel => exact ⟨l ++ [Go.bits .xor .u64 l[m] v], A', c', a', ev', by rw [List.length_append]; rfl, by rw [List.length_append]; go_num, by rw [List.length_append]; exact hlt, HU2, HX3, HO3, HB3, HS2⟩
          case measure => simp [intOf]; omega
      · obtain rfl : l.length = n := by omega
        obtain ⟨f, hf⟩ : ∃ f, 8 * s.size - a = f := ⟨_, rfl⟩
        have hf2 : a + f = 8 * s.size := by have := HE.out.2.2; omega
        by_cases hz : ∃ k, k < 8 ∧ (unp (bs s)).drop a = List.replicate k false
        · obtain ⟨k, hk, hz⟩ := hz
          obtain rfl : k = f := by have := congrArg List.length hz; rw [List.length_drop, unp_length, bs_length, List.length_replicate] at this; omega
          have HC := Aside0.mk (xst_end_ok s l.length l a k rfl (nat_u64 l HU.out) HE.out.1 hk hz)
          have G := rend_ok w.heap.size g s a k wr hs hf2 hk hz HX.out.1
          clear hz hf hf2
          go_wp2_with (go_at_call 23; refine G.mono ?_; rintro e w2 ⟨rfl, m, hw⟩; have HX2 := Aside0.mk (show XAt w.heap.size g r s a .nilIface w2 by rw [hw]; exact HX.out); have HB2 := Aside0.mk (show Below w.heap.size w w2 by rw [hw]; exact drewN_below HB.out m); have HO2 := Aside0.mk (show Kd.R (Kd.int .u64) 34 w2 w.heap.size (fun k => ¬ GR g r k) (.slice A l.length c) l by rw [hw]; exact Kd.R_drewN HO.out m); have q1 := HX2.out.k1; have f1 := HX2.out.f1; clear hw k0 k1)
          go_ret2
          have HO3 := Kd.R_far HO2.out (p := ⟨r, 1, none⟩) (fun k hk e => hk (.inr e)) .nilIface
          obtain ⟨r1, _, r3⟩ := R_C HO3
          exact .inl ⟨l, A, c, rfl, HC.out, HU.out, r1, r3, HB2.out.setCell (p := ⟨r, 1, none⟩) HX2.out.2.1 _⟩
        · have HC := Aside0.mk (xst_end_bad s l.length l a rfl (nat_u64 l HU.out) HE.out.1 (fun k hk e => hz ⟨k, hk, e⟩))
          have G := rend_bad w.heap.size g s a f wr hs hf2 (fun k hk e => hz ⟨k, hk, e⟩) HX.out.1
          clear hz hf hf2
          go_wp2_with (go_at_call 23; refine G.mono ?_; rintro e w2 ⟨u, E, rfl, hu, hE, hb⟩; obtain ⟨uT, ux, rfl⟩ := hu.iface hE; have HX2 := Aside0.mk (HX.out.below hb); have HB2 := Aside0.mk (below_next HB.out hb); have q1 := HX2.out.k1; have f1 := HX2.out.f1; clear hb hu hE k0 k1)
          have HX3 := Aside0.mk (HX2.out.put (.iface uT ux))
          have HB3 := Aside0.mk (HB2.out.setCell (p := ⟨r, 1, none⟩) HX2.out.2.1 (.iface uT ux))
          obtain ⟨w3, hw3⟩ : ∃ w3, w2.setCell ⟨r, 1, none⟩ (.iface uT ux) = w3 := ⟨_, rfl⟩
          rw [hw3] at HX3 HB3 ⊢
          have k1 := HX3.out.k1
          clear hw3 q1 f1
          go_quiet (fail)
          go_wp2_with fail
          go_ret2
          exact .inr ⟨HC.out, uT, ux, rfl, drewN_below HB3.out _⟩
    · have HN := Aside0.mk hno
      clear hno
      by_cases hlt : l.length < n
      · go_wp2_with fail
        go_quiet (fail)
        go_wp2_with fail
        go_ret2
        exact .inr ⟨HN.out, T, x, rfl, drewN_below HB.out _⟩
      · go_wp2_with fail
        go_quiet (fail)
        go_wp2_with fail
        go_ret2
        exact .inr ⟨HN.out, T, x, rfl, drewN_below HB.out _⟩
end Go.Proofs.YtodhnmflabehhaaDoor
namespace Go.Proofs.YtodhnmflabehhaaDoor
open Go.RowKit Go.Proofs.YtodhnmflabehhaaDoorW.PrintWords Go.Proofs.YtodhnmflabehhaaDoorW.PrintLast Go.Proofs.YtodhnmflabehhaaDoorW.PrintMore Hy

theorem col_uniq {s : ByteArray} {n : Nat} {l m : List Nat} (h : ColX s n l) (h' : ColX s n m) : l = m := by
  obtain ⟨h1, h2, k, hk, e⟩ := h
  obtain ⟨h1', h2', k', hk', e'⟩ := h'
  rw [e] at e'
  obtain ⟨t, rfl, _, _⟩ := encL_inj l m _ _ h2 h2' (by omega) e'
  obtain rfl : t = [] := List.eq_nil_of_length_eq_zero (by rw [List.length_append] at h1'; omega)
  rw [List.append_nil]
theorem nat_inj : ∀ {l m : List Int}, (∀ x ∈ l, 0 ≤ x) → (∀ x ∈ m, 0 ≤ x) → nat l = nat m → l = m := by
  intro l
  induction l with
  | nil => intro m _ _ h; cases m with | nil => rfl | cons y m => simp [nat] at h
  | cons x l ih =>
    intro m h1 h2 h
    cases m with
    | nil => simp [nat] at h
    | cons y m =>
      simp only [nat, List.map_cons, List.cons.injEq] at h
      have := h1 x (by simp)
      have := h2 y (by simp)
      rw [ih (fun z hz => h1 z (by simp [hz])) (fun z hz => h2 z (by simp [hz])) h.2, show x = y by omega]
theorem xorGet_ok (s : ByteArray) (count : Int) (l : List Int) (w : World) (hs : s.size ≤ 140737488351232) (h0 : 0 ≤ count) (h1 : count ≤ 20000) (hx : ∀ x ∈ l, 0 ≤ x ∧ x < 18446744073709551616) (h : ColX s count.toNat (nat l)) :
    Calls Tryd.prog 32 #[.string s, .int .i64 count] w fun e w' => ∃ A c, e = .returned (.tuple #[.slice A l.length c, .nilIface]) ∧ Kd.C (Kd.int .u64) w' A l.length l ∧ l.length ≤ c ∧ Below w.heap.size w w' := by
  refine (xorGet_any s count w hs h0 h1).mono ?_
  rintro e w' (⟨m, A, c, rfl, hm, hu, hC, hc, hb⟩ | ⟨hno, _⟩)
  · obtain rfl : l = m := nat_inj (fun x hx' => (hx x hx').1) (fun x hx' => (hu x hx').1) (col_uniq h hm)
    exact ⟨A, c, rfl, hC, hc, hb⟩
  · exact absurd h (hno _)
theorem xorGet_no (s : ByteArray) (count : Int) (w : World) (hs : s.size ≤ 140737488351232) (h0 : 0 ≤ count) (h1 : count ≤ 20000) (h : ∀ m, ¬ ColX s count.toNat m) :
    Calls Tryd.prog 32 #[.string s, .int .i64 count] w fun e w' => ∃ T x, e = .returned (.tuple #[.slice none 0 0, .iface T x]) ∧ Below w.heap.size w w' := by
  refine (xorGet_any s count w hs h0 h1).mono ?_
  rintro e w' (⟨m, A, c, rfl, hm, hu, hC, hc, hb⟩ | ⟨_, T, x, he, hb⟩)
  · exact absurd hm (h _)
  · exact ⟨T, x, he, hb⟩
theorem colFirst : ColX ⟨#[0, 0, 0, 0, 0, 0, 0, 5, 0]⟩ 2 [5, 5] := by
  refine ⟨rfl, by intro x hx; simp at hx; omega, 7, by omega, ?_⟩
  have : encL [5, 5] = bitsOf 5 64 ++ [false] := by simp [encL, encT, encD]
  rw [this]
  decide +kernel
theorem u64First : ∀ x ∈ ([5, 5] : List Int), 0 ≤ x ∧ x < 18446744073709551616 := by intro x hx; simp at hx; omega
theorem xorPut_first (W : World) : Calls Tryd.prog 29 #[.slice (some ⟨W.heap.size, 0, none⟩) 2 2] (W.alloc (.cells #[.int .u64 5, .int .u64 5] 34)) fun e w' => e = .returned (.tuple #[.string ⟨#[0, 0, 0, 0, 0, 0, 0, 5, 0]⟩, .nilIface]) ∧ Below (W.alloc (.cells #[.int .u64 5, .int .u64 5] 34)).heap.size (W.alloc (.cells #[.int .u64 5, .int .u64 5] 34)) w' := by
  have h := xorPut_ok (some ⟨W.heap.size, 0, none⟩) 2 [5, 5] (W.alloc (.cells (nums .u64 [5, 5]).toArray 34)) (C_lit W .u64 [5, 5] _ (by decide)) (by decide) (by decide) u64First
  rw [show nat [5, 5] = [5, 5] from rfl, col_text _ _ _ colFirst] at h
  exact h
theorem xorGet_first (w : World) : Calls Tryd.prog 32 #[.string ⟨#[0, 0, 0, 0, 0, 0, 0, 5, 0]⟩, .int .i64 2] w fun e w' => ∃ A c, e = .returned (.tuple #[.slice A 2 c, .nilIface]) ∧ Kd.C (Kd.int .u64) w' A 2 [5, 5] ∧ 2 ≤ c ∧ Below w.heap.size w w' :=
  xorGet_ok ⟨#[0, 0, 0, 0, 0, 0, 0, 5, 0]⟩ 2 [5, 5] w (by decide) (by decide) (by decide) u64First colFirst
theorem nums_first (A : Option Addr) (c : Nat) (W : World) (h : Kd.C (Kd.int .u64) W A 2 [5, 5]) (hc : 2 ≤ c) :
    Calls Tryd.prog 31 #[.slice A 2 c, .slice (some ⟨W.heap.size, 0, none⟩) 2 2] (W.alloc (.cells #[.int .u64 5, .int .u64 5] 34)) fun e w' => e = .returned (.bool true) ∧ Drawn0 (W.alloc (.cells #[.int .u64 5, .int .u64 5] 34)) w' := by
  have h := nums_any A c [5, 5] (some ⟨W.heap.size, 0, none⟩) 2 [5, 5] (W.alloc (.cells (nums .u64 [5, 5]).toArray 34)) (Kd.C_alloc h _) hc (C_lit W .u64 [5, 5] _ (by decide)) (by decide) (by decide)
  exact h
set_option maxHeartbeats 1000000 in
theorem xor_first (w : World) : Calls Tryd.prog 27 #[] w fun e w' => e = .returned (.bool true) ∧ Below w.heap.size w w' := by
  have HB := Aside0.mk (Below.refl w.heap.size w)
  go_enter Tryd.func27, Tryd.ntmps27
  go_wp2_with (first
    | (go_at_call 29; refine (xorPut_first _).mono ?_; rintro e wb ⟨rfl, hb⟩; have HBn : Aside0 (Below w.heap.size w wb) := ⟨below_next (by repeat (first | (with_reducible exact HB.out) | apply below_alloc | apply pw_below_drewN | apply below_drew1)) hb⟩; clear HB hb; have HB := HBn; clear HBn)
    | (go_at_call 32; refine (xorGet_first _).mono ?_; rintro e wb ⟨A, c, rfl, hC, hc, hb⟩; have HBn : Aside0 (Below w.heap.size w wb) := ⟨below_next HB.out hb⟩; clear HB hb; have HB := HBn; clear HBn; have HC := Aside0.mk hC; clear hC)
    | (go_at_call 31; refine (nums_first _ _ _ HC.out hc).mono ?_; rintro e wd ⟨rfl, ⟨nd, rfl⟩⟩))
  go_ret
  exact ⟨rfl, (by repeat (first | (with_reducible exact HB.out) | apply below_alloc | apply pw_below_drewN | apply below_drew1))⟩
end Go.Proofs.YtodhnmflabehhaaDoor
namespace Go.Proofs.YtodhnmflabehhaaDoor
open Go.RowKit Go.Proofs.YtodhnmflabehhaaDoorW.PrintWords Go.Extern.Stop Go.Stop Go.Extern

theorem rlm (z : Sem Value) (f : TypeId → Addr → Nat → Nat → Sem Value) (v : Value) :
    ReflectliteValue.method z f #[v] = (do match ← ReflectliteValue.parts v with | none => z | some (t, a, fl) => f t a fl (fl % 32)) := rfl
theorem rls (v x : Value) : ReflectliteValue.set #[v, x] = (do
    let (some (dst, a, fl), some (src, b, _)) := (← ReflectliteValue.parts v, ← ReflectliteValue.parts x)
      | unsupported (.noEntry "extern/(internal/reflectlite.Value).Set.zeroValue")
    if fl / ReflectliteValue.flagAddr % 2 == 0 then unsupported (.noEntry "extern/(internal/reflectlite.Value).Set.unaddressable")
    let val ← loadVar src b
    if ← Rtype.directlyAssignable dst src then storeVar dst a val
    else if ← Rtype.implements dst src then
      if (← Rtype.kind src) == 20 then
        match val with
        | .nilIface => unsupported (.noEntry "extern/reflectlite: a nil value of one interface type handed on as a value of another")
        | _ => storeVar dst a val
      else storeVar dst a (.iface src val)
    else panicString ("reflectlite.Set: value of type " ++ (← Rtype.spelt src) ++ " is not assignable to type " ++ (← Rtype.spelt dst))
    pure (.tuple #[])) := rfl
theorem asMethod_Kind (h : Value) (w : World) : (Go.method 246 106 (.agg #[h]) "Kind").run Tryd.prog w = .ok (62, h) w := by kernel_rfl
theorem asMethod_Elem (h : Value) (w : World) : (Go.method 246 106 (.agg #[h]) "Elem").run Tryd.prog w = .ok (74, .agg #[h]) w := by kernel_rfl
theorem asMethod_Implements (h : Value) (w : World) : (Go.method 246 106 (.agg #[h]) "Implements").run Tryd.prog w = .ok (75, .agg #[h]) w := by kernel_rfl
theorem asMethod_AssignableTo (h : Value) (w : World) : (Go.method 246 106 (.agg #[h]) "AssignableTo").run Tryd.prog w = .ok (72, .agg #[h]) w := by kernel_rfl

/-! ### the target Code -/
theorem asCode_valueOfP (a : Addr) (w : World) : (ReflectliteValue.unpack (.iface 76 (.pointer (some a)))).run Tryd.prog w = .ok (.agg #[.pointer (some ⟨1, 76, none⟩), .pointer (some ⟨w.heap.size, 0, none⟩), .int .u64 150]) (w.alloc (.cells #[.pointer (some a)] 76)) := by kernel_rfl
theorem asCode_type (a : Addr) (w : World) : (ReflectliteValue.methodAny (ReflectliteValue.valueError "reflectlite.Value.Type" 0) (fun t _ _ _ => ReflectliteType.toType t) #[.agg #[.pointer (some ⟨1, 76, none⟩), .pointer (some a), .int .u64 150]]).run Tryd.prog w = .ok (.iface 106 (.agg #[.pointer (some ⟨1, 76, none⟩)])) w := by kernel_rfl
theorem asCode_kindP (w : World) : ((ReflectliteType.abiMethod fun t => (fun a : Nat => Value.int IntKind.u8 (a : Int)) <$> Rtype.kind t) #[.pointer (some ⟨1, 76, none⟩)]).run Tryd.prog w = .ok (.int .u8 22) w := by kernel_rfl
theorem asCode_kind (w : World) : ((ReflectliteType.abiMethod fun t => (fun a : Nat => Value.int IntKind.u8 (a : Int)) <$> Rtype.kind t) #[.pointer (some ⟨1, 37, none⟩)]).run Tryd.prog w = .ok (.int .u8 2) w := by kernel_rfl
theorem asCode_partsP (a : Addr) (w : World) : (ReflectliteValue.parts (.agg #[.pointer (some ⟨1, 76, none⟩), .pointer (some a), .int .u64 150])).run Tryd.prog w = .ok (some (76, a, 150)) w := by kernel_rfl
theorem asCode_isNil (a b : Addr) (W : World) (ha : W.cell? a = some (.pointer (some b))) :
    (ReflectliteValue.method (ReflectliteValue.valueError "reflectlite.Value.IsNil" 0) ReflectliteValue.isNil #[.agg #[.pointer (some ⟨1, 76, none⟩), .pointer (some a), .int .u64 150]]).run Tryd.prog W = .ok (.bool false) W := by
  rw [rlm]
  simp only [Sem.run_bind, asCode_partsP, Result.andThen]
  simp [ReflectliteValue.isNil, loadVar, isAgg, underlying, Tryd.underlying76, ha, Result.andThen]
theorem asCode_elem (w : World) : (ReflectliteType.method ReflectliteType.elem #[.agg #[.pointer (some ⟨1, 76, none⟩)]]).run Tryd.prog w = .ok (.iface 106 (.agg #[.pointer (some ⟨1, 37, none⟩)])) w := by kernel_rfl
theorem asCode_implements (w : World) : (ReflectliteType.relation "Implements" ReflectliteType.implements_ #[.agg #[.pointer (some ⟨1, 37, none⟩)], .iface 106 (.agg #[.pointer (some ⟨1, 32, none⟩)])]).run Tryd.prog w = .ok (.bool true) w := by kernel_rfl
theorem asCode_elemOfP (w : World) : (Rtype.elem? 76).run Tryd.prog w = .ok (some 37) w := by kernel_rfl
theorem asCode_mk (b : Addr) (w : World) : (ReflectliteValue.mk 37 b ReflectliteValue.flagAddr).run Tryd.prog w = .ok (.agg #[.pointer (some ⟨1, 37, none⟩), .pointer (some b), .int .u64 386]) w := by kernel_rfl
theorem asCode_elemV (a b : Addr) (W : World) (ha : W.cell? a = some (.pointer (some b))) :
    (ReflectliteValue.method (ReflectliteValue.valueError "reflectlite.Value.Elem" 0) ReflectliteValue.elem #[.agg #[.pointer (some ⟨1, 76, none⟩), .pointer (some a), .int .u64 150]]).run Tryd.prog W = .ok (.agg #[.pointer (some ⟨1, 37, none⟩), .pointer (some b), .int .u64 386]) W := by
  rw [rlm]
  simp only [Sem.run_bind, asCode_partsP, Result.andThen]
  simp [ReflectliteValue.elem, loadVar, isAgg, underlying, Tryd.underlying76, ha, Result.andThen, asCode_elemOfP, asCode_mk]
theorem asCode_partsA (a : Addr) (w : World) : (ReflectliteValue.parts (.agg #[.pointer (some ⟨1, 37, none⟩), .pointer (some a), .int .u64 386])).run Tryd.prog w = .ok (some (37, a, 386)) w := by kernel_rfl
theorem asCode_parts (a : Addr) (w : World) : (ReflectliteValue.parts (.agg #[.pointer (some ⟨1, 37, none⟩), .pointer (some a), .int .u64 130])).run Tryd.prog w = .ok (some (37, a, 130)) w := by kernel_rfl
theorem asCode_direct (w : World) : (Rtype.directlyAssignable 37 37).run Tryd.prog w = .ok true w := by kernel_rfl
theorem asCode_valueOf (c : Int) (w : World) : (ReflectliteValue.unpack (.iface 37 (.int .i64 c))).run Tryd.prog w = .ok (.agg #[.pointer (some ⟨1, 37, none⟩), .pointer (some ⟨w.heap.size, 0, none⟩), .int .u64 130]) (w.alloc (.cells #[.int .i64 c] 37)) := by kernel_rfl
theorem asCode_set (a b : Addr) (c : Int) (old : Value) (W : World) (hb : W.cell? b = some (.int .i64 c)) (ht : W.cell? a = some old) (hf : W.frozen? a = false) :
    (ReflectliteValue.set #[.agg #[.pointer (some ⟨1, 37, none⟩), .pointer (some a), .int .u64 386], .agg #[.pointer (some ⟨1, 37, none⟩), .pointer (some b), .int .u64 130]]).run Tryd.prog W = .ok (.tuple #[]) (W.setCell a (.int .i64 c)) := by
  rw [rls]
  simp only [Sem.run_bind, asCode_partsA, asCode_parts, Result.andThen]
  simp [ReflectliteValue.flagAddr, loadVar, isAgg, underlying, Tryd.underlying37, hb, Result.andThen, asCode_direct, storeVar, Value.cells, storeCells, Addr.add]
  rw [run_store Tryd.prog W a _ _ (by rfl)]
  simp [ht, hf]
theorem asCode_typeOf (v : Value) (w : World) : (ReflectliteType.typeOf #[.iface 37 v]).run Tryd.prog w = .ok (.iface 106 (.agg #[.pointer (some ⟨1, 37, none⟩)])) w := by kernel_rfl
theorem asCode_noAs (v : Value) (xT : TypeId) (w : World) : (Instr.typeAssert (.iface 37 v) xT 111 true).run Tryd.prog w = .ok (.tuple #[.nilIface, .bool false]) w := run_typeAssert_lacksB Tryd.underlying111 (by kernel_rfl) (by kernel_rfl) v xT w
theorem asCode_fromCode (w : World) : (ReflectliteType.relation "AssignableTo" ReflectliteType.assignableTo #[.agg #[.pointer (some ⟨1, 37, none⟩)], .iface 106 (.agg #[.pointer (some ⟨1, 37, none⟩)])]).run Tryd.prog w = .ok (.bool true) w := by kernel_rfl
theorem asCode_fromWhere (w : World) : (ReflectliteType.relation "AssignableTo" ReflectliteType.assignableTo #[.agg #[.pointer (some ⟨1, 79, none⟩)], .iface 106 (.agg #[.pointer (some ⟨1, 37, none⟩)])]).run Tryd.prog w = .ok (.bool false) w := by kernel_rfl
theorem asCode_noUnwrap (v : Value) (xT : TypeId) (w : World) : (Instr.typeAssert (.iface 37 v) xT 114 true).run Tryd.prog w = .ok (.tuple #[.nilIface, .bool false]) w := run_typeAssert_lacksB Tryd.underlying114 (by kernel_rfl) (by kernel_rfl) v xT w
theorem asCode_noUnwraps (v : Value) (xT : TypeId) (w : World) : (Instr.typeAssert (.iface 37 v) xT 115 true).run Tryd.prog w = .ok (.tuple #[.nilIface, .bool false]) w := run_typeAssert_lacksB Tryd.underlying115 (by kernel_rfl) (by kernel_rfl) v xT w

/-! ### the target Where -/
theorem asWhere_valueOfP (a : Addr) (w : World) : (ReflectliteValue.unpack (.iface 80 (.pointer (some a)))).run Tryd.prog w = .ok (.agg #[.pointer (some ⟨1, 80, none⟩), .pointer (some ⟨w.heap.size, 0, none⟩), .int .u64 150]) (w.alloc (.cells #[.pointer (some a)] 80)) := by kernel_rfl
theorem asWhere_type (a : Addr) (w : World) : (ReflectliteValue.methodAny (ReflectliteValue.valueError "reflectlite.Value.Type" 0) (fun t _ _ _ => ReflectliteType.toType t) #[.agg #[.pointer (some ⟨1, 80, none⟩), .pointer (some a), .int .u64 150]]).run Tryd.prog w = .ok (.iface 106 (.agg #[.pointer (some ⟨1, 80, none⟩)])) w := by kernel_rfl
theorem asWhere_kindP (w : World) : ((ReflectliteType.abiMethod fun t => (fun a : Nat => Value.int IntKind.u8 (a : Int)) <$> Rtype.kind t) #[.pointer (some ⟨1, 80, none⟩)]).run Tryd.prog w = .ok (.int .u8 22) w := by kernel_rfl
theorem asWhere_kind (w : World) : ((ReflectliteType.abiMethod fun t => (fun a : Nat => Value.int IntKind.u8 (a : Int)) <$> Rtype.kind t) #[.pointer (some ⟨1, 79, none⟩)]).run Tryd.prog w = .ok (.int .u8 22) w := by kernel_rfl
theorem asWhere_partsP (a : Addr) (w : World) : (ReflectliteValue.parts (.agg #[.pointer (some ⟨1, 80, none⟩), .pointer (some a), .int .u64 150])).run Tryd.prog w = .ok (some (80, a, 150)) w := by kernel_rfl
theorem asWhere_isNil (a b : Addr) (W : World) (ha : W.cell? a = some (.pointer (some b))) :
    (ReflectliteValue.method (ReflectliteValue.valueError "reflectlite.Value.IsNil" 0) ReflectliteValue.isNil #[.agg #[.pointer (some ⟨1, 80, none⟩), .pointer (some a), .int .u64 150]]).run Tryd.prog W = .ok (.bool false) W := by
  rw [rlm]
  simp only [Sem.run_bind, asWhere_partsP, Result.andThen]
  simp [ReflectliteValue.isNil, loadVar, isAgg, underlying, Tryd.underlying80, ha, Result.andThen]
theorem asWhere_elem (w : World) : (ReflectliteType.method ReflectliteType.elem #[.agg #[.pointer (some ⟨1, 80, none⟩)]]).run Tryd.prog w = .ok (.iface 106 (.agg #[.pointer (some ⟨1, 79, none⟩)])) w := by kernel_rfl
theorem asWhere_implements (w : World) : (ReflectliteType.relation "Implements" ReflectliteType.implements_ #[.agg #[.pointer (some ⟨1, 79, none⟩)], .iface 106 (.agg #[.pointer (some ⟨1, 32, none⟩)])]).run Tryd.prog w = .ok (.bool true) w := by kernel_rfl
theorem asWhere_elemOfP (w : World) : (Rtype.elem? 80).run Tryd.prog w = .ok (some 79) w := by kernel_rfl
theorem asWhere_mk (b : Addr) (w : World) : (ReflectliteValue.mk 79 b ReflectliteValue.flagAddr).run Tryd.prog w = .ok (.agg #[.pointer (some ⟨1, 79, none⟩), .pointer (some b), .int .u64 406]) w := by kernel_rfl
theorem asWhere_elemV (a b : Addr) (W : World) (ha : W.cell? a = some (.pointer (some b))) :
    (ReflectliteValue.method (ReflectliteValue.valueError "reflectlite.Value.Elem" 0) ReflectliteValue.elem #[.agg #[.pointer (some ⟨1, 80, none⟩), .pointer (some a), .int .u64 150]]).run Tryd.prog W = .ok (.agg #[.pointer (some ⟨1, 79, none⟩), .pointer (some b), .int .u64 406]) W := by
  rw [rlm]
  simp only [Sem.run_bind, asWhere_partsP, Result.andThen]
  simp [ReflectliteValue.elem, loadVar, isAgg, underlying, Tryd.underlying80, ha, Result.andThen, asWhere_elemOfP, asWhere_mk]
theorem asWhere_partsA (a : Addr) (w : World) : (ReflectliteValue.parts (.agg #[.pointer (some ⟨1, 79, none⟩), .pointer (some a), .int .u64 406])).run Tryd.prog w = .ok (some (79, a, 406)) w := by kernel_rfl
theorem asWhere_parts (a : Addr) (w : World) : (ReflectliteValue.parts (.agg #[.pointer (some ⟨1, 79, none⟩), .pointer (some a), .int .u64 150])).run Tryd.prog w = .ok (some (79, a, 150)) w := by kernel_rfl
theorem asWhere_direct (w : World) : (Rtype.directlyAssignable 79 79).run Tryd.prog w = .ok true w := by kernel_rfl
theorem asWhere_valueOf (x : Addr) (w : World) : (ReflectliteValue.unpack (.iface 79 (.pointer (some x)))).run Tryd.prog w = .ok (.agg #[.pointer (some ⟨1, 79, none⟩), .pointer (some ⟨w.heap.size, 0, none⟩), .int .u64 150]) (w.alloc (.cells #[.pointer (some x)] 79)) := by kernel_rfl
theorem asWhere_set (a b : Addr) (x : Addr) (old : Value) (W : World) (hb : W.cell? b = some (.pointer (some x))) (ht : W.cell? a = some old) (hf : W.frozen? a = false) :
    (ReflectliteValue.set #[.agg #[.pointer (some ⟨1, 79, none⟩), .pointer (some a), .int .u64 406], .agg #[.pointer (some ⟨1, 79, none⟩), .pointer (some b), .int .u64 150]]).run Tryd.prog W = .ok (.tuple #[]) (W.setCell a (.pointer (some x))) := by
  rw [rls]
  simp only [Sem.run_bind, asWhere_partsA, asWhere_parts, Result.andThen]
  simp [ReflectliteValue.flagAddr, loadVar, isAgg, underlying, Tryd.underlying79, hb, Result.andThen, asWhere_direct, storeVar, Value.cells, storeCells, Addr.add]
  rw [run_store Tryd.prog W a _ _ (by rfl)]
  simp [ht, hf]
theorem asWhere_typeOf (v : Value) (w : World) : (ReflectliteType.typeOf #[.iface 79 v]).run Tryd.prog w = .ok (.iface 106 (.agg #[.pointer (some ⟨1, 79, none⟩)])) w := by kernel_rfl
theorem asWhere_noAs (v : Value) (xT : TypeId) (w : World) : (Instr.typeAssert (.iface 79 v) xT 111 true).run Tryd.prog w = .ok (.tuple #[.nilIface, .bool false]) w := run_typeAssert_lacksB Tryd.underlying111 (by kernel_rfl) (by kernel_rfl) v xT w
theorem asWhere_fromCode (w : World) : (ReflectliteType.relation "AssignableTo" ReflectliteType.assignableTo #[.agg #[.pointer (some ⟨1, 37, none⟩)], .iface 106 (.agg #[.pointer (some ⟨1, 79, none⟩)])]).run Tryd.prog w = .ok (.bool false) w := by kernel_rfl
theorem asWhere_fromWhere (w : World) : (ReflectliteType.relation "AssignableTo" ReflectliteType.assignableTo #[.agg #[.pointer (some ⟨1, 79, none⟩)], .iface 106 (.agg #[.pointer (some ⟨1, 79, none⟩)])]).run Tryd.prog w = .ok (.bool true) w := by kernel_rfl
theorem asWhere_hasUnwrap (v : Value) (xT : TypeId) (w : World) : (Instr.typeAssert (.iface 79 v) xT 114 true).run Tryd.prog w = .ok (.tuple #[.iface 79 v, .bool true]) w := run_typeAssert_hasB Tryd.underlying114 (by kernel_rfl) v xT w
theorem asWhere_unwrapM (v : Value) (w : World) : (Go.method 246 79 v "Unwrap").run Tryd.prog w = .ok (67, v) w := by kernel_rfl
end Go.Proofs.YtodhnmflabehhaaDoor
