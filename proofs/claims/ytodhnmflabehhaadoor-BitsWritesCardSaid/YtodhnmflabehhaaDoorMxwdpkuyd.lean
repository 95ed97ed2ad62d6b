import Derived.Test.YtodhnmflabehhaaDoorMcnyatlcb
import Derived.Test.YtodhnmflabehhaaDoorMzfxtwfqr
import Derived.Test.YtodhnmflabehhaaDoorMsvpcawkb
import Derived.Test.YtodhnmflabehhaaDoorPBitsReadsx
import Derived.Test.YtodhnmflabehhaaDoorMkvsfwfem
namespace Go.Proofs.YtodhnmflabehhaaDoor
open Go.RowKit Go.Proofs.YtodhnmflabehhaaDoorW.PrintWords Go.Proofs.YtodhnmflabehhaaDoorW.PrintLast Go.Proofs.YtodhnmflabehhaaDoorW.PrintMore Hy

/-! ### the two readers, one beside the other -/
def endOf (D : List Bool) : Int := if 8 ≤ D.length then 2 else if D.any id then 3 else 0
theorem bit_and (c k : Nat) (hc : c < 256) (hk : k ≤ 7) : Go.bits .and .u8 (shr .u8 (c : Int) (k : Int)) 1 = ((c / 2 ^ k % 2 : Nat) : Int) := by
  have e3 : shr .u8 (c : Int) (k : Int) = ((c / 2 ^ k : Nat) : Int) := by
    rw [← cast_div]; unfold shr; rw [Int.toNat_natCast, show min k IntKind.u8.bits = k from Nat.min_eq_left (by show k ≤ 8; omega)]
  have hck : c / 2 ^ k < 256 := Nat.lt_of_le_of_lt (Nat.div_le_self _ _) hc
  rw [e3]
  generalize c / 2 ^ k = q at *
  have := bits_mask .u8 8 (by decide) wraps_u8 1 (by omega) (q : Int) (by omega) (by omega)
  rw [show (2 : Int) ^ 1 - 1 = 1 from rfl, show (2 : Int) ^ 1 = 2 from rfl] at this
  rw [this]; omega
theorem w_eight (z : Nat) (h : z ≤ 140737488351232) : wrap64 (8 * (z : Int)) = 8 * (z : Int) := by unfold wrap64; omega
theorem rend_l0 (s : ByteArray) (t : Int) (hs : s.size ≤ 140737488351232) : ∀ (d i k : Nat), i + d = 8 * s.size → d < k →
    PBitsReads.hygref2_Reader_End.l0 k (i : Int) s t = some (if ((unp (bs s)).drop i).any id then 3 else 0, s, t) := by
  intro d
  induction d with
  | zero =>
    intro i k hi hk
    obtain ⟨k, rfl⟩ : ∃ m, k = m + 1 := ⟨k - 1, by omega⟩
    have h0 : (unp (bs s)).drop i = [] := List.drop_eq_nil_of_le (by rw [unp_length, bs_length]; omega)
    have c1 : ¬ (i : Int) < 8 * (s.size : Int) := by omega
    simp only [PBitsReads.hygref2_Reader_End.l0]
    rw [w_eight _ hs, if_neg c1, h0]
    rfl
  | succ d ih =>
    intro i k hi hk
    obtain ⟨k, rfl⟩ : ∃ m, k = m + 1 := ⟨k - 1, by omega⟩
    have c1 : (i : Int) < 8 * (s.size : Int) := by omega
    have c2 : (0 : Int) ≤ ((i / 8 : Nat) : Int) := by omega
    have c3 : ((i / 8 : Nat) : Int) < (s.size : Int) := by omega
    have c4 : (0 : Int) ≤ ((7 - i % 8 : Nat) : Int) := by omega
    have c6 : 7 - i % 8 ≤ 7 := by omega
    have c7 : i + 1 + d = 8 * s.size := by omega
    have c8 : d < k := by omega
    have c9 : i < 2000000000000000 := by omega
    have hR := rbit s i (by omega)
    have hl : i < (unp (bs s)).length := by rw [unp_length, bs_length]; omega
    have hD := List.drop_eq_getElem_cons hl
    obtain ⟨b, hb⟩ : ∃ b, (unp (bs s))[i] = b := ⟨_, rfl⟩
    rw [hb] at hD
    obtain ⟨y, h1, h2, h3⟩ := hR
    rw [hD] at h3
    simp only [PBitsReads.hygref2_Reader_End.l0]
    rw [w_eight _ hs, if_pos c1, w_div i c9, if_pos c2, if_pos c3, w_mod i, if_pos c4, h1, bit_and y _ h2 c6, ← h3, hD, w_inc i c9]
    cases b with
    | true => rfl
    | false => exact ih (i + 1) k c7 c8
theorem rend_f (s : ByteArray) (a : Nat) (hs : s.size ≤ 140737488351232) (ha : a ≤ 8 * s.size) : PBitsReads.hygref2_Reader_End.f (8 * s.size + 1) s (a : Int) = some (endOf ((unp (bs s)).drop a), s, (a : Int)) := by
  have hl : ((unp (bs s)).drop a).length = 8 * s.size - a := by rw [List.length_drop, unp_length, bs_length]
  have h := rend_l0 s (a : Int) hs (8 * s.size - a) a (8 * s.size + 1) (by omega) (by omega)
  unfold PBitsReads.hygref2_Reader_End.f endOf
  rw [w_left _ _ hs ha, hl]
  by_cases h8 : 8 ≤ 8 * s.size - a
  · rw [if_pos (by omega), if_pos h8]
  · rw [if_neg (by omega), if_neg h8]; exact h
theorem rrend_any (w0 : World) (g : Nat) (s : ByteArray) (a : Nat) (k : Int) (w : World) (hs : s.size ≤ 140737488351232) (ha : a ≤ 8 * s.size) (hk : endOf ((unp (bs s)).drop a) = k) (h : RR w0 g s a w) :
    Calls Tryd.prog 26 #[.pointer (some ⟨g, 0, none⟩)] w fun e w' => e = .returned (.int .i64 k) ∧ RR w0 g s a w' ∧ Kg g w w' := by
  subst hk
  refine (PBitsReads.hygref2_Reader_End.calls _ g s _ _ _ _ w0 w h.1 h.2 (rend_f s a hs ha)).mono ?_
  rintro e w' ⟨rfl, h1, h2, h3⟩
  exact ⟨rfl, ⟨h1, h2⟩, h3⟩
theorem RR.c1 {w0 w : World} {g a : Nat} {s : ByteArray} (h : RR w0 g s a w) : w.cell? ⟨g, 1, none⟩ = some (.int .i64 (a : Int)) := by rw [blk_cell h.1.1]; rfl
theorem RR.made {w0 W : World} (s : ByteArray) (hb : Below w0.heap.size w0 W) : RR w0 W.heap.size s 0 (W.alloc (.cells #[.string s, .int .i64 0] 53)) :=
  ⟨PXorGets.IsS53.new w0 W s 0 hb, below_alloc hb _⟩
theorem RR.kp {w0 w w1 : World} {g q a : Nat} {s : ByteArray} (h : RR w0 g s a w) (hk : Kp (· = q) w w1) (hne : g ≠ q) (hb : Below w0.heap.size w0 w1) : RR w0 g s a w1 := ⟨⟨hk.obj h.1.1 hne, h.1.2⟩, hb⟩
theorem RAt.kg {B g q a : Nat} {s : ByteArray} {w w1 : World} (h : RAt B g s a w) (hk : Kg q w w1) (hne : g ≠ q) : RAt B g s a w1 := ⟨h.1, (hk.2 g (blk_lt h.2) hne (by simp)).trans h.2⟩
theorem IsE.kg {q : Nat} {w w1 : World} : ∀ {e : Err} {v : Value}, IsE w e v → Kg q w w1 → (∀ b, w.heap[q]? = some b → ∀ n u, b ≠ .cells #[.int .i64 n, u] 82 (0, 0)) → IsE w1 e v := by
  intro e
  induction e with
  | nil => intro v h _ _; exact h
  | code c => intro v h _ _; exact h
  | at_ n e ih =>
    intro v h hk hq
    obtain ⟨a, u, rfl, ha, hu⟩ := h
    exact ⟨a, u, rfl, by rw [hk.2 a (blk_lt ha) (fun e => by subst e; exact hq _ ha _ _ rfl) (by simp)]; exact ha, ih hu hk hq⟩
  | fld n e ih => intro v h _ _; exact h
  | oth => intro v h _ _; exact h
theorem IsE.kr {w0 w w1 : World} {g a : Nat} {s : ByteArray} {e : Err} {v : Value} (h : IsE w e v) (hr : RR w0 g s a w) (hk : Kg g w w1) : IsE w1 e v :=
  h.kg hk (fun b hb n u e => by subst e; have := hb.symm.trans hr.1.1; simp at this)
/-- The program's End. -/
theorem bend_any (B g : Nat) (s : ByteArray) (a : Nat) (k : Int) (w : World) (hs : s.size ≤ 140737488351232) (ha : a ≤ 8 * s.size) (hk : endOf ((unp (bs s)).drop a) = k) (h : RAt B g s a w) :
    Calls Tryd.prog 23 #[.pointer (some ⟨g, 0, none⟩)] w fun e w' => ∃ u E, e = .returned u ∧ IsE w' E u ∧ codeOf E = k ∧ Below w.heap.size w w' := by
  have hl : ((unp (bs s)).drop a).length = 8 * s.size - a := by rw [List.length_drop, unp_length, bs_length]
  subst hk
  unfold endOf
  rw [hl]
  by_cases h8 : 8 ≤ 8 * s.size - a
  · rw [if_pos h8]
    refine (rend_long B g s a (8 * s.size - a) w hs (by omega) h8 h).mono ?_
    rintro e w' ⟨u, E, h1, h2, rfl, h3⟩
    exact ⟨u, _, h1, h2, rfl, h3⟩
  · rw [if_neg h8]
    by_cases hz : (unp (bs s)).drop a = List.replicate (8 * s.size - a) false
    · rw [if_neg (by rw [hz]; simp)]
      refine (rend_ok B g s a (8 * s.size - a) w hs (by omega) (by omega) hz h).mono ?_
      rintro e w' ⟨h1, m, rfl⟩
      exact ⟨_, .nil, h1, rfl, rfl, drewN_below (Below.refl _ _) _⟩
    · rw [if_pos (by
        by_cases ha : ((unp (bs s)).drop a).any id = true
        · exact ha
        · exfalso
          apply hz
          rw [← hl]
          refine List.eq_replicate_iff.2 ⟨rfl, fun b hb => ?_⟩
          cases b with
          | false => rfl
          | true => exact absurd (List.any_eq_true.2 ⟨true, hb, rfl⟩) ha)]
      refine (rend_form B g s a (8 * s.size - a) w hs (by omega) (by omega) hz h).mono ?_
      rintro e w' ⟨u, E, h1, h2, rfl, h3⟩
      exact ⟨u, _, h1, h2, rfl, h3⟩
/-- The two Gets. -/
theorem gets_both (s : ByteArray) (a : Nat) (c : Int) (hs : s.size ≤ 140737488351232) (ha : a ≤ 8 * s.size) : ∃ (v : Int) (a' : Nat) (k : Int), a' ≤ 8 * s.size ∧ (k = 0 ∨ ((k = 1 ∨ k = 9) ∧ a' = a)) ∧
    (∀ B g w, B ≤ w.heap.size → RAt B g s a w → Calls Tryd.prog 21 #[.pointer (some ⟨g, 0, none⟩), .int .i64 c] w fun e w' => ∃ u, e = .returned (.tuple #[.int .u64 v, u]) ∧ IsE w' (if k = 0 then .nil else .at_ (a : Int) (.code k)) u ∧ RAt B g s a' w' ∧ Kp (· = g) w w') ∧
    (∀ w0 g w, RR w0 g s a w → Calls Tryd.prog 24 #[.pointer (some ⟨g, 0, none⟩), .int .i64 c] w fun e w' => e = .returned (.tuple #[.int .u64 v, .int .i64 k]) ∧ RR w0 g s a' w' ∧ Kg g w w') := by
  by_cases hr : c < 0 ∨ 64 < c
  · refine ⟨0, a, 9, ha, .inr ⟨.inr rfl, rfl⟩, ?_, ?_⟩
    · intro B g w hB h
      refine (rget_range B g s a c w hr h).mono ?_
      rintro e w' ⟨u, E, h1, h2, rfl, h3, h4⟩
      exact ⟨u, h1, h2, h3, Kp.ofBelow h4⟩
    · intro w0 g w h
      have hf : PXorGets.hygref2_Reader_Get.f 2 s (a : Int) c = some (0, 9, s, (a : Int)) := by
        unfold PXorGets.hygref2_Reader_Get.f
        by_cases h0 : c < 0
        · rw [if_pos h0]; simp only [PXorGets.hygref2_Reader_Get.j0]; rfl
        · rw [if_neg h0]; simp only [PXorGets.hygref2_Reader_Get.j0]; rw [if_pos (by simp; omega)]
      refine (PXorGets.hygref2_Reader_Get.calls _ g s _ _ _ _ _ _ w0 w h.1 h.2 hf).mono ?_
      rintro e w' ⟨rfl, h1, h2, h3⟩
      exact ⟨rfl, ⟨h1, h2⟩, h3⟩
  · have c0 : 0 ≤ c := by omega
    have c64 : c ≤ 64 := by omega
    by_cases hsh : 8 * (s.size : Int) - a < c
    · refine ⟨0, a, 1, ha, .inr ⟨.inl rfl, rfl⟩, ?_, ?_⟩
      · intro B g w hB h
        refine (rget_short B g s a (8 * s.size - a) c w hs c0 c64 (by omega) (by omega) h).mono ?_
        rintro e w' ⟨u, E, h1, h2, rfl, h3, h4⟩
        exact ⟨u, h1, h2, h3, Kp.ofBelow h4⟩
      · intro w0 g w h
        exact rrget_short w0 g s a c w hs c0 c64 ha hsh h
    · obtain ⟨n, rfl⟩ := Int.eq_ofNat_of_zero_le c0
      refine ⟨((val (((unp (bs s)).drop a).take n) : Nat) : Int), a + n, 0, by omega, .inl rfl, ?_, ?_⟩
      · intro B g w hB h
        refine (rget_ok B g s a n w hs (by omega) (by omega) hB h).mono ?_
        rintro e w' ⟨h1, h2, h3⟩
        exact ⟨_, h1, rfl, h2, h3⟩
      · intro w0 g w h
        exact rrget_is w0 g s a (a + n) (n : Int) _ w hs c0 c64 (by rw [Int.toNat_natCast]) (by omega) (by rw [Int.toNat_natCast]) h
end Go.Proofs.YtodhnmflabehhaaDoor
namespace Go.Proofs.YtodhnmflabehhaaDoor
open Go.RowKit Go.Proofs.YtodhnmflabehhaaDoorW.PrintWords Go.Proofs.YtodhnmflabehhaaDoorW.PrintLast Go.Proofs.YtodhnmflabehhaaDoorW.PrintMore Hy

theorem put5 (w : World) : Calls Tryd.prog 10 #[.pointer (some ⟨w.heap.size, 0, none⟩), .int .u64 5, .int .i64 3] (w.alloc (.cells #[.slice none 0 0, .int .i64 0] 27)) fun e w' => e = .returned .nilIface ∧ IsW 27 w.heap.size w.heap.size (bitsOf 5 3) w' ∧ Below w.heap.size w w' :=
  (wput_ok 27 (by decide) w.heap.size w.heap.size [] 5 3 _ (by decide) (by decide) (by decide) (by simp) (IsW.new _ w)).mono fun _ _ h => ⟨h.1, h.2.1, ((Below.refl w.heap.size w).alloc (Nat.le_refl _) _).trans h.2.2⟩
theorem str5 (B g : Nat) (w : World) (h : IsW 27 B g (bitsOf 5 3) w) : Calls Tryd.prog 18 #[.pointer (some ⟨g, 0, none⟩)] w fun e w' => e = .returned (.string ⟨#[160]⟩) ∧ w' = w := by
  have h1 := wstring_any _ B g _ w h
  rw [pk_one _ (by decide) (by decide)] at h1
  exact h1
theorem len5 (B g : Nat) (w : World) (h : IsW 27 B g (bitsOf 5 3) w) : Calls Tryd.prog 13 #[.pointer (some ⟨g, 0, none⟩)] w fun e w' => e = .returned (.int .i64 3) ∧ w' = w := wlen_any _ B g _ w h
theorem get5 (B g : Nat) (w : World) (hB : B ≤ w.heap.size) (h : RAt B g ⟨#[160]⟩ 0 w) : Calls Tryd.prog 21 #[.pointer (some ⟨g, 0, none⟩), .int .i64 3] w fun e w' => e = .returned (.tuple #[.int .u64 5, .nilIface]) ∧ Below B w w' :=
  (rget_ok B g ⟨#[160]⟩ 0 3 w (by decide) (by decide) (by decide) hB h).mono fun _ _ k => ⟨k.1, k.2.2.toBelow hB (fun _ e => e ▸ h.1)⟩
theorem lead1 (w : World) : Calls Tryd.prog 14 #[.int .u64 1] w fun e w' => e = .returned (.int .i64 63) ∧ Drawn0 w w' := lead_any 1 w (by decide)
theorem trail0 (w : World) : Calls Tryd.prog 16 #[.int .u64 0] w fun e w' => e = .returned (.int .i64 64) ∧ Drawn0 w w' := trail_any 0 w (by decide)
set_option maxHeartbeats 1000000 in
theorem bits_first (w : World) : Calls Tryd.prog 9 #[] w fun e w' => e = .returned (.bool true) ∧ Below w.heap.size w w' := by
  go_enter Tryd.func9, Tryd.ntmps9
  go_wp2_with (first
    | (go_at_call 10; refine (put5 _).mono ?_; rintro e w1 ⟨rfl, hw1, hb1⟩; have HW1 := Aside0.mk hw1; have HB1 := Aside0.mk hb1; clear hw1 hb1)
    | (go_at_call 20; refine (newReader_any _ _).mono ?_; rintro e w2 ⟨g, rfl, hr2, hb2⟩; have HR2 := Aside0.mk hr2; have HB2 := Aside0.mk hb2; clear hr2 hb2)
    | (go_at_call 21; refine (get5 _ _ _ HB2.out.size HR2.out).mono ?_; rintro e w3 ⟨rfl, hb3⟩; have HW3 := Aside0.mk (IsW.below HW1.out (HB2.out.trans hb3)); have HB3 := Aside0.mk (below_next HB1.out (HB2.out.trans hb3)); clear hb3)
    | (go_at_call 18; refine (str5 _ _ _ HW3.out).mono ?_; rintro e w4 ⟨rfl, hw4⟩; subst w4)
    | (go_at_call 13; refine (len5 _ _ _ HW3.out).mono ?_; rintro e w4 ⟨rfl, hw4⟩; subst w4)
    | (go_at_call 14; refine (lead1 _).mono ?_; rintro e w4 ⟨rfl, ⟨m4, rfl⟩⟩)
    | (go_at_call 16; refine (trail0 _).mono ?_; rintro e w4 ⟨rfl, ⟨m4, rfl⟩⟩))
  go_ret
  exact ⟨rfl, drewN_below HB3.out _⟩
end Go.Proofs.YtodhnmflabehhaaDoor
