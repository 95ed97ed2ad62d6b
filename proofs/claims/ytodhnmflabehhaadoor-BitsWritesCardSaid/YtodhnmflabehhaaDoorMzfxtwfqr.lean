import Derived.Test.YtodhnmflabehhaaDoorMkvsfwfem
import Derived.Test.YtodhnmflabehhaaDoorWLast
import Derived.Test.YtodhnmflabehhaaDoorWMore
import Derived.IntWalk
import Derived.Test.YtodhnmflabehhaaDoorMzgqozyqw
namespace Go.Proofs.YtodhnmflabehhaaDoor
open Go.RowKit Go.Proofs.YtodhnmflabehhaaDoorW.PrintWords Go.Proofs.YtodhnmflabehhaaDoorW.PrintLast Go.Proofs.YtodhnmflabehhaaDoorW.PrintMore Hy

/-- A reader of the call's own. -/
def RAt (B g : Nat) (s : ByteArray) (a : Nat) (w : World) : Prop := B ≤ g ∧ w.heap[g]? = some (.cells #[.string s, .int .i64 (a : Int)] 78 (0, 0))
theorem RAt.c0 {B g s a w} (h : RAt B g s a w) : w.cell? ⟨g, 0, none⟩ = some (.string s) := by rw [blk_cell h.2]; rfl
theorem RAt.c1 {B g s a w} (h : RAt B g s a w) : w.cell? ⟨g, 1, none⟩ = some (.int .i64 (a : Int)) := by rw [blk_cell h.2]; rfl
theorem RAt.f1 {B g s a w} (h : RAt B g s a w) : w.frozen? ⟨g, 1, none⟩ = false := blk_frozen h.2 1
theorem RAt.put {B g s a w} (h : RAt B g s a w) (a' : Nat) : RAt B g s a' (w.setCell ⟨g, 1, none⟩ (.int .i64 (a' : Int))) := ⟨h.1, by rw [blk_set h.2]; rfl⟩
theorem drewN_below {B : Nat} {w w1 : World} (h : Below B w w1) (m : Nat) : Below B w (w1.drewN m) := by
  obtain ⟨h1, h2, h3, h4, h5⟩ := h
  exact ⟨h1, h2, h3, h4, h5⟩
theorem left_any (B g : Nat) (s : ByteArray) (a : Nat) (w : World) (hs : s.size ≤ 140737488351232) (ha : a ≤ 8 * s.size) (h : RAt B g s a w) :
    Calls Tryd.prog 36 #[.pointer (some ⟨g, 0, none⟩)] w fun e w' => e = .returned (.int .i64 (8 * (s.size : Int) - (a : Int))) ∧ ∃ m, w' = w.drewN m := by
  have c0 := h.c0
  have c1 := h.c1
  clear h
  go_enter Tryd.func36, Tryd.ntmps36
  have w1 : IntKind.i64.wrap (8 * (s.size : Int)) = 8 * (s.size : Int) := IntWalk.i64_in _ (by omega)
  have w2 : IntKind.i64.wrap (8 * (s.size : Int) - (a : Int)) = 8 * (s.size : Int) - (a : Int) := IntWalk.i64_in _ (by omega)
  go_wp2_with fail
  go_quiet (fail)
  go_wp2
  go_ret
  exact ⟨rfl, _, rfl⟩
theorem take_step (L : List Nat) (a j t k c : Nat) (hc : L[(a + j) / 8]? = some c) (hk : 8 - (a + j) % 8 - t = k) (ht : (a + j) % 8 + t ≤ 8) :
    val (((unp L).drop a).take (j + t)) = val (((unp L).drop a).take j) * 2 ^ t + c / 2 ^ k % 2 ^ t := by
  rw [List.take_add, val_append, List.drop_drop, unp_piece L (a + j) t c hc ht, bitsOf_length, val_bitsOf, hk]
set_option maxHeartbeats 4000000 in
theorem rget_ok (B g : Nat) (s : ByteArray) (a count : Nat) (w : World) (hs : s.size ≤ 140737488351232) (hc : count ≤ 64) (ha : a + count ≤ 8 * s.size) (_hB : B ≤ w.heap.size) (h : RAt B g s a w) :
    Calls Tryd.prog 21 #[.pointer (some ⟨g, 0, none⟩), .int .i64 (count : Int)] w fun e w' => e = .returned (.tuple #[.int .u64 ((val (((unp (bs s)).drop a).take count) : Nat) : Int), .nilIface]) ∧ RAt B g s (a + count) w' ∧ Kp (· = g) w w' := by
  have HB := Aside0.mk (Kp.refl (· = g) w)
  have HI := Aside0.mk h
  have hL := left_any B g s a w hs (by omega) h
  have hle : ¬ 8 * (s.size : Int) - (a : Int) < (count : Int) := by omega
  clear h
  go_enter Tryd.func21, Tryd.ntmps21
  go_wp2_with (go_at_call 36; refine hL.mono ?_; rintro e w1 ⟨rfl, m1, hw1⟩; have HI1 := Aside0.mk (show RAt B g s a w1 by rw [hw1]; exact HI.out); have HB1 := Aside0.mk (show Kp (· = g) w w1 by rw [hw1]; exact HB.out.drewN m1); clear hw1 HI HB)
  go_loopw [1, 6] (fun v1 v6 w' => ∃ (j rem : Nat), j + rem = count ∧ v1 = .int .i64 (rem : Int) ∧ v6 = .int .u64 ((val (((unp (bs s)).drop a).take j) : Nat) : Int) ∧ Aside0 (RAt B g s (a + j) w') ∧ Aside0 (Kp (· = g) w w')) (fun v1 _ _ => (intOf v1).toNat)
  case atStart => exact ⟨0, count, by omega, rfl, by rw [List.take_zero]; rfl, HI1, HB1⟩
  case round =>
    clear HB1 HI1
    obtain ⟨j, rem, hj, rfl, rfl, HI, HB⟩ := hrel
    by_cases h0 : rem = 0
    · subst h0
      obtain rfl : j = count := by omega
      go_wp2_with fail
      go_ret2
      exact ⟨rfl, HI.out, HB.out⟩
    · have hpos : (0 : Int) < (rem : Int) := by omega
      obtain ⟨n, hn⟩ : ∃ n, val (((unp (bs s)).drop a).take j) = n := ⟨_, rfl⟩
      obtain ⟨m, hm⟩ : ∃ m, a + j = m := ⟨_, rfl⟩
      rw [hn]
      rw [hm] at HI
      have c0 := HI.out.c0
      have c1 := HI.out.c1
      have f1 := HI.out.f1
      have HN := Aside0.mk hn
      have hnj : n < 2 ^ j := by rw [← hn]; exact Nat.lt_of_lt_of_le (val_lt _) (Nat.pow_le_pow_right (by omega) (by rw [List.length_take]; omega))
      have HNJ := Aside0.mk hnj
      obtain ⟨z, hz⟩ : ∃ z, m % 8 = z := ⟨_, rfl⟩
      obtain ⟨p, hp⟩ : ∃ p, m / 8 = p := ⟨_, rfl⟩
      obtain ⟨R, hR⟩ : ∃ R, 8 - z = R := ⟨_, rfl⟩
      obtain ⟨t, ht⟩ : ∃ t, min R rem = t := ⟨_, rfl⟩
      obtain ⟨r1, hr1⟩ : ∃ r1, rem - t = r1 := ⟨_, rfl⟩
      have hz8 : z < 8 := by omega
      have hR1 : 1 ≤ R := by omega
      have hR8 : R ≤ 8 := by omega
      have htR : t ≤ R := by omega
      have ht1 : 1 ≤ t := by omega
      have htr : t ≤ rem := by omega
      have hps : p < s.size := by omega
      have hz2 : (m : Int) % 8 = (z : Int) := by omega
      have hp2 : (m : Int) / 8 = (p : Int) := by omega
      have hR2 : 8 - (z : Int) = (R : Int) := by omega
      have ht2 : min (R : Int) (rem : Int) = (t : Int) := by omega
      have hr2 : (rem : Int) - (t : Int) = (r1 : Int) := by omega
      have hi0 : IntKind.i64.wrap 0 = 0 := by decide
      have HM := Aside0.mk (And.intro hm (And.intro hz (And.intro hp (And.intro hR (And.intro ht hr1)))))
      clear hn hnj hm hz hp hR ht hr1 h0
      rcases Nat.lt_or_ge rem R with hlt | hge
      · obtain rfl : t = rem := by have := HM.out; omega
        obtain rfl : r1 = 0 := by have := HM.out; omega
        obtain ⟨sh, hsh⟩ : ∃ sh, R - t = sh := ⟨_, rfl⟩
        have hsh2 : IntKind.i64.wrap ((R : Int) - (t : Int)) = (sh : Int) := by rw [IntWalk.i64_in _ (by omega)]; omega
        have hsh3 : sh ≤ 7 := by omega
        have hge2 : ¬ (R : Int) ≤ (t : Int) := by omega
        have HSH := Aside0.mk hsh
        clear hsh
        go_wp2_with fail
        go_quiet (fail)
        go_wp2_with fail
        go_roundw
        case rel =>
          have hm := HM.out
          have hc256 : s[p].toNat < 256 := s[p].toNat_lt
          have hcp : (bs s)[(a + j) / 8]? = some s[p].toNat := by
            rw [hm.1, hm.2.2.1, get_bs s p hps, List.getD_eq_getElem?_getD, List.getElem?_eq_getElem (by rw [bs_length]; exact hps)]; rfl
          have hcw : IntKind.u64.wrap ((s[p].toNat : Nat) : Int) = ((s[p].toNat : Nat) : Int) := by rw [wrap_u64]; omega
          refine ⟨j + t, 0, by omega, rfl, ?_, ⟨by rw [← Nat.add_assoc, hm.1]; exact (show RAt B g s m (wr.drewN nq) from HI.out).put (m + t)⟩, ⟨(HB.out.drewN nq).set (p := ⟨g, 1, none⟩) rfl _⟩⟩
          rw [hcw, get_step n s[p].toNat t j sh HNJ.out (by omega) (by omega) hc256, take_step (bs s) a j t sh _ hcp (by rw [hm.1, hm.2.1]; have := HSH.out; omega) (by rw [hm.1, hm.2.1]; omega), HN.out]
        case measure => simp [intOf]; omega
      · obtain rfl : t = R := by have := HM.out; omega
        have hge2 : (t : Int) ≤ (rem : Int) := by omega
        go_wp2_with fail
        go_quiet (fail)
        go_wp2_with fail
        go_roundw
        case rel =>
          have hm := HM.out
          have hc256 : s[p].toNat < 256 := s[p].toNat_lt
          have hcp : (bs s)[(a + j) / 8]? = some s[p].toNat := by
            rw [hm.1, hm.2.2.1, get_bs s p hps, List.getD_eq_getElem?_getD, List.getElem?_eq_getElem (by rw [bs_length]; exact hps)]; rfl
          have hcw : IntKind.u64.wrap ((s[p].toNat : Nat) : Int) = ((s[p].toNat : Nat) : Int) := by rw [wrap_u64]; omega
          refine ⟨j + t, r1, by omega, rfl, ?_, ⟨by rw [← Nat.add_assoc, hm.1]; exact (show RAt B g s m (wr.drewN nq) from HI.out).put (m + t)⟩, ⟨(HB.out.drewN nq).set (p := ⟨g, 1, none⟩) rfl _⟩⟩
          have hgs := get_step n s[p].toNat t j 0 HNJ.out (by omega) (by omega) hc256
          rw [Int.pow_zero, Int.ediv_one] at hgs
          rw [hcw, hgs, take_step (bs s) a j t 0 _ hcp (by rw [hm.1, hm.2.1]; omega) (by rw [hm.1, hm.2.1]; omega), HN.out]
        case measure => simp [intOf]; omega
end Go.Proofs.YtodhnmflabehhaaDoor
namespace Go.Proofs.YtodhnmflabehhaaDoor
open Go.RowKit Go.Proofs.YtodhnmflabehhaaDoorW.PrintWords Go.Proofs.YtodhnmflabehhaaDoorW.PrintLast Go.Proofs.YtodhnmflabehhaaDoorW.PrintMore Hy

theorem IsW.below {T B g : Nat} {l : List Bool} {w w' : World} (h : IsW T B g l w) (hb : Below w.heap.size w w') : IsW T B g l w' := by
  obtain ⟨v, h1, h2, h3⟩ := h
  exact ⟨v, h1, blk_below h2 hb, own_move h3 (fun k hk => hb.block k (own_lt h3 k hk))⟩
theorem IsW.new (T : Nat) (w : World) : IsW T w.heap.size w.heap.size [] (w.alloc (.cells #[.slice none 0 0, .int .i64 0] T)) :=
  ⟨.slice none 0 0, Nat.le_refl _, heap_alloc_new w _, by rw [pk_nil]; exact own_nil _ _ _ _⟩
theorem RAt.low {B B' g : Nat} {s : ByteArray} {a : Nat} {w : World} (h : RAt B g s a w) (hb : B' ≤ B) : RAt B' g s a w := ⟨Nat.le_trans hb h.1, h.2⟩
theorem wstring_any (T : TypeId) (B g : Nat) (l : List Bool) (w : World) (h : IsW T B g l w) :
    Calls Tryd.prog 18 #[.pointer (some ⟨g, 0, none⟩)] w fun e w' => e = .returned (.string (st (pk l))) ∧ w' = w := by
  obtain ⟨v, hv⟩ := h
  have c0 := hv.c0
  have hcv := own_string (P := Tryd.prog) Tryd.underlying25 Tryd.underlying5 Tryd.underlying9 hv.2.2
  have hst : strOfNums (ints (pk l)) = st (pk l) := strOfNums_eq _
  rw [hst] at hcv
  clear hv hst
  go_enter Tryd.func18, Tryd.ntmps18
  go_wp2
  go_ret
  exact ⟨rfl, rfl⟩
theorem wlen_any (T : TypeId) (B g : Nat) (l : List Bool) (w : World) (h : IsW T B g l w) :
    Calls Tryd.prog 13 #[.pointer (some ⟨g, 0, none⟩)] w fun e w' => e = .returned (.int .i64 (l.length : Int)) ∧ w' = w := by
  obtain ⟨v, hv⟩ := h
  have c1 := hv.c1
  clear hv
  go_enter Tryd.func13, Tryd.ntmps13
  go_wp2
  go_ret
  exact ⟨rfl, rfl⟩
theorem newReader_any (s : ByteArray) (w : World) :
    Calls Tryd.prog 20 #[.string s] w fun e w' => ∃ g, e = .returned (.pointer (some ⟨g, 0, none⟩)) ∧ RAt w.heap.size g s 0 w' ∧ Below w.heap.size w w' := by
  have HB := Aside0.mk (Below.refl w.heap.size w)
  go_enter Tryd.func20, Tryd.ntmps20
  go_wp2
  go_ret
  exact ⟨w.heap.size, rfl, ⟨Nat.le_refl _, heap_alloc_new w _⟩, HB.out.alloc (Nat.le_refl _) _⟩
end Go.Proofs.YtodhnmflabehhaaDoor
namespace Go.Proofs.YtodhnmflabehhaaDoor
open Go.RowKit Go.Proofs.YtodhnmflabehhaaDoorW.PrintWords Go.Proofs.YtodhnmflabehhaaDoorW.PrintLast Go.Proofs.YtodhnmflabehhaaDoorW.PrintMore Hy

theorem IsW.drewN {T B g : Nat} {l : List Bool} {w : World} (h : IsW T B g l w) (m : Nat) : IsW T B g l (w.drewN m) := h
theorem RAt.drewN {B g : Nat} {s : ByteArray} {a : Nat} {w : World} (h : RAt B g s a w) (m : Nat) : RAt B g s a (w.drewN m) := h
theorem RAt.below {B g : Nat} {s : ByteArray} {a : Nat} {w w' : World} (h : RAt B g s a w) (hb : Below w.heap.size w w') : RAt B g s a w' := ⟨h.1, blk_below h.2 hb⟩
theorem left_is (B g : Nat) (s : ByteArray) (a f : Nat) (w : World) (hs : s.size ≤ 140737488351232) (hf : a + f = 8 * s.size) (h : RAt B g s a w) :
    Calls Tryd.prog 36 #[.pointer (some ⟨g, 0, none⟩)] w fun e w' => e = .returned (.int .i64 (f : Int)) ∧ ∃ m, w' = w.drewN m := by
  have := left_any B g s a w hs (by omega) h
  rw [show 8 * (s.size : Int) - (a : Int) = (f : Int) by omega] at this
  exact this
theorem rat_any (B g : Nat) (s : ByteArray) (a : Nat) (w : World) (h : RAt B g s a w) :
    Calls Tryd.prog 22 #[.pointer (some ⟨g, 0, none⟩)] w fun e w' => e = .returned (.int .i64 (a : Int)) ∧ w' = w := by
  have c1 := h.c1
  clear h
  go_enter Tryd.func22, Tryd.ntmps22
  go_wp2
  go_ret
  exact ⟨rfl, rfl⟩
/-- Too few bits: nothing is got. -/
theorem rget_short (B g : Nat) (s : ByteArray) (a f : Nat) (c : Int) (w : World) (hs : s.size ≤ 140737488351232) (hc0 : 0 ≤ c) (hc : c ≤ 64) (hf : a + f = 8 * s.size) (hfc : (f : Int) < c) (h : RAt B g s a w) :
    Calls Tryd.prog 21 #[.pointer (some ⟨g, 0, none⟩), .int .i64 c] w fun e w' => ∃ u E, e = .returned (.tuple #[.int .u64 0, u]) ∧ IsE w' E u ∧ E = .at_ (a : Int) (.code 1) ∧ RAt B g s a w' ∧ Below w.heap.size w w' := by
  have HB := Aside0.mk (Below.refl w.heap.size w)
  have HI := Aside0.mk h
  have c1 := h.c1
  have hL := left_is B g s a f w hs hf h
  clear h hf
  go_enter Tryd.func21, Tryd.ntmps21
  go_wp2_with (first
    | (go_at_call 36; refine hL.mono ?_; rintro e w1 ⟨rfl, m1, rfl⟩)
    | (go_at_call 34; refine (at_any _ _ _ ⟨_, _, rfl⟩).mono ?_; rintro e wx ⟨rfl, rfl⟩))
  go_ret2
  exact ⟨_, _, rfl, IsE.new (e := .code 1) rfl, rfl, (HI.out.drewN m1).below ((Below.refl _ _).alloc (Nat.le_refl _) _), (drewN_below HB.out _).alloc (Nat.le_refl _) _⟩
/-! ### what is left -/
theorem mask_u8 (c f : Nat) (hc : c < 256) (hf : f ≤ 7) : Go.bits .and .u8 (c : Int) ((2 ^ f - 1) % 256) = ((c % 2 ^ f : Nat) : Int) := by
  have h2 : (2 : Int) ^ f ≤ 128 ∧ 1 ≤ (2 : Int) ^ f := by
    rcases (by omega : f = 0 ∨ f = 1 ∨ f = 2 ∨ f = 3 ∨ f = 4 ∨ f = 5 ∨ f = 6 ∨ f = 7) with rfl | rfl | rfl | rfl | rfl | rfl | rfl | rfl <;> decide
  rw [Int.emod_eq_of_lt (by omega) (by omega)]
  rw [bits_mask .u8 8 (by decide) wraps_u8 f (by omega) (c : Int) (by omega) (by omega)]
  rw [Int.natCast_emod, Int.natCast_pow]; rfl
theorem rest_zero (L : List Nat) (_hL : okB L) (a f c : Nat) (hf : a + f = 8 * L.length) (hf7 : f < 8) (hf0 : 0 < f) (hc : L[a / 8]? = some c) : (unp L).drop a = List.replicate f false ↔ c % 2 ^ f = 0 := by
  have hlen : ((unp L).drop a).length = f := by rw [List.length_drop, unp_length]; omega
  have hp := unp_piece L a f c hc (by omega)
  rw [List.take_of_length_le (by omega), show 8 - a % 8 - f = 0 by omega, Nat.pow_zero, Nat.div_one] at hp
  rw [hp]
  constructor
  · intro e
    have := congrArg val e
    rw [val_bitsOf, val_zeros] at this
    exact this
  · intro e
    apply val_inj
    · rw [bitsOf_length, List.length_replicate]
    · rw [val_bitsOf, val_zeros, e]
theorem rend_long (B g : Nat) (s : ByteArray) (a f : Nat) (w : World) (hs : s.size ≤ 140737488351232) (hf : a + f = 8 * s.size) (hf8 : 8 ≤ f) (h : RAt B g s a w) :
    Calls Tryd.prog 23 #[.pointer (some ⟨g, 0, none⟩)] w fun e w' => ∃ u E, e = .returned u ∧ IsE w' E u ∧ E = .at_ (a : Int) (.code 2) ∧ Below w.heap.size w w' := by
  have hL := left_is B g s a f w hs hf h
  have c1 := h.c1
  have h8 : (8 : Int) ≤ (f : Int) := by omega
  clear h hf
  go_enter Tryd.func23, Tryd.ntmps23
  go_wp2_with (first
    | (go_at_call 36; refine hL.mono ?_; rintro e w1 ⟨rfl, m1, rfl⟩)
    | (go_at_call 34; refine (at_any _ _ _ ⟨_, _, rfl⟩).mono ?_; rintro e wx ⟨rfl, rfl⟩))
  go_ret
  exact ⟨_, _, rfl, IsE.new (e := .code 2) rfl, rfl, (drewN_below (Below.refl _ w) _).alloc (Nat.le_refl _) _⟩
set_option maxHeartbeats 1000000 in
theorem rend_none (B g : Nat) (s : ByteArray) (a : Nat) (w : World) (hs : s.size ≤ 140737488351232) (hf : a = 8 * s.size) (h : RAt B g s a w) :
    Calls Tryd.prog 23 #[.pointer (some ⟨g, 0, none⟩)] w fun e w' => e = .returned .nilIface ∧ ∃ m, w' = w.drewN m := by
  have hL := left_is B g s a 0 w hs (by omega) h
  have HI := Aside0.mk h
  have c0 := h.c0
  have c1 := h.c1
  clear h
  have hf2 := Aside0.mk hf
  clear hf
  go_enter Tryd.func23, Tryd.ntmps23
  go_wp2_with (first
    | (go_at_call 36; refine hL.mono ?_; rintro e w1 ⟨rfl, m1, hw1⟩; have HW1 := Aside0.mk hw1; have HI1 : Aside0 (RAt B g s a w1) := ⟨by rw [hw1]; exact HI.out.drewN m1⟩; have k0 := HI1.out.c0; have k1 := HI1.out.c1; clear hw1 c0 c1))
  have hQ := fun m => left_is B g s a 0 (w1.drewN m) hs (by have := hf2.out; omega) (HI1.out.drewN m)
  go_quiet ((go_at_call 36; exact Calls.quiet_of (hQ _)))
  go_wp2_with fail
  go_ret
  exact ⟨rfl, m1 + _, by rw [HW1.out, World.drewN_drewN]⟩
theorem rend_bits (B g : Nat) (s : ByteArray) (a f c : Nat) (w : World) (hs : s.size ≤ 140737488351232) (hf : a + f = 8 * s.size) (hf0 : 0 < f) (hf8 : f < 8) (hc : (bs s)[a / 8]? = some c) (h : RAt B g s a w) :
    (c % 2 ^ f = 0 → Calls Tryd.prog 23 #[.pointer (some ⟨g, 0, none⟩)] w fun e w' => e = .returned .nilIface ∧ ∃ m, w' = w.drewN m) ∧
    (c % 2 ^ f ≠ 0 → Calls Tryd.prog 23 #[.pointer (some ⟨g, 0, none⟩)] w fun e w' => ∃ u E, e = .returned u ∧ IsE w' E u ∧ E = .at_ (a : Int) (.code 3) ∧ Below w.heap.size w w') := by
  have hp : a / 8 < s.size := by omega
  have hsc : s[a / 8].toNat = c := by rw [get_bs s (a / 8) hp, List.getD_eq_getElem?_getD, hc]; rfl
  have hc256 : c < 256 := by rw [← hsc]; exact UInt8.toNat_lt _
  have hm := mask_u8 c f hc256 (by omega)
  have hle : c % 2 ^ f ≤ c := Nat.mod_le _ _
  obtain ⟨z, hz⟩ : ∃ z, c % 2 ^ f = z := ⟨_, rfl⟩
  obtain ⟨p, hpp⟩ : ∃ p, a / 8 = p := ⟨_, rfl⟩
  rw [hz] at hm hle ⊢
  have hp2 : (a : Int) / 8 = (p : Int) := by omega
  have hps : p < s.size := by omega
  have hbyte : ((s[p].toNat : Nat) : Int) = (c : Int) := by subst hpp; rw [hsc]
  have HI := Aside0.mk h
  have c0 := h.c0
  have c1 := h.c1
  have hL0 := left_is B g s a f w hs hf h
  have h8 : ¬ (8 : Int) ≤ (f : Int) := by omega
  have hf1 : (0 : Int) < (f : Int) := by omega
  have hf7 : (f : Int) ≤ 7 := by omega
  have hz255 : (z : Int) ≤ 255 := by omega
  have hf := Aside0.mk hf
  clear h hz hc hpp hsc hp hc256
  constructor
  · intro hz0
    subst hz0
    go_enter Tryd.func23, Tryd.ntmps23
    go_wp2_with (first
      | (go_at_call 36; refine hL0.mono ?_; rintro e w1 ⟨rfl, m1, hw1⟩; have HW1 := Aside0.mk hw1; have HI1 : Aside0 (RAt B g s a w1) := ⟨by rw [hw1]; exact HI.out.drewN m1⟩; have k0 := HI1.out.c0; have k1 := HI1.out.c1; clear hw1 c0 c1))
    have hQ := fun m => left_is B g s a f (w1.drewN m) hs hf.out (HI1.out.drewN m)
    go_quiet ((go_at_call 36; exact Calls.quiet_of (hQ _)))
    go_wp2_with fail
    go_ret
    exact ⟨rfl, m1 + _, by rw [HW1.out, World.drewN_drewN]⟩
  · intro hz0
    have hz1 : (0 : Int) < (z : Int) := by omega
    clear hz0
    go_enter Tryd.func23, Tryd.ntmps23
    go_wp2_with (first
      | (go_at_call 36; refine hL0.mono ?_; rintro e w1 ⟨rfl, m1, hw1⟩; have HW1 := Aside0.mk hw1; have HI1 : Aside0 (RAt B g s a w1) := ⟨by rw [hw1]; exact HI.out.drewN m1⟩; have k0 := HI1.out.c0; have k1 := HI1.out.c1; clear hw1 c0 c1))
    have hQ := fun m => left_is B g s a f (w1.drewN m) hs hf.out (HI1.out.drewN m)
    go_quiet ((go_at_call 36; exact Calls.quiet_of (hQ _)))
    go_wp2_with (first
      | (go_at_call 34; refine (at_any _ _ _ ⟨_, _, rfl⟩).mono ?_; rintro e wx ⟨rfl, rfl⟩))
    go_ret
    exact ⟨_, _, rfl, IsE.new (e := .code 3) rfl, rfl, (show Below w.heap.size w _ by rw [HW1.out]; exact (drewN_below (drewN_below (Below.refl _ w) _) _).alloc (Nat.le_refl _) _)⟩
theorem rend_ok (B g : Nat) (s : ByteArray) (a f : Nat) (w : World) (hs : s.size ≤ 140737488351232) (hf : a + f = 8 * s.size) (hf8 : f < 8) (hz : (unp (bs s)).drop a = List.replicate f false) (h : RAt B g s a w) :
    Calls Tryd.prog 23 #[.pointer (some ⟨g, 0, none⟩)] w fun e w' => e = .returned .nilIface ∧ ∃ m, w' = w.drewN m := by
  by_cases h0 : f = 0
  · exact rend_none B g s a w hs (by omega) h
  · have hp : a / 8 < (bs s).length := by rw [bs_length]; omega
    have hc := List.getElem?_eq_getElem hp
    exact (rend_bits B g s a f _ w hs hf (by omega) hf8 hc h).1 ((rest_zero (bs s) (bs_ok s) a f _ (by rw [bs_length]; exact hf) hf8 (by omega) hc).1 hz)
theorem rend_form (B g : Nat) (s : ByteArray) (a f : Nat) (w : World) (hs : s.size ≤ 140737488351232) (hf : a + f = 8 * s.size) (h8 : f < 8) (hz : (unp (bs s)).drop a ≠ List.replicate f false) (h : RAt B g s a w) :
    Calls Tryd.prog 23 #[.pointer (some ⟨g, 0, none⟩)] w fun e w' => ∃ u E, e = .returned u ∧ IsE w' E u ∧ E = .at_ (a : Int) (.code 3) ∧ Below w.heap.size w w' := by
  have hlen : ((unp (bs s)).drop a).length = f := by rw [List.length_drop, unp_length, bs_length]; omega
  by_cases h0 : f = 0
  · subst h0; exact absurd (List.eq_nil_of_length_eq_zero hlen) hz
  · have hp : a / 8 < (bs s).length := by rw [bs_length]; omega
    have hc := List.getElem?_eq_getElem hp
    exact (rend_bits B g s a f _ w hs hf (by omega) h8 hc h).2 (fun e => hz ((rest_zero (bs s) (bs_ok s) a f _ (by rw [bs_length]; exact hf) h8 (by omega) hc).2 e))
theorem rend_bad (B g : Nat) (s : ByteArray) (a f : Nat) (w : World) (hs : s.size ≤ 140737488351232) (hf : a + f = 8 * s.size) (hz : ∀ k, k < 8 → (unp (bs s)).drop a ≠ List.replicate k false) (h : RAt B g s a w) :
    Calls Tryd.prog 23 #[.pointer (some ⟨g, 0, none⟩)] w fun e w' => ∃ u E, e = .returned u ∧ IsE w' E u ∧ E ≠ .nil ∧ Below w.heap.size w w' := by
  by_cases h8 : f < 8
  · refine (rend_form B g s a f w hs hf h8 (hz f h8) h).mono ?_
    rintro e w' ⟨u, E, h1, h2, rfl, h3⟩
    exact ⟨u, _, h1, h2, by simp, h3⟩
  · refine (rend_long B g s a f w hs hf (by omega) h).mono ?_
    rintro e w' ⟨u, E, h1, h2, rfl, h3⟩
    exact ⟨u, _, h1, h2, by simp, h3⟩
theorem rget_range (B g : Nat) (s : ByteArray) (a : Nat) (c : Int) (w : World) (hc : c < 0 ∨ 64 < c) (h : RAt B g s a w) :
    Calls Tryd.prog 21 #[.pointer (some ⟨g, 0, none⟩), .int .i64 c] w fun e w' => ∃ u E, e = .returned (.tuple #[.int .u64 0, u]) ∧ IsE w' E u ∧ E = .at_ (a : Int) (.code 9) ∧ RAt B g s a w' ∧ Below w.heap.size w w' := by
  have HB := Aside0.mk (Below.refl w.heap.size w)
  have HI := Aside0.mk h
  have c1 := h.c1
  clear h
  rcases hc with hc | hc
  · go_enter Tryd.func21, Tryd.ntmps21
    go_wp2_with (first
      | (go_at_call 34; refine (at_any _ _ _ ⟨_, _, rfl⟩).mono ?_; rintro e wx ⟨rfl, rfl⟩))
    go_ret2
    exact ⟨_, _, rfl, IsE.new (e := .code 9) rfl, rfl, HI.out.below (below_alloc (Below.refl _ _) _), below_alloc (Below.refl _ _) _⟩
  · have hc' : ¬ c < 0 := by omega
    go_enter Tryd.func21, Tryd.ntmps21
    go_wp2_with (first
      | (go_at_call 34; refine (at_any _ _ _ ⟨_, _, rfl⟩).mono ?_; rintro e wx ⟨rfl, rfl⟩))
    go_ret2
    exact ⟨_, _, rfl, IsE.new (e := .code 9) rfl, rfl, HI.out.below (below_alloc (Below.refl _ _) _), below_alloc (Below.refl _ _) _⟩
end Go.Proofs.YtodhnmflabehhaaDoor
