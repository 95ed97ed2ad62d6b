import Derived.Test.YtodhnmflabehhaaBit
import Derived.Test.YtodhnmflabehhaaBitQ
import Derived.Test.YtodhnmflabehhaaKp
import Derived.Test.YtodhnmflabehhaaWLast
import Derived.Test.YtodhnmflabehhaaWMore
import Derived.IntWalk
namespace Go.Proofs.Ytodhnmflabehhaa
open Go.RowKit Go.Proofs.YtodhnmflabehhaaW.PrintWords Go.Proofs.YtodhnmflabehhaaW.PrintLast Go.Proofs.YtodhnmflabehhaaW.PrintMore Hy

/-- A reader of the call's own. -/
def RAt (B g : Nat) (s : ByteArray) (a : Nat) (w : World) : Prop := B ≤ g ∧ w.heap[g]? = some (.cells #[.string s, .int .i64 (a : Int)] 61 (0, 0))
theorem RAt.c0 {B g s a w} (h : RAt B g s a w) : w.cell? ⟨g, 0, none⟩ = some (.string s) := by rw [blk_cell h.2]; rfl
theorem RAt.c1 {B g s a w} (h : RAt B g s a w) : w.cell? ⟨g, 1, none⟩ = some (.int .i64 (a : Int)) := by rw [blk_cell h.2]; rfl
theorem RAt.f1 {B g s a w} (h : RAt B g s a w) : w.frozen? ⟨g, 1, none⟩ = false := blk_frozen h.2 1
theorem RAt.put {B g s a w} (h : RAt B g s a w) (a' : Nat) : RAt B g s a' (w.setCell ⟨g, 1, none⟩ (.int .i64 (a' : Int))) := ⟨h.1, by rw [blk_set h.2]; rfl⟩
theorem drewN_below {B : Nat} {w w1 : World} (h : Below B w w1) (m : Nat) : Below B w (w1.drewN m) := by
  obtain ⟨h1, h2, h3, h4, h5⟩ := h
  exact ⟨h1, h2, h3, h4, h5⟩
theorem left_any (B g : Nat) (s : ByteArray) (a : Nat) (w : World) (hs : s.size ≤ 140737488351232) (ha : a ≤ 8 * s.size) (h : RAt B g s a w) :
    Calls Try.prog 24 #[.pointer (some ⟨g, 0, none⟩)] w fun e w' => e = .returned (.int .i64 (8 * (s.size : Int) - (a : Int))) ∧ ∃ m, w' = w.drewN m := by
  have c0 := h.c0
  have c1 := h.c1
  clear h
  go_enter Try.func24, Try.ntmps24
  have w1 : IntKind.i64.wrap (8 * (s.size : Int)) = 8 * (s.size : Int) := IntWalk.i64_in _ (by omega)
  have w2 : IntKind.i64.wrap (8 * (s.size : Int) - (a : Int)) = 8 * (s.size : Int) - (a : Int) := IntWalk.i64_in _ (by omega)
  go_wp2_with fail
  go_quiet (fail)
  go_wp2
  go_ret
  exact ⟨rfl, _, rfl⟩
theorem take_step (L : List Nat) (a j t k c : Nat) (hc : L[(a + j) / 8]? = some c) (hk : 8 - (a + j) % 8 - t = k) (ht : (a + j) % 8 + t ≤ 8) :
    val (((unp L).drop a).take (j + t)) = val (((unp L).drop a).take j) * 2 ^ t + c / 2 ^ k % 2 ^ t := by
  rw [List.take_add, val_append, List.drop_drop, unp_piece L (a + j) t c hc ht, bitsOf_length, val_bitsOf, hk]
set_option maxHeartbeats 4000000 in
theorem rget_ok (B g : Nat) (s : ByteArray) (a count : Nat) (w : World) (hs : s.size ≤ 140737488351232) (hc : count ≤ 64) (ha : a + count ≤ 8 * s.size) (hB : B ≤ w.heap.size) (h : RAt B g s a w) :
    Calls Try.prog 15 #[.pointer (some ⟨g, 0, none⟩), .int .i64 (count : Int)] w fun e w' => e = .returned (.tuple #[.int .u64 ((val (((unp (bs s)).drop a).take count) : Nat) : Int), .nilIface]) ∧ RAt B g s (a + count) w' ∧ Kp (· = g) w w' := by
  have HB := Aside0.mk (Kp.refl (· = g) w)
  have HI := Aside0.mk h
  have hL := left_any B g s a w hs (by omega) h
  have hle : ¬ 8 * (s.size : Int) - (a : Int) < (count : Int) := by omega
  clear h
  go_enter Try.func15, Try.ntmps15
  go_wp2_with (go_at_call 24; refine hL.mono ?_; rintro e w1 ⟨rfl, m1, hw1⟩; have HI1 := Aside0.mk (show RAt B g s a w1 by rw [hw1]; exact HI.out); have HB1 := Aside0.mk (show Kp (· = g) w w1 by rw [hw1]; exact HB.out.drewN m1); clear hw1 HI HB)
  go_loopw [1, 6] (fun v1 v6 w' => ∃ (j rem : Nat), j + rem = count ∧ v1 = .int .i64 (rem : Int) ∧ v6 = .int .u64 ((val (((unp (bs s)).drop a).take j) : Nat) : Int) ∧ Aside0 (RAt B g s (a + j) w') ∧ Aside0 (Kp (· = g) w w')) (fun v1 _ _ => (intOf v1).toNat)
  case atStart => exact ⟨0, count, by omega, rfl, by rw [List.take_zero]; rfl, HI1, HB1⟩
  case round =>
    clear HB1 HI1
    obtain ⟨j, rem, hj, rfl, rfl, HI, HB⟩ := hrel
    by_cases h0 : rem = 0
    · subst h0
      obtain rfl : j = count := by omega
      go_wp2_with fail
      go_ret2
      exact ⟨rfl, HI.out, HB.out⟩
    · have hpos : (0 : Int) < (rem : Int) := by omega
      obtain ⟨n, hn⟩ : ∃ n, val (((unp (bs s)).drop a).take j) = n := ⟨_, rfl⟩
      obtain ⟨m, hm⟩ : ∃ m, a + j = m := ⟨_, rfl⟩
      rw [hn]
      rw [hm] at HI
      have c0 := HI.out.c0
      have c1 := HI.out.c1
      have f1 := HI.out.f1
      have HN := Aside0.mk hn
      have hnj : n < 2 ^ j := by rw [← hn]; exact Nat.lt_of_lt_of_le (val_lt _) (Nat.pow_le_pow_right (by omega) (by rw [List.length_take]; omega))
      have HNJ := Aside0.mk hnj
      obtain ⟨z, hz⟩ : ∃ z, m % 8 = z := ⟨_, rfl⟩
      obtain ⟨p, hp⟩ : ∃ p, m / 8 = p := ⟨_, rfl⟩
      obtain ⟨R, hR⟩ : ∃ R, 8 - z = R := ⟨_, rfl⟩
      obtain ⟨t, ht⟩ : ∃ t, min R rem = t := ⟨_, rfl⟩
      obtain ⟨r1, hr1⟩ : ∃ r1, rem - t = r1 := ⟨_, rfl⟩
      have hz8 : z < 8 := by omega
      have hR1 : 1 ≤ R := by omega
      have hR8 : R ≤ 8 := by omega
      have htR : t ≤ R := by omega
      have ht1 : 1 ≤ t := by omega
      have htr : t ≤ rem := by omega
      have hps : p < s.size := by omega
      have hz2 : (m : Int) % 8 = (z : Int) := by omega
      have hp2 : (m : Int) / 8 = (p : Int) := by omega
      have hR2 : 8 - (z : Int) = (R : Int) := by omega
      have ht2 : min (R : Int) (rem : Int) = (t : Int) := by omega
      have hr2 : (rem : Int) - (t : Int) = (r1 : Int) := by omega
      have hi0 : IntKind.i64.wrap 0 = 0 := by decide
      have HM := Aside0.mk (And.intro hm (And.intro hz (And.intro hp (And.intro hR (And.intro ht hr1)))))
      clear hn hnj hm hz hp hR ht hr1 h0
      rcases Nat.lt_or_ge rem R with hlt | hge
      · obtain rfl : t = rem := by have := HM.out; omega
        obtain rfl : r1 = 0 := by have := HM.out; omega
        obtain ⟨sh, hsh⟩ : ∃ sh, R - t = sh := ⟨_, rfl⟩
        have hsh2 : IntKind.i64.wrap ((R : Int) - (t : Int)) = (sh : Int) := by rw [IntWalk.i64_in _ (by omega)]; omega
        have hsh3 : sh ≤ 7 := by omega
        have hge2 : ¬ (R : Int) ≤ (t : Int) := by omega
        have HSH := Aside0.mk hsh
        clear hsh
        go_wp2_with fail
        go_quiet (fail)
        go_wp2_with fail
        go_roundw
        case rel =>
          have hm := HM.out
          have hc256 : s[p].toNat < 256 := s[p].toNat_lt
          have hcp : (bs s)[(a + j) / 8]? = some s[p].toNat := by
            rw [hm.1, hm.2.2.1, get_bs s p hps, List.getD_eq_getElem?_getD, List.getElem?_eq_getElem (by rw [bs_length]; exact hps)]; rfl
          have hcw : IntKind.u64.wrap ((s[p].toNat : Nat) : Int) = ((s[p].toNat : Nat) : Int) := by rw [wrap_u64]; omega
          refine ⟨j + t, 0, by omega, rfl, ?_, ⟨by rw [← Nat.add_assoc, hm.1]; exact (show RAt B g s m (wr.drewN nq) from HI.out).put (m + t)⟩, ⟨(HB.out.drewN nq).set (p := ⟨g, 1, none⟩) rfl _⟩⟩
          rw [hcw, get_step n s[p].toNat t j sh HNJ.out (by omega) (by omega) hc256, take_step (bs s) a j t sh _ hcp (by rw [hm.1, hm.2.1]; have := HSH.out; omega) (by rw [hm.1, hm.2.1]; omega), HN.out]
        case measure => simp [intOf]; omega
      · obtain rfl : t = R := by have := HM.out; omega
        have hge2 : (t : Int) ≤ (rem : Int) := by omega
        go_wp2_with fail
        go_quiet (fail)
        go_wp2_with fail
        go_roundw
        case rel =>
          have hm := HM.out
          have hc256 : s[p].toNat < 256 := s[p].toNat_lt
          have hcp : (bs s)[(a + j) / 8]? = some s[p].toNat := by
            rw [hm.1, hm.2.2.1, get_bs s p hps, List.getD_eq_getElem?_getD, List.getElem?_eq_getElem (by rw [bs_length]; exact hps)]; rfl
          have hcw : IntKind.u64.wrap ((s[p].toNat : Nat) : Int) = ((s[p].toNat : Nat) : Int) := by rw [wrap_u64]; omega
          refine ⟨j + t, r1, by omega, rfl, ?_, ⟨by rw [← Nat.add_assoc, hm.1]; exact (show RAt B g s m (wr.drewN nq) from HI.out).put (m + t)⟩, ⟨(HB.out.drewN nq).set (p := ⟨g, 1, none⟩) rfl _⟩⟩
          have hgs := get_step n s[p].toNat t j 0 HNJ.out (by omega) (by omega) hc256
          rw [Int.pow_zero, Int.ediv_one] at hgs
          rw [hcw, hgs, take_step (bs s) a j t 0 _ hcp (by rw [hm.1, hm.2.1]; omega) (by rw [hm.1, hm.2.1]; omega), HN.out]
        case measure => simp [intOf]; omega
end Go.Proofs.Ytodhnmflabehhaa
