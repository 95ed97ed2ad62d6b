import Derived.Test.YtodhnmflabehhaaBitEnds
namespace Go.Proofs.Ytodhnmflabehhaa
open Go.RowKit Go.Proofs.YtodhnmflabehhaaW.PrintWords Go.Proofs.YtodhnmflabehhaaW.PrintLast Go.Proofs.YtodhnmflabehhaaW.PrintMore Hy

theorem ends_says (n : Nat) (hn : n ≠ 0) (h : n < 18446744073709551616) : lead n + trail n ≤ 63 ∧ n / 2 ^ trail n % 2 = 1 ∧ n / 2 ^ trail n / 2 ^ (63 - lead n - trail n) = 1 ∧ n / 2 ^ trail n * 2 ^ trail n = n := by
  obtain ⟨l1, l2⟩ := lead_says n hn h
  obtain ⟨i1, i2, i3, i4⟩ := tz_says 64 n hn h
  have ht : trail n = tz 64 n := by unfold trail; rw [if_neg hn]
  rw [ht]
  have hge : 2 ^ tz 64 n ≤ n := by
    rcases Nat.lt_or_ge n (2 ^ tz 64 n) with h | h
    · rw [Nat.div_eq_of_lt h] at i2; omega
    · exact h
  have hlt : n < 2 ^ (63 - lead n + 1) := by
    have := Nat.div_add_mod n (2 ^ (63 - lead n))
    have := Nat.mod_lt n (Nat.two_pow_pos (63 - lead n))
    rw [Nat.pow_succ]
    rw [l2] at *; omega
  have hle : tz 64 n < 63 - lead n + 1 := by
    rcases Nat.lt_or_ge (tz 64 n) (63 - lead n + 1) with h | h
    · exact h
    · have := Nat.pow_le_pow_right (show 0 < 2 by omega) h; omega
  refine ⟨by omega, i2, ?_, ?_⟩
  · rw [Nat.div_div_eq_div_mul, ← Nat.pow_add, show tz 64 n + (63 - lead n - tz 64 n) = 63 - lead n by omega, l2]
  · exact Nat.div_mul_cancel (Nat.dvd_of_mod_eq_zero i3)
set_option maxHeartbeats 2000000 in
set_option maxRecDepth 100000 in
theorem bitsEnds_walk (n : Int) (w : World) (h0 : 0 ≤ n) (h1 : n < 18446744073709551616) : Calls Try.prog 3 #[.int .u64 n] w fun e w' => e = .returned (.bool true) ∧ Below w.heap.size w w' := by
  have HB := Aside0.mk (Below.refl w.heap.size w)
  obtain ⟨n, rfl⟩ := Int.eq_ofNat_of_zero_le h0
  by_cases hn : n = 0
  · subst hn
    have A1 := fun w => lead_any 0 w (by decide)
    have A2 := fun w => trail_any 0 w (by decide)
    rw [show lead 0 = 64 from rfl] at A1
    rw [show trail 0 = 64 from rfl] at A2
    go_enter Try.func3, Try.ntmps3
    go_wp2_with (first
      | (go_at_call 6; refine (bits_first _).mono ?_; rintro e wb ⟨rfl, hb⟩; have HBn : Aside0 (Below w.heap.size w wb) := ⟨below_next (by repeat (first | (with_reducible exact HB.out) | apply below_alloc | apply pw_below_drewN | apply below_drew1)) hb⟩; clear HB hb; have HB := HBn; clear HBn)
      | (go_at_call 7; refine (A1 _).mono ?_; rintro e wd ⟨rfl, ⟨nd, rfl⟩⟩)
      | (go_at_call 8; refine (A2 _).mono ?_; rintro e wd ⟨rfl, ⟨nd, rfl⟩⟩))
    go_ret
    exact ⟨rfl, (by repeat (first | (with_reducible exact HB.out) | apply below_alloc | apply pw_below_drewN | apply below_drew1))⟩
  · obtain ⟨e1, e2, e3, e4⟩ := ends_says n hn (by omega)
    have A1 := fun w => lead_any n w (by omega)
    have A2 := fun w => trail_any n w (by omega)
    generalize lead n = L at *
    generalize trail n = t at *
    obtain ⟨q, hq⟩ : ∃ q, n / 2 ^ t = q := ⟨_, rfl⟩
    obtain ⟨d, hd⟩ : ∃ d, 63 - L - t = d := ⟨_, rfl⟩
    have hqb : q < 18446744073709551616 := by rw [← hq]; exact Nat.lt_of_le_of_lt (Nat.div_le_self _ _) (by omega)
    rw [hq] at e2 e3 e4
    rw [hd] at e3
    have f1 : (n : Int) / 2 ^ t = (q : Int) := by rw [cast_div, hq]
    have f2 : Go.bits .and .u64 (q : Int) 1 = 1 := by rw [and_u64_1 _ (by omega) (by omega)]; omega
    have f3 : (63 : Int) - (L : Int) - (t : Int) = (d : Int) := by omega
    have f4 : (q : Int) / 2 ^ d = 1 := by rw [cast_div, e3]; rfl
    have f5 : (q : Int) * 2 ^ t = (n : Int) := by rw [cast_shl, e4]
    have f6 : ((n : Int) == 0) = false := by rw [beq_eq_false_iff_ne]; omega
    have f7 : decide (63 < (L : Int) + (t : Int)) = false := by simp; omega
    have hL : L ≤ 63 := by omega
    have ht : t ≤ 63 := by omega
    have hd2 : d ≤ 63 := by omega
    have hw9 : IntKind.i64.wrap ((L : Int) + (t : Int)) = (L : Int) + (t : Int) := IntWalk.i64_in _ (by omega)
    have hL2 : (L : Int) ≤ 63 := by omega
    have ht2 : (t : Int) ≤ 63 := by omega
    have hlt : (L : Int) + (t : Int) ≤ 63 := by omega
    have f8 : IntKind.u64.wrap ((q : Int) * 2 ^ t) = (n : Int) := by rw [f5, wrap_u64]; omega
    have f9 : ((n : Int) == (n : Int)) = true := by simp
    clear hq hd e2 e3 e4 h0 e1 f5 hqb hL ht hd2 hn h1
    go_enter Try.func3, Try.ntmps3
    go_wp2_with (first
      | (go_at_call 6; refine (bits_first _).mono ?_; rintro e wb ⟨rfl, hb⟩; have HBn : Aside0 (Below w.heap.size w wb) := ⟨below_next (by repeat (first | (with_reducible exact HB.out) | apply below_alloc | apply pw_below_drewN | apply below_drew1)) hb⟩; clear HB hb; have HB := HBn; clear HBn)
      | (go_at_call 7; refine (A1 _).mono ?_; rintro e wd ⟨rfl, ⟨nd, rfl⟩⟩)
      | (go_at_call 8; refine (A2 _).mono ?_; rintro e wd ⟨rfl, ⟨nd, rfl⟩⟩))
    go_ret
    exact ⟨rfl, (by repeat (first | (with_reducible exact HB.out) | apply below_alloc | apply pw_below_drewN | apply below_drew1))⟩
end Go.Proofs.Ytodhnmflabehhaa
