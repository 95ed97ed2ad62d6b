import Derived.Test.YtodhnmflabehhaaXorP
import Derived.Test.YtodhnmflabehhaaBitR
namespace Go.Proofs.Ytodhnmflabehhaa
open Go.RowKit Go.Proofs.YtodhnmflabehhaaW.PrintWords Go.Proofs.YtodhnmflabehhaaW.PrintLast Go.Proofs.YtodhnmflabehhaaW.PrintMore Hy

theorem puts_any (B g : Nat) (l : List Bool) (n c : Int) (w : World) (h0 : 0 ≤ n) (hc0 : 0 ≤ c) (hn : n.toNat < 2 ^ c.toNat) (hc : c ≤ 64) (hl : l.length ≤ 1000000000) (hB : B ≤ w.heap.size) (h : IsW 50 B g l w) :
    Calls Try.prog 18 #[.pointer (some ⟨g, 0, none⟩), .int .u64 n, .int .i64 c] w fun e w' => e = .returned (.tuple #[]) ∧ IsW 50 B g (l ++ bitsOf n.toNat c.toNat) w' ∧ Below B w w' := by
  obtain ⟨n, rfl⟩ := Int.eq_ofNat_of_zero_le h0
  obtain ⟨c, rfl⟩ := Int.eq_ofNat_of_zero_le hc0
  rw [Int.toNat_natCast, Int.toNat_natCast] at *
  have H := wput_ok 50 (by decide) B g l n c w hn (by omega) hl hB h
  clear hn h
  go_enter Try.func18, Try.ntmps18
  go_wp2_with (go_at_call 13; refine H.mono ?_; rintro e w1 ⟨rfl, h1, h2⟩; have H1 := Aside0.mk h1; have H2 := Aside0.mk h2; clear h1 h2)
  go_end0
  exact ⟨rfl, H1.out, H2.out⟩

theorem wdiff_zero (B g : Nat) (l : List Bool) (w : World) (hl : l.length ≤ 1000000000) (hB : B ≤ w.heap.size) (h : IsW 50 B g l w) :
    Calls Try.prog 19 #[.pointer (some ⟨g, 0, none⟩), .int .u64 0] w fun e w' => e = .returned (.tuple #[]) ∧ IsW 50 B g (l ++ encD 0) w' ∧ Below B w w' := by
  have H := puts_any B g l 0 1 w (by decide) (by decide) (by decide) (by decide) hl hB h
  rw [show bitsOf (Int.toNat 0) (Int.toNat 1) = encD 0 from rfl] at H
  clear h
  go_enter Try.func19, Try.ntmps19
  go_wp2_with (go_at_call 18; refine H.mono ?_; rintro e w1 ⟨rfl, h1, h2⟩; have H1 := Aside0.mk h1; have H2 := Aside0.mk h2; clear h1 h2)
  (try simp only [Exit.inBlock, Exit.then])
  refine bodyPost_ret (results_none rfl _ _ _) rfl ?_
  exact ⟨rfl, H1.out, H2.out⟩
set_option maxHeartbeats 1000000 in
theorem wdiff_some (B g : Nat) (l : List Bool) (x : Nat) (w : World) (hx0 : x ≠ 0) (hx : x < 18446744073709551616) (hl : l.length ≤ 900000000) (hB : B ≤ w.heap.size) (h : IsW 50 B g l w) :
    Calls Try.prog 19 #[.pointer (some ⟨g, 0, none⟩), .int .u64 (x : Int)] w fun e w' => e = .returned (.tuple #[]) ∧ IsW 50 B g (l ++ encD x) w' ∧ Below B w w' := by
  obtain ⟨s1, _, _, _⟩ := ends_says x hx0 hx
  have z := size_lt x hx0 hx
  have A1 := fun w => lead_any x w hx
  have A2 := fun w => trail_any x w hx
  have HE : Aside0 (encD x = true :: (bitsOf (lead x) 6 ++ (bitsOf (63 - lead x - trail x) 6 ++ bitsOf (x / 2 ^ trail x) (64 - lead x - trail x)))) := ⟨by unfold encD; rw [if_neg hx0]⟩
  have HI := Aside0.mk h
  have f6 : ((x : Int) == 0) = false := by rw [beq_eq_false_iff_ne]; omega
  generalize lead x = L at *
  generalize trail x = t at *
  obtain ⟨q, hq⟩ : ∃ q, x / 2 ^ t = q := ⟨_, rfl⟩
  obtain ⟨S, hS⟩ : ∃ S, 64 - L - t = S := ⟨_, rfl⟩
  obtain ⟨S1, hS1⟩ : ∃ S1, 63 - L - t = S1 := ⟨_, rfl⟩
  rw [hq, hS, hS1] at HE
  rw [hq, hS] at z
  have f1 : (x : Int) / 2 ^ t = (q : Int) := by rw [cast_div, hq]
  have f3 : (64 : Int) - (L : Int) - (t : Int) = (S : Int) := by omega
  have f4 : (S : Int) - 1 = (S1 : Int) := by omega
  have hL2 : (L : Int) ≤ 63 := by omega
  have ht2 : (t : Int) ≤ 63 := by omega
  have hS2 : (S : Int) ≤ 64 := by omega
  have hS3 : (S1 : Int) ≤ 63 := by omega
  have hS4 : (1 : Int) ≤ (S : Int) := by omega
  have hLn : L < 64 := by omega
  have hSn : S1 < 64 := by omega
  have Z := Aside0.mk z
  clear z hq hS hS1 hx h s1 hx0
  go_enter Try.func19, Try.ntmps19
  go_wp2_with (first
      | (go_at_call 7; refine (A1 _).mono ?_; rintro e wd ⟨rfl, ⟨nd, rfl⟩⟩)
      | (go_at_call 8; refine (A2 _).mono ?_; rintro e wd ⟨rfl, ⟨nd, rfl⟩⟩))
  refine (puts_any B g l 1 1 _ (by decide) (by decide) (by decide) (by decide) (by omega) (by exact hB) (by exact HI.out)).mono ?_
  rintro e w1 ⟨rfl, h1, b1⟩
  have H1 := Aside0.mk h1
  have B1 : Aside0 (Below B w w1) := ⟨(drewN_below (Below.refl B w) _).trans b1⟩
  clear h1 b1
  go_wp2_with fail
  refine (puts_any B g _ (L : Int) 6 _ (by omega) (by decide) (by rw [Int.toNat_natCast]; exact hLn) (by decide) (by simp [bitsOf_length]; omega) (Nat.le_trans hB B1.out.size) H1.out).mono ?_
  rintro e w2 ⟨rfl, h1, b1⟩
  have H2 := Aside0.mk h1
  have B2 := Aside0.mk (B1.out.trans b1)
  clear h1 b1 H1 B1
  go_wp2_with fail
  refine (puts_any B g _ (S1 : Int) 6 _ (by omega) (by decide) (by rw [Int.toNat_natCast]; exact hSn) (by decide) (by simp [bitsOf_length]; omega) (Nat.le_trans hB B2.out.size) H2.out).mono ?_
  rintro e w3 ⟨rfl, h1, b1⟩
  have H3 := Aside0.mk h1
  have B3 := Aside0.mk (B2.out.trans b1)
  clear h1 b1 H2 B2
  go_wp2_with fail
  refine (puts_any B g _ (q : Int) (S : Int) _ (by omega) (by omega) (by rw [Int.toNat_natCast, Int.toNat_natCast]; exact Z.out) (by omega) (by simp [bitsOf_length]; omega) (Nat.le_trans hB B3.out.size) H3.out).mono ?_
  rintro e w4 ⟨rfl, h1, b1⟩
  have H4 := Aside0.mk h1
  have B4 := Aside0.mk (B3.out.trans b1)
  clear h1 b1 H3 B3
  go_wp2_with fail
  go_end0
  refine ⟨rfl, ?_, B4.out⟩
  have := H4.out
  rw [Int.toNat_natCast, Int.toNat_natCast, Int.toNat_natCast, Int.toNat_natCast] at this
  rw [HE.out]
  simpa [List.append_assoc, bitsOf] using this
theorem wdiff_any (B g : Nat) (l : List Bool) (x : Int) (w : World) (h0 : 0 ≤ x) (hx : x < 18446744073709551616) (hl : l.length ≤ 900000000) (hB : B ≤ w.heap.size) (h : IsW 50 B g l w) :
    Calls Try.prog 19 #[.pointer (some ⟨g, 0, none⟩), .int .u64 x] w fun e w' => e = .returned (.tuple #[]) ∧ IsW 50 B g (l ++ encD x.toNat) w' ∧ Below B w w' := by
  obtain ⟨x, rfl⟩ := Int.eq_ofNat_of_zero_le h0
  by_cases hx0 : x = 0
  · subst hx0; exact wdiff_zero B g l w (by omega) hB h
  · exact wdiff_some B g l x w hx0 (by omega) hl hB h
end Go.Proofs.Ytodhnmflabehhaa
