import Derived.Test.YtodhnmflabehhaaDoorMkvsfwfem
import Derived.Test.YtodhnmflabehhaaDoorWLast
import Derived.Test.YtodhnmflabehhaaDoorWMore
import Derived.StillTailTactics
import Derived.IntWalk
namespace Go.Proofs.YtodhnmflabehhaaDoor
open Go.RowKit Go.Proofs.YtodhnmflabehhaaDoorW.PrintWords Go.Proofs.YtodhnmflabehhaaDoorW.PrintLast Go.Proofs.YtodhnmflabehhaaDoorW.PrintMore Hy

set_option maxHeartbeats 4000000 in
set_option maxRecDepth 100000 in
theorem wput_ok (T : TypeId) (hT : 5 ≠ T) (B g : Nat) (l : List Bool) (n : Nat) (count : Nat) (w : World) (hn : n < 2 ^ count) (hc : count ≤ 64) (hl : l.length ≤ 1000000000) (hB : B ≤ w.heap.size) (h : IsW T B g l w) :
    Calls Tryd.prog 10 #[.pointer (some ⟨g, 0, none⟩), .int .u64 (n : Int), .int .i64 (count : Int)] w fun e w' => e = .returned .nilIface ∧ IsW T B g (l ++ bitsOf n count) w' ∧ Below B w w' := by
  have HB := Aside0.mk (Below.refl B w)
  have HI := Aside0.mk h
  have hq : (n : Int) / 2 ^ count = 0 := by
    have h1 : n / 2 ^ count = 0 := Nat.div_eq_of_lt hn
    have h2 : ((n / 2 ^ count : Nat) : Int) = (n : Int) / 2 ^ count := by rw [Int.natCast_ediv, Int.natCast_pow]; rfl
    rw [← h2, h1]; rfl
  clear h
  go_enter Tryd.func10, Tryd.ntmps10
  go_wp2_with fail
  go_loopw [2] (fun v2 w' => ∃ (rem : Nat) (d : List Bool), v2 = .int .i64 (rem : Int) ∧ rem ≤ count ∧ Aside0 (d ++ bitsOf n rem = bitsOf n count) ∧ Aside0 (IsW T B g (l ++ d) w') ∧ Aside0 (Below B w w')) (fun v2 _ => (intOf v2).toNat)
  case atStart => exact ⟨count, [], rfl, by omega, ⟨rfl⟩, ⟨by rw [List.append_nil]; exact HI.out⟩, HB⟩
  case round =>
    clear HB HI
    obtain ⟨rem, d, rfl, hrem, HE, HI, HB⟩ := hrel
    have hBr := Nat.le_trans hB HB.out.size
    by_cases h0 : rem = 0
    · subst h0
      have hE : d = bitsOf n count := by rw [← HE.out]; simp [bitsOf]
      rw [hE] at HI
      go_wp2_with fail
      go_ret
      exact ⟨rfl, HI.out, HB.out⟩
    · have hpos : (0 : Int) < (rem : Int) := by omega
      obtain ⟨v, hv⟩ := HI.out
      have hdl : d.length = count - rem := by have := congrArg List.length HE.out; rw [List.length_append, bitsOf_length, bitsOf_length] at this; omega
      obtain ⟨m, hm⟩ : ∃ m, (l ++ d).length = m := ⟨_, rfl⟩
      rw [hm] at hv
      have hm2 : m ≤ 1000000064 := by rw [← hm, List.length_append]; omega
      have c0 := hv.c0
      have c1 := hv.c1
      obtain ⟨z, hz⟩ : ∃ z, m % 8 = z := ⟨_, rfl⟩
      obtain ⟨R, hR⟩ : ∃ R, 8 - z = R := ⟨_, rfl⟩
      obtain ⟨t, ht⟩ : ∃ t, min R rem = t := ⟨_, rfl⟩
      obtain ⟨r1, hr1⟩ : ∃ r1, rem - t = r1 := ⟨_, rfl⟩
      have hz8 : z < 8 := by omega
      have hR1 : 1 ≤ R := by omega
      have hR8 : R ≤ 8 := by omega
      have htR : t ≤ R := by omega
      have ht1 : 1 ≤ t := by omega
      have htr : t ≤ rem := by omega
      have hz2 : (m : Int) % 8 = (z : Int) := by omega
      have hR2 : 8 - (z : Int) = (R : Int) := by omega
      have ht2 : min (R : Int) (rem : Int) = (t : Int) := by omega
      have hr2 : (rem : Int) - (t : Int) = (r1 : Int) := by omega
      obtain ⟨P, x, hP, hQ, hx, hx2⟩ := pk_put (l ++ d) (bitsOf (n / 2 ^ r1) t) (by intro e; have := congrArg List.length e; rw [bitsOf_length] at this; simp at this; omega) (by rw [bitsOf_length, hm, hz]; omega)
      obtain ⟨LL, hLL⟩ : ∃ LL, pk (l ++ d) = LL := ⟨_, rfl⟩
      have hll : LL.length ≤ 200000000 := by rw [← hLL, pk_length, hm]; omega
      rw [hLL] at hv hP
      rw [hm, hz] at hP hQ hx
      rw [bitsOf_length] at hQ
      rw [hR] at hQ hx
      have HQ := Aside0.mk hQ
      have HX := Aside0.mk hx
      have HM := Aside0.mk hm
      have HT := Aside0.mk hr1
      have hi0 : IntKind.i64.wrap 0 = 0 := by decide
      rcases Nat.lt_or_ge rem R with hlt | hge
      · obtain rfl : t = rem := by omega
        obtain rfl : r1 = 0 := by omega
        obtain ⟨sh, hsh⟩ : ∃ sh, R - t = sh := ⟨_, rfl⟩
        have hsh2 : IntKind.i64.wrap ((R : Int) - (t : Int)) = (sh : Int) := by rw [IntWalk.i64_in _ (by omega)]; omega
        have hsh3 : sh ≤ 7 := by omega
        have hge2 : ¬ (R : Int) ≤ (t : Int) := by omega
        have HSH := Aside0.mk hsh
        clear hsh
        by_cases h8 : z = 0
        · rw [if_pos h8] at hP
          have hz0 : ((z : Int) == 0) = true := by simp; omega
          have hO : wr.ownsRow B 5 1 v (ints LL).length (nums .u8 (ints LL)) := by rw [ints_length]; exact hv.2.2
          have HV := Aside0.mk hv
          have HP := Aside0.mk hP
          clear hv hLL hP hQ HI hx h0 hm hr1 hz hR ht h8
          go_wp2_with ((with_reducible refine gate_builtin (b := .append) (xs := #[.tmp 39, .tmp 40]) rfl ?_); at_builtin; refine print_append_num (w0 := wr) B rfl (.tmp 39) (.tmp 40) 25 5 .u8 1 rfl Tryd.underlying25 uint8_info (by decide) v (ints LL) ((0 : Nat) : Int) rfl rfl hO (Below.refl _ _) hBr (by rw [ints_length]; omega) ?_; intro va wa ho hb hg hat; obtain ⟨q0, q1, hv1⟩ := WAt.more hT HV.out ho hg; rw [HP.out] at hv1; obtain ⟨ad0, cap0, rfl, -⟩ := hv1.last hT; have HV1 := Aside0.mk hv1; have q3 := hv1.c1; have HHB := Aside0.mk ((HB.out.trans hb).setCell (p := ⟨g, 0, none⟩) HV.out.1 (.slice (some ad0) (P.length + 1) cap0)); clear c0 c1 hO ho hg hat HV hv1 hb)
          obtain ⟨W2, hW2⟩ : ∃ W2, (wa.setCell ⟨g, 0, none⟩ (.slice (some ad0) (P.length + 1) cap0)).drew = W2 := ⟨_, rfl⟩
          have hv2 : WAt T B g (.slice (some ad0) (P.length + 1) cap0) m (P ++ [x]) W2 := by rw [← hW2]; exact HV1.out
          have hb2 : Below B w W2 := by rw [← hW2]; exact HHB.out.drew
          obtain ⟨ad, cap, hva, hcap, k0, k1, k2, k3, k4, k5⟩ := hv2.last hT
          injection hva with hva _ hva2
          injection hva with hva
          subst hva hva2
          have q2 := hv2.c0
          have K4 := Aside0.mk k4
          have K5 := Aside0.mk (k5 · · _ hb2)
          have hPl : P.length ≤ 200000000 := by have := congrArg List.length HP.out; simp at this; omega
          have hw1 : IntKind.i64.wrap ((P.length : Nat) : Int) = (P.length : Int) := IntWalk.i64_in _ (by omega)
          have hlt1 : ((P.length : Nat) : Int) < ((P.length : Nat) : Int) + 1 := by omega
          clear k4 k5 hv2 hb2
          refine wp_region_still_tail 25 (by kernel_rfl) (by kernel_rfl) ?_
          simp only [List.take_succ_cons, List.take_zero, List.drop_succ_cons, List.drop_zero]
          unfold World.drew at hW2
          rw [hW2]
          clear hW2 HV1 HHB q0 q1 q3
          repeat still_step
          try refine wpStill_nil ?_
          go_wp2_with fail
          go_roundw
          case rel =>
            refine ⟨0, d ++ bitsOf (n / 2 ^ 0) t, rfl, by omega, ⟨by rw [List.append_assoc, ← bitsOf_append, show t + 0 = t by omega]; exact HE.out⟩, ⟨.slice (some ad0) (P.length + 1) cap0, ?_⟩, ⟨K5.out _ _⟩⟩
            have hlen : (l ++ (d ++ bitsOf (n / 2 ^ 0) t)).length = m + t := by rw [← List.append_assoc, List.length_append, HM.out, bitsOf_length]
            rw [hlen, ← List.append_assoc, HQ.out, val_bitsOf]
            have hpb := put_byte x n t R sh HX.out hx2 HSH.out (by omega) hR8 (Nat.lt_of_lt_of_le hn (Nat.pow_le_pow_right (by omega) hc))
            have := K4.out (x + n % 2 ^ t * 2 ^ sh) (m + t)
            rw [← hpb] at this
            rw [Nat.pow_zero, Nat.div_one, HSH.out]
            exact this
          case measure => simp [intOf]; omega
        · rw [if_neg h8] at hP
          have hz0 : ((z : Int) == 0) = false := by simp; omega
          rw [hP] at hv
          have HV1 := Aside0.mk hv
          have HP := Aside0.mk hP
          obtain ⟨ad0, cap0, rfl, -⟩ := hv.last hT
          clear hv hLL hP hQ HI hx h0 hm hr1 hz hR ht h8
          go_wp2_with fail
          obtain ⟨W2, hW2⟩ : ∃ W2, wr.drew = W2 := ⟨_, rfl⟩
          have hv2 : WAt T B g (.slice (some ad0) (P.length + 1) cap0) m (P ++ [x]) W2 := by rw [← hW2]; exact HV1.out
          have hb2 : Below B w W2 := by rw [← hW2]; exact HB.out.drew
          obtain ⟨ad, cap, hva, hcap, k0, k1, k2, k3, k4, k5⟩ := hv2.last hT
          injection hva with hva _ hva2
          injection hva with hva
          subst hva hva2
          have q2 := hv2.c0
          have K4 := Aside0.mk k4
          have K5 := Aside0.mk (k5 · · _ hb2)
          have hPl : P.length ≤ 200000000 := by have := congrArg List.length HP.out; simp at this; omega
          have hw1 : IntKind.i64.wrap ((P.length : Nat) : Int) = (P.length : Int) := IntWalk.i64_in _ (by omega)
          have hlt1 : ((P.length : Nat) : Int) < ((P.length : Nat) : Int) + 1 := by omega
          clear k4 k5 hv2 hb2
          refine wp_region_still_tail 25 (by kernel_rfl) (by kernel_rfl) ?_
          simp only [List.take_succ_cons, List.take_zero, List.drop_succ_cons, List.drop_zero]
          unfold World.drew at hW2
          rw [hW2]
          clear hW2 HV1 c0 c1
          repeat still_step
          try refine wpStill_nil ?_
          go_wp2_with fail
          go_roundw
          case rel =>
            refine ⟨0, d ++ bitsOf (n / 2 ^ 0) t, rfl, by omega, ⟨by rw [List.append_assoc, ← bitsOf_append, show t + 0 = t by omega]; exact HE.out⟩, ⟨.slice (some ad0) (P.length + 1) cap0, ?_⟩, ⟨K5.out _ _⟩⟩
            have hlen : (l ++ (d ++ bitsOf (n / 2 ^ 0) t)).length = m + t := by rw [← List.append_assoc, List.length_append, HM.out, bitsOf_length]
            rw [hlen, ← List.append_assoc, HQ.out, val_bitsOf]
            have hpb := put_byte x n t R sh HX.out hx2 HSH.out (by omega) hR8 (Nat.lt_of_lt_of_le hn (Nat.pow_le_pow_right (by omega) hc))
            have := K4.out (x + n % 2 ^ t * 2 ^ sh) (m + t)
            rw [← hpb] at this
            rw [Nat.pow_zero, Nat.div_one, HSH.out]
            exact this
          case measure => simp [intOf]; omega
      · obtain rfl : t = R := by omega
        have hge2 : (t : Int) ≤ (rem : Int) := by omega
        by_cases h8 : z = 0
        · rw [if_pos h8] at hP
          have hz0 : ((z : Int) == 0) = true := by simp; omega
          have hO : wr.ownsRow B 5 1 v (ints LL).length (nums .u8 (ints LL)) := by rw [ints_length]; exact hv.2.2
          have HV := Aside0.mk hv
          have HP := Aside0.mk hP
          clear hv hLL hP hQ HI hx h0 hm hr1 hz hR ht h8
          go_wp2_with ((with_reducible refine gate_builtin (b := .append) (xs := #[.tmp 39, .tmp 40]) rfl ?_); at_builtin; refine print_append_num (w0 := wr) B rfl (.tmp 39) (.tmp 40) 25 5 .u8 1 rfl Tryd.underlying25 uint8_info (by decide) v (ints LL) ((0 : Nat) : Int) rfl rfl hO (Below.refl _ _) hBr (by rw [ints_length]; omega) ?_; intro va wa ho hb hg hat; obtain ⟨q0, q1, hv1⟩ := WAt.more hT HV.out ho hg; rw [HP.out] at hv1; obtain ⟨ad0, cap0, rfl, -⟩ := hv1.last hT; have HV1 := Aside0.mk hv1; have q3 := hv1.c1; have HHB := Aside0.mk ((HB.out.trans hb).setCell (p := ⟨g, 0, none⟩) HV.out.1 (.slice (some ad0) (P.length + 1) cap0)); clear c0 c1 hO ho hg hat HV hv1 hb)
          obtain ⟨W2, hW2⟩ : ∃ W2, (wa.setCell ⟨g, 0, none⟩ (.slice (some ad0) (P.length + 1) cap0)).drew = W2 := ⟨_, rfl⟩
          have hv2 : WAt T B g (.slice (some ad0) (P.length + 1) cap0) m (P ++ [x]) W2 := by rw [← hW2]; exact HV1.out
          have hb2 : Below B w W2 := by rw [← hW2]; exact HHB.out.drew
          obtain ⟨ad, cap, hva, hcap, k0, k1, k2, k3, k4, k5⟩ := hv2.last hT
          injection hva with hva _ hva2
          injection hva with hva
          subst hva hva2
          have q2 := hv2.c0
          have K4 := Aside0.mk k4
          have K5 := Aside0.mk (k5 · · _ hb2)
          have hPl : P.length ≤ 200000000 := by have := congrArg List.length HP.out; simp at this; omega
          have hw1 : IntKind.i64.wrap ((P.length : Nat) : Int) = (P.length : Int) := IntWalk.i64_in _ (by omega)
          have hlt1 : ((P.length : Nat) : Int) < ((P.length : Nat) : Int) + 1 := by omega
          clear k4 k5 hv2 hb2
          refine wp_region_still_tail 25 (by kernel_rfl) (by kernel_rfl) ?_
          simp only [List.take_succ_cons, List.take_zero, List.drop_succ_cons, List.drop_zero]
          unfold World.drew at hW2
          rw [hW2]
          clear hW2 HV1 HHB q0 q1 q3
          repeat still_step
          try refine wpStill_nil ?_
          go_wp2_with fail
          go_roundw
          case rel =>
            refine ⟨r1, d ++ bitsOf (n / 2 ^ r1) t, rfl, by omega, ⟨by rw [List.append_assoc, ← bitsOf_append, show t + r1 = rem by omega]; exact HE.out⟩, ⟨.slice (some ad0) (P.length + 1) cap0, ?_⟩, ⟨K5.out _ _⟩⟩
            have hlen : (l ++ (d ++ bitsOf (n / 2 ^ r1) t)).length = m + t := by rw [← List.append_assoc, List.length_append, HM.out, bitsOf_length]
            rw [hlen, ← List.append_assoc, HQ.out, val_bitsOf]
            have hpb := put_byte0 x (n / 2 ^ r1) t HX.out hx2 hR8 (Nat.lt_of_le_of_lt (Nat.div_le_self _ _) (Nat.lt_of_lt_of_le hn (Nat.pow_le_pow_right (by omega) hc)))
            have := K4.out (x + n / 2 ^ r1 % 2 ^ t * 2 ^ (t - t)) (m + t)
            rw [← hpb, ← cast_div] at this
            exact this
          case measure => simp [intOf]; omega
        · rw [if_neg h8] at hP
          have hz0 : ((z : Int) == 0) = false := by simp; omega
          rw [hP] at hv
          have HV1 := Aside0.mk hv
          have HP := Aside0.mk hP
          obtain ⟨ad0, cap0, rfl, -⟩ := hv.last hT
          clear hv hLL hP hQ HI hx h0 hm hr1 hz hR ht h8
          go_wp2_with fail
          obtain ⟨W2, hW2⟩ : ∃ W2, wr.drew = W2 := ⟨_, rfl⟩
          have hv2 : WAt T B g (.slice (some ad0) (P.length + 1) cap0) m (P ++ [x]) W2 := by rw [← hW2]; exact HV1.out
          have hb2 : Below B w W2 := by rw [← hW2]; exact HB.out.drew
          obtain ⟨ad, cap, hva, hcap, k0, k1, k2, k3, k4, k5⟩ := hv2.last hT
          injection hva with hva _ hva2
          injection hva with hva
          subst hva hva2
          have q2 := hv2.c0
          have K4 := Aside0.mk k4
          have K5 := Aside0.mk (k5 · · _ hb2)
          have hPl : P.length ≤ 200000000 := by have := congrArg List.length HP.out; simp at this; omega
          have hw1 : IntKind.i64.wrap ((P.length : Nat) : Int) = (P.length : Int) := IntWalk.i64_in _ (by omega)
          have hlt1 : ((P.length : Nat) : Int) < ((P.length : Nat) : Int) + 1 := by omega
          clear k4 k5 hv2 hb2
          refine wp_region_still_tail 25 (by kernel_rfl) (by kernel_rfl) ?_
          simp only [List.take_succ_cons, List.take_zero, List.drop_succ_cons, List.drop_zero]
          unfold World.drew at hW2
          rw [hW2]
          clear hW2 HV1 c0 c1
          repeat still_step
          try refine wpStill_nil ?_
          go_wp2_with fail
          go_roundw
          case rel =>
            refine ⟨r1, d ++ bitsOf (n / 2 ^ r1) t, rfl, by omega, ⟨by rw [List.append_assoc, ← bitsOf_append, show t + r1 = rem by omega]; exact HE.out⟩, ⟨.slice (some ad0) (P.length + 1) cap0, ?_⟩, ⟨K5.out _ _⟩⟩
            have hlen : (l ++ (d ++ bitsOf (n / 2 ^ r1) t)).length = m + t := by rw [← List.append_assoc, List.length_append, HM.out, bitsOf_length]
            rw [hlen, ← List.append_assoc, HQ.out, val_bitsOf]
            have hpb := put_byte0 x (n / 2 ^ r1) t HX.out hx2 hR8 (Nat.lt_of_le_of_lt (Nat.div_le_self _ _) (Nat.lt_of_lt_of_le hn (Nat.pow_le_pow_right (by omega) hc)))
            have := K4.out (x + n / 2 ^ r1 % 2 ^ t * 2 ^ (t - t)) (m + t)
            rw [← hpb, ← cast_div] at this
            exact this
          case measure => simp [intOf]; omega
end Go.Proofs.YtodhnmflabehhaaDoor
