import Derived.Test.YtodhnmflabehhaaDoorMcnyatlcb
import Derived.Test.YtodhnmflabehhaaDoorMkvsfwfem
import Derived.Test.YtodhnmflabehhaaDoorWLast
import Derived.Test.YtodhnmflabehhaaDoorWMore
import Derived.StillTailTactics
import Derived.IntWalk
import Derived.Test.YtodhnmflabehhaaDoorMaugpcuyv
namespace Go.Proofs.YtodhnmflabehhaaDoor
open Go.RowKit Go.Proofs.YtodhnmflabehhaaDoorW.PrintWords Go.Proofs.YtodhnmflabehhaaDoorW.PrintLast Go.Proofs.YtodhnmflabehhaaDoorW.PrintMore Hy

theorem kp_far {M : Nat → Prop} {w w1 : World} (h : Kp M w w1) {p : Addr} (hp : M p.block ∨ w.heap.size ≤ p.block) (u : Value) : Kp M w (w1.setCell p u) :=
  ⟨h.os, h.tape, h.output, by simpa using h.size, fun k hk hn => (Below.heap_setCell w1 p u k (fun e => hp.elim (fun hp => hn (by rw [e]; exact hp)) (fun hp => by omega))).trans (h.block k hk hn)⟩
theorem kp_two {g : Nat} {v0 : Value} {w W2 : World} {ad : Addr} {n c i : Nat} (h : Kp (GV g v0) w W2) (hn : Near v0 (.slice (some ad) n c) w.heap.size) (u u' : Value) : Kp (GV g v0) w ((W2.setCell (ad.add i) u).setCell ⟨g, 1, none⟩ u') := by
  refine (kp_far h (p := ad.add i) ?_ u).set (p := ⟨g, 1, none⟩) (.inl rfl) u'
  have e : (ad.add i).block = ad.block := by unfold Addr.add; split <;> rfl
  rw [e]
  rcases hn ad.block rfl with h1 | h1
  · exact .inl (.inr h1)
  · exact .inr h1
set_option maxHeartbeats 4000000 in
set_option maxRecDepth 100000 in
theorem wputF_ok (T : TypeId) (hT : 5 ≠ T) (B g : Nat) (l : List Bool) (n : Nat) (count : Nat) (w : World) (hn : n < 2 ^ count) (hc : count ≤ 64) (hl : l.length ≤ 1000000000) (hB : B ≤ w.heap.size) (v0 : Value) (h : WAt T B g v0 l.length (pk l) w) :
    Calls Tryd.prog 10 #[.pointer (some ⟨g, 0, none⟩), .int .u64 (n : Int), .int .i64 (count : Int)] w fun e w' => e = .returned .nilIface ∧ ∃ v', WAt T B g v' (l ++ bitsOf n count).length (pk (l ++ bitsOf n count)) w' ∧ Near v0 v' w.heap.size ∧ Kp (GV g v0) w w' := by
  have HB := Aside0.mk (Kp.refl (GV g v0) w)
  have HI := Aside0.mk h
  have hq : (n : Int) / 2 ^ count = 0 := by
    have h1 : n / 2 ^ count = 0 := Nat.div_eq_of_lt hn
    have h2 : ((n / 2 ^ count : Nat) : Int) = (n : Int) / 2 ^ count := by rw [Int.natCast_ediv, Int.natCast_pow]; rfl
    rw [← h2, h1]; rfl
  clear h
  go_enter Tryd.func10, Tryd.ntmps10
  go_wp2_with fail
  go_loopw [2] (fun v2 w' => ∃ (rem : Nat) (d : List Bool) (v : Value), v2 = .int .i64 (rem : Int) ∧ rem ≤ count ∧ Aside0 (d ++ bitsOf n rem = bitsOf n count) ∧ Aside0 (WAt T B g v (l ++ d).length (pk (l ++ d)) w') ∧ Aside0 (Near v0 v w.heap.size) ∧ Aside0 (Kp (GV g v0) w w')) (fun v2 _ => (intOf v2).toNat)
  case atStart => exact ⟨count, [], v0, rfl, by omega, ⟨rfl⟩, ⟨by rw [List.append_nil]; exact HI.out⟩, ⟨fun k hk => .inl hk⟩, HB⟩
  case round =>
    clear HB HI
    obtain ⟨rem, d, v, rfl, hrem, HE, HI, HN0, HB⟩ := hrel
    have hBr := Nat.le_trans hB HB.out.size
    by_cases h0 : rem = 0
    · subst h0
      have hE : d = bitsOf n count := by rw [← HE.out]; simp [bitsOf]
      rw [hE] at HI
      go_wp2_with fail
      go_ret
      exact ⟨rfl, v, HI.out, HN0.out, HB.out⟩
    · have hpos : (0 : Int) < (rem : Int) := by omega
      have hv := HI.out
      have hdl : d.length = count - rem := by have := congrArg List.length HE.out; rw [List.length_append, bitsOf_length, bitsOf_length] at this; omega
      obtain ⟨m, hm⟩ : ∃ m, (l ++ d).length = m := ⟨_, rfl⟩
      rw [hm] at hv
      have hm2 : m ≤ 1000000064 := by rw [← hm, List.length_append]; omega
      have c0 := hv.c0
      have c1 := hv.c1
      obtain ⟨z, hz⟩ : ∃ z, m % 8 = z := ⟨_, rfl⟩
      obtain ⟨R, hR⟩ : ∃ R, 8 - z = R := ⟨_, rfl⟩
      obtain ⟨t, ht⟩ : ∃ t, min R rem = t := ⟨_, rfl⟩
      obtain ⟨r1, hr1⟩ : ∃ r1, rem - t = r1 := ⟨_, rfl⟩
      have hz8 : z < 8 := by omega
      have hR1 : 1 ≤ R := by omega
      have hR8 : R ≤ 8 := by omega
      have htR : t ≤ R := by omega
      have ht1 : 1 ≤ t := by omega
      have htr : t ≤ rem := by omega
      have hz2 : (m : Int) % 8 = (z : Int) := by omega
      have hR2 : 8 - (z : Int) = (R : Int) := by omega
      have ht2 : min (R : Int) (rem : Int) = (t : Int) := by omega
      have hr2 : (rem : Int) - (t : Int) = (r1 : Int) := by omega
      obtain ⟨P, x, hP, hQ, hx, hx2⟩ := pk_put (l ++ d) (bitsOf (n / 2 ^ r1) t) (by intro e; have := congrArg List.length e; rw [bitsOf_length] at this; simp at this; omega) (by rw [bitsOf_length, hm, hz]; omega)
      obtain ⟨LL, hLL⟩ : ∃ LL, pk (l ++ d) = LL := ⟨_, rfl⟩
      have hll : LL.length ≤ 200000000 := by rw [← hLL, pk_length, hm]; omega
      rw [hLL] at hv hP
      rw [hm, hz] at hP hQ hx
      rw [bitsOf_length] at hQ
      rw [hR] at hQ hx
      have HQ := Aside0.mk hQ
      have HX := Aside0.mk hx
      have HM := Aside0.mk hm
      have HT := Aside0.mk hr1
      have hi0 : IntKind.i64.wrap 0 = 0 := by decide
      rcases Nat.lt_or_ge rem R with hlt | hge
      · obtain rfl : t = rem := by omega
        obtain rfl : r1 = 0 := by omega
        obtain ⟨sh, hsh⟩ : ∃ sh, R - t = sh := ⟨_, rfl⟩
        have hsh2 : IntKind.i64.wrap ((R : Int) - (t : Int)) = (sh : Int) := by rw [IntWalk.i64_in _ (by omega)]; omega
        have hsh3 : sh ≤ 7 := by omega
        have hge2 : ¬ (R : Int) ≤ (t : Int) := by omega
        have HSH := Aside0.mk hsh
        clear hsh
        by_cases h8 : z = 0
        · rw [if_pos h8] at hP
          have hz0 : ((z : Int) == 0) = true := by simp; omega
          have hO : wr.ownsRow B 5 1 v (ints LL).length (nums .u8 (ints LL)) := by rw [ints_length]; exact hv.2.2
          have HV := Aside0.mk hv
          have HP := Aside0.mk hP
          clear hv hLL hP hQ HI hx h0 hm hr1 hz hR ht h8
          go_wp2_with ((with_reducible refine gate_builtin (b := .append) (xs := #[.tmp 39, .tmp 40]) rfl ?_); at_builtin; refine print_append_num (w0 := wr) B rfl (.tmp 39) (.tmp 40) 25 5 .u8 1 rfl Tryd.underlying25 uint8_info (by decide) v (ints LL) ((0 : Nat) : Int) rfl rfl hO (Below.refl _ _) hBr (by rw [ints_length]; omega) ?_; intro va wa ho hb hg hat; obtain ⟨q0, q1, hv1⟩ := WAt.more hT HV.out ho hg; rw [HP.out] at hv1; obtain ⟨ad0, cap0, rfl, -⟩ := hv1.last hT; have HV1 := Aside0.mk hv1; have q3 := hv1.c1; have HHB := Aside0.mk ((kp_grown HB.out hg (fun k hk => (HN0.out k hk).elim (fun h => .inl (.inr h)) .inr)).set (p := ⟨g, 0, none⟩) (.inl rfl) (.slice (some ad0) (P.length + 1) cap0)); have HN1 : Aside0 (Near v0 (.slice (some ad0) (P.length + 1) cap0) w.heap.size) := ⟨near_next HN0.out hat HB.out.size⟩; clear HN0; have HN0 := HN1; clear HN1; clear c0 c1 hO ho hg hat HV hv1 hb)
          obtain ⟨W2, hW2⟩ : ∃ W2, (wa.setCell ⟨g, 0, none⟩ (.slice (some ad0) (P.length + 1) cap0)).drew = W2 := ⟨_, rfl⟩
          have hv2 : WAt T B g (.slice (some ad0) (P.length + 1) cap0) m (P ++ [x]) W2 := by rw [← hW2]; exact HV1.out
          have hb2 : Kp (GV g v0) w W2 := by rw [← hW2]; exact HHB.out.drew
          obtain ⟨ad, cap, hva, hcap, k0, k1, k2, k3, k4, k5⟩ := hv2.last hT
          injection hva with hva _ hva2
          injection hva with hva
          subst hva hva2
          have q2 := hv2.c0
          have K4 := Aside0.mk k4
          have K5 := Aside0.mk (fun u u' => kp_two (i := P.length) hb2 HN0.out u u')
          have hPl : P.length ≤ 200000000 := by have := congrArg List.length HP.out; simp at this; omega
          have hw1 : IntKind.i64.wrap ((P.length : Nat) : Int) = (P.length : Int) := IntWalk.i64_in _ (by omega)
          have hlt1 : ((P.length : Nat) : Int) < ((P.length : Nat) : Int) + 1 := by omega
          clear k4 k5 hv2 hb2
          refine wp_region_still_tail 25 (by kernel_rfl) (by kernel_rfl) ?_
          simp only [List.take_succ_cons, List.take_zero, List.drop_succ_cons, List.drop_zero]
          unfold World.drew at hW2
          rw [hW2]
          clear hW2 HV1 HHB q0 q1 q3
          repeat still_step
          try refine wpStill_nil ?_
          go_wp2_with fail
          go_roundw
          case rel =>
            refine ⟨0, d ++ bitsOf (n / 2 ^ 0) t, .slice (some ad0) (P.length + 1) cap0, rfl, by omega, ⟨by rw [List.append_assoc, ← bitsOf_append, show t + 0 = t by omega]; exact HE.out⟩, ⟨?_⟩, HN0, ⟨K5.out _ _⟩⟩
            have hlen : (l ++ (d ++ bitsOf (n / 2 ^ 0) t)).length = m + t := by rw [← List.append_assoc, List.length_append, HM.out, bitsOf_length]
            rw [hlen, ← List.append_assoc, HQ.out, val_bitsOf]
            have hpb := put_byte x n t R sh HX.out hx2 HSH.out (by omega) hR8 (Nat.lt_of_lt_of_le hn (Nat.pow_le_pow_right (by omega) hc))
            have := K4.out (x + n % 2 ^ t * 2 ^ sh) (m + t)
            rw [← hpb] at this
            rw [Nat.pow_zero, Nat.div_one, HSH.out]
            exact this
          case measure => simp [intOf]; omega
        · rw [if_neg h8] at hP
          have hz0 : ((z : Int) == 0) = false := by simp; omega
          rw [hP] at hv
          have HV1 := Aside0.mk hv
          have HP := Aside0.mk hP
          obtain ⟨ad0, cap0, rfl, -⟩ := hv.last hT
          clear hv hLL hP hQ HI hx h0 hm hr1 hz hR ht h8
          go_wp2_with fail
          obtain ⟨W2, hW2⟩ : ∃ W2, wr.drew = W2 := ⟨_, rfl⟩
          have hv2 : WAt T B g (.slice (some ad0) (P.length + 1) cap0) m (P ++ [x]) W2 := by rw [← hW2]; exact HV1.out
          have hb2 : Kp (GV g v0) w W2 := by rw [← hW2]; exact HB.out.drew
          obtain ⟨ad, cap, hva, hcap, k0, k1, k2, k3, k4, k5⟩ := hv2.last hT
          injection hva with hva _ hva2
          injection hva with hva
          subst hva hva2
          have q2 := hv2.c0
          have K4 := Aside0.mk k4
          have K5 := Aside0.mk (fun u u' => kp_two (i := P.length) hb2 HN0.out u u')
          have hPl : P.length ≤ 200000000 := by have := congrArg List.length HP.out; simp at this; omega
          have hw1 : IntKind.i64.wrap ((P.length : Nat) : Int) = (P.length : Int) := IntWalk.i64_in _ (by omega)
          have hlt1 : ((P.length : Nat) : Int) < ((P.length : Nat) : Int) + 1 := by omega
          clear k4 k5 hv2 hb2
          refine wp_region_still_tail 25 (by kernel_rfl) (by kernel_rfl) ?_
          simp only [List.take_succ_cons, List.take_zero, List.drop_succ_cons, List.drop_zero]
          unfold World.drew at hW2
          rw [hW2]
          clear hW2 HV1 c0 c1
          repeat still_step
          try refine wpStill_nil ?_
          go_wp2_with fail
          go_roundw
          case rel =>
            refine ⟨0, d ++ bitsOf (n / 2 ^ 0) t, .slice (some ad0) (P.length + 1) cap0, rfl, by omega, ⟨by rw [List.append_assoc, ← bitsOf_append, show t + 0 = t by omega]; exact HE.out⟩, ⟨?_⟩, HN0, ⟨K5.out _ _⟩⟩
            have hlen : (l ++ (d ++ bitsOf (n / 2 ^ 0) t)).length = m + t := by rw [← List.append_assoc, List.length_append, HM.out, bitsOf_length]
            rw [hlen, ← List.append_assoc, HQ.out, val_bitsOf]
            have hpb := put_byte x n t R sh HX.out hx2 HSH.out (by omega) hR8 (Nat.lt_of_lt_of_le hn (Nat.pow_le_pow_right (by omega) hc))
            have := K4.out (x + n % 2 ^ t * 2 ^ sh) (m + t)
            rw [← hpb] at this
            rw [Nat.pow_zero, Nat.div_one, HSH.out]
            exact this
          case measure => simp [intOf]; omega
      · obtain rfl : t = R := by omega
        have hge2 : (t : Int) ≤ (rem : Int) := by omega
        by_cases h8 : z = 0
        · rw [if_pos h8] at hP
          have hz0 : ((z : Int) == 0) = true := by simp; omega
          have hO : wr.ownsRow B 5 1 v (ints LL).length (nums .u8 (ints LL)) := by rw [ints_length]; exact hv.2.2
          have HV := Aside0.mk hv
          have HP := Aside0.mk hP
          clear hv hLL hP hQ HI hx h0 hm hr1 hz hR ht h8
          go_wp2_with ((with_reducible refine gate_builtin (b := .append) (xs := #[.tmp 39, .tmp 40]) rfl ?_); at_builtin; refine print_append_num (w0 := wr) B rfl (.tmp 39) (.tmp 40) 25 5 .u8 1 rfl Tryd.underlying25 uint8_info (by decide) v (ints LL) ((0 : Nat) : Int) rfl rfl hO (Below.refl _ _) hBr (by rw [ints_length]; omega) ?_; intro va wa ho hb hg hat; obtain ⟨q0, q1, hv1⟩ := WAt.more hT HV.out ho hg; rw [HP.out] at hv1; obtain ⟨ad0, cap0, rfl, -⟩ := hv1.last hT; have HV1 := Aside0.mk hv1; have q3 := hv1.c1; have HHB := Aside0.mk ((kp_grown HB.out hg (fun k hk => (HN0.out k hk).elim (fun h => .inl (.inr h)) .inr)).set (p := ⟨g, 0, none⟩) (.inl rfl) (.slice (some ad0) (P.length + 1) cap0)); have HN1 : Aside0 (Near v0 (.slice (some ad0) (P.length + 1) cap0) w.heap.size) := ⟨near_next HN0.out hat HB.out.size⟩; clear HN0; have HN0 := HN1; clear HN1; clear c0 c1 hO ho hg hat HV hv1 hb)
          obtain ⟨W2, hW2⟩ : ∃ W2, (wa.setCell ⟨g, 0, none⟩ (.slice (some ad0) (P.length + 1) cap0)).drew = W2 := ⟨_, rfl⟩
          have hv2 : WAt T B g (.slice (some ad0) (P.length + 1) cap0) m (P ++ [x]) W2 := by rw [← hW2]; exact HV1.out
          have hb2 : Kp (GV g v0) w W2 := by rw [← hW2]; exact HHB.out.drew
          obtain ⟨ad, cap, hva, hcap, k0, k1, k2, k3, k4, k5⟩ := hv2.last hT
          injection hva with hva _ hva2
          injection hva with hva
          subst hva hva2
          have q2 := hv2.c0
          have K4 := Aside0.mk k4
          have K5 := Aside0.mk (fun u u' => kp_two (i := P.length) hb2 HN0.out u u')
          have hPl : P.length ≤ 200000000 := by have := congrArg List.length HP.out; simp at this; omega
          have hw1 : IntKind.i64.wrap ((P.length : Nat) : Int) = (P.length : Int) := IntWalk.i64_in _ (by omega)
          have hlt1 : ((P.length : Nat) : Int) < ((P.length : Nat) : Int) + 1 := by omega
          clear k4 k5 hv2 hb2
          refine wp_region_still_tail 25 (by kernel_rfl) (by kernel_rfl) ?_
          simp only [List.take_succ_cons, List.take_zero, List.drop_succ_cons, List.drop_zero]
          unfold World.drew at hW2
          rw [hW2]
          clear hW2 HV1 HHB q0 q1 q3
          repeat still_step
          try refine wpStill_nil ?_
          go_wp2_with fail
          go_roundw
          case rel =>
            refine ⟨r1, d ++ bitsOf (n / 2 ^ r1) t, .slice (some ad0) (P.length + 1) cap0, rfl, by omega, ⟨by rw [List.append_assoc, ← bitsOf_append, show t + r1 = rem by omega]; exact HE.out⟩, ⟨?_⟩, HN0, ⟨K5.out _ _⟩⟩
            have hlen : (l ++ (d ++ bitsOf (n / 2 ^ r1) t)).length = m + t := by rw [← List.append_assoc, List.length_append, HM.out, bitsOf_length]
            rw [hlen, ← List.append_assoc, HQ.out, val_bitsOf]
            have hpb := put_byte0 x (n / 2 ^ r1) t HX.out hx2 hR8 (Nat.lt_of_le_of_lt (Nat.div_le_self _ _) (Nat.lt_of_lt_of_le hn (Nat.pow_le_pow_right (by omega) hc)))
            have := K4.out (x + n / 2 ^ r1 % 2 ^ t * 2 ^ (t - t)) (m + t)
            rw [← hpb, ← cast_div] at this
            exact this
          case measure => simp [intOf]; omega
        · rw [if_neg h8] at hP
          have hz0 : ((z : Int) == 0) = false := by simp; omega
          rw [hP] at hv
          have HV1 := Aside0.mk hv
          have HP := Aside0.mk hP
          obtain ⟨ad0, cap0, rfl, -⟩ := hv.last hT
          clear hv hLL hP hQ HI hx h0 hm hr1 hz hR ht h8
          go_wp2_with fail
          obtain ⟨W2, hW2⟩ : ∃ W2, wr.drew = W2 := ⟨_, rfl⟩
          have hv2 : WAt T B g (.slice (some ad0) (P.length + 1) cap0) m (P ++ [x]) W2 := by rw [← hW2]; exact HV1.out
          have hb2 : Kp (GV g v0) w W2 := by rw [← hW2]; exact HB.out.drew
          obtain ⟨ad, cap, hva, hcap, k0, k1, k2, k3, k4, k5⟩ := hv2.last hT
          injection hva with hva _ hva2
          injection hva with hva
          subst hva hva2
          have q2 := hv2.c0
          have K4 := Aside0.mk k4
          have K5 := Aside0.mk (fun u u' => kp_two (i := P.length) hb2 HN0.out u u')
          have hPl : P.length ≤ 200000000 := by have := congrArg List.length HP.out; simp at this; omega
          have hw1 : IntKind.i64.wrap ((P.length : Nat) : Int) = (P.length : Int) := IntWalk.i64_in _ (by omega)
          have hlt1 : ((P.length : Nat) : Int) < ((P.length : Nat) : Int) + 1 := by omega
          clear k4 k5 hv2 hb2
          refine wp_region_still_tail 25 (by kernel_rfl) (by kernel_rfl) ?_
          simp only [List.take_succ_cons, List.take_zero, List.drop_succ_cons, List.drop_zero]
          unfold World.drew at hW2
          rw [hW2]
          clear hW2 HV1 c0 c1
          repeat still_step
          try refine wpStill_nil ?_
          go_wp2_with fail
          go_roundw
          case rel =>
            refine ⟨r1, d ++ bitsOf (n / 2 ^ r1) t, .slice (some ad0) (P.length + 1) cap0, rfl, by omega, ⟨by rw [List.append_assoc, ← bitsOf_append, show t + r1 = rem by omega]; exact HE.out⟩, ⟨?_⟩, HN0, ⟨K5.out _ _⟩⟩
            have hlen : (l ++ (d ++ bitsOf (n / 2 ^ r1) t)).length = m + t := by rw [← List.append_assoc, List.length_append, HM.out, bitsOf_length]
            rw [hlen, ← List.append_assoc, HQ.out, val_bitsOf]
            have hpb := put_byte0 x (n / 2 ^ r1) t HX.out hx2 hR8 (Nat.lt_of_le_of_lt (Nat.div_le_self _ _) (Nat.lt_of_lt_of_le hn (Nat.pow_le_pow_right (by omega) hc)))
            have := K4.out (x + n / 2 ^ r1 % 2 ^ t * 2 ^ (t - t)) (m + t)
            rw [← hpb, ← cast_div] at this
            exact this
          case measure => simp [intOf]; omega
end Go.Proofs.YtodhnmflabehhaaDoor
namespace Go.Proofs.YtodhnmflabehhaaDoor
open Go.RowKit Go.Proofs.YtodhnmflabehhaaDoorW.PrintWords Go.Proofs.YtodhnmflabehhaaDoorW.PrintLast Go.Proofs.YtodhnmflabehhaaDoorW.PrintMore Hy

/-! ### two writers side by side -/
def Two (B g1 g2 : Nat) (L1 L2 : List Bool) (w : World) : Prop := ∃ v1 v2, WAt 27 B g1 v1 L1.length (pk L1) w ∧ RWv g2 v2 B L2 w ∧ B ≤ g2 ∧ g1 ≠ g2 ∧ ∀ k, v1.ownBlock = some k → v2.ownBlock ≠ some k
theorem WAt.below {T B g n : Nat} {v : Value} {L : List Nat} {w w' : World} (h : WAt T B g v n L w) (hb : Below w.heap.size w w') : WAt T B g v n L w' := ⟨h.1, blk_below h.2.1 hb, own_move h.2.2 (fun k hk => hb.block k (own_lt h.2.2 k hk))⟩
theorem Two.below {B g1 g2 : Nat} {L1 L2 : List Bool} {w w' : World} (h : Two B g1 g2 L1 L2 w) (hb : Below w.heap.size w w') : Two B g1 g2 L1 L2 w' := by
  obtain ⟨v1, v2, h1, h2, h3⟩ := h
  exact ⟨v1, v2, h1.below hb, h2.below hb, h3⟩
theorem WAt.notg {T B g n k : Nat} {v : Value} {L : List Nat} {w : World} {c : Array Value} {T2 : Nat} (h : WAt T B g v n L w) (hk : w.heap[k]? = some (.cells c T2 (0, 0))) (hT : 5 ≠ T2) : v.ownBlock ≠ some k := fun e => own_ne h.2.2 hk hT e.symm
theorem RWv.notg {B g k : Nat} {v : Value} {l : List Bool} {w : World} {c : Array Value} {T2 : Nat} (h : RWv g v B l w) (hk : w.heap[k]? = some (.cells c T2 (0, 0))) (hT : 5 ≠ T2) : v.ownBlock ≠ some k := fun e => own_ne (Kd.own_of_R h.2) hk hT e.symm
theorem Two.putw {B g1 g2 : Nat} {L1 L2 : List Bool} {w : World} (N n : Nat) (hn : N < 2 ^ n) (hc : n ≤ 64) (hl : L1.length ≤ 1000000000) (hB : B ≤ w.heap.size) (h : Two B g1 g2 L1 L2 w) :
    Calls Tryd.prog 10 #[.pointer (some ⟨g1, 0, none⟩), .int .u64 (N : Int), .int .i64 (n : Int)] w fun e w' => e = .returned .nilIface ∧ Two B g1 g2 (L1 ++ bitsOf N n) L2 w' ∧ Below B w w' := by
  obtain ⟨v1, v2, h1, h2, hg, hne, hs⟩ := h
  have n1 := h1.notg h2.1 (by decide)
  have n2 := h2.notg h1.2.1 (by decide)
  refine (wputF_ok 27 (by decide) B g1 L1 N n w hn hc hl hB v1 h1).mono ?_
  rintro e w' ⟨rfl, v1', k1, k2, k3⟩
  refine ⟨rfl, ⟨v1', v2, k1, ⟨k3.obj h2.1 (by rintro (e | e); exact hne e.symm; exact n1 e), ?_⟩, hg, hne, ?_⟩, k3.toBelow hB (fun k hk => ?_)⟩
  · have ho2 : (Kd.int .u8).R 5 w B (fun k => ¬ GV g1 v1 k) v2 (bnums L2) := Kd.R_of_own (Kd.own_of_R h2.2) (fun k hk e => by rcases e with rfl | e; exact n2 hk; exact hs k e hk)
    exact Kd.R_mono (k3.row ho2 (fun k hk => hk)) (fun _ _ => trivial)
  · intro k hk e
    rcases k2 k hk with h4 | h4
    · exact hs k h4 e
    · have := own_lt (Kd.own_of_R h2.2) k e; omega
  · rcases hk with rfl | hk
    · exact h1.1
    · exact own_base h1.2.2 k hk
theorem Two.putr {B g1 g2 : Nat} {L1 L2 : List Bool} {w : World} (N n : Nat) (hn : N < 2 ^ n) (hc : n ≤ 64) (hl : L2.length ≤ 1000000000) (hB : B ≤ w.heap.size) (h : Two B g1 g2 L1 L2 w) :
    Calls Tryd.prog 11 #[.pointer (some ⟨g2, 0, none⟩), .int .u64 (N : Int), .int .i64 (n : Int)] w fun e w' => e = .returned (.int .i64 0) ∧ Two B g1 g2 L1 (L2 ++ bitsOf N n) w' ∧ Below B w w' := by
  obtain ⟨v1, v2, h1, h2, hg, hne, hs⟩ := h
  have n1 := h1.notg h2.1 (by decide)
  have n2 := h2.notg h1.2.1 (by decide)
  refine (rbput_ok g2 v2 B L2 N n w hn hc hl hB h2).mono ?_
  rintro e w' ⟨rfl, v2', k1, k2, k3⟩
  refine ⟨rfl, ⟨v1, v2', ⟨h1.1, k3.obj h1.2.1 (by rintro (e | e); exact hne e; exact n2 e), ?_⟩, k1, hg, hne, ?_⟩, k3.toBelow hB (fun k hk => ?_)⟩
  · exact k3.own h1.2.2 (fun k hk e => by rcases e with rfl | e; exact n1 hk; exact hs k hk e)
  · intro k hk e
    rcases k2 k e with h4 | h4
    · exact hs k hk h4
    · have := own_lt h1.2.2 k hk; omega
  · rcases hk with rfl | hk
    · exact hg
    · exact own_base (Kd.own_of_R h2.2) k hk
/-- Is it no number of so many bits? -/
def opBad (N : Nat) (y : Int) : Prop := y < 0 ∨ 64 < y ∨ ∃ n : Nat, y = (n : Int) ∧ n < 64 ∧ 0 < N / 2 ^ n
set_option maxHeartbeats 2000000 in
theorem wput_bad (T B g : Nat) (v : Value) (m : Nat) (L : List Nat) (N : Nat) (y : Int) (w : World) (hy : opBad N y) (h : WAt T B g v m L w) :
    Calls Tryd.prog 10 #[.pointer (some ⟨g, 0, none⟩), .int .u64 (N : Int), .int .i64 y] w fun e w' => ∃ u, e = .returned u ∧ IsE w' (.at_ (m : Int) (.code 9)) u ∧ Below w.heap.size w w' := by
  have c1 := h.c1
  clear h
  rcases hy with hy | hy | ⟨n, rfl, hn, hq⟩
  · go_enter Tryd.func10, Tryd.ntmps10
    go_wp2_with (first
      | (go_at_call 34; refine (at_any _ _ _ ⟨_, _, rfl⟩).mono ?_; rintro e wx ⟨rfl, rfl⟩))
    go_ret
    exact ⟨_, rfl, IsE.new (e := .code 9) rfl, below_alloc (Below.refl _ _) _⟩
  · have hy' : ¬ y < 0 := by omega
    go_enter Tryd.func10, Tryd.ntmps10
    go_wp2_with (first
      | (go_at_call 34; refine (at_any _ _ _ ⟨_, _, rfl⟩).mono ?_; rintro e wx ⟨rfl, rfl⟩))
    go_ret
    exact ⟨_, rfl, IsE.new (e := .code 9) rfl, below_alloc (Below.refl _ _) _⟩
  · have hcd := cast_div N n
    generalize N / 2 ^ n = q at *
    go_enter Tryd.func10, Tryd.ntmps10
    go_wp2_with (first
      | (go_at_call 34; refine (at_any _ _ _ ⟨_, _, rfl⟩).mono ?_; rintro e wx ⟨rfl, rfl⟩))
    go_ret
    exact ⟨_, rfl, IsE.new (e := .code 9) rfl, below_alloc (Below.refl _ _) _⟩
set_option maxHeartbeats 2000000 in
theorem rbput_bad (g : Nat) (N : Nat) (y : Int) (w : World) (hy : opBad N y) :
    Calls Tryd.prog 11 #[.pointer (some ⟨g, 0, none⟩), .int .u64 (N : Int), .int .i64 y] w fun e w' => e = .returned (.int .i64 9) ∧ Below w.heap.size w w' := by
  rcases hy with hy | hy | ⟨n, rfl, hn, hq⟩
  · go_enter Tryd.func11, Tryd.ntmps11
    go_wp2_with fail
    go_ret
    exact ⟨rfl, Below.refl _ _⟩
  · have hy' : ¬ y < 0 := by omega
    go_enter Tryd.func11, Tryd.ntmps11
    go_wp2_with fail
    go_ret
    exact ⟨rfl, Below.refl _ _⟩
  · have hcd := cast_div N n
    generalize N / 2 ^ n = q at *
    go_enter Tryd.func11, Tryd.ntmps11
    go_wp2_with fail
    go_ret
    exact ⟨rfl, Below.refl _ _⟩
end Go.Proofs.YtodhnmflabehhaaDoor
namespace Go.Proofs.YtodhnmflabehhaaDoor
open Go.RowKit Go.Proofs.YtodhnmflabehhaaDoorW.PrintWords Go.Proofs.YtodhnmflabehhaaDoorW.PrintLast Go.Proofs.YtodhnmflabehhaaDoorW.PrintMore Hy

theorem Two.drew {B g1 g2 : Nat} {L1 L2 : List Bool} {w : World} (h : Two B g1 g2 L1 L2 w) : Two B g1 g2 L1 L2 w.drew := h.below (below_drew1 (Below.refl _ _))
theorem IsE.drew {w : World} {E : Err} {v : Value} (h : IsE w E v) : IsE w.drew E v := h.below (below_drew1 (Below.refl _ _))
theorem Two.badw {B g1 g2 : Nat} {L1 L2 : List Bool} {w : World} {N : Nat} {y : Int} (h : Two B g1 g2 L1 L2 w) (hy : opBad N y) :
    Calls Tryd.prog 10 #[.pointer (some ⟨g1, 0, none⟩), .int .u64 (N : Int), .int .i64 y] w fun e w' => ∃ u, e = .returned u ∧ IsE w' (.at_ (L1.length : Int) (.code 9)) u ∧ Below w.heap.size w w' := by
  obtain ⟨v1, v2, h1, _⟩ := h
  exact wput_bad _ B g1 v1 L1.length (pk L1) N y w hy h1
theorem Two.lenw {B g1 g2 m : Nat} {L1 L2 : List Bool} {w : World} (h : Two B g1 g2 L1 L2 w) (hm : L1.length = m) :
    Calls Tryd.prog 13 #[.pointer (some ⟨g1, 0, none⟩)] w fun e w' => e = .returned (.int .i64 (m : Int)) ∧ Below w.heap.size w w' := by
  obtain ⟨v1, v2, h1, _⟩ := h
  subst hm
  exact (wlen_any _ B g1 L1 w ⟨v1, h1⟩).mono fun _ _ k => ⟨k.1, by rw [k.2]; exact Below.refl _ _⟩
theorem Two.slice {B g1 g2 m : Nat} {L1 L2 : List Bool} {w : World} (h : Two B g1 g2 L1 L2 w) (hm : L2.length = m) : ∃ A2 c2, w.cell? ⟨g2, 0, none⟩ = some (.slice A2 m c2) := by
  obtain ⟨v1, v2, _, h2, _⟩ := h
  obtain ⟨A, c, hv⟩ := Kd.R_slice h2.2
  refine ⟨A, c, ?_⟩
  rw [h2.c0, hv, bnums_length, hm]
theorem Two.strw {B g1 g2 : Nat} {L1 L2 : List Bool} {w : World} (h : Two B g1 g2 L1 L2 w) : Calls Tryd.prog 18 #[.pointer (some ⟨g1, 0, none⟩)] w fun e w' => e = .returned (.string (st (pk L1))) ∧ w' = w := by
  obtain ⟨v1, v2, h1, _⟩ := h
  exact wstring_any _ B g1 L1 w ⟨v1, h1⟩
theorem Two.textr {B g1 g2 : Nat} {L1 L2 : List Bool} {w : World} (h : Two B g1 g2 L1 L2 w) (hl : L2.length ≤ 1000000000) : Calls Tryd.prog 19 #[.pointer (some ⟨g2, 0, none⟩)] w fun e w' => e = .returned (.string (st (pk L2))) ∧ Below w.heap.size w w' := by
  obtain ⟨v1, v2, _, h2, _⟩ := h
  exact rbtext_any g2 v2 B L2 w hl h2
theorem Two.new (w : World) : Two w.heap.size w.heap.size (w.heap.size + 1) [] [] ((w.alloc (.cells #[.slice none 0 0, .int .i64 0] 27)).alloc (.cells #[.slice none 0 0] 30)) := by
  refine ⟨.slice none 0 0, .slice none 0 0, ⟨Nat.le_refl _, ?_, by rw [pk_nil]; exact own_nil _ _ _ _⟩, ⟨?_, Kd.R_nil _ _ _ _ _⟩, by omega, by omega, by intro k hk; simp [Value.ownBlock] at hk⟩
  · exact blk_below (heap_alloc_new w _) (below_alloc (Below.refl _ _) _)
  · have := heap_alloc_new (w.alloc (.cells #[.slice none 0 0, .int .i64 0] 27)) (.cells #[.slice none 0 0] 30)
    rw [World.size_alloc] at this
    exact this
theorem drawn_below {w w' : World} (h : Drawn0 w w') : Below w.heap.size w w' := by obtain ⟨n, rfl⟩ := h; exact drewN_below (Below.refl _ _) _
theorem leadB (N : Nat) (w : World) (h : N < 18446744073709551616) : Calls Tryd.prog 14 #[.int .u64 (N : Int)] w fun e w' => e = .returned (.int .i64 ((lead N : Nat) : Int)) ∧ Below w.heap.size w w' := (lead_any N w h).mono fun _ _ k => ⟨k.1, drawn_below k.2⟩
theorem rleadB (N : Nat) (w : World) (h : N < 18446744073709551616) : Calls Tryd.prog 15 #[.int .u64 (N : Int)] w fun e w' => e = .returned (.int .i64 ((lead N : Nat) : Int)) ∧ Below w.heap.size w w' := (rlead_any N w h).mono fun _ _ k => ⟨k.1, drawn_below k.2⟩
theorem trailB (N : Nat) (w : World) (h : N < 18446744073709551616) : Calls Tryd.prog 16 #[.int .u64 (N : Int)] w fun e w' => e = .returned (.int .i64 ((trail N : Nat) : Int)) ∧ Below w.heap.size w w' := (trail_any N w h).mono fun _ _ k => ⟨k.1, drawn_below k.2⟩
theorem rtrailB (N : Nat) (w : World) (h : N < 18446744073709551616) : Calls Tryd.prog 17 #[.int .u64 (N : Int)] w fun e w' => e = .returned (.int .i64 ((trail N : Nat) : Int)) ∧ Below w.heap.size w w' := (rtrail_any N w h).mono fun _ _ k => ⟨k.1, drawn_below k.2⟩
theorem codeK {E : Err} {u : Value} {k : Int} (w : World) (hg : Laid w) (hu : IsE w E u) (hk : codeOf E = k) : Calls Tryd.prog 12 #[u] w fun e w' => e = .returned (.int .i64 k) ∧ Below w.heap.size w w' := by
  subst hk; exact code_any E u w hg hu
theorem op_cases (N : Nat) (y : Int) (hN : N < 18446744073709551616) : (∃ n : Nat, y = (n : Int) ∧ n ≤ 64 ∧ N < 2 ^ n) ∨ opBad N y := by
  by_cases c1 : y < 0
  · exact .inr (.inl c1)
  · by_cases c2 : 64 < y
    · exact .inr (.inr (.inl c2))
    · obtain ⟨n, rfl⟩ := Int.eq_ofNat_of_zero_le (show 0 ≤ y by omega)
      by_cases c3 : n = 64
      · exact .inl ⟨n, rfl, by omega, by rw [c3]; exact hN⟩
      · by_cases c4 : N < 2 ^ n
        · exact .inl ⟨n, rfl, by omega, c4⟩
        · exact .inr (.inr (.inr ⟨n, rfl, by omega, Nat.div_pos (Nat.le_of_not_lt c4) (Nat.two_pow_pos n)⟩))
set_option maxHeartbeats 4000000 in
set_option maxRecDepth 100000 in
theorem bitsWrites_walk (A : Option Addr) (cp : Nat) (l : List (Int × Int)) (w : World)
    (hr : Prs (fun x : Int × Int => Value.int .u64 x.1) (fun x : Int × Int => Value.int .i64 x.2) w A l) (_hcp : l.length ≤ cp) (_hl : l.length ≤ 9223372036854775807) (hx : ∀ x ∈ l, (0 ≤ x.1 ∧ x.1 < 18446744073709551616) ∧ (-9223372036854775808 ≤ x.2 ∧ x.2 < 9223372036854775808)) (hg : Laid w) :
    Calls Tryd.prog 3 #[.slice A l.length cp] w fun e w' => e = .returned (.bool true) ∧ Below w.heap.size w w' := by
  have HB := Aside0.mk (Below.refl w.heap.size w)
  have HR : Aside0 (Ops w A l) := ⟨hr⟩
  have HX := Aside0.mk hx
  have HG := Aside0.mk hg
  clear hr _hcp _hl hx hg
  by_cases hlen : 300 < l.length
  · go_enter Tryd.func3, Tryd.ntmps3
    go_wp2_with (first
      | (go_at_call 9; refine (bits_first _).mono ?_; rintro e wb ⟨rfl, hb⟩; have HBn : Aside0 (Below w.heap.size w wb) := ⟨below_next (by repeat (first | (with_reducible exact HB.out) | apply below_alloc | apply pw_below_drewN | apply below_drew1)) hb⟩; clear HB hb; have HB := HBn; clear HBn))
    go_ret
    exact ⟨rfl, (by repeat (first | (with_reducible exact HB.out) | apply below_alloc | apply pw_below_drewN | apply below_drew1))⟩
  · go_enter Tryd.func3, Tryd.ntmps3
    go_wp2_with fail
    refine (bits_first _).mono ?_
    rintro e w1 ⟨rfl, hb⟩
    have HB1 := Aside0.mk (below_next HB.out hb)
    clear HB hb
    go_wp2_with fail
    obtain ⟨g1, hg1⟩ : ∃ g, w1.heap.size = g := ⟨_, rfl⟩
    obtain ⟨g2, hg2⟩ : ∃ g, g1 + 1 = g := ⟨_, rfl⟩
    have HT0 : Aside0 (Two w1.heap.size g1 g2 [] [] ((w1.alloc (.cells #[.slice none 0 0, .int .i64 0] 27)).alloc (.cells #[.slice none 0 0] 30))) := ⟨by rw [← hg2, ← hg1]; exact Two.new w1⟩
    rw [hg1]
    (try rw [World.size_alloc]); (try rw [hg1]); rw [hg2]
    have HB0 : Aside0 (Below w1.heap.size w1 ((w1.alloc (.cells #[.slice none 0 0, .int .i64 0] 27)).alloc (.cells #[.slice none 0 0] 30))) := ⟨below_alloc (below_alloc (Below.refl _ _) _) _⟩
    go_loopw [5] (fun v5 w' => ∃ (k : Nat) (L : List Bool), v5 = .int .i64 (k : Int) ∧ k ≤ l.length ∧ L.length ≤ 64 * k ∧ Aside0 (Two w1.heap.size g1 g2 L L w') ∧ Aside0 (Below w1.heap.size w1 w')) (fun v5 _ => l.length - (intOf v5).toNat)
    case atStart => exact ⟨0, [], rfl, Nat.zero_le _, Nat.zero_le _, HT0, HB0⟩
    case round =>
      clear HT0 HB0 hg1 hg2
      obtain ⟨k, L, rfl, hk, hbl, HT0, HB0⟩ := hrel
      have HBW : Aside0 (Below w.heap.size w wr) := ⟨below_next HB1.out HB0.out⟩
      by_cases hlt : k < l.length
      · obtain ⟨ad, rfl, q0, q1⟩ := (HR.out.below HBW.out).at_ k hlt
        obtain ⟨⟨x, y⟩, hxy⟩ : ∃ p, l[k] = p := ⟨_, rfl⟩
        have hxb := HX.out _ (List.getElem_mem hlt)
        rw [hxy] at q0 q1 hxb
        obtain ⟨N, rfl⟩ := Int.eq_ofNat_of_zero_le hxb.1.1
        have hN64 : N < 18446744073709551616 := by omega
        have hc0 : ∀ w', Below w.heap.size w w' → w'.cell? (ad.add (k * 2)) = some (.int .u64 (N : Int)) := by
          intro w' hb
          obtain ⟨ad', e', h, _⟩ := (HR.out.below hb).at_ k hlt
          injection e' with e'
          subst e'
          rw [hxy] at h
          exact h
        have hc1 : ∀ w', Below w.heap.size w w' → w'.cell? ⟨(ad.add (k * 2)).block, (ad.add (k * 2)).off + 1, none⟩ = some (.int .i64 y) := by
          intro w' hb
          obtain ⟨ad', e', _, h⟩ := (HR.out.below hb).at_ k hlt
          injection e' with e'
          subst e'
          rw [hxy] at h
          exact h
        clear hxy HBW
        rcases op_cases N y hN64 with ⟨n, rfl, hn64, hN⟩ | hBad
        · have HN := Aside0.mk hN
          clear hN
          go_wp2_with fail
          refine start_ (n := 26) (S := fun w' => w'.cell? (ad.add (k * 2)) = some (.int .u64 (N : Int)) ∧ w'.cell? ⟨(ad.add (k * 2)).block, (ad.add (k * 2)).off + 1, none⟩ = some (.int .i64 (n : Int))) (ds := []) #[false, false, false, false, false, false, false, false, false, false, false, false, false, false, false, false, false, false, false, false, false, false, false, false, false, false] (by kernel_rfl) rfl rfl ⟨q0, q1⟩ (fun hHeld => ?_)
          refine pure_ (i := 0) (N := some 24) (v := ?_) (a' := ?_) #[true, false, false, false, false, false, false, false, false, false, false, false, false, false, false, false, false, false, false, false, false, false, false, false, false, false] rfl rfl (by kernel_rfl) (fun _ _ _ h => h) (Or.inl ⟨by rfl, ?_⟩) ?_ ?_
          rotate_left
          · intro w'
            go_simp
            with_reducible rfl
          rotate_left
          · simp only [Act.put, List.setIfInBounds_toArray, List.set_cons_zero, List.set_cons_succ]
            rfl
          refine pure_ (i := 1) (N := some 25) (v := ?_) (a' := ?_) #[true, true, false, false, false, false, false, false, false, false, false, false, false, false, false, false, false, false, false, false, false, false, false, false, false, false] rfl rfl (by kernel_rfl) (fun _ _ _ h => h) (Or.inl ⟨by rfl, ?_⟩) ?_ ?_
          rotate_left
          · intro w'
            go_simp
            with_reducible rfl
          rotate_left
          · simp only [Act.put, List.setIfInBounds_toArray, List.set_cons_zero, List.set_cons_succ]
            rfl
          refine pure_ (i := 2) (N := some 26) (v := ?_) (a' := ?_) #[true, true, true, false, false, false, false, false, false, false, false, false, false, false, false, false, false, false, false, false, false, false, false, false, false, false] rfl rfl (by kernel_rfl) (fun _ _ _ h => h) (Or.inl ⟨by rfl, ?_⟩) ?_ ?_
          rotate_left
          · intro w'
            go_simp
            with_reducible rfl
          rotate_left
          · simp only [Act.put, List.setIfInBounds_toArray, List.set_cons_zero, List.set_cons_succ]
            rfl
          refine pure_ (i := 3) (N := some 27) (v := ?_) (a' := ?_) #[true, true, true, true, false, false, false, false, false, false, false, false, false, false, false, false, false, false, false, false, false, false, false, false, false, false] rfl rfl (by kernel_rfl) (fun _ _ _ h => h) (Or.inl ⟨by rfl, ?_⟩) ?_ ?_
          rotate_left
          · intro w'
            go_simp
            with_reducible rfl
          rotate_left
          · simp only [Act.put, List.setIfInBounds_toArray, List.set_cons_zero, List.set_cons_succ]
            rfl
          refine pure_ (i := 4) (N := some 28) (v := ?_) (a' := ?_) #[true, true, true, true, true, false, false, false, false, false, false, false, false, false, false, false, false, false, false, false, false, false, false, false, false, false] rfl rfl (by kernel_rfl) (fun _ _ _ h => h) (Or.inl ⟨by rfl, ?_⟩) ?_ ?_
          rotate_left
          · intro w'
            go_simp
            with_reducible rfl
          rotate_left
          · simp only [Act.put, List.setIfInBounds_toArray, List.set_cons_zero, List.set_cons_succ]
            rfl
          refine pure_ (i := 6) (N := some 30) (v := ?_) (a' := ?_) #[true, true, true, true, true, false, true, false, false, false, false, false, false, false, false, false, false, false, false, false, false, false, false, false, false, false] rfl rfl (by kernel_rfl) (fun _ _ _ h => h) (Or.inl ⟨by rfl, ?_⟩) ?_ ?_
          rotate_left
          · intro w'
            go_simp
            with_reducible rfl
          rotate_left
          · simp only [Act.put, List.setIfInBounds_toArray, List.set_cons_zero, List.set_cons_succ]
            rfl
          refine pure_ (i := 7) (N := some 31) (v := ?_) (a' := ?_) #[true, true, true, true, true, false, true, true, false, false, false, false, false, false, false, false, false, false, false, false, false, false, false, false, false, false] rfl rfl (by kernel_rfl) (fun _ _ _ h => h) (Or.inl ⟨by rfl, ?_⟩) ?_ ?_
          rotate_left
          · intro w'
            go_simp
            with_reducible rfl
          rotate_left
          · simp only [Act.put, List.setIfInBounds_toArray, List.set_cons_zero, List.set_cons_succ]
            rfl
          refine pure_ (i := 8) (N := some 32) (v := ?_) (a' := ?_) #[true, true, true, true, true, false, true, true, true, false, false, false, false, false, false, false, false, false, false, false, false, false, false, false, false, false] rfl rfl (by kernel_rfl) (fun _ _ _ h => h) (Or.inl ⟨by rfl, ?_⟩) ?_ ?_
          rotate_left
          · intro w'
            go_simp
            with_reducible rfl
          rotate_left
          · simp only [Act.put, List.setIfInBounds_toArray, List.set_cons_zero, List.set_cons_succ]
            rfl
          refine pure_ (i := 9) (N := some 33) (v := ?_) (a' := ?_) #[true, true, true, true, true, false, true, true, true, true, false, false, false, false, false, false, false, false, false, false, false, false, false, false, false, false] rfl rfl (by kernel_rfl) (fun _ _ _ h => h) (Or.inl ⟨by rfl, ?_⟩) ?_ ?_
          rotate_left
          · intro w'
            go_simp
            with_reducible rfl
          rotate_left
          · simp only [Act.put, List.setIfInBounds_toArray, List.set_cons_zero, List.set_cons_succ]
            rfl
          refine pure_ (i := 12) (N := some 36) (v := ?_) (a' := ?_) #[true, true, true, true, true, false, true, true, true, true, false, false, true, false, false, false, false, false, false, false, false, false, false, false, false, false] rfl rfl (by kernel_rfl) (fun _ _ _ h => h) (Or.inl ⟨by rfl, ?_⟩) ?_ ?_
          rotate_left
          · intro w'
            go_simp
            with_reducible rfl
          rotate_left
          · simp only [Act.put, List.setIfInBounds_toArray, List.set_cons_zero, List.set_cons_succ]
            rfl
          refine pure_ (i := 13) (N := some 37) (v := ?_) (a' := ?_) #[true, true, true, true, true, false, true, true, true, true, false, false, true, true, false, false, false, false, false, false, false, false, false, false, false, false] rfl rfl (by kernel_rfl) (fun _ _ _ h => h) (Or.inl ⟨by rfl, ?_⟩) ?_ ?_
          rotate_left
          · intro w'
            go_simp
            with_reducible rfl
          rotate_left
          · simp only [Act.put, List.setIfInBounds_toArray, List.set_cons_zero, List.set_cons_succ]
            rfl
          refine pure_ (i := 14) (N := some 38) (v := ?_) (a' := ?_) #[true, true, true, true, true, false, true, true, true, true, false, false, true, true, true, false, false, false, false, false, false, false, false, false, false, false] rfl rfl (by kernel_rfl) (fun _ _ _ h => h) (Or.inl ⟨by rfl, ?_⟩) ?_ ?_
          rotate_left
          · intro w'
            go_simp
            with_reducible rfl
          rotate_left
          · simp only [Act.put, List.setIfInBounds_toArray, List.set_cons_zero, List.set_cons_succ]
            rfl
          refine pure_ (i := 15) (N := some 39) (v := ?_) (a' := ?_) #[true, true, true, true, true, false, true, true, true, true, false, false, true, true, true, true, false, false, false, false, false, false, false, false, false, false] rfl rfl (by kernel_rfl) (fun _ _ _ h => h) (Or.inl ⟨by rfl, ?_⟩) ?_ ?_
          rotate_left
          · intro w'
            go_simp
            with_reducible rfl
          rotate_left
          · simp only [Act.put, List.setIfInBounds_toArray, List.set_cons_zero, List.set_cons_succ]
            rfl
          refine pure_ (i := 16) (N := some 40) (v := ?_) (a' := ?_) #[true, true, true, true, true, false, true, true, true, true, false, false, true, true, true, true, true, false, false, false, false, false, false, false, false, false] rfl rfl (by kernel_rfl) (fun _ _ _ h => h) (Or.inl ⟨by rfl, ?_⟩) ?_ ?_
          rotate_left
          · intro w'
            go_simp
            with_reducible rfl
          rotate_left
          · simp only [Act.put, List.setIfInBounds_toArray, List.set_cons_zero, List.set_cons_succ]
            rfl
          refine pure_ (i := 18) (N := some 42) (v := ?_) (a' := ?_) #[true, true, true, true, true, false, true, true, true, true, false, false, true, true, true, true, true, false, true, false, false, false, false, false, false, false] rfl rfl (by kernel_rfl) (fun _ _ _ h => h) (Or.inl ⟨by rfl, ?_⟩) ?_ ?_
          rotate_left
          · intro w'
            go_simp
            with_reducible rfl
          rotate_left
          · simp only [Act.put, List.setIfInBounds_toArray, List.set_cons_zero, List.set_cons_succ]
            rfl
          refine pure_ (i := 19) (N := some 43) (v := ?_) (a' := ?_) #[true, true, true, true, true, false, true, true, true, true, false, false, true, true, true, true, true, false, true, true, false, false, false, false, false, false] rfl rfl (by kernel_rfl) (fun _ _ _ h => h) (Or.inl ⟨by rfl, ?_⟩) ?_ ?_
          rotate_left
          · intro w'
            go_simp
            with_reducible rfl
          rotate_left
          · simp only [Act.put, List.setIfInBounds_toArray, List.set_cons_zero, List.set_cons_succ]
            rfl
          refine pure_ (i := 20) (N := some 44) (v := ?_) (a' := ?_) #[true, true, true, true, true, false, true, true, true, true, false, false, true, true, true, true, true, false, true, true, true, false, false, false, false, false] rfl rfl (by kernel_rfl) (fun _ _ _ h => h) (Or.inl ⟨by rfl, ?_⟩) ?_ ?_
          rotate_left
          · intro w'
            go_simp
            with_reducible rfl
          rotate_left
          · simp only [Act.put, List.setIfInBounds_toArray, List.set_cons_zero, List.set_cons_succ]
            rfl
          refine pure_ (i := 21) (N := some 45) (v := ?_) (a' := ?_) #[true, true, true, true, true, false, true, true, true, true, false, false, true, true, true, true, true, false, true, true, true, true, false, false, false, false] rfl rfl (by kernel_rfl) (fun _ _ _ h => h) (Or.inl ⟨by rfl, ?_⟩) ?_ ?_
          rotate_left
          · intro w'
            go_simp
            with_reducible rfl
          rotate_left
          · simp only [Act.put, List.setIfInBounds_toArray, List.set_cons_zero, List.set_cons_succ]
            rfl
          refine take_ (i := 5) (N := some 29) (v := ?_) (a' := ?_) #[true, true, true, true, true, true, true, true, true, true, false, false, true, true, true, true, true, false, true, true, true, true, false, false, false, false] rfl rfl (by kernel_rfl) (fun _ _ _ h => h) (Or.inl ⟨by rfl, ?_⟩) hHeld ?_ ?_
          rotate_left
          · rintro w' ⟨s0, s1⟩
            go_simp
            with_reducible rfl
          rotate_left
          · simp only [Act.put, List.setIfInBounds_toArray, List.set_cons_zero, List.set_cons_succ]
            rfl
          refine take_ (i := 10) (N := some 34) (v := ?_) (a' := ?_) #[true, true, true, true, true, true, true, true, true, true, true, false, true, true, true, true, true, false, true, true, true, true, false, false, false, false] rfl rfl (by kernel_rfl) (fun _ _ _ h => h) (Or.inl ⟨by rfl, ?_⟩) hHeld ?_ ?_
          rotate_left
          · rintro w' ⟨s0, s1⟩
            go_simp
            with_reducible rfl
          rotate_left
          · simp only [Act.put, List.setIfInBounds_toArray, List.set_cons_zero, List.set_cons_succ]
            rfl
          refine take_ (i := 17) (N := some 41) (v := ?_) (a' := ?_) #[true, true, true, true, true, true, true, true, true, true, true, false, true, true, true, true, true, true, true, true, true, true, false, false, false, false] rfl rfl (by kernel_rfl) (fun _ _ _ h => h) (Or.inl ⟨by rfl, ?_⟩) hHeld ?_ ?_
          rotate_left
          · rintro w' ⟨s0, s1⟩
            go_simp
            with_reducible rfl
          rotate_left
          · simp only [Act.put, List.setIfInBounds_toArray, List.set_cons_zero, List.set_cons_succ]
            rfl
          refine take_ (i := 22) (N := some 46) (v := ?_) (a' := ?_) #[true, true, true, true, true, true, true, true, true, true, true, false, true, true, true, true, true, true, true, true, true, true, true, false, false, false] rfl rfl (by kernel_rfl) (fun _ _ _ h => h) (Or.inl ⟨by rfl, ?_⟩) hHeld ?_ ?_
          rotate_left
          · rintro w' ⟨s0, s1⟩
            go_simp
            with_reducible rfl
          rotate_left
          · simp only [Act.put, List.setIfInBounds_toArray, List.set_cons_zero, List.set_cons_succ]
            rfl
          refine one_ (i := 11) (N := some 35) #[true, true, true, true, true, true, true, true, true, true, true, true, true, true, true, true, true, true, true, true, true, true, true, false, false, false] rfl rfl (by kernel_rfl) (by decide) (fun K hK => ?_)
          refine goes_ Tryd.func10 (by kernel_rfl) rfl #[.pointer (some ⟨g1, 0, none⟩), .int .u64 (N : Int), .int .i64 (n : Int)] (by rfl) rfl rfl (by simp only [List.map_toArray, List.map_cons, List.map_nil]; rfl) ?_
          with_reducible refine (Two.putw N n HN.out hn64 (by omega) HB0.out.drew.size HT0.out.drew).mono ?_
          rintro e w2 ⟨rfl, h2, b2⟩
          refine ⟨_, rfl, ?_⟩
          have HT2 := Aside0.mk h2
          have HB2 := Aside0.mk (HB0.out.drew.trans b2)
          have q02 := hc0 _ (below_next HB1.out HB2.out)
          have q12 := hc1 _ (below_next HB1.out HB2.out)
          clear h2 b2
          refine hK.out _ _ ⟨q02, q12⟩ (fun hHeld => ?_)
          clear hK K
          refine norm_ (a' := ?_) ?_ ?_
          rotate_left
          · show Act.put _ (some 35) _ = _
            simp only [Act.put, List.setIfInBounds_toArray, List.set_cons_zero, List.set_cons_succ]
            rfl
          refine one_ (i := 23) (N := some 47) #[true, true, true, true, true, true, true, true, true, true, true, true, true, true, true, true, true, true, true, true, true, true, true, true, false, false] rfl rfl (by kernel_rfl) (by decide) (fun K hK => ?_)
          refine goes_ Tryd.func11 (by kernel_rfl) rfl #[.pointer (some ⟨g2, 0, none⟩), .int .u64 (N : Int), .int .i64 (n : Int)] (by rfl) rfl rfl (by simp only [List.map_toArray, List.map_cons, List.map_nil]; rfl) ?_
          with_reducible refine (Two.putr N n HN.out hn64 (by omega) HB2.out.size HT2.out).mono ?_
          rintro e w3 ⟨rfl, h3, b3⟩
          refine ⟨_, rfl, ?_⟩
          have HT3 := Aside0.mk h3
          have HB3 := Aside0.mk (HB2.out.trans b3)
          have q03 := hc0 _ (below_next HB1.out HB3.out)
          have q13 := hc1 _ (below_next HB1.out HB3.out)
          clear h3 b3
          refine hK.out _ _ ⟨q03, q13⟩ (fun hHeld => ?_)
          clear hK K
          refine norm_ (a' := ?_) ?_ ?_
          rotate_left
          · show Act.put _ (some 47) _ = _
            simp only [Act.put, List.setIfInBounds_toArray, List.set_cons_zero, List.set_cons_succ]
            rfl
          refine pure_ (i := 24) (N := some 6) (v := ?_) (a' := ?_) #[true, true, true, true, true, true, true, true, true, true, true, true, true, true, true, true, true, true, true, true, true, true, true, true, true, false] rfl rfl (by kernel_rfl) (fun _ _ _ h => h) (Or.inl ⟨by rfl, ?_⟩) ?_ ?_
          rotate_left
          · intro w'
            go_simp
            with_reducible rfl
          rotate_left
          · simp only [Act.put, List.setIfInBounds_toArray, List.set_cons_zero, List.set_cons_succ]
            rfl
          refine pure_ (i := 25) (N := some 7) (v := ?_) (a' := ?_) #[true, true, true, true, true, true, true, true, true, true, true, true, true, true, true, true, true, true, true, true, true, true, true, true, true, true] rfl rfl (by kernel_rfl) (fun _ _ _ h => h) (Or.inl ⟨by rfl, ?_⟩) ?_ ?_
          rotate_left
          · intro w'
            go_simp
            with_reducible rfl
          rotate_left
          · simp only [Act.put, List.setIfInBounds_toArray, List.set_cons_zero, List.set_cons_succ]
            rfl
          refine done_ (by kernel_rfl) ?_
          go_wp2_with fail
          obtain ⟨M, hM⟩ : ∃ M, (L ++ bitsOf N n).length = M := ⟨_, rfl⟩
          have hMl : M = L.length + n := by rw [← hM, List.length_append, bitsOf_length]
          obtain ⟨A2, c2, r1⟩ := HT3.out.slice hM
          have r0 := q03
          have HM := Aside0.mk hM
          have HU3 : Aside0 (IsE w3 .nil .nilIface) := ⟨rfl⟩
          have codeC := fun w' (hg : Laid w') (h : IsE w' .nil .nilIface) => codeK w' hg h (show codeOf .nil = 0 from rfl)
          clear hM q03 q13
          refine start_ (n := 44) (S := fun w' => w'.cell? (ad.add (k * 2)) = some (.int .u64 (N : Int)) ∧ w'.cell? ⟨g2, 0, none⟩ = some (.slice A2 M c2)) (ds := []) #[false, false, false, false, false, false, false, false, false, false, false, false, false, false, false, false, false, false, false, false, false, false, false, false, false, false, false, false, false, false, false, false, false, false, false, false, false, false, false, false, false, false, false, false] (by kernel_rfl) rfl rfl ⟨r0, r1⟩ (fun hHeld => ?_)
          refine pure_ (i := 0) (N := some 48) (v := ?_) (a' := ?_) #[true, false, false, false, false, false, false, false, false, false, false, false, false, false, false, false, false, false, false, false, false, false, false, false, false, false, false, false, false, false, false, false, false, false, false, false, false, false, false, false, false, false, false, false] rfl rfl (by kernel_rfl) (fun _ _ _ h => h) (Or.inl ⟨by rfl, ?_⟩) ?_ ?_
          rotate_left
          · intro w'
            go_simp
            with_reducible rfl
          rotate_left
          · simp only [Act.put, List.setIfInBounds_toArray, List.set_cons_zero, List.set_cons_succ]
            rfl
          refine pure_ (i := 2) (N := some 50) (v := ?_) (a' := ?_) #[true, false, true, false, false, false, false, false, false, false, false, false, false, false, false, false, false, false, false, false, false, false, false, false, false, false, false, false, false, false, false, false, false, false, false, false, false, false, false, false, false, false, false, false] rfl rfl (by kernel_rfl) (fun _ _ _ h => h) (Or.inl ⟨by rfl, ?_⟩) ?_ ?_
          rotate_left
          · intro w'
            go_simp
            with_reducible rfl
          rotate_left
          · simp only [Act.put, List.setIfInBounds_toArray, List.set_cons_zero, List.set_cons_succ]
            rfl
          refine one_ (i := 1) (N := some 49) #[true, true, true, false, false, false, false, false, false, false, false, false, false, false, false, false, false, false, false, false, false, false, false, false, false, false, false, false, false, false, false, false, false, false, false, false, false, false, false, false, false, false, false, false] rfl rfl (by kernel_rfl) (by decide) (fun K hK => ?_)
          refine goes_ Tryd.func12 (by kernel_rfl) rfl #[.nilIface] (by rfl) rfl rfl (by simp only [List.map_toArray, List.map_cons, List.map_nil]; rfl) ?_
          with_reducible refine (codeC _ (HG.out.below (below_next HB1.out HB3.out.drew)) HU3.out.drew).mono ?_
          rintro e w5 ⟨rfl, hb5⟩
          refine ⟨_, rfl, ?_⟩
          have HB5 := Aside0.mk (below_next HB3.out.drew hb5)
          have HT5 := Aside0.mk (HT3.out.drew.below hb5)
          have t5_0 : w5.cell? (ad.add (k * 2)) = some (.int .u64 (N : Int)) := pw_cell_below hb5 r0
          have t5_1 : w5.cell? ⟨g2, 0, none⟩ = some (.slice A2 M c2) := pw_cell_below hb5 r1
          clear hb5
          refine hK.out _ _ ⟨t5_0, t5_1⟩ (fun hHeld => ?_)
          clear hK K
          refine norm_ (a' := ?_) ?_ ?_
          rotate_left
          · show Act.put _ (some 49) _ = _
            simp only [Act.put, List.setIfInBounds_toArray, List.set_cons_zero, List.set_cons_succ]
            rfl
          refine pure_ (i := 3) (N := some 51) (v := ?_) (a' := ?_) #[true, true, true, true, false, false, false, false, false, false, false, false, false, false, false, false, false, false, false, false, false, false, false, false, false, false, false, false, false, false, false, false, false, false, false, false, false, false, false, false, false, false, false, false] rfl rfl (by kernel_rfl) (fun _ _ _ h => h) (Or.inl ⟨by rfl, ?_⟩) ?_ ?_
          rotate_left
          · intro w'
            go_simp
            with_reducible rfl
          rotate_left
          · simp only [Act.put, List.setIfInBounds_toArray, List.set_cons_zero, List.set_cons_succ]
            rfl
          refine pure_ (i := 4) (N := some 52) (v := ?_) (a' := ?_) #[true, true, true, true, true, false, false, false, false, false, false, false, false, false, false, false, false, false, false, false, false, false, false, false, false, false, false, false, false, false, false, false, false, false, false, false, false, false, false, false, false, false, false, false] rfl rfl (by kernel_rfl) (fun _ _ _ h => h) (Or.inl ⟨by rfl, ?_⟩) ?_ ?_
          rotate_left
          · intro w'
            go_simp
            with_reducible rfl
          rotate_left
          · simp only [Act.put, List.setIfInBounds_toArray, List.set_cons_zero, List.set_cons_succ]
            rfl
          refine pure_ (i := 5) (N := some 53) (v := ?_) (a' := ?_) #[true, true, true, true, true, true, false, false, false, false, false, false, false, false, false, false, false, false, false, false, false, false, false, false, false, false, false, false, false, false, false, false, false, false, false, false, false, false, false, false, false, false, false, false] rfl rfl (by kernel_rfl) (fun _ _ _ h => h) (Or.inl ⟨by rfl, ?_⟩) ?_ ?_
          rotate_left
          · intro w'
            go_simp
            with_reducible rfl
          rotate_left
          · simp only [Act.put, List.setIfInBounds_toArray, List.set_cons_zero, List.set_cons_succ]
            rfl
          refine pure_ (i := 7) (N := some 55) (v := ?_) (a' := ?_) #[true, true, true, true, true, true, false, true, false, false, false, false, false, false, false, false, false, false, false, false, false, false, false, false, false, false, false, false, false, false, false, false, false, false, false, false, false, false, false, false, false, false, false, false] rfl rfl (by kernel_rfl) (fun _ _ _ h => h) (Or.inl ⟨by rfl, ?_⟩) ?_ ?_
          rotate_left
          · intro w'
            go_simp
            with_reducible rfl
          rotate_left
          · simp only [Act.put, List.setIfInBounds_toArray, List.set_cons_zero, List.set_cons_succ]
            rfl
          refine pure_ (i := 8) (N := some 56) (v := ?_) (a' := ?_) #[true, true, true, true, true, true, false, true, true, false, false, false, false, false, false, false, false, false, false, false, false, false, false, false, false, false, false, false, false, false, false, false, false, false, false, false, false, false, false, false, false, false, false, false] rfl rfl (by kernel_rfl) (fun _ _ _ h => h) (Or.inl ⟨by rfl, ?_⟩) ?_ ?_
          rotate_left
          · intro w'
            go_simp
            with_reducible rfl
          rotate_left
          · simp only [Act.put, List.setIfInBounds_toArray, List.set_cons_zero, List.set_cons_succ]
            rfl
          refine pure_ (i := 9) (N := some 57) (v := ?_) (a' := ?_) #[true, true, true, true, true, true, false, true, true, true, false, false, false, false, false, false, false, false, false, false, false, false, false, false, false, false, false, false, false, false, false, false, false, false, false, false, false, false, false, false, false, false, false, false] rfl rfl (by kernel_rfl) (fun _ _ _ h => h) (Or.inl ⟨by rfl, ?_⟩) ?_ ?_
          rotate_left
          · intro w'
            go_simp
            with_reducible rfl
          rotate_left
          · simp only [Act.put, List.setIfInBounds_toArray, List.set_cons_zero, List.set_cons_succ]
            rfl
          refine take_ (i := 10) (N := some 58) (v := ?_) (a' := ?_) #[true, true, true, true, true, true, false, true, true, true, true, false, false, false, false, false, false, false, false, false, false, false, false, false, false, false, false, false, false, false, false, false, false, false, false, false, false, false, false, false, false, false, false, false] rfl rfl (by kernel_rfl) (fun _ _ _ h => h) (Or.inl ⟨by rfl, ?_⟩) hHeld ?_ ?_
          rotate_left
          · rintro w' ⟨s0, s1⟩
            go_simp
            with_reducible rfl
          rotate_left
          · simp only [Act.put, List.setIfInBounds_toArray, List.set_cons_zero, List.set_cons_succ]
            rfl
          refine pure_ (i := 11) (N := some 59) (v := ?_) (a' := ?_) #[true, true, true, true, true, true, false, true, true, true, true, true, false, false, false, false, false, false, false, false, false, false, false, false, false, false, false, false, false, false, false, false, false, false, false, false, false, false, false, false, false, false, false, false] rfl rfl (by kernel_rfl) (fun _ _ _ h => h) (Or.inl ⟨by rfl, ?_⟩) ?_ ?_
          rotate_left
          · intro w'
            go_simp
            with_reducible rfl
          rotate_left
          · simp only [Act.put, List.setIfInBounds_toArray, List.set_cons_zero, List.set_cons_succ]
            rfl
          refine one_ (i := 6) (N := some 54) #[true, true, true, true, true, true, true, true, true, true, true, true, false, false, false, false, false, false, false, false, false, false, false, false, false, false, false, false, false, false, false, false, false, false, false, false, false, false, false, false, false, false, false, false] rfl rfl (by kernel_rfl) (by decide) (fun K hK => ?_)
          refine goes_ Tryd.func13 (by kernel_rfl) rfl #[.pointer (some ⟨g1, 0, none⟩)] (by rfl) rfl rfl (by simp only [List.map_toArray, List.map_cons, List.map_nil]; rfl) ?_
          with_reducible refine (HT5.out.lenw HM.out).mono ?_
          rintro e w6 ⟨rfl, hb6⟩
          refine ⟨_, rfl, ?_⟩
          have HB6 := Aside0.mk (below_next HB5.out hb6)
          have HT6 := Aside0.mk (HT5.out.below hb6)
          have t6_0 : w6.cell? (ad.add (k * 2)) = some (.int .u64 (N : Int)) := pw_cell_below hb6 t5_0
          have t6_1 : w6.cell? ⟨g2, 0, none⟩ = some (.slice A2 M c2) := pw_cell_below hb6 t5_1
          clear hb6
          refine hK.out _ _ ⟨t6_0, t6_1⟩ (fun hHeld => ?_)
          clear hK K
          refine norm_ (a' := ?_) ?_ ?_
          rotate_left
          · show Act.put _ (some 54) _ = _
            simp only [Act.put, List.setIfInBounds_toArray, List.set_cons_zero, List.set_cons_succ]
            rfl
          refine pure_ (i := 12) (N := some 60) (v := ?_) (a' := ?_) #[true, true, true, true, true, true, true, true, true, true, true, true, true, false, false, false, false, false, false, false, false, false, false, false, false, false, false, false, false, false, false, false, false, false, false, false, false, false, false, false, false, false, false, false] rfl rfl (by kernel_rfl) (fun _ _ _ h => h) (Or.inl ⟨by rfl, ?_⟩) ?_ ?_
          rotate_left
          · intro w'
            go_simp
            with_reducible rfl
          rotate_left
          · simp only [Act.put, List.setIfInBounds_toArray, List.set_cons_zero, List.set_cons_succ]
            rfl
          refine pure_ (i := 13) (N := some 61) (v := ?_) (a' := ?_) #[true, true, true, true, true, true, true, true, true, true, true, true, true, true, false, false, false, false, false, false, false, false, false, false, false, false, false, false, false, false, false, false, false, false, false, false, false, false, false, false, false, false, false, false] rfl rfl (by kernel_rfl) (fun _ _ _ h => h) (Or.inl ⟨by rfl, ?_⟩) ?_ ?_
          rotate_left
          · intro w'
            go_simp
            with_reducible rfl
          rotate_left
          · simp only [Act.put, List.setIfInBounds_toArray, List.set_cons_zero, List.set_cons_succ]
            rfl
          refine pure_ (i := 14) (N := some 62) (v := ?_) (a' := ?_) #[true, true, true, true, true, true, true, true, true, true, true, true, true, true, true, false, false, false, false, false, false, false, false, false, false, false, false, false, false, false, false, false, false, false, false, false, false, false, false, false, false, false, false, false] rfl rfl (by kernel_rfl) (fun _ _ _ h => h) (Or.inl ⟨by rfl, ?_⟩) ?_ ?_
          rotate_left
          · intro w'
            go_simp
            with_reducible rfl
          rotate_left
          · simp only [Act.put, List.setIfInBounds_toArray, List.set_cons_zero, List.set_cons_succ]
            rfl
          refine pure_ (i := 15) (N := some 63) (v := ?_) (a' := ?_) #[true, true, true, true, true, true, true, true, true, true, true, true, true, true, true, true, false, false, false, false, false, false, false, false, false, false, false, false, false, false, false, false, false, false, false, false, false, false, false, false, false, false, false, false] rfl rfl (by kernel_rfl) (fun _ _ _ h => h) (Or.inl ⟨by rfl, ?_⟩) ?_ ?_
          rotate_left
          · intro w'
            go_simp
            with_reducible rfl
          rotate_left
          · simp only [Act.put, List.setIfInBounds_toArray, List.set_cons_zero, List.set_cons_succ]
            rfl
          refine pure_ (i := 16) (N := some 64) (v := ?_) (a' := ?_) #[true, true, true, true, true, true, true, true, true, true, true, true, true, true, true, true, true, false, false, false, false, false, false, false, false, false, false, false, false, false, false, false, false, false, false, false, false, false, false, false, false, false, false, false] rfl rfl (by kernel_rfl) (fun _ _ _ h => h) (Or.inl ⟨by rfl, ?_⟩) ?_ ?_
          rotate_left
          · intro w'
            go_simp
            with_reducible rfl
          rotate_left
          · simp only [Act.put, List.setIfInBounds_toArray, List.set_cons_zero, List.set_cons_succ]
            rfl
          refine pure_ (i := 17) (N := some 65) (v := ?_) (a' := ?_) #[true, true, true, true, true, true, true, true, true, true, true, true, true, true, true, true, true, true, false, false, false, false, false, false, false, false, false, false, false, false, false, false, false, false, false, false, false, false, false, false, false, false, false, false] rfl rfl (by kernel_rfl) (fun _ _ _ h => h) (Or.inl ⟨by rfl, ?_⟩) ?_ ?_
          rotate_left
          · intro w'
            go_simp
            with_reducible rfl
          rotate_left
          · simp only [Act.put, List.setIfInBounds_toArray, List.set_cons_zero, List.set_cons_succ]
            rfl
          refine pure_ (i := 18) (N := some 66) (v := ?_) (a' := ?_) #[true, true, true, true, true, true, true, true, true, true, true, true, true, true, true, true, true, true, true, false, false, false, false, false, false, false, false, false, false, false, false, false, false, false, false, false, false, false, false, false, false, false, false, false] rfl rfl (by kernel_rfl) (fun _ _ _ h => h) (Or.inl ⟨by rfl, ?_⟩) ?_ ?_
          rotate_left
          · intro w'
            go_simp
            with_reducible rfl
          rotate_left
          · simp only [Act.put, List.setIfInBounds_toArray, List.set_cons_zero, List.set_cons_succ]
            rfl
          refine pure_ (i := 21) (N := some 69) (v := ?_) (a' := ?_) #[true, true, true, true, true, true, true, true, true, true, true, true, true, true, true, true, true, true, true, false, false, true, false, false, false, false, false, false, false, false, false, false, false, false, false, false, false, false, false, false, false, false, false, false] rfl rfl (by kernel_rfl) (fun _ _ _ h => h) (Or.inl ⟨by rfl, ?_⟩) ?_ ?_
          rotate_left
          · intro w'
            go_simp
            with_reducible rfl
          rotate_left
          · simp only [Act.put, List.setIfInBounds_toArray, List.set_cons_zero, List.set_cons_succ]
            rfl
          refine pure_ (i := 22) (N := some 70) (v := ?_) (a' := ?_) #[true, true, true, true, true, true, true, true, true, true, true, true, true, true, true, true, true, true, true, false, false, true, true, false, false, false, false, false, false, false, false, false, false, false, false, false, false, false, false, false, false, false, false, false] rfl rfl (by kernel_rfl) (fun _ _ _ h => h) (Or.inl ⟨by rfl, ?_⟩) ?_ ?_
          rotate_left
          · intro w'
            go_simp
            with_reducible rfl
          rotate_left
          · simp only [Act.put, List.setIfInBounds_toArray, List.set_cons_zero, List.set_cons_succ]
            rfl
          refine pure_ (i := 23) (N := some 71) (v := ?_) (a' := ?_) #[true, true, true, true, true, true, true, true, true, true, true, true, true, true, true, true, true, true, true, false, false, true, true, true, false, false, false, false, false, false, false, false, false, false, false, false, false, false, false, false, false, false, false, false] rfl rfl (by kernel_rfl) (fun _ _ _ h => h) (Or.inl ⟨by rfl, ?_⟩) ?_ ?_
          rotate_left
          · intro w'
            go_simp
            with_reducible rfl
          rotate_left
          · simp only [Act.put, List.setIfInBounds_toArray, List.set_cons_zero, List.set_cons_succ]
            rfl
          refine pure_ (i := 24) (N := some 72) (v := ?_) (a' := ?_) #[true, true, true, true, true, true, true, true, true, true, true, true, true, true, true, true, true, true, true, false, false, true, true, true, true, false, false, false, false, false, false, false, false, false, false, false, false, false, false, false, false, false, false, false] rfl rfl (by kernel_rfl) (fun _ _ _ h => h) (Or.inl ⟨by rfl, ?_⟩) ?_ ?_
          rotate_left
          · intro w'
            go_simp
            with_reducible rfl
          rotate_left
          · simp only [Act.put, List.setIfInBounds_toArray, List.set_cons_zero, List.set_cons_succ]
            rfl
          refine take_ (i := 19) (N := some 67) (v := ?_) (a' := ?_) #[true, true, true, true, true, true, true, true, true, true, true, true, true, true, true, true, true, true, true, true, false, true, true, true, true, false, false, false, false, false, false, false, false, false, false, false, false, false, false, false, false, false, false, false] rfl rfl (by kernel_rfl) (fun _ _ _ h => h) (Or.inl ⟨by rfl, ?_⟩) hHeld ?_ ?_
          rotate_left
          · rintro w' ⟨s0, s1⟩
            go_simp
            with_reducible rfl
          rotate_left
          · simp only [Act.put, List.setIfInBounds_toArray, List.set_cons_zero, List.set_cons_succ]
            rfl
          refine take_ (i := 25) (N := some 73) (v := ?_) (a' := ?_) #[true, true, true, true, true, true, true, true, true, true, true, true, true, true, true, true, true, true, true, true, false, true, true, true, true, true, false, false, false, false, false, false, false, false, false, false, false, false, false, false, false, false, false, false] rfl rfl (by kernel_rfl) (fun _ _ _ h => h) (Or.inl ⟨by rfl, ?_⟩) hHeld ?_ ?_
          rotate_left
          · rintro w' ⟨s0, s1⟩
            go_simp
            with_reducible rfl
          rotate_left
          · simp only [Act.put, List.setIfInBounds_toArray, List.set_cons_zero, List.set_cons_succ]
            rfl
          refine one_ (i := 20) (N := some 68) #[true, true, true, true, true, true, true, true, true, true, true, true, true, true, true, true, true, true, true, true, true, true, true, true, true, true, false, false, false, false, false, false, false, false, false, false, false, false, false, false, false, false, false, false] rfl rfl (by kernel_rfl) (by decide) (fun K hK => ?_)
          refine goes_ Tryd.func14 (by kernel_rfl) rfl #[.int .u64 (N : Int)] (by rfl) rfl rfl (by simp only [List.map_toArray, List.map_cons, List.map_nil]; rfl) ?_
          with_reducible refine (leadB N _ hN64).mono ?_
          rintro e w7 ⟨rfl, hb7⟩
          refine ⟨_, rfl, ?_⟩
          have HB7 := Aside0.mk (below_next HB6.out hb7)
          have HT7 := Aside0.mk (HT6.out.below hb7)
          have t7_0 : w7.cell? (ad.add (k * 2)) = some (.int .u64 (N : Int)) := pw_cell_below hb7 t6_0
          have t7_1 : w7.cell? ⟨g2, 0, none⟩ = some (.slice A2 M c2) := pw_cell_below hb7 t6_1
          clear hb7
          refine hK.out _ _ ⟨t7_0, t7_1⟩ (fun hHeld => ?_)
          clear hK K
          refine norm_ (a' := ?_) ?_ ?_
          rotate_left
          · show Act.put _ (some 68) _ = _
            simp only [Act.put, List.setIfInBounds_toArray, List.set_cons_zero, List.set_cons_succ]
            rfl
          refine one_ (i := 26) (N := some 74) #[true, true, true, true, true, true, true, true, true, true, true, true, true, true, true, true, true, true, true, true, true, true, true, true, true, true, true, false, false, false, false, false, false, false, false, false, false, false, false, false, false, false, false, false] rfl rfl (by kernel_rfl) (by decide) (fun K hK => ?_)
          refine goes_ Tryd.func15 (by kernel_rfl) rfl #[.int .u64 (N : Int)] (by rfl) rfl rfl (by simp only [List.map_toArray, List.map_cons, List.map_nil]; rfl) ?_
          with_reducible refine (rleadB N _ hN64).mono ?_
          rintro e w8 ⟨rfl, hb8⟩
          refine ⟨_, rfl, ?_⟩
          have HB8 := Aside0.mk (below_next HB7.out hb8)
          have HT8 := Aside0.mk (HT7.out.below hb8)
          have t8_0 : w8.cell? (ad.add (k * 2)) = some (.int .u64 (N : Int)) := pw_cell_below hb8 t7_0
          have t8_1 : w8.cell? ⟨g2, 0, none⟩ = some (.slice A2 M c2) := pw_cell_below hb8 t7_1
          clear hb8
          refine hK.out _ _ ⟨t8_0, t8_1⟩ (fun hHeld => ?_)
          clear hK K
          refine norm_ (a' := ?_) ?_ ?_
          rotate_left
          · show Act.put _ (some 74) _ = _
            simp only [Act.put, List.setIfInBounds_toArray, List.set_cons_zero, List.set_cons_succ]
            rfl
          refine pure_ (i := 27) (N := some 75) (v := ?_) (a' := ?_) #[true, true, true, true, true, true, true, true, true, true, true, true, true, true, true, true, true, true, true, true, true, true, true, true, true, true, true, true, false, false, false, false, false, false, false, false, false, false, false, false, false, false, false, false] rfl rfl (by kernel_rfl) (fun _ _ _ h => h) (Or.inl ⟨by rfl, ?_⟩) ?_ ?_
          rotate_left
          · intro w'
            go_simp
            with_reducible rfl
          rotate_left
          · simp only [Act.put, List.setIfInBounds_toArray, List.set_cons_zero, List.set_cons_succ]
            rfl
          refine pure_ (i := 28) (N := some 76) (v := ?_) (a' := ?_) #[true, true, true, true, true, true, true, true, true, true, true, true, true, true, true, true, true, true, true, true, true, true, true, true, true, true, true, true, true, false, false, false, false, false, false, false, false, false, false, false, false, false, false, false] rfl rfl (by kernel_rfl) (fun _ _ _ h => h) (Or.inl ⟨by rfl, ?_⟩) ?_ ?_
          rotate_left
          · intro w'
            go_simp
            with_reducible rfl
          rotate_left
          · simp only [Act.put, List.setIfInBounds_toArray, List.set_cons_zero, List.set_cons_succ]
            rfl
          refine pure_ (i := 29) (N := some 77) (v := ?_) (a' := ?_) #[true, true, true, true, true, true, true, true, true, true, true, true, true, true, true, true, true, true, true, true, true, true, true, true, true, true, true, true, true, true, false, false, false, false, false, false, false, false, false, false, false, false, false, false] rfl rfl (by kernel_rfl) (fun _ _ _ h => h) (Or.inl ⟨by rfl, ?_⟩) ?_ ?_
          rotate_left
          · intro w'
            go_simp
            with_reducible rfl
          rotate_left
          · simp only [Act.put, List.setIfInBounds_toArray, List.set_cons_zero, List.set_cons_succ]
            rfl
          refine pure_ (i := 30) (N := some 78) (v := ?_) (a' := ?_) #[true, true, true, true, true, true, true, true, true, true, true, true, true, true, true, true, true, true, true, true, true, true, true, true, true, true, true, true, true, true, true, false, false, false, false, false, false, false, false, false, false, false, false, false] rfl rfl (by kernel_rfl) (fun _ _ _ h => h) (Or.inl ⟨by rfl, ?_⟩) ?_ ?_
          rotate_left
          · intro w'
            go_simp
            with_reducible rfl
          rotate_left
          · simp only [Act.put, List.setIfInBounds_toArray, List.set_cons_zero, List.set_cons_succ]
            rfl
          refine pure_ (i := 31) (N := some 79) (v := ?_) (a' := ?_) #[true, true, true, true, true, true, true, true, true, true, true, true, true, true, true, true, true, true, true, true, true, true, true, true, true, true, true, true, true, true, true, true, false, false, false, false, false, false, false, false, false, false, false, false] rfl rfl (by kernel_rfl) (fun _ _ _ h => h) (Or.inl ⟨by rfl, ?_⟩) ?_ ?_
          rotate_left
          · intro w'
            go_simp
            with_reducible rfl
          rotate_left
          · simp only [Act.put, List.setIfInBounds_toArray, List.set_cons_zero, List.set_cons_succ]
            rfl
          refine pure_ (i := 32) (N := some 80) (v := ?_) (a' := ?_) #[true, true, true, true, true, true, true, true, true, true, true, true, true, true, true, true, true, true, true, true, true, true, true, true, true, true, true, true, true, true, true, true, true, false, false, false, false, false, false, false, false, false, false, false] rfl rfl (by kernel_rfl) (fun _ _ _ h => h) (Or.inl ⟨by rfl, ?_⟩) ?_ ?_
          rotate_left
          · intro w'
            go_simp
            with_reducible rfl
          rotate_left
          · simp only [Act.put, List.setIfInBounds_toArray, List.set_cons_zero, List.set_cons_succ]
            rfl
          refine pure_ (i := 33) (N := some 81) (v := ?_) (a' := ?_) #[true, true, true, true, true, true, true, true, true, true, true, true, true, true, true, true, true, true, true, true, true, true, true, true, true, true, true, true, true, true, true, true, true, true, false, false, false, false, false, false, false, false, false, false] rfl rfl (by kernel_rfl) (fun _ _ _ h => h) (Or.inl ⟨by rfl, ?_⟩) ?_ ?_
          rotate_left
          · intro w'
            go_simp
            with_reducible rfl
          rotate_left
          · simp only [Act.put, List.setIfInBounds_toArray, List.set_cons_zero, List.set_cons_succ]
            rfl
          refine pure_ (i := 36) (N := some 84) (v := ?_) (a' := ?_) #[true, true, true, true, true, true, true, true, true, true, true, true, true, true, true, true, true, true, true, true, true, true, true, true, true, true, true, true, true, true, true, true, true, true, false, false, true, false, false, false, false, false, false, false] rfl rfl (by kernel_rfl) (fun _ _ _ h => h) (Or.inl ⟨by rfl, ?_⟩) ?_ ?_
          rotate_left
          · intro w'
            go_simp
            with_reducible rfl
          rotate_left
          · simp only [Act.put, List.setIfInBounds_toArray, List.set_cons_zero, List.set_cons_succ]
            rfl
          refine pure_ (i := 37) (N := some 85) (v := ?_) (a' := ?_) #[true, true, true, true, true, true, true, true, true, true, true, true, true, true, true, true, true, true, true, true, true, true, true, true, true, true, true, true, true, true, true, true, true, true, false, false, true, true, false, false, false, false, false, false] rfl rfl (by kernel_rfl) (fun _ _ _ h => h) (Or.inl ⟨by rfl, ?_⟩) ?_ ?_
          rotate_left
          · intro w'
            go_simp
            with_reducible rfl
          rotate_left
          · simp only [Act.put, List.setIfInBounds_toArray, List.set_cons_zero, List.set_cons_succ]
            rfl
          refine pure_ (i := 38) (N := some 86) (v := ?_) (a' := ?_) #[true, true, true, true, true, true, true, true, true, true, true, true, true, true, true, true, true, true, true, true, true, true, true, true, true, true, true, true, true, true, true, true, true, true, false, false, true, true, true, false, false, false, false, false] rfl rfl (by kernel_rfl) (fun _ _ _ h => h) (Or.inl ⟨by rfl, ?_⟩) ?_ ?_
          rotate_left
          · intro w'
            go_simp
            with_reducible rfl
          rotate_left
          · simp only [Act.put, List.setIfInBounds_toArray, List.set_cons_zero, List.set_cons_succ]
            rfl
          refine pure_ (i := 39) (N := some 87) (v := ?_) (a' := ?_) #[true, true, true, true, true, true, true, true, true, true, true, true, true, true, true, true, true, true, true, true, true, true, true, true, true, true, true, true, true, true, true, true, true, true, false, false, true, true, true, true, false, false, false, false] rfl rfl (by kernel_rfl) (fun _ _ _ h => h) (Or.inl ⟨by rfl, ?_⟩) ?_ ?_
          rotate_left
          · intro w'
            go_simp
            with_reducible rfl
          rotate_left
          · simp only [Act.put, List.setIfInBounds_toArray, List.set_cons_zero, List.set_cons_succ]
            rfl
          refine take_ (i := 34) (N := some 82) (v := ?_) (a' := ?_) #[true, true, true, true, true, true, true, true, true, true, true, true, true, true, true, true, true, true, true, true, true, true, true, true, true, true, true, true, true, true, true, true, true, true, true, false, true, true, true, true, false, false, false, false] rfl rfl (by kernel_rfl) (fun _ _ _ h => h) (Or.inl ⟨by rfl, ?_⟩) hHeld ?_ ?_
          rotate_left
          · rintro w' ⟨s0, s1⟩
            go_simp
            with_reducible rfl
          rotate_left
          · simp only [Act.put, List.setIfInBounds_toArray, List.set_cons_zero, List.set_cons_succ]
            rfl
          refine take_ (i := 40) (N := some 88) (v := ?_) (a' := ?_) #[true, true, true, true, true, true, true, true, true, true, true, true, true, true, true, true, true, true, true, true, true, true, true, true, true, true, true, true, true, true, true, true, true, true, true, false, true, true, true, true, true, false, false, false] rfl rfl (by kernel_rfl) (fun _ _ _ h => h) (Or.inl ⟨by rfl, ?_⟩) hHeld ?_ ?_
          rotate_left
          · rintro w' ⟨s0, s1⟩
            go_simp
            with_reducible rfl
          rotate_left
          · simp only [Act.put, List.setIfInBounds_toArray, List.set_cons_zero, List.set_cons_succ]
            rfl
          refine one_ (i := 35) (N := some 83) #[true, true, true, true, true, true, true, true, true, true, true, true, true, true, true, true, true, true, true, true, true, true, true, true, true, true, true, true, true, true, true, true, true, true, true, true, true, true, true, true, true, false, false, false] rfl rfl (by kernel_rfl) (by decide) (fun K hK => ?_)
          refine goes_ Tryd.func16 (by kernel_rfl) rfl #[.int .u64 (N : Int)] (by rfl) rfl rfl (by simp only [List.map_toArray, List.map_cons, List.map_nil]; rfl) ?_
          with_reducible refine (trailB N _ hN64).mono ?_
          rintro e w9 ⟨rfl, hb9⟩
          refine ⟨_, rfl, ?_⟩
          have HB9 := Aside0.mk (below_next HB8.out hb9)
          have HT9 := Aside0.mk (HT8.out.below hb9)
          have t9_0 : w9.cell? (ad.add (k * 2)) = some (.int .u64 (N : Int)) := pw_cell_below hb9 t8_0
          have t9_1 : w9.cell? ⟨g2, 0, none⟩ = some (.slice A2 M c2) := pw_cell_below hb9 t8_1
          clear hb9
          refine hK.out _ _ ⟨t9_0, t9_1⟩ (fun hHeld => ?_)
          clear hK K
          refine norm_ (a' := ?_) ?_ ?_
          rotate_left
          · show Act.put _ (some 83) _ = _
            simp only [Act.put, List.setIfInBounds_toArray, List.set_cons_zero, List.set_cons_succ]
            rfl
          refine one_ (i := 41) (N := some 89) #[true, true, true, true, true, true, true, true, true, true, true, true, true, true, true, true, true, true, true, true, true, true, true, true, true, true, true, true, true, true, true, true, true, true, true, true, true, true, true, true, true, true, false, false] rfl rfl (by kernel_rfl) (by decide) (fun K hK => ?_)
          refine goes_ Tryd.func17 (by kernel_rfl) rfl #[.int .u64 (N : Int)] (by rfl) rfl rfl (by simp only [List.map_toArray, List.map_cons, List.map_nil]; rfl) ?_
          with_reducible refine (rtrailB N _ hN64).mono ?_
          rintro e w10 ⟨rfl, hb10⟩
          refine ⟨_, rfl, ?_⟩
          have HB10 := Aside0.mk (below_next HB9.out hb10)
          have HT10 := Aside0.mk (HT9.out.below hb10)
          have t10_0 : w10.cell? (ad.add (k * 2)) = some (.int .u64 (N : Int)) := pw_cell_below hb10 t9_0
          have t10_1 : w10.cell? ⟨g2, 0, none⟩ = some (.slice A2 M c2) := pw_cell_below hb10 t9_1
          clear hb10
          refine hK.out _ _ ⟨t10_0, t10_1⟩ (fun hHeld => ?_)
          clear hK K
          refine norm_ (a' := ?_) ?_ ?_
          rotate_left
          · show Act.put _ (some 89) _ = _
            simp only [Act.put, List.setIfInBounds_toArray, List.set_cons_zero, List.set_cons_succ]
            rfl
          refine pure_ (i := 42) (N := some 90) (v := ?_) (a' := ?_) #[true, true, true, true, true, true, true, true, true, true, true, true, true, true, true, true, true, true, true, true, true, true, true, true, true, true, true, true, true, true, true, true, true, true, true, true, true, true, true, true, true, true, true, false] rfl rfl (by kernel_rfl) (fun _ _ _ h => h) (Or.inl ⟨by rfl, ?_⟩) ?_ ?_
          rotate_left
          · intro w'
            go_simp
            with_reducible rfl
          rotate_left
          · simp only [Act.put, List.setIfInBounds_toArray, List.set_cons_zero, List.set_cons_succ]
            rfl
          refine pure_ (i := 43) (N := some 91) (v := ?_) (a' := ?_) #[true, true, true, true, true, true, true, true, true, true, true, true, true, true, true, true, true, true, true, true, true, true, true, true, true, true, true, true, true, true, true, true, true, true, true, true, true, true, true, true, true, true, true, true] rfl rfl (by kernel_rfl) (fun _ _ _ h => h) (Or.inl ⟨by rfl, ?_⟩) ?_ ?_
          rotate_left
          · intro w'
            go_simp
            with_reducible rfl
          rotate_left
          · simp only [Act.put, List.setIfInBounds_toArray, List.set_cons_zero, List.set_cons_succ]
            rfl
          refine done_ (by kernel_rfl) ?_
          go_wp2_with fail
          go_roundw
          case rel => exact ⟨k + 1, (L ++ bitsOf N n), by go_num, by omega, by rw [HM.out]; omega, HT10, HB10⟩
          case measure => simp [intOf]; omega
        · have HBad := Aside0.mk hBad
          clear hBad
          go_wp2_with fail
          refine start_ (n := 26) (S := fun w' => w'.cell? (ad.add (k * 2)) = some (.int .u64 (N : Int)) ∧ w'.cell? ⟨(ad.add (k * 2)).block, (ad.add (k * 2)).off + 1, none⟩ = some (.int .i64 y)) (ds := []) #[false, false, false, false, false, false, false, false, false, false, false, false, false, false, false, false, false, false, false, false, false, false, false, false, false, false] (by kernel_rfl) rfl rfl ⟨q0, q1⟩ (fun hHeld => ?_)
          refine pure_ (i := 0) (N := some 24) (v := ?_) (a' := ?_) #[true, false, false, false, false, false, false, false, false, false, false, false, false, false, false, false, false, false, false, false, false, false, false, false, false, false] rfl rfl (by kernel_rfl) (fun _ _ _ h => h) (Or.inl ⟨by rfl, ?_⟩) ?_ ?_
          rotate_left
          · intro w'
            go_simp
            with_reducible rfl
          rotate_left
          · simp only [Act.put, List.setIfInBounds_toArray, List.set_cons_zero, List.set_cons_succ]
            rfl
          refine pure_ (i := 1) (N := some 25) (v := ?_) (a' := ?_) #[true, true, false, false, false, false, false, false, false, false, false, false, false, false, false, false, false, false, false, false, false, false, false, false, false, false] rfl rfl (by kernel_rfl) (fun _ _ _ h => h) (Or.inl ⟨by rfl, ?_⟩) ?_ ?_
          rotate_left
          · intro w'
            go_simp
            with_reducible rfl
          rotate_left
          · simp only [Act.put, List.setIfInBounds_toArray, List.set_cons_zero, List.set_cons_succ]
            rfl
          refine pure_ (i := 2) (N := some 26) (v := ?_) (a' := ?_) #[true, true, true, false, false, false, false, false, false, false, false, false, false, false, false, false, false, false, false, false, false, false, false, false, false, false] rfl rfl (by kernel_rfl) (fun _ _ _ h => h) (Or.inl ⟨by rfl, ?_⟩) ?_ ?_
          rotate_left
          · intro w'
            go_simp
            with_reducible rfl
          rotate_left
          · simp only [Act.put, List.setIfInBounds_toArray, List.set_cons_zero, List.set_cons_succ]
            rfl
          refine pure_ (i := 3) (N := some 27) (v := ?_) (a' := ?_) #[true, true, true, true, false, false, false, false, false, false, false, false, false, false, false, false, false, false, false, false, false, false, false, false, false, false] rfl rfl (by kernel_rfl) (fun _ _ _ h => h) (Or.inl ⟨by rfl, ?_⟩) ?_ ?_
          rotate_left
          · intro w'
            go_simp
            with_reducible rfl
          rotate_left
          · simp only [Act.put, List.setIfInBounds_toArray, List.set_cons_zero, List.set_cons_succ]
            rfl
          refine pure_ (i := 4) (N := some 28) (v := ?_) (a' := ?_) #[true, true, true, true, true, false, false, false, false, false, false, false, false, false, false, false, false, false, false, false, false, false, false, false, false, false] rfl rfl (by kernel_rfl) (fun _ _ _ h => h) (Or.inl ⟨by rfl, ?_⟩) ?_ ?_
          rotate_left
          · intro w'
            go_simp
            with_reducible rfl
          rotate_left
          · simp only [Act.put, List.setIfInBounds_toArray, List.set_cons_zero, List.set_cons_succ]
            rfl
          refine pure_ (i := 6) (N := some 30) (v := ?_) (a' := ?_) #[true, true, true, true, true, false, true, false, false, false, false, false, false, false, false, false, false, false, false, false, false, false, false, false, false, false] rfl rfl (by kernel_rfl) (fun _ _ _ h => h) (Or.inl ⟨by rfl, ?_⟩) ?_ ?_
          rotate_left
          · intro w'
            go_simp
            with_reducible rfl
          rotate_left
          · simp only [Act.put, List.setIfInBounds_toArray, List.set_cons_zero, List.set_cons_succ]
            rfl
          refine pure_ (i := 7) (N := some 31) (v := ?_) (a' := ?_) #[true, true, true, true, true, false, true, true, false, false, false, false, false, false, false, false, false, false, false, false, false, false, false, false, false, false] rfl rfl (by kernel_rfl) (fun _ _ _ h => h) (Or.inl ⟨by rfl, ?_⟩) ?_ ?_
          rotate_left
          · intro w'
            go_simp
            with_reducible rfl
          rotate_left
          · simp only [Act.put, List.setIfInBounds_toArray, List.set_cons_zero, List.set_cons_succ]
            rfl
          refine pure_ (i := 8) (N := some 32) (v := ?_) (a' := ?_) #[true, true, true, true, true, false, true, true, true, false, false, false, false, false, false, false, false, false, false, false, false, false, false, false, false, false] rfl rfl (by kernel_rfl) (fun _ _ _ h => h) (Or.inl ⟨by rfl, ?_⟩) ?_ ?_
          rotate_left
          · intro w'
            go_simp
            with_reducible rfl
          rotate_left
          · simp only [Act.put, List.setIfInBounds_toArray, List.set_cons_zero, List.set_cons_succ]
            rfl
          refine pure_ (i := 9) (N := some 33) (v := ?_) (a' := ?_) #[true, true, true, true, true, false, true, true, true, true, false, false, false, false, false, false, false, false, false, false, false, false, false, false, false, false] rfl rfl (by kernel_rfl) (fun _ _ _ h => h) (Or.inl ⟨by rfl, ?_⟩) ?_ ?_
          rotate_left
          · intro w'
            go_simp
            with_reducible rfl
          rotate_left
          · simp only [Act.put, List.setIfInBounds_toArray, List.set_cons_zero, List.set_cons_succ]
            rfl
          refine pure_ (i := 12) (N := some 36) (v := ?_) (a' := ?_) #[true, true, true, true, true, false, true, true, true, true, false, false, true, false, false, false, false, false, false, false, false, false, false, false, false, false] rfl rfl (by kernel_rfl) (fun _ _ _ h => h) (Or.inl ⟨by rfl, ?_⟩) ?_ ?_
          rotate_left
          · intro w'
            go_simp
            with_reducible rfl
          rotate_left
          · simp only [Act.put, List.setIfInBounds_toArray, List.set_cons_zero, List.set_cons_succ]
            rfl
          refine pure_ (i := 13) (N := some 37) (v := ?_) (a' := ?_) #[true, true, true, true, true, false, true, true, true, true, false, false, true, true, false, false, false, false, false, false, false, false, false, false, false, false] rfl rfl (by kernel_rfl) (fun _ _ _ h => h) (Or.inl ⟨by rfl, ?_⟩) ?_ ?_
          rotate_left
          · intro w'
            go_simp
            with_reducible rfl
          rotate_left
          · simp only [Act.put, List.setIfInBounds_toArray, List.set_cons_zero, List.set_cons_succ]
            rfl
          refine pure_ (i := 14) (N := some 38) (v := ?_) (a' := ?_) #[true, true, true, true, true, false, true, true, true, true, false, false, true, true, true, false, false, false, false, false, false, false, false, false, false, false] rfl rfl (by kernel_rfl) (fun _ _ _ h => h) (Or.inl ⟨by rfl, ?_⟩) ?_ ?_
          rotate_left
          · intro w'
            go_simp
            with_reducible rfl
          rotate_left
          · simp only [Act.put, List.setIfInBounds_toArray, List.set_cons_zero, List.set_cons_succ]
            rfl
          refine pure_ (i := 15) (N := some 39) (v := ?_) (a' := ?_) #[true, true, true, true, true, false, true, true, true, true, false, false, true, true, true, true, false, false, false, false, false, false, false, false, false, false] rfl rfl (by kernel_rfl) (fun _ _ _ h => h) (Or.inl ⟨by rfl, ?_⟩) ?_ ?_
          rotate_left
          · intro w'
            go_simp
            with_reducible rfl
          rotate_left
          · simp only [Act.put, List.setIfInBounds_toArray, List.set_cons_zero, List.set_cons_succ]
            rfl
          refine pure_ (i := 16) (N := some 40) (v := ?_) (a' := ?_) #[true, true, true, true, true, false, true, true, true, true, false, false, true, true, true, true, true, false, false, false, false, false, false, false, false, false] rfl rfl (by kernel_rfl) (fun _ _ _ h => h) (Or.inl ⟨by rfl, ?_⟩) ?_ ?_
          rotate_left
          · intro w'
            go_simp
            with_reducible rfl
          rotate_left
          · simp only [Act.put, List.setIfInBounds_toArray, List.set_cons_zero, List.set_cons_succ]
            rfl
          refine pure_ (i := 18) (N := some 42) (v := ?_) (a' := ?_) #[true, true, true, true, true, false, true, true, true, true, false, false, true, true, true, true, true, false, true, false, false, false, false, false, false, false] rfl rfl (by kernel_rfl) (fun _ _ _ h => h) (Or.inl ⟨by rfl, ?_⟩) ?_ ?_
          rotate_left
          · intro w'
            go_simp
            with_reducible rfl
          rotate_left
          · simp only [Act.put, List.setIfInBounds_toArray, List.set_cons_zero, List.set_cons_succ]
            rfl
          refine pure_ (i := 19) (N := some 43) (v := ?_) (a' := ?_) #[true, true, true, true, true, false, true, true, true, true, false, false, true, true, true, true, true, false, true, true, false, false, false, false, false, false] rfl rfl (by kernel_rfl) (fun _ _ _ h => h) (Or.inl ⟨by rfl, ?_⟩) ?_ ?_
          rotate_left
          · intro w'
            go_simp
            with_reducible rfl
          rotate_left
          · simp only [Act.put, List.setIfInBounds_toArray, List.set_cons_zero, List.set_cons_succ]
            rfl
          refine pure_ (i := 20) (N := some 44) (v := ?_) (a' := ?_) #[true, true, true, true, true, false, true, true, true, true, false, false, true, true, true, true, true, false, true, true, true, false, false, false, false, false] rfl rfl (by kernel_rfl) (fun _ _ _ h => h) (Or.inl ⟨by rfl, ?_⟩) ?_ ?_
          rotate_left
          · intro w'
            go_simp
            with_reducible rfl
          rotate_left
          · simp only [Act.put, List.setIfInBounds_toArray, List.set_cons_zero, List.set_cons_succ]
            rfl
          refine pure_ (i := 21) (N := some 45) (v := ?_) (a' := ?_) #[true, true, true, true, true, false, true, true, true, true, false, false, true, true, true, true, true, false, true, true, true, true, false, false, false, false] rfl rfl (by kernel_rfl) (fun _ _ _ h => h) (Or.inl ⟨by rfl, ?_⟩) ?_ ?_
          rotate_left
          · intro w'
            go_simp
            with_reducible rfl
          rotate_left
          · simp only [Act.put, List.setIfInBounds_toArray, List.set_cons_zero, List.set_cons_succ]
            rfl
          refine take_ (i := 5) (N := some 29) (v := ?_) (a' := ?_) #[true, true, true, true, true, true, true, true, true, true, false, false, true, true, true, true, true, false, true, true, true, true, false, false, false, false] rfl rfl (by kernel_rfl) (fun _ _ _ h => h) (Or.inl ⟨by rfl, ?_⟩) hHeld ?_ ?_
          rotate_left
          · rintro w' ⟨s0, s1⟩
            go_simp
            with_reducible rfl
          rotate_left
          · simp only [Act.put, List.setIfInBounds_toArray, List.set_cons_zero, List.set_cons_succ]
            rfl
          refine take_ (i := 10) (N := some 34) (v := ?_) (a' := ?_) #[true, true, true, true, true, true, true, true, true, true, true, false, true, true, true, true, true, false, true, true, true, true, false, false, false, false] rfl rfl (by kernel_rfl) (fun _ _ _ h => h) (Or.inl ⟨by rfl, ?_⟩) hHeld ?_ ?_
          rotate_left
          · rintro w' ⟨s0, s1⟩
            go_simp
            with_reducible rfl
          rotate_left
          · simp only [Act.put, List.setIfInBounds_toArray, List.set_cons_zero, List.set_cons_succ]
            rfl
          refine take_ (i := 17) (N := some 41) (v := ?_) (a' := ?_) #[true, true, true, true, true, true, true, true, true, true, true, false, true, true, true, true, true, true, true, true, true, true, false, false, false, false] rfl rfl (by kernel_rfl) (fun _ _ _ h => h) (Or.inl ⟨by rfl, ?_⟩) hHeld ?_ ?_
          rotate_left
          · rintro w' ⟨s0, s1⟩
            go_simp
            with_reducible rfl
          rotate_left
          · simp only [Act.put, List.setIfInBounds_toArray, List.set_cons_zero, List.set_cons_succ]
            rfl
          refine take_ (i := 22) (N := some 46) (v := ?_) (a' := ?_) #[true, true, true, true, true, true, true, true, true, true, true, false, true, true, true, true, true, true, true, true, true, true, true, false, false, false] rfl rfl (by kernel_rfl) (fun _ _ _ h => h) (Or.inl ⟨by rfl, ?_⟩) hHeld ?_ ?_
          rotate_left
          · rintro w' ⟨s0, s1⟩
            go_simp
            with_reducible rfl
          rotate_left
          · simp only [Act.put, List.setIfInBounds_toArray, List.set_cons_zero, List.set_cons_succ]
            rfl
          refine one_ (i := 11) (N := some 35) #[true, true, true, true, true, true, true, true, true, true, true, true, true, true, true, true, true, true, true, true, true, true, true, false, false, false] rfl rfl (by kernel_rfl) (by decide) (fun K hK => ?_)
          refine goes_ Tryd.func10 (by kernel_rfl) rfl #[.pointer (some ⟨g1, 0, none⟩), .int .u64 (N : Int), .int .i64 y] (by rfl) rfl rfl (by simp only [List.map_toArray, List.map_cons, List.map_nil]; rfl) ?_
          with_reducible refine (HT0.out.drew.badw HBad.out).mono ?_
          rintro e w2 ⟨u, rfl, hu2, b2⟩
          refine ⟨_, rfl, ?_⟩
          have HT2 := Aside0.mk (HT0.out.drew.below b2)
          have HU2 := Aside0.mk hu2
          have HB2 := Aside0.mk (below_next HB0.out.drew b2)
          have q02 := hc0 _ (below_next HB1.out HB2.out)
          have q12 := hc1 _ (below_next HB1.out HB2.out)
          clear hu2 b2
          refine hK.out _ _ ⟨q02, q12⟩ (fun hHeld => ?_)
          clear hK K
          refine norm_ (a' := ?_) ?_ ?_
          rotate_left
          · show Act.put _ (some 35) _ = _
            simp only [Act.put, List.setIfInBounds_toArray, List.set_cons_zero, List.set_cons_succ]
            rfl
          refine one_ (i := 23) (N := some 47) #[true, true, true, true, true, true, true, true, true, true, true, true, true, true, true, true, true, true, true, true, true, true, true, true, false, false] rfl rfl (by kernel_rfl) (by decide) (fun K hK => ?_)
          refine goes_ Tryd.func11 (by kernel_rfl) rfl #[.pointer (some ⟨g2, 0, none⟩), .int .u64 (N : Int), .int .i64 y] (by rfl) rfl rfl (by simp only [List.map_toArray, List.map_cons, List.map_nil]; rfl) ?_
          with_reducible refine (rbput_bad g2 N y _ HBad.out).mono ?_
          rintro e w3 ⟨rfl, b3⟩
          refine ⟨_, rfl, ?_⟩
          have HT3 := Aside0.mk (HT2.out.below b3)
          have HU3 := Aside0.mk (HU2.out.below b3)
          have HB3 := Aside0.mk (below_next HB2.out b3)
          have q03 := hc0 _ (below_next HB1.out HB3.out)
          have q13 := hc1 _ (below_next HB1.out HB3.out)
          clear b3
          refine hK.out _ _ ⟨q03, q13⟩ (fun hHeld => ?_)
          clear hK K
          refine norm_ (a' := ?_) ?_ ?_
          rotate_left
          · show Act.put _ (some 47) _ = _
            simp only [Act.put, List.setIfInBounds_toArray, List.set_cons_zero, List.set_cons_succ]
            rfl
          refine pure_ (i := 24) (N := some 6) (v := ?_) (a' := ?_) #[true, true, true, true, true, true, true, true, true, true, true, true, true, true, true, true, true, true, true, true, true, true, true, true, true, false] rfl rfl (by kernel_rfl) (fun _ _ _ h => h) (Or.inl ⟨by rfl, ?_⟩) ?_ ?_
          rotate_left
          · intro w'
            go_simp
            with_reducible rfl
          rotate_left
          · simp only [Act.put, List.setIfInBounds_toArray, List.set_cons_zero, List.set_cons_succ]
            rfl
          refine pure_ (i := 25) (N := some 7) (v := ?_) (a' := ?_) #[true, true, true, true, true, true, true, true, true, true, true, true, true, true, true, true, true, true, true, true, true, true, true, true, true, true] rfl rfl (by kernel_rfl) (fun _ _ _ h => h) (Or.inl ⟨by rfl, ?_⟩) ?_ ?_
          rotate_left
          · intro w'
            go_simp
            with_reducible rfl
          rotate_left
          · simp only [Act.put, List.setIfInBounds_toArray, List.set_cons_zero, List.set_cons_succ]
            rfl
          refine done_ (by kernel_rfl) ?_
          go_wp2_with fail
          obtain ⟨M, hM⟩ : ∃ M, L.length = M := ⟨_, rfl⟩
          have hMl : M = L.length := hM.symm
          obtain ⟨A2, c2, r1⟩ := HT3.out.slice hM
          have r0 := q03
          have HM := Aside0.mk hM
          obtain ⟨uT, ux, rfl⟩ := HU3.out.iface (by simp)
          have codeC := fun w' (hg : Laid w') (h : IsE w' (.at_ (L.length : Int) (.code 9)) (.iface uT ux)) => codeK w' hg h (show codeOf (.at_ (L.length : Int) (.code 9)) = 9 from rfl)
          clear hM q03 q13
          refine start_ (n := 44) (S := fun w' => w'.cell? (ad.add (k * 2)) = some (.int .u64 (N : Int)) ∧ w'.cell? ⟨g2, 0, none⟩ = some (.slice A2 M c2)) (ds := []) #[false, false, false, false, false, false, false, false, false, false, false, false, false, false, false, false, false, false, false, false, false, false, false, false, false, false, false, false, false, false, false, false, false, false, false, false, false, false, false, false, false, false, false, false] (by kernel_rfl) rfl rfl ⟨r0, r1⟩ (fun hHeld => ?_)
          refine pure_ (i := 0) (N := some 48) (v := ?_) (a' := ?_) #[true, false, false, false, false, false, false, false, false, false, false, false, false, false, false, false, false, false, false, false, false, false, false, false, false, false, false, false, false, false, false, false, false, false, false, false, false, false, false, false, false, false, false, false] rfl rfl (by kernel_rfl) (fun _ _ _ h => h) (Or.inl ⟨by rfl, ?_⟩) ?_ ?_
          rotate_left
          · intro w'
            go_simp
            with_reducible rfl
          rotate_left
          · simp only [Act.put, List.setIfInBounds_toArray, List.set_cons_zero, List.set_cons_succ]
            rfl
          refine pure_ (i := 2) (N := some 50) (v := ?_) (a' := ?_) #[true, false, true, false, false, false, false, false, false, false, false, false, false, false, false, false, false, false, false, false, false, false, false, false, false, false, false, false, false, false, false, false, false, false, false, false, false, false, false, false, false, false, false, false] rfl rfl (by kernel_rfl) (fun _ _ _ h => h) (Or.inl ⟨by rfl, ?_⟩) ?_ ?_
          rotate_left
          · intro w'
            go_simp
            with_reducible rfl
          rotate_left
          · simp only [Act.put, List.setIfInBounds_toArray, List.set_cons_zero, List.set_cons_succ]
            rfl
          refine one_ (i := 1) (N := some 49) #[true, true, true, false, false, false, false, false, false, false, false, false, false, false, false, false, false, false, false, false, false, false, false, false, false, false, false, false, false, false, false, false, false, false, false, false, false, false, false, false, false, false, false, false] rfl rfl (by kernel_rfl) (by decide) (fun K hK => ?_)
          refine goes_ Tryd.func12 (by kernel_rfl) rfl #[.iface uT ux] (by rfl) rfl rfl (by simp only [List.map_toArray, List.map_cons, List.map_nil]; rfl) ?_
          with_reducible refine (codeC _ (HG.out.below (below_next HB1.out HB3.out.drew)) HU3.out.drew).mono ?_
          rintro e w5 ⟨rfl, hb5⟩
          refine ⟨_, rfl, ?_⟩
          have HB5 := Aside0.mk (below_next HB3.out.drew hb5)
          have HT5 := Aside0.mk (HT3.out.drew.below hb5)
          have t5_0 : w5.cell? (ad.add (k * 2)) = some (.int .u64 (N : Int)) := pw_cell_below hb5 r0
          have t5_1 : w5.cell? ⟨g2, 0, none⟩ = some (.slice A2 M c2) := pw_cell_below hb5 r1
          clear hb5
          refine hK.out _ _ ⟨t5_0, t5_1⟩ (fun hHeld => ?_)
          clear hK K
          refine norm_ (a' := ?_) ?_ ?_
          rotate_left
          · show Act.put _ (some 49) _ = _
            simp only [Act.put, List.setIfInBounds_toArray, List.set_cons_zero, List.set_cons_succ]
            rfl
          refine pure_ (i := 3) (N := some 51) (v := ?_) (a' := ?_) #[true, true, true, true, false, false, false, false, false, false, false, false, false, false, false, false, false, false, false, false, false, false, false, false, false, false, false, false, false, false, false, false, false, false, false, false, false, false, false, false, false, false, false, false] rfl rfl (by kernel_rfl) (fun _ _ _ h => h) (Or.inl ⟨by rfl, ?_⟩) ?_ ?_
          rotate_left
          · intro w'
            go_simp
            with_reducible rfl
          rotate_left
          · simp only [Act.put, List.setIfInBounds_toArray, List.set_cons_zero, List.set_cons_succ]
            rfl
          refine pure_ (i := 4) (N := some 52) (v := ?_) (a' := ?_) #[true, true, true, true, true, false, false, false, false, false, false, false, false, false, false, false, false, false, false, false, false, false, false, false, false, false, false, false, false, false, false, false, false, false, false, false, false, false, false, false, false, false, false, false] rfl rfl (by kernel_rfl) (fun _ _ _ h => h) (Or.inl ⟨by rfl, ?_⟩) ?_ ?_
          rotate_left
          · intro w'
            go_simp
            with_reducible rfl
          rotate_left
          · simp only [Act.put, List.setIfInBounds_toArray, List.set_cons_zero, List.set_cons_succ]
            rfl
          refine pure_ (i := 5) (N := some 53) (v := ?_) (a' := ?_) #[true, true, true, true, true, true, false, false, false, false, false, false, false, false, false, false, false, false, false, false, false, false, false, false, false, false, false, false, false, false, false, false, false, false, false, false, false, false, false, false, false, false, false, false] rfl rfl (by kernel_rfl) (fun _ _ _ h => h) (Or.inl ⟨by rfl, ?_⟩) ?_ ?_
          rotate_left
          · intro w'
            go_simp
            with_reducible rfl
          rotate_left
          · simp only [Act.put, List.setIfInBounds_toArray, List.set_cons_zero, List.set_cons_succ]
            rfl
          refine pure_ (i := 7) (N := some 55) (v := ?_) (a' := ?_) #[true, true, true, true, true, true, false, true, false, false, false, false, false, false, false, false, false, false, false, false, false, false, false, false, false, false, false, false, false, false, false, false, false, false, false, false, false, false, false, false, false, false, false, false] rfl rfl (by kernel_rfl) (fun _ _ _ h => h) (Or.inl ⟨by rfl, ?_⟩) ?_ ?_
          rotate_left
          · intro w'
            go_simp
            with_reducible rfl
          rotate_left
          · simp only [Act.put, List.setIfInBounds_toArray, List.set_cons_zero, List.set_cons_succ]
            rfl
          refine pure_ (i := 8) (N := some 56) (v := ?_) (a' := ?_) #[true, true, true, true, true, true, false, true, true, false, false, false, false, false, false, false, false, false, false, false, false, false, false, false, false, false, false, false, false, false, false, false, false, false, false, false, false, false, false, false, false, false, false, false] rfl rfl (by kernel_rfl) (fun _ _ _ h => h) (Or.inl ⟨by rfl, ?_⟩) ?_ ?_
          rotate_left
          · intro w'
            go_simp
            with_reducible rfl
          rotate_left
          · simp only [Act.put, List.setIfInBounds_toArray, List.set_cons_zero, List.set_cons_succ]
            rfl
          refine pure_ (i := 9) (N := some 57) (v := ?_) (a' := ?_) #[true, true, true, true, true, true, false, true, true, true, false, false, false, false, false, false, false, false, false, false, false, false, false, false, false, false, false, false, false, false, false, false, false, false, false, false, false, false, false, false, false, false, false, false] rfl rfl (by kernel_rfl) (fun _ _ _ h => h) (Or.inl ⟨by rfl, ?_⟩) ?_ ?_
          rotate_left
          · intro w'
            go_simp
            with_reducible rfl
          rotate_left
          · simp only [Act.put, List.setIfInBounds_toArray, List.set_cons_zero, List.set_cons_succ]
            rfl
          refine take_ (i := 10) (N := some 58) (v := ?_) (a' := ?_) #[true, true, true, true, true, true, false, true, true, true, true, false, false, false, false, false, false, false, false, false, false, false, false, false, false, false, false, false, false, false, false, false, false, false, false, false, false, false, false, false, false, false, false, false] rfl rfl (by kernel_rfl) (fun _ _ _ h => h) (Or.inl ⟨by rfl, ?_⟩) hHeld ?_ ?_
          rotate_left
          · rintro w' ⟨s0, s1⟩
            go_simp
            with_reducible rfl
          rotate_left
          · simp only [Act.put, List.setIfInBounds_toArray, List.set_cons_zero, List.set_cons_succ]
            rfl
          refine pure_ (i := 11) (N := some 59) (v := ?_) (a' := ?_) #[true, true, true, true, true, true, false, true, true, true, true, true, false, false, false, false, false, false, false, false, false, false, false, false, false, false, false, false, false, false, false, false, false, false, false, false, false, false, false, false, false, false, false, false] rfl rfl (by kernel_rfl) (fun _ _ _ h => h) (Or.inl ⟨by rfl, ?_⟩) ?_ ?_
          rotate_left
          · intro w'
            go_simp
            with_reducible rfl
          rotate_left
          · simp only [Act.put, List.setIfInBounds_toArray, List.set_cons_zero, List.set_cons_succ]
            rfl
          refine one_ (i := 6) (N := some 54) #[true, true, true, true, true, true, true, true, true, true, true, true, false, false, false, false, false, false, false, false, false, false, false, false, false, false, false, false, false, false, false, false, false, false, false, false, false, false, false, false, false, false, false, false] rfl rfl (by kernel_rfl) (by decide) (fun K hK => ?_)
          refine goes_ Tryd.func13 (by kernel_rfl) rfl #[.pointer (some ⟨g1, 0, none⟩)] (by rfl) rfl rfl (by simp only [List.map_toArray, List.map_cons, List.map_nil]; rfl) ?_
          with_reducible refine (HT5.out.lenw HM.out).mono ?_
          rintro e w6 ⟨rfl, hb6⟩
          refine ⟨_, rfl, ?_⟩
          have HB6 := Aside0.mk (below_next HB5.out hb6)
          have HT6 := Aside0.mk (HT5.out.below hb6)
          have t6_0 : w6.cell? (ad.add (k * 2)) = some (.int .u64 (N : Int)) := pw_cell_below hb6 t5_0
          have t6_1 : w6.cell? ⟨g2, 0, none⟩ = some (.slice A2 M c2) := pw_cell_below hb6 t5_1
          clear hb6
          refine hK.out _ _ ⟨t6_0, t6_1⟩ (fun hHeld => ?_)
          clear hK K
          refine norm_ (a' := ?_) ?_ ?_
          rotate_left
          · show Act.put _ (some 54) _ = _
            simp only [Act.put, List.setIfInBounds_toArray, List.set_cons_zero, List.set_cons_succ]
            rfl
          refine pure_ (i := 12) (N := some 60) (v := ?_) (a' := ?_) #[true, true, true, true, true, true, true, true, true, true, true, true, true, false, false, false, false, false, false, false, false, false, false, false, false, false, false, false, false, false, false, false, false, false, false, false, false, false, false, false, false, false, false, false] rfl rfl (by kernel_rfl) (fun _ _ _ h => h) (Or.inl ⟨by rfl, ?_⟩) ?_ ?_
          rotate_left
          · intro w'
            go_simp
            with_reducible rfl
          rotate_left
          · simp only [Act.put, List.setIfInBounds_toArray, List.set_cons_zero, List.set_cons_succ]
            rfl
          refine pure_ (i := 13) (N := some 61) (v := ?_) (a' := ?_) #[true, true, true, true, true, true, true, true, true, true, true, true, true, true, false, false, false, false, false, false, false, false, false, false, false, false, false, false, false, false, false, false, false, false, false, false, false, false, false, false, false, false, false, false] rfl rfl (by kernel_rfl) (fun _ _ _ h => h) (Or.inl ⟨by rfl, ?_⟩) ?_ ?_
          rotate_left
          · intro w'
            go_simp
            with_reducible rfl
          rotate_left
          · simp only [Act.put, List.setIfInBounds_toArray, List.set_cons_zero, List.set_cons_succ]
            rfl
          refine pure_ (i := 14) (N := some 62) (v := ?_) (a' := ?_) #[true, true, true, true, true, true, true, true, true, true, true, true, true, true, true, false, false, false, false, false, false, false, false, false, false, false, false, false, false, false, false, false, false, false, false, false, false, false, false, false, false, false, false, false] rfl rfl (by kernel_rfl) (fun _ _ _ h => h) (Or.inl ⟨by rfl, ?_⟩) ?_ ?_
          rotate_left
          · intro w'
            go_simp
            with_reducible rfl
          rotate_left
          · simp only [Act.put, List.setIfInBounds_toArray, List.set_cons_zero, List.set_cons_succ]
            rfl
          refine pure_ (i := 15) (N := some 63) (v := ?_) (a' := ?_) #[true, true, true, true, true, true, true, true, true, true, true, true, true, true, true, true, false, false, false, false, false, false, false, false, false, false, false, false, false, false, false, false, false, false, false, false, false, false, false, false, false, false, false, false] rfl rfl (by kernel_rfl) (fun _ _ _ h => h) (Or.inl ⟨by rfl, ?_⟩) ?_ ?_
          rotate_left
          · intro w'
            go_simp
            with_reducible rfl
          rotate_left
          · simp only [Act.put, List.setIfInBounds_toArray, List.set_cons_zero, List.set_cons_succ]
            rfl
          refine pure_ (i := 16) (N := some 64) (v := ?_) (a' := ?_) #[true, true, true, true, true, true, true, true, true, true, true, true, true, true, true, true, true, false, false, false, false, false, false, false, false, false, false, false, false, false, false, false, false, false, false, false, false, false, false, false, false, false, false, false] rfl rfl (by kernel_rfl) (fun _ _ _ h => h) (Or.inl ⟨by rfl, ?_⟩) ?_ ?_
          rotate_left
          · intro w'
            go_simp
            with_reducible rfl
          rotate_left
          · simp only [Act.put, List.setIfInBounds_toArray, List.set_cons_zero, List.set_cons_succ]
            rfl
          refine pure_ (i := 17) (N := some 65) (v := ?_) (a' := ?_) #[true, true, true, true, true, true, true, true, true, true, true, true, true, true, true, true, true, true, false, false, false, false, false, false, false, false, false, false, false, false, false, false, false, false, false, false, false, false, false, false, false, false, false, false] rfl rfl (by kernel_rfl) (fun _ _ _ h => h) (Or.inl ⟨by rfl, ?_⟩) ?_ ?_
          rotate_left
          · intro w'
            go_simp
            with_reducible rfl
          rotate_left
          · simp only [Act.put, List.setIfInBounds_toArray, List.set_cons_zero, List.set_cons_succ]
            rfl
          refine pure_ (i := 18) (N := some 66) (v := ?_) (a' := ?_) #[true, true, true, true, true, true, true, true, true, true, true, true, true, true, true, true, true, true, true, false, false, false, false, false, false, false, false, false, false, false, false, false, false, false, false, false, false, false, false, false, false, false, false, false] rfl rfl (by kernel_rfl) (fun _ _ _ h => h) (Or.inl ⟨by rfl, ?_⟩) ?_ ?_
          rotate_left
          · intro w'
            go_simp
            with_reducible rfl
          rotate_left
          · simp only [Act.put, List.setIfInBounds_toArray, List.set_cons_zero, List.set_cons_succ]
            rfl
          refine pure_ (i := 21) (N := some 69) (v := ?_) (a' := ?_) #[true, true, true, true, true, true, true, true, true, true, true, true, true, true, true, true, true, true, true, false, false, true, false, false, false, false, false, false, false, false, false, false, false, false, false, false, false, false, false, false, false, false, false, false] rfl rfl (by kernel_rfl) (fun _ _ _ h => h) (Or.inl ⟨by rfl, ?_⟩) ?_ ?_
          rotate_left
          · intro w'
            go_simp
            with_reducible rfl
          rotate_left
          · simp only [Act.put, List.setIfInBounds_toArray, List.set_cons_zero, List.set_cons_succ]
            rfl
          refine pure_ (i := 22) (N := some 70) (v := ?_) (a' := ?_) #[true, true, true, true, true, true, true, true, true, true, true, true, true, true, true, true, true, true, true, false, false, true, true, false, false, false, false, false, false, false, false, false, false, false, false, false, false, false, false, false, false, false, false, false] rfl rfl (by kernel_rfl) (fun _ _ _ h => h) (Or.inl ⟨by rfl, ?_⟩) ?_ ?_
          rotate_left
          · intro w'
            go_simp
            with_reducible rfl
          rotate_left
          · simp only [Act.put, List.setIfInBounds_toArray, List.set_cons_zero, List.set_cons_succ]
            rfl
          refine pure_ (i := 23) (N := some 71) (v := ?_) (a' := ?_) #[true, true, true, true, true, true, true, true, true, true, true, true, true, true, true, true, true, true, true, false, false, true, true, true, false, false, false, false, false, false, false, false, false, false, false, false, false, false, false, false, false, false, false, false] rfl rfl (by kernel_rfl) (fun _ _ _ h => h) (Or.inl ⟨by rfl, ?_⟩) ?_ ?_
          rotate_left
          · intro w'
            go_simp
            with_reducible rfl
          rotate_left
          · simp only [Act.put, List.setIfInBounds_toArray, List.set_cons_zero, List.set_cons_succ]
            rfl
          refine pure_ (i := 24) (N := some 72) (v := ?_) (a' := ?_) #[true, true, true, true, true, true, true, true, true, true, true, true, true, true, true, true, true, true, true, false, false, true, true, true, true, false, false, false, false, false, false, false, false, false, false, false, false, false, false, false, false, false, false, false] rfl rfl (by kernel_rfl) (fun _ _ _ h => h) (Or.inl ⟨by rfl, ?_⟩) ?_ ?_
          rotate_left
          · intro w'
            go_simp
            with_reducible rfl
          rotate_left
          · simp only [Act.put, List.setIfInBounds_toArray, List.set_cons_zero, List.set_cons_succ]
            rfl
          refine take_ (i := 19) (N := some 67) (v := ?_) (a' := ?_) #[true, true, true, true, true, true, true, true, true, true, true, true, true, true, true, true, true, true, true, true, false, true, true, true, true, false, false, false, false, false, false, false, false, false, false, false, false, false, false, false, false, false, false, false] rfl rfl (by kernel_rfl) (fun _ _ _ h => h) (Or.inl ⟨by rfl, ?_⟩) hHeld ?_ ?_
          rotate_left
          · rintro w' ⟨s0, s1⟩
            go_simp
            with_reducible rfl
          rotate_left
          · simp only [Act.put, List.setIfInBounds_toArray, List.set_cons_zero, List.set_cons_succ]
            rfl
          refine take_ (i := 25) (N := some 73) (v := ?_) (a' := ?_) #[true, true, true, true, true, true, true, true, true, true, true, true, true, true, true, true, true, true, true, true, false, true, true, true, true, true, false, false, false, false, false, false, false, false, false, false, false, false, false, false, false, false, false, false] rfl rfl (by kernel_rfl) (fun _ _ _ h => h) (Or.inl ⟨by rfl, ?_⟩) hHeld ?_ ?_
          rotate_left
          · rintro w' ⟨s0, s1⟩
            go_simp
            with_reducible rfl
          rotate_left
          · simp only [Act.put, List.setIfInBounds_toArray, List.set_cons_zero, List.set_cons_succ]
            rfl
          refine one_ (i := 20) (N := some 68) #[true, true, true, true, true, true, true, true, true, true, true, true, true, true, true, true, true, true, true, true, true, true, true, true, true, true, false, false, false, false, false, false, false, false, false, false, false, false, false, false, false, false, false, false] rfl rfl (by kernel_rfl) (by decide) (fun K hK => ?_)
          refine goes_ Tryd.func14 (by kernel_rfl) rfl #[.int .u64 (N : Int)] (by rfl) rfl rfl (by simp only [List.map_toArray, List.map_cons, List.map_nil]; rfl) ?_
          with_reducible refine (leadB N _ hN64).mono ?_
          rintro e w7 ⟨rfl, hb7⟩
          refine ⟨_, rfl, ?_⟩
          have HB7 := Aside0.mk (below_next HB6.out hb7)
          have HT7 := Aside0.mk (HT6.out.below hb7)
          have t7_0 : w7.cell? (ad.add (k * 2)) = some (.int .u64 (N : Int)) := pw_cell_below hb7 t6_0
          have t7_1 : w7.cell? ⟨g2, 0, none⟩ = some (.slice A2 M c2) := pw_cell_below hb7 t6_1
          clear hb7
          refine hK.out _ _ ⟨t7_0, t7_1⟩ (fun hHeld => ?_)
          clear hK K
          refine norm_ (a' := ?_) ?_ ?_
          rotate_left
          · show Act.put _ (some 68) _ = _
            simp only [Act.put, List.setIfInBounds_toArray, List.set_cons_zero, List.set_cons_succ]
            rfl
          refine one_ (i := 26) (N := some 74) #[true, true, true, true, true, true, true, true, true, true, true, true, true, true, true, true, true, true, true, true, true, true, true, true, true, true, true, false, false, false, false, false, false, false, false, false, false, false, false, false, false, false, false, false] rfl rfl (by kernel_rfl) (by decide) (fun K hK => ?_)
          refine goes_ Tryd.func15 (by kernel_rfl) rfl #[.int .u64 (N : Int)] (by rfl) rfl rfl (by simp only [List.map_toArray, List.map_cons, List.map_nil]; rfl) ?_
          with_reducible refine (rleadB N _ hN64).mono ?_
          rintro e w8 ⟨rfl, hb8⟩
          refine ⟨_, rfl, ?_⟩
          have HB8 := Aside0.mk (below_next HB7.out hb8)
          have HT8 := Aside0.mk (HT7.out.below hb8)
          have t8_0 : w8.cell? (ad.add (k * 2)) = some (.int .u64 (N : Int)) := pw_cell_below hb8 t7_0
          have t8_1 : w8.cell? ⟨g2, 0, none⟩ = some (.slice A2 M c2) := pw_cell_below hb8 t7_1
          clear hb8
          refine hK.out _ _ ⟨t8_0, t8_1⟩ (fun hHeld => ?_)
          clear hK K
          refine norm_ (a' := ?_) ?_ ?_
          rotate_left
          · show Act.put _ (some 74) _ = _
            simp only [Act.put, List.setIfInBounds_toArray, List.set_cons_zero, List.set_cons_succ]
            rfl
          refine pure_ (i := 27) (N := some 75) (v := ?_) (a' := ?_) #[true, true, true, true, true, true, true, true, true, true, true, true, true, true, true, true, true, true, true, true, true, true, true, true, true, true, true, true, false, false, false, false, false, false, false, false, false, false, false, false, false, false, false, false] rfl rfl (by kernel_rfl) (fun _ _ _ h => h) (Or.inl ⟨by rfl, ?_⟩) ?_ ?_
          rotate_left
          · intro w'
            go_simp
            with_reducible rfl
          rotate_left
          · simp only [Act.put, List.setIfInBounds_toArray, List.set_cons_zero, List.set_cons_succ]
            rfl
          refine pure_ (i := 28) (N := some 76) (v := ?_) (a' := ?_) #[true, true, true, true, true, true, true, true, true, true, true, true, true, true, true, true, true, true, true, true, true, true, true, true, true, true, true, true, true, false, false, false, false, false, false, false, false, false, false, false, false, false, false, false] rfl rfl (by kernel_rfl) (fun _ _ _ h => h) (Or.inl ⟨by rfl, ?_⟩) ?_ ?_
          rotate_left
          · intro w'
            go_simp
            with_reducible rfl
          rotate_left
          · simp only [Act.put, List.setIfInBounds_toArray, List.set_cons_zero, List.set_cons_succ]
            rfl
          refine pure_ (i := 29) (N := some 77) (v := ?_) (a' := ?_) #[true, true, true, true, true, true, true, true, true, true, true, true, true, true, true, true, true, true, true, true, true, true, true, true, true, true, true, true, true, true, false, false, false, false, false, false, false, false, false, false, false, false, false, false] rfl rfl (by kernel_rfl) (fun _ _ _ h => h) (Or.inl ⟨by rfl, ?_⟩) ?_ ?_
          rotate_left
          · intro w'
            go_simp
            with_reducible rfl
          rotate_left
          · simp only [Act.put, List.setIfInBounds_toArray, List.set_cons_zero, List.set_cons_succ]
            rfl
          refine pure_ (i := 30) (N := some 78) (v := ?_) (a' := ?_) #[true, true, true, true, true, true, true, true, true, true, true, true, true, true, true, true, true, true, true, true, true, true, true, true, true, true, true, true, true, true, true, false, false, false, false, false, false, false, false, false, false, false, false, false] rfl rfl (by kernel_rfl) (fun _ _ _ h => h) (Or.inl ⟨by rfl, ?_⟩) ?_ ?_
          rotate_left
          · intro w'
            go_simp
            with_reducible rfl
          rotate_left
          · simp only [Act.put, List.setIfInBounds_toArray, List.set_cons_zero, List.set_cons_succ]
            rfl
          refine pure_ (i := 31) (N := some 79) (v := ?_) (a' := ?_) #[true, true, true, true, true, true, true, true, true, true, true, true, true, true, true, true, true, true, true, true, true, true, true, true, true, true, true, true, true, true, true, true, false, false, false, false, false, false, false, false, false, false, false, false] rfl rfl (by kernel_rfl) (fun _ _ _ h => h) (Or.inl ⟨by rfl, ?_⟩) ?_ ?_
          rotate_left
          · intro w'
            go_simp
            with_reducible rfl
          rotate_left
          · simp only [Act.put, List.setIfInBounds_toArray, List.set_cons_zero, List.set_cons_succ]
            rfl
          refine pure_ (i := 32) (N := some 80) (v := ?_) (a' := ?_) #[true, true, true, true, true, true, true, true, true, true, true, true, true, true, true, true, true, true, true, true, true, true, true, true, true, true, true, true, true, true, true, true, true, false, false, false, false, false, false, false, false, false, false, false] rfl rfl (by kernel_rfl) (fun _ _ _ h => h) (Or.inl ⟨by rfl, ?_⟩) ?_ ?_
          rotate_left
          · intro w'
            go_simp
            with_reducible rfl
          rotate_left
          · simp only [Act.put, List.setIfInBounds_toArray, List.set_cons_zero, List.set_cons_succ]
            rfl
          refine pure_ (i := 33) (N := some 81) (v := ?_) (a' := ?_) #[true, true, true, true, true, true, true, true, true, true, true, true, true, true, true, true, true, true, true, true, true, true, true, true, true, true, true, true, true, true, true, true, true, true, false, false, false, false, false, false, false, false, false, false] rfl rfl (by kernel_rfl) (fun _ _ _ h => h) (Or.inl ⟨by rfl, ?_⟩) ?_ ?_
          rotate_left
          · intro w'
            go_simp
            with_reducible rfl
          rotate_left
          · simp only [Act.put, List.setIfInBounds_toArray, List.set_cons_zero, List.set_cons_succ]
            rfl
          refine pure_ (i := 36) (N := some 84) (v := ?_) (a' := ?_) #[true, true, true, true, true, true, true, true, true, true, true, true, true, true, true, true, true, true, true, true, true, true, true, true, true, true, true, true, true, true, true, true, true, true, false, false, true, false, false, false, false, false, false, false] rfl rfl (by kernel_rfl) (fun _ _ _ h => h) (Or.inl ⟨by rfl, ?_⟩) ?_ ?_
          rotate_left
          · intro w'
            go_simp
            with_reducible rfl
          rotate_left
          · simp only [Act.put, List.setIfInBounds_toArray, List.set_cons_zero, List.set_cons_succ]
            rfl
          refine pure_ (i := 37) (N := some 85) (v := ?_) (a' := ?_) #[true, true, true, true, true, true, true, true, true, true, true, true, true, true, true, true, true, true, true, true, true, true, true, true, true, true, true, true, true, true, true, true, true, true, false, false, true, true, false, false, false, false, false, false] rfl rfl (by kernel_rfl) (fun _ _ _ h => h) (Or.inl ⟨by rfl, ?_⟩) ?_ ?_
          rotate_left
          · intro w'
            go_simp
            with_reducible rfl
          rotate_left
          · simp only [Act.put, List.setIfInBounds_toArray, List.set_cons_zero, List.set_cons_succ]
            rfl
          refine pure_ (i := 38) (N := some 86) (v := ?_) (a' := ?_) #[true, true, true, true, true, true, true, true, true, true, true, true, true, true, true, true, true, true, true, true, true, true, true, true, true, true, true, true, true, true, true, true, true, true, false, false, true, true, true, false, false, false, false, false] rfl rfl (by kernel_rfl) (fun _ _ _ h => h) (Or.inl ⟨by rfl, ?_⟩) ?_ ?_
          rotate_left
          · intro w'
            go_simp
            with_reducible rfl
          rotate_left
          · simp only [Act.put, List.setIfInBounds_toArray, List.set_cons_zero, List.set_cons_succ]
            rfl
          refine pure_ (i := 39) (N := some 87) (v := ?_) (a' := ?_) #[true, true, true, true, true, true, true, true, true, true, true, true, true, true, true, true, true, true, true, true, true, true, true, true, true, true, true, true, true, true, true, true, true, true, false, false, true, true, true, true, false, false, false, false] rfl rfl (by kernel_rfl) (fun _ _ _ h => h) (Or.inl ⟨by rfl, ?_⟩) ?_ ?_
          rotate_left
          · intro w'
            go_simp
            with_reducible rfl
          rotate_left
          · simp only [Act.put, List.setIfInBounds_toArray, List.set_cons_zero, List.set_cons_succ]
            rfl
          refine take_ (i := 34) (N := some 82) (v := ?_) (a' := ?_) #[true, true, true, true, true, true, true, true, true, true, true, true, true, true, true, true, true, true, true, true, true, true, true, true, true, true, true, true, true, true, true, true, true, true, true, false, true, true, true, true, false, false, false, false] rfl rfl (by kernel_rfl) (fun _ _ _ h => h) (Or.inl ⟨by rfl, ?_⟩) hHeld ?_ ?_
          rotate_left
          · rintro w' ⟨s0, s1⟩
            go_simp
            with_reducible rfl
          rotate_left
          · simp only [Act.put, List.setIfInBounds_toArray, List.set_cons_zero, List.set_cons_succ]
            rfl
          refine take_ (i := 40) (N := some 88) (v := ?_) (a' := ?_) #[true, true, true, true, true, true, true, true, true, true, true, true, true, true, true, true, true, true, true, true, true, true, true, true, true, true, true, true, true, true, true, true, true, true, true, false, true, true, true, true, true, false, false, false] rfl rfl (by kernel_rfl) (fun _ _ _ h => h) (Or.inl ⟨by rfl, ?_⟩) hHeld ?_ ?_
          rotate_left
          · rintro w' ⟨s0, s1⟩
            go_simp
            with_reducible rfl
          rotate_left
          · simp only [Act.put, List.setIfInBounds_toArray, List.set_cons_zero, List.set_cons_succ]
            rfl
          refine one_ (i := 35) (N := some 83) #[true, true, true, true, true, true, true, true, true, true, true, true, true, true, true, true, true, true, true, true, true, true, true, true, true, true, true, true, true, true, true, true, true, true, true, true, true, true, true, true, true, false, false, false] rfl rfl (by kernel_rfl) (by decide) (fun K hK => ?_)
          refine goes_ Tryd.func16 (by kernel_rfl) rfl #[.int .u64 (N : Int)] (by rfl) rfl rfl (by simp only [List.map_toArray, List.map_cons, List.map_nil]; rfl) ?_
          with_reducible refine (trailB N _ hN64).mono ?_
          rintro e w9 ⟨rfl, hb9⟩
          refine ⟨_, rfl, ?_⟩
          have HB9 := Aside0.mk (below_next HB8.out hb9)
          have HT9 := Aside0.mk (HT8.out.below hb9)
          have t9_0 : w9.cell? (ad.add (k * 2)) = some (.int .u64 (N : Int)) := pw_cell_below hb9 t8_0
          have t9_1 : w9.cell? ⟨g2, 0, none⟩ = some (.slice A2 M c2) := pw_cell_below hb9 t8_1
          clear hb9
          refine hK.out _ _ ⟨t9_0, t9_1⟩ (fun hHeld => ?_)
          clear hK K
          refine norm_ (a' := ?_) ?_ ?_
          rotate_left
          · show Act.put _ (some 83) _ = _
            simp only [Act.put, List.setIfInBounds_toArray, List.set_cons_zero, List.set_cons_succ]
            rfl
          refine one_ (i := 41) (N := some 89) #[true, true, true, true, true, true, true, true, true, true, true, true, true, true, true, true, true, true, true, true, true, true, true, true, true, true, true, true, true, true, true, true, true, true, true, true, true, true, true, true, true, true, false, false] rfl rfl (by kernel_rfl) (by decide) (fun K hK => ?_)
          refine goes_ Tryd.func17 (by kernel_rfl) rfl #[.int .u64 (N : Int)] (by rfl) rfl rfl (by simp only [List.map_toArray, List.map_cons, List.map_nil]; rfl) ?_
          with_reducible refine (rtrailB N _ hN64).mono ?_
          rintro e w10 ⟨rfl, hb10⟩
          refine ⟨_, rfl, ?_⟩
          have HB10 := Aside0.mk (below_next HB9.out hb10)
          have HT10 := Aside0.mk (HT9.out.below hb10)
          have t10_0 : w10.cell? (ad.add (k * 2)) = some (.int .u64 (N : Int)) := pw_cell_below hb10 t9_0
          have t10_1 : w10.cell? ⟨g2, 0, none⟩ = some (.slice A2 M c2) := pw_cell_below hb10 t9_1
          clear hb10
          refine hK.out _ _ ⟨t10_0, t10_1⟩ (fun hHeld => ?_)
          clear hK K
          refine norm_ (a' := ?_) ?_ ?_
          rotate_left
          · show Act.put _ (some 89) _ = _
            simp only [Act.put, List.setIfInBounds_toArray, List.set_cons_zero, List.set_cons_succ]
            rfl
          refine pure_ (i := 42) (N := some 90) (v := ?_) (a' := ?_) #[true, true, true, true, true, true, true, true, true, true, true, true, true, true, true, true, true, true, true, true, true, true, true, true, true, true, true, true, true, true, true, true, true, true, true, true, true, true, true, true, true, true, true, false] rfl rfl (by kernel_rfl) (fun _ _ _ h => h) (Or.inl ⟨by rfl, ?_⟩) ?_ ?_
          rotate_left
          · intro w'
            go_simp
            with_reducible rfl
          rotate_left
          · simp only [Act.put, List.setIfInBounds_toArray, List.set_cons_zero, List.set_cons_succ]
            rfl
          refine pure_ (i := 43) (N := some 91) (v := ?_) (a' := ?_) #[true, true, true, true, true, true, true, true, true, true, true, true, true, true, true, true, true, true, true, true, true, true, true, true, true, true, true, true, true, true, true, true, true, true, true, true, true, true, true, true, true, true, true, true] rfl rfl (by kernel_rfl) (fun _ _ _ h => h) (Or.inl ⟨by rfl, ?_⟩) ?_ ?_
          rotate_left
          · intro w'
            go_simp
            with_reducible rfl
          rotate_left
          · simp only [Act.put, List.setIfInBounds_toArray, List.set_cons_zero, List.set_cons_succ]
            rfl
          refine done_ (by kernel_rfl) ?_
          go_wp2_with fail
          go_roundw
          case rel => exact ⟨k + 1, L, by go_num, by omega, by rw [HM.out]; omega, HT10, HB10⟩
          case measure => simp [intOf]; omega
      · obtain rfl : k = l.length := by omega
        have hLl : L.length ≤ 1000000000 := by omega
        go_wp2_with fail
        refine (bits_first _).mono ?_
        rintro e w2 ⟨rfl, hb⟩
        have HT2 := Aside0.mk (HT0.out.below hb)
        have HB2 := Aside0.mk (below_next HB0.out hb)
        clear hb HT0 HB0 HBW
        go_wp2_with fail
        refine HT2.out.strw.mono ?_
        rintro e w3 ⟨rfl, hw⟩
        subst w3
        go_wp2_with fail
        refine (HT2.out.textr hLl).mono ?_
        rintro e w3 ⟨rfl, hb⟩
        have HB3 := Aside0.mk (below_next HB2.out hb)
        clear hb
        generalize st (pk L) = T at *
        go_wp2_with fail
        go_ret
        exact ⟨rfl, below_next HB1.out HB3.out⟩
end Go.Proofs.YtodhnmflabehhaaDoor
