import Derived.Test.YtipgdjjmmfkfiaaUtfFirst
import Derived.Test.YtipgdjjmmfkfiaaUtfSP
import Derived.Below
namespace Go.Proofs.Ytipgdjjmmfkfiaa
open Go.RowKit Go.Proofs.YtipgdjjmmfkfiaaW.PrintWords Hy

/-- string([]byte{0xed, y, z}) -/
theorem conv3 (y z : Int) (W : World) (n : Nat) : (convert 24 9 (.slice (some ⟨W.heap.size, 0, none⟩) 3 3)).run Try.prog ((W.drewN n).alloc (.cells #[.int .u8 237, .int .u8 y, .int .u8 z] 5)) = .ok (.string (st [237, y.toNat, z.toNat])) ((W.drewN n).alloc (.cells #[.int .u8 237, .int .u8 y, .int .u8 z] 5)) := by
  have h := own_lit (W.drewN n) 0 5 .u8 [237, y, z] (by omega) (by simp)
  have h2 := own_string (P := Try.prog) Try.underlying24 Try.underlying5 Try.underlying9 h
  exact h2
theorem sur_byte (x : Int) (h0 : 0 ≤ x) (h1 : x < 9223372036854775808) : Go.bits .or .i64 128 (Go.bits .and .i64 x 63) % 256 = 128 + x % 64 := by
  rw [show Go.bits .and .i64 x 63 = x % 64 from bits_mask .i64 63 (by decide) (fun n a b => wrap_small n a (by omega)) 6 (by decide) x h0 (by omega)]
  obtain ⟨n, hn⟩ := Int.eq_ofNat_of_zero_le (show 0 ≤ x % 64 by omega)
  rw [hn, show (128 : Int) = ((128 : Nat) : Int) from rfl, or_nat .i64 63 (by decide) (fun n a b => wrap_small n a (by omega)) 128 n (by decide) (by omega)]
  have h : ∀ m : Fin 64, 128 ||| m.val = 128 + m.val := by decide +kernel
  have := h ⟨n, by omega⟩
  simp only at this
  rw [this]; omega
set_option maxHeartbeats 4000000 in
theorem utfSigns_walk (c : Int) (s : ByteArray) (cut : Int) (w : World) (hc0 : -9223372036854775808 ≤ c) (hc1 : c < 9223372036854775808) (hs : s.size ≤ 140737488351232) (hk0 : -9223372036854775808 ≤ cut) (hk1 : cut < 9223372036854775808) :
    Calls Try.prog 3 #[.int .i64 c, .string s, .int .i64 cut] w fun e w' => e = .returned (.bool true) ∧ Below w.heap.size w w' := by
  have HB := Aside0.mk (Below.refl w.heap.size w)
  by_cases hg : (decide (4000 < (s.size : Int)) || decide (c < 0) || decide (1114111 < c) || decide (cut < 0)) = true
  · go_enter Try.func3, Try.ntmps3
    go_wp2_with (first
      | (go_at_call 5; refine (utf_first _).mono ?_; rintro e wd ⟨rfl, ⟨nd, rfl⟩⟩))
    all_goals (go_ret; exact ⟨rfl, (by repeat (first | (with_reducible exact HB.out) | apply below_alloc | apply pw_below_drewN | apply below_drew1))⟩)
  · have g1 : (s.size : Int) ≤ 4000 := by simp at hg; omega
    have g2 : 0 ≤ c := by simp at hg; omega
    have g3 : c ≤ 1114111 := by simp at hg; omega
    have g4 : 0 ≤ cut := by simp at hg; omega
    have d1 : decide (4000 < (s.size : Int)) = false := by simp; omega
    have d2 : decide (c < 0) = false := by simp; omega
    have d3 : decide (1114111 < c) = false := by simp; omega
    have d4 : decide (cut < 0) = false := by simp; omega
    clear hg
    by_cases hsur : 55296 ≤ c ∧ c ≤ 57343
    · have e1 := hsur.1
      have e2 := hsur.2
      clear hsur
      have y1 := sur_byte (c / 64) (by omega) (by omega)
      have z1 := sur_byte c (by omega) (by omega)
      have hbs : bs (st [237, (Go.bits .or .i64 128 (Go.bits .and .i64 (c / 64) 63) % 256).toNat, (Go.bits .or .i64 128 (Go.bits .and .i64 c 63) % 256).toNat]) = [237, (128 + c / 64 % 64).toNat, (128 + c % 64).toNat] := by
        rw [y1, z1]
        exact bs_st _ (by intro x hx; simp only [List.mem_cons, List.not_mem_nil, or_false] at hx; omega)
      have hsg : sgn [237, (128 + c / 64 % 64).toNat, (128 + c % 64).toNat] = 0 := sgn_sec _ (by simp only [List.getD_cons_zero]; decide) (by
        simp only [List.getD_cons_zero, List.getD_cons_succ]
        unfold sec; rw [if_neg (by decide), if_pos rfl, decide_eq_false (by omega)]; rfl)
      have V1 := fun w => valid_any (st [237, (Go.bits .or .i64 128 (Go.bits .and .i64 (c / 64) 63) % 256).toNat, (Go.bits .or .i64 128 (Go.bits .and .i64 c 63) % 256).toNat]) w (by rw [st_size]; simp)
      unfold vldV at V1
      rw [hbs, vld_bad _ hsg (by simp)] at V1
      have B1 := fun w => bad_any (st [237, (Go.bits .or .i64 128 (Go.bits .and .i64 (c / 64) 63) % 256).toNat, (Go.bits .or .i64 128 (Go.bits .and .i64 c 63) % 256).toNat]) w (by rw [st_size]; simp)
      unfold badV badI at B1
      rw [hbs, whl_stop _ _ (.inl hsg), if_neg (by simp)] at B1
      have hcv := conv3 (Go.bits .or .i64 128 (Go.bits .and .i64 (c / 64) 63) % 256) (Go.bits .or .i64 128 (Go.bits .and .i64 c 63) % 256)
      clear hbs hsg y1 z1
      go_enter Try.func3, Try.ntmps3
      go_wp2_with (first
        | (go_at_call 5; refine (utf_first _).mono ?_; rintro e wd ⟨rfl, ⟨nd, rfl⟩⟩)
        | (go_at_call 6; refine (V1 _).mono ?_; rintro e wd ⟨rfl, ⟨nd, rfl⟩⟩)
        | (go_at_call 7; refine (B1 _).mono ?_; rintro e wd ⟨rfl, ⟨nd, rfl⟩⟩))
      go_ret
      exact ⟨rfl, (by repeat (first | (with_reducible exact HB.out) | apply below_alloc | apply pw_below_drewN | apply below_drew1))⟩
    · have f1 : decide (55296 ≤ c) = true → decide (c ≤ 57343) = false := by simp; omega
      obtain ⟨o1, o2, o3, o4, o5⟩ := enc_sgn c.toNat (by omega) (by omega)
      have hbe := encode_bs c g2 g3 (by omega)
      obtain ⟨L, hL⟩ : ∃ L, (enc c.toNat).length = L := ⟨_, rfl⟩
      have hsz : (Utf8.encode c).size = L := by rw [← bs_length, hbe, hL]
      have hone : enc c.toNat ≠ [] := List.length_pos_iff.1 (by omega)
      rw [hL] at o1 o3 o4 o5
      have ho1 : sgn (enc c.toNat) = (enc c.toNat).length := by rw [hL]; exact o1
      have v1 : vld (enc c.toNat) = true := by have := vld_sign_append (enc c.toNat) [] ho1 hone; rw [List.append_nil] at this; rw [this]; exact vld_nil
      have V1 := fun w => valid_any (Utf8.encode c) w (by omega)
      unfold vldV at V1
      rw [hbe, v1] at V1
      have V2 := fun w => valid_any s w hs
      unfold vldV at V2
      have V3 := fun w => valid_any (s ++ Utf8.encode c) w (by rw [ByteArray.size_append]; omega)
      unfold vldV at V3
      rw [bs_append, hbe, vld_append_sign _ ho1 hone o2 _ _ (Nat.le_refl _)] at V3
      have V4 := fun w => valid_any (Utf8.encode c ++ s) w (by rw [ByteArray.size_append]; omega)
      unfold vldV at V4
      rw [bs_append, hbe, vld_sign_append _ _ ho1 hone] at V4
      generalize vld (bs s) = b at V2 V3 V4
      obtain ⟨K, hK⟩ := Int.eq_ofNat_of_zero_le (show 0 ≤ cut % (L : Int) by exact Int.emod_nonneg _ (by omega))
      have hKL : K < L := by have := Int.emod_lt_of_pos cut (show (0 : Int) < (L : Int) by omega); omega
      have hKL2 : (K : Int) ≤ (L : Int) := by omega
      have C5 := fun w => clip_any (Utf8.encode c) (K : Int) w (by omega) (by omega)
      unfold clipV clip at C5
      rw [hbe, whl_stop _ _ (.inr (by omega)), show (Utf8.encode c).extract 0 0 = ⟨#[]⟩ by simp; rfl] at C5
      by_cases hK0 : K = 0
      · subst hK0
        clear f1 hbe hL hone o1 o2 o4 ho1 v1
        by_cases h5 : 55296 ≤ c
        · have h6 : ¬ c ≤ 57343 := fun e => hsur ⟨h5, e⟩
          have h7 : decide (c ≤ 57343) = false := decide_eq_false h6
          clear hsur
          go_enter Try.func3, Try.ntmps3
          go_wp2_with (first
            | (go_at_call 5; refine (utf_first _).mono ?_; rintro e wd ⟨rfl, ⟨nd, rfl⟩⟩)
            | (go_at_call 6; refine (V1 _).mono ?_; rintro e wd ⟨rfl, ⟨nd, rfl⟩⟩)
            | (go_at_call 6; refine (V2 _).mono ?_; rintro e wd ⟨rfl, ⟨nd, rfl⟩⟩)
            | (go_at_call 6; refine (V3 _).mono ?_; rintro e wd ⟨rfl, ⟨nd, rfl⟩⟩)
            | (go_at_call 6; refine (V4 _).mono ?_; rintro e wd ⟨rfl, ⟨nd, rfl⟩⟩)
            | (go_at_call 8; refine (C5 _).mono ?_; rintro e wd ⟨rfl, ⟨nd, rfl⟩⟩))
          go_ret
          exact ⟨rfl, (by repeat (first | (with_reducible exact HB.out) | apply below_alloc | apply pw_below_drewN | apply below_drew1))⟩
        · clear hsur
          go_enter Try.func3, Try.ntmps3
          go_wp2_with (first
            | (go_at_call 5; refine (utf_first _).mono ?_; rintro e wd ⟨rfl, ⟨nd, rfl⟩⟩)
            | (go_at_call 6; refine (V1 _).mono ?_; rintro e wd ⟨rfl, ⟨nd, rfl⟩⟩)
            | (go_at_call 6; refine (V2 _).mono ?_; rintro e wd ⟨rfl, ⟨nd, rfl⟩⟩)
            | (go_at_call 6; refine (V3 _).mono ?_; rintro e wd ⟨rfl, ⟨nd, rfl⟩⟩)
            | (go_at_call 6; refine (V4 _).mono ?_; rintro e wd ⟨rfl, ⟨nd, rfl⟩⟩)
            | (go_at_call 8; refine (C5 _).mono ?_; rintro e wd ⟨rfl, ⟨nd, rfl⟩⟩))
          go_ret
          exact ⟨rfl, (by repeat (first | (with_reducible exact HB.out) | apply below_alloc | apply pw_below_drewN | apply below_drew1))⟩
      · have hKb : ((K : Int) == 0) = false := by rw [beq_eq_false_iff_ne]; omega
        have hbt : bs ((Utf8.encode c).extract 0 K) = (enc c.toNat).take K := by rw [bs_extract, List.drop_zero, hbe]
        have hhd : ((enc c.toNat).take K).getD 0 0 = (enc c.toNat).getD 0 0 := by
          rw [List.getD_eq_getElem?_getD, List.getElem?_take_of_lt (by omega), ← List.getD_eq_getElem?_getD]
        have hsg : sgn ((enc c.toNat).take K) = 0 := sgn_short _ (by rw [hhd, o4, List.length_take]; omega)
        have hlt : ((enc c.toNat).take K).length = K := by rw [List.length_take]; omega
        have hnt : (enc c.toNat).take K ≠ [] := by intro e; rw [e] at hlt; simp at hlt; omega
        have V5 := fun w => valid_any ((Utf8.encode c).extract 0 K) w (by rw [ByteArray.size_extract]; omega)
        unfold vldV at V5
        rw [hbt, vld_bad _ hsg hnt] at V5
        have B5 := fun w => bad_any ((Utf8.encode c).extract 0 K) w (by rw [ByteArray.size_extract]; omega)
        unfold badV badI at B5
        rw [hbt, whl_stop _ _ (.inl hsg), hlt, if_neg (by omega)] at B5
        clear f1 hbe hL hone o1 o2 o4 ho1 v1 hbt hhd hsg hlt hnt
        by_cases h5 : 55296 ≤ c
        · have h6 : ¬ c ≤ 57343 := fun e => hsur ⟨h5, e⟩
          have h7 : decide (c ≤ 57343) = false := decide_eq_false h6
          clear hsur
          go_enter Try.func3, Try.ntmps3
          go_wp2_with (first
            | (go_at_call 5; refine (utf_first _).mono ?_; rintro e wd ⟨rfl, ⟨nd, rfl⟩⟩)
            | (go_at_call 6; refine (V1 _).mono ?_; rintro e wd ⟨rfl, ⟨nd, rfl⟩⟩)
            | (go_at_call 6; refine (V2 _).mono ?_; rintro e wd ⟨rfl, ⟨nd, rfl⟩⟩)
            | (go_at_call 6; refine (V3 _).mono ?_; rintro e wd ⟨rfl, ⟨nd, rfl⟩⟩)
            | (go_at_call 6; refine (V4 _).mono ?_; rintro e wd ⟨rfl, ⟨nd, rfl⟩⟩)
            | (go_at_call 6; refine (V5 _).mono ?_; rintro e wd ⟨rfl, ⟨nd, rfl⟩⟩)
            | (go_at_call 7; refine (B5 _).mono ?_; rintro e wd ⟨rfl, ⟨nd, rfl⟩⟩)
            | (go_at_call 8; refine (C5 _).mono ?_; rintro e wd ⟨rfl, ⟨nd, rfl⟩⟩))
          go_ret
          exact ⟨rfl, (by repeat (first | (with_reducible exact HB.out) | apply below_alloc | apply pw_below_drewN | apply below_drew1))⟩
        · clear hsur
          go_enter Try.func3, Try.ntmps3
          go_wp2_with (first
            | (go_at_call 5; refine (utf_first _).mono ?_; rintro e wd ⟨rfl, ⟨nd, rfl⟩⟩)
            | (go_at_call 6; refine (V1 _).mono ?_; rintro e wd ⟨rfl, ⟨nd, rfl⟩⟩)
            | (go_at_call 6; refine (V2 _).mono ?_; rintro e wd ⟨rfl, ⟨nd, rfl⟩⟩)
            | (go_at_call 6; refine (V3 _).mono ?_; rintro e wd ⟨rfl, ⟨nd, rfl⟩⟩)
            | (go_at_call 6; refine (V4 _).mono ?_; rintro e wd ⟨rfl, ⟨nd, rfl⟩⟩)
            | (go_at_call 6; refine (V5 _).mono ?_; rintro e wd ⟨rfl, ⟨nd, rfl⟩⟩)
            | (go_at_call 7; refine (B5 _).mono ?_; rintro e wd ⟨rfl, ⟨nd, rfl⟩⟩)
            | (go_at_call 8; refine (C5 _).mono ?_; rintro e wd ⟨rfl, ⟨nd, rfl⟩⟩))
          go_ret
          exact ⟨rfl, (by repeat (first | (with_reducible exact HB.out) | apply below_alloc | apply pw_below_drewN | apply below_drew1))⟩
end Go.Proofs.Ytipgdjjmmfkfiaa
