import Derived.Test.YtodhnmflabehhaaDoorMsyosqzhj
import Derived.Deep.RegionHeld3
namespace Go.Proofs.YtodhnmflabehhaaDoor
open Go.RowKit Go.Proofs.YtodhnmflabehhaaDoorW.PrintWords Go.Proofs.YtodhnmflabehhaaDoorW.PrintLast Go.Proofs.YtodhnmflabehhaaDoorW.PrintMore Hy

theorem xdiff_bad (B g r : Nat) (s : ByteArray) (a : Nat) (w : World) (hs : s.size ≤ 140737488351232) (ha : a ≤ 8 * s.size) (hbad : ∀ x R, x < 18446744073709551616 → (unp (bs s)).drop a ≠ encD x ++ R) (h : XAt B g r s a .nilIface w) :
    Calls Tryd.prog 40 #[.pointer (some ⟨r, 0, none⟩)] w (XBad B g r s w) := by
  obtain ⟨f, hf⟩ : ∃ f, 8 * s.size - a = f := ⟨_, rfl⟩
  have hlen : ((unp (bs s)).drop a).length = f := by rw [List.length_drop, unp_length, bs_length, hf]
  cases hd : (unp (bs s)).drop a with
  | nil => rw [hd] at hlen; exact xdiff_bad0 B g r s a w hs (by simp at hlen; omega) h
  | cons b D =>
    rw [hd] at hlen
    simp only [List.length_cons] at hlen
    cases b with
    | false => exact absurd (by rw [hd]; rfl) (hbad 0 D (by omega))
    | true =>
      have h1 : (unp (bs s)).drop (a + 1) = D := by rw [← List.drop_drop, hd]; rfl
      have v6 : ∀ L : List Bool, val (L.take 6) < 64 := fun L => Nat.lt_of_lt_of_le (val_lt _) (Nat.pow_le_pow_right (n := 2) (by omega) (by rw [List.length_take]; omega : (L.take 6).length ≤ 6))
      by_cases c1 : f ≤ 6
      · exact xdiff_bad1 B g r s a f w hs (by omega) (by omega) c1 ⟨_, hd⟩ h
      · by_cases c2 : f ≤ 12
        · exact xdiff_bad2 B g r s a f _ w hs (by omega) (by omega) c2 ⟨_, hd⟩ rfl (v6 _) h
        · have h2 : (unp (bs s)).drop (a + 1 + 6) = D.drop 6 := by rw [← List.drop_drop, h1]
          have h3 : (unp (bs s)).drop (a + 1 + 6 + 6) = (D.drop 6).drop 6 := by rw [← List.drop_drop, h2]
          obtain ⟨L, hL⟩ : ∃ L, val (D.take 6) = L := ⟨_, rfl⟩
          obtain ⟨S1, hS⟩ : ∃ S1, val ((D.drop 6).take 6) = S1 := ⟨_, rfl⟩
          have hL6 : L < 64 := hL ▸ v6 D
          have hS6 : S1 < 64 := hS ▸ v6 (D.drop 6)
          by_cases c3 : 64 < L + S1 + 1
          · exact xdiff_bad3 B g r s a L S1 w hs (by omega) ⟨_, hd⟩ (by rw [h1, hL]) hL6 (by rw [h2, hS]) hS6 c3 h
          · by_cases c4 : f < 13 + (S1 + 1)
            · exact xdiff_bad4 B g r s a f L S1 w hs (by omega) (by omega) ⟨_, hd⟩ (by rw [h1, hL]) hL6 (by rw [h2, hS]) hS6 (by omega) c4 h
            · obtain ⟨E, hE⟩ : ∃ E, (D.drop 6).drop 6 = E := ⟨_, rfl⟩
              have hEl : E.length = f - 13 := by rw [← hE, List.length_drop, List.length_drop]; omega
              obtain ⟨v, hv⟩ : ∃ v, val (E.take (S1 + 1)) = v := ⟨_, rfl⟩
              have hvl : v < 2 ^ (S1 + 1) := by rw [← hv]; exact Nat.lt_of_lt_of_le (val_lt _) (Nat.pow_le_pow_right (by omega) (by rw [List.length_take]; omega))
              have hx64 : v * 2 ^ (63 - L - S1) < 18446744073709551616 := by
                calc v * 2 ^ (63 - L - S1) < 2 ^ (S1 + 1) * 2 ^ (63 - L - S1) := Nat.mul_lt_mul_of_pos_right hvl (Nat.two_pow_pos _)
                  _ = 2 ^ (S1 + 1 + (63 - L - S1)) := by rw [← Nat.pow_add]
                  _ ≤ 2 ^ 64 := Nat.pow_le_pow_right (by omega) (by omega)
                  _ = 18446744073709551616 := rfl
              by_cases c5 : lead (v * 2 ^ (63 - L - S1)) = L ∧ trail (v * 2 ^ (63 - L - S1)) = 63 - L - S1
              · exfalso
                refine hbad _ (E.drop (S1 + 1)) hx64 ?_
                have hx0 : v * 2 ^ (63 - L - S1) ≠ 0 := by
                  intro e0
                  rw [e0] at c5
                  have := c5.1
                  simp [lead] at this
                  omega
                unfold encD
                rw [if_neg hx0, c5.1, c5.2, Nat.mul_div_cancel _ (Nat.two_pow_pos _), hd, show 63 - L - (63 - L - S1) = S1 by omega, show 64 - L - (63 - L - S1) = S1 + 1 by omega]
                have t1 : bitsOf L 6 = D.take 6 := by
                  have := bitsOf_val (D.take 6)
                  rw [hL, List.length_take, Nat.min_eq_left (by omega)] at this; exact this
                have t2 : bitsOf S1 6 = (D.drop 6).take 6 := by
                  have := bitsOf_val ((D.drop 6).take 6)
                  rw [hS, List.length_take, List.length_drop, Nat.min_eq_left (by omega)] at this; exact this
                have t3 : bitsOf v (S1 + 1) = E.take (S1 + 1) := by
                  have := bitsOf_val (E.take (S1 + 1))
                  rw [hv, List.length_take, Nat.min_eq_left (by omega)] at this; exact this
                rw [t1, t2, t3]
                simp only [List.cons_append, List.append_assoc, List.cons.injEq, true_and]
                rw [List.take_append_drop, ← hE, List.take_append_drop, List.take_append_drop]
              · exact xdiff_bad5 B g r s a L S1 v _ w hs (by omega) ⟨_, hd⟩ (by rw [h1, hL]) hL6 (by rw [h2, hS]) hS6 (by omega) (by rw [h3, hE, hv]) rfl hx64 (by
                  by_cases hl : lead (v * 2 ^ (63 - L - S1)) = L
                  · exact .inr (fun e => c5 ⟨hl, e⟩)
                  · exact .inl hl) h
end Go.Proofs.YtodhnmflabehhaaDoor
namespace Go.Proofs.YtodhnmflabehhaaDoor
open Go.RowKit Go.Proofs.YtodhnmflabehhaaDoorW.PrintWords Go.Proofs.YtodhnmflabehhaaDoorW.PrintLast Go.Proofs.YtodhnmflabehhaaDoorW.PrintMore Hy

/-- What a column's reading comes to. -/
def XGot (s : ByteArray) (n : Nat) (w : World) (e : Ending) (w' : World) : Prop :=
  (∃ (l : List Int) (A : Option Addr) (c : Nat), e = .returned (.tuple #[.slice A l.length c, .nilIface]) ∧ ColX s n (nat l) ∧ (∀ x ∈ l, 0 ≤ x ∧ x < 18446744073709551616) ∧ Kd.C (Kd.int .u64) w' A l.length l ∧ l.length ≤ c ∧ Below w.heap.size w w') ∨
  ((∀ m, ¬ ColX s n m) ∧ ∃ T x, e = .returned (.tuple #[.slice none 0 0, .iface T x]) ∧ Below w.heap.size w w')
/-- How far it has come. -/
def XSt (s : ByteArray) (n : Nat) (l : List Int) (a : Nat) (ev : Value) : Prop :=
  (ev = .nilIface ∧ unp (bs s) = encL (nat l) ++ (unp (bs s)).drop a ∧ a = (encL (nat l)).length ∧ a ≤ 8 * s.size) ∨ ((∃ T x, ev = .iface T x) ∧ ∀ m, ¬ ColX s n m)
theorem xst_end_ok (s : ByteArray) (n : Nat) (l : List Int) (a f : Nat) (hl : l.length = n) (hu : u64n (nat l)) (h : unp (bs s) = encL (nat l) ++ (unp (bs s)).drop a) (hf8 : f < 8) (hz : (unp (bs s)).drop a = List.replicate f false) : ColX s n (nat l) :=
  ⟨by rw [nat_length]; exact hl, hu, f, hf8, by rw [zeros, ← hz]; exact h⟩
theorem xst_end_bad (s : ByteArray) (n : Nat) (l : List Int) (a : Nat) (hl : l.length = n) (hu : u64n (nat l)) (h : unp (bs s) = encL (nat l) ++ (unp (bs s)).drop a) (hz : ∀ k, k < 8 → (unp (bs s)).drop a ≠ List.replicate k false) (m : List Nat) : ¬ ColX s n m := by
  rintro ⟨h1, h2, k, hk, e⟩
  rw [h] at e
  obtain ⟨t, rfl, _, h4⟩ := encL_inj (nat l) m _ _ hu h2 (by rw [nat_length]; omega) e
  obtain rfl : t = [] := List.eq_nil_of_length_eq_zero (by rw [List.length_append, nat_length] at h1; omega)
  exact hz k hk (h4 rfl)
theorem xst_stuck0 (s : ByteArray) (n : Nat) (hn : 0 < n) (hs : 8 * s.size < 64) (m : List Nat) : ¬ ColX s n m := by
  rintro ⟨h1, h2, k, hk, e⟩
  have h3 := encL_pos m (by rintro rfl; simp at h1; omega)
  have := congrArg List.length e
  rw [unp_length, bs_length, List.length_append] at this
  omega
theorem xst_stuck (s : ByteArray) (n : Nat) (l : List Int) (a : Nat) (hl : l.length < n) (h0 : l ≠ []) (hu : u64n (nat l)) (h : unp (bs s) = encL (nat l) ++ (unp (bs s)).drop a) (hbad : ∀ x R, x < 18446744073709551616 → (unp (bs s)).drop a ≠ encD x ++ R) (m : List Nat) : ¬ ColX s n m := by
  rintro ⟨h1, h2, k, hk, e⟩
  rw [h] at e
  obtain ⟨x, R, hx, hR⟩ := encL_step (nat l) m _ _ hu h2 (by intro e; exact h0 (by simpa [nat] using e)) (by rw [nat_length]; omega) e
  exact hbad x R hx hR
theorem xst_snoc (s : ByteArray) (l : List Int) (a x : Nat) (R : List Bool) (m : Nat) (hm : l.length = m + 1) (hl : ∀ y ∈ l, 0 ≤ y ∧ y < 18446744073709551616) (hx : x < 18446744073709551616) (h : unp (bs s) = encL (nat l) ++ (unp (bs s)).drop a) (ha : a = (encL (nat l)).length) (hd : (unp (bs s)).drop a = encD x ++ R) :
    unp (bs s) = encL (nat (l ++ [Go.bits .xor .u64 l[m] (x : Int)])) ++ (unp (bs s)).drop (a + (encD x).length) ∧ a + (encD x).length = (encL (nat (l ++ [Go.bits .xor .u64 l[m] (x : Int)]))).length ∧ a + (encD x).length ≤ 8 * s.size ∧ (∀ y ∈ l ++ [Go.bits .xor .u64 l[m] (x : Int)], 0 ≤ y ∧ y < 18446744073709551616) := by
  have hlm := hl _ (List.getElem_mem (show m < l.length by omega))
  obtain ⟨q1, q2, q3⟩ := xor_nat l[m] (x : Int) hlm (by omega)
  have hgl : (nat l).getLast? = some (l[m]).toNat := by
    rw [List.getLast?_eq_getElem?, nat_length, show l.length - 1 = m by omega]
    unfold nat
    rw [List.getElem?_map, List.getElem?_eq_getElem (by omega)]; rfl
  have he : encL (nat (l ++ [Go.bits .xor .u64 l[m] (x : Int)])) = encL (nat l) ++ encD x := by
    rw [show nat (l ++ [Go.bits .xor .u64 l[m] (x : Int)]) = nat l ++ [(Go.bits .xor .u64 l[m] (x : Int)).toNat] from List.map_append]
    rw [encL_snoc _ _ (by intro e; rw [e] at hgl; simp at hgl), hgl, q3, Int.toNat_natCast, Option.getD_some]
    rw [Nat.xor_comm (l[m]).toNat x, Nat.xor_assoc, Nat.xor_self, Nat.xor_zero]
  have hd2 : (unp (bs s)).drop (a + (encD x).length) = R := by rw [← List.drop_drop, hd, List.drop_left' rfl]
  have hlen := congrArg List.length hd
  rw [List.length_drop, unp_length, bs_length, List.length_append] at hlen
  have hlen2 := congrArg List.length h
  rw [unp_length, bs_length, List.length_append, ← ha] at hlen2
  have hp := encD_pos x
  refine ⟨by rw [he, hd2, List.append_assoc, ← hd]; exact h, by rw [he, List.length_append, ← ha], by omega, ?_⟩
  intro y hy
  rcases List.mem_append.1 hy with hy | hy
  · exact hl y hy
  · rw [List.mem_singleton.1 hy]; exact ⟨q1, q2⟩
theorem xorGet_range (s : ByteArray) (count : Int) (w : World) (h : count < 0 ∨ 20000 < count) :
    Calls Tryd.prog 32 #[.string s, .int .i64 count] w fun e w' => e = .returned (.tuple #[.slice none 0 0, .iface 37 (.int .i64 9)]) ∧ w' = w := by
  rcases h with h | h
  · go_enter Tryd.func32, Tryd.ntmps32
    go_wp2_with fail
    go_ret2
    exact ⟨rfl, rfl⟩
  · have h' : ¬ count < 0 := by omega
    go_enter Tryd.func32, Tryd.ntmps32
    go_wp2_with fail
    go_ret2
    exact ⟨rfl, rfl⟩
theorem xget_step (B g r : Nat) (s : ByteArray) (n : Nat) (l : List Int) (a m : Nat) (w : World) (hs : s.size ≤ 140737488351232) (hml : m < l.length) (hm : l.length = m + 1) (hln : l.length < n) (hl : ∀ y ∈ l, 0 ≤ y ∧ y < 18446744073709551616)
    (e1 : unp (bs s) = encL (nat l) ++ (unp (bs s)).drop a) (e2 : a = (encL (nat l)).length) (e3 : a ≤ 8 * s.size) (h : XAt B g r s a .nilIface w) :
    Calls Tryd.prog 40 #[.pointer (some ⟨r, 0, none⟩)] w fun e w2 => ∃ (v : Int) (a' : Nat) (ev' : Value), e = .returned (.int .u64 v) ∧ XAt B g r s a' ev' w2 ∧ Kp (GR g r) w w2 ∧ (∀ y ∈ l ++ [Go.bits .xor .u64 (l[m]'hml) v], 0 ≤ y ∧ y < 18446744073709551616) ∧ XSt s n (l ++ [Go.bits .xor .u64 (l[m]'hml) v]) a' ev' := by
  by_cases hD : ∃ x R, x < 18446744073709551616 ∧ (unp (bs s)).drop a = encD x ++ R
  · obtain ⟨x, R, hx, hD⟩ := hD
    obtain ⟨f1, f2, f3, f4⟩ := xst_snoc s l a x R m hm hl hx e1 e2 hD
    have H : Calls Tryd.prog 40 #[.pointer (some ⟨r, 0, none⟩)] w fun e w' => e = .returned (.int .u64 (x : Int)) ∧ XAt B g r s (a + (encD x).length) .nilIface w' ∧ Kp (GR g r) w w' := by
      by_cases hx0 : x = 0
      · subst hx0
        exact xdiff_zero B g r s a R w hs (by rw [hD]; rfl) h
      · exact xdiff_some B g r s a x R w hs hx0 hx hD h
    exact H.mono fun _ _ ⟨h1, h2, h3⟩ => ⟨_, _, _, h1, h2, h3, f4, .inl ⟨rfl, f1, f2, f3⟩⟩
  · have hbad : ∀ x R, x < 18446744073709551616 → (unp (bs s)).drop a ≠ encD x ++ R := fun x R hx e => hD ⟨x, R, hx, e⟩
    refine (xdiff_bad B g r s a w hs e3 hbad h).mono ?_
    rintro e w2 ⟨v, a', T, x, h1, h2, h3, h4, h5⟩
    have hq := xor_nat (l[m]'hml) v (hl _ (List.getElem_mem hml)) ⟨h2, h3⟩
    refine ⟨_, _, _, h1, h4, h5, ?_, .inr ⟨⟨_, _, rfl⟩, xst_stuck s n l a hln (by rintro rfl; simp at hm) (nat_u64 l hl) e1 hbad⟩⟩
    intro y hy
    rcases List.mem_append.1 hy with hy | hy
    · exact hl y hy
    · rw [List.mem_singleton.1 hy]; exact ⟨hq.1, hq.2.1⟩
set_option maxHeartbeats 4000000 in
set_option maxRecDepth 100000 in
theorem xorGet_any (s : ByteArray) (count : Int) (w : World) (hs : s.size ≤ 140737488351232) (h0 : 0 ≤ count) (h1 : count ≤ 20000) :
    Calls Tryd.prog 32 #[.string s, .int .i64 count] w (XGot s count.toNat w) := by
  obtain ⟨n, rfl⟩ := Int.eq_ofNat_of_zero_le h0
  rw [Int.toNat_natCast]
  have HB := Aside0.mk (Below.refl w.heap.size w)
  have hn : n ≤ 20000 := by omega
  clear h0
  go_enter Tryd.func32, Tryd.ntmps32
  go_wp2_with (go_at_call 20; refine (newReader_any _ _).mono ?_; rintro e w1 ⟨g, rfl, hr, hb⟩; have HR1 := Aside0.mk hr; have HB1 := Aside0.mk hb; clear hr hb HB)
  have hX : XAt w.heap.size g w1.heap.size s 0 .nilIface (w1.alloc (.cells #[.pointer (some ⟨g, 0, none⟩), .nilIface] 89)) := ⟨HR1.out.below (below_alloc (Below.refl _ _) _), HB1.out.size, by have := blk_lt HR1.out.2; omega, heap_alloc_new _ _⟩
  have HX := Aside0.mk hX
  have HBX := Aside0.mk (HB1.out.alloc HB1.out.size (.cells #[.pointer (some ⟨g, 0, none⟩), .nilIface] 89))
  obtain ⟨r, hr⟩ : ∃ r, w1.heap.size = r := ⟨_, rfl⟩
  rw [hr] at HX ⊢
  have HR := Aside0.mk hr
  clear hX HB1 HR1 hr
  go_loopw [7, 8] (fun v7 v8 w' => ∃ (l : List Int) (A : Option Addr) (c a : Nat) (ev : Value), v7 = .slice A l.length c ∧ v8 = .int .i64 (l.length : Int) ∧ l.length ≤ n ∧ Aside0 (∀ y ∈ l, 0 ≤ y ∧ y < 18446744073709551616) ∧ Aside0 (XAt w.heap.size g r s a ev w') ∧ Aside0 (Kd.R (Kd.int .u64) 34 w' w.heap.size (fun k => ¬ GR g r k) (.slice A l.length c) l) ∧ Aside0 (Below w.heap.size w w') ∧ Aside0 (XSt s n l a ev)) (fun _ v8 _ => n - (intOf v8).toNat)
  case atStart => exact ⟨[], none, 0, 0, .nilIface, rfl, rfl, Nat.zero_le _, ⟨by simp⟩, HX, ⟨Kd.R_nil _ _ _ _ _⟩, HBX, ⟨.inl ⟨rfl, by simp [nat, encL], by simp [nat, encL], by omega⟩⟩⟩
  case round =>
    clear HX HBX
    obtain ⟨l, A, c, a, ev, rfl, rfl, hln, HU, HX, HO, HB, HS⟩ := hrel
    have k0 := HX.out.k0
    have k1 := HX.out.k1
    rcases HS.out with ⟨rfl, e1, e2, e3⟩ | ⟨⟨T, x, rfl⟩, hno⟩
    · have HE := Aside0.mk (And.intro e1 (And.intro e2 e3))
      clear e1 e2 e3
      by_cases hlt : l.length < n
      · have hgr : g < wr.heap.size ∧ r < wr.heap.size := ⟨blk_lt HX.out.1.2, blk_lt HX.out.2.2.2⟩
        have HGR := Aside0.mk hgr
        clear hgr
        by_cases hl0 : l.length = 0
        · obtain rfl : l = [] := List.eq_nil_of_length_eq_zero hl0
          obtain rfl : a = 0 := by rw [HE.out.2.1]; rfl
          have hi0 : (((([] : List Int).length : Nat) : Int) == 0) = true := by decide
          clear hl0
          by_cases h64 : 64 ≤ 8 * s.size
          · obtain ⟨v, hv⟩ : ∃ v, val (((unp (bs s)).drop 0).take 64) = v := ⟨_, rfl⟩
            have hvl : v < 18446744073709551616 := by
              rw [← hv]; exact Nat.lt_of_lt_of_le (val_lt _) (Nat.pow_le_pow_right (n := 2) (by omega) (by rw [List.length_take]; omega : _ ≤ 64))
            have hen : unp (bs s) = encL (nat [(v : Int)]) ++ (unp (bs s)).drop 64 := by
              have h := bitsOf_val ((unp (bs s)).take 64)
              rw [List.drop_zero] at hv
              rw [hv, List.length_take, unp_length, bs_length, Nat.min_eq_left h64] at h
              rw [show nat [(v : Int)] = [v] from rfl, encL_one, h, List.take_append_drop]
            have HV := Aside0.mk (And.intro hvl hen)
            have G := gets_is w.heap.size g r s 0 64 64 (v : Int) wr hs (by decide) (by decide) rfl h64 (by rw [show Int.toNat 64 = 64 from rfl, hv]) HX.out
            clear hv hvl hen
            go_wp2_with (first
              | (go_at_call 39; refine G.mono ?_; rintro e w2 ⟨rfl, hx, hk⟩; have HX2 := Aside0.mk hx; have HB2 := Aside0.mk (hk.below HB.out (fun k hk => hk.elim (fun e => e ▸ HX.out.1.1) (fun e => e ▸ HX.out.2.1))); have HO2 := Aside0.mk (hk.row HO.out (fun k hk => hk)); have hz2 := hk.size; clear HX HB HO hx hk k0 k1; have HB := HB2; have HO := HO2)
              | ((with_reducible refine gate_builtin (b := .append) (xs := #[.tmp 34, .tmp 37]) rfl ?_); at_builtin; refine Kd.R_append (Kd.int .u64) (w0 := w) w.heap.size rfl (.tmp 34) (.tmp 37) 60 34 (.int .u64 0) 8 rfl Tryd.underlying60 info_u64 rfl (by decide) (by omega) (.slice A ([] : List Int).length c) ([] : List Int) (v : Int) [.int .u64 (v : Int)] (fun k => ¬ GR g r k) (fun _ => False) rfl rfl ?aP (fun _ hk => hk.elim) ?aF ?aO ?aB ?aS ?aL ?_; (case aP => exact rfl); (case aB => exact (by repeat (first | (with_reducible exact HB.out) | apply below_alloc | apply pw_below_drewN | apply below_drew1))); (case aF => exact (fun k hk e => by have := HGR.out; rcases e with rfl | rfl <;> omega)); (case aO => exact (by (with_reducible repeat (first | apply Kd.R_alloc | apply Kd.R_drewN | apply Kd.R_drew)); exact HO.out)); (case aS => exact (below_size (by repeat (first | (with_reducible exact HB.out) | apply below_alloc | apply pw_below_drewN | apply below_drew1)))); (case aL => simp); intro va wa ho hb hg hat; have HX3 := Aside0.mk (HX2.out.grown hg HO.out.1); have n0_ := Aside0.mk hb; have n1_ := Aside0.mk ho; clear HB HO; have HB := n0_; have HO := n1_; clear n0_ n1_ ho hb hg hat; obtain ⟨A', c', hva⟩ := Kd.R_slice HO.out; subst hva))
            go_roundw
            case rel => exact ⟨[(v : Int)], A', c', 64, .nilIface, rfl, rfl, by simp; omega, ⟨by intro y hy; rw [List.mem_singleton.1 hy]; have := HV.out.1; omega⟩, HX3, HO, HB, ⟨.inl ⟨rfl, HV.out.2, by simp [nat, encL, encT, bitsOf_length], h64⟩⟩⟩
            case measure => simp [intOf]; omega
          · obtain ⟨f, hf⟩ : ∃ f, 8 * s.size = f := ⟨_, rfl⟩
            have HN := Aside0.mk (xst_stuck0 s n (by simp at hlt; omega) (by omega))
            have G := gets_short w.heap.size g r s 0 f 64 wr hs (by decide) (by decide) (by omega) (by omega) HX.out
            clear hf h64
            go_wp2_with (first
              | (go_at_call 39; refine G.mono ?_; rintro e w2 ⟨uT, ux, rfl, hx, hk⟩; have HX2 := Aside0.mk hx; have HB2 := Aside0.mk (hk.below HB.out (fun k hk => hk.elim (fun e => e ▸ HX.out.1.1) (fun e => e ▸ HX.out.2.1))); have HO2 := Aside0.mk (hk.row HO.out (fun k hk => hk)); have hz2 := hk.size; clear HX HB HO hx hk k0 k1; have HB := HB2; have HO := HO2)
              | ((with_reducible refine gate_builtin (b := .append) (xs := #[.tmp 34, .tmp 37]) rfl ?_); at_builtin; refine Kd.R_append (Kd.int .u64) (w0 := w) w.heap.size rfl (.tmp 34) (.tmp 37) 60 34 (.int .u64 0) 8 rfl Tryd.underlying60 info_u64 rfl (by decide) (by omega) (.slice A ([] : List Int).length c) ([] : List Int) 0 [.int .u64 0] (fun k => ¬ GR g r k) (fun _ => False) rfl rfl ?aP (fun _ hk => hk.elim) ?aF ?aO ?aB ?aS ?aL ?_; (case aP => exact rfl); (case aB => exact (by repeat (first | (with_reducible exact HB.out) | apply below_alloc | apply pw_below_drewN | apply below_drew1))); (case aF => exact (fun k hk e => by have := HGR.out; rcases e with rfl | rfl <;> omega)); (case aO => exact (by (with_reducible repeat (first | apply Kd.R_alloc | apply Kd.R_drewN | apply Kd.R_drew)); exact HO.out)); (case aS => exact (below_size (by repeat (first | (with_reducible exact HB.out) | apply below_alloc | apply pw_below_drewN | apply below_drew1)))); (case aL => simp); intro va wa ho hb hg hat; have HX3 := Aside0.mk (HX2.out.grown hg HO.out.1); have n0_ := Aside0.mk hb; have n1_ := Aside0.mk ho; clear HB HO; have HB := n0_; have HO := n1_; clear n0_ n1_ ho hb hg hat; obtain ⟨A', c', hva⟩ := Kd.R_slice HO.out; subst hva))
            go_roundw
            case rel => exact ⟨[0], A', c', 0, .iface uT ux, rfl, rfl, by simp; omega, ⟨by intro y hy; rw [List.mem_singleton.1 hy]; decide⟩, HX3, HO, HB, ⟨.inr ⟨⟨_, _, rfl⟩, HN.out⟩⟩⟩
            case measure => simp [intOf]; omega
        · obtain ⟨m, hm⟩ : ∃ m, l.length = m + 1 := ⟨l.length - 1, by omega⟩
          have hml : m < l.length := by omega
          obtain ⟨ad, rfl, -⟩ := cellAt (R_C HO.out).1 m hml
          have hcellOf : ∀ w', Kd.R (Kd.int .u64) 34 w' w.heap.size (fun k => ¬ GR g r k) (.slice (some ad) l.length c) l → w'.cell? (ad.add m) = some (.int .u64 l[m]) := by
            intro w' h
            obtain ⟨ad', e', hc⟩ := cellAt (R_C h).1 m hml
            injection e' with e'
            subst e'
            exact hc
          have G := fun w' => xget_step w.heap.size g r s n l a m w' hs hml hm hlt HU.out HE.out.1 HE.out.2.1 HE.out.2.2
          have HM := Aside0.mk hm
          have hm2 : (l.length : Int) - 1 = (m : Int) := by omega
          have hi0 : ((l.length : Int) == 0) = false := by rw [beq_eq_false_iff_ne]; omega
          clear hm hl0
          go_wp2_with fail
          have hw64 : wrap64 (m : Int) = (m : Int) := by unfold wrap64; omega
          have hmi : (m : Int) < (l.length : Int) := by omega
          have hmi0 : (0 : Int) ≤ (m : Int) := by omega
          refine start_ (n := 12) (S := fun w' => w'.cell? (ad.add m) = some (.int .u64 l[m])) (ds := [10]) #[false, false, false, false, false, false, false, false, false, false, false, false] (by kernel_rfl) rfl rfl ((hcellOf _ (Kd.R_drew HO.out))) (fun hHeld => ?_)
          refine pure_ (i := 0) (N := some 39) (v := ?_) (a' := ?_) #[true, false, false, false, false, false, false, false, false, false, false, false] rfl rfl (by kernel_rfl) (fun _ _ _ h => h) (Or.inl ⟨by rfl, ?_⟩) ?_ ?_
          rotate_left
          · intro w'
            go_simp
            with_reducible rfl
          rotate_left
          · simp only [Act.put, List.setIfInBounds_toArray, List.set_cons_zero, List.set_cons_succ]
            rfl
          refine pure_ (i := 1) (N := some 40) (v := ?_) (a' := ?_) #[true, true, false, false, false, false, false, false, false, false, false, false] rfl rfl (by kernel_rfl) (fun _ _ _ h => h) (Or.inl ⟨by rfl, ?_⟩) ?_ ?_
          rotate_left
          · intro w'
            go_simp
            with_reducible rfl
          rotate_left
          · simp only [Act.put, List.setIfInBounds_toArray, List.set_cons_zero, List.set_cons_succ]
            rfl
          refine pure_ (i := 2) (N := some 41) (v := ?_) (a' := ?_) #[true, true, true, false, false, false, false, false, false, false, false, false] rfl rfl (by kernel_rfl) (fun _ _ _ h => h) (Or.inl ⟨by rfl, ?_⟩) ?_ ?_
          rotate_left
          · intro w'
            go_simp
            with_reducible rfl
          rotate_left
          · simp only [Act.put, List.setIfInBounds_toArray, List.set_cons_zero, List.set_cons_succ]
            rfl
          refine pure_ (i := 3) (N := some 42) (v := ?_) (a' := ?_) #[true, true, true, true, false, false, false, false, false, false, false, false] rfl rfl (by kernel_rfl) (fun _ _ _ h => h) (Or.inl ⟨by rfl, ?_⟩) ?_ ?_
          rotate_left
          · intro w'
            go_simp
            with_reducible rfl
          rotate_left
          · simp only [Act.put, List.setIfInBounds_toArray, List.set_cons_zero, List.set_cons_succ, i64_w]
            rfl
          refine pure_ (i := 4) (N := some 43) (v := ?_) (a' := ?_) #[true, true, true, true, true, false, false, false, false, false, false, false] rfl rfl (by kernel_rfl) (fun _ _ _ h => h) (Or.inl ⟨by rfl, ?_⟩) ?_ ?_
          rotate_left
          · intro w'
            go_simp
            with_reducible rfl
          rotate_left
          · simp only [Act.put, List.setIfInBounds_toArray, List.set_cons_zero, List.set_cons_succ]
            rfl
          refine pure_ (i := 6) (N := some 45) (v := ?_) (a' := ?_) #[true, true, true, true, true, false, true, false, false, false, false, false] rfl rfl (by kernel_rfl) (fun _ _ _ h => h) (Or.inl ⟨by rfl, ?_⟩) ?_ ?_
          rotate_left
          · intro w'
            go_simp
            with_reducible rfl
          rotate_left
          · simp only [Act.put, List.setIfInBounds_toArray, List.set_cons_zero, List.set_cons_succ]
            rfl
          refine take_ (i := 5) (N := some 44) (v := ?_) (a' := ?_) #[true, true, true, true, true, true, true, false, false, false, false, false] rfl rfl (by kernel_rfl) (fun _ _ _ h => h) (Or.inl ⟨by rfl, ?_⟩) hHeld ?_ ?_
          rotate_left
          · intro w' s0
            go_simp
            with_reducible rfl
          rotate_left
          · simp only [Act.put, List.setIfInBounds_toArray, List.set_cons_zero, List.set_cons_succ]
            rfl
          refine one_ (i := 7) (N := some 46) #[true, true, true, true, true, true, true, true, false, false, false, false] rfl rfl (by kernel_rfl) (by decide) (fun K hK => ?_)
          refine goes_ Tryd.func40 (by kernel_rfl) rfl #[.pointer (some ⟨r, 0, none⟩)] (by rfl) rfl rfl (by simp only [List.map_toArray, List.map_cons, List.map_nil]; rfl) ?_
          with_reducible refine (G _ HX.out.drew).mono ?_
          rintro e w2 ⟨v, a', ev', rfl, hx, hk, hu, hp⟩
          refine ⟨_, rfl, ?_⟩
          have HX2 := Aside0.mk hx
          have HB2 := Aside0.mk (hk.below HB.out.drew (fun k hk => hk.elim (fun e => e ▸ HX.out.1.1) (fun e => e ▸ HX.out.2.1)))
          have HO2 := Aside0.mk (hk.row (Kd.R_drew HO.out) (fun k hk => hk))
          have hz2 : wr.heap.size ≤ w2.heap.size := hk.size
          have HU2 := Aside0.mk hu
          have HS2 := Aside0.mk hp
          clear hx hk hu hp
          refine hK.out _ _ ((hcellOf _ HO2.out)) (fun hHeld => ?_)
          clear hK K
          refine norm_ (a' := ?_) ?_ ?_
          rotate_left
          · show Act.put _ (some 46) _ = _
            simp only [Act.put, List.setIfInBounds_toArray, List.set_cons_zero, List.set_cons_succ]
            rfl
          refine pure_ (i := 8) (N := some 47) (v := ?_) (a' := ?_) #[true, true, true, true, true, true, true, true, true, false, false, false] rfl rfl (by kernel_rfl) (fun _ _ _ h => h) (Or.inl ⟨by rfl, ?_⟩) ?_ ?_
          rotate_left
          · intro w'
            go_simp
            with_reducible rfl
          rotate_left
          · simp only [Act.put, List.setIfInBounds_toArray, List.set_cons_zero, List.set_cons_succ]
            rfl
          refine one_ (i := 9) (N := some 48) #[true, true, true, true, true, true, true, true, true, true, false, false] rfl rfl (by kernel_rfl) (by decide) (fun K hK => ?_)
          refine value_ (w1 := ?_) (v := ?_) (by rfl) rfl ?_ ?_
          rotate_left 2
          · go_simp
            constructor
            · rfl
            · rfl
          refine hK.out _ _ ((hcellOf _ (Kd.R_alloc HO2.out _))) (fun hHeld => ?_)
          clear hK K
          refine norm_ (a' := ?_) ?_ ?_
          rotate_left
          · show Act.put _ (some 48) _ = _
            simp only [Act.put, List.setIfInBounds_toArray, List.set_cons_zero, List.set_cons_succ]
            rfl
          refine last_ (i := 10) (N := some 49) #[true, true, true, true, true, true, true, true, true, true, true, false] rfl rfl (by kernel_rfl) (by decide) (fun K hK => ?_)
          refine Kd.R_append_step (Kd.int .u64) (w0 := w) w.heap.size (by rfl) (.tmp 39) (.tmp 48) 60 34 (.int .u64 0) 8 rfl Tryd.underlying60 info_u64 rfl (by decide) (by omega) (.slice (some ad) l.length c) l (Go.bits .xor .u64 l[m] v) [.int .u64 (Go.bits .xor .u64 l[m] v)] (fun k => ¬ GR g r k) (fun _ => False) (by rfl) (by rfl) rfl (fun _ hk => hk.elim) (fun k hk e => by have := HGR.out; rcases e with rfl | rfl <;> omega) HO2.out HB2.out HB2.out.size (by omega) ?_
          intro va wa ho hb hg hat
          have HX3 := Aside0.mk (HX2.out.grown hg HO2.out.1)
          have HO3 := Aside0.mk ho
          have HB3 := Aside0.mk hb
          obtain ⟨A', c', hva⟩ := Kd.R_slice ho
          subst hva
          clear ho hb hg hat
          refine hK.out _ _ ?_
          clear hK K
          refine norm_ (a' := ?_) ?_ ?_
          rotate_left
          · show Act.put _ (some 49) _ = _
            simp only [Act.put, List.setIfInBounds_toArray, List.set_cons_zero, List.set_cons_succ]
            rfl
          refine pure_ (i := 11) (N := some 7) (v := ?_) (a' := ?_) #[true, true, true, true, true, true, true, true, true, true, true, true] rfl rfl (by kernel_rfl) (fun _ _ _ h => h) (Or.inl ⟨by rfl, ?_⟩) ?_ ?_
          rotate_left
          · intro w'
            go_simp
            with_reducible rfl
          rotate_left
          · simp only [Act.put, List.setIfInBounds_toArray, List.set_cons_zero, List.set_cons_succ]
            rfl
          refine done_ (by kernel_rfl) ?_
          clear hw64
          go_wp2_with fail
          go_roundw
          case rel => exact ⟨l ++ [Go.bits .xor .u64 l[m] v], A', c', a', ev', by rw [List.length_append]; rfl, by rw [List.length_append]; go_num, by rw [List.length_append]; exact hlt, HU2, HX3, HO3, HB3, HS2⟩
          case measure => simp [intOf]; omega
      · obtain rfl : l.length = n := by omega
        obtain ⟨f, hf⟩ : ∃ f, 8 * s.size - a = f := ⟨_, rfl⟩
        have hf2 : a + f = 8 * s.size := by have := HE.out.2.2; omega
        by_cases hz : ∃ k, k < 8 ∧ (unp (bs s)).drop a = List.replicate k false
        · obtain ⟨k, hk, hz⟩ := hz
          obtain rfl : k = f := by have := congrArg List.length hz; rw [List.length_drop, unp_length, bs_length, List.length_replicate] at this; omega
          have HC := Aside0.mk (xst_end_ok s l.length l a k rfl (nat_u64 l HU.out) HE.out.1 hk hz)
          have G := rend_ok w.heap.size g s a k wr hs hf2 hk hz HX.out.1
          clear hz hf hf2
          go_wp2_with (go_at_call 23; refine G.mono ?_; rintro e w2 ⟨rfl, m, hw⟩; have HX2 := Aside0.mk (show XAt w.heap.size g r s a .nilIface w2 by rw [hw]; exact HX.out); have HB2 := Aside0.mk (show Below w.heap.size w w2 by rw [hw]; exact drewN_below HB.out m); have HO2 := Aside0.mk (show Kd.R (Kd.int .u64) 34 w2 w.heap.size (fun k => ¬ GR g r k) (.slice A l.length c) l by rw [hw]; exact Kd.R_drewN HO.out m); have q1 := HX2.out.k1; have f1 := HX2.out.f1; clear hw k0 k1)
          go_ret2
          have HO3 := Kd.R_far HO2.out (p := ⟨r, 1, none⟩) (fun k hk e => hk (.inr e)) .nilIface
          obtain ⟨r1, _, r3⟩ := R_C HO3
          exact .inl ⟨l, A, c, rfl, HC.out, HU.out, r1, r3, HB2.out.setCell (p := ⟨r, 1, none⟩) HX2.out.2.1 _⟩
        · have HC := Aside0.mk (xst_end_bad s l.length l a rfl (nat_u64 l HU.out) HE.out.1 (fun k hk e => hz ⟨k, hk, e⟩))
          have G := rend_bad w.heap.size g s a f wr hs hf2 (fun k hk e => hz ⟨k, hk, e⟩) HX.out.1
          clear hz hf hf2
          go_wp2_with (go_at_call 23; refine G.mono ?_; rintro e w2 ⟨u, E, rfl, hu, hE, hb⟩; obtain ⟨uT, ux, rfl⟩ := hu.iface hE; have HX2 := Aside0.mk (HX.out.below hb); have HB2 := Aside0.mk (below_next HB.out hb); have q1 := HX2.out.k1; have f1 := HX2.out.f1; clear hb hu hE k0 k1)
          have HX3 := Aside0.mk (HX2.out.put (.iface uT ux))
          have HB3 := Aside0.mk (HB2.out.setCell (p := ⟨r, 1, none⟩) HX2.out.2.1 (.iface uT ux))
          obtain ⟨w3, hw3⟩ : ∃ w3, w2.setCell ⟨r, 1, none⟩ (.iface uT ux) = w3 := ⟨_, rfl⟩
          rw [hw3] at HX3 HB3 ⊢
          have k1 := HX3.out.k1
          clear hw3 q1 f1
          go_quiet (fail)
          go_wp2_with fail
          go_ret2
          exact .inr ⟨HC.out, uT, ux, rfl, drewN_below HB3.out _⟩
    · have HN := Aside0.mk hno
      clear hno
      by_cases hlt : l.length < n
      · go_wp2_with fail
        go_quiet (fail)
        go_wp2_with fail
        go_ret2
        exact .inr ⟨HN.out, T, x, rfl, drewN_below HB.out _⟩
      · go_wp2_with fail
        go_quiet (fail)
        go_wp2_with fail
        go_ret2
        exact .inr ⟨HN.out, T, x, rfl, drewN_below HB.out _⟩
end Go.Proofs.YtodhnmflabehhaaDoor
namespace Go.Proofs.YtodhnmflabehhaaDoor
open Go.RowKit Go.Proofs.YtodhnmflabehhaaDoorW.PrintWords Go.Proofs.YtodhnmflabehhaaDoorW.PrintLast Go.Proofs.YtodhnmflabehhaaDoorW.PrintMore Hy

theorem col_uniq {s : ByteArray} {n : Nat} {l m : List Nat} (h : ColX s n l) (h' : ColX s n m) : l = m := by
  obtain ⟨h1, h2, k, hk, e⟩ := h
  obtain ⟨h1', h2', k', hk', e'⟩ := h'
  rw [e] at e'
  obtain ⟨t, rfl, _, _⟩ := encL_inj l m _ _ h2 h2' (by omega) e'
  obtain rfl : t = [] := List.eq_nil_of_length_eq_zero (by rw [List.length_append] at h1'; omega)
  rw [List.append_nil]
theorem nat_inj : ∀ {l m : List Int}, (∀ x ∈ l, 0 ≤ x) → (∀ x ∈ m, 0 ≤ x) → nat l = nat m → l = m := by
  intro l
  induction l with
  | nil => intro m _ _ h; cases m with | nil => rfl | cons y m => simp [nat] at h
  | cons x l ih =>
    intro m h1 h2 h
    cases m with
    | nil => simp [nat] at h
    | cons y m =>
      simp only [nat, List.map_cons, List.cons.injEq] at h
      have := h1 x (by simp)
      have := h2 y (by simp)
      rw [ih (fun z hz => h1 z (by simp [hz])) (fun z hz => h2 z (by simp [hz])) h.2, show x = y by omega]
theorem xorGet_ok (s : ByteArray) (count : Int) (l : List Int) (w : World) (hs : s.size ≤ 140737488351232) (h0 : 0 ≤ count) (h1 : count ≤ 20000) (hx : ∀ x ∈ l, 0 ≤ x ∧ x < 18446744073709551616) (h : ColX s count.toNat (nat l)) :
    Calls Tryd.prog 32 #[.string s, .int .i64 count] w fun e w' => ∃ A c, e = .returned (.tuple #[.slice A l.length c, .nilIface]) ∧ Kd.C (Kd.int .u64) w' A l.length l ∧ l.length ≤ c ∧ Below w.heap.size w w' := by
  refine (xorGet_any s count w hs h0 h1).mono ?_
  rintro e w' (⟨m, A, c, rfl, hm, hu, hC, hc, hb⟩ | ⟨hno, _⟩)
  · obtain rfl : l = m := nat_inj (fun x hx' => (hx x hx').1) (fun x hx' => (hu x hx').1) (col_uniq h hm)
    exact ⟨A, c, rfl, hC, hc, hb⟩
  · exact absurd h (hno _)
theorem xorGet_no (s : ByteArray) (count : Int) (w : World) (hs : s.size ≤ 140737488351232) (h0 : 0 ≤ count) (h1 : count ≤ 20000) (h : ∀ m, ¬ ColX s count.toNat m) :
    Calls Tryd.prog 32 #[.string s, .int .i64 count] w fun e w' => ∃ T x, e = .returned (.tuple #[.slice none 0 0, .iface T x]) ∧ Below w.heap.size w w' := by
  refine (xorGet_any s count w hs h0 h1).mono ?_
  rintro e w' (⟨m, A, c, rfl, hm, hu, hC, hc, hb⟩ | ⟨_, T, x, he, hb⟩)
  · exact absurd hm (h _)
  · exact ⟨T, x, he, hb⟩
theorem colFirst : ColX ⟨#[0, 0, 0, 0, 0, 0, 0, 5, 0]⟩ 2 [5, 5] := by
  refine ⟨rfl, by intro x hx; simp at hx; omega, 7, by omega, ?_⟩
  have : encL [5, 5] = bitsOf 5 64 ++ [false] := by simp [encL, encT, encD]
  rw [this]
  decide +kernel
theorem u64First : ∀ x ∈ ([5, 5] : List Int), 0 ≤ x ∧ x < 18446744073709551616 := by intro x hx; simp at hx; omega
theorem xorPut_first (W : World) : Calls Tryd.prog 29 #[.slice (some ⟨W.heap.size, 0, none⟩) 2 2] (W.alloc (.cells #[.int .u64 5, .int .u64 5] 34)) fun e w' => e = .returned (.tuple #[.string ⟨#[0, 0, 0, 0, 0, 0, 0, 5, 0]⟩, .nilIface]) ∧ Below (W.alloc (.cells #[.int .u64 5, .int .u64 5] 34)).heap.size (W.alloc (.cells #[.int .u64 5, .int .u64 5] 34)) w' := by
  have h := xorPut_ok (some ⟨W.heap.size, 0, none⟩) 2 [5, 5] (W.alloc (.cells (nums .u64 [5, 5]).toArray 34)) (C_lit W .u64 [5, 5] _ (by decide)) (by decide) (by decide) u64First
  rw [show nat [5, 5] = [5, 5] from rfl, col_text _ _ _ colFirst] at h
  exact h
theorem xorGet_first (w : World) : Calls Tryd.prog 32 #[.string ⟨#[0, 0, 0, 0, 0, 0, 0, 5, 0]⟩, .int .i64 2] w fun e w' => ∃ A c, e = .returned (.tuple #[.slice A 2 c, .nilIface]) ∧ Kd.C (Kd.int .u64) w' A 2 [5, 5] ∧ 2 ≤ c ∧ Below w.heap.size w w' :=
  xorGet_ok ⟨#[0, 0, 0, 0, 0, 0, 0, 5, 0]⟩ 2 [5, 5] w (by decide) (by decide) (by decide) u64First colFirst
theorem nums_first (A : Option Addr) (c : Nat) (W : World) (h : Kd.C (Kd.int .u64) W A 2 [5, 5]) (hc : 2 ≤ c) :
    Calls Tryd.prog 31 #[.slice A 2 c, .slice (some ⟨W.heap.size, 0, none⟩) 2 2] (W.alloc (.cells #[.int .u64 5, .int .u64 5] 34)) fun e w' => e = .returned (.bool true) ∧ Drawn0 (W.alloc (.cells #[.int .u64 5, .int .u64 5] 34)) w' := by
  have h := nums_any A c [5, 5] (some ⟨W.heap.size, 0, none⟩) 2 [5, 5] (W.alloc (.cells (nums .u64 [5, 5]).toArray 34)) (Kd.C_alloc h _) hc (C_lit W .u64 [5, 5] _ (by decide)) (by decide) (by decide)
  exact h
set_option maxHeartbeats 1000000 in
theorem xor_first (w : World) : Calls Tryd.prog 27 #[] w fun e w' => e = .returned (.bool true) ∧ Below w.heap.size w w' := by
  have HB := Aside0.mk (Below.refl w.heap.size w)
  go_enter Tryd.func27, Tryd.ntmps27
  go_wp2_with (first
    | (go_at_call 29; refine (xorPut_first _).mono ?_; rintro e wb ⟨rfl, hb⟩; have HBn : Aside0 (Below w.heap.size w wb) := ⟨below_next (by repeat (first | (with_reducible exact HB.out) | apply below_alloc | apply pw_below_drewN | apply below_drew1)) hb⟩; clear HB hb; have HB := HBn; clear HBn)
    | (go_at_call 32; refine (xorGet_first _).mono ?_; rintro e wb ⟨A, c, rfl, hC, hc, hb⟩; have HBn : Aside0 (Below w.heap.size w wb) := ⟨below_next HB.out hb⟩; clear HB hb; have HB := HBn; clear HBn; have HC := Aside0.mk hC; clear hC)
    | (go_at_call 31; refine (nums_first _ _ _ HC.out hc).mono ?_; rintro e wd ⟨rfl, ⟨nd, rfl⟩⟩))
  go_ret
  exact ⟨rfl, (by repeat (first | (with_reducible exact HB.out) | apply below_alloc | apply pw_below_drewN | apply below_drew1))⟩
end Go.Proofs.YtodhnmflabehhaaDoor
