import Derived.Test.YtodhnmflabehhaaXorE
import Derived.Test.YtodhnmflabehhaaXorPut
import Derived.Deep.RegionHeld3
namespace Go.Proofs.Ytodhnmflabehhaa
open Go.RowKit Go.Proofs.YtodhnmflabehhaaW.PrintWords Go.Proofs.YtodhnmflabehhaaW.PrintLast Go.Proofs.YtodhnmflabehhaaW.PrintMore Hy

theorem xdiff_bad (B g r : Nat) (s : ByteArray) (a : Nat) (w : World) (hs : s.size ≤ 140737488351232) (ha : a ≤ 8 * s.size) (hbad : ∀ x R, x < 18446744073709551616 → (unp (bs s)).drop a ≠ encD x ++ R) (h : XAt B g r s a .nilIface w) :
    Calls Try.prog 21 #[.pointer (some ⟨r, 0, none⟩)] w (XBad B g r s w) := by
  obtain ⟨f, hf⟩ : ∃ f, 8 * s.size - a = f := ⟨_, rfl⟩
  have hlen : ((unp (bs s)).drop a).length = f := by rw [List.length_drop, unp_length, bs_length, hf]
  cases hd : (unp (bs s)).drop a with
  | nil => rw [hd] at hlen; exact xdiff_bad0 B g r s a w hs (by simp at hlen; omega) h
  | cons b D =>
    rw [hd] at hlen
    simp only [List.length_cons] at hlen
    cases b with
    | false => exact absurd (by rw [hd]; rfl) (hbad 0 D (by omega))
    | true =>
      have h1 : (unp (bs s)).drop (a + 1) = D := by rw [← List.drop_drop, hd]; rfl
      have v6 : ∀ L : List Bool, val (L.take 6) < 64 := fun L => Nat.lt_of_lt_of_le (val_lt _) (Nat.pow_le_pow_right (n := 2) (by omega) (by rw [List.length_take]; omega : (L.take 6).length ≤ 6))
      by_cases c1 : f ≤ 6
      · exact xdiff_bad1 B g r s a f w hs (by omega) (by omega) c1 ⟨_, hd⟩ h
      · by_cases c2 : f ≤ 12
        · exact xdiff_bad2 B g r s a f _ w hs (by omega) (by omega) c2 ⟨_, hd⟩ rfl (v6 _) h
        · have h2 : (unp (bs s)).drop (a + 1 + 6) = D.drop 6 := by rw [← List.drop_drop, h1]
          have h3 : (unp (bs s)).drop (a + 1 + 6 + 6) = (D.drop 6).drop 6 := by rw [← List.drop_drop, h2]
          obtain ⟨L, hL⟩ : ∃ L, val (D.take 6) = L := ⟨_, rfl⟩
          obtain ⟨S1, hS⟩ : ∃ S1, val ((D.drop 6).take 6) = S1 := ⟨_, rfl⟩
          have hL6 : L < 64 := hL ▸ v6 D
          have hS6 : S1 < 64 := hS ▸ v6 (D.drop 6)
          by_cases c3 : 64 < L + S1 + 1
          · exact xdiff_bad3 B g r s a L S1 w hs (by omega) ⟨_, hd⟩ (by rw [h1, hL]) hL6 (by rw [h2, hS]) hS6 c3 h
          · by_cases c4 : f < 13 + (S1 + 1)
            · exact xdiff_bad4 B g r s a f L S1 w hs (by omega) (by omega) ⟨_, hd⟩ (by rw [h1, hL]) hL6 (by rw [h2, hS]) hS6 (by omega) c4 h
            · obtain ⟨E, hE⟩ : ∃ E, (D.drop 6).drop 6 = E := ⟨_, rfl⟩
              have hEl : E.length = f - 13 := by rw [← hE, List.length_drop, List.length_drop]; omega
              obtain ⟨v, hv⟩ : ∃ v, val (E.take (S1 + 1)) = v := ⟨_, rfl⟩
              have hvl : v < 2 ^ (S1 + 1) := by rw [← hv]; exact Nat.lt_of_lt_of_le (val_lt _) (Nat.pow_le_pow_right (by omega) (by rw [List.length_take]; omega))
              have hx64 : v * 2 ^ (63 - L - S1) < 18446744073709551616 := by
                calc v * 2 ^ (63 - L - S1) < 2 ^ (S1 + 1) * 2 ^ (63 - L - S1) := Nat.mul_lt_mul_of_pos_right hvl (Nat.two_pow_pos _)
                  _ = 2 ^ (S1 + 1 + (63 - L - S1)) := by rw [← Nat.pow_add]
                  _ ≤ 2 ^ 64 := Nat.pow_le_pow_right (by omega) (by omega)
                  _ = 18446744073709551616 := rfl
              by_cases c5 : lead (v * 2 ^ (63 - L - S1)) = L ∧ trail (v * 2 ^ (63 - L - S1)) = 63 - L - S1
              · exfalso
                refine hbad _ (E.drop (S1 + 1)) hx64 ?_
                have hx0 : v * 2 ^ (63 - L - S1) ≠ 0 := by
                  intro e0
                  rw [e0] at c5
                  have := c5.1
                  simp [lead] at this
                  omega
                unfold encD
                rw [if_neg hx0, c5.1, c5.2, Nat.mul_div_cancel _ (Nat.two_pow_pos _), hd, show 63 - L - (63 - L - S1) = S1 by omega, show 64 - L - (63 - L - S1) = S1 + 1 by omega]
                have t1 : bitsOf L 6 = D.take 6 := by
                  have := bitsOf_val (D.take 6)
                  rw [hL, List.length_take, Nat.min_eq_left (by omega)] at this; exact this
                have t2 : bitsOf S1 6 = (D.drop 6).take 6 := by
                  have := bitsOf_val ((D.drop 6).take 6)
                  rw [hS, List.length_take, List.length_drop, Nat.min_eq_left (by omega)] at this; exact this
                have t3 : bitsOf v (S1 + 1) = E.take (S1 + 1) := by
                  have := bitsOf_val (E.take (S1 + 1))
                  rw [hv, List.length_take, Nat.min_eq_left (by omega)] at this; exact this
                rw [t1, t2, t3]
                simp only [List.cons_append, List.append_assoc, List.cons.injEq, true_and]
                rw [List.take_append_drop, ← hE, List.take_append_drop, List.take_append_drop]
              · exact xdiff_bad5 B g r s a L S1 v _ w hs (by omega) ⟨_, hd⟩ (by rw [h1, hL]) hL6 (by rw [h2, hS]) hS6 (by omega) (by rw [h3, hE, hv]) rfl hx64 (by
                  by_cases hl : lead (v * 2 ^ (63 - L - S1)) = L
                  · exact .inr (fun e => c5 ⟨hl, e⟩)
                  · exact .inl hl) h
end Go.Proofs.Ytodhnmflabehhaa
