import Derived.Test.YtipgdjjmmfkfiaaUtfP
import Derived.Laws.Runes
namespace Go.Proofs.Ytipgdjjmmfkfiaa.Hy
open Go.RowKit

/-! ### one sign; two texts -/
def enc (c : Nat) : List Nat :=
  if c < 128 then [c] else if c < 2048 then [192 + c / 64, 128 + c % 64]
  else if c < 65536 then [224 + c / 4096, 128 + c / 64 % 64, 128 + c % 64]
  else [240 + c / 262144, 128 + c / 4096 % 64, 128 + c / 64 % 64, 128 + c % 64]
theorem encode_bs (c : Int) (h0 : 0 ≤ c) (h1 : c ≤ 1114111) (h2 : c < 55296 ∨ 57343 < c) : bs (Utf8.encode c) = enc c.toNat := by
  obtain ⟨n, rfl⟩ := Int.eq_ofNat_of_zero_le h0
  have hv : Utf8.valid (n : Int) = true := by rw [validRune_eq]; unfold validRune; rw [decide_eq_true]; omega
  unfold Utf8.encode enc
  simp only [hv, if_true, Int.toNat_natCast]
  have hu : ∀ m : Nat, m < 256 → (UInt8.ofNat m).toNat = m := fun m hm => by simp; omega
  split
  · show [(UInt8.ofNat n).toNat] = _; rw [hu _ (by omega)]
  · split
    · show [(UInt8.ofNat _).toNat, (UInt8.ofNat _).toNat] = _; rw [hu _ (by omega), hu _ (by omega)]
    · split
      · show [(UInt8.ofNat _).toNat, (UInt8.ofNat _).toNat, (UInt8.ofNat _).toNat] = _; rw [hu _ (by omega), hu _ (by omega), hu _ (by omega)]
      · show [(UInt8.ofNat _).toNat, (UInt8.ofNat _).toNat, (UInt8.ofNat _).toNat, (UInt8.ofNat _).toNat] = _; rw [hu _ (by omega), hu _ (by omega), hu _ (by omega), hu _ (by omega)]
theorem enc_sgn (c : Nat) (h1 : c ≤ 1114111) (h2 : c < 55296 ∨ 57343 < c) : sgn (enc c) = (enc c).length ∧ fol ((enc c).getD 0 0) = false ∧ 1 ≤ (enc c).length ∧ szc ((enc c).getD 0 0) = (enc c).length ∧ (enc c).length ≤ 4 := by
  have hz : szc ((enc c).getD 0 0) = (enc c).length ∧ fol ((enc c).getD 0 0) = false ∧ 1 ≤ (enc c).length ∧ (enc c).length ≤ 4 ∧ (2 ≤ (enc c).length → sec ((enc c).getD 0 0) ((enc c).getD 1 0) = true ∧ ∀ j, 2 ≤ j → j < (enc c).length → fol ((enc c).getD j 0) = true) := by
    unfold enc
    by_cases a1 : c < 128
    · rw [if_pos a1]
      refine ⟨?_, ?_, by simp, by simp, fun h => by simp at h⟩
      · simp only [List.getD_cons_zero, List.length_cons, List.length_nil]; unfold szc; (repeat' split) <;> omega
      · simp only [List.getD_cons_zero]; unfold fol; simp; omega
    · rw [if_neg a1]
      by_cases a2 : c < 2048
      · rw [if_pos a2]
        refine ⟨?_, ?_, by simp, by simp, fun _ => ⟨?_, ?_⟩⟩
        · simp only [List.getD_cons_zero, List.length_cons, List.length_nil]; unfold szc; (repeat' split) <;> omega
        · simp only [List.getD_cons_zero]; unfold fol; simp; omega
        · simp only [List.getD_cons_zero, List.getD_cons_succ]; unfold sec fol; (repeat' split) <;> simp <;> omega
        · intro j hj hj2; simp at hj2; omega
      · rw [if_neg a2]
        by_cases a3 : c < 65536
        · rw [if_pos a3]
          refine ⟨?_, ?_, by simp, by simp, fun _ => ⟨?_, ?_⟩⟩
          · simp only [List.getD_cons_zero, List.length_cons, List.length_nil]; unfold szc; (repeat' split) <;> omega
          · simp only [List.getD_cons_zero]; unfold fol; simp; omega
          · simp only [List.getD_cons_zero, List.getD_cons_succ]; unfold sec fol; (repeat' split) <;> simp <;> omega
          · intro j hj hj2
            simp only [List.length_cons, List.length_nil] at hj2
            obtain rfl : j = 2 := by omega
            simp only [List.getD_cons_zero, List.getD_cons_succ]; unfold fol; simp; omega
        · rw [if_neg a3]
          refine ⟨?_, ?_, by simp, by simp, fun _ => ⟨?_, ?_⟩⟩
          · simp only [List.getD_cons_zero, List.length_cons, List.length_nil]; unfold szc; (repeat' split) <;> omega
          · simp only [List.getD_cons_zero]; unfold fol; simp; omega
          · simp only [List.getD_cons_zero, List.getD_cons_succ]; unfold sec fol; (repeat' split) <;> simp <;> omega
          · intro j hj hj2
            simp only [List.length_cons, List.length_nil] at hj2
            rcases (by omega : j = 2 ∨ j = 3) with rfl | rfl
            · simp only [List.getD_cons_zero, List.getD_cons_succ]; unfold fol; simp; omega
            · simp only [List.getD_cons_zero, List.getD_cons_succ]; unfold fol; simp; omega
  obtain ⟨z1, z2, z3, z4, z5⟩ := hz
  refine ⟨?_, z2, z3, z1, z4⟩
  by_cases h : (enc c).length = 1
  · rw [sgn_small _ (by omega) (by omega), z1]
  · obtain ⟨y1, y2⟩ := z5 (by omega)
    rw [sgn_all _ (by omega) (by omega) y1 (by rw [z1]; exact y2), z1]
theorem vld_bad (s : List Nat) (h : sgn s = 0) (hs : s ≠ []) : vld s = false := by
  cases e : vld s with
  | false => rfl
  | true => exact absurd h (vld_sgn s e hs).1
theorem vld_step (s : List Nat) (h : sgn s ≠ 0) : vld s = vld (s.drop (sgn s)) := by
  unfold vld
  have := (sgn_le s).1
  rw [whl_go s _ h (by omega), List.length_drop, show ((s.length : Nat) : Int) - (sgn s : Int) = ((s.length - sgn s : Nat) : Int) by omega]
  apply decide_eq_decide.2
  omega
theorem sgn_more (s t : List Nat) (h : sgn s = 0) (hs : s ≠ []) (ht : fol (t.getD 0 0) = false) : sgn (s ++ t) = 0 := by
  by_cases h0 : sgn (s ++ t) = 0
  · exact h0
  · exfalso
    have hp : 0 < s.length := List.length_pos_iff.2 hs
    by_cases hle : sgn (s ++ t) ≤ s.length
    · have := sgn_take (s ++ t) s.length h0 hle
      rw [List.take_left] at this
      omega
    · have hget : (s ++ t).getD s.length 0 = t.getD 0 0 := by
        rw [List.getD_eq_getElem?_getD, List.getElem?_append_right (Nat.le_refl _), Nat.sub_self, ← List.getD_eq_getElem?_getD]
      have hsc : sgn (s ++ t) = szc ((s ++ t).getD 0 0) := by
        cases e : s ++ t with
        | nil => rw [e] at h0; exact absurd rfl h0
        | cons a r => rw [e] at h0; exact (sgn_cons a r h0).1
      by_cases h1 : s.length = 1
      · rw [h1] at hget
        refine h0 (sgn_sec _ (by omega) ?_)
        rw [hget]
        unfold sec
        simp only [ht, Bool.and_false, ite_self]
      · exact h0 (sgn_fol _ s.length (by omega) (by omega) (by rw [hget]; exact ht))
theorem vld_append_sign (o : List Nat) (ho : sgn o = o.length) (ho1 : o ≠ []) (hf : fol (o.getD 0 0) = false) : ∀ (n : Nat) (s : List Nat), s.length ≤ n → vld (s ++ o) = vld s := by
  have hvo : vld o = true := by
    rw [vld_step o (by have := List.length_pos_iff.2 ho1; omega), ho, List.drop_length]; exact vld_nil
  intro n
  induction n with
  | zero =>
    intro s hs
    obtain rfl : s = [] := List.eq_nil_of_length_eq_zero (by omega)
    rw [List.nil_append, hvo, vld_nil]
  | succ n ih =>
    intro s hs
    by_cases hn : s = []
    · subst hn; rw [List.nil_append, hvo, vld_nil]
    · by_cases h0 : sgn s = 0
      · rw [vld_bad s h0 hn, vld_bad _ (sgn_more s o h0 hn hf) (by simp [hn])]
      · have hle := (sgn_le s).1
        rw [vld_step s h0, vld_step (s ++ o) (by rw [sgn_append s o h0]; exact h0), sgn_append s o h0, List.drop_append_of_le_length hle]
        exact ih _ (by rw [List.length_drop]; omega)
theorem vld_sign_append (o s : List Nat) (ho : sgn o = o.length) (ho1 : o ≠ []) : vld (o ++ s) = vld s := by
  have h : sgn o ≠ 0 := by have := List.length_pos_iff.2 ho1; omega
  rw [vld_step _ (by rw [sgn_append o s h]; exact h), sgn_append o s h, ho, List.drop_left]
end Go.Proofs.Ytipgdjjmmfkfiaa.Hy
