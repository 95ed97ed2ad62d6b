import Derived.Test.YtodhnmflabehhaaBitE
import Derived.Test.YtodhnmflabehhaaBitP
namespace Go.Proofs.Ytodhnmflabehhaa
open Hy

/-! ### the column's bits -/
def encD (d : Nat) : List Bool := if d = 0 then [false] else true :: (bitsOf (lead d) 6 ++ (bitsOf (63 - lead d - trail d) 6 ++ bitsOf (d / 2 ^ trail d) (64 - lead d - trail d)))
def encT : Nat → List Nat → List Bool
  | _, [] => []
  | p, x :: r => encD (x ^^^ p) ++ encT x r
def encL : List Nat → List Bool
  | [] => []
  | x :: r => bitsOf x 64 ++ encT x r
def u64n (l : List Nat) : Prop := ∀ x ∈ l, x < 18446744073709551616
theorem xor_lt {a b : Nat} (ha : a < 18446744073709551616) (hb : b < 18446744073709551616) : a ^^^ b < 18446744073709551616 := Nat.xor_lt_two_pow (n := 64) ha hb
theorem ends_says (n : Nat) (hn : n ≠ 0) (h : n < 18446744073709551616) : lead n + trail n ≤ 63 ∧ n / 2 ^ trail n % 2 = 1 ∧ n / 2 ^ trail n / 2 ^ (63 - lead n - trail n) = 1 ∧ n / 2 ^ trail n * 2 ^ trail n = n := by
  obtain ⟨l1, l2⟩ := lead_says n hn h
  obtain ⟨i1, i2, i3, i4⟩ := tz_says 64 n hn h
  have ht : trail n = tz 64 n := by unfold trail; rw [if_neg hn]
  rw [ht]
  have hge : 2 ^ tz 64 n ≤ n := by
    rcases Nat.lt_or_ge n (2 ^ tz 64 n) with h | h
    · rw [Nat.div_eq_of_lt h] at i2; omega
    · exact h
  have hlt : n < 2 ^ (63 - lead n + 1) := by
    have := Nat.div_add_mod n (2 ^ (63 - lead n))
    have := Nat.mod_lt n (Nat.two_pow_pos (63 - lead n))
    rw [Nat.pow_succ]
    rw [l2] at *; omega
  have hle : tz 64 n < 63 - lead n + 1 := by
    rcases Nat.lt_or_ge (tz 64 n) (63 - lead n + 1) with h | h
    · exact h
    · have := Nat.pow_le_pow_right (show 0 < 2 by omega) h; omega
  refine ⟨by omega, i2, ?_, ?_⟩
  · rw [Nat.div_div_eq_div_mul, ← Nat.pow_add, show tz 64 n + (63 - lead n - tz 64 n) = 63 - lead n by omega, l2]
  · exact Nat.div_mul_cancel (Nat.dvd_of_mod_eq_zero i3)
theorem size_lt (n : Nat) (hn : n ≠ 0) (h : n < 18446744073709551616) : n / 2 ^ trail n < 2 ^ (64 - lead n - trail n) := by
  obtain ⟨h1, _, h3, _⟩ := ends_says n hn h
  generalize n / 2 ^ trail n = q at *
  have := Nat.div_add_mod q (2 ^ (63 - lead n - trail n))
  have h4 := Nat.mod_lt q (Nat.two_pow_pos (63 - lead n - trail n))
  rw [h3] at this
  rw [show 64 - lead n - trail n = 63 - lead n - trail n + 1 by omega, Nat.pow_succ]
  omega
theorem encD_pos (d : Nat) : 1 ≤ (encD d).length := by unfold encD; split <;> simp
theorem encD_le (d : Nat) : (encD d).length ≤ 77 := by
  unfold encD; split
  · simp
  · simp only [List.length_cons, List.length_append, bitsOf_length]; omega
theorem encD_inj {d d' : Nat} {A B : List Bool} (hd : d < 18446744073709551616) (hd' : d' < 18446744073709551616) (h : encD d ++ A = encD d' ++ B) : d = d' ∧ A = B := by
  unfold encD at h
  by_cases h0 : d = 0
  · rw [if_pos h0] at h
    by_cases h1 : d' = 0
    · rw [if_pos h1] at h
      simp at h
      exact ⟨by omega, h⟩
    · rw [if_neg h1] at h
      simp at h
  · rw [if_neg h0] at h
    by_cases h1 : d' = 0
    · rw [if_pos h1] at h
      simp at h
    · rw [if_neg h1] at h
      simp only [List.cons_append, List.append_assoc, List.cons.injEq, true_and] at h
      obtain ⟨s1, s2, s3, s4⟩ := ends_says d h0 hd
      obtain ⟨t1, t2, t3, t4⟩ := ends_says d' h1 hd'
      have z1 := size_lt d h0 hd
      have z2 := size_lt d' h1 hd'
      obtain ⟨e1, e2⟩ := List.append_inj h (by rw [bitsOf_length, bitsOf_length])
      obtain ⟨e3, e4⟩ := List.append_inj e2 (by rw [bitsOf_length, bitsOf_length])
      have f1 := congrArg val e1
      have f2 := congrArg val e3
      rw [val_small _ _ (by omega), val_small _ _ (by omega)] at f1 f2
      have ht : trail d = trail d' := by omega
      rw [f1, ht] at e4
      obtain ⟨e5, e6⟩ := List.append_inj e4 (by rw [bitsOf_length, bitsOf_length])
      have f3 := congrArg val e5
      rw [f1, ht] at z1
      rw [ht] at s4
      rw [val_small _ _ z1, val_small _ _ z2] at f3
      exact ⟨by rw [← s4, f3, t4], e6⟩
theorem xor_cancel {a b p : Nat} (h : a ^^^ p = b ^^^ p) : a = b := by
  have := congrArg (· ^^^ p) h
  simpa [Nat.xor_assoc, Nat.xor_self] using this
theorem encT_inj : ∀ (vs ws : List Nat) (p : Nat) (A B : List Bool), p < 18446744073709551616 → u64n vs → u64n ws → vs.length ≤ ws.length → encT p vs ++ A = encT p ws ++ B → ∃ t q, ws = vs ++ t ∧ q < 18446744073709551616 ∧ A = encT q t ++ B := by
  intro vs
  induction vs with
  | nil => intro ws p A B hp _ _ _ h; exact ⟨ws, p, rfl, hp, by simpa [encT] using h⟩
  | cons x vs ih =>
    intro ws p A B hp hv hw hl h
    cases ws with
    | nil => simp at hl
    | cons y ws =>
      simp only [encT, List.append_assoc] at h
      have hx := hv x (by simp)
      have hy := hw y (by simp)
      obtain ⟨e1, e2⟩ := encD_inj (xor_lt hx hp) (xor_lt hy hp) h
      obtain rfl := xor_cancel e1
      obtain ⟨t, q, rfl, hq, e⟩ := ih ws x A B hx (fun z hz => hv z (by simp [hz])) (fun z hz => hw z (by simp [hz])) (by simpa using hl) e2
      exact ⟨t, q, rfl, hq, e⟩
/-- Two readings of one text: the shorter one begins the longer. -/
theorem encL_inj (vs ws : List Nat) (A B : List Bool) (hv : u64n vs) (hw : u64n ws) (hl : vs.length ≤ ws.length) (h : encL vs ++ A = encL ws ++ B) : ∃ t, ws = vs ++ t ∧ t.length + B.length ≤ A.length ∧ (t = [] → A = B) := by
  have hT : ∀ (t : List Nat) q, t.length ≤ (encT q t).length := by
    intro t
    induction t with
    | nil => intro q; simp
    | cons a t ih => intro q; simp only [encT, List.length_append, List.length_cons]; have := encD_pos (a ^^^ q); have := ih a; omega
  cases vs with
  | nil =>
    refine ⟨ws, rfl, ?_, by rintro rfl; simpa [encL] using h⟩
    have := congrArg List.length h
    cases ws with
    | nil => simp [encL] at this; simp; omega
    | cons y ws => simp only [encL, List.nil_append, List.length_append, bitsOf_length, List.length_cons] at this ⊢; have := hT ws y; omega
  | cons x vs =>
    cases ws with
    | nil => simp at hl
    | cons y ws =>
      simp only [encL, List.append_assoc] at h
      obtain ⟨e1, e2⟩ := List.append_inj h (by rw [bitsOf_length, bitsOf_length])
      have hx := hv x (by simp)
      have hy := hw y (by simp)
      have f1 := congrArg val e1
      rw [val_small _ _ (by simpa using hx), val_small _ _ (by simpa using hy)] at f1
      subst f1
      obtain ⟨t, q, rfl, _, e⟩ := encT_inj vs ws x A B hx (fun z hz => hv z (by simp [hz])) (fun z hz => hw z (by simp [hz])) (by simpa using hl) e2
      refine ⟨t, rfl, ?_, by rintro rfl; simpa [encT] using e⟩
      have := congrArg List.length e
      rw [List.length_append] at this
      have := hT t q
      omega
/-- What comes next is a difference. -/
theorem encL_step (vs ws : List Nat) (A B : List Bool) (hv : u64n vs) (hw : u64n ws) (h0 : vs ≠ []) (hl : vs.length < ws.length) (h : encL vs ++ A = encL ws ++ B) : ∃ x R, x < 18446744073709551616 ∧ A = encD x ++ R := by
  cases vs with
  | nil => exact absurd rfl h0
  | cons x vs =>
    cases ws with
    | nil => simp at hl
    | cons y ws =>
      simp only [encL, List.append_assoc] at h
      obtain ⟨e1, e2⟩ := List.append_inj h (by rw [bitsOf_length, bitsOf_length])
      have hx := hv x (by simp)
      have hy := hw y (by simp)
      have f1 := congrArg val e1
      rw [val_small _ _ (by simpa using hx), val_small _ _ (by simpa using hy)] at f1
      subst f1
      have hw' := hw
      obtain ⟨t, q, rfl, hq, e⟩ := encT_inj vs ws x A B hx (fun z hz => hv z (by simp [hz])) (fun z hz => hw z (by simp [hz])) (by simp at hl; omega) e2
      cases t with
      | nil => simp at hl
      | cons z t =>
        simp only [encT, List.append_assoc] at e
        exact ⟨_, _, xor_lt (hw z (by simp)) hq, e⟩
/-- A number more. -/
theorem encT_snoc : ∀ (vs : List Nat) (p x : Nat), encT p (vs ++ [x]) = encT p vs ++ encD (x ^^^ (vs.getLast?.getD p)) := by
  intro vs
  induction vs with
  | nil => intro p x; simp [encT]
  | cons a vs ih =>
    intro p x
    simp only [List.cons_append, encT, ih, List.append_assoc]
    rw [List.getLast?_cons]
    cases vs.getLast? <;> rfl
theorem encL_snoc (vs : List Nat) (x : Nat) (h : vs ≠ []) : encL (vs ++ [x]) = encL vs ++ encD (x ^^^ (vs.getLast?.getD 0)) := by
  cases vs with
  | nil => exact absurd rfl h
  | cons a vs =>
    simp only [List.cons_append, encL, encT_snoc, List.append_assoc]
    rw [List.getLast?_cons]
    cases vs.getLast? <;> rfl
theorem encL_one (x : Nat) : encL [x] = bitsOf x 64 := by simp [encL, encT]
theorem encT_len : ∀ (t : List Nat) q, (encT q t).length ≤ 77 * t.length := by
  intro t
  induction t with
  | nil => intro q; simp [encT]
  | cons a t ih => intro q; simp only [encT, List.length_append, List.length_cons]; have := encD_le (a ^^^ q); have := ih a; omega
theorem encL_len (l : List Nat) : (encL l).length ≤ 77 * l.length := by
  cases l with
  | nil => simp [encL]
  | cons a t => simp only [encL, List.length_append, List.length_cons, bitsOf_length]; have := encT_len t a; omega
theorem encL_pos (l : List Nat) (h : l ≠ []) : 64 ≤ (encL l).length := by
  cases l with
  | nil => exact absurd rfl h
  | cons a t => simp only [encL, List.length_append, bitsOf_length]; omega

/-! ### a text as a column -/
def zeros (k : Nat) : List Bool := List.replicate k false
/-- A text is a column of these numbers. -/
def ColX (s : ByteArray) (n : Nat) (l : List Nat) : Prop := l.length = n ∧ u64n l ∧ ∃ k, k < 8 ∧ unp (bs s) = encL l ++ zeros k
def colT (l : List Nat) : ByteArray := st (pk (encL l))
theorem col_back (l : List Nat) (h : u64n l) : ColX (colT l) l.length l := by
  refine ⟨rfl, h, _, ?_, by unfold colT; rw [bs_st _ (pk_okB _)]; exact unp_pk _ _ (Nat.le_refl _)⟩
  omega
theorem col_text (s : ByteArray) (n : Nat) (l : List Nat) (h : ColX s n l) : colT l = s := by
  obtain ⟨_, _, k, hk, e⟩ := h
  unfold colT
  rw [pk_zeros (bs s) (bs_ok s) _ k hk e, st_bs]
theorem col_more (l : List Nat) (h : u64n l) (x : Nat) (l' : List Nat) : ¬ ColX (colT l ++ st [x]) l.length l' := by
  rintro ⟨h1, h2, k', hk', e⟩
  obtain ⟨_, _, k, hk, e0⟩ := col_back l h
  rw [bs_append, unp_append, e0] at e
  rw [List.append_assoc] at e
  obtain ⟨t, rfl, ht, _⟩ := encL_inj l l' _ _ h h2 (by omega) e
  have h8 := unp_length (bs (st [x]))
  rw [bs_length, st_size] at h8
  obtain rfl : t = [] := List.eq_nil_of_length_eq_zero (by rw [List.length_append] at h1; omega)
  rw [List.append_nil] at e
  have := congrArg List.length e
  simp only [List.length_append, zeros, List.length_replicate, h8, List.length_cons, List.length_nil] at this
  omega
theorem col_count (l : List Nat) (h : u64n l) (n : Nat) (hn : l.length + 8 ≤ n) (l' : List Nat) : ¬ ColX (colT l) n l' := by
  rintro ⟨h1, h2, k', hk', e⟩
  obtain ⟨_, _, k, hk, e0⟩ := col_back l h
  rw [e0] at e
  obtain ⟨t, rfl, ht, _⟩ := encL_inj l l' _ _ h h2 (by omega) e
  simp only [zeros, List.length_replicate, List.length_append] at ht h1
  omega
theorem colT_size (l : List Nat) : (colT l).size = ((encL l).length + 7) / 8 := by unfold colT; rw [st_size, pk_length]
theorem col_cut (l : List Nat) (h : u64n l) (hl : l ≠ []) (l' : List Nat) : ¬ ColX ((colT l).extract 0 ((colT l).size - 1)) l.length l' := by
  rintro ⟨h1, h2, k', hk', e⟩
  obtain ⟨_, _, k, hk, e0⟩ := col_back l h
  have hz := colT_size l
  have hp := encL_pos l hl
  rw [bs_extract, List.drop_zero] at e
  have e1 : unp (bs (colT l)) = unp ((bs (colT l)).take ((colT l).size - 1)) ++ unp ((bs (colT l)).drop ((colT l).size - 1)) := by rw [← unp_append, List.take_append_drop]
  rw [e0, e] at e1
  have el := congrArg List.length e
  rw [unp_length, List.length_take, bs_length, List.length_append, zeros, List.length_replicate] at el
  rw [List.append_assoc] at e1
  obtain ⟨t, rfl, ht, _⟩ := encL_inj l l' _ _ h h2 (by omega) e1
  obtain rfl : t = [] := List.eq_nil_of_length_eq_zero (by rw [List.length_append] at h1; omega)
  rw [List.append_nil] at el
  omega
end Go.Proofs.Ytodhnmflabehhaa
