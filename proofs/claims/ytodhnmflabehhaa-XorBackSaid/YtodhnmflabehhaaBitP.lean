import Derived.Test.YtodhnmflabehhaaNum
namespace Go.Proofs.Ytodhnmflabehhaa.Hy
open Go.RowKit

/-! ### rows of bits, the highest first -/
def val : List Bool → Nat
  | [] => 0
  | b :: r => b.toNat * 2 ^ r.length + val r
def bitsOf (n : Nat) : Nat → List Bool
  | 0 => []
  | k + 1 => (n / 2 ^ k % 2 == 1) :: bitsOf n k
theorem bitsOf_length (n k : Nat) : (bitsOf n k).length = k := by induction k with | zero => rfl | succ k ih => simp [bitsOf, ih]
theorem val_append (a b : List Bool) : val (a ++ b) = val a * 2 ^ b.length + val b := by
  induction a with
  | nil => simp [val]
  | cons x r ih => simp only [List.cons_append, val, ih, List.length_append, Nat.pow_add, Nat.add_mul, Nat.mul_assoc, Nat.add_assoc]
theorem val_lt (l : List Bool) : val l < 2 ^ l.length := by
  induction l with
  | nil => simp [val]
  | cons b r ih =>
    simp only [val, List.length_cons, Nat.pow_succ]
    cases b <;> simp <;> omega
theorem val_bitsOf (n k : Nat) : val (bitsOf n k) = n % 2 ^ k := by
  induction k with
  | zero => simp [bitsOf, val, Nat.mod_one]
  | succ k ih =>
    simp only [bitsOf, val, ih, bitsOf_length]
    have h := Nat.mod_two_eq_zero_or_one (n / 2 ^ k)
    have e : n % 2 ^ (k + 1) = n / 2 ^ k % 2 * 2 ^ k + n % 2 ^ k := by
      rw [Nat.pow_succ, Nat.mod_mul, Nat.mul_comm (2 ^ k), Nat.add_comm]
    rw [e]
    rcases h with h | h <;> simp [h]
theorem val_small (n k : Nat) (h : n < 2 ^ k) : val (bitsOf n k) = n := by rw [val_bitsOf, Nat.mod_eq_of_lt h]
theorem val_inj : ∀ {a b : List Bool}, a.length = b.length → val a = val b → a = b := by
  intro a
  induction a with
  | nil => intro b h _; exact (List.eq_nil_of_length_eq_zero h.symm).symm
  | cons x r ih =>
    intro b h hv
    cases b with
    | nil => simp at h
    | cons y t =>
      simp only [List.length_cons, Nat.add_right_cancel_iff] at h
      simp only [val] at hv
      have h1 := val_lt r
      have h2 := val_lt t
      rw [h] at hv h1
      have hxy : x = y := by cases x <;> cases y <;> simp at hv ⊢ <;> omega
      subst hxy
      rw [ih h (by omega)]
theorem bitsOf_val (l : List Bool) : bitsOf (val l) l.length = l := val_inj (bitsOf_length _ _) (val_small _ _ (val_lt l))
theorem bitsOf_append (n a b : Nat) : bitsOf n (a + b) = bitsOf (n / 2 ^ b) a ++ bitsOf n b := by
  apply val_inj
  · simp [bitsOf_length]
  · rw [val_append, val_bitsOf, val_bitsOf, val_bitsOf, bitsOf_length, Nat.add_comm a b, Nat.pow_add, Nat.mod_mul, Nat.mul_comm (2 ^ b), Nat.add_comm]
/-- A piece of a number's bits. -/
theorem bitsOf_piece (n p t q : Nat) : ((bitsOf n (p + t + q)).drop p).take t = bitsOf (n / 2 ^ q) t := by
  rw [Nat.add_assoc, bitsOf_append n p (t + q), List.drop_left' (bitsOf_length _ _), bitsOf_append n t q, List.take_left' (bitsOf_length _ _)]

/-! ### bytes -/
def pad (l : List Bool) : Nat := val l * 2 ^ (8 - l.length)
def pk (l : List Bool) : List Nat := if h : l = [] then [] else pad (l.take 8) :: pk (l.drop 8)
termination_by l.length
decreasing_by
  have := List.length_pos_iff.2 h
  rw [List.length_drop]; omega
theorem pk_nil : pk [] = [] := by rw [pk]; simp
theorem pk_cons (l : List Bool) (h : l ≠ []) : pk l = pad (l.take 8) :: pk (l.drop 8) := by rw [pk, dif_neg h]
theorem pad_lt (l : List Bool) (h : l.length ≤ 8) : pad l < 256 := by
  unfold pad
  have := val_lt l
  calc val l * 2 ^ (8 - l.length) < 2 ^ l.length * 2 ^ (8 - l.length) := Nat.mul_lt_mul_of_pos_right this (Nat.two_pow_pos _)
    _ = 2 ^ 8 := by rw [← Nat.pow_add]; congr 1; omega
theorem pk_all : ∀ (n : Nat) (l : List Bool), l.length ≤ n → okB (pk l) ∧ (pk l).length = (l.length + 7) / 8 := by
  intro n
  induction n with
  | zero =>
    intro l h
    obtain rfl : l = [] := List.eq_nil_of_length_eq_zero (by omega)
    rw [pk_nil]; exact ⟨fun x hx => by simp at hx, rfl⟩
  | succ n ih =>
    intro l h
    by_cases hl : l = []
    · subst hl; rw [pk_nil]; exact ⟨fun x hx => by simp at hx, rfl⟩
    · have hp := List.length_pos_iff.2 hl
      obtain ⟨i1, i2⟩ := ih (l.drop 8) (by rw [List.length_drop]; omega)
      rw [pk_cons l hl]
      refine ⟨fun x hx => ?_, ?_⟩
      · rcases List.mem_cons.1 hx with rfl | hx
        · exact pad_lt _ (by rw [List.length_take]; omega)
        · exact i1 x hx
      · rw [List.length_cons, i2, List.length_drop]; omega
theorem pk_okB (l : List Bool) : okB (pk l) := (pk_all _ l (Nat.le_refl _)).1
theorem pk_length (l : List Bool) : (pk l).length = (l.length + 7) / 8 := (pk_all _ l (Nat.le_refl _)).2
theorem pk_one (l : List Bool) (h : l ≠ []) (h8 : l.length ≤ 8) : pk l = [pad l] := by
  rw [pk_cons l h, List.take_of_length_le h8, List.drop_of_length_le h8, pk_nil]
/-- Bits behind full bytes. -/
theorem pk_put0 : ∀ (n : Nat) (l b : List Bool), l.length ≤ n → l.length % 8 = 0 → b ≠ [] → b.length ≤ 8 → pk (l ++ b) = pk l ++ [pad b] := by
  intro n
  induction n with
  | zero =>
    intro l b h _ hb h8
    obtain rfl : l = [] := List.eq_nil_of_length_eq_zero (by omega)
    rw [List.nil_append, pk_nil, pk_one b hb h8]; rfl
  | succ n ih =>
    intro l b h h0 hb h8
    by_cases hl : l = []
    · subst hl; rw [List.nil_append, pk_nil, pk_one b hb h8]; rfl
    · have hp := List.length_pos_iff.2 hl
      rw [pk_cons l hl, pk_cons (l ++ b) (by simp [hl]), List.take_append_of_le_length (by omega), List.drop_append_of_le_length (by omega), ih _ _ (by rw [List.length_drop]; omega) (by rw [List.length_drop]; omega) hb h8]
      rfl
theorem pad_join (r b : List Bool) (h : r.length + b.length ≤ 8) : pad (r ++ b) = pad r + val b * 2 ^ (8 - r.length - b.length) := by
  unfold pad
  rw [val_append, List.length_append, Nat.add_mul, Nat.mul_assoc, ← Nat.pow_add]
  congr 2
  · congr 1; omega
  · congr 1; omega
/-- Bits behind a byte that has room. -/
theorem pk_put1 : ∀ (n : Nat) (l b : List Bool), l.length ≤ n → l.length % 8 ≠ 0 → b.length ≤ 8 - l.length % 8 → ∃ P x, pk l = P ++ [x] ∧ pk (l ++ b) = P ++ [x + val b * 2 ^ (8 - l.length % 8 - b.length)] ∧ x % 2 ^ (8 - l.length % 8) = 0 ∧ x < 256 := by
  intro n
  induction n with
  | zero => intro l b h h0; exact absurd (by omega) h0
  | succ n ih =>
    intro l b h h0 hb
    have hl : l ≠ [] := by rintro rfl; simp at h0
    by_cases h8 : l.length < 8
    · have hm : l.length % 8 = l.length := Nat.mod_eq_of_lt h8
      rw [hm] at hb ⊢
      refine ⟨[], pad l, by rw [pk_one l hl (by omega)]; rfl, ?_, ?_, pad_lt l (by omega)⟩
      · rw [pk_one (l ++ b) (by simp [hl]) (by rw [List.length_append]; omega), pad_join l b (by omega)]; rfl
      · unfold pad; exact Nat.mul_mod_left _ _
    · obtain ⟨P, x, h1, h2, h3, h4⟩ := ih (l.drop 8) b (by rw [List.length_drop]; omega) (by rw [List.length_drop]; omega) (by rw [List.length_drop]; omega)
      have hm : (l.drop 8).length % 8 = l.length % 8 := by rw [List.length_drop]; omega
      rw [hm] at h2 h3
      refine ⟨pad (l.take 8) :: P, x, by rw [pk_cons l hl, h1]; rfl, ?_, h3, h4⟩
      rw [pk_cons (l ++ b) (by simp [hl]), List.take_append_of_le_length (by omega), List.drop_append_of_le_length (by omega), h2]; rfl
/-- The byte that is written to, whether it is new or not. -/
theorem pk_put (l b : List Bool) (hb0 : b ≠ []) (hb : b.length ≤ 8 - l.length % 8) : ∃ P x, (if l.length % 8 = 0 then pk l ++ [0] else pk l) = P ++ [x] ∧ pk (l ++ b) = P ++ [x + val b * 2 ^ (8 - l.length % 8 - b.length)] ∧ x % 2 ^ (8 - l.length % 8) = 0 ∧ x < 256 := by
  by_cases h : l.length % 8 = 0
  · rw [if_pos h]
    refine ⟨pk l, 0, rfl, ?_, by simp, by decide⟩
    rw [pk_put0 _ l b (Nat.le_refl _) h hb0 (by omega), Nat.zero_add, h]; rfl
  · rw [if_neg h]
    exact pk_put1 _ l b (Nat.le_refl _) h hb
/-! ### a text's bits -/
def unp (l : List Nat) : List Bool := l.flatMap fun c => bitsOf c 8
theorem unp_nil : unp [] = [] := rfl
theorem unp_cons (c : Nat) (l : List Nat) : unp (c :: l) = bitsOf c 8 ++ unp l := rfl
theorem unp_append (a b : List Nat) : unp (a ++ b) = unp a ++ unp b := by simp [unp]
theorem unp_length (l : List Nat) : (unp l).length = 8 * l.length := by
  induction l with
  | nil => rfl
  | cons c r ih => rw [unp_cons, List.length_append, bitsOf_length, ih, List.length_cons]; omega
theorem val_zeros (k : Nat) : val (List.replicate k false) = 0 := by
  induction k with
  | zero => rfl
  | succ k ih => rw [List.replicate_succ]; simp [val, ih]
theorem bitsOf_pad (l : List Bool) (h : l.length ≤ 8) : bitsOf (pad l) 8 = l ++ List.replicate (8 - l.length) false := by
  apply val_inj
  · rw [bitsOf_length, List.length_append, List.length_replicate]; omega
  · rw [val_small _ _ (pad_lt l h), val_append, val_zeros, List.length_replicate]; rfl
theorem unp_pk : ∀ (n : Nat) (l : List Bool), l.length ≤ n → unp (pk l) = l ++ List.replicate (8 * ((l.length + 7) / 8) - l.length) false := by
  intro n
  induction n with
  | zero =>
    intro l h
    obtain rfl : l = [] := List.eq_nil_of_length_eq_zero (by omega)
    rw [pk_nil]; rfl
  | succ n ih =>
    intro l h
    by_cases hl : l = []
    · subst hl; rw [pk_nil]; rfl
    · have hp := List.length_pos_iff.2 hl
      rw [pk_cons l hl, unp_cons]
      by_cases h8 : l.length ≤ 8
      · rw [List.take_of_length_le h8, List.drop_of_length_le h8, pk_nil, unp_nil, List.append_nil, bitsOf_pad l h8]
        congr 2; omega
      · rw [ih _ (by rw [List.length_drop]; omega), bitsOf_pad _ (by rw [List.length_take]; omega), List.length_take, Nat.min_eq_left (by omega)]
        rw [Nat.sub_self, List.replicate_zero, List.append_nil, ← List.append_assoc, List.take_append_drop, List.length_drop]
        congr 2; omega
theorem pk_unp (L : List Nat) (h : okB L) : pk (unp L) = L := by
  induction L with
  | nil => rw [unp_nil, pk_nil]
  | cons c r ih =>
    have h8 := bitsOf_length c 8
    rw [unp_cons, pk_cons _ (by intro e; have := congrArg List.length e; rw [List.length_append, h8] at this; simp at this), List.take_left' h8, List.drop_left' h8, ih (fun x hx => h x (by simp [hx]))]
    congr 1
    unfold pad
    rw [h8, val_small _ _ (h c (by simp))]; simp
/-- Zeros behind, up to the end of the byte, make no other text. -/
theorem pk_zeros (L : List Nat) (h : okB L) (l : List Bool) (k : Nat) (hk : k < 8) (e : unp L = l ++ List.replicate k false) : pk l = L := by
  have hl := congrArg List.length e
  rw [unp_length, List.length_append, List.length_replicate] at hl
  have h1 := unp_pk _ l (Nat.le_refl _)
  rw [show 8 * ((l.length + 7) / 8) - l.length = k by omega, ← e] at h1
  have h2 := pk_unp (pk l) (pk_okB l)
  rw [h1, pk_unp L h] at h2
  exact h2.symm
/-- A piece within a byte. -/
theorem unp_piece (L : List Nat) (at_ t : Nat) (c : Nat) (hc : L[at_ / 8]? = some c) (ht : at_ % 8 + t ≤ 8) : ((unp L).drop at_).take t = bitsOf (c / 2 ^ (8 - at_ % 8 - t)) t := by
  obtain ⟨p, hp⟩ : ∃ p, at_ / 8 = p := ⟨_, rfl⟩
  obtain ⟨q, hq⟩ : ∃ q, at_ % 8 = q := ⟨_, rfl⟩
  have ha : at_ = 8 * p + q := by omega
  rw [hp] at hc
  rw [hq] at ht ⊢
  have hlt : p < L.length := by
    rcases Nat.lt_or_ge p L.length with h | h
    · exact h
    · rw [List.getElem?_eq_none h] at hc; cases hc
  have hs : L = L.take p ++ c :: L.drop (p + 1) := by
    rw [List.getElem?_eq_getElem hlt] at hc
    rw [← Option.some.inj hc, ← List.drop_eq_getElem_cons hlt, List.take_append_drop]
  have hlen : (unp (L.take p)).length = 8 * p := by rw [unp_length, List.length_take]; omega
  rw [hs, unp_append, unp_cons, ha, ← List.drop_drop, List.drop_left' hlen]
  rw [List.drop_append_of_le_length (by rw [bitsOf_length]; omega), List.take_append_of_le_length (by rw [List.length_drop, bitsOf_length]; omega)]
  have := bitsOf_piece c q t (8 - q - t)
  rw [show q + t + (8 - q - t) = 8 by omega] at this
  exact this
end Go.Proofs.Ytodhnmflabehhaa.Hy
