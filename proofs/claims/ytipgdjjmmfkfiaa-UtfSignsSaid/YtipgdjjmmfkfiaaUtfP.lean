import Derived.Test.YtipgdjjmmfkfiaaNum
namespace Go.Proofs.Ytipgdjjmmfkfiaa.Hy
open Go.RowKit

/-! ### signs of UTF-8 -/
def szc (c : Nat) : Nat := if c > 244 then 0 else if 128 ≤ c ∧ c < 194 then 0 else if c ≥ 240 then 4 else if c ≥ 224 then 3 else if c ≥ 194 then 2 else 1
def fol (c : Nat) : Bool := decide (128 ≤ c) && decide (c ≤ 191)
def sec (f c : Nat) : Bool := if f = 224 then decide (160 ≤ c) && fol c else if f = 237 then decide (c ≤ 159) && fol c else if f = 240 then decide (144 ≤ c) && fol c else if f = 244 then decide (c ≤ 143) && fol c else fol c
def sgn : List Nat → Nat
  | [] => 0
  | c :: r => if szc c = 0 then 0 else if r.length + 1 < szc c then 0 else if szc c = 1 then 1 else
      if sec c (r.getD 0 0) && ((r.take (szc c - 1)).drop 1).all fol then szc c else 0
theorem szc_le (c : Nat) : szc c ≤ 4 := by unfold szc; (repeat' split) <;> omega
theorem sgn_cons (c : Nat) (r : List Nat) (h : sgn (c :: r) ≠ 0) : sgn (c :: r) = szc c ∧ szc c ≤ r.length + 1 ∧ 1 ≤ szc c := by
  simp only [sgn] at h ⊢
  by_cases h0 : szc c = 0
  · rw [if_pos h0] at h; exact absurd rfl h
  · rw [if_neg h0] at h ⊢
    by_cases h1 : r.length + 1 < szc c
    · rw [if_pos h1] at h; exact absurd rfl h
    · rw [if_neg h1] at h ⊢
      by_cases h2 : szc c = 1
      · rw [if_pos h2] at h ⊢; omega
      · rw [if_neg h2] at h ⊢
        split at h
        · rename_i h3; rw [if_pos h3]; omega
        · exact absurd rfl h
theorem sgn_le (s : List Nat) : sgn s ≤ s.length ∧ sgn s ≤ 4 := by
  cases s with
  | nil => simp [sgn]
  | cons c r =>
    by_cases h : sgn (c :: r) = 0
    · rw [h]; omega
    · have := sgn_cons c r h
      have := szc_le c
      simp only [List.length_cons]; omega
theorem sgn_append (p q : List Nat) (h : sgn p ≠ 0) : sgn (p ++ q) = sgn p := by
  cases p with
  | nil => exact absurd rfl h
  | cons c r =>
    obtain ⟨h1, h2, h3⟩ := sgn_cons c r h
    rw [List.cons_append]
    have e1 : (r ++ q).take (szc c - 1) = r.take (szc c - 1) := List.take_append_of_le_length (by omega)
    simp only [sgn]
    rw [e1, if_neg (by omega), if_neg (by rw [List.length_append]; omega), if_neg (show ¬ szc c = 0 by omega), if_neg (show ¬ r.length + 1 < szc c by omega)]
    by_cases h4 : szc c = 1
    · rw [if_pos h4, if_pos h4]
    · have e2 : (r ++ q).getD 0 0 = r.getD 0 0 := by
        cases r with
        | nil => simp at h2; omega
        | cons a t => rfl
      rw [if_neg h4, if_neg h4, e2]
theorem sgn_take (s : List Nat) (m : Nat) (h : sgn s ≠ 0) (hm : sgn s ≤ m) : sgn (s.take m) = sgn s := by
  cases s with
  | nil => exact absurd rfl h
  | cons c r =>
    obtain ⟨h1, h2, h3⟩ := sgn_cons c r h
    rw [h1] at hm
    obtain ⟨m, rfl⟩ : ∃ n, m = n + 1 := ⟨m - 1, by omega⟩
    rw [List.take_succ_cons]
    have e1 : (r.take m).take (szc c - 1) = r.take (szc c - 1) := by rw [List.take_take, Nat.min_eq_left (by omega)]
    simp only [sgn]
    rw [e1, if_neg (show ¬ szc c = 0 by omega), if_neg (by rw [List.length_take]; omega), if_neg (show ¬ szc c = 0 by omega), if_neg (show ¬ r.length + 1 < szc c by omega)]
    by_cases h4 : szc c = 1
    · rw [if_pos h4, if_pos h4]
    · have e2 : (r.take m).getD 0 0 = r.getD 0 0 := by
        cases r with
        | nil => simp
        | cons a t =>
          obtain ⟨m, rfl⟩ : ∃ n, m = n + 1 := ⟨m - 1, by omega⟩
          rfl
      rw [if_neg h4, if_neg h4, e2]
theorem sgn_of_take (s : List Nat) (m : Nat) (h : sgn (s.take m) ≠ 0) : sgn s = sgn (s.take m) := by
  have := sgn_append (s.take m) (s.drop m) h
  rwa [List.take_append_drop] at this

/-- How many bytes the whole signs in front have that have so many at most. -/
def whl (s : List Nat) (m : Int) : Nat := if h : sgn s = 0 ∨ m < sgn s then 0 else sgn s + whl (s.drop (sgn s)) (m - sgn s)
termination_by s.length
decreasing_by
  have := (sgn_le s).1
  rw [List.length_drop]; omega
theorem whl_stop (s : List Nat) (m : Int) (h : sgn s = 0 ∨ m < sgn s) : whl s m = 0 := by rw [whl]; simp [h]
theorem whl_go (s : List Nat) (m : Int) (h0 : sgn s ≠ 0) (h1 : (sgn s : Int) ≤ m) : whl s m = sgn s + whl (s.drop (sgn s)) (m - sgn s) := by
  rw [whl, dif_neg (by omega)]
/-- All that is to be told of whole signs: how far, why no further. -/
theorem whl_says : ∀ (n : Nat) (s : List Nat) (m : Int), s.length ≤ n → 0 ≤ m → (whl s m : Int) ≤ m ∧ whl s m ≤ s.length ∧ (sgn (s.drop (whl s m)) = 0 ∨ m - whl s m < sgn (s.drop (whl s m))) ∧ (∀ m' : Int, (whl s m : Int) ≤ m' → whl (s.take (whl s m)) m' = whl s m) := by
  intro n
  induction n with
  | zero =>
    intro s m hn hm
    obtain rfl : s = [] := List.eq_nil_of_length_eq_zero (by omega)
    have e : ∀ x, whl [] x = 0 := fun x => whl_stop _ _ (.inl rfl)
    rw [e]
    exact ⟨hm, by simp, .inl rfl, fun m' _ => by rw [List.take_nil]; exact e m'⟩
  | succ n ih =>
    intro s m hn hm
    by_cases hs : sgn s = 0 ∨ m < sgn s
    · rw [whl_stop s m hs]
      refine ⟨hm, by omega, by simpa using hs, fun m' _ => ?_⟩
      rw [List.take_zero]; exact whl_stop _ _ (.inl rfl)
    · have h0 : sgn s ≠ 0 := fun e => hs (.inl e)
      have h1 : (sgn s : Int) ≤ m := by
        rcases Int.lt_or_le m (sgn s) with h | h
        · exact absurd (.inr h) hs
        · exact h
      have hle := sgn_le s
      obtain ⟨i1, i2, i3, i4⟩ := ih (s.drop (sgn s)) (m - sgn s) (by rw [List.length_drop]; omega) (by omega)
      rw [whl_go s m h0 h1]
      rw [List.drop_drop] at i3
      rw [List.length_drop] at i2
      refine ⟨by omega, by omega, ?_, fun m' hm' => ?_⟩
      · rcases i3 with i3 | i3
        · exact .inl i3
        · exact .inr (by omega)
      · have e := sgn_take s (sgn s + whl (s.drop (sgn s)) (m - sgn s)) h0 (by omega)
        rw [whl_go _ m' (by rw [e]; exact h0) (by rw [e]; omega), e, List.drop_take]
        rw [show sgn s + whl (s.drop (sgn s)) (m - sgn s) - sgn s = whl (s.drop (sgn s)) (m - sgn s) by omega, i4 (m' - sgn s) (by omega)]
/-- Are all signs right? -/
def vld (s : List Nat) : Bool := decide (whl s s.length = s.length)
theorem vld_nil : vld [] = true := by unfold vld; rw [whl_stop _ _ (.inl rfl)]; rfl
theorem vld_clip (s : List Nat) (m : Int) (hm : 0 ≤ m) : vld (s.take (whl s m)) = true ∧ (∀ m' : Int, (whl s m : Int) ≤ m' → whl (s.take (whl s m)) m' = whl s m) := by
  obtain ⟨h1, h2, h3, h4⟩ := whl_says s.length s m (Nat.le_refl _) hm
  refine ⟨?_, h4⟩
  unfold vld
  have hl : (s.take (whl s m)).length = whl s m := by rw [List.length_take]; omega
  rw [hl, h4 _ (Int.le_refl _)]
  simp
/-- A text begins with a sign. -/
theorem vld_sgn (s : List Nat) (h : vld s = true) (hs : s ≠ []) : sgn s ≠ 0 ∧ sgn s ≤ s.length := by
  refine ⟨fun e => ?_, (sgn_le s).1⟩
  unfold vld at h
  rw [whl_stop s _ (.inl e)] at h
  have := of_decide_eq_true h
  exact hs (List.eq_nil_of_length_eq_zero this.symm)
/-- Behind what was clipped no sign begins that would have been in bounds. -/
theorem clip_end (s : List Nat) (m : Int) (hm : 0 ≤ m) (k : Nat) (h1 : whl s m < k) (h2 : k ≤ s.length) (h3 : (k : Int) ≤ m) : vld ((s.take k).drop (whl s m)) = false := by
  obtain ⟨_, _, h4, _⟩ := whl_says s.length s m (Nat.le_refl _) hm
  cases e : vld ((s.take k).drop (whl s m)) with
  | false => rfl
  | true =>
    have hl : ((s.take k).drop (whl s m)).length = k - whl s m := by rw [List.length_drop, List.length_take]; omega
    obtain ⟨i1, i2⟩ := vld_sgn _ e (by intro e2; rw [e2] at hl; simp at hl; omega)
    rw [List.drop_take] at i1 i2
    have := sgn_of_take _ _ i1
    rw [← this] at i1 i2
    rw [List.length_take, List.length_drop] at i2
    omega
theorem get_bs (s : ByteArray) (i : Nat) (h : i < s.size) : s[i].toNat = (bs s).getD i 0 := by
  have hl : i < (bs s).length := by rw [bs_length]; exact h
  rw [List.getD_eq_getElem?_getD, List.getElem?_eq_getElem hl]
  simp [bs]
  rfl
theorem sgn_small (l : List Nat) (hl : 0 < l.length) (h : szc (l.getD 0 0) ≤ 1) : sgn l = szc (l.getD 0 0) := by
  cases l with
  | nil => simp at hl
  | cons c r =>
    simp only [List.getD_cons_zero] at h ⊢
    simp only [sgn]
    by_cases h0 : szc c = 0
    · rw [if_pos h0, h0]
    · rw [if_neg h0, if_neg (by omega), if_pos (by omega)]; omega
theorem sgn_short (l : List Nat) (h : l.length < szc (l.getD 0 0)) : sgn l = 0 := by
  cases l with
  | nil => rfl
  | cons c r =>
    simp only [List.getD_cons_zero, List.length_cons] at h ⊢
    simp only [sgn]
    rw [if_neg (by omega), if_pos h]
theorem sgn_sec (l : List Nat) (h2 : 2 ≤ szc (l.getD 0 0)) (h : sec (l.getD 0 0) (l.getD 1 0) = false) : sgn l = 0 := by
  cases l with
  | nil => rfl
  | cons c r =>
    simp only [List.getD_cons_zero, List.getD_cons_succ] at h h2 ⊢
    simp only [sgn]
    split
    · rfl
    · split
      · rfl
      · rw [if_neg (by omega), if_neg (by rw [h]; simp)]
theorem sgn_fol (l : List Nat) (j : Nat) (h2 : 2 ≤ j) (hj : j < szc (l.getD 0 0)) (h : fol (l.getD j 0) = false) : sgn l = 0 := by
  cases l with
  | nil => rfl
  | cons c r =>
    simp only [List.getD_cons_zero] at hj
    simp only [sgn]
    rw [if_neg (by omega)]
    by_cases h1 : r.length + 1 < szc c
    · rw [if_pos h1]
    · rw [if_neg h1, if_neg (by omega), if_neg]
      obtain ⟨k, rfl⟩ : ∃ k, j = k + 2 := ⟨j - 2, by omega⟩
      intro hc
      rw [Bool.and_eq_true, List.all_eq_true] at hc
      have hk : k + 1 < r.length := by omega
      have hm : r[k + 1] ∈ (r.take (szc c - 1)).drop 1 := by
        rw [List.mem_drop_iff_getElem]
        exact ⟨k, by rw [List.length_take]; omega, by rw [List.getElem_take]; congr 1; omega⟩
      have := hc.2 _ hm
      rw [List.getD_cons_succ, List.getD_eq_getElem?_getD, List.getElem?_eq_getElem hk] at h
      simp at h
      rw [h] at this
      exact Bool.noConfusion this
theorem sgn_all (l : List Nat) (h2 : 2 ≤ szc (l.getD 0 0)) (hl : szc (l.getD 0 0) ≤ l.length) (h : sec (l.getD 0 0) (l.getD 1 0) = true) (hf : ∀ j, 2 ≤ j → j < szc (l.getD 0 0) → fol (l.getD j 0) = true) : sgn l = szc (l.getD 0 0) := by
  cases l with
  | nil => rw [List.length_nil] at hl; omega
  | cons c r =>
    simp only [List.getD_cons_zero, List.length_cons] at h2 hl hf ⊢
    rw [List.getD_cons_zero, List.getD_cons_succ] at h
    simp only [sgn]
    rw [if_neg (by omega), if_neg (by omega), if_neg (by omega), if_pos]
    rw [h, Bool.true_and, List.all_eq_true]
    intro x hx
    rw [List.mem_drop_iff_getElem] at hx
    obtain ⟨i, hi, rfl⟩ := hx
    rw [List.length_take] at hi
    have := hf (i + 2) (by omega) (by omega)
    rw [List.getD_cons_succ, List.getD_eq_getElem?_getD, List.getElem?_eq_getElem (by omega)] at this
    rw [List.getElem_take]
    simpa [Nat.add_comm] using this
end Go.Proofs.Ytipgdjjmmfkfiaa.Hy
