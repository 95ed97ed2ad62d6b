import Derived.Test.YtdgbcokakmonfaaGetN
namespace Go.Proofs.Ytdgbcokakmonfaa.Hy
open Go.RowKit

/-! ### what begins a list of numbers' bytes -/
theorem putsL_prefix (a b : List Int) (r : List Nat) (ha : u64s a) (hb : u64s b) (h : putsL a ++ r = putsL b) : ∃ b', b = a ++ b' ∧ putsL b' = r ∧ u64s b' := by
  have h1 := getN_puts a r ha
  rw [h] at h1
  by_cases hl : b.length < a.length
  · rw [getN_more b a.length hb hl] at h1; cases h1
  · have h2 := getN_puts (b.take a.length) (putsL (b.drop a.length)) (u64s_take hb _)
    rw [List.length_take, Nat.min_eq_left (by omega), ← putsL_append, List.take_append_drop, h1] at h2
    simp only [Option.some.injEq, Prod.mk.injEq] at h2
    refine ⟨b.drop a.length, ?_, h2.2.symm, fun x hx => hb x (List.mem_of_mem_drop hx)⟩
    have h3 := (List.take_append_drop a.length b).symm
    rw [← h2.1] at h3
    exact h3

/-! ### runs of alike numbers: the number, how many more -/
def grp : List Int → List Int
  | [] => []
  | x :: l => match grp l with
    | v :: n :: r => if v = x then x :: (n + 1) :: r else x :: 0 :: v :: n :: r
    | _ => [x, 0]
def tot : List Int → Int
  | _ :: n :: r => n + 1 + tot r
  | _ => 0
theorem grp_shape (x : Int) (l : List Int) : ∃ n r, grp (x :: l) = x :: n :: r ∧ 0 ≤ n := by
  induction l generalizing x with
  | nil => exact ⟨0, [], rfl, by omega⟩
  | cons y l ih =>
    obtain ⟨n, r, e, hn⟩ := ih y
    rw [grp, e]
    by_cases h : y = x
    · exact ⟨n + 1, r, by simp only; rw [if_pos h], by omega⟩
    · exact ⟨0, y :: n :: r, by simp only; rw [if_neg h], by omega⟩
theorem grp_same (x n : Int) (l r : List Int) (h : grp l = x :: n :: r) : grp (x :: l) = x :: (n + 1) :: r := by
  rw [grp, h]; simp
theorem grp_new (x : Int) (l : List Int) (h : l.head? ≠ some x) : grp (x :: l) = x :: 0 :: grp l := by
  cases l with
  | nil => rfl
  | cons y l =>
    obtain ⟨n, r, e, _⟩ := grp_shape y l
    rw [grp, e]
    simp only
    rw [if_neg (fun hh => h (by simp [hh]))]
theorem grp_run (x : Int) (n : Nat) (l : List Int) (h : l.head? ≠ some x) : grp (List.replicate (n + 1) x ++ l) = x :: (n : Int) :: grp l := by
  induction n with
  | zero => exact grp_new x l h
  | succ n ih =>
    rw [List.replicate_succ, List.cons_append, grp_same x n _ _ ih]
    simp
theorem split_run (l : List Int) (h : l ≠ []) : ∃ x n l3, l = List.replicate (n + 1) x ++ l3 ∧ l3.head? ≠ some x := by
  induction l with
  | nil => exact absurd rfl h
  | cons x l ih =>
    cases l with
    | nil => exact ⟨x, 0, [], rfl, by simp⟩
    | cons y l =>
      by_cases hy : y = x
      · obtain ⟨x', n, l3, e, h3⟩ := ih (by simp)
        have : x' = y := by
          rw [List.replicate_succ, List.cons_append] at e
          injection e with e _; exact e.symm
        subst this; subst hy
        exact ⟨x', n + 1, l3, by rw [List.replicate_succ, List.cons_append, ← e], h3⟩
      · exact ⟨x, 0, y :: l, rfl, by simp [hy]⟩
theorem grp_append : ∀ (k : Nat) (l1 l2 : List Int), l1.length ≤ k → (∀ x, l1.getLast? = some x → l2.head? ≠ some x) → grp (l1 ++ l2) = grp l1 ++ grp l2 := by
  intro k
  induction k with
  | zero => intro l1 l2 hk _; rw [List.eq_nil_of_length_eq_zero (by omega : l1.length = 0)]; rfl
  | succ k ih =>
    intro l1 l2 hk hb
    by_cases h1 : l1 = []
    · subst h1; rfl
    · obtain ⟨x, n, l3, e, h3⟩ := split_run l1 h1
      subst e
      rw [List.append_assoc, grp_run x n l3 h3]
      by_cases h3e : l3 = []
      · subst h3e
        rw [List.nil_append, grp_run x n l2 (hb x (by simp [List.getLast?_replicate]))]
        rfl
      · have hh : (l3 ++ l2).head? ≠ some x := by
          cases l3 with
          | nil => exact absurd rfl h3e
          | cons a t => simpa using h3
        rw [grp_run x n (l3 ++ l2) hh, ih l3 l2 (by simp at hk; omega) (fun y hy => hb y (by
          rw [List.getLast?_append]; simp [hy]))]
        rfl
theorem grp_snoc (l : List Int) (x : Int) (n : Nat) (h : l.getLast? ≠ some x) : grp (l ++ List.replicate (n + 1) x) = grp l ++ [x, (n : Int)] := by
  rw [grp_append l.length l _ (Nat.le_refl _) (fun y hy => by
    rw [List.replicate_succ]
    simp
    intro e
    exact h (by rw [hy, e]))]
  have := grp_run x n [] (by simp)
  rw [List.append_nil] at this
  rw [this]; rfl
theorem tot_grp (l : List Int) : tot (grp l) = l.length ∧ (grp l).length % 2 = 0 := by
  induction l with
  | nil => exact ⟨rfl, rfl⟩
  | cons x l ih =>
    cases l with
    | nil => exact ⟨rfl, by simp [grp]⟩
    | cons y l =>
      obtain ⟨n, r, e, hn⟩ := grp_shape y l
      rw [e] at ih
      rw [grp, e]
      simp only
      have e2 : tot (y :: n :: r) = n + 1 + tot r := rfl
      rw [e2] at ih
      by_cases h : y = x
      · rw [if_pos h]
        have e3 : tot (x :: (n + 1) :: r) = n + 1 + 1 + tot r := rfl
        rw [e3]
        simp only [List.length_cons] at ih ⊢
        constructor
        · omega
        · exact ih.2
      · rw [if_neg h]
        have e3 : tot (x :: 0 :: y :: n :: r) = 0 + 1 + (n + 1 + tot r) := rfl
        rw [e3]
        simp only [List.length_cons] at ih ⊢
        constructor
        · omega
        · have := ih.2; omega
theorem grp_len (l : List Int) : (grp l).length ≤ 2 * l.length := by
  induction l with
  | nil => simp [grp]
  | cons x l ih =>
    cases l with
    | nil => simp [grp]
    | cons y l =>
      obtain ⟨n, r, e, hn⟩ := grp_shape y l
      rw [e] at ih
      rw [grp, e]
      simp only
      split
      · simp only [List.length_cons] at ih ⊢; omega
      · simp only [List.length_cons] at ih ⊢; omega
theorem grp_u64 (l : List Int) (h : u64s l) (hl : l.length ≤ 20000) : u64s (grp l) ∧ ∀ n r x, grp l = x :: n :: r → n < l.length := by
  induction l with
  | nil => exact ⟨fun x hx => by simp [grp] at hx, fun n r x e => by simp [grp] at e⟩
  | cons x l ih =>
    have hx := h x List.mem_cons_self
    have ih' := ih (fun y hy => h y (List.mem_cons_of_mem _ hy)) (by simp at hl; omega)
    cases l with
    | nil =>
      refine ⟨fun y hy => ?_, fun n r z e => ?_⟩
      · simp [grp] at hy; omega
      · simp [grp] at e; simp; omega
    | cons y l =>
      obtain ⟨n, r, e, hn⟩ := grp_shape y l
      obtain ⟨i1, i2⟩ := ih'
      have hlt := i2 n r y e
      rw [e] at i1
      rw [grp, e]
      simp only
      by_cases hy : y = x
      · rw [if_pos hy]
        refine ⟨fun z hz => ?_, fun m q z e' => ?_⟩
        · rcases List.mem_cons.1 hz with rfl | hz
          · exact hx
          · rcases List.mem_cons.1 hz with rfl | hz
            · simp only [List.length_cons] at hlt hl; omega
            · exact i1 z (by simp [hz])
        · injection e' with _ e'; injection e' with e' _
          simp only [List.length_cons] at hlt ⊢; omega
      · rw [if_neg hy]
        refine ⟨fun z hz => ?_, fun m q z e' => ?_⟩
        · rcases List.mem_cons.1 hz with rfl | hz
          · exact hx
          · rcases List.mem_cons.1 hz with rfl | hz
            · omega
            · exact i1 z hz
        · injection e' with _ e'; injection e' with e' _
          simp only [List.length_cons]; omega
theorem tot_append : ∀ (k : Nat) (a b : List Int), a.length ≤ k → a.length % 2 = 0 → tot (a ++ b) = tot a + tot b := by
  intro k
  induction k with
  | zero => intro a b hk _; rw [List.eq_nil_of_length_eq_zero (by omega : a.length = 0)]; simp [tot]
  | succ k ih =>
    intro a b hk ha
    match a with
    | [] => simp [tot]
    | [_] => simp at ha
    | x :: n :: r =>
      have := ih r b (by simp at hk; omega) (by simp at ha; omega)
      have e1 : tot (x :: n :: r ++ b) = n + 1 + tot (r ++ b) := rfl
      have e2 : tot (x :: n :: r) = n + 1 + tot r := rfl
      rw [e1, e2, this]; omega
theorem tot_pos : ∀ (k : Nat) (a : List Int), a.length ≤ k → u64s a → 0 ≤ tot a ∧ (a.length % 2 = 0 → a ≠ [] → 0 < tot a) := by
  intro k
  induction k with
  | zero => intro a hk _; rw [List.eq_nil_of_length_eq_zero (by omega : a.length = 0)]; exact ⟨by simp [tot], fun _ h => absurd rfl h⟩
  | succ k ih =>
    intro a hk ha
    match a with
    | [] => exact ⟨by simp [tot], fun _ h => absurd rfl h⟩
    | [_] => exact ⟨by simp [tot], fun h => by simp at h⟩
    | x :: n :: r =>
      have := ih r (by simp at hk; omega) (fun y hy => ha y (by simp [hy]))
      have hn := ha n (by simp)
      have e2 : tot (x :: n :: r) = n + 1 + tot r := rfl
      rw [e2]
      exact ⟨by omega, fun _ _ => by omega⟩
/-- The bytes are l's column. -/
def isRuns (b : List Nat) (l : List Int) : Prop := b = putsL (grp l) ∧ u64s l
theorem runs_one (l l' : List Int) (hl : l.length ≤ 20000) (hl' : l'.length ≤ 20000) (h : u64s l) (h' : u64s l') (r : List Nat) (e : putsL (grp l) ++ r = putsL (grp l')) (hr : r ≠ []) : l.length < l'.length := by
  obtain ⟨b, e1, e2, e3⟩ := putsL_prefix _ _ r (grp_u64 l h hl).1 (grp_u64 l' h' hl').1 e
  have hb : b ≠ [] := by rintro rfl; exact hr e2.symm
  have t1 := tot_grp l
  have t2 := tot_grp l'
  rw [e1, tot_append _ _ b (Nat.le_refl _) t1.2] at t2
  have hbl : b.length % 2 = 0 := by
    have := t2.2; rw [List.length_append] at this; omega
  have := (tot_pos _ b (Nat.le_refl _) e3).2 hbl hb
  omega
theorem runs_same (l l' : List Int) (hl : l.length ≤ 20000) (hl' : l'.length ≤ 20000) (h : u64s l) (h' : u64s l') (e : putsL (grp l) = putsL (grp l')) : l.length = l'.length := by
  obtain ⟨b, e1, e2, e3⟩ := putsL_prefix (grp l) (grp l') [] (grp_u64 l h hl).1 (grp_u64 l' h' hl').1 (by rw [List.append_nil]; exact e)
  have hb : b = [] := by
    cases b with
    | nil => rfl
    | cons a t =>
      rw [putsL_cons] at e2
      have := putL_pos a.toNat
      have h0 := congrArg List.length e2
      rw [List.length_append, List.length_nil] at h0; omega
  rw [hb, List.append_nil] at e1
  have t1 := tot_grp l
  have t2 := tot_grp l'
  rw [e1] at t2
  omega
end Go.Proofs.Ytdgbcokakmonfaa.Hy
