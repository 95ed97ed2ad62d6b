import Derived.Test.YtdgbcokakmonfaaNum
namespace Go.Proofs.Ytdgbcokakmonfaa.Hy

/-! ### numbers in few bytes -/
def putL (n : Nat) : List Nat := if h : n < 128 then [n] else (n % 128 + 128) :: putL (n / 128)
termination_by n
decreasing_by omega
theorem putL_lo (n : Nat) (h : n < 128) : putL n = [n] := by rw [putL]; simp [h]
theorem putL_hi (n : Nat) (h : ¬ n < 128) : putL n = (n % 128 + 128) :: putL (n / 128) := by rw [putL]; simp [h]
def put (n : Int) : ByteArray := st (putL n.toNat)
theorem putL_ok : ∀ n, okB (putL n) := by
  intro n
  induction n using Nat.strongRecOn with
  | _ n ih =>
    by_cases h : n < 128
    · rw [putL_lo n h]; intro x hx; simp at hx; omega
    · rw [putL_hi n h]; intro x hx
      rcases List.mem_cons.1 hx with rfl | hx
      · omega
      · exact ih (n / 128) (by omega) x hx
theorem putL_pos (n : Nat) : 0 < (putL n).length := by
  by_cases h : n < 128
  · rw [putL_lo n h]; simp
  · rw [putL_hi n h]; simp
theorem putL_len : ∀ j n, n < 2 ^ (7 * (j + 1)) → (putL n).length ≤ j + 1 := by
  intro j
  induction j with
  | zero => intro n h; rw [putL_lo n (by simpa using h)]; simp
  | succ j ih =>
    intro n h
    by_cases hn : n < 128
    · rw [putL_lo n hn]; simp
    · rw [putL_hi n hn]
      have : n / 128 < 2 ^ (7 * (j + 1)) := by
        rw [Nat.div_lt_iff_lt_mul (by omega)]
        calc n < _ := h
          _ = _ := by rw [show 7 * (j + 1 + 1) = 7 * (j + 1) + 7 by omega, Nat.pow_add]
      have := ih _ this
      simp; omega
theorem putL_len10 (n : Nat) (h : n < 18446744073709551616) : (putL n).length ≤ 10 := putL_len 9 n (by omega)
theorem bs_put (n : Int) : bs (put n) = putL n.toNat := bs_st _ (putL_ok _)
theorem put_size (n : Int) : (put n).size = (putL n.toNat).length := st_size _

/-! ### and back: an error's code, or what the bytes from place i on add, and how many these are -/
def dec : Nat → List Nat → Sum Nat (Nat × Nat)
  | _, [] => .inl 1
  | i, c :: r => if i = 9 ∧ 1 < c then .inl 4 else if c < 128 then .inr (c * 2 ^ (7 * i), 1) else
      match dec (i + 1) r with
      | .inl e => .inl e
      | .inr (v, k) => .inr ((c - 128) * 2 ^ (7 * i) + v, k + 1)
theorem dec_nil (i : Nat) : dec i [] = .inl 1 := rfl
theorem dec_big (c : Nat) (r : List Nat) (h : 1 < c) : dec 9 (c :: r) = .inl 4 := by simp only [dec]; rw [if_pos ⟨trivial, h⟩]
theorem dec_end (i c : Nat) (r : List Nat) (h9 : ¬ (i = 9 ∧ 1 < c)) (h : c < 128) : dec i (c :: r) = .inr (c * 2 ^ (7 * i), 1) := by simp only [dec]; rw [if_neg h9, if_pos h]
theorem dec_on (i c : Nat) (r : List Nat) (h9 : ¬ (i = 9 ∧ 1 < c)) (h : ¬ c < 128) : dec i (c :: r) = (match dec (i + 1) r with
      | .inl e => .inl e
      | .inr (v, k) => .inr ((c - 128) * 2 ^ (7 * i) + v, k + 1)) := by rw [dec, if_neg h9, if_neg h]
theorem dec_putL (rest : List Nat) : ∀ j n i, i + j = 9 → n * 2 ^ (7 * i) < 18446744073709551616 → dec i (putL n ++ rest) = .inr (n * 2 ^ (7 * i), (putL n).length) := by
  intro j
  induction j with
  | zero =>
    intro n i hi hn
    obtain rfl : i = 9 := by omega
    have h1 : n ≤ 1 := by omega
    rw [putL_lo n (by omega)]
    simp only [List.cons_append, List.nil_append, dec]
    rw [if_neg (by omega), if_pos (by omega)]; rfl
  | succ j ih =>
    intro n i hi hn
    by_cases h : n < 128
    · rw [putL_lo n h]
      simp only [List.cons_append, List.nil_append, dec]
      rw [if_neg (by omega), if_pos h]; rfl
    · have hp : 2 ^ (7 * (i + 1)) = 128 * 2 ^ (7 * i) := by rw [show 7 * (i + 1) = 7 * i + 7 by omega, Nat.pow_add]; omega
      have hle : n / 128 * 2 ^ (7 * (i + 1)) ≤ n * 2 ^ (7 * i) := by
        rw [hp, ← Nat.mul_assoc]
        exact Nat.mul_le_mul_right _ (Nat.div_mul_le_self n 128)
      rw [putL_hi n h]
      simp only [List.cons_append, dec]
      rw [if_neg (by omega), if_neg (by omega), ih (n / 128) (i + 1) (by omega) (by omega)]
      simp only [List.length_cons]
      have e : (n % 128 + 128 - 128) * 2 ^ (7 * i) + n / 128 * 2 ^ (7 * (i + 1)) = n * 2 ^ (7 * i) := by
        rw [hp, show n % 128 + 128 - 128 = n % 128 by omega, ← Nat.mul_assoc, ← Nat.add_mul, show n % 128 + n / 128 * 128 = n by omega]
      rw [e]
theorem dec_put (n : Nat) (h : n < 18446744073709551616) (rest : List Nat) : dec 0 (putL n ++ rest) = .inr (n, (putL n).length) := by
  have := dec_putL rest 9 n 0 rfl (by simpa using h)
  simpa using this
/-- What is read: its bounds. -/
theorem dec_some : ∀ (l : List Nat) (i v k : Nat), okB l → i ≤ 9 → dec i l = .inr (v, k) → 1 ≤ k ∧ k ≤ l.length ∧ i + k ≤ 10 ∧ v % 2 ^ (7 * i) = 0 ∧ v < 18446744073709551616 := by
  intro l
  induction l with
  | nil => intro i v k _ _ h; simp [dec] at h
  | cons c r ih =>
    intro i v k hok hi h
    simp only [dec] at h
    split at h
    · simp at h
    · rename_i h9
      have hpow : 2 ^ (7 * i) * 2 ^ (64 - 7 * i) = 18446744073709551616 := by
        rw [← Nat.pow_add, show 7 * i + (64 - 7 * i) = 64 by omega]
      split at h
      · rename_i hc
        simp only [Sum.inr.injEq, Prod.mk.injEq] at h
        obtain ⟨rfl, rfl⟩ := h
        refine ⟨by omega, by simp, by omega, Nat.mul_mod_left _ _, ?_⟩
        have : c < 2 ^ (64 - 7 * i) := by
          by_cases e : i = 9
          · subst e; simp; omega
          · calc c < 2 ^ 7 := hc
              _ ≤ _ := Nat.pow_le_pow_right (by omega) (by omega)
        rw [← hpow, Nat.mul_comm]
        exact Nat.mul_lt_mul_of_pos_left this (Nat.two_pow_pos _)
      · rename_i hc
        have hi8 : i ≤ 8 := by omega
        have hokr : okB r := fun x hx => hok x (List.mem_cons_of_mem _ hx)
        have hc256 := hok c List.mem_cons_self
        cases e : dec (i + 1) r with
        | inl x => rw [e] at h; simp at h
        | inr x =>
          obtain ⟨v', k'⟩ := x
          rw [e] at h
          simp only [Sum.inr.injEq, Prod.mk.injEq] at h
          obtain ⟨rfl, rfl⟩ := h
          obtain ⟨h1, h2, h3, h4, h5⟩ := ih (i + 1) v' k' hokr (by omega) e
          have hp : 2 ^ (7 * (i + 1)) = 128 * 2 ^ (7 * i) := by rw [show 7 * (i + 1) = 7 * i + 7 by omega, Nat.pow_add]; omega
          have hpow' : 2 ^ (7 * (i + 1)) * 2 ^ (64 - 7 * (i + 1)) = 18446744073709551616 := by
            rw [← Nat.pow_add, show 7 * (i + 1) + (64 - 7 * (i + 1)) = 64 by omega]
          refine ⟨by omega, by simp; omega, by omega, ?_, ?_⟩
          · rw [Nat.mul_add_mod_self_right]
            have : v' = 2 ^ (7 * (i + 1)) * (v' / 2 ^ (7 * (i + 1))) := by have := Nat.div_add_mod v' (2 ^ (7 * (i + 1))); omega
            rw [this, hp, Nat.mul_assoc, Nat.mul_comm 128, Nat.mul_assoc]
            exact Nat.mul_mod_right _ _
          · have hq : v' = 2 ^ (7 * (i + 1)) * (v' / 2 ^ (7 * (i + 1))) := by have := Nat.div_add_mod v' (2 ^ (7 * (i + 1))); omega
            have hlt : v' / 2 ^ (7 * (i + 1)) < 2 ^ (64 - 7 * (i + 1)) := by
              rw [Nat.div_lt_iff_lt_mul (Nat.two_pow_pos _), Nat.mul_comm, hpow']; exact h5
            have hb : (c - 128) * 2 ^ (7 * i) < 2 ^ (7 * (i + 1)) := by
              rw [hp]; exact Nat.mul_lt_mul_of_pos_right (by omega) (Nat.two_pow_pos _)
            calc (c - 128) * 2 ^ (7 * i) + v' < 2 ^ (7 * (i + 1)) + 2 ^ (7 * (i + 1)) * (v' / 2 ^ (7 * (i + 1))) := by omega
              _ = 2 ^ (7 * (i + 1)) * (v' / 2 ^ (7 * (i + 1)) + 1) := by generalize 2 ^ (7 * (i + 1)) = z; rw [Nat.mul_add, Nat.mul_one, Nat.add_comm]
              _ ≤ 2 ^ (7 * (i + 1)) * 2 ^ (64 - 7 * (i + 1)) := Nat.mul_le_mul_left _ hlt
              _ = _ := hpow'
/-! ### numbers one behind the other -/
def putsL (l : List Int) : List Nat := l.flatMap fun n => putL n.toNat
theorem putsL_nil : putsL [] = [] := rfl
theorem putsL_cons (n : Int) (l : List Int) : putsL (n :: l) = putL n.toNat ++ putsL l := rfl
theorem putsL_append (a b : List Int) : putsL (a ++ b) = putsL a ++ putsL b := by unfold putsL; rw [List.flatMap_append]
theorem putsL_snoc (l : List Int) (k : Nat) (h : k < l.length) : putsL (l.take (k + 1)) = putsL (l.take k) ++ putL (l[k]).toNat := by
  rw [List.take_succ_eq_append_getElem h, putsL_append]
  simp [putsL]
theorem putsL_drop (l : List Int) (k : Nat) (h : k < l.length) : (putsL l).drop (putsL (l.take k)).length = putL (l[k]).toNat ++ putsL (l.drop (k + 1)) := by
  conv => lhs; rw [← List.take_append_drop k l, putsL_append, List.take_append_drop]
  rw [List.drop_left, List.drop_eq_getElem_cons h, putsL_cons]
theorem putsL_ok (l : List Int) : okB (putsL l) := by
  intro x hx
  obtain ⟨n, _, hn⟩ := List.mem_flatMap.1 hx
  exact putL_ok _ x hn
def u64s (l : List Int) : Prop := ∀ x ∈ l, 0 ≤ x ∧ x < 18446744073709551616
theorem putsL_len (l : List Int) (h : u64s l) : (putsL l).length ≤ 10 * l.length := by
  induction l with
  | nil => simp [putsL]
  | cons n l ih =>
    have h1 := ih (fun x hx => h x (List.mem_cons_of_mem _ hx))
    have h2 := putL_len10 n.toNat (by have := h n List.mem_cons_self; omega)
    rw [putsL_cons, List.length_append, List.length_cons]; omega
theorem u64s_take {l : List Int} (h : u64s l) (k : Nat) : u64s (l.take k) := fun x hx => h x (List.mem_of_mem_take hx)
theorem putsL_take_le (l : List Int) (k : Nat) : (putsL (l.take k)).length ≤ (putsL l).length := by
  conv => rhs; rw [← List.take_append_drop k l, putsL_append]
  simp
end Go.Proofs.Ytdgbcokakmonfaa.Hy
