import Derived.Test.YtdgbcokakmonfaaVarP
namespace Go.Proofs.Ytdgbcokakmonfaa.Hy
open Go.RowKit

/-! ### numbers read one behind the other, each in as few bytes as may be -/
def getN : Nat → List Nat → Option (List Int × List Nat)
  | 0, b => some ([], b)
  | n + 1, b => match dec 0 b with
    | .inl _ => none
    | .inr (v, k) => if k = (putL v).length then (match getN n (b.drop k) with
      | none => none
      | some (vs, r) => some ((v : Int) :: vs, r)) else none
theorem dec_canon : ∀ (l : List Nat) (i v k : Nat), okB l → i ≤ 9 → dec i l = .inr (v, k) → k = (putL (v / 2 ^ (7 * i))).length → l.take k = putL (v / 2 ^ (7 * i)) := by
  intro l
  induction l with
  | nil => intro i v k _ _ h; rw [dec_nil] at h; cases h
  | cons c r ih =>
    intro i v k hok hi h hk
    have hc := hok c List.mem_cons_self
    have hokr : okB r := fun x hx => hok x (List.mem_cons_of_mem _ hx)
    by_cases h9 : i = 9 ∧ 1 < c
    · obtain ⟨rfl, h9⟩ := h9
      rw [dec_big c r h9] at h; cases h
    · by_cases h128 : c < 128
      · rw [dec_end i c r h9 h128] at h
        simp only [Sum.inr.injEq, Prod.mk.injEq] at h
        obtain ⟨rfl, rfl⟩ := h
        rw [Nat.mul_div_cancel _ (Nat.two_pow_pos _), putL_lo c h128]
        rfl
      · rw [dec_on i c r h9 h128] at h
        cases e : dec (i + 1) r with
        | inl x => rw [e] at h; cases h
        | inr x =>
          obtain ⟨v', k'⟩ := x
          rw [e] at h
          simp only [Sum.inr.injEq, Prod.mk.injEq] at h
          obtain ⟨rfl, rfl⟩ := h
          have hi8 : i ≤ 8 := by omega
          obtain ⟨h1, h2, h3, h4, h5⟩ := dec_some r (i + 1) v' k' hokr (by omega) e
          have hp : 2 ^ (7 * (i + 1)) = 128 * 2 ^ (7 * i) := by rw [show 7 * (i + 1) = 7 * i + 7 by omega, Nat.pow_add]; omega
          have hv : ((c - 128) * 2 ^ (7 * i) + v') / 2 ^ (7 * i) = (c - 128) + 128 * (v' / 2 ^ (7 * (i + 1))) := by
            have hq : v' = 2 ^ (7 * i) * (128 * (v' / 2 ^ (7 * (i + 1)))) := by
              have := Nat.div_add_mod v' (2 ^ (7 * (i + 1)))
              rw [h4, Nat.add_zero] at this
              calc v' = 2 ^ (7 * (i + 1)) * (v' / 2 ^ (7 * (i + 1))) := this.symm
                _ = 2 ^ (7 * i) * (128 * (v' / 2 ^ (7 * (i + 1)))) := by
                  generalize v' / 2 ^ (7 * (i + 1)) = z
                  rw [hp, Nat.mul_comm 128, Nat.mul_assoc]
            rw [Nat.add_comm, Nat.add_mul_div_right _ _ (Nat.two_pow_pos _)]
            conv => lhs; rw [hq]
            rw [Nat.mul_div_cancel_left _ (Nat.two_pow_pos _), Nat.add_comm]
          rw [hv] at hk ⊢
          generalize hz : v' / 2 ^ (7 * (i + 1)) = z at hk ⊢
          by_cases hlo : c - 128 + 128 * z < 128
          · rw [putL_lo _ hlo] at hk; simp at hk; omega
          · rw [putL_hi _ hlo] at hk ⊢
            have e1 : (c - 128 + 128 * z) / 128 = z := by omega
            have e2 : (c - 128 + 128 * z) % 128 + 128 = c := by omega
            rw [e1] at hk ⊢
            rw [e2]
            simp only [List.length_cons] at hk
            have := ih (i + 1) v' k' hokr (by omega) e (by rw [hz]; omega)
            rw [hz] at this
            rw [List.take_succ_cons, this]
theorem dec_canon0 (l : List Nat) (v k : Nat) (hok : okB l) (h : dec 0 l = .inr (v, k)) (hk : k = (putL v).length) : l = putL v ++ l.drop k := by
  have := dec_canon l 0 v k hok (by omega) h (by simpa using hk)
  simp only [Nat.mul_zero, Nat.pow_zero, Nat.div_one] at this
  conv => lhs; rw [← List.take_append_drop k l, this]
theorem okB_drop {l : List Nat} (h : okB l) (k : Nat) : okB (l.drop k) := fun x hx => h x (List.mem_of_mem_drop hx)
theorem getN_some : ∀ (n : Nat) (b : List Nat) (vs : List Int) (r : List Nat), okB b → getN n b = some (vs, r) → b = putsL vs ++ r ∧ vs.length = n ∧ u64s vs := by
  intro n
  induction n with
  | zero =>
    intro b vs r _ h
    simp only [getN, Option.some.injEq, Prod.mk.injEq] at h
    obtain ⟨rfl, rfl⟩ := h
    exact ⟨rfl, rfl, fun x hx => by simp at hx⟩
  | succ n ih =>
    intro b vs r hok h
    simp only [getN] at h
    cases e : dec 0 b with
    | inl x => rw [e] at h; cases h
    | inr x =>
      obtain ⟨v, k⟩ := x
      rw [e] at h
      simp only at h
      by_cases hk : k = (putL v).length
      · rw [if_pos hk] at h
        cases e2 : getN n (b.drop k) with
        | none => rw [e2] at h; cases h
        | some y =>
          obtain ⟨vs', r'⟩ := y
          rw [e2] at h
          simp only [Option.some.injEq, Prod.mk.injEq] at h
          obtain ⟨rfl, rfl⟩ := h
          obtain ⟨h1, h2, h3⟩ := ih _ _ _ (okB_drop hok k) e2
          have hb := dec_canon0 b v k hok e hk
          have hv := (dec_some b 0 v k hok (by omega) e).2.2.2.2
          refine ⟨?_, by simp [h2], ?_⟩
          · rw [hb, h1, putsL_cons, Int.toNat_natCast, List.append_assoc]
          · intro x hx
            rcases List.mem_cons.1 hx with rfl | hx
            · omega
            · exact h3 x hx
      · rw [if_neg hk] at h; cases h
theorem getN_puts : ∀ (vs : List Int) (r : List Nat), u64s vs → getN vs.length (putsL vs ++ r) = some (vs, r) := by
  intro vs
  induction vs with
  | nil => intro r _; rfl
  | cons v vs ih =>
    intro r h
    have hv := h v List.mem_cons_self
    simp only [List.length_cons, getN]
    rw [putsL_cons, List.append_assoc, dec_put _ (by omega)]
    simp only
    rw [if_pos trivial, List.drop_left, ih r (fun x hx => h x (List.mem_cons_of_mem _ hx))]
    simp only [Int.toNat_of_nonneg hv.1]
theorem getN_more (vs : List Int) (m : Nat) (h : u64s vs) (hm : vs.length < m) : getN m (putsL vs) = none := by
  cases e : getN m (putsL vs) with
  | none => rfl
  | some y =>
    obtain ⟨ws, r⟩ := y
    obtain ⟨h1, h2, h3⟩ := getN_some m _ ws r (putsL_ok vs) e
    have : getN vs.length (putsL ws ++ r) = some (vs, []) := by
      rw [← h1]; have := getN_puts vs [] h; simpa using this
    have h4 := getN_puts (ws.take vs.length) (putsL (ws.drop vs.length) ++ r) (u64s_take h3 _)
    rw [List.length_take, Nat.min_eq_left (by omega), ← List.append_assoc, ← putsL_append, List.take_append_drop] at h4
    rw [this] at h4
    simp only [Option.some.injEq, Prod.mk.injEq] at h4
    obtain ⟨e1, e2⟩ := h4
    have hd : ws.drop vs.length ≠ [] := by
      intro hd
      have := congrArg List.length hd
      simp at this; omega
    cases hdr : ws.drop vs.length with
    | nil => exact absurd hdr hd
    | cons a t =>
      rw [hdr, putsL_cons] at e2
      have := putL_pos a.toNat
      have h0 := congrArg List.length e2
      simp at h0; omega
theorem getN_cut (vs : List Int) (b : List Nat) (x : Nat) (h : u64s vs) (hb : putsL vs = b ++ [x]) : getN vs.length b = none := by
  have hok : okB b := fun y hy => putsL_ok vs y (by rw [hb]; simp [hy])
  cases e : getN vs.length b with
  | none => rfl
  | some y =>
    obtain ⟨ws, r⟩ := y
    obtain ⟨h1, h2, h3⟩ := getN_some _ _ ws r hok e
    have h4 := getN_puts ws (r ++ [x]) h3
    rw [← List.append_assoc, ← h1, ← hb, h2] at h4
    have h5 := getN_puts vs [] h
    rw [List.append_nil, h4] at h5
    simp at h5
end Go.Proofs.Ytdgbcokakmonfaa.Hy
