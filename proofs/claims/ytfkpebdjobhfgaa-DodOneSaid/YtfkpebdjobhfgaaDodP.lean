import Derived.Test.YtfkpebdjobhfgaaVarP
namespace Go.Proofs.Ytfkpebdjobhfgaa.Hy
open Go.RowKit

/-! ### numbers read one behind the other, each in as few bytes as may be -/
def getN : Nat → List Nat → Option (List Int × List Nat)
  | 0, b => some ([], b)
  | n + 1, b => match dec 0 b with
    | .inl _ => none
    | .inr (v, k) => if k = (putL v).length then (match getN n (b.drop k) with
      | none => none
      | some (vs, r) => some ((v : Int) :: vs, r)) else none
theorem dec_canon : ∀ (l : List Nat) (i v k : Nat), okB l → i ≤ 9 → dec i l = .inr (v, k) → k = (putL (v / 2 ^ (7 * i))).length → l.take k = putL (v / 2 ^ (7 * i)) := by
  intro l
  induction l with
  | nil => intro i v k _ _ h; rw [dec_nil] at h; cases h
  | cons c r ih =>
    intro i v k hok hi h hk
    have hc := hok c List.mem_cons_self
    have hokr : okB r := fun x hx => hok x (List.mem_cons_of_mem _ hx)
    by_cases h9 : i = 9 ∧ 1 < c
    · obtain ⟨rfl, h9⟩ := h9
      rw [dec_big c r h9] at h; cases h
    · by_cases h128 : c < 128
      · rw [dec_end i c r h9 h128] at h
        simp only [Sum.inr.injEq, Prod.mk.injEq] at h
        obtain ⟨rfl, rfl⟩ := h
        rw [Nat.mul_div_cancel _ (Nat.two_pow_pos _), putL_lo c h128]
        rfl
      · rw [dec_on i c r h9 h128] at h
        cases e : dec (i + 1) r with
        | inl x => rw [e] at h; cases h
        | inr x =>
          obtain ⟨v', k'⟩ := x
          rw [e] at h
          simp only [Sum.inr.injEq, Prod.mk.injEq] at h
          obtain ⟨rfl, rfl⟩ := h
          have hi8 : i ≤ 8 := by omega
          obtain ⟨h1, h2, h3, h4, h5⟩ := dec_some r (i + 1) v' k' hokr (by omega) e
          have hp : 2 ^ (7 * (i + 1)) = 128 * 2 ^ (7 * i) := by rw [show 7 * (i + 1) = 7 * i + 7 by omega, Nat.pow_add]; omega
          have hv : ((c - 128) * 2 ^ (7 * i) + v') / 2 ^ (7 * i) = (c - 128) + 128 * (v' / 2 ^ (7 * (i + 1))) := by
            have hq : v' = 2 ^ (7 * i) * (128 * (v' / 2 ^ (7 * (i + 1)))) := by
              have := Nat.div_add_mod v' (2 ^ (7 * (i + 1)))
              rw [h4, Nat.add_zero] at this
              calc v' = 2 ^ (7 * (i + 1)) * (v' / 2 ^ (7 * (i + 1))) := this.symm
                _ = 2 ^ (7 * i) * (128 * (v' / 2 ^ (7 * (i + 1)))) := by
                  generalize v' / 2 ^ (7 * (i + 1)) = z
                  rw [hp, Nat.mul_comm 128, Nat.mul_assoc]
            rw [Nat.add_comm, Nat.add_mul_div_right _ _ (Nat.two_pow_pos _)]
            conv => lhs; rw [hq]
            rw [Nat.mul_div_cancel_left _ (Nat.two_pow_pos _), Nat.add_comm]
          rw [hv] at hk ⊢
          generalize hz : v' / 2 ^ (7 * (i + 1)) = z at hk ⊢
          by_cases hlo : c - 128 + 128 * z < 128
          · rw [putL_lo _ hlo] at hk; simp at hk; omega
          · rw [putL_hi _ hlo] at hk ⊢
            have e1 : (c - 128 + 128 * z) / 128 = z := by omega
            have e2 : (c - 128 + 128 * z) % 128 + 128 = c := by omega
            rw [e1] at hk ⊢
            rw [e2]
            simp only [List.length_cons] at hk
            have := ih (i + 1) v' k' hokr (by omega) e (by rw [hz]; omega)
            rw [hz] at this
            rw [List.take_succ_cons, this]
theorem dec_canon0 (l : List Nat) (v k : Nat) (hok : okB l) (h : dec 0 l = .inr (v, k)) (hk : k = (putL v).length) : l = putL v ++ l.drop k := by
  have := dec_canon l 0 v k hok (by omega) h (by simpa using hk)
  simp only [Nat.mul_zero, Nat.pow_zero, Nat.div_one] at this
  conv => lhs; rw [← List.take_append_drop k l, this]
theorem okB_drop {l : List Nat} (h : okB l) (k : Nat) : okB (l.drop k) := fun x hx => h x (List.mem_of_mem_drop hx)
theorem getN_some : ∀ (n : Nat) (b : List Nat) (vs : List Int) (r : List Nat), okB b → getN n b = some (vs, r) → b = putsL vs ++ r ∧ vs.length = n ∧ u64s vs := by
  intro n
  induction n with
  | zero =>
    intro b vs r _ h
    simp only [getN, Option.some.injEq, Prod.mk.injEq] at h
    obtain ⟨rfl, rfl⟩ := h
    exact ⟨rfl, rfl, fun x hx => by simp at hx⟩
  | succ n ih =>
    intro b vs r hok h
    simp only [getN] at h
    cases e : dec 0 b with
    | inl x => rw [e] at h; cases h
    | inr x =>
      obtain ⟨v, k⟩ := x
      rw [e] at h
      simp only at h
      by_cases hk : k = (putL v).length
      · rw [if_pos hk] at h
        cases e2 : getN n (b.drop k) with
        | none => rw [e2] at h; cases h
        | some y =>
          obtain ⟨vs', r'⟩ := y
          rw [e2] at h
          simp only [Option.some.injEq, Prod.mk.injEq] at h
          obtain ⟨rfl, rfl⟩ := h
          obtain ⟨h1, h2, h3⟩ := ih _ _ _ (okB_drop hok k) e2
          have hb := dec_canon0 b v k hok e hk
          have hv := (dec_some b 0 v k hok (by omega) e).2.2.2.2
          refine ⟨?_, by simp [h2], ?_⟩
          · rw [hb, h1, putsL_cons, Int.toNat_natCast, List.append_assoc]
          · intro x hx
            rcases List.mem_cons.1 hx with rfl | hx
            · omega
            · exact h3 x hx
      · rw [if_neg hk] at h; cases h
theorem getN_puts : ∀ (vs : List Int) (r : List Nat), u64s vs → getN vs.length (putsL vs ++ r) = some (vs, r) := by
  intro vs
  induction vs with
  | nil => intro r _; rfl
  | cons v vs ih =>
    intro r h
    have hv := h v List.mem_cons_self
    simp only [List.length_cons, getN]
    rw [putsL_cons, List.append_assoc, dec_put _ (by omega)]
    simp only
    rw [if_pos trivial, List.drop_left, ih r (fun x hx => h x (List.mem_cons_of_mem _ hx))]
    simp only [Int.toNat_of_nonneg hv.1]
theorem getN_more (vs : List Int) (m : Nat) (h : u64s vs) (hm : vs.length < m) : getN m (putsL vs) = none := by
  cases e : getN m (putsL vs) with
  | none => rfl
  | some y =>
    obtain ⟨ws, r⟩ := y
    obtain ⟨h1, h2, h3⟩ := getN_some m _ ws r (putsL_ok vs) e
    have : getN vs.length (putsL ws ++ r) = some (vs, []) := by
      rw [← h1]; have := getN_puts vs [] h; simpa using this
    have h4 := getN_puts (ws.take vs.length) (putsL (ws.drop vs.length) ++ r) (u64s_take h3 _)
    rw [List.length_take, Nat.min_eq_left (by omega), ← List.append_assoc, ← putsL_append, List.take_append_drop] at h4
    rw [this] at h4
    simp only [Option.some.injEq, Prod.mk.injEq] at h4
    obtain ⟨e1, e2⟩ := h4
    have hd : ws.drop vs.length ≠ [] := by
      intro hd
      have := congrArg List.length hd
      simp at this; omega
    cases hdr : ws.drop vs.length with
    | nil => exact absurd hdr hd
    | cons a t =>
      rw [hdr, putsL_cons] at e2
      have := putL_pos a.toNat
      have h0 := congrArg List.length e2
      simp at h0; omega
theorem getN_cut (vs : List Int) (b : List Nat) (x : Nat) (h : u64s vs) (hb : putsL vs = b ++ [x]) : getN vs.length b = none := by
  have hok : okB b := fun y hy => putsL_ok vs y (by rw [hb]; simp [hy])
  cases e : getN vs.length b with
  | none => rfl
  | some y =>
    obtain ⟨ws, r⟩ := y
    obtain ⟨h1, h2, h3⟩ := getN_some _ _ ws r hok e
    have h4 := getN_puts ws (r ++ [x]) h3
    rw [← List.append_assoc, ← h1, ← hb, h2] at h4
    have h5 := getN_puts vs [] h
    rw [List.append_nil, h4] at h5
    simp at h5

/-! ### differences of differences -/
def guess (l : List Int) : Int := match l.reverse with
  | [] => 0
  | [a] => a
  | a :: b :: _ => (2 * a - b) % 18446744073709551616
def off (l : List Int) (n : Int) : Int := if l = [] then (n - guess l) % 18446744073709551616 else zig (wrap64 ((n - guess l) % 18446744073709551616))
def unoff (l : List Int) (v : Int) : Int := (guess l + (if l = [] then v else zag v % 18446744073709551616)) % 18446744073709551616
theorem guess_range (l : List Int) (h : u64s l) : 0 ≤ guess l ∧ guess l < 18446744073709551616 := by
  unfold guess
  split
  · omega
  · rename_i a e
    have : a ∈ l := by have := List.mem_reverse (as := l) (x := a); rw [e] at this; exact this.1 (by simp)
    exact h a this
  · omega
theorem off_range (l : List Int) (n : Int) : 0 ≤ off l n ∧ off l n < 18446744073709551616 := by
  unfold off
  split
  · omega
  · exact zig_range _ (by unfold wrap64; omega) (by unfold wrap64; omega)
theorem unoff_range (l : List Int) (v : Int) : 0 ≤ unoff l v ∧ unoff l v < 18446744073709551616 := by unfold unoff; omega
theorem unoff_first (l : List Int) (v : Int) (h : l.length = 0) : (guess l + v) % 18446744073709551616 = unoff l v := by
  unfold unoff
  rw [if_pos (List.eq_nil_of_length_eq_zero h)]
theorem unoff_next (l : List Int) (v : Int) (h : l.length ≠ 0) : (guess l + zag v % 18446744073709551616) % 18446744073709551616 = unoff l v := by
  unfold unoff
  rw [if_neg (fun e => h (by rw [e]; rfl))]
theorem unoff_off (l : List Int) (n : Int) (h : 0 ≤ n ∧ n < 18446744073709551616) : unoff l (off l n) = n := by
  unfold unoff off
  split
  · omega
  · rw [zag_zig]; unfold wrap64; omega
theorem off_unoff (l : List Int) (v : Int) (h : 0 ≤ v ∧ v < 18446744073709551616) : off l (unoff l v) = v := by
  unfold unoff off
  split
  · omega
  · have hz := zag_range v h.1 h.2
    rw [show wrap64 (((guess l + zag v % 18446744073709551616) % 18446744073709551616 - guess l) % 18446744073709551616) = zag v by unfold wrap64; omega, zig_zag v h.1]
/-- The numbers that are written behind those of acc. -/
def offs : List Int → List Int → List Int
  | _, [] => []
  | acc, n :: l => off acc n :: offs (acc ++ [n]) l
def unoffs : List Int → List Int → List Int
  | acc, [] => acc
  | acc, v :: vs => unoffs (acc ++ [unoff acc v]) vs
theorem offs_range (acc l : List Int) : u64s (offs acc l) := by
  induction l generalizing acc with
  | nil => intro x hx; simp [offs] at hx
  | cons n l ih =>
    intro x hx
    rcases List.mem_cons.1 hx with rfl | hx
    · exact off_range acc n
    · exact ih _ x hx
theorem offs_length (acc l : List Int) : (offs acc l).length = l.length := by
  induction l generalizing acc with
  | nil => rfl
  | cons n l ih => simp [offs, ih]
theorem unoffs_offs (acc l : List Int) (h : u64s l) : unoffs acc (offs acc l) = acc ++ l := by
  induction l generalizing acc with
  | nil => simp [offs, unoffs]
  | cons n l ih =>
    simp only [offs, unoffs]
    rw [unoff_off acc n (h n List.mem_cons_self), ih _ (fun x hx => h x (List.mem_cons_of_mem _ hx))]
    simp
theorem unoffs_split (acc vs : List Int) : ∃ l, unoffs acc vs = acc ++ l ∧ l.length = vs.length ∧ u64s l ∧ (u64s vs → offs acc l = vs) := by
  induction vs generalizing acc with
  | nil => exact ⟨[], by simp [unoffs], rfl, fun x hx => by simp at hx, fun _ => rfl⟩
  | cons v vs ih =>
    obtain ⟨l, h1, h2, h3, h4⟩ := ih (acc ++ [unoff acc v])
    refine ⟨unoff acc v :: l, by simp [unoffs, h1], by simp [h2], ?_, ?_⟩
    · intro x hx
      rcases List.mem_cons.1 hx with rfl | hx
      · exact unoff_range acc v
      · exact h3 x hx
    · intro hv
      simp only [offs]
      rw [off_unoff acc v (hv v List.mem_cons_self), h4 (fun x hx => hv x (List.mem_cons_of_mem _ hx))]
theorem unoffs_length (acc vs : List Int) : (unoffs acc vs).length = acc.length + vs.length := by
  obtain ⟨l, h1, h2, _⟩ := unoffs_split acc vs
  rw [h1, List.length_append, h2]
theorem unoffs_snoc (acc vs : List Int) (v : Int) : unoffs acc (vs ++ [v]) = unoffs acc vs ++ [unoff (unoffs acc vs) v] := by
  induction vs generalizing acc with
  | nil => rfl
  | cons x vs ih => simp only [List.cons_append, unoffs]; exact ih _
theorem offs_snoc (acc l : List Int) (n : Int) : offs acc (l ++ [n]) = offs acc l ++ [off (acc ++ l) n] := by
  induction l generalizing acc with
  | nil => simp [offs]
  | cons x l ih => simp only [List.cons_append, offs]; rw [ih]; simp
end Go.Proofs.Ytfkpebdjobhfgaa.Hy
