import Derived.Test.YtdgbcokakmonfaaDoorMbktchjtt
import Derived.Test.YtdgbcokakmonfaaDoorMggzlhgxc
import Derived.Test.YtdgbcokakmonfaaDoorPRunsGetsx2
import Derived.Outline
import Derived.Test.YtdgbcokakmonfaaDoorMvqtdcrqi
import Derived.Test.YtdgbcokakmonfaaDoorMgdasylmn
namespace Go.Proofs.YtdgbcokakmonfaaDoor.Hy

/-! ### the numbers that runs tell -/
def unrl : List Int → List Int
  | x :: n :: r => List.replicate (n.toNat + 1) x ++ unrl r
  | _ => []
theorem unrl_nil : unrl [] = [] := rfl
theorem unrl_cons (x n : Int) (r : List Int) : unrl (x :: n :: r) = List.replicate (n.toNat + 1) x ++ unrl r := rfl
theorem unrl_grp : ∀ (k : Nat) (l : List Int), l.length ≤ k → unrl (grp l) = l := by
  intro k
  induction k with
  | zero => intro l h; obtain rfl : l = [] := List.eq_nil_of_length_eq_zero (by omega); rfl
  | succ k ih =>
    intro l h
    by_cases hl : l = []
    · subst hl; rfl
    · obtain ⟨x, n, l3, rfl, h3⟩ := split_run l hl
      rw [grp_run x n l3 h3, unrl_cons, Int.toNat_natCast, ih l3 (by simp at h; omega)]
theorem unrl_two (x n : Int) : unrl [x, n] = List.replicate (n.toNat + 1) x := by rw [unrl_cons, unrl_nil, List.append_nil]
theorem unrl_append : ∀ (k : Nat) (a b : List Int), a.length ≤ k → a.length % 2 = 0 → unrl (a ++ b) = unrl a ++ unrl b := by
  intro k
  induction k using Nat.strongRecOn with
  | _ k ih =>
    intro a b h h2
    match a with
    | [] => rfl
    | [_] => simp at h2
    | x :: n :: r =>
      simp only [List.length_cons] at h h2
      rw [List.cons_append, List.cons_append, unrl_cons, unrl_cons, ih (k - 2) (by omega) r b (by omega) (by omega), List.append_assoc]
theorem unrl_take (vs : List Int) (j : Nat) (h : 2 * j + 1 < vs.length) : unrl (vs.take (2 * (j + 1))) = unrl (vs.take (2 * j)) ++ List.replicate ((vs[2 * j + 1]).toNat + 1) vs[2 * j] := by
  have e : vs.take (2 * (j + 1)) = vs.take (2 * j) ++ [vs[2 * j], vs[2 * j + 1]] := by
    rw [show 2 * (j + 1) = 2 * j + 1 + 1 by omega, List.take_succ_eq_append_getElem h, List.take_succ_eq_append_getElem (show 2 * j < vs.length by omega), List.append_assoc]
    rfl
  rw [e, unrl_append _ _ _ (Nat.le_refl _) (by rw [List.length_take]; omega), unrl_two]
theorem unrl_take_le (vs : List Int) (j : Nat) (h : vs.length % 2 = 0) (hj : 2 * j ≤ vs.length) : (unrl (vs.take (2 * j))).length ≤ (unrl vs).length := by
  conv => rhs; rw [← List.take_append_drop (2 * j) vs, unrl_append _ _ _ (Nat.le_refl _) (by rw [List.length_take]; omega)]
  rw [List.length_append]; omega
theorem unrl_u64 : ∀ (k : Nat) (vs : List Int), vs.length ≤ k → u64s vs → u64s (unrl vs) := by
  intro k
  induction k using Nat.strongRecOn with
  | _ k ih =>
    intro vs h hu
    match vs with
    | [] => intro x hx; simp [unrl] at hx
    | [_] => intro x hx; simp [unrl] at hx
    | y :: n :: r =>
      simp only [List.length_cons] at h
      rw [unrl_cons]
      intro x hx
      rcases List.mem_append.1 hx with hx | hx
      · rw [(List.mem_replicate.1 hx).2]; exact hu y (by simp)
      · exact ih (k - 2) (by omega) r (by omega) (fun z hz => hu z (by simp [hz])) x hx
/-- What the numbers of a text say of its runs. -/
theorem runs_iff (b : List Nat) (vs : List Int) (n : Nat) (hb : ∀ l, isRuns b l → l.length = n → vs = grp l) (l : List Int) (h : isRuns b l) (hl : l.length = n) : unrl vs = l := by
  rw [hb l h hl, unrl_grp _ _ (Nat.le_refl _)]
end Go.Proofs.YtdgbcokakmonfaaDoor.Hy
namespace Go.Proofs.YtdgbcokakmonfaaDoor
open Go.RowKit Go.Proofs.YtdgbcokakmonfaaDoorW.PrintWords Go.Proofs.YtdgbcokakmonfaaDoorW.PrintLast Go.Proofs.YtdgbcokakmonfaaDoorW.PrintMore Hy
open PRunsGets (hygref2_GetVarint.l0 hygref2_GetVarint.j2 hygref2_GetVarint.j0 hygref2_GetVarint.f hygref2_GetVarint.calls)

/-! ### the document's own reading of a number -/
theorem and_u8_127 (x : Int) (h0 : 0 ≤ x) (h1 : x < 256) : Go.bits .and .u8 x 127 = x % 128 :=
  bits_mask .u8 8 (by decide) wraps_u8 7 (by decide) x h0 (by simpa using h1)
theorem rstep7 (c i acc : Nat) (hi : i ≤ 9) (hc : c < 256) (h9 : i = 9 → c ≤ 1) (ha : acc < 2 ^ (7 * i)) :
    Go.bits .or .u64 (acc : Int) (shl .u64 (IntKind.u64.wrap (Go.bits .and .u8 (c : Int) 127)) (IntKind.u64.wrap (wrap64 (7 * (i : Int))))) = ((acc + c % 128 * 2 ^ (7 * i) : Nat) : Int) := by
  have h := (step7 c i acc hi hc h9 ha).1
  rw [and_u8_127 _ (by omega) (by omega), ← andNot_u8_128 _ (by omega) (by omega), show IntKind.u64.wrap (wrap64 (7 * (i : Int))) = wrap64 (7 * (i : Int)) by rw [w7 i hi, wrap_u64]; omega]
  exact h
theorem rg_end (s : ByteArray) (a i k : Nat) (acc : Int) (hs : s.size ≤ 140737488351232) (hi : i ≤ 9) (hle : a + i = s.size) : hygref2_GetVarint.l0 (k + 1) s (a : Int) acc (i : Int) = some (0, 0, 1) := by
  have e0 : wrap64 ((a : Int) + (i : Int)) = ((a + i : Nat) : Int) := by unfold wrap64; omega
  have hx : (i : Int) < 10 := by omega
  have hA : ((a + i : Nat) : Int) ≥ (s.size : Int) := by omega
  rw [hygref2_GetVarint.l0, if_pos hx, e0, if_pos hA]
theorem rg_big (s : ByteArray) (a k : Nat) (acc : Int) (hs : s.size ≤ 140737488351232) (hlt : a + 9 < s.size) (c : Nat) (h2 : bt s ((a + 9 : Nat) : Int) = (c : Int)) (hc : 1 < c) : hygref2_GetVarint.l0 (k + 2) s (a : Int) acc ((9 : Nat) : Int) = some (0, 0, 4) := by
  have e0 : wrap64 ((a : Int) + ((9 : Nat) : Int)) = ((a + 9 : Nat) : Int) := by unfold wrap64; omega
  have hx : ((9 : Nat) : Int) < 10 := by omega
  have hA : ¬ ((a + 9 : Nat) : Int) ≥ (s.size : Int) := by omega
  have hB : 0 ≤ ((a + 9 : Nat) : Int) := by omega
  have hC : ((a + 9 : Nat) : Int) < (s.size : Int) := by omega
  have hD : ((9 : Nat) : Int) = 9 := rfl
  have hT : decide ((c : Int) > 1) = true := by simp; omega
  rw [hygref2_GetVarint.l0, if_pos hx, e0, if_neg hA, if_pos hB, if_pos hC, if_pos hD, h2, hygref2_GetVarint.j2, if_pos hT]
theorem rg_j2 (s : ByteArray) (a i acc k c : Nat) (x : Bool) (hx : x = false) (hs : s.size ≤ 140737488351232) (hi : i ≤ 9) (hlt : a + i < s.size) (ha : acc < 2 ^ (7 * i)) (h3 : c < 256) (h9 : i = 9 → c ≤ 1) :
    hygref2_GetVarint.j2 (k + 1) s (a : Int) (acc : Int) (i : Int) (c : Int) x = if c < 128 then some (((acc + c % 128 * 2 ^ (7 * i) : Nat) : Int), ((a + i + 1 : Nat) : Int), 0) else hygref2_GetVarint.l0 k s (a : Int) ((acc + c % 128 * 2 ^ (7 * i) : Nat) : Int) ((i + 1 : Nat) : Int) := by
  have hE : 0 ≤ IntKind.u64.wrap (wrap64 (7 * (i : Int))) := by rw [w7 i hi, wrap_u64]; omega
  have hT : ¬ (false = true) := by simp
  have e0 : wrap64 ((a : Int) + (i : Int)) = ((a + i : Nat) : Int) := by unfold wrap64; omega
  have e1 : wrap64 (((a + i : Nat) : Int) + 1) = ((a + i + 1 : Nat) : Int) := by unfold wrap64; omega
  have e2 : wrap64 ((i : Int) + 1) = ((i + 1 : Nat) : Int) := by unfold wrap64; omega
  have h7 := rstep7 c i acc hi h3 h9 ha
  subst hx
  rw [hygref2_GetVarint.j2, if_neg hT, if_pos hE, h7, e0, e1, e2]
  by_cases hc : c < 128
  · rw [if_pos hc, if_pos (by omega)]
  · rw [if_neg hc, if_neg (by omega)]
theorem rg_step (s : ByteArray) (a i acc k c : Nat) (hs : s.size ≤ 140737488351232) (hi : i ≤ 9) (hlt : a + i < s.size) (ha : acc < 2 ^ (7 * i)) (h2 : bt s ((a + i : Nat) : Int) = (c : Int)) (h3 : c < 256) (h9 : i = 9 → c ≤ 1) :
    hygref2_GetVarint.l0 (k + 2) s (a : Int) (acc : Int) (i : Int) = if c < 128 then some (((acc + c % 128 * 2 ^ (7 * i) : Nat) : Int), ((a + i + 1 : Nat) : Int), 0) else hygref2_GetVarint.l0 k s (a : Int) ((acc + c % 128 * 2 ^ (7 * i) : Nat) : Int) ((i + 1 : Nat) : Int) := by
  have e0 : wrap64 ((a : Int) + (i : Int)) = ((a + i : Nat) : Int) := by unfold wrap64; omega
  have hx : (i : Int) < 10 := by omega
  have hA : ¬ ((a + i : Nat) : Int) ≥ (s.size : Int) := by omega
  have hB : 0 ≤ ((a + i : Nat) : Int) := by omega
  have hC : ((a + i : Nat) : Int) < (s.size : Int) := by omega
  rw [hygref2_GetVarint.l0, if_pos hx, e0, if_neg hA, if_pos hB, if_pos hC, h2]
  by_cases hD : (i : Int) = 9
  · rw [if_pos hD, rg_j2 s a i acc k c _ (by have := h9 (by omega); simp; omega) hs hi hlt ha h3 h9]
  · rw [if_neg hD, rg_j2 s a i acc k c _ rfl hs hi hlt ha h3 h9]
/-- What the reading gives, as the document's function tells it. -/
def rgv (a : Nat) (x : Sum Nat (Nat × Nat)) : Option (Int × Int × Int) := match x with
  | .inl c => some (0, 0, (c : Int))
  | .inr (v, m) => some ((v : Int), ((a + m : Nat) : Int), 0)
def addv (n k : Nat) : Sum Nat (Nat × Nat) → Sum Nat (Nat × Nat)
  | .inl c => .inl c
  | .inr (v, m) => .inr (n + v, k + m)
theorem rgetv_l0 : ∀ (d : Nat) (s : ByteArray) (a i acc k : Nat), s.size ≤ 140737488351232 → i + d = 9 → a + i ≤ s.size → acc < 2 ^ (7 * i) → 2 * d + 2 ≤ k →
    hygref2_GetVarint.l0 k s (a : Int) (acc : Int) (i : Int) = rgv a (addv acc i (dec i ((bs s).drop (a + i)))) := by
  intro d
  induction d with
  | zero =>
    intro s a i acc k hs hi hle ha hk
    obtain rfl : i = 9 := by omega
    obtain ⟨k, rfl⟩ : ∃ m, k = m + 2 := ⟨k - 2, by omega⟩
    by_cases hlt : a + 9 < s.size
    · obtain ⟨c, r, h1, h2, h3, h4⟩ := bt_bs s (a + 9) hlt
      by_cases hc : 1 < c
      · rw [h1, dec_big c r hc, rg_big s a k acc hs hlt c h2 hc]; rfl
      · rw [h1, dec_end 9 c r (by omega) (by omega), rg_step s a 9 acc k c hs (by omega) hlt ha h2 h3 (fun _ => by omega), if_pos (by omega), Nat.mod_eq_of_lt (show c < 128 by omega)]
        rfl
    · rw [List.drop_of_length_le (by rw [bs_length]; omega), dec_nil, rg_end s a 9 (k + 1) acc hs (by omega) (by omega)]
      rfl
  | succ d ih =>
    intro s a i acc k hs hi hle ha hk
    obtain ⟨k, rfl⟩ : ∃ m, k = m + 2 := ⟨k - 2, by omega⟩
    by_cases hlt : a + i < s.size
    · obtain ⟨c, r, h1, h2, h3, h4⟩ := bt_bs s (a + i) hlt
      have hN : ¬ (i = 9 ∧ 1 < c) := by omega
      have hs8 := (step7 c i acc (by omega) h3 (fun h => by omega) ha).2.2 (by omega)
      rw [rg_step s a i acc k c hs (by omega) hlt ha h2 h3 (fun h => by omega)]
      by_cases hc : c < 128
      · rw [h1, dec_end i c r hN hc, if_pos hc, Nat.mod_eq_of_lt hc]; rfl
      · have IH := ih s a (i + 1) _ k hs (by omega) (by omega) hs8 (by omega)
        rw [show a + (i + 1) = a + i + 1 by omega, h4] at IH
        rw [if_neg hc, IH, h1, dec_on i c r hN hc, show c % 128 = c - 128 by omega]
        cases dec (i + 1) r with
        | inl x => rfl
        | inr x =>
          obtain ⟨v, m⟩ := x
          show some (((acc + (c - 128) * 2 ^ (7 * i) + v : Nat) : Int), ((a + (i + 1 + m) : Nat) : Int), (0 : Int)) = some (((acc + ((c - 128) * 2 ^ (7 * i) + v) : Nat) : Int), ((a + (i + (m + 1)) : Nat) : Int), 0)
          rw [Nat.add_assoc acc, Nat.add_assoc i, Nat.add_comm 1 m]
    · rw [List.drop_of_length_le (by rw [bs_length]; omega), dec_nil, rg_end s a i (k + 1) acc hs (by omega) (by omega)]
      rfl
theorem rgetv_k (s : ByteArray) (a k : Nat) (hk : 21 ≤ k) (hs : s.size ≤ 140737488351232) (ha : a ≤ s.size) : hygref2_GetVarint.f k s (a : Int) = rgv a (dec 0 ((bs s).drop a)) := by
  obtain ⟨k, rfl⟩ : ∃ m, k = m + 1 := ⟨k - 1, by omega⟩
  have := rgetv_l0 9 s a 0 0 k hs rfl (by omega) (by simp) (by omega)
  unfold hygref2_GetVarint.f
  rw [if_neg (by omega), hygref2_GetVarint.j0, if_neg (by simp; omega)]
  rw [Nat.add_zero] at this
  refine this.trans ?_
  cases dec 0 ((bs s).drop a) with
  | inl c => rfl
  | inr x => obtain ⟨v, m⟩ := x; simp [addv]
theorem rgetv_f (s : ByteArray) (a : Nat) (hs : s.size ≤ 140737488351232) (ha : a ≤ s.size) : hygref2_GetVarint.f 30 s (a : Int) = rgv a (dec 0 ((bs s).drop a)) := rgetv_k s a 30 (by omega) hs ha
theorem rgetv_range (s : ByteArray) (a : Int) (h : a < 0 ∨ s.size < a) : hygref2_GetVarint.f 30 s a = some (0, 0, 9) := by
  unfold hygref2_GetVarint.f
  by_cases h0 : a < 0
  · rw [if_pos h0, hygref2_GetVarint.j0, if_pos rfl]
  · rw [if_neg h0, hygref2_GetVarint.j0, if_pos (by simp; omega)]
end Go.Proofs.YtdgbcokakmonfaaDoor
namespace Go.Proofs.YtdgbcokakmonfaaDoor
open Go.RowKit Go.Proofs.YtdgbcokakmonfaaDoorW.PrintWords Go.Proofs.YtdgbcokakmonfaaDoorW.PrintLast Go.Proofs.YtdgbcokakmonfaaDoorW.PrintMore Hy
open PRunsGets (hygref2_GetVarint.f hygref2_Varints.l0 hygref2_Varints.f)

theorem dec_code0 : ∀ (l : List Nat) (i : Nat), dec i l = .inl 0 → False := by
  intro l
  induction l with
  | nil => intro i h; rw [dec_nil] at h; injection h with h; omega
  | cons x r ih =>
    intro i h
    by_cases h9 : i = 9 ∧ 1 < x
    · obtain ⟨rfl, hx⟩ := h9
      rw [dec_big x r hx] at h; injection h with h; omega
    · by_cases hx : x < 128
      · rw [dec_end i x r h9 hx] at h; cases h
      · rw [dec_on i x r h9 hx] at h
        cases hd : dec (i + 1) r with
        | inl y => rw [hd] at h; injection h with h; subst h; exact ih _ hd
        | inr y => rw [hd] at h; cases h
theorem vs_ok (s : ByteArray) (n p c : Int) (K : Nat) (acc : List Int) (a : Nat) (ha : (a : Int) < (s.size : Int)) (hg : hygref2_GetVarint.f K s (a : Int) = some (n, p, 0)) (hl : acc.length < 17592186044416) (_h : c = 0) :
    hygref2_Varints.l0 (K + 1) s acc (a : Int) = hygref2_Varints.l0 K s (acc ++ [n]) p := by
  rw [hygref2_Varints.l0, if_pos ha, hg, Option.bind_some, if_pos rfl, if_pos hl]
theorem vs_err (s : ByteArray) (n p c : Int) (K : Nat) (acc : List Int) (a : Nat) (ha : (a : Int) < (s.size : Int)) (hg : hygref2_GetVarint.f K s (a : Int) = some (n, p, c)) (hc : ¬ c = 0) :
    hygref2_Varints.l0 (K + 1) s acc (a : Int) = some ([], c) := by
  rw [hygref2_Varints.l0, if_pos ha, hg, Option.bind_some, if_neg hc]
theorem vs_puts (s : ByteArray) (hs : s.size ≤ 10000) : ∀ (R D : List Int) (K : Nat), u64s R → bs s = putsL D ++ putsL R → D.length + R.length ≤ 10000 → R.length + 25 ≤ K →
    hygref2_Varints.l0 K s D ((putsL D).length : Int) = some (D ++ R, 0) := by
  intro R
  induction R with
  | nil =>
    intro D K _ he _ hK
    obtain ⟨K, rfl⟩ : ∃ m, K = m + 1 := ⟨K - 1, by omega⟩
    have := congrArg List.length he
    rw [bs_length, putsL_nil, List.append_nil] at this
    rw [hygref2_Varints.l0, if_neg (by omega), List.append_nil]
  | cons x R ih =>
    intro D K hu he hl hK
    obtain ⟨K, rfl⟩ : ∃ m, K = m + 1 := ⟨K - 1, by omega⟩
    have hx := hu x (by simp)
    have hlen := congrArg List.length he
    rw [bs_length, putsL_cons, List.length_append, List.length_append] at hlen
    have hp := putL_pos x.toNat
    have hd : (bs s).drop (putsL D).length = putL x.toNat ++ putsL R := by rw [he, List.drop_left' rfl, putsL_cons]
    have hg := rgetv_k s (putsL D).length K (by simp at hK; omega) (by omega) (by omega)
    rw [hd, dec_put x.toNat (by omega)] at hg
    have hg2 : hygref2_GetVarint.f K s ((putsL D).length : Int) = some (x, (((putsL (D ++ [x])).length : Nat) : Int), 0) := by
      rw [hg]
      simp only [rgv]
      rw [putsL_append, List.length_append, putsL_cons, putsL_nil, List.append_nil, Int.toNat_of_nonneg hx.1]
    simp only [List.length_cons] at hl hK
    rw [vs_ok s x _ 0 K D _ (by omega) hg2 (by omega) rfl]
    have := ih (D ++ [x]) K (fun y hy => hu y (by simp [hy])) (by rw [he, putsL_append, putsL_cons, putsL_cons, putsL_nil, List.append_nil, List.append_assoc]) (by simp; omega) (by omega)
    rw [this, List.append_assoc]
    rfl
theorem vs_any (s : ByteArray) (hs : s.size ≤ 10000) : ∀ (d a : Nat) (D : List Int) (K : Nat), a + d = s.size → u64s D → D.length ≤ a → d + 25 ≤ K →
    ∃ vs c, hygref2_Varints.l0 K s D (a : Int) = some (vs, c) ∧ u64s vs ∧ vs.length ≤ s.size := by
  intro d
  induction d using Nat.strongRecOn with
  | ind d ih =>
    intro a D K ha hD hl hK
    obtain ⟨K, rfl⟩ : ∃ m, K = m + 1 := ⟨K - 1, by omega⟩
    by_cases h0 : d = 0
    · exact ⟨D, 0, by rw [hygref2_Varints.l0, if_neg (by omega)], hD, by omega⟩
    · have hg := rgetv_k s a K (by omega) (by omega) (by omega)
      cases hd : dec 0 ((bs s).drop a) with
      | inl c =>
        rw [hd] at hg
        by_cases hc : (c : Int) = 0
        · have hg2 : hygref2_GetVarint.f K s (a : Int) = some (0, 0, 0) := by rw [hg]; simp only [rgv]; rw [hc]
          exfalso
          have hc' : c = 0 := by omega
          subst hc'
          have := dec_code0 ((bs s).drop a) 0 hd
          exact this
        · exact ⟨[], c, vs_err s 0 0 c K D a (by omega) hg hc, by intro x hx; simp at hx, by simp⟩
      | inr x =>
        obtain ⟨v, m⟩ := x
        rw [hd] at hg
        obtain ⟨h1, h2, _, _, h5⟩ := dec_some _ 0 v m (okB_drop (bs_ok s) a) (by omega) hd
        rw [List.length_drop, bs_length] at h2
        rw [vs_ok s v _ 0 K D a (by omega) hg (by omega) rfl]
        exact ih (d - m) (by omega) (a + m) (D ++ [(v : Int)]) K (by omega) (by
          intro y hy
          rcases List.mem_append.1 hy with hy | hy
          · exact hD y hy
          · rw [List.mem_singleton.1 hy]; omega) (by simp; omega) (by omega)
end Go.Proofs.YtdgbcokakmonfaaDoor
namespace Go.Proofs.YtdgbcokakmonfaaDoor
open Go.RowKit Go.Proofs.YtdgbcokakmonfaaDoorW.PrintWords Go.Proofs.YtdgbcokakmonfaaDoorW.PrintLast Go.Proofs.YtdgbcokakmonfaaDoorW.PrintMore Hy
open PRunsGets (hygref2_Varint.f hygref2_Varint.l0 hygref18_PutRuns.l0 hygref18_PutRuns.l1 hygref18_PutRuns.f)

/-! ### the document's own column of runs: written -/
theorem rput_l0 : ∀ (j n : Nat) (k : Nat) (acc : List Nat), n < 2 ^ (7 * (j + 1)) → n < 18446744073709551616 → acc.length + j < 1000 → j < k →
    hygref2_Varint.l0 k (n : Int) (acc.map fun (x : Nat) => (x : Int)) = some (st (acc ++ putL n)) := by
  intro j
  induction j with
  | zero =>
    intro n k acc h h64 hl hk
    obtain ⟨k, rfl⟩ : ∃ m, k = m + 1 := ⟨k - 1, by omega⟩
    have hn : n < 128 := by simpa using h
    simp only [hygref2_Varint.l0]
    rw [if_neg (by omega), if_pos (by simp; omega), putL_lo n hn, ← strOfNums_eq, show (n : Int) % 256 = n by omega]
    simp
  | succ j ih =>
    intro n k acc h h64 hl hk
    obtain ⟨k, rfl⟩ : ∃ m, k = m + 1 := ⟨k - 1, by omega⟩
    simp only [hygref2_Varint.l0]
    by_cases hn : n < 128
    · rw [if_neg (by omega), if_pos (by simp; omega), putL_lo n hn, ← strOfNums_eq, show (n : Int) % 256 = n by omega]
      simp
    · have h' : n / 128 < 2 ^ (7 * (j + 1)) := by
        rw [Nat.div_lt_iff_lt_mul (by omega)]
        calc n < _ := h
          _ = _ := by rw [show 7 * (j + 1 + 1) = 7 * (j + 1) + 7 by omega, Nat.pow_add]
      have := ih (n / 128) k (acc ++ [n % 128 + 128]) h' (by omega) (by simp; omega) (by omega)
      rw [if_pos (by omega), if_pos (by simp; omega), putL_hi n hn, and_u64_127 _ (by omega) (by omega), or_u64_128 _ (by omega) (by omega)]
      rw [List.append_assoc] at this
      simp only [List.cons_append, List.nil_append] at this
      rw [← this]
      have e : ((n : Int) / 128) = ((n / 128 : Nat) : Int) := by omega
      have e2 : ((n : Int) % 128 + 128) % 256 = ((n % 128 + 128 : Nat) : Int) := by omega
      rw [e, e2]
      simp
theorem rput_k (n : Int) (k : Nat) (h0 : 0 ≤ n) (h1 : n < 18446744073709551616) (hk : 10 ≤ k) : hygref2_Varint.f k n = some (put n) := by
  obtain ⟨n, rfl⟩ := Int.eq_ofNat_of_zero_le h0
  have := rput_l0 9 n k [] (by omega) (by omega) (by simp) (by omega)
  simpa [hygref2_Varint.f, put] using this
theorem pr_more (L : List Int) (K i j : Nat) (acc : ByteArray) (hL : L.length ≤ 20000) (hj : i + j < L.length) (he : rd L ((i + j : Nat) : Int) = rd L (i : Int)) :
    hygref18_PutRuns.l1 (K + 1) L acc (i : Int) (j : Int) = hygref18_PutRuns.l1 K L acc (i : Int) ((j + 1 : Nat) : Int) := by
  have e0 : wrap64 ((i : Int) + (j : Int)) = ((i + j : Nat) : Int) := by unfold wrap64; omega
  have e1 : wrap64 ((j : Int) + 1) = ((j + 1 : Nat) : Int) := by unfold wrap64; omega
  have h1 : ((i + j : Nat) : Int) < (L.length : Int) := by omega
  have h2 : (0 : Int) ≤ ((i + j : Nat) : Int) := by omega
  have h3 : (0 : Int) ≤ (i : Int) := by omega
  have h4 : (i : Int) < (L.length : Int) := by omega
  rw [hygref18_PutRuns.l1, e0, if_pos h1, if_pos h2, if_pos h3, if_pos h4, if_pos he, e1]
theorem pr_stop (L : List Int) (K i n : Nat) (acc t u : ByteArray) (x : Int) (hL : L.length ≤ 20000) (hj : i + (n + 1) ≤ L.length) (hx : rd L (i : Int) = x) (he : i + (n + 1) < L.length → rd L ((i + (n + 1) : Nat) : Int) ≠ x)
    (ht : hygref2_Varint.f K x = some t) (hu : hygref2_Varint.f K (n : Int) = some u) (hs1 : t.size + u.size ≤ 9223372036854775807) (hs2 : acc.size + (t ++ u).size ≤ 9223372036854775807) :
    hygref18_PutRuns.l1 (K + 1) L acc (i : Int) ((n + 1 : Nat) : Int) = hygref18_PutRuns.l0 K L (acc ++ (t ++ u)) ((i + (n + 1) : Nat) : Int) := by
  have e0 : wrap64 ((i : Int) + ((n + 1 : Nat) : Int)) = ((i + (n + 1) : Nat) : Int) := by unfold wrap64; omega
  have e1 : IntKind.u64.wrap (wrap64 (((n + 1 : Nat) : Int) - 1)) = (n : Int) := by rw [wrap_u64]; unfold wrap64; omega
  have h3 : (0 : Int) ≤ (i : Int) := by omega
  have h4 : (i : Int) < (L.length : Int) := by omega
  by_cases hlt : i + (n + 1) < L.length
  · have h1 : ((i + (n + 1) : Nat) : Int) < (L.length : Int) := by omega
    have h2 : (0 : Int) ≤ ((i + (n + 1) : Nat) : Int) := by omega
    have hne := he hlt
    rw [hygref18_PutRuns.l1, e0, if_pos h1, if_pos h2, if_pos h3, if_pos h4, hx, if_neg hne, ht, Option.bind_some, e1, hu, Option.bind_some, if_pos hs1, if_pos hs2]
  · have h1 : ¬ ((i + (n + 1) : Nat) : Int) < (L.length : Int) := by omega
    rw [hygref18_PutRuns.l1, e0, if_neg h1, if_pos h3, if_pos h4, hx, ht, Option.bind_some, e1, hu, Option.bind_some, if_pos hs1, if_pos hs2]
theorem pr_loop (L : List Int) (i n : Nat) (acc t u : ByteArray) (x : Int) (hL : L.length ≤ 20000) (hj : i + (n + 1) ≤ L.length) (hall : ∀ j, j ≤ n → rd L ((i + j : Nat) : Int) = x) (he : i + (n + 1) < L.length → rd L ((i + (n + 1) : Nat) : Int) ≠ x)
    (ht : ∀ K, 10 ≤ K → hygref2_Varint.f K x = some t) (hu : ∀ K, 10 ≤ K → hygref2_Varint.f K (n : Int) = some u) (hs1 : t.size + u.size ≤ 9223372036854775807) (hs2 : acc.size + (t ++ u).size ≤ 9223372036854775807) :
    ∀ (d j K : Nat), j + d = n + 1 → 1 ≤ j → 10 ≤ K → hygref18_PutRuns.l1 (K + d + 1) L acc (i : Int) (j : Int) = hygref18_PutRuns.l0 K L (acc ++ (t ++ u)) ((i + (n + 1) : Nat) : Int) := by
  have h0 : rd L (i : Int) = x := by have := hall 0 (by omega); rwa [Nat.add_zero] at this
  intro d
  induction d with
  | zero =>
    intro j K hd h1 hK
    obtain rfl : j = n + 1 := by omega
    exact pr_stop L K i n acc t u x hL hj h0 he (ht K hK) (hu K hK) hs1 hs2
  | succ d ih =>
    intro j K hd h1 hK
    rw [show K + (d + 1) + 1 = K + d + 1 + 1 by omega, pr_more L (K + d + 1) i j acc hL (by omega) (by rw [hall j (by omega), h0])]
    exact ih (j + 1) K (by omega) (by omega) hK
theorem rd_run (D l3 : List Int) (x : Int) (n j : Nat) (hj : j ≤ n) : rd (D ++ (List.replicate (n + 1) x ++ l3)) ((D.length + j : Nat) : Int) = x := by
  unfold rd
  rw [Int.toNat_natCast, List.getD_eq_getElem?_getD, List.getElem?_append_right (by omega), List.getElem?_append_left (by simp; omega)]
  rw [show D.length + j - D.length = j by omega, List.getElem?_replicate, if_pos (by omega)]
  rfl
theorem rd_behind (D l3 : List Int) (x y : Int) (n : Nat) : rd (D ++ (List.replicate (n + 1) x ++ y :: l3)) ((D.length + (n + 1) : Nat) : Int) = y := by
  unfold rd
  rw [Int.toNat_natCast, List.getD_eq_getElem?_getD, List.getElem?_append_right (by omega), List.getElem?_append_right (by simp)]
  simp
theorem grp_sz (l : List Int) (hl : l.length ≤ 20000) (hx : u64s l) : (st (putsL (grp l))).size ≤ 400000 := by
  rw [st_size]
  have h1 := grp_len l
  have h2 := putsL_len (grp l) (grp_u64 l hx (by omega)).1
  omega
theorem pz (x : Int) (h : x < 18446744073709551616) : (put x).size ≤ 10 := by rw [put_size]; exact putL_len10 _ (by omega)
theorem rputruns_l0 (L : List Int) (hu : u64s L) (hL : L.length ≤ 20000) : ∀ (k : Nat) (D R : List Int) (K : Nat), R.length ≤ k → L = D ++ R → (∀ x, D.getLast? = some x → R.head? ≠ some x) → 2 * R.length + 20 ≤ K →
    hygref18_PutRuns.l0 K L (st (putsL (grp D))) (D.length : Int) = some (st (putsL (grp L)), 0) := by
  intro k
  induction k with
  | zero =>
    intro D R K hk he _ hK
    obtain rfl : R = [] := List.eq_nil_of_length_eq_zero (by omega)
    obtain ⟨K, rfl⟩ : ∃ m, K = m + 1 := ⟨K - 1, by omega⟩
    rw [List.append_nil] at he
    subst he
    rw [hygref18_PutRuns.l0, if_neg (by omega)]
  | succ k ih =>
    intro D R K hk he hb hK
    by_cases hR : R = []
    · subst hR
      obtain ⟨K, rfl⟩ : ∃ m, K = m + 1 := ⟨K - 1, by omega⟩
      rw [List.append_nil] at he
      subst he
      rw [hygref18_PutRuns.l0, if_neg (by omega)]
    · obtain ⟨x, n, l3, rfl, h3⟩ := split_run R hR
      have hlen : (List.replicate (n + 1) x ++ l3).length = n + 1 + l3.length := by simp
      have hLl : L.length = D.length + (n + 1 + l3.length) := by rw [he, List.length_append, hlen]
      rw [hlen] at hk hK
      have hx : 0 ≤ x ∧ x < 18446744073709551616 := hu x (by rw [he]; simp)
      have hD : u64s D := fun y hy => hu y (by rw [he]; exact List.mem_append_left _ hy)
      have hg : grp (D ++ List.replicate (n + 1) x) = grp D ++ [x, (n : Int)] := by
        have h1 := grp_append D.length D (List.replicate (n + 1) x) (Nat.le_refl _) (by
          intro y hy
          have := hb y hy
          simp only [List.replicate_succ, List.cons_append, List.head?_cons] at this ⊢
          exact this)
        have h2 := grp_run x n [] (by simp)
        rw [List.append_nil] at h2
        rw [h1, h2]; rfl
      have hacc : st (putsL (grp (D ++ List.replicate (n + 1) x))) = st (putsL (grp D)) ++ (put x ++ put (n : Int)) := by
        rw [hg, putsL_append, st_append, putsL_cons, putsL_cons, putsL_nil, List.append_nil, st_append]
        rfl
      have hs := grp_sz D (by omega) hD
      have p1 := pz x hx.2
      have p2 := pz (n : Int) (by omega)
      obtain ⟨K, rfl⟩ : ∃ m, K = m + n + 1 + 1 := ⟨K - n - 2, by omega⟩
      have hlt : (D.length : Int) < (L.length : Int) := by omega
      rw [hygref18_PutRuns.l0, if_pos hlt]
      have hloop := pr_loop L D.length n (st (putsL (grp D))) (put x) (put (n : Int)) x hL (by omega) (fun j hj => by rw [he]; exact rd_run D l3 x n j hj) (by
        intro hlt2
        cases l3 with
        | nil => simp at hLl; omega
        | cons y l3 =>
          rw [he, rd_behind]
          intro e; exact h3 (by rw [e]; rfl)) (fun K hK => rput_k x K hx.1 hx.2 hK) (fun K hK => rput_k (n : Int) K (by omega) (by omega) hK) (by omega) (by rw [ByteArray.size_append]; omega) n 1 K (by omega) (by omega) (by omega)
      rw [show (1 : Int) = ((1 : Nat) : Int) from rfl, hloop, ← hacc]
      have IH := ih (D ++ List.replicate (n + 1) x) l3 K (by omega) (by rw [he, List.append_assoc]) (by
        intro y hy
        rw [List.getLast?_append, List.replicate_succ', List.getLast?_append] at hy
        simp at hy
        subst hy
        exact h3) (by omega)
      rw [List.length_append, List.length_replicate] at IH
      exact IH
theorem rputruns_f (L : List Int) (K : Nat) (hu : u64s L) (hL : L.length ≤ 20000) (hK : 2 * L.length + 20 ≤ K) : hygref18_PutRuns.f K L = some (st (putsL (grp L)), 0) := by
  unfold hygref18_PutRuns.f
  rw [if_neg (by omega)]
  exact rputruns_l0 L hu hL L.length [] L K (Nat.le_refl _) rfl (by simp) hK
end Go.Proofs.YtdgbcokakmonfaaDoor
namespace Go.Proofs.YtdgbcokakmonfaaDoor
open Go.RowKit Go.Proofs.YtdgbcokakmonfaaDoorW.PrintWords Go.Proofs.YtdgbcokakmonfaaDoorW.PrintLast Go.Proofs.YtdgbcokakmonfaaDoorW.PrintMore Hy
open PRunsGets (hygref2_Varints.l0 hygref2_Varints.f hygref2_Varints.calls)

/-! ### the document's own column of runs: read -/
theorem toList_ne {t s : ByteArray} (h : ¬ t = s) : ¬ t.toList = s.toList := by
  rw [ByteArray.toList_eq, ByteArray.toList_eq]
  intro e
  exact h (ByteArray.ext (Array.toList_inj.mp e))
theorem add_next (ad : Addr) (k : Nat) : ad.add (k + 1) = ⟨ad.block, ad.off + (k + 1), none⟩ := by
  unfold Addr.add
  rw [if_neg (by omega)]
theorem putsL_ge (vs : List Int) : vs.length ≤ (putsL vs).length := by
  induction vs with
  | nil => simp
  | cons a t ih => rw [putsL_cons, List.length_append, List.length_cons]; have := putL_pos a.toNat; omega
theorem vs_runs (s : ByteArray) (hs : s.size ≤ 4000) (vs : List Int) (c : Int) (h : hygref2_Varints.l0 20000 s [] ((0 : Nat) : Int) = some (vs, c)) (l : List Int) (hl : isRuns (bs s) l) (hn : l.length ≤ 20000) : vs = grp l ∧ c = 0 := by
  have hu := (grp_u64 l hl.2 hn).1
  have h1 := putsL_ge (grp l)
  have h2 := congrArg List.length hl.1
  rw [bs_length] at h2
  have := vs_puts s (by omega) (grp l) [] 20000 hu (by rw [putsL_nil, List.nil_append]; exact hl.1) (by simp; omega) (by omega)
  rw [putsL_nil, List.length_nil, h, List.nil_append] at this
  simp only [Option.some.injEq, Prod.mk.injEq] at this
  exact this
def RGot (s : ByteArray) (n : Nat) (w : World) (e : Ending) (w' : World) : Prop :=
  (∃ (l : List Int) (A : Option Addr) (c : Nat), e = .returned (.tuple #[.slice A l.length c, .bool true]) ∧ isRuns (bs s) l ∧ l.length = n ∧ Kd.C (Kd.int .u64) w' A l.length l ∧ l.length ≤ c ∧ Below w.heap.size w w') ∨
  ((∀ l, isRuns (bs s) l → l.length ≠ n) ∧ e = .returned (.tuple #[.slice none 0 0, .bool false]) ∧ Below w.heap.size w w')
theorem rputruns_any (A : Option Addr) (c : Nat) (l : List Int) (w : World) (hr : Kd.C (Kd.int .u64) w A l.length l) (hc : l.length ≤ c) (hl : l.length ≤ 20000) (hu : u64s l) :
    Calls Tryd.prog 9 #[.slice A l.length c] w fun e w' => e = .returned (.tuple #[.string (st (putsL (grp l))), .int .i64 0]) ∧ Below w.heap.size w w' :=
  PRunsGets.hygref18_PutRuns.calls 40020 A c l _ _ w hr hc (rputruns_f l 40020 hu hl (by omega))
theorem runs_more (vs out : List Int) (n m : Nat) (hm2 : m % 2 = 0) (h2 : vs.length % 2 = 0) (hm : m + 1 < vs.length) (ho : out = unrl (vs.take m)) (b : List Nat) (hR : ∀ l, isRuns b l → l.length = n → vs = grp l) (hge : (n : Int) - (out.length : Int) ≤ vs[m + 1]) : ∀ l, isRuns b l → l.length ≠ n := by
  intro l h e
  have hv := hR l h e
  obtain ⟨j, rfl⟩ : ∃ j, m = 2 * j := ⟨m / 2, by omega⟩
  have h3 := unrl_take vs j hm
  have h4 := unrl_take_le vs (j + 1) h2 (by omega)
  have h6 : (unrl vs).length = n := by rw [hv, unrl_grp _ _ (Nat.le_refl _)]; exact e
  rw [h3, ← ho, List.length_append, List.length_replicate, h6] at h4
  omega
theorem runs_end (vs out : List Int) (n m : Nat) (hm : m = vs.length) (ho : out = unrl (vs.take m)) (b : List Nat) (hR : ∀ l, isRuns b l → l.length = n → vs = grp l) (l : List Int) (h : isRuns b l) (e : l.length = n) : out = l := by
  have hv := hR l h e
  rw [ho, hm, List.take_length, hv, unrl_grp _ _ (Nat.le_refl _)]
set_option maxHeartbeats 4000000 in
set_option maxRecDepth 100000 in
theorem rgetruns_any (s : ByteArray) (n : Nat) (w : World) (hs : s.size ≤ 4000) (hn : n ≤ 20000) :
    Calls Tryd.prog 13 #[.string s, .int .i64 (n : Int)] w (RGot s n w) := by
  obtain ⟨vs, c, hv, hu, hl⟩ := vs_any s (by omega) s.size 0 [] 20000 (by omega) (by intro x hx; simp at hx) (by simp) (by omega)
  have A1 := fun w => hygref2_Varints.calls 20000 s vs c w hv
  have HR : Aside0 (∀ l, isRuns (bs s) l → l.length = n → vs = grp l ∧ c = 0) := ⟨fun l h e => vs_runs s hs vs c hv l h (by omega)⟩
  have HB := Aside0.mk (Below.refl w.heap.size w)
  have HU := Aside0.mk hu
  clear hv hu
  by_cases hc : c = 0
  · subst hc
    have HR0 := HR
    clear HR
    have HR : Aside0 (∀ l, isRuns (bs s) l → l.length = n → vs = grp l) := ⟨fun l h e => (HR0.out l h e).1⟩
    clear HR0
    by_cases h2 : vs.length % 2 = 0
    · have h2i : ((vs.length : Int) % 2 != 0) = false := by rw [bne_eq_false_iff_eq]; omega
      have H2 := Aside0.mk h2
      clear h2
      go_enter Tryd.func13, Tryd.ntmps13
      go_wp2_with (first
        | (go_at_call 21; refine (A1 _).mono ?_; rintro e w1 ⟨v, rfl, hO, hb⟩; obtain ⟨Av, cv, rfl, hcv, hC1⟩ := Kd.R_reads hO; have HB1 := Aside0.mk hb; have HV := Aside0.mk hC1; clear hO hb HB hC1 hcv)
        | fail)
      clear A1 h2i
      have HB := Aside0.mk (Below.refl w1.heap.size w1)
      go_loopw [8, 9] (fun v8 v9 w' => ∃ (m : Nat) (out : List Int) (A : Option Addr) (c' : Nat), v9 = .int .i64 (m : Int) ∧ m ≤ vs.length ∧ out.length ≤ n ∧ Aside0 (m % 2 = 0) ∧ Aside0 (out = unrl (vs.take m)) ∧ v8 = .slice A out.length c' ∧ Aside0 (Kd.R (Kd.int .u64) 40 w' w1.heap.size (fun _ => True) (.slice A out.length c') out) ∧ Aside0 (Below w1.heap.size w1 w')) (fun _ v9 _ => vs.length - (intOf v9).toNat)
      case atStart => exact ⟨0, [], none, 0, rfl, Nat.zero_le _, by simp, ⟨rfl⟩, ⟨rfl⟩, rfl, ⟨Kd.R_nil _ _ _ _ _⟩, HB⟩
      case round =>
        clear HB
        obtain ⟨m, out, A, c', rfl, hm, hout, HM, HE, rfl, HO, HB⟩ := hrel
        by_cases hlt : m < vs.length
        · have hm1 : m + 1 < vs.length := by have := HM.out; have := H2.out; omega
          obtain ⟨ad, rfl, hx0⟩ := cellAt (Kd.C_below HV.out HB.out) m hlt
          obtain ⟨ad', e', hy0⟩ := cellAt (Kd.C_below HV.out HB.out) (m + 1) hm1
          injection e' with e'
          subst e'
          rw [add_next] at hy0
          obtain ⟨x, hx⟩ : ∃ x, vs[m] = x := ⟨_, rfl⟩
          obtain ⟨q, hq⟩ : ∃ q : Nat, vs[m + 1] = (q : Int) := ⟨(vs[m + 1]).toNat, by have := HU.out _ (List.getElem_mem hm1); omega⟩
          by_cases hge : (n : Int) - (out.length : Int) ≤ (q : Int)
          · have HN := Aside0.mk (runs_more vs out n m HM.out H2.out hm1 HE.out (bs s) HR.out (by rw [hq]; exact hge))
            rw [hq] at hy0
            clear hx0 hx hq HO
            go_wp2_with fail
            go_ret2
            exact .inr ⟨HN.out, rfl, below_next HB1.out HB.out⟩
          · have hlt2 : (q : Int) < (n : Int) - (out.length : Int) := by omega
            have HX := Aside0.mk hx
            have HQ := Aside0.mk hq
            rw [hx] at hx0
            rw [hq] at hy0
            have HXC := Aside0.mk hx0
            have HYC := Aside0.mk hy0
            clear hx hq hge hx0
            go_wp2_with fail
            clear hy0
            have HB0 := HB
            obtain ⟨wo, rfl⟩ : ∃ wo : World, wo = wr := ⟨_, rfl⟩
            go_loopw [8, 10] (fun v8 v10 w' => ∃ (i : Nat) (A : Option Addr) (c : Nat), i ≤ q + 1 ∧ v10 = .int .i64 (i : Int) ∧ v8 = .slice A (out ++ List.replicate i x).length c ∧ Aside0 (Kd.R (Kd.int .u64) 40 w' w1.heap.size (fun _ => True) (.slice A (out ++ List.replicate i x).length c) (out ++ List.replicate i x)) ∧ Aside0 (Below w1.heap.size w1 w')) (fun _ v10 _ => q + 1 - (intOf v10).toNat)
            case atStart => exact ⟨0, A, c', by omega, rfl, by rw [List.replicate_zero, List.append_nil], ⟨by rw [List.replicate_zero, List.append_nil]; exact HO.out⟩, HB⟩
            case round =>
              clear HB HO
              obtain ⟨i, A', c2, hi, rfl, rfl, HO, HB⟩ := hrel
              have hlen : (out ++ List.replicate i x).length ≤ 20001 := by rw [List.length_append, List.length_replicate]; omega
              obtain ⟨ad1, e1, hx0⟩ := cellAt (Kd.C_below HV.out HB.out) m hlt
              injection e1 with e1
              subst e1
              obtain ⟨ad1, e1, hy0⟩ := cellAt (Kd.C_below HV.out HB.out) (m + 1) hm1
              injection e1 with e1
              subst e1
              rw [HX.out] at hx0
              rw [HQ.out, add_next] at hy0
              by_cases hin : i ≤ q
              · have hin2 : (i : Int) ≤ (q : Int) := by omega
                go_wp2_with (first
                  | ((with_reducible refine gate_builtin (b := .append) (xs := #[.tmp 59, .tmp 64]) rfl ?_); at_builtin; refine Kd.R_append (Kd.int .u64) (w0 := w1) w1.heap.size rfl (.tmp 59) (.tmp 64) 22 40 (.int .u64 0) 8 rfl Tryd.underlying22 info_u64 rfl (by decide) (by omega) (.slice A' (out ++ List.replicate i x).length c2) (out ++ List.replicate i x) x [.int .u64 x] (fun _ => True) (fun _ => False) rfl rfl ?aP (fun _ hk => hk.elim) ?aF ?aO ?aB ?aS ?aL ?_; (case aP => exact rfl); (case aB => exact (by repeat (first | (with_reducible exact HB.out) | apply below_alloc | apply pw_below_drewN | apply below_drew1))); (case aF => exact (fun _ _ => trivial)); (case aO => exact (by (with_reducible repeat (first | apply Kd.R_alloc | apply Kd.R_drewN | apply Kd.R_drew)); exact HO.out)); (case aS => exact (below_size (by repeat (first | (with_reducible exact HB.out) | apply below_alloc | apply pw_below_drewN | apply below_drew1)))); (case aL => omega); intro va wa ho hb hg hat; have n0_ := Aside0.mk hb; have n1_ := Aside0.mk ho; clear HB HO; have HB := n0_; have HO := n1_; clear n0_ n1_ ho hb hg hat))
                rw [List.append_assoc, ← List.replicate_succ'] at HO
                obtain ⟨A2, c3, rfl, hc2, _⟩ := Kd.R_reads HO.out
                go_roundw
                case rel => exact ⟨i + 1, A2, c3, by omega, by go_num, rfl, HO, HB⟩
                case measure => simp [intOf]; omega
              · obtain rfl : i = q + 1 := by omega
                have hin2 : ¬ (((q + 1 : Nat) : Int) ≤ (q : Int)) := by omega
                clear hin hi
                go_wp2_with fail
                go_roundw
                case rel =>
                  refine ⟨m + 2, out ++ List.replicate (q + 1) x, A', c2, by go_num, by omega, by rw [List.length_append, List.length_replicate]; omega, ⟨by have := HM.out; omega⟩, ⟨?_⟩, rfl, HO, HB⟩
                  obtain ⟨j, rfl⟩ : ∃ j, m = 2 * j := ⟨m / 2, by have := HM.out; omega⟩
                  rw [show 2 * j + 2 = 2 * (j + 1) by omega, unrl_take vs j hm1, ← HE.out, HX.out, HQ.out, Int.toNat_natCast]
                case measure => simp [intOf]; omega
        · obtain rfl : m = vs.length := by omega
          have A2 := fun w' (h : Kd.C (Kd.int .u64) w' A out.length out) => rputruns_any A c' out w' h (R_C HO.out).2.2 (by omega) (by rw [HE.out]; exact unrl_u64 _ _ (Nat.le_refl _) (u64s_take HU.out _))
          have HC := Aside0.mk (R_C HO.out)
          have HEnd := Aside0.mk (runs_end vs out n vs.length rfl HE.out (bs s) HR.out)
          obtain ⟨t, ht⟩ : ∃ t, st (putsL (grp out)) = t := ⟨_, rfl⟩
          rw [ht] at A2
          have HT := Aside0.mk ht
          have HU2 : Aside0 (u64s out) := ⟨by rw [HE.out]; exact unrl_u64 _ _ (Nat.le_refl _) (u64s_take HU.out _)⟩
          clear ht HM hlt HE
          by_cases hts : t = s
          · subst hts
            by_cases hno : out.length = n
            · have hno2 : ((out.length : Int) != (n : Int)) = false := by rw [bne_eq_false_iff_eq]; omega
              have HNO := Aside0.mk hno
              clear hno
              go_wp2_with (first
                | (go_at_call 9; refine (A2 _ HC.out.1).mono ?_; rintro e wb ⟨rfl, hb⟩; have HBL := Aside0.mk hb; have HBn : Aside0 (Below w1.heap.size w1 wb) := ⟨below_next (by repeat (first | (with_reducible exact HB.out) | apply below_alloc | apply pw_below_drewN | apply below_drew1)) hb⟩; clear HB hb; have HB := HBn; clear HBn))
              go_ret2
              exact .inl ⟨out, A, c', rfl, ⟨by rw [← HT.out, bs_st _ (putsL_ok _)], HU2.out⟩, HNO.out, Kd.C_below HC.out.1 HBL.out, HC.out.2.2, below_next HB1.out HB.out⟩
            · have hno2 : ((out.length : Int) != (n : Int)) = true := by rw [bne_iff_ne]; omega
              go_wp2_with (first
                | (go_at_call 9; refine (A2 _ HC.out.1).mono ?_; rintro e wb ⟨rfl, hb⟩; have HBn : Aside0 (Below w1.heap.size w1 wb) := ⟨below_next (by repeat (first | (with_reducible exact HB.out) | apply below_alloc | apply pw_below_drewN | apply below_drew1)) hb⟩; clear HB hb; have HB := HBn; clear HBn))
              go_ret2
              exact .inr ⟨fun l h e => hno (by rw [HEnd.out l h e]; exact e), rfl, below_next HB1.out HB.out⟩
          · have hts2 : ¬ t.toList = s.toList := toList_ne hts
            go_wp2_with (first
              | (go_at_call 9; refine (A2 _ HC.out.1).mono ?_; rintro e wb ⟨rfl, hb⟩; have HBn : Aside0 (Below w1.heap.size w1 wb) := ⟨below_next (by repeat (first | (with_reducible exact HB.out) | apply below_alloc | apply pw_below_drewN | apply below_drew1)) hb⟩; clear HB hb; have HB := HBn; clear HBn))
            go_ret2
            exact .inr ⟨fun l h e => hts (by rw [← HT.out, HEnd.out l h e, ← h.1, st_bs]), rfl, below_next HB1.out HB.out⟩
    · have h2i : ((vs.length : Int) % 2 != 0) = true := by rw [bne_iff_ne]; omega
      have HN : Aside0 (∀ l, isRuns (bs s) l → l.length ≠ n) := ⟨fun l h e => h2 (by rw [HR.out l h e]; exact (tot_grp l).2)⟩
      clear h2
      go_enter Tryd.func13, Tryd.ntmps13
      go_wp2_with (first
        | (go_at_call 21; refine (A1 _).mono ?_; rintro e w1 ⟨v, rfl, hO, hb⟩; obtain ⟨Av, cv, rfl, hcv, hC1⟩ := Kd.R_reads hO; have HB1 := Aside0.mk hb; clear hO hb HB hC1 hcv)
        | fail)
      go_ret2
      exact .inr ⟨HN.out, rfl, HB1.out⟩
  · have hc1 : (c != 0) = true := by rw [bne_iff_ne]; exact hc
    have HN : Aside0 (∀ l, isRuns (bs s) l → l.length ≠ n) := ⟨fun l h e => hc (HR.out l h e).2⟩
    clear hc
    go_enter Tryd.func13, Tryd.ntmps13
    go_wp2_with (first
      | (go_at_call 21; refine (A1 _).mono ?_; rintro e w1 ⟨v, rfl, hO, hb⟩; obtain ⟨Av, cv, rfl, hcv, hC1⟩ := Kd.R_reads hO; have HB1 := Aside0.mk hb; clear hO hb HB hC1 hcv)
      | fail)
    go_ret2
    exact .inr ⟨HN.out, rfl, HB1.out⟩
end Go.Proofs.YtdgbcokakmonfaaDoor
namespace Go.Proofs.YtdgbcokakmonfaaDoor
open Go.RowKit Go.Proofs.YtdgbcokakmonfaaDoorW.PrintWords Go.Proofs.YtdgbcokakmonfaaDoorW.PrintLast Go.Proofs.YtdgbcokakmonfaaDoorW.PrintMore Hy

theorem rgetruns_ok (s : ByteArray) (n : Nat) (l : List Int) (w : World) (hs : s.size ≤ 4000) (hn : n ≤ 20000) (h : isRuns (bs s) l) (hl : l.length = n) :
    Calls Tryd.prog 13 #[.string s, .int .i64 (n : Int)] w fun e w' => ∃ A c, e = .returned (.tuple #[.slice A l.length c, .bool true]) ∧ Kd.C (Kd.int .u64) w' A l.length l ∧ l.length ≤ c ∧ Below w.heap.size w w' := by
  refine (rgetruns_any s n w hs hn).mono ?_
  rintro e w' (⟨m, A, c, rfl, hm, hl2, hC, hc, hb⟩ | ⟨hno, _⟩)
  · obtain rfl : l = m := by
      have h1 := h.1
      rw [hm.1] at h1
      have h2 := (grp_u64 l h.2 (by omega)).1
      have h3 := (grp_u64 m hm.2 (by omega)).1
      obtain ⟨b', e1, e2, _⟩ := putsL_prefix (grp m) (grp l) [] h3 h2 (by rw [List.append_nil]; exact h1)
      have h4 : b' = [] := by
        cases b' with
        | nil => rfl
        | cons x t => rw [putsL_cons] at e2; have h5 := putL_pos x.toNat; have h6 := congrArg List.length e2; rw [List.length_append, List.length_nil] at h6; omega
      rw [h4, List.append_nil] at e1
      rw [← unrl_grp _ l (Nat.le_refl _), e1, unrl_grp _ m (Nat.le_refl _)]
    exact ⟨A, c, rfl, hC, hc, hb⟩
  · exact absurd hl (hno l h)
theorem rgetruns_no (s : ByteArray) (n : Nat) (w : World) (hs : s.size ≤ 4000) (hn : n ≤ 20000) (h : ∀ l, isRuns (bs s) l → l.length ≠ n) :
    Calls Tryd.prog 13 #[.string s, .int .i64 (n : Int)] w fun e w' => e = .returned (.tuple #[.slice none 0 0, .bool false]) ∧ Below w.heap.size w w' := by
  refine (rgetruns_any s n w hs hn).mono ?_
  rintro e w' (⟨m, A, c, rfl, hm, hl2, hC, hc, hb⟩ | ⟨_, h1, h2⟩)
  · exact absurd hl2 (h m hm)
  · exact ⟨h1, h2⟩
theorem rgetruns_range (s : ByteArray) (count : Int) (w : World) (h : count < 0 ∨ 20000 < count) :
    Calls Tryd.prog 13 #[.string s, .int .i64 count] w fun e w' => e = .returned (.tuple #[.slice none 0 0, .bool false]) ∧ Below w.heap.size w w' := by
  by_cases h0 : count < 0
  · clear h
    go_enter Tryd.func13, Tryd.ntmps13
    go_wp2_with fail
    go_ret2
    exact ⟨rfl, Below.refl _ _⟩
  · have h1 : 20000 < count := by omega
    clear h
    go_enter Tryd.func13, Tryd.ntmps13
    go_wp2_with fail
    go_ret2
    exact ⟨rfl, Below.refl _ _⟩
theorem code9 (w : World) (hg : Laid w) : Calls Tryd.prog 10 #[.iface 29 (.int .i64 9)] w fun e w' => e = .returned (.int .i64 9) ∧ Below w.heap.size w w' := code_any (.code 9) _ w hg rfl
theorem numsNil (A : Option Addr) (c : Nat) (w : World) : Calls Tryd.prog 11 #[.slice none 0 0, .slice A 0 c] w fun e w' => e = .returned (.bool true) ∧ Drawn0 w w' := by
  have := nums_any none 0 [] A c [] w (Kd.C_nil _ _) (by simp) (⟨rfl, by simp, fun h => absurd h (Nat.lt_irrefl 0)⟩) (by simp) (by simp)
  exact this
set_option maxHeartbeats 4000000 in
theorem runsGets_walk (s : ByteArray) (count : Int) (w : World) (hs : s.size ≤ 140737488351232) (_hm0 : -9223372036854775808 ≤ count) (_hm1 : count < 9223372036854775808) (hg : Laid w) :
    Calls Tryd.prog 4 #[.string s, .int .i64 count] w fun e w' => e = .returned (.bool true) ∧ Below w.heap.size w w' := by
  have HB := Aside0.mk (Below.refl w.heap.size w)
  have HG := Aside0.mk hg
  clear hg _hm0 _hm1
  by_cases hz : 4000 < s.size
  · go_enter Tryd.func4, Tryd.ntmps4
    go_wp2_with (first
      | (go_at_call 6; refine (runs_first _).mono ?_; rintro e wb ⟨rfl, hb⟩; have HBn : Aside0 (Below w.heap.size w wb) := ⟨below_next (by repeat (first | (with_reducible exact HB.out) | apply below_alloc | apply pw_below_drewN | apply below_drew1)) hb⟩; clear HB hb; have HB := HBn; clear HBn))
    go_ret
    exact ⟨rfl, (by repeat (first | (with_reducible exact HB.out) | apply below_alloc | apply pw_below_drewN | apply below_drew1))⟩
  · by_cases hr : count < 0 ∨ 20000 < count
    · have A1 := fun w => runsGet_range s count w hr
      have A2 := fun w => rgetruns_range s count w hr
      by_cases h0 : count < 0
      · clear hr
        go_enter Tryd.func4, Tryd.ntmps4
        go_wp2_with (first
          | (go_at_call 6; refine (runs_first _).mono ?_; rintro e wb ⟨rfl, hb⟩; have HBn : Aside0 (Below w.heap.size w wb) := ⟨below_next (by repeat (first | (with_reducible exact HB.out) | apply below_alloc | apply pw_below_drewN | apply below_drew1)) hb⟩; clear HB hb; have HB := HBn; clear HBn)
          | (go_at_call 12; refine (A1 _).mono ?_; rintro e wb ⟨rfl, hb⟩; have HBn : Aside0 (Below w.heap.size w wb) := ⟨below_next (by repeat (first | (with_reducible exact HB.out) | apply below_alloc | apply pw_below_drewN | apply below_drew1)) hb⟩; clear HB hb; have HB := HBn; clear HBn)
          | (go_at_call 13; refine (A2 _).mono ?_; rintro e wb ⟨rfl, hb⟩; have HBn : Aside0 (Below w.heap.size w wb) := ⟨below_next (by repeat (first | (with_reducible exact HB.out) | apply below_alloc | apply pw_below_drewN | apply below_drew1)) hb⟩; clear HB hb; have HB := HBn; clear HBn)
          | (go_at_call 11; refine (numsNil none 0 _).mono ?_; rintro e wd ⟨rfl, ⟨nd, rfl⟩⟩)
          | (go_at_call 10; refine (code9 _ (HG.out.below (by repeat (first | (with_reducible exact HB.out) | apply below_alloc | apply pw_below_drewN | apply below_drew1)))).mono ?_; rintro e wb ⟨rfl, hb⟩; have HBn : Aside0 (Below w.heap.size w wb) := ⟨below_next (by repeat (first | (with_reducible exact HB.out) | apply below_alloc | apply pw_below_drewN | apply below_drew1)) hb⟩; clear HB hb; have HB := HBn; clear HBn))
        go_ret
        exact ⟨rfl, (by repeat (first | (with_reducible exact HB.out) | apply below_alloc | apply pw_below_drewN | apply below_drew1))⟩
      · have h1 : 20000 < count := by omega
        have h2 : 0 ≤ count := by omega
        clear hr h0
        go_enter Tryd.func4, Tryd.ntmps4
        go_wp2_with (first
          | (go_at_call 6; refine (runs_first _).mono ?_; rintro e wb ⟨rfl, hb⟩; have HBn : Aside0 (Below w.heap.size w wb) := ⟨below_next (by repeat (first | (with_reducible exact HB.out) | apply below_alloc | apply pw_below_drewN | apply below_drew1)) hb⟩; clear HB hb; have HB := HBn; clear HBn)
          | (go_at_call 12; refine (A1 _).mono ?_; rintro e wb ⟨rfl, hb⟩; have HBn : Aside0 (Below w.heap.size w wb) := ⟨below_next (by repeat (first | (with_reducible exact HB.out) | apply below_alloc | apply pw_below_drewN | apply below_drew1)) hb⟩; clear HB hb; have HB := HBn; clear HBn)
          | (go_at_call 13; refine (A2 _).mono ?_; rintro e wb ⟨rfl, hb⟩; have HBn : Aside0 (Below w.heap.size w wb) := ⟨below_next (by repeat (first | (with_reducible exact HB.out) | apply below_alloc | apply pw_below_drewN | apply below_drew1)) hb⟩; clear HB hb; have HB := HBn; clear HBn)
          | (go_at_call 11; refine (numsNil none 0 _).mono ?_; rintro e wd ⟨rfl, ⟨nd, rfl⟩⟩)
          | (go_at_call 10; refine (code9 _ (HG.out.below (by repeat (first | (with_reducible exact HB.out) | apply below_alloc | apply pw_below_drewN | apply below_drew1)))).mono ?_; rintro e wb ⟨rfl, hb⟩; have HBn : Aside0 (Below w.heap.size w wb) := ⟨below_next (by repeat (first | (with_reducible exact HB.out) | apply below_alloc | apply pw_below_drewN | apply below_drew1)) hb⟩; clear HB hb; have HB := HBn; clear HBn))
        go_ret
        exact ⟨rfl, (by repeat (first | (with_reducible exact HB.out) | apply below_alloc | apply pw_below_drewN | apply below_drew1))⟩
    · obtain ⟨n, rfl⟩ := Int.eq_ofNat_of_zero_le (show 0 ≤ count by omega)
      have hn : n ≤ 20000 := by omega
      by_cases hok : ∃ l, isRuns (bs s) l ∧ l.length = n
      · obtain ⟨l, hvs, hln⟩ := hok
        have hl : l.length ≤ 20000 := by omega
        have A1 := fun w => runsGet_ok s (n : Int) l w (by omega) (by omega) hvs (by omega)
        have A2 := fun w => rgetruns_ok s n l w (by omega) hn hvs hln
        clear hvs hr hln
        go_enter Tryd.func4, Tryd.ntmps4
        go_wp2_with (first
          | (go_at_call 6; refine (runs_first _).mono ?_; rintro e wb ⟨rfl, hb⟩; have HBn : Aside0 (Below w.heap.size w wb) := ⟨below_next (by repeat (first | (with_reducible exact HB.out) | apply below_alloc | apply pw_below_drewN | apply below_drew1)) hb⟩; clear HB hb; have HB := HBn; clear HBn))
        refine (A1 _).mono ?_
        rintro e wb ⟨A, c, rfl, hC, hc, hb⟩
        have HBn : Aside0 (Below w.heap.size w wb) := ⟨below_next HB.out hb⟩
        have HC1 := Aside0.mk hC
        have HC2 := Aside0.mk hc
        clear HB hb hC hc
        have HB := HBn
        clear HBn
        go_wp2_with fail
        refine (A2 _).mono ?_
        rintro e wc ⟨A', c', rfl, hC, hc, hb⟩
        have HBn : Aside0 (Below w.heap.size w wc) := ⟨below_next HB.out hb⟩
        have HC3 := Aside0.mk (Kd.C_below HC1.out hb)
        have HC4 := Aside0.mk hC
        have HC5 := Aside0.mk hc
        clear HB hb hC hc HC1
        have HB := HBn
        clear HBn
        have HN := fun w' (h1 : Kd.C (Kd.int .u64) w' A l.length l) (h2 : Kd.C (Kd.int .u64) w' A' l.length l) => nums_any A c l A' c' l w' h1 HC2.out h2 HC5.out (by omega)
        rw [decide_eq_true rfl] at HN
        go_wp2_with (first
          | (go_at_call 6; refine (runs_first _).mono ?_; rintro e wb ⟨rfl, hb⟩; have HC6 := Aside0.mk (Kd.C_below HC3.out hb); have HC7 := Aside0.mk (Kd.C_below HC4.out hb); have HBn : Aside0 (Below w.heap.size w wb) := ⟨below_next (by repeat (first | (with_reducible exact HB.out) | apply below_alloc | apply pw_below_drewN | apply below_drew1)) hb⟩; clear HB hb; have HB := HBn; clear HBn)
          | (go_at_call 11; refine (HN _ HC6.out HC7.out).mono ?_; rintro e wd ⟨rfl, ⟨nd, rfl⟩⟩))
        go_ret
        exact ⟨rfl, (by repeat (first | (with_reducible exact HB.out) | apply below_alloc | apply pw_below_drewN | apply below_drew1))⟩
      · have A1 := fun w => runsGet_err s (n : Int) w (by omega) (by omega) hs (fun l h e => hok ⟨l, h, by omega⟩)
        have A2 := fun w => rgetruns_no s n w (by omega) hn (fun l h e => hok ⟨l, h, e⟩)
        clear hok hr
        go_enter Tryd.func4, Tryd.ntmps4
        go_wp2_with (first
          | (go_at_call 6; refine (runs_first _).mono ?_; rintro e wb ⟨rfl, hb⟩; have HBn : Aside0 (Below w.heap.size w wb) := ⟨below_next (by repeat (first | (with_reducible exact HB.out) | apply below_alloc | apply pw_below_drewN | apply below_drew1)) hb⟩; clear HB hb; have HB := HBn; clear HBn))
        refine (A1 _).mono ?_
        rintro e wb ⟨u, E, rfl, hu, hne, hb⟩; have HBn : Aside0 (Below w.heap.size w wb) := ⟨below_next (by repeat (first | (with_reducible exact HB.out) | apply below_alloc | apply pw_below_drewN | apply below_drew1)) hb⟩; clear HB hb; have HB := HBn; clear HBn; obtain ⟨uT, ux, rfl⟩ := hu.iface hne; clear hu hne
        go_wp2_with (first
          | (go_at_call 13; refine (A2 _).mono ?_; rintro e wb ⟨rfl, hb⟩; have HBn : Aside0 (Below w.heap.size w wb) := ⟨below_next (by repeat (first | (with_reducible exact HB.out) | apply below_alloc | apply pw_below_drewN | apply below_drew1)) hb⟩; clear HB hb; have HB := HBn; clear HBn)
          | (go_at_call 6; refine (runs_first _).mono ?_; rintro e wb ⟨rfl, hb⟩; have HBn : Aside0 (Below w.heap.size w wb) := ⟨below_next (by repeat (first | (with_reducible exact HB.out) | apply below_alloc | apply pw_below_drewN | apply below_drew1)) hb⟩; clear HB hb; have HB := HBn; clear HBn)
          | (go_at_call 11; refine (numsNil none 0 _).mono ?_; rintro e wd ⟨rfl, ⟨nd, rfl⟩⟩))
        go_ret
        exact ⟨rfl, (by repeat (first | (with_reducible exact HB.out) | apply below_alloc | apply pw_below_drewN | apply below_drew1))⟩
end Go.Proofs.YtdgbcokakmonfaaDoor
