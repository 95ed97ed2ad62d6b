import Derived.Test.YtodhnmflabehhaaBt
import Derived.Test.YtodhnmflabehhaaBitQ
import Derived.Test.YtodhnmflabehhaaPBitsEndsx
namespace Go.Proofs.Ytodhnmflabehhaa
open Go.RowKit Go.Proofs.YtodhnmflabehhaaW.PrintWords Hy
open PBitsEnds

/-- How many 0 bits stand ahead; behind. -/
def lead (n : Nat) : Nat := if n = 0 then 64 else 63 - n.log2
def tz : Nat → Nat → Nat
  | 0, _ => 0
  | d + 1, n => if n % 2 = 1 then 0 else 1 + tz d (n / 2)
def trail (n : Nat) : Nat := if n = 0 then 64 else tz 64 n
theorem lead_says (n : Nat) (hn : n ≠ 0) (h : n < 18446744073709551616) : lead n ≤ 63 ∧ n / 2 ^ (63 - lead n) = 1 := by
  unfold lead
  rw [if_neg hn]
  have h1 := Nat.log2_self_le hn
  have h2 := Nat.lt_log2_self (n := n)
  have h3 : n.log2 < 64 := by
    rcases Nat.lt_or_ge n.log2 64 with h | h
    · exact h
    · have : 2 ^ 64 ≤ 2 ^ n.log2 := Nat.pow_le_pow_right (by omega) h
      omega
  refine ⟨by omega, ?_⟩
  rw [show 63 - (63 - n.log2) = n.log2 by omega]
  have := Nat.pow_succ 2 n.log2
  apply Nat.div_eq_of_lt_le <;> omega
theorem lead_iff (n x : Nat) (h : n < 18446744073709551616) (hx : x < 64) (hl : x ≤ lead n) : n / 2 ^ (63 - x) = 0 ↔ x < lead n := by
  by_cases hn : n = 0
  · subst hn; simp [lead]; exact hx
  · obtain ⟨h1, h2⟩ := lead_says n hn h
    constructor
    · intro e
      rcases Nat.lt_or_ge x (lead n) with h | h
      · exact h
      · obtain rfl : x = lead n := by omega
        omega
    · intro hlt
      apply Nat.div_eq_of_lt
      have h3 : n < 2 ^ (63 - lead n) * 2 := by
        have := Nat.div_add_mod n (2 ^ (63 - lead n))
        have := Nat.mod_lt n (Nat.two_pow_pos (63 - lead n))
        rw [h2] at *; omega
      calc n < 2 ^ (63 - lead n) * 2 := h3
        _ = 2 ^ (63 - lead n + 1) := by rw [Nat.pow_succ]
        _ ≤ 2 ^ (63 - x) := Nat.pow_le_pow_right (by omega) (by omega)
theorem tz_says : ∀ (d n : Nat), n ≠ 0 → n < 2 ^ d → tz d n < d ∧ n / 2 ^ tz d n % 2 = 1 ∧ n % 2 ^ tz d n = 0 ∧ ∀ x, x < tz d n → n / 2 ^ x % 2 = 0 := by
  intro d
  induction d with
  | zero => intro n h0 h; simp at h; omega
  | succ d ih =>
    intro n h0 h
    simp only [tz]
    by_cases h1 : n % 2 = 1
    · rw [if_pos h1]; exact ⟨by omega, by simpa using h1, by simp [Nat.mod_one], fun x hx => by omega⟩
    · rw [if_neg h1]
      obtain ⟨i1, i2, i3, i4⟩ := ih (n / 2) (by omega) (by rw [Nat.pow_succ] at h; omega)
      have e : ∀ k, n / 2 ^ (1 + k) = n / 2 / 2 ^ k := by intro k; rw [Nat.pow_add, Nat.div_div_eq_div_mul, Nat.pow_one]
      refine ⟨by omega, by rw [e]; exact i2, ?_, fun x hx => ?_⟩
      · rw [Nat.pow_add, Nat.pow_one, Nat.mod_mul, i3]; omega
      · cases x with
        | zero => simp; omega
        | succ x => rw [Nat.add_comm x 1, e]; exact i4 x (by omega)
theorem shr_div (n k : Nat) (hk : k ≤ 64) : shr .u64 (n : Int) (k : Int) = ((n / 2 ^ k : Nat) : Int) := by
  unfold shr
  rw [Int.toNat_natCast, Nat.min_eq_left (by simpa [IntKind.bits] using hk), cast_div]
theorem lead_l0 (n : Nat) (h : n < 18446744073709551616) : ∀ (d x k : Nat), x + d = 64 → d < k → x ≤ lead n → bits_Lead.l0 k (n : Int) (x : Int) = some ((lead n : Nat) : Int) := by
  have hl : lead n ≤ 64 := by unfold lead; split <;> omega
  intro d
  induction d with
  | zero =>
    intro x k hx hk hle
    obtain ⟨k, rfl⟩ : ∃ m, k = m + 1 := ⟨k - 1, by omega⟩
    simp only [bits_Lead.l0]
    rw [if_neg (by omega), show x = lead n by omega]
  | succ d ih =>
    intro x k hx hk hle
    obtain ⟨k, rfl⟩ : ∃ m, k = m + 1 := ⟨k - 1, by omega⟩
    have e1 : wrap64 (63 - (x : Int)) = ((63 - x : Nat) : Int) := by unfold wrap64; omega
    have e2 : wrap64 ((x : Int) + 1) = ((x + 1 : Nat) : Int) := by unfold wrap64; omega
    simp only [bits_Lead.l0]
    rw [if_pos (by omega), e1, if_pos (by omega), shr_div _ _ (by omega), e2]
    have hi := lead_iff n x h (by omega) hle
    by_cases hlt : x < lead n
    · rw [if_pos (by rw [hi.2 hlt]; rfl)]
      exact ih (x + 1) k (by omega) (by omega) (by omega)
    · rw [if_neg (by intro e; exact hlt (hi.1 (by omega))), show x = lead n by omega]
theorem lead_any (n : Nat) (w : World) (h : n < 18446744073709551616) : Calls Try.prog 7 #[.int .u64 (n : Int)] w fun e w' => e = .returned (.int .i64 ((lead n : Nat) : Int)) ∧ Drawn0 w w' :=
  bits_Lead.calls 70 _ _ w (lead_l0 n h 64 0 70 (by omega) (by omega) (by omega))
theorem trail_l0 (n : Nat) (h : n < 18446744073709551616) : ∀ (d x k : Nat), x + d = 64 → d < k → x ≤ trail n → bits_Trail.l0 k (n : Int) (x : Int) = some ((trail n : Nat) : Int) := by
  have hs : trail n ≤ 64 ∧ ∀ x, x < 64 → x ≤ trail n → (n / 2 ^ x % 2 = 0 ↔ x < trail n) := by
    by_cases hn : n = 0
    · subst hn; simp [trail]; intro x hx _; omega
    · obtain ⟨i1, i2, i3, i4⟩ := tz_says 64 n hn h
      unfold trail
      rw [if_neg hn]
      refine ⟨by omega, fun x hx hxl => ⟨fun e => ?_, fun hlt => i4 x hlt⟩⟩
      rcases Nat.lt_or_ge x (tz 64 n) with h | h
      · exact h
      · obtain rfl : x = tz 64 n := by omega
        omega
  intro d
  induction d with
  | zero =>
    intro x k hx hk hle
    obtain ⟨k, rfl⟩ : ∃ m, k = m + 1 := ⟨k - 1, by omega⟩
    simp only [bits_Trail.l0]
    rw [if_neg (by omega), show x = trail n by omega]
  | succ d ih =>
    intro x k hx hk hle
    obtain ⟨k, rfl⟩ : ∃ m, k = m + 1 := ⟨k - 1, by omega⟩
    have e2 : wrap64 ((x : Int) + 1) = ((x + 1 : Nat) : Int) := by unfold wrap64; omega
    have hb : n / 2 ^ x < 18446744073709551616 := Nat.lt_of_le_of_lt (Nat.div_le_self _ _) h
    simp only [bits_Trail.l0]
    have hi := hs.2 x (by omega) hle
    rw [if_pos (by omega), if_pos (by omega), shr_div _ _ (by omega)]
    generalize n / 2 ^ x = q at *
    rw [and_u64_1 _ (by omega) (by omega), e2]
    by_cases hlt : x < trail n
    · rw [if_pos (by have := hi.2 hlt; omega)]
      exact ih (x + 1) k (by omega) (by omega) (by omega)
    · rw [if_neg (by intro e; exact hlt (hi.1 (by omega))), show x = trail n by omega]
theorem trail_any (n : Nat) (w : World) (h : n < 18446744073709551616) : Calls Try.prog 8 #[.int .u64 (n : Int)] w fun e w' => e = .returned (.int .i64 ((trail n : Nat) : Int)) ∧ Drawn0 w w' :=
  bits_Trail.calls 70 _ _ w (trail_l0 n h 64 0 70 (by omega) (by omega) (by omega))
end Go.Proofs.Ytodhnmflabehhaa
