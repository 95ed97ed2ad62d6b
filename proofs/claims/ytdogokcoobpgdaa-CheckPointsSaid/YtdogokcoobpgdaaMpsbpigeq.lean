import Derived.Test.YtdogokcoobpgdaaMfcnvqwvf
import Derived.Test.YtdogokcoobpgdaaCPmx
import Derived.Test.YtdogokcoobpgdaaMgvmrfvsf
namespace Go.Proofs.Ytdogokcoobpgdaa
open Go.RowKit Go.Proofs.YtdogokcoobpgdaaW.PrintWords Go.Proofs.YtdogokcoobpgdaaW.PrintLast Go.Proofs.YtdogokcoobpgdaaW.PrintMore Hy

/-! ### the document's way with doubles -/
def R64 (a : Int) : Prop := 0 ≤ a ∧ a < 18446744073709551616
theorem wraps_u64 : ∀ n : Int, 0 ≤ n → n < 2 ^ 64 → IntKind.u64.wrap n = n := fun n a b => by rw [wrap_u64]; omega
theorem and_2047 (x : Int) (h : R64 x) : Go.bits .and .u64 x 2047 = x % 2048 :=
  bits_mask .u64 64 (by decide) wraps_u64 11 (by decide) x h.1 (by simpa using h.2)
theorem and_m52 (x : Int) (h : R64 x) : Go.bits .and .u64 x 4503599627370495 = x % 4503599627370496 :=
  bits_mask .u64 64 (by decide) wraps_u64 52 (by decide) x h.1 (by simpa using h.2)
theorem and_m63 (x : Int) (h : R64 x) : Go.bits .and .u64 x 9223372036854775807 = x % 9223372036854775808 :=
  bits_mask .u64 64 (by decide) wraps_u64 63 (by decide) x h.1 (by simpa using h.2)
theorem sz_eq (x : Int) (h : R64 x) : szI x = x % 9223372036854775808 := by
  obtain ⟨n, rfl⟩ := Int.eq_ofNat_of_zero_le h.1
  have hn : n < 18446744073709551616 := by have := h.2; omega
  unfold szI
  have e : Go.bits .andNot .u64 (n : Int) 9223372036854775808 = IntKind.u64.wrap (((BitVec.ofInt 64 (n : Int)) &&& ~~~(BitVec.ofInt 64 9223372036854775808)).toNat : Int) := rfl
  rw [BitVec.ofInt_natCast, BitVec.toNat_and, show (~~~(BitVec.ofInt 64 9223372036854775808)).toNat = 9223372036854775807 by decide, BitVec.toNat_ofNat, Nat.mod_eq_of_lt hn] at e
  rw [e, show (9223372036854775807 : Nat) = 2 ^ 63 - 1 from rfl, Nat.and_two_pow_sub_one_eq_mod, wrap_u64]
  omega
theorem or_b63 (x : Int) (h : R64 x) : Go.bits .or .u64 x 9223372036854775808 = x % 9223372036854775808 + 9223372036854775808 := by
  have h1 := h.1
  have h2 := h.2
  by_cases hc : x < 9223372036854775808
  · rw [or_join_u64 x 9223372036854775808 63 h1 (by omega) (by decide) (by decide) h2 (by decide)]
    omega
  · have e := or_join_u64 (x - 9223372036854775808) 9223372036854775808 63 (by omega) (by omega) (by decide) (by decide) (by omega) (by decide)
    have e2 : x - 9223372036854775808 + 9223372036854775808 = x := by omega
    rw [e2] at e
    obtain ⟨n, hn⟩ := Int.eq_ofNat_of_zero_le (show 0 ≤ x - 9223372036854775808 by omega)
    rw [hn, show (9223372036854775808 : Int) = ((9223372036854775808 : Nat) : Int) from rfl, or_nat .u64 64 (by decide) wraps_u64 n 9223372036854775808 (by omega) (by decide)] at e
    rw [← e, show (9223372036854775808 : Int) = ((9223372036854775808 : Nat) : Int) from rfl, or_nat .u64 64 (by decide) wraps_u64 _ 9223372036854775808 (by omega) (by decide), Nat.or_assoc, Nat.or_self, e]
    omega
theorem and_b63 (x : Int) (h : R64 x) : Go.bits .and .u64 x 9223372036854775808 = x / 9223372036854775808 * 9223372036854775808 := by
  obtain ⟨n, rfl⟩ := Int.eq_ofNat_of_zero_le h.1
  have hn : n < 18446744073709551616 := by have := h.2; omega
  rw [show (9223372036854775808 : Int) = ((9223372036854775808 : Nat) : Int) from rfl, (bits_nat .u64 64 (by decide) wraps_u64 n 9223372036854775808 (by omega) (by decide)).1]
  have ht : n.testBit 63 = decide (n / 2 ^ 63 % 2 = 1) := Nat.testBit_eq_decide_div_mod_eq
  have h2 : n &&& 2 ^ 63 = n / 2 ^ 63 * 2 ^ 63 := by
    apply Nat.eq_of_testBit_eq
    intro i
    rw [Nat.testBit_and, Nat.testBit_two_pow]
    by_cases hc : n < 2 ^ 63
    · rw [show n / 2 ^ 63 = 0 by omega, Nat.zero_mul, Nat.zero_testBit]
      by_cases hi : 63 = i
      · subst hi
        rw [ht, decide_eq_false (by omega)]; rfl
      · rw [decide_eq_false hi, Bool.and_false]
    · rw [show n / 2 ^ 63 = 1 by omega, Nat.one_mul, Nat.testBit_two_pow]
      by_cases hi : 63 = i
      · subst hi
        rw [ht, decide_eq_true (by omega)]; rfl
      · rw [decide_eq_false hi, Bool.and_false]
  have h3 : n &&& 9223372036854775808 = n / 9223372036854775808 * 9223372036854775808 := h2
  rw [h3]
  omega
theorem xor_max (x : Int) (h : R64 x) : Go.bits .xor .u64 IntKind.u64.max x = 18446744073709551615 - x := by
  have e : Go.bits .xor .u64 IntKind.u64.max x = Go.bits .xor .u64 x 18446744073709551615 := by
    have : IntKind.u64.max = 18446744073709551615 := by decide
    simp only [Go.bits, this, BitVec.xor_comm]
  rw [e, xor_u64_m x h.1 h.2]
theorem or_range (x y : Int) (hx : R64 x) (hy : R64 y) : R64 (Go.bits .or .u64 x y) ∧ (Go.bits .or .u64 x y % 9223372036854775808 = 0 ↔ x % 9223372036854775808 = 0 ∧ y % 9223372036854775808 = 0) := by
  obtain ⟨a, rfl⟩ := Int.eq_ofNat_of_zero_le hx.1
  obtain ⟨b, rfl⟩ := Int.eq_ofNat_of_zero_le hy.1
  have ha : a < 2 ^ 64 := by have := hx.2; omega
  have hb : b < 2 ^ 64 := by have := hy.2; omega
  rw [or_nat .u64 64 (by decide) wraps_u64 a b ha hb]
  have h1 : a ||| b < 2 ^ 64 := Nat.or_lt_two_pow ha hb
  have h2 : (a ||| b) % 2 ^ 63 = a % 2 ^ 63 ||| b % 2 ^ 63 := Nat.or_mod_two_pow
  refine ⟨⟨by omega, by omega⟩, ?_⟩
  have h3 : (a % 2 ^ 63 ||| b % 2 ^ 63) = 0 ↔ a % 2 ^ 63 = 0 ∧ b % 2 ^ 63 = 0 := Nat.or_eq_zero_iff
  constructor
  · intro h
    have h4 : (a ||| b) % 2 ^ 63 = 0 := by omega
    rw [h2] at h4
    have := h3.1 h4
    omega
  · intro h
    have h4 := h3.2 (by omega)
    rw [← h2] at h4
    omega
theorem rank_eq (a : Int) (h : R64 a) : rankI a = if a < 9223372036854775808 then a + 9223372036854775808 else 18446744073709551615 - a := by
  unfold rankI
  have h1 := h.1
  have h2 := h.2
  rw [and_b63 a h, xor_max a h, or_b63 a h]
  by_cases hc : a < 9223372036854775808
  · rw [if_neg (by omega), if_pos hc]; omega
  · rw [if_pos (by omega), if_neg hc]
theorem cmp_lt (a b : Int) : (decide (cmpI a b < 0)) = decide (a < b) := by
  unfold cmpI
  by_cases h : a < b
  · rw [if_pos h]; simp [h]
  · rw [if_neg h]
    by_cases h2 : a > b
    · rw [if_pos h2]; simp [h]
    · rw [if_neg h2]; simp [h]
theorem class_nan (a : Int) : (classI a = 4) ↔ nanB a = true := by
  unfold classI nanB
  by_cases h : szI a > 9218868437227405312
  · simp [h]
  · rw [if_neg h]
    simp only [decide_eq_true_eq, h, iff_false]
    split
    · decide
    · split
      · decide
      · split <;> decide
theorem class6 (k : Nat) (a : Int) (h : R64 a) : CPts.hygref6_Class.f (k + 1) a = some (classI a) := by
  unfold CPts.hygref6_Class.f classI
  simp only [CPts.hygref6_Class.j0]
  have h1 := h.1
  have h2 := h.2
  rw [sz_eq a h, and_2047 (a / 4503599627370496) ⟨by omega, by omega⟩, and_m52 a h]
  by_cases c1 : a / 4503599627370496 % 2048 = 2047
  · rw [if_pos c1]
    by_cases c2 : a % 4503599627370496 > 0
    · rw [decide_eq_true c2, if_pos rfl, if_pos (by omega)]
    · rw [decide_eq_false c2, if_neg (by decide), if_pos c1, if_neg (by omega), if_pos (by omega)]
  · simp only [if_neg c1, Bool.false_eq_true, if_false]
    rw [if_neg (show ¬ a % 9223372036854775808 > 9218868437227405312 by omega), if_neg (show ¬ a % 9223372036854775808 = 9218868437227405312 by omega)]
    by_cases c2 : a / 4503599627370496 % 2048 > 0
    · rw [if_pos c2, if_pos (by omega)]
    · rw [if_neg c2, if_neg (show ¬ a % 9223372036854775808 ≥ 4503599627370496 by omega)]
      by_cases c3 : a % 4503599627370496 > 0
      · rw [if_pos c3, if_pos (by omega)]
      · rw [if_neg c3, if_neg (by omega)]
theorem less_nan1 {a b : Int} (h : nanB a = true) : lessB a b = false := by unfold lessB; rw [h]; rfl
theorem less_nan2 {a b : Int} (h : nanB b = true) : lessB a b = false := by unfold lessB; rw [h]; simp
theorem less_eq (a b : Int) (ha : R64 a) (hb : R64 b) (na : nanB a = false) (nb : nanB b = false) :
    lessB a b = if szI a = 0 ∧ szI b = 0 then false else decide (rankI a < rankI b) := by
  unfold lessB
  rw [na, nb, cmp_lt]
  unfold eqB
  rw [na, nb]
  have hor := or_range a b ha hb
  have e : szI (Go.bits .or .u64 a b) = 0 ↔ szI a = 0 ∧ szI b = 0 := by rw [sz_eq _ hor.1, sz_eq a ha, sz_eq b hb]; exact hor.2
  simp only [Bool.not_false, Bool.true_and]
  by_cases h0 : szI a = 0 ∧ szI b = 0
  · rw [if_pos h0, e.2 h0]; simp
  · rw [if_neg h0]
    have hne : (szI (Go.bits .or .u64 a b) == 0) = false := by simpa using fun h => h0 (e.1 h)
    rw [hne]
    by_cases hab : a = b
    · subst hab; simp
    · simp [hab]
theorem less_j (k : Nat) (a b : Int) (ha : R64 a) (hb : R64 b) (_hz : ¬ (a % 9223372036854775808 = 0 ∧ b % 9223372036854775808 = 0)) : CPts.hygref6_Less.j0 (k + 1) a b false = some (decide (rankI a < rankI b)) := by
  have a1 := ha.1
  have a2 := ha.2
  have b1 := hb.1
  have b2 := hb.2
  have da : a / 9223372036854775808 = 0 ∨ a / 9223372036854775808 = 1 := by omega
  have db : b / 9223372036854775808 = 0 ∨ b / 9223372036854775808 = 1 := by omega
  simp only [CPts.hygref6_Less.j0, CPts.hygref6_neg.f, CPts.hygref6_size.f, Option.bind_some, Bool.false_eq_true, if_false]
  rw [and_m63 a ha, and_m63 b hb, rank_eq a ha, rank_eq b hb]
  rcases da with da | da <;> rcases db with db | db <;> rw [da, db]
  · rw [if_pos (show a < 9223372036854775808 by omega), if_pos (show b < 9223372036854775808 by omega), if_neg (by decide), if_neg (by decide)]
    congr 1
    rw [decide_eq_decide]
    omega
  · rw [if_pos (show a < 9223372036854775808 by omega), if_neg (show ¬ b < 9223372036854775808 by omega), if_pos (by decide)]
    congr 1
    rw [decide_eq_false (show ¬ (a + 9223372036854775808 < 18446744073709551615 - b) by omega)]
    rfl
  · rw [if_neg (show ¬ a < 9223372036854775808 by omega), if_pos (show b < 9223372036854775808 by omega), if_pos (by decide)]
    congr 1
    rw [decide_eq_true (show 18446744073709551615 - a < b + 9223372036854775808 by omega)]
    rfl
  · rw [if_neg (show ¬ a < 9223372036854775808 by omega), if_neg (show ¬ b < 9223372036854775808 by omega), if_neg (by decide), if_pos (by decide)]
    congr 1
    rw [decide_eq_decide]
    omega
theorem less6 (k : Nat) (a b : Int) (ha : R64 a) (hb : R64 b) : CPts.hygref6_Less.f (k + 1) a b = some (lessB a b) := by
  unfold CPts.hygref6_Less.f
  rw [class6 k a ha]
  simp only [Option.bind_some]
  cases na : nanB a with
  | true =>
    rw [if_pos ((class_nan a).2 na), less_nan1 na]
    simp [CPts.hygref6_Less.j0]
  | false =>
    rw [if_neg (fun h => by rw [(class_nan a).1 h] at na; cases na), class6 k b hb]
    simp only [Option.bind_some]
    cases nb : nanB b with
    | true =>
      rw [if_pos ((class_nan b).2 nb), less_nan2 nb]
      simp [CPts.hygref6_Less.j0]
    | false =>
      rw [if_neg (fun h => by rw [(class_nan b).1 h] at nb; cases nb), less_eq a b ha hb na nb, sz_eq a ha, sz_eq b hb]
      unfold CPts.hygref6_size.f
      rw [and_m63 a ha, and_m63 b hb]
      simp only [Option.bind_some]
      by_cases z : a % 9223372036854775808 = 0
      · by_cases z2 : b % 9223372036854775808 = 0
        · rw [if_pos z, if_pos (show a % 9223372036854775808 = 0 ∧ b % 9223372036854775808 = 0 from ⟨z, z2⟩), z2]; rfl
        · have hb0 : (b % 9223372036854775808 == 0) = false := by simpa using z2
          rw [if_pos z, hb0, if_neg (fun h => z2 h.2), less_j k a b ha hb (fun h => z2 h.2)]
      · rw [if_neg z, if_neg (fun h => z h.1), less_j k a b ha hb (fun h => z h.1)]
theorem up18 (k : Nat) (h1 h2 : Bool) (a b : Int) (ha : R64 a) (hb : R64 b) : CPts.hygref18_upside.f (k + 1) h1 a h2 b = some (upB h1 a h2 b) := by
  unfold CPts.hygref18_upside.f upB
  rw [less6 k b a hb ha]
  cases h1 <;> cases h2 <;> simp
theorem far18 (off : Int) (l : List Int) (u : ByteArray) : CPts.hygref18_far.f off l u = some (beyB off l.length) := rfl
end Go.Proofs.Ytdogokcoobpgdaa
namespace Go.Proofs.Ytdogokcoobpgdaa
open Go.RowKit Go.Proofs.YtdogokcoobpgdaaW.PrintWords Go.Proofs.YtdogokcoobpgdaaW.PrintLast Go.Proofs.YtdogokcoobpgdaaW.PrintMore Hy

theorem rd_nat (l : List Int) (m : Nat) (h : m < l.length) : rd l (m : Int) = l[m] := by
  simp [rd, List.getD_eq_getElem?_getD, h]
theorem w64_nat (m : Nat) (h : m ≤ 9223372036854775806) : wrap64 ((m : Int) + 1) = ((m + 1 : Nat) : Int) := by unfold wrap64; omega
theorem w64_pred (m : Nat) (h0 : 0 < m) (h : m ≤ 9223372036854775807) : wrap64 ((m : Int) - 1) = ((m - 1 : Nat) : Int) := by unfold wrap64; omega
/-- From a place above 0. -/
theorem rises_from (l : List Int) (hl : l.length ≤ 9223372036854775807) (hw : ∀ x ∈ l, R64 x) : ∀ (d m k : Nat), l.length = m + d → 0 < m →
    CPts.hygref18_rises.l0 (k + d + 3) l (m : Int) = some (riseB (l.drop (m - 1))) := by
  intro d
  induction d with
  | zero =>
    intro m k hd hm
    rw [show k + 0 + 3 = (k + 2) + 1 by omega, CPts.hygref18_rises.l0, if_neg (by omega)]
    rw [List.drop_eq_getElem_cons (by omega : m - 1 < l.length), List.drop_of_length_le (by omega)]
    rfl
  | succ d ih =>
    intro m k hd hm
    have hlt : m < l.length := by omega
    rw [show k + (d + 1) + 3 = (k + d + 3) + 1 by omega, CPts.hygref18_rises.l0, if_pos (by omega), if_pos (by omega), rd_nat l m hlt]
    rw [show k + d + 3 = (k + d + 2) + 1 by omega, class6 _ _ (hw _ (List.getElem_mem hlt))]
    simp only [Option.bind_some]
    have hdrop : l.drop (m - 1) = l[m - 1] :: l.drop m := by
      rw [List.drop_eq_getElem_cons (by omega : m - 1 < l.length), show m - 1 + 1 = m by omega]
    have hdrop2 : l.drop m = l[m] :: l.drop (m + 1) := List.drop_eq_getElem_cons hlt
    have hR : riseB (l.drop (m - 1)) = (lessB l[m - 1] l[m] && riseB (l.drop m)) := by
      rw [hdrop, hdrop2]; rfl
    by_cases hc : classI l[m] = 4
    · rw [if_pos hc, hR, less_nan2 ((class_nan _).1 hc)]; rfl
    · rw [if_neg hc, if_pos (by omega), w64_pred m hm (by omega), if_pos (by omega), if_pos (by omega), rd_nat l (m - 1) (by omega), less6 _ _ _ (hw _ (List.getElem_mem _)) (hw _ (List.getElem_mem _))]
      simp only [Option.bind_some]
      rw [hR]
      cases hq : lessB l[m - 1] l[m] with
      | false => rfl
      | true =>
        rw [if_pos rfl, w64_nat m (by omega), show k + d + 2 + 1 = k + d + 3 by omega, ih (m + 1) k (by omega) (by omega)]
        rfl
theorem rises18 (l : List Int) (hl : l.length ≤ 9223372036854775807) (hw : ∀ x ∈ l, R64 x) : ∃ k, CPts.hygref18_rises.f k l = some (risesB l) := by
  cases l with
  | nil => exact ⟨1, rfl⟩
  | cons a l =>
    refine ⟨l.length + 4, ?_⟩
    unfold CPts.hygref18_rises.f
    rw [show l.length + 4 = (l.length + 3) + 1 by omega, CPts.hygref18_rises.l0, if_pos (by simp only [List.length_cons]; omega), if_pos (by omega)]
    rw [show rd (a :: l) 0 = a from rfl, show l.length + 3 = (l.length + 2) + 1 by omega, class6 _ _ (hw a List.mem_cons_self)]
    simp only [Option.bind_some]
    have hf := rises_from (a :: l) hl hw l.length 1 0 (by simp only [List.length_cons]; omega) (by decide)
    rw [show 0 + l.length + 3 = l.length + 2 + 1 by omega, show (1 : Nat) - 1 = 0 from rfl, List.drop_zero] at hf
    by_cases hc : classI a = 4
    · rw [if_pos hc]
      cases l with
      | nil => simp [risesB, hc]
      | cons b l =>
        show some false = some (riseB (a :: b :: l))
        unfold riseB
        rw [less_nan1 ((class_nan _).1 hc)]; rfl
    · rw [if_neg hc, if_neg (by omega), show wrap64 (0 + 1) = ((1 : Nat) : Int) by unfold wrap64; omega, hf]
      cases l with
      | nil =>
        simp only [risesB, riseB]
        congr 1
        symm
        simp [hc]
      | cons b l => rfl

/-! ### totals -/
theorem sum_le : ∀ (l : List Int) (n t : Int), sumL n l = some t → n ≤ t := by
  intro l
  induction l with
  | nil => intro n t h; simp only [sumL, Option.some.injEq] at h; omega
  | cons c l ih =>
    intro n t h
    unfold sumL at h
    by_cases hc : IntKind.u64.wrap (n + c) < n
    · rw [if_pos hc] at h; cases h
    · rw [if_neg hc] at h
      have := ih _ _ h
      omega
theorem sum_app : ∀ (l l' : List Int) (n : Int), sumL n (l ++ l') = (sumL n l).bind fun m => sumL m l' := by
  intro l
  induction l with
  | nil => intro l' n; rfl
  | cons c l ih =>
    intro l' n
    show (if IntKind.u64.wrap (n + c) < n then none else sumL (IntKind.u64.wrap (n + c)) (l ++ l')) = _
    rw [sumL]
    by_cases hc : IntKind.u64.wrap (n + c) < n
    · rw [if_pos hc, if_pos hc]; rfl
    · rw [if_neg hc, if_neg hc, ih]
theorem total_from (l : List Int) (hl : l.length ≤ 9223372036854775807) (hw : ∀ x ∈ l, R64 x) (want : Int) (hwant : R64 want) : ∀ (d m k : Nat) (acc : Int), l.length = m + d → 0 ≤ acc → acc ≤ want →
    CPts.hygref18_total.l0 (k + d + 1) (want - acc) l (m : Int) = some (addsR want (sumL acc (l.drop m))) := by
  intro d
  induction d with
  | zero =>
    intro m k acc hd h0 h1
    rw [CPts.hygref18_total.l0, if_neg (by omega), List.drop_of_length_le (by omega)]
    simp only [sumL, addsR]
    congr 1
    rw [Bool.eq_iff_iff]
    simp only [beq_iff_eq]
    omega
  | succ d ih =>
    intro m k acc hd h0 h1
    have hlt : m < l.length := by omega
    have hr := hw _ (List.getElem_mem hlt)
    have r1 := hr.1
    have r2 := hr.2
    have w1 := hwant.1
    have w2 := hwant.2
    rw [show k + (d + 1) + 1 = (k + d + 1) + 1 by omega, CPts.hygref18_total.l0, if_pos (by omega), if_pos (by omega), rd_nat l m hlt]
    have hdrop : l.drop m = l[m] :: l.drop (m + 1) := List.drop_eq_getElem_cons hlt
    rw [hdrop]
    generalize l[m] = c at *
    by_cases hc : c > want - acc
    · rw [if_pos hc, sumL]
      by_cases ho : IntKind.u64.wrap (acc + c) < acc
      · rw [if_pos ho]; rfl
      · rw [if_neg ho]
        cases hs : sumL (IntKind.u64.wrap (acc + c)) (l.drop (m + 1)) with
        | none => rfl
        | some t =>
          have ht := sum_le _ _ _ hs
          rw [wrap_u64] at ht ho
          simp only [addsR]
          congr 1
          symm
          rw [beq_eq_false_iff_ne]
          omega
    · have hw64 : IntKind.u64.wrap (acc + c) = acc + c := by rw [wrap_u64]; omega
      rw [if_neg hc, sumL, hw64, if_neg (by omega), w64_nat m (by omega)]
      have e : IntKind.u64.wrap (want - acc - c) = want - (acc + c) := by rw [wrap_u64]; omega
      rw [e, ih (m + 1) k (acc + c) (by omega) (by omega) (by omega)]
theorem total18 (l : List Int) (hl : l.length ≤ 9223372036854775807) (hw : ∀ x ∈ l, R64 x) (want : Int) (hwant : R64 want) : ∃ k, CPts.hygref18_total.f k want l = some (addsR want (sumL 0 l)) := by
  refine ⟨0 + l.length + 1, ?_⟩
  unfold CPts.hygref18_total.f
  have h := total_from l hl hw want hwant l.length 0 0 0 (by omega) (Int.le_refl _) hwant.1
  rw [Int.sub_zero, List.drop_zero] at h
  exact h
theorem adds_one (want : Int) (l : List Int) : addsB want [l] = addsR want (sumL 0 l) := by
  unfold addsB
  simp only [sumLL]
  cases sumL 0 l <;> rfl
theorem adds_three (want : Int) (a b c : List Int) : addsB want [a, b, c] = addsR want (sumL 0 (a ++ b ++ c)) := by
  unfold addsB
  simp only [sumLL]
  rw [sum_app, sum_app]
  cases sumL 0 a with
  | none => rfl
  | some t =>
    simp only [Option.bind_some]
    cases sumL t b with
    | none => rfl
    | some t => simp only [Option.bind_some]; cases sumL t c <;> rfl
end Go.Proofs.Ytdogokcoobpgdaa
