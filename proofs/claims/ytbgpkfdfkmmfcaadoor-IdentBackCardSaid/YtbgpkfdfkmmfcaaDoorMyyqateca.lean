import Derived.Laws.BitsLemmas
import Derived.RowKit
import Derived.Laws.BytesArg
import Derived.Test.YtbgpkfdfkmmfcaaDoorWWords
import Derived.Below
import Derived.WalkKit
import Derived.SliceStrings
import Derived.SizedLaws
import Derived.Test.YtbgpkfdfkmmfcaaDoorWLast
import Derived.Test.YtbgpkfdfkmmfcaaDoorWMore
import Derived.Test.YtbgpkfdfkmmfcaaDoorPIdentPartsx2
namespace Go.Proofs.YtbgpkfdfkmmfcaaDoor.Hy
open Go.RowKit

/-! ### bits -/
theorem wrap_u64 (n : Int) : IntKind.u64.wrap n = n % 18446744073709551616 := by simp [IntKind.wrap, IntKind.bits, IntKind.signed]
theorem bits_xor_nat (k : IntKind) (a b : Nat) (ha : a < 2 ^ k.bits) (hb : b < 2 ^ k.bits) : Go.bits .xor k a b = k.wrap ((a ^^^ b : Nat) : Int) := by
  simp only [Go.bits, BitVec.ofInt_natCast, BitVec.toNat_xor, BitVec.toNat_ofNat, Nat.mod_eq_of_lt ha, Nat.mod_eq_of_lt hb]
theorem bits_xor_0 (k : IntKind) (x : Int) : Go.bits .xor k x 0 = k.wrap (BitVec.ofInt k.bits x).toNat := by
  have h : BitVec.ofInt k.bits 0 = 0#k.bits := by apply BitVec.eq_of_toInt_eq; simp
  simp only [Go.bits, h, BitVec.xor_zero]
theorem bits_xor_m (k : IntKind) (x y : Int) (h : BitVec.ofInt k.bits y = BitVec.allOnes k.bits) : Go.bits .xor k x y = k.wrap (2 ^ k.bits - 1 - (BitVec.ofInt k.bits x).toNat : Nat) := by
  simp only [Go.bits, h, BitVec.xor_allOnes, BitVec.toNat_not]
theorem ofInt_u64 (x : Int) : ((BitVec.ofInt IntKind.u64.bits x).toNat : Int) = x % 18446744073709551616 := by
  rw [BitVec.toNat_ofInt]; simp [IntKind.bits]; omega
theorem ofInt_i64 (x : Int) : ((BitVec.ofInt IntKind.i64.bits x).toNat : Int) = x % 18446744073709551616 := by
  rw [BitVec.toNat_ofInt]; simp [IntKind.bits]; omega
theorem ofInt_u32 (x : Int) : ((BitVec.ofInt IntKind.u32.bits x).toNat : Int) = x % 4294967296 := by
  rw [BitVec.toNat_ofInt]; simp [IntKind.bits]; omega
theorem ofInt_i32 (x : Int) : ((BitVec.ofInt IntKind.i32.bits x).toNat : Int) = x % 4294967296 := by
  rw [BitVec.toNat_ofInt]; simp [IntKind.bits]; omega
theorem xor_u64_0 (x : Int) (h0 : 0 ≤ x) (h1 : x < 18446744073709551616) : Go.bits .xor .u64 x 0 = x := by
  rw [bits_xor_0, ofInt_u64, wrap_u64]; omega
theorem xor_u64_m (x : Int) (h0 : 0 ≤ x) (h1 : x < 18446744073709551616) : Go.bits .xor .u64 x 18446744073709551615 = 18446744073709551615 - x := by
  rw [bits_xor_m .u64 x _ (by decide +kernel), wrap_u64]
  have := ofInt_u64 x
  simp only [show IntKind.u64.bits = 64 from rfl] at this ⊢
  omega
theorem xor_i64_0 (x : Int) (h0 : -9223372036854775808 ≤ x) (h1 : x < 9223372036854775808) : Go.bits .xor .i64 x 0 = x := by
  rw [bits_xor_0, ofInt_i64, IntKind.wrap_i64]; omega
theorem xor_i64_m (x : Int) (h0 : -9223372036854775808 ≤ x) (h1 : x < 9223372036854775808) : Go.bits .xor .i64 x (-1) = -x - 1 := by
  rw [bits_xor_m .i64 x _ (by decide +kernel), IntKind.wrap_i64]
  have := ofInt_i64 x
  simp only [show IntKind.i64.bits = 64 from rfl] at this ⊢
  omega
theorem xor_u32_0 (x : Int) (h0 : 0 ≤ x) (h1 : x < 4294967296) : Go.bits .xor .u32 x 0 = x := by
  rw [bits_xor_0, ofInt_u32, IntKind.wrap_u32]; omega
theorem xor_u32_m (x : Int) (h0 : 0 ≤ x) (h1 : x < 4294967296) : Go.bits .xor .u32 x 4294967295 = 4294967295 - x := by
  rw [bits_xor_m .u32 x _ (by decide +kernel), IntKind.wrap_u32]
  have := ofInt_u32 x
  simp only [show IntKind.u32.bits = 32 from rfl] at this ⊢
  omega
theorem xor_i32_0 (x : Int) (h0 : -2147483648 ≤ x) (h1 : x < 2147483648) : Go.bits .xor .i32 x 0 = x := by
  rw [bits_xor_0, ofInt_i32, IntKind.wrap_i32]; omega
theorem xor_i32_m (x : Int) (h0 : -2147483648 ≤ x) (h1 : x < 2147483648) : Go.bits .xor .i32 x (-1) = -x - 1 := by
  rw [bits_xor_m .i32 x _ (by decide +kernel), IntKind.wrap_i32]
  have := ofInt_i32 x
  simp only [show IntKind.i32.bits = 32 from rfl] at this ⊢
  omega
theorem and_u64_1 (x : Int) (h0 : 0 ≤ x) (h1 : x < 18446744073709551616) : Go.bits .and .u64 x 1 = x % 2 :=
  bits_mask .u64 64 (by decide) (fun n a b => by rw [wrap_u64]; omega) 1 (by decide) x h0 (by simpa using h1)
theorem and_u64_127 (x : Int) (h0 : 0 ≤ x) (h1 : x < 18446744073709551616) : Go.bits .and .u64 x 127 = x % 128 :=
  bits_mask .u64 64 (by decide) (fun n a b => by rw [wrap_u64]; omega) 7 (by decide) x h0 (by simpa using h1)
theorem and_u64_m32 (x : Int) (h0 : 0 ≤ x) (h1 : x < 18446744073709551616) : Go.bits .and .u64 x 4294967295 = x % 4294967296 :=
  bits_mask .u64 64 (by decide) (fun n a b => by rw [wrap_u64]; omega) 32 (by decide) x h0 (by simpa using h1)
theorem or_nat (k : IntKind) (j : Nat) (hj : j ≤ k.bits) (hk : ∀ n : Int, 0 ≤ n → n < 2 ^ j → k.wrap n = n) (a b : Nat) (ha : a < 2 ^ j) (hb : b < 2 ^ j) : Go.bits .or k a b = ((a ||| b : Nat) : Int) := (bits_nat k j hj hk a b ha hb).2
theorem or_u8_128 (x : Int) (h0 : 0 ≤ x) (h1 : x < 256) : Go.bits .or .u8 x 128 = x % 128 + 128 := by
  obtain ⟨n, rfl⟩ := Int.eq_ofNat_of_zero_le h0
  rw [show (128 : Int) = ((128 : Nat) : Int) from rfl, or_nat .u8 8 (by decide) wraps_u8 n 128 (by omega) (by decide)]
  have hn : n < 256 := by omega
  have : n ||| 128 = n % 128 + 128 := by
    have h : ∀ m : Fin 256, m.val ||| 128 = m.val % 128 + 128 := by decide +kernel
    exact h ⟨n, hn⟩
  rw [this]; simp
theorem or_u64_128 (x : Int) (h0 : 0 ≤ x) (h1 : x < 128) : Go.bits .or .u64 x 128 = x + 128 := by
  obtain ⟨n, rfl⟩ := Int.eq_ofNat_of_zero_le h0
  rw [show (128 : Int) = ((128 : Nat) : Int) from rfl, or_nat .u64 64 (by decide) (fun n a b => by rw [wrap_u64]; omega) n 128 (by omega) (by decide)]
  have hn : n < 128 := by omega
  have : n ||| 128 = n + 128 := by
    have h : ∀ m : Fin 128, m.val ||| 128 = m.val + 128 := by decide +kernel
    exact h ⟨n, hn⟩
  rw [this]; simp
theorem andNot_u8_128 (x : Int) (h0 : 0 ≤ x) (h1 : x < 256) : Go.bits .andNot .u8 x 128 = x % 128 := by
  obtain ⟨n, rfl⟩ := Int.eq_ofNat_of_zero_le h0
  have h : ∀ m : Fin 256, Go.bits .andNot .u8 ((m.val : Nat) : Int) 128 = ((m.val : Nat) : Int) % 128 := by decide +kernel
  exact h ⟨n, by omega⟩
/-- Or of what has no bit in common. -/
theorem or_join_u64 (x y : Int) (i : Nat) (hx0 : 0 ≤ x) (hx : x < 2 ^ i) (hy0 : 0 ≤ y) (hy : y % 2 ^ i = 0) (hx1 : x < 18446744073709551616) (hy1 : y < 18446744073709551616) : Go.bits .or .u64 x y = x + y := by
  obtain ⟨a, rfl⟩ := Int.eq_ofNat_of_zero_le hx0
  obtain ⟨b, rfl⟩ := Int.eq_ofNat_of_zero_le hy0
  have h := bits_join .u64 64 (by decide) (fun n a b => by rw [wrap_u64]; omega) i (b : Int) (a : Int) hy0 hy (by simpa using hy1) hx0 hx (by simpa using hx1)
  have e : Go.bits .or .u64 (a : Int) (b : Int) = Go.bits .or .u64 (b : Int) (a : Int) := by
    simp only [Go.bits, BitVec.or_comm]
  rw [e, h]; omega

/-! ### zigzag -/
def zig (m : Int) : Int := if m < 0 then -2 * m - 1 else 2 * m
def zag (n : Int) : Int := if n % 2 = 1 then -(n / 2) - 1 else n / 2
theorem zag_zig (m : Int) : zag (zig m) = m := by unfold zag zig; split <;> split <;> omega
theorem zig_zag (n : Int) (h : 0 ≤ n) : zig (zag n) = n := by unfold zag zig; split <;> split <;> omega
theorem zig_range (m : Int) (h0 : -9223372036854775808 ≤ m) (h1 : m < 9223372036854775808) : 0 ≤ zig m ∧ zig m < 18446744073709551616 := by unfold zig; split <;> omega
theorem zag_range (n : Int) (h0 : 0 ≤ n) (h1 : n < 18446744073709551616) : -9223372036854775808 ≤ zag n ∧ zag n < 9223372036854775808 := by unfold zag; split <;> omega
theorem zig_range32 (m : Int) (h0 : -2147483648 ≤ m) (h1 : m < 2147483648) : 0 ≤ zig m ∧ zig m < 4294967296 := by unfold zig; split <;> omega
theorem zag_range32 (n : Int) (h0 : 0 ≤ n) (h1 : n < 4294967296) : -2147483648 ≤ zag n ∧ zag n < 2147483648 := by unfold zag; split <;> omega

/-! ### bytes: strings as lists of numbers -/
def bs (s : ByteArray) : List Nat := s.data.toList.map UInt8.toNat
def st (l : List Nat) : ByteArray := ⟨(l.map UInt8.ofNat).toArray⟩
def okB (l : List Nat) : Prop := ∀ x ∈ l, x < 256
theorem bs_ok (s : ByteArray) : okB (bs s) := by
  intro x hx
  obtain ⟨u, _, rfl⟩ := List.mem_map.1 hx
  exact u.toNat_lt
theorem bs_st (l : List Nat) (h : okB l) : bs (st l) = l := by
  unfold bs st
  simp only [List.map_map]
  conv => rhs; rw [← List.map_id l]
  apply List.map_congr_left
  intro x hx
  have := h x hx
  simp [Function.comp]
  omega
theorem st_bs (s : ByteArray) : st (bs s) = s := by
  unfold bs st
  simp only [List.map_map]
  have : (UInt8.ofNat ∘ UInt8.toNat) = id := by funext u; simp
  rw [this]; simp
theorem bs_inj {s t : ByteArray} (h : bs s = bs t) : s = t := by rw [← st_bs s, ← st_bs t, h]
theorem bs_length (s : ByteArray) : (bs s).length = s.size := by unfold bs; simp
theorem st_size (l : List Nat) : (st l).size = l.length := by
  unfold st; show (List.toArray _).size = _; simp
theorem bs_append (s t : ByteArray) : bs (s ++ t) = bs s ++ bs t := by
  unfold bs
  rw [ByteArray.data_append]; simp
theorem st_append (a b : List Nat) : st (a ++ b) = st a ++ st b := by
  unfold st
  apply ByteArray.ext
  rw [ByteArray.data_append]; simp
theorem bs_extract (s : ByteArray) (a b : Nat) : bs (s.extract a b) = ((bs s).take b).drop a := by
  unfold bs
  rw [ByteArray.data_extract]
  simp [List.map_take, List.map_drop, List.drop_take, List.extract_eq_take_drop]
theorem strOfNums_eq (l : List Nat) : strOfNums (l.map fun (n : Nat) => (n : Int)) = st l := by
  unfold strOfNums st
  simp [List.map_map, Function.comp]
end Go.Proofs.YtbgpkfdfkmmfcaaDoor.Hy
namespace Go.Proofs.YtbgpkfdfkmmfcaaDoor.Hy

/-! ### numbers in few bytes -/
def putL (n : Nat) : List Nat := if h : n < 128 then [n] else (n % 128 + 128) :: putL (n / 128)
termination_by n
decreasing_by omega
theorem putL_lo (n : Nat) (h : n < 128) : putL n = [n] := by rw [putL]; simp [h]
theorem putL_hi (n : Nat) (h : ¬ n < 128) : putL n = (n % 128 + 128) :: putL (n / 128) := by rw [putL]; simp [h]
def put (n : Int) : ByteArray := st (putL n.toNat)
theorem putL_ok : ∀ n, okB (putL n) := by
  intro n
  induction n using Nat.strongRecOn with
  | _ n ih =>
    by_cases h : n < 128
    · rw [putL_lo n h]; intro x hx; simp at hx; omega
    · rw [putL_hi n h]; intro x hx
      rcases List.mem_cons.1 hx with rfl | hx
      · omega
      · exact ih (n / 128) (by omega) x hx
theorem putL_pos (n : Nat) : 0 < (putL n).length := by
  by_cases h : n < 128
  · rw [putL_lo n h]; simp
  · rw [putL_hi n h]; simp
theorem putL_len : ∀ j n, n < 2 ^ (7 * (j + 1)) → (putL n).length ≤ j + 1 := by
  intro j
  induction j with
  | zero => intro n h; rw [putL_lo n (by simpa using h)]; simp
  | succ j ih =>
    intro n h
    by_cases hn : n < 128
    · rw [putL_lo n hn]; simp
    · rw [putL_hi n hn]
      have : n / 128 < 2 ^ (7 * (j + 1)) := by
        rw [Nat.div_lt_iff_lt_mul (by omega)]
        calc n < _ := h
          _ = _ := by rw [show 7 * (j + 1 + 1) = 7 * (j + 1) + 7 by omega, Nat.pow_add]
      have := ih _ this
      simp; omega
theorem putL_len10 (n : Nat) (h : n < 18446744073709551616) : (putL n).length ≤ 10 := putL_len 9 n (by omega)
theorem bs_put (n : Int) : bs (put n) = putL n.toNat := bs_st _ (putL_ok _)
theorem put_size (n : Int) : (put n).size = (putL n.toNat).length := st_size _

/-! ### and back: an error's code, or what the bytes from place i on add, and how many these are -/
def dec : Nat → List Nat → Sum Nat (Nat × Nat)
  | _, [] => .inl 1
  | i, c :: r => if i = 9 ∧ 1 < c then .inl 4 else if c < 128 then .inr (c * 2 ^ (7 * i), 1) else
      match dec (i + 1) r with
      | .inl e => .inl e
      | .inr (v, k) => .inr ((c - 128) * 2 ^ (7 * i) + v, k + 1)
theorem dec_nil (i : Nat) : dec i [] = .inl 1 := rfl
theorem dec_big (c : Nat) (r : List Nat) (h : 1 < c) : dec 9 (c :: r) = .inl 4 := by simp only [dec]; rw [if_pos ⟨trivial, h⟩]
theorem dec_end (i c : Nat) (r : List Nat) (h9 : ¬ (i = 9 ∧ 1 < c)) (h : c < 128) : dec i (c :: r) = .inr (c * 2 ^ (7 * i), 1) := by simp only [dec]; rw [if_neg h9, if_pos h]
theorem dec_on (i c : Nat) (r : List Nat) (h9 : ¬ (i = 9 ∧ 1 < c)) (h : ¬ c < 128) : dec i (c :: r) = (match dec (i + 1) r with
      | .inl e => .inl e
      | .inr (v, k) => .inr ((c - 128) * 2 ^ (7 * i) + v, k + 1)) := by rw [dec, if_neg h9, if_neg h]
theorem dec_putL (rest : List Nat) : ∀ j n i, i + j = 9 → n * 2 ^ (7 * i) < 18446744073709551616 → dec i (putL n ++ rest) = .inr (n * 2 ^ (7 * i), (putL n).length) := by
  intro j
  induction j with
  | zero =>
    intro n i hi hn
    obtain rfl : i = 9 := by omega
    have h1 : n ≤ 1 := by omega
    rw [putL_lo n (by omega)]
    simp only [List.cons_append, List.nil_append, dec]
    rw [if_neg (by omega), if_pos (by omega)]; rfl
  | succ j ih =>
    intro n i hi hn
    by_cases h : n < 128
    · rw [putL_lo n h]
      simp only [List.cons_append, List.nil_append, dec]
      rw [if_neg (by omega), if_pos h]; rfl
    · have hp : 2 ^ (7 * (i + 1)) = 128 * 2 ^ (7 * i) := by rw [show 7 * (i + 1) = 7 * i + 7 by omega, Nat.pow_add]; omega
      have hle : n / 128 * 2 ^ (7 * (i + 1)) ≤ n * 2 ^ (7 * i) := by
        rw [hp, ← Nat.mul_assoc]
        exact Nat.mul_le_mul_right _ (Nat.div_mul_le_self n 128)
      rw [putL_hi n h]
      simp only [List.cons_append, dec]
      rw [if_neg (by omega), if_neg (by omega), ih (n / 128) (i + 1) (by omega) (by omega)]
      simp only [List.length_cons]
      have e : (n % 128 + 128 - 128) * 2 ^ (7 * i) + n / 128 * 2 ^ (7 * (i + 1)) = n * 2 ^ (7 * i) := by
        rw [hp, show n % 128 + 128 - 128 = n % 128 by omega, ← Nat.mul_assoc, ← Nat.add_mul, show n % 128 + n / 128 * 128 = n by omega]
      rw [e]
theorem dec_put (n : Nat) (h : n < 18446744073709551616) (rest : List Nat) : dec 0 (putL n ++ rest) = .inr (n, (putL n).length) := by
  have := dec_putL rest 9 n 0 rfl (by simpa using h)
  simpa using this
/-- What is read: its bounds. -/
theorem dec_some : ∀ (l : List Nat) (i v k : Nat), okB l → i ≤ 9 → dec i l = .inr (v, k) → 1 ≤ k ∧ k ≤ l.length ∧ i + k ≤ 10 ∧ v % 2 ^ (7 * i) = 0 ∧ v < 18446744073709551616 := by
  intro l
  induction l with
  | nil => intro i v k _ _ h; simp [dec] at h
  | cons c r ih =>
    intro i v k hok hi h
    simp only [dec] at h
    split at h
    · simp at h
    · rename_i h9
      have hpow : 2 ^ (7 * i) * 2 ^ (64 - 7 * i) = 18446744073709551616 := by
        rw [← Nat.pow_add, show 7 * i + (64 - 7 * i) = 64 by omega]
      split at h
      · rename_i hc
        simp only [Sum.inr.injEq, Prod.mk.injEq] at h
        obtain ⟨rfl, rfl⟩ := h
        refine ⟨by omega, by simp, by omega, Nat.mul_mod_left _ _, ?_⟩
        have : c < 2 ^ (64 - 7 * i) := by
          by_cases e : i = 9
          · subst e; simp; omega
          · calc c < 2 ^ 7 := hc
              _ ≤ _ := Nat.pow_le_pow_right (by omega) (by omega)
        rw [← hpow, Nat.mul_comm]
        exact Nat.mul_lt_mul_of_pos_left this (Nat.two_pow_pos _)
      · rename_i hc
        have hi8 : i ≤ 8 := by omega
        have hokr : okB r := fun x hx => hok x (List.mem_cons_of_mem _ hx)
        have hc256 := hok c List.mem_cons_self
        cases e : dec (i + 1) r with
        | inl x => rw [e] at h; simp at h
        | inr x =>
          obtain ⟨v', k'⟩ := x
          rw [e] at h
          simp only [Sum.inr.injEq, Prod.mk.injEq] at h
          obtain ⟨rfl, rfl⟩ := h
          obtain ⟨h1, h2, h3, h4, h5⟩ := ih (i + 1) v' k' hokr (by omega) e
          have hp : 2 ^ (7 * (i + 1)) = 128 * 2 ^ (7 * i) := by rw [show 7 * (i + 1) = 7 * i + 7 by omega, Nat.pow_add]; omega
          have hpow' : 2 ^ (7 * (i + 1)) * 2 ^ (64 - 7 * (i + 1)) = 18446744073709551616 := by
            rw [← Nat.pow_add, show 7 * (i + 1) + (64 - 7 * (i + 1)) = 64 by omega]
          refine ⟨by omega, by simp; omega, by omega, ?_, ?_⟩
          · rw [Nat.mul_add_mod_self_right]
            have : v' = 2 ^ (7 * (i + 1)) * (v' / 2 ^ (7 * (i + 1))) := by have := Nat.div_add_mod v' (2 ^ (7 * (i + 1))); omega
            rw [this, hp, Nat.mul_assoc, Nat.mul_comm 128, Nat.mul_assoc]
            exact Nat.mul_mod_right _ _
          · have hq : v' = 2 ^ (7 * (i + 1)) * (v' / 2 ^ (7 * (i + 1))) := by have := Nat.div_add_mod v' (2 ^ (7 * (i + 1))); omega
            have hlt : v' / 2 ^ (7 * (i + 1)) < 2 ^ (64 - 7 * (i + 1)) := by
              rw [Nat.div_lt_iff_lt_mul (Nat.two_pow_pos _), Nat.mul_comm, hpow']; exact h5
            have hb : (c - 128) * 2 ^ (7 * i) < 2 ^ (7 * (i + 1)) := by
              rw [hp]; exact Nat.mul_lt_mul_of_pos_right (by omega) (Nat.two_pow_pos _)
            calc (c - 128) * 2 ^ (7 * i) + v' < 2 ^ (7 * (i + 1)) + 2 ^ (7 * (i + 1)) * (v' / 2 ^ (7 * (i + 1))) := by omega
              _ = 2 ^ (7 * (i + 1)) * (v' / 2 ^ (7 * (i + 1)) + 1) := by generalize 2 ^ (7 * (i + 1)) = z; rw [Nat.mul_add, Nat.mul_one, Nat.add_comm]
              _ ≤ 2 ^ (7 * (i + 1)) * 2 ^ (64 - 7 * (i + 1)) := Nat.mul_le_mul_left _ hlt
              _ = _ := hpow'
/-! ### numbers one behind the other -/
def putsL (l : List Int) : List Nat := l.flatMap fun n => putL n.toNat
theorem putsL_nil : putsL [] = [] := rfl
theorem putsL_cons (n : Int) (l : List Int) : putsL (n :: l) = putL n.toNat ++ putsL l := rfl
theorem putsL_append (a b : List Int) : putsL (a ++ b) = putsL a ++ putsL b := by unfold putsL; rw [List.flatMap_append]
theorem putsL_snoc (l : List Int) (k : Nat) (h : k < l.length) : putsL (l.take (k + 1)) = putsL (l.take k) ++ putL (l[k]).toNat := by
  rw [List.take_succ_eq_append_getElem h, putsL_append]
  simp [putsL]
theorem putsL_drop (l : List Int) (k : Nat) (h : k < l.length) : (putsL l).drop (putsL (l.take k)).length = putL (l[k]).toNat ++ putsL (l.drop (k + 1)) := by
  conv => lhs; rw [← List.take_append_drop k l, putsL_append, List.take_append_drop]
  rw [List.drop_left, List.drop_eq_getElem_cons h, putsL_cons]
theorem putsL_ok (l : List Int) : okB (putsL l) := by
  intro x hx
  obtain ⟨n, _, hn⟩ := List.mem_flatMap.1 hx
  exact putL_ok _ x hn
def u64s (l : List Int) : Prop := ∀ x ∈ l, 0 ≤ x ∧ x < 18446744073709551616
theorem putsL_len (l : List Int) (h : u64s l) : (putsL l).length ≤ 10 * l.length := by
  induction l with
  | nil => simp [putsL]
  | cons n l ih =>
    have h1 := ih (fun x hx => h x (List.mem_cons_of_mem _ hx))
    have h2 := putL_len10 n.toNat (by have := h n List.mem_cons_self; omega)
    rw [putsL_cons, List.length_append, List.length_cons]; omega
theorem u64s_take {l : List Int} (h : u64s l) (k : Nat) : u64s (l.take k) := fun x hx => h x (List.mem_of_mem_take hx)
theorem putsL_take_le (l : List Int) (k : Nat) : (putsL (l.take k)).length ≤ (putsL l).length := by
  conv => rhs; rw [← List.take_append_drop k l, putsL_append]
  simp
end Go.Proofs.YtbgpkfdfkmmfcaaDoor.Hy
namespace Go.Proofs.YtbgpkfdfkmmfcaaDoor
open Go.RowKit Go.Proofs.YtbgpkfdfkmmfcaaDoorW.PrintWords Hy

theorem below_next {w w1 w2 : World} (h : Below w.heap.size w w1) (h' : Below w1.heap.size w1 w2) : Below w.heap.size w w2 := h.trans (h'.mono h.size)
theorem bt_bs (s : ByteArray) (i : Nat) (h : i < s.size) : ∃ c r, (bs s).drop i = c :: r ∧ bt s (i : Int) = (c : Int) ∧ c < 256 ∧ (bs s).drop (i + 1) = r := by
  have hl : i < (bs s).length := by rw [bs_length]; exact h
  refine ⟨(bs s)[i], (bs s).drop (i + 1), List.drop_eq_getElem_cons hl, ?_, bs_ok s _ (List.getElem_mem hl), rfl⟩
  unfold bt
  rw [dif_pos (by simpa using h)]
  simp [bs]
  rfl
end Go.Proofs.YtbgpkfdfkmmfcaaDoor
namespace Go.Proofs.YtbgpkfdfkmmfcaaDoor.Hy
open Go.RowKit

/-! ### numbers read one behind the other, each in as few bytes as may be -/
def getN : Nat → List Nat → Option (List Int × List Nat)
  | 0, b => some ([], b)
  | n + 1, b => match dec 0 b with
    | .inl _ => none
    | .inr (v, k) => if k = (putL v).length then (match getN n (b.drop k) with
      | none => none
      | some (vs, r) => some ((v : Int) :: vs, r)) else none
theorem dec_canon : ∀ (l : List Nat) (i v k : Nat), okB l → i ≤ 9 → dec i l = .inr (v, k) → k = (putL (v / 2 ^ (7 * i))).length → l.take k = putL (v / 2 ^ (7 * i)) := by
  intro l
  induction l with
  | nil => intro i v k _ _ h; rw [dec_nil] at h; cases h
  | cons c r ih =>
    intro i v k hok hi h hk
    have hc := hok c List.mem_cons_self
    have hokr : okB r := fun x hx => hok x (List.mem_cons_of_mem _ hx)
    by_cases h9 : i = 9 ∧ 1 < c
    · obtain ⟨rfl, h9⟩ := h9
      rw [dec_big c r h9] at h; cases h
    · by_cases h128 : c < 128
      · rw [dec_end i c r h9 h128] at h
        simp only [Sum.inr.injEq, Prod.mk.injEq] at h
        obtain ⟨rfl, rfl⟩ := h
        rw [Nat.mul_div_cancel _ (Nat.two_pow_pos _), putL_lo c h128]
        rfl
      · rw [dec_on i c r h9 h128] at h
        cases e : dec (i + 1) r with
        | inl x => rw [e] at h; cases h
        | inr x =>
          obtain ⟨v', k'⟩ := x
          rw [e] at h
          simp only [Sum.inr.injEq, Prod.mk.injEq] at h
          obtain ⟨rfl, rfl⟩ := h
          have hi8 : i ≤ 8 := by omega
          obtain ⟨h1, h2, h3, h4, h5⟩ := dec_some r (i + 1) v' k' hokr (by omega) e
          have hp : 2 ^ (7 * (i + 1)) = 128 * 2 ^ (7 * i) := by rw [show 7 * (i + 1) = 7 * i + 7 by omega, Nat.pow_add]; omega
          have hv : ((c - 128) * 2 ^ (7 * i) + v') / 2 ^ (7 * i) = (c - 128) + 128 * (v' / 2 ^ (7 * (i + 1))) := by
            have hq : v' = 2 ^ (7 * i) * (128 * (v' / 2 ^ (7 * (i + 1)))) := by
              have := Nat.div_add_mod v' (2 ^ (7 * (i + 1)))
              rw [h4, Nat.add_zero] at this
              calc v' = 2 ^ (7 * (i + 1)) * (v' / 2 ^ (7 * (i + 1))) := this.symm
                _ = 2 ^ (7 * i) * (128 * (v' / 2 ^ (7 * (i + 1)))) := by
                  generalize v' / 2 ^ (7 * (i + 1)) = z
                  rw [hp, Nat.mul_comm 128, Nat.mul_assoc]
            rw [Nat.add_comm, Nat.add_mul_div_right _ _ (Nat.two_pow_pos _)]
            conv => lhs; rw [hq]
            rw [Nat.mul_div_cancel_left _ (Nat.two_pow_pos _), Nat.add_comm]
          rw [hv] at hk ⊢
          generalize hz : v' / 2 ^ (7 * (i + 1)) = z at hk ⊢
          by_cases hlo : c - 128 + 128 * z < 128
          · rw [putL_lo _ hlo] at hk; simp at hk; omega
          · rw [putL_hi _ hlo] at hk ⊢
            have e1 : (c - 128 + 128 * z) / 128 = z := by omega
            have e2 : (c - 128 + 128 * z) % 128 + 128 = c := by omega
            rw [e1] at hk ⊢
            rw [e2]
            simp only [List.length_cons] at hk
            have := ih (i + 1) v' k' hokr (by omega) e (by rw [hz]; omega)
            rw [hz] at this
            rw [List.take_succ_cons, this]
theorem dec_canon0 (l : List Nat) (v k : Nat) (hok : okB l) (h : dec 0 l = .inr (v, k)) (hk : k = (putL v).length) : l = putL v ++ l.drop k := by
  have := dec_canon l 0 v k hok (by omega) h (by simpa using hk)
  simp only [Nat.mul_zero, Nat.pow_zero, Nat.div_one] at this
  conv => lhs; rw [← List.take_append_drop k l, this]
theorem okB_drop {l : List Nat} (h : okB l) (k : Nat) : okB (l.drop k) := fun x hx => h x (List.mem_of_mem_drop hx)
theorem getN_some : ∀ (n : Nat) (b : List Nat) (vs : List Int) (r : List Nat), okB b → getN n b = some (vs, r) → b = putsL vs ++ r ∧ vs.length = n ∧ u64s vs := by
  intro n
  induction n with
  | zero =>
    intro b vs r _ h
    simp only [getN, Option.some.injEq, Prod.mk.injEq] at h
    obtain ⟨rfl, rfl⟩ := h
    exact ⟨rfl, rfl, fun x hx => by simp at hx⟩
  | succ n ih =>
    intro b vs r hok h
    simp only [getN] at h
    cases e : dec 0 b with
    | inl x => rw [e] at h; cases h
    | inr x =>
      obtain ⟨v, k⟩ := x
      rw [e] at h
      simp only at h
      by_cases hk : k = (putL v).length
      · rw [if_pos hk] at h
        cases e2 : getN n (b.drop k) with
        | none => rw [e2] at h; cases h
        | some y =>
          obtain ⟨vs', r'⟩ := y
          rw [e2] at h
          simp only [Option.some.injEq, Prod.mk.injEq] at h
          obtain ⟨rfl, rfl⟩ := h
          obtain ⟨h1, h2, h3⟩ := ih _ _ _ (okB_drop hok k) e2
          have hb := dec_canon0 b v k hok e hk
          have hv := (dec_some b 0 v k hok (by omega) e).2.2.2.2
          refine ⟨?_, by simp [h2], ?_⟩
          · rw [hb, h1, putsL_cons, Int.toNat_natCast, List.append_assoc]
          · intro x hx
            rcases List.mem_cons.1 hx with rfl | hx
            · omega
            · exact h3 x hx
      · rw [if_neg hk] at h; cases h
theorem getN_puts : ∀ (vs : List Int) (r : List Nat), u64s vs → getN vs.length (putsL vs ++ r) = some (vs, r) := by
  intro vs
  induction vs with
  | nil => intro r _; rfl
  | cons v vs ih =>
    intro r h
    have hv := h v List.mem_cons_self
    simp only [List.length_cons, getN]
    rw [putsL_cons, List.append_assoc, dec_put _ (by omega)]
    simp only
    rw [if_pos trivial, List.drop_left, ih r (fun x hx => h x (List.mem_cons_of_mem _ hx))]
    simp only [Int.toNat_of_nonneg hv.1]
theorem getN_more (vs : List Int) (m : Nat) (h : u64s vs) (hm : vs.length < m) : getN m (putsL vs) = none := by
  cases e : getN m (putsL vs) with
  | none => rfl
  | some y =>
    obtain ⟨ws, r⟩ := y
    obtain ⟨h1, h2, h3⟩ := getN_some m _ ws r (putsL_ok vs) e
    have : getN vs.length (putsL ws ++ r) = some (vs, []) := by
      rw [← h1]; have := getN_puts vs [] h; simpa using this
    have h4 := getN_puts (ws.take vs.length) (putsL (ws.drop vs.length) ++ r) (u64s_take h3 _)
    rw [List.length_take, Nat.min_eq_left (by omega), ← List.append_assoc, ← putsL_append, List.take_append_drop] at h4
    rw [this] at h4
    simp only [Option.some.injEq, Prod.mk.injEq] at h4
    obtain ⟨e1, e2⟩ := h4
    have hd : ws.drop vs.length ≠ [] := by
      intro hd
      have := congrArg List.length hd
      simp at this; omega
    cases hdr : ws.drop vs.length with
    | nil => exact absurd hdr hd
    | cons a t =>
      rw [hdr, putsL_cons] at e2
      have := putL_pos a.toNat
      have h0 := congrArg List.length e2
      simp at h0; omega
theorem getN_cut (vs : List Int) (b : List Nat) (x : Nat) (h : u64s vs) (hb : putsL vs = b ++ [x]) : getN vs.length b = none := by
  have hok : okB b := fun y hy => putsL_ok vs y (by rw [hb]; simp [hy])
  cases e : getN vs.length b with
  | none => rfl
  | some y =>
    obtain ⟨ws, r⟩ := y
    obtain ⟨h1, h2, h3⟩ := getN_some _ _ ws r hok e
    have h4 := getN_puts ws (r ++ [x]) h3
    rw [← List.append_assoc, ← h1, ← hb, h2] at h4
    have h5 := getN_puts vs [] h
    rw [List.append_nil, h4] at h5
    simp at h5
end Go.Proofs.YtbgpkfdfkmmfcaaDoor.Hy
namespace Go.Proofs.YtbgpkfdfkmmfcaaDoor.Hy

/-! ### texts one behind the other, each with its length ahead -/
def textL (t : List Nat) : List Nat := putL t.length ++ t
def joinL (L : List (List Nat)) : List Nat := L.flatMap textL
def dictL (L : List (List Nat)) : List Nat := putL L.length ++ joinL L
theorem joinL_nil : joinL [] = [] := rfl
theorem joinL_cons (t : List Nat) (L : List (List Nat)) : joinL (t :: L) = textL t ++ joinL L := rfl
theorem joinL_append (a b : List (List Nat)) : joinL (a ++ b) = joinL a ++ joinL b := by unfold joinL; rw [List.flatMap_append]
theorem joinL_snoc (a : List (List Nat)) (t : List Nat) : joinL (a ++ [t]) = joinL a ++ textL t := by rw [joinL_append, joinL_cons, joinL_nil, List.append_nil]
theorem textL_length (t : List Nat) : t.length + 1 ≤ (textL t).length := by unfold textL; rw [List.length_append]; have := putL_pos t.length; omega
theorem textL_le (t : List Nat) (h : t.length < 18446744073709551616) : (textL t).length ≤ t.length + 10 := by unfold textL; rw [List.length_append]; have := putL_len10 t.length h; omega
theorem joinL_length (L : List (List Nat)) : L.length ≤ (joinL L).length := by
  induction L with
  | nil => simp
  | cons t L ih => rw [joinL_cons, List.length_append, List.length_cons]; have := textL_length t; omega
theorem joinL_mem (L : List (List Nat)) (t : List Nat) (h : t ∈ L) : t.length < (joinL L).length := by
  induction L with
  | nil => simp at h
  | cons u L ih =>
    rw [joinL_cons, List.length_append]
    rcases List.mem_cons.1 h with rfl | h
    · have := textL_length t; omega
    · have := ih h; omega
theorem putL_inj (m n : Nat) (a b : List Nat) (hm : m < 18446744073709551616) (hn : n < 18446744073709551616) (h : putL m ++ a = putL n ++ b) : m = n ∧ a = b := by
  have h1 := dec_put m hm a
  rw [h, dec_put n hn b] at h1
  simp only [Sum.inr.injEq, Prod.mk.injEq] at h1
  obtain ⟨rfl, _⟩ := h1
  exact ⟨rfl, List.append_cancel_left h⟩
theorem textL_inj (t u a b : List Nat) (ht : t.length < 18446744073709551616) (hu : u.length < 18446744073709551616) (h : textL t ++ a = textL u ++ b) : t = u ∧ a = b := by
  unfold textL at h
  rw [List.append_assoc, List.append_assoc] at h
  obtain ⟨h1, h2⟩ := putL_inj _ _ _ _ ht hu h
  exact List.append_inj h2 h1
def smallT (L : List (List Nat)) : Prop := ∀ t ∈ L, t.length < 18446744073709551616
theorem joinL_prefix : ∀ (D L : List (List Nat)) (r : List Nat), smallT D → smallT L → D.length ≤ L.length → joinL L = joinL D ++ r → ∃ L', L = D ++ L' ∧ joinL L' = r := by
  intro D
  induction D with
  | nil => intro L r _ _ _ h; exact ⟨L, rfl, h⟩
  | cons t D ih =>
    intro L r hD hL hl h
    cases L with
    | nil => simp at hl
    | cons u L =>
      rw [joinL_cons, joinL_cons, List.append_assoc] at h
      obtain ⟨rfl, h2⟩ := textL_inj u t _ _ (hL u (by simp)) (hD t (by simp)) h
      obtain ⟨L', rfl, h3⟩ := ih L r (fun x hx => hD x (by simp [hx])) (fun x hx => hL x (by simp [hx])) (by simpa using hl) h2
      exact ⟨L', rfl, h3⟩
/-- A dictionary's bytes. -/
def isDict (b : List Nat) (L : List (List Nat)) : Prop := b = dictL L ∧ L.Nodup ∧ L.length ≤ 20000
theorem isDict_small {b : List Nat} {L : List (List Nat)} (hb : b.length < 18446744073709551616) (h : isDict b L) : smallT L := by
  intro t ht
  have := joinL_mem L t ht
  have h1 := congrArg List.length h.1
  unfold dictL at h1
  rw [List.length_append] at h1
  omega
theorem isDict_uniq {b : List Nat} {L M : List (List Nat)} (hb : b.length < 18446744073709551616) (h : isDict b L) (h' : isDict b M) : L = M := by
  have s1 := isDict_small hb h
  have s2 := isDict_small hb h'
  have e := h.1.symm.trans h'.1
  unfold dictL at e
  have l1 := h.2.2
  have l2 := h'.2.2
  obtain ⟨e1, e2⟩ := putL_inj _ _ _ _ (by omega) (by omega) e
  obtain ⟨L', rfl, e3⟩ := joinL_prefix M L [] s2 s1 (by omega) (by rw [List.append_nil]; exact e2)
  obtain rfl : L' = [] := List.eq_nil_of_length_eq_zero (by rw [List.length_append] at e1; omega)
  rw [List.append_nil]
/-- How far a dictionary's reading has come: its number, the texts that were read, what is left. -/
def dictAt (b : List Nat) (n : Nat) (D : List (List Nat)) (r : List Nat) : Prop := b = putL n ++ (joinL D ++ r)
theorem dictAt_rest {b : List Nat} {n : Nat} {D : List (List Nat)} {r : List Nat} {L : List (List Nat)} (hb : b.length < 18446744073709551616) (hn : n < 18446744073709551616) (hD : D.length ≤ n) (h : dictAt b n D r) (hL : isDict b L) : n = L.length ∧ ∃ L', L = D ++ L' ∧ joinL L' = r := by
  have s1 := isDict_small hb hL
  have e := hL.1.symm.trans h
  unfold dictL at e
  have l1 := hL.2.2
  obtain ⟨e1, e2⟩ := putL_inj _ _ _ _ (by omega) hn e
  have hs : smallT D := by
    intro t ht
    have := joinL_mem D t ht
    have h1 := congrArg List.length h
    rw [List.length_append, List.length_append] at h1
    omega
  exact ⟨e1.symm, joinL_prefix D L r hs s1 (by omega) e2⟩
theorem dictAt_stuck {b : List Nat} {n : Nat} {D : List (List Nat)} {r : List Nat} (hb : b.length < 18446744073709551616) (hn : n < 18446744073709551616) (hD : D.length < n) (h : dictAt b n D r) (hr : ∀ t r', r ≠ textL t ++ r') (L : List (List Nat)) : ¬ isDict b L := by
  intro hL
  obtain ⟨e1, L', rfl, e2⟩ := dictAt_rest hb hn (by omega) h hL
  cases L' with
  | nil => rw [List.append_nil] at e1; omega
  | cons t L' => exact hr t (joinL L') e2.symm
theorem dictAt_twice {b : List Nat} {n : Nat} {D : List (List Nat)} {r r' t : List Nat} (hb : b.length < 18446744073709551616) (hn : n < 18446744073709551616) (hD : D.length < n) (h : dictAt b n D r) (ht : t.length < 18446744073709551616) (hr : r = textL t ++ r') (hm : t ∈ D) (L : List (List Nat)) : ¬ isDict b L := by
  intro hL
  obtain ⟨e1, L', rfl, e2⟩ := dictAt_rest hb hn (by omega) h hL
  have hs := isDict_small hb hL
  cases L' with
  | nil => rw [List.append_nil] at e1; omega
  | cons u L' =>
    rw [joinL_cons, hr] at e2
    obtain ⟨rfl, _⟩ := textL_inj u t _ _ (hs u (by simp)) ht e2
    have := hL.2.1
    rw [List.nodup_append] at this
    exact this.2.2 u hm u (by simp) rfl
theorem dictAt_long {b : List Nat} {n : Nat} {D : List (List Nat)} {r : List Nat} (hb : b.length < 18446744073709551616) (hn : n < 18446744073709551616) (hD : D.length = n) (h : dictAt b n D r) (hr : r ≠ []) (L : List (List Nat)) : ¬ isDict b L := by
  intro hL
  obtain ⟨e1, L', rfl, e2⟩ := dictAt_rest hb hn (by omega) h hL
  obtain rfl : L' = [] := List.eq_nil_of_length_eq_zero (by rw [List.length_append] at e1; omega)
  exact hr e2.symm
theorem dictAt_done {b : List Nat} {n : Nat} {D : List (List Nat)} (hn : n ≤ 20000) (hD : D.length = n) (hd : D.Nodup) (h : dictAt b n D []) : isDict b D :=
  ⟨by rw [h, List.append_nil]; unfold dictL; rw [hD], hd, by omega⟩
theorem dictAt_next {b : List Nat} {n : Nat} {D : List (List Nat)} {r r' t : List Nat} (h : dictAt b n D r) (hr : r = textL t ++ r') : dictAt b n (D ++ [t]) r' := by
  unfold dictAt at *
  rw [h, hr, joinL_snoc, List.append_assoc]
end Go.Proofs.YtbgpkfdfkmmfcaaDoor.Hy
namespace Go.Proofs.YtbgpkfdfkmmfcaaDoor.Hy

/-! ### texts one behind the other: reading one -/
theorem dec_or2 (r : List Nat) (hok : okB r) : (∃ v : Nat, v < 18446744073709551616 ∧ r = putL v ++ r.drop (putL v).length) ∨ ∀ v k, dec 0 r = .inr (v, k) → k ≠ (putL v).length := by
  rcases hd : dec 0 r with c | ⟨v, k⟩
  · exact .inr fun v k h => by cases h
  · by_cases hk : k = (putL v).length
    · refine .inl ⟨v, (dec_some r 0 v k hok (by omega) hd).2.2.2.2, ?_⟩
      rw [← hk]; exact dec_canon0 r v k hok hd hk
    · refine .inr fun v' k' h => ?_
      simp only [Sum.inr.injEq, Prod.mk.injEq] at h
      obtain ⟨rfl, rfl⟩ := h
      exact hk
theorem no_num {r : List Nat} (h : ∀ v k, dec 0 r = .inr (v, k) → k ≠ (putL v).length) (v : Nat) (hv : v < 18446744073709551616) (q : List Nat) : r ≠ putL v ++ q := by
  intro e
  exact h v (putL v).length (by rw [e]; exact dec_put v hv q) rfl
/-- A text stands ahead; or a number that is too great for what is behind it; or no number. -/
theorem text_or (r : List Nat) (hok : okB r) (_hr : r.length < 18446744073709551616) :
    (∃ (t : ByteArray) (q : List Nat), t.size < 18446744073709551616 ∧ r = putL t.size ++ (bs t ++ q)) ∨ (∃ (v : Nat) (q : List Nat), v < 18446744073709551616 ∧ r = putL v ++ q ∧ q.length < v) ∨ (∀ v k, dec 0 r = .inr (v, k) → k ≠ (putL v).length) := by
  rcases dec_or2 r hok with ⟨v, hv, e⟩ | h
  · by_cases hl : v ≤ (r.drop (putL v).length).length
    · refine .inl ⟨st ((r.drop (putL v).length).take v), (r.drop (putL v).length).drop v, ?_, ?_⟩
      · rw [st_size, List.length_take]; omega
      · have ok2 : okB ((r.drop (putL v).length).take v) := fun x hx => hok x (List.mem_of_mem_drop (List.mem_of_mem_take hx))
        rw [st_size, List.length_take, Nat.min_eq_left hl, bs_st _ ok2, List.take_append_drop]
        exact e
    · exact .inr (.inl ⟨v, _, hv, e, by omega⟩)
  · exact .inr (.inr h)
theorem text_no {r : List Nat} (h : (∃ (v : Nat) (q : List Nat), v < 18446744073709551616 ∧ r = putL v ++ q ∧ q.length < v) ∨ (∀ v k, dec 0 r = .inr (v, k) → k ≠ (putL v).length)) (hr : r.length < 18446744073709551616) (t q : List Nat) : r ≠ textL t ++ q := by
  intro e
  have ht : t.length < 18446744073709551616 := by
    have := congrArg List.length e
    have h2 := textL_length t
    rw [List.length_append] at this; omega
  unfold textL at e
  rw [List.append_assoc] at e
  rcases h with ⟨v, p, hv, e2, hl⟩ | h
  · rw [e2] at e
    obtain ⟨rfl, rfl⟩ := putL_inj _ _ _ _ hv ht e
    rw [List.length_append] at hl; omega
  · exact no_num h t.length ht _ e
theorem textL_ne (t q : List Nat) : textL t ++ q ≠ [] := by
  intro e
  have h := congrArg List.length e
  have := textL_length t
  rw [List.length_append, List.length_nil] at h; omega
theorem small_of (L : List (List Nat)) (b q : List Nat) (hb : b.length < 18446744073709551616) (h : b = joinL L ++ q) : smallT L := by
  intro t ht
  have := joinL_mem L t ht
  have h1 := congrArg List.length h
  rw [List.length_append] at h1
  omega
theorem joinL_front : ∀ (D L : List (List Nat)) (r : List Nat), smallT D → smallT L → joinL L = joinL D ++ r → ∃ L', L = D ++ L' ∧ joinL L' = r := by
  intro D
  induction D with
  | nil => intro L r _ _ h; exact ⟨L, rfl, h⟩
  | cons t D ih =>
    intro L r hD hL h
    cases L with
    | nil => rw [joinL_cons, joinL_nil, List.append_assoc] at h; exact absurd h.symm (textL_ne _ _)
    | cons u L =>
      rw [joinL_cons, joinL_cons, List.append_assoc] at h
      obtain ⟨rfl, h2⟩ := textL_inj u t _ _ (hL u (by simp)) (hD t (by simp)) h
      obtain ⟨L', rfl, h3⟩ := ih L r (fun x hx => hD x (by simp [hx])) (fun x hx => hL x (by simp [hx])) h2
      exact ⟨L', rfl, h3⟩

/-! ### lists of texts as byte arrays -/
def bsL (L : List ByteArray) : List (List Nat) := L.map bs
theorem bsL_nil : bsL [] = [] := rfl
theorem bsL_cons (t : ByteArray) (L : List ByteArray) : bsL (t :: L) = bs t :: bsL L := rfl
theorem bsL_append (a b : List ByteArray) : bsL (a ++ b) = bsL a ++ bsL b := by unfold bsL; rw [List.map_append]
theorem bsL_snoc (a : List ByteArray) (t : ByteArray) : bsL (a ++ [t]) = bsL a ++ [bs t] := bsL_append a [t]
theorem bsL_length (a : List ByteArray) : (bsL a).length = a.length := by simp [bsL]
theorem bsL_mem {a : List ByteArray} {t : ByteArray} : bs t ∈ bsL a ↔ t ∈ a := by
  unfold bsL
  rw [List.mem_map]
  constructor
  · rintro ⟨u, hu, e⟩
    rw [← bs_inj e]; exact hu
  · exact fun h => ⟨t, h, rfl⟩
theorem bsL_inj : ∀ {a b : List ByteArray}, bsL a = bsL b → a = b
  | [], [], _ => rfl
  | [], _ :: _, h => by simp [bsL] at h
  | _ :: _, [], h => by simp [bsL] at h
  | x :: a, y :: b, h => by
    rw [bsL_cons, bsL_cons, List.cons.injEq] at h
    rw [bs_inj h.1, bsL_inj h.2]
theorem bsL_nodup {a : List ByteArray} : (bsL a).Nodup ↔ a.Nodup := by
  induction a with
  | nil => simp [bsL]
  | cons x a ih => rw [bsL_cons, List.nodup_cons, List.nodup_cons, bsL_mem, ih]
theorem bsL_eq (M : List (List Nat)) (h : ∀ t ∈ M, okB t) : ∃ L, bsL L = M := by
  induction M with
  | nil => exact ⟨[], rfl⟩
  | cons t M ih =>
    obtain ⟨L, hL⟩ := ih (fun x hx => h x (by simp [hx]))
    exact ⟨st t :: L, by rw [bsL_cons, hL, bs_st t (h t (by simp))]⟩
theorem textL_size (t : ByteArray) : textL (bs t) = putL t.size ++ bs t := by unfold textL; rw [bs_length]
/-- A dictionary of texts. -/
def isDictB (s : ByteArray) (L : List ByteArray) : Prop := isDict (bs s) (bsL L)
theorem isDictB_uniq {s : ByteArray} {L M : List ByteArray} (hs : s.size < 18446744073709551616) (h : isDictB s L) (h' : isDictB s M) : L = M := bsL_inj (isDict_uniq (by rw [bs_length]; exact hs) h h')
def dictAtB (s : ByteArray) (n : Nat) (D : List ByteArray) (r : List Nat) : Prop := dictAt (bs s) n (bsL D) r
end Go.Proofs.YtbgpkfdfkmmfcaaDoor.Hy
namespace Go.Proofs.YtbgpkfdfkmmfcaaDoor
open Go.RowKit Go.Proofs.YtbgpkfdfkmmfcaaDoorW.PrintWords

/-- All blocks that were there are as they were, but for those of M. -/
structure Kp (M : Nat → Prop) (w w' : World) : Prop where
  os : w'.os = w.os
  tape : w'.tape = w.tape
  output : w'.output = w.output
  size : w.heap.size ≤ w'.heap.size
  block : ∀ k, k < w.heap.size → ¬ M k → w'.heap[k]? = w.heap[k]?
variable {M M' : Nat → Prop} {w w1 w2 : World}
theorem Kp.refl (M : Nat → Prop) (w : World) : Kp M w w := ⟨rfl, rfl, rfl, Nat.le_refl _, fun _ _ _ => rfl⟩
theorem Kp.trans (h : Kp M w w1) (k : Kp M w1 w2) : Kp M w w2 :=
  ⟨k.os.trans h.os, k.tape.trans h.tape, k.output.trans h.output, Nat.le_trans h.size k.size, fun i hi hm => (k.block i (Nat.lt_of_lt_of_le hi h.size) hm).trans (h.block i hi hm)⟩
theorem Kp.mono (h : Kp M w w1) (hm : ∀ k, M k → M' k) : Kp M' w w1 := ⟨h.os, h.tape, h.output, h.size, fun k hk hn => h.block k hk (fun x => hn (hm k x))⟩
theorem Kp.drewN (h : Kp M w w1) (m : Nat) : Kp M w (w1.drewN m) := ⟨h.os, h.tape, h.output, h.size, h.block⟩
theorem Kp.drew (h : Kp M w w1) : Kp M w w1.drew := ⟨h.os, h.tape, h.output, h.size, h.block⟩
theorem Kp.ofBelow (h : Below w.heap.size w w1) : Kp M w w1 := ⟨h.os, h.tape, h.output, h.size, fun k hk _ => h.block k hk⟩
theorem Kp.toBelow {B : Nat} (h : Kp M w w1) (hB : B ≤ w.heap.size) (hM : ∀ k, M k → B ≤ k) : Below B w w1 :=
  ⟨h.os, h.tape, h.output, h.size, fun k hk => h.block k (Nat.lt_of_lt_of_le hk hB) (fun x => by have := hM k x; omega)⟩
/-- What came behind the call's beginning may have been written to. -/
theorem Kp.below {w0 : World} (h0 : Below w0.heap.size w0 w) (h : Kp M w w1) (hM : ∀ k, M k → w0.heap.size ≤ k) : Below w0.heap.size w0 w1 := h0.trans (h.toBelow h0.size hM)
theorem Kp.next (h : Kp M w w1) (k : Below w1.heap.size w1 w2) : Kp M w w2 := h.trans (Kp.ofBelow k)
theorem Kp.alloc (h : Kp M w w1) (o : Obj) : Kp M w (w1.alloc o) := h.next ((Below.refl _ _).alloc (Nat.le_refl _) o)
theorem Kp.set (h : Kp M w w1) {p : Addr} (hp : M p.block) (u : Value) : Kp M w (w1.setCell p u) :=
  ⟨h.os, h.tape, h.output, by simpa using h.size, fun k hk hn => (Below.heap_setCell w1 p u k (fun e => hn (e ▸ hp))).trans (h.block k hk hn)⟩
theorem Kp.obj {g : Nat} {o : Obj} (h : Kp M w w1) (hb : w.heap[g]? = some o) (hn : ¬ M g) : w1.heap[g]? = some o := (h.block g (blk_lt hb) hn).trans hb
theorem Kp.row {α : Type} {d : Kd α} {e base : Nat} {ok : Nat → Prop} {v : Value} {xs : List α} (h : Kp M w w1) (hr : d.R e w base ok v xs) (hok : ∀ k, ok k → ¬ M k) : d.R e w1 base ok v xs := Kd.R_step hr (fun k ho hk => h.block k hk (hok k ho))
theorem Kp.own {base : Nat} {e : TypeId} {size n : Nat} {v : Value} {xs : List Value} (h : Kp M w w1) (ho : w.ownsRow base e size v n xs) (hn : ∀ k, v.ownBlock = some k → ¬ M k) : w1.ownsRow base e size v n xs :=
  own_move ho (fun k hk => h.block k (own_lt ho k hk) (hn k hk))
end Go.Proofs.YtbgpkfdfkmmfcaaDoor
namespace Go.Proofs.YtbgpkfdfkmmfcaaDoor
open Go.RowKit Go.ChangeShapes Go.WideShapes Go.Proofs.YtbgpkfdfkmmfcaaDoorW.PrintWords

theorem weights_elem {H : Type} {P : Program} {e : TypeId} : ∀ {l : List (DataW H)} {x : DataW H}, x ∈ l → ∀ n ∈ x.weights P e, n ∈ DataW.weightsAll P e l
  | y :: l, x, hx, n, hn => by
    simp only [DataW.weightsAll, List.mem_append]
    rcases List.mem_cons.1 hx with rfl | hx
    · exact .inl hn
    · exact .inr (weights_elem hx n hn)
/-- A row's slice of strings. -/
theorem strs_row {H : Type} {enc : TypeId × Value → H} {P : Program} {W : World} {base : Nat} {sp : Nat → Bool} {held : Bool} {t e : TypeId} {a : Option Addr} {len cap : Nat} {d : DataW H} {p : List MemPlace} {ts : List TypeId} {ds : List (DataW H)} {j : Nat}
    (hsz : (DataW.weightsEach P ts ds).all (· ≤ reachBytes) = true) (ht : ts[j]? = some t) (hd : ds[j]? = some d) (hu : P.underlying t = some (.slice e)) (he : P.underlying e = some .string) (hc : P.cellsOf e = 1) (hB : P.bytesOf e = 16)
    (h : DataW.Trod enc P W base sp held t (.slice a len cap) d p) :
    ∃ l : List ByteArray, len = l.length ∧ Kd.C Kd.string W a l.length l ∧ l.length ≤ cap ∧ l.length * 16 ≤ 140737488351232 ∧ ∀ x ∈ l, x.size ≤ 9223372036854775807 := by
  obtain ⟨fuel, hf⟩ := h
  rcases open_strings hu he hc hf with ⟨hcs, _⟩ | ⟨x, l, c, zs, hcs, _, hl, hm, hz, hx, hcell, hw⟩
  · simp [Value.cells] at hcs
    obtain ⟨rfl, rfl, rfl⟩ := hcs
    exact ⟨[], rfl, ⟨rfl, by simp, fun h => absurd h (Nat.lt_irrefl 0)⟩, Nat.zero_le _, by simp, fun x hx => by simp at hx⟩
  · simp [Value.cells] at hcs
    obtain ⟨rfl, rfl, rfl⟩ := hcs
    obtain ⟨hx, _⟩ := Prod.mk.inj hx
    subst hx
    have z := sized_slice hsz ht hd hu
    rw [hB] at z
    have hl2 : len ≤ zs.length := by
      rw [hz]
      split
      · exact hl
      · exact Nat.le_refl _
    have h1 : (strs (H := H) (zs.take len)).length + (strs (H := H) (zs.drop len)).length = zs.length := by
      simp [strs]
      omega
    rw [h1] at z
    have hlt : (zs.take len).length = len := by simp; omega
    refine ⟨zs.take len, hlt.symm, Kd.C_of_reads (d := ByteArray.empty) (h1 := fun _ => rfl) ?_, by rw [hlt]; exact hl, by rw [hlt]; exact Nat.le_trans (Nat.mul_le_mul_right _ hl2) z, fun y hy => ?_⟩
    · rw [hlt]
      refine ⟨hlt, by simp only [maxLen] at hm; omega, fun _ => ⟨x, rfl, fun i hi => ?_⟩⟩
      rw [hcell i (by omega)]
      simp [List.getD_eq_getElem?_getD, hi]
    · have := hw y (List.mem_of_mem_take hy)
      simpa [maxLen] using this
end Go.Proofs.YtbgpkfdfkmmfcaaDoor
namespace Go.Proofs.YtbgpkfdfkmmfcaaDoor
open Go.RowKit Go.Proofs.YtbgpkfdfkmmfcaaDoorW.PrintWords Go.Proofs.YtbgpkfdfkmmfcaaDoorW.PrintLast Go.Proofs.YtbgpkfdfkmmfcaaDoorW.PrintMore Hy
open PIdentParts (hygref2_Varint.l0 hygref2_Varint.f)

/-! ### the document's own: a number written; texts taken apart -/
theorem vput_l0 : ∀ (j n : Nat) (k : Nat) (acc : List Nat), n < 2 ^ (7 * (j + 1)) → n < 18446744073709551616 → acc.length + j < 1000 → j < k →
    hygref2_Varint.l0 k (n : Int) (acc.map fun (x : Nat) => (x : Int)) = some (st (acc ++ putL n)) := by
  intro j
  induction j with
  | zero =>
    intro n k acc h h64 hl hk
    obtain ⟨k, rfl⟩ : ∃ m, k = m + 1 := ⟨k - 1, by omega⟩
    have hn : n < 128 := by simpa using h
    simp only [hygref2_Varint.l0]
    rw [if_neg (by omega), if_pos (by simp; omega), putL_lo n hn, ← strOfNums_eq, show (n : Int) % 256 = n by omega]
    simp
  | succ j ih =>
    intro n k acc h h64 hl hk
    obtain ⟨k, rfl⟩ : ∃ m, k = m + 1 := ⟨k - 1, by omega⟩
    simp only [hygref2_Varint.l0]
    by_cases hn : n < 128
    · rw [if_neg (by omega), if_pos (by simp; omega), putL_lo n hn, ← strOfNums_eq, show (n : Int) % 256 = n by omega]
      simp
    · have h' : n / 128 < 2 ^ (7 * (j + 1)) := by
        rw [Nat.div_lt_iff_lt_mul (by omega)]
        calc n < _ := h
          _ = _ := by rw [show 7 * (j + 1 + 1) = 7 * (j + 1) + 7 by omega, Nat.pow_add]
      have := ih (n / 128) k (acc ++ [n % 128 + 128]) h' (by omega) (by simp; omega) (by omega)
      rw [if_pos (by omega), if_pos (by simp; omega), putL_hi n hn, and_u64_127 _ (by omega) (by omega), or_u64_128 _ (by omega) (by omega)]
      rw [List.append_assoc] at this
      simp only [List.cons_append, List.nil_append] at this
      rw [← this]
      have e : ((n : Int) / 128) = ((n / 128 : Nat) : Int) := by omega
      have e2 : ((n : Int) % 128 + 128) % 256 = ((n % 128 + 128 : Nat) : Int) := by omega
      rw [e, e2]
      simp
theorem vput_k (n : Nat) (k : Nat) (h1 : n < 18446744073709551616) (hk : 10 ≤ k) : hygref2_Varint.f k (n : Int) = some (st (putL n)) := by
  have := vput_l0 9 n k [] (by omega) (by omega) (by simp) (by omega)
  simpa [hygref2_Varint.f] using this
theorem vput_any (n : Nat) (w : World) (h1 : n < 18446744073709551616) :
    Calls Tryd.prog 17 #[.int .u64 (n : Int)] w fun e w' => e = .returned (.string (st (putL n))) ∧ Below w.heap.size w w' :=
  PIdentParts.hygref2_Varint.calls 10 (n : Int) _ w (vput_k n 10 h1 (Nat.le_refl _))
end Go.Proofs.YtbgpkfdfkmmfcaaDoor
