import Derived.Laws.BitsLemmas
import Derived.RowKit
import Derived.Laws.BytesArg
import Derived.Test.YtlgiodkckdpjiaaDoorWWords
import Derived.Below
import Derived.WalkKit
import Derived.Test.YtlgiodkckdpjiaaDoorProg
import Derived.WideLaws
import Derived.LaidEql
import Derived.Deep.QuietTactic
import Derived.BigQuiet
import Derived.OwnWalk
import Derived.Test.YtlgiodkckdpjiaaDoorPVarintLongx
namespace Go.Proofs.YtlgiodkckdpjiaaDoor.Hy
open Go.RowKit

/-! ### bits -/
theorem wrap_u64 (n : Int) : IntKind.u64.wrap n = n % 18446744073709551616 := by simp [IntKind.wrap, IntKind.bits, IntKind.signed]
theorem bits_xor_nat (k : IntKind) (a b : Nat) (ha : a < 2 ^ k.bits) (hb : b < 2 ^ k.bits) : Go.bits .xor k a b = k.wrap ((a ^^^ b : Nat) : Int) := by
  simp only [Go.bits, BitVec.ofInt_natCast, BitVec.toNat_xor, BitVec.toNat_ofNat, Nat.mod_eq_of_lt ha, Nat.mod_eq_of_lt hb]
theorem bits_xor_0 (k : IntKind) (x : Int) : Go.bits .xor k x 0 = k.wrap (BitVec.ofInt k.bits x).toNat := by
  have h : BitVec.ofInt k.bits 0 = 0#k.bits := by apply BitVec.eq_of_toInt_eq; simp
  simp only [Go.bits, h, BitVec.xor_zero]
theorem bits_xor_m (k : IntKind) (x y : Int) (h : BitVec.ofInt k.bits y = BitVec.allOnes k.bits) : Go.bits .xor k x y = k.wrap (2 ^ k.bits - 1 - (BitVec.ofInt k.bits x).toNat : Nat) := by
  simp only [Go.bits, h, BitVec.xor_allOnes, BitVec.toNat_not]
theorem ofInt_u64 (x : Int) : ((BitVec.ofInt IntKind.u64.bits x).toNat : Int) = x % 18446744073709551616 := by
  rw [BitVec.toNat_ofInt]; simp [IntKind.bits]; omega
theorem ofInt_i64 (x : Int) : ((BitVec.ofInt IntKind.i64.bits x).toNat : Int) = x % 18446744073709551616 := by
  rw [BitVec.toNat_ofInt]; simp [IntKind.bits]; omega
theorem ofInt_u32 (x : Int) : ((BitVec.ofInt IntKind.u32.bits x).toNat : Int) = x % 4294967296 := by
  rw [BitVec.toNat_ofInt]; simp [IntKind.bits]; omega
theorem ofInt_i32 (x : Int) : ((BitVec.ofInt IntKind.i32.bits x).toNat : Int) = x % 4294967296 := by
  rw [BitVec.toNat_ofInt]; simp [IntKind.bits]; omega
theorem xor_u64_0 (x : Int) (h0 : 0 ≤ x) (h1 : x < 18446744073709551616) : Go.bits .xor .u64 x 0 = x := by
  rw [bits_xor_0, ofInt_u64, wrap_u64]; omega
theorem xor_u64_m (x : Int) (h0 : 0 ≤ x) (h1 : x < 18446744073709551616) : Go.bits .xor .u64 x 18446744073709551615 = 18446744073709551615 - x := by
  rw [bits_xor_m .u64 x _ (by decide +kernel), wrap_u64]
  have := ofInt_u64 x
  simp only [show IntKind.u64.bits = 64 from rfl] at this ⊢
  omega
theorem xor_i64_0 (x : Int) (h0 : -9223372036854775808 ≤ x) (h1 : x < 9223372036854775808) : Go.bits .xor .i64 x 0 = x := by
  rw [bits_xor_0, ofInt_i64, IntKind.wrap_i64]; omega
theorem xor_i64_m (x : Int) (h0 : -9223372036854775808 ≤ x) (h1 : x < 9223372036854775808) : Go.bits .xor .i64 x (-1) = -x - 1 := by
  rw [bits_xor_m .i64 x _ (by decide +kernel), IntKind.wrap_i64]
  have := ofInt_i64 x
  simp only [show IntKind.i64.bits = 64 from rfl] at this ⊢
  omega
theorem xor_u32_0 (x : Int) (h0 : 0 ≤ x) (h1 : x < 4294967296) : Go.bits .xor .u32 x 0 = x := by
  rw [bits_xor_0, ofInt_u32, IntKind.wrap_u32]; omega
theorem xor_u32_m (x : Int) (h0 : 0 ≤ x) (h1 : x < 4294967296) : Go.bits .xor .u32 x 4294967295 = 4294967295 - x := by
  rw [bits_xor_m .u32 x _ (by decide +kernel), IntKind.wrap_u32]
  have := ofInt_u32 x
  simp only [show IntKind.u32.bits = 32 from rfl] at this ⊢
  omega
theorem xor_i32_0 (x : Int) (h0 : -2147483648 ≤ x) (h1 : x < 2147483648) : Go.bits .xor .i32 x 0 = x := by
  rw [bits_xor_0, ofInt_i32, IntKind.wrap_i32]; omega
theorem xor_i32_m (x : Int) (h0 : -2147483648 ≤ x) (h1 : x < 2147483648) : Go.bits .xor .i32 x (-1) = -x - 1 := by
  rw [bits_xor_m .i32 x _ (by decide +kernel), IntKind.wrap_i32]
  have := ofInt_i32 x
  simp only [show IntKind.i32.bits = 32 from rfl] at this ⊢
  omega
theorem and_u64_1 (x : Int) (h0 : 0 ≤ x) (h1 : x < 18446744073709551616) : Go.bits .and .u64 x 1 = x % 2 :=
  bits_mask .u64 64 (by decide) (fun n a b => by rw [wrap_u64]; omega) 1 (by decide) x h0 (by simpa using h1)
theorem and_u64_127 (x : Int) (h0 : 0 ≤ x) (h1 : x < 18446744073709551616) : Go.bits .and .u64 x 127 = x % 128 :=
  bits_mask .u64 64 (by decide) (fun n a b => by rw [wrap_u64]; omega) 7 (by decide) x h0 (by simpa using h1)
theorem and_u64_m32 (x : Int) (h0 : 0 ≤ x) (h1 : x < 18446744073709551616) : Go.bits .and .u64 x 4294967295 = x % 4294967296 :=
  bits_mask .u64 64 (by decide) (fun n a b => by rw [wrap_u64]; omega) 32 (by decide) x h0 (by simpa using h1)
theorem or_nat (k : IntKind) (j : Nat) (hj : j ≤ k.bits) (hk : ∀ n : Int, 0 ≤ n → n < 2 ^ j → k.wrap n = n) (a b : Nat) (ha : a < 2 ^ j) (hb : b < 2 ^ j) : Go.bits .or k a b = ((a ||| b : Nat) : Int) := (bits_nat k j hj hk a b ha hb).2
theorem or_u8_128 (x : Int) (h0 : 0 ≤ x) (h1 : x < 256) : Go.bits .or .u8 x 128 = x % 128 + 128 := by
  obtain ⟨n, rfl⟩ := Int.eq_ofNat_of_zero_le h0
  rw [show (128 : Int) = ((128 : Nat) : Int) from rfl, or_nat .u8 8 (by decide) wraps_u8 n 128 (by omega) (by decide)]
  have hn : n < 256 := by omega
  have : n ||| 128 = n % 128 + 128 := by
    have h : ∀ m : Fin 256, m.val ||| 128 = m.val % 128 + 128 := by decide +kernel
    exact h ⟨n, hn⟩
  rw [this]; simp
theorem or_u64_128 (x : Int) (h0 : 0 ≤ x) (h1 : x < 128) : Go.bits .or .u64 x 128 = x + 128 := by
  obtain ⟨n, rfl⟩ := Int.eq_ofNat_of_zero_le h0
  rw [show (128 : Int) = ((128 : Nat) : Int) from rfl, or_nat .u64 64 (by decide) (fun n a b => by rw [wrap_u64]; omega) n 128 (by omega) (by decide)]
  have hn : n < 128 := by omega
  have : n ||| 128 = n + 128 := by
    have h : ∀ m : Fin 128, m.val ||| 128 = m.val + 128 := by decide +kernel
    exact h ⟨n, hn⟩
  rw [this]; simp
theorem andNot_u8_128 (x : Int) (h0 : 0 ≤ x) (h1 : x < 256) : Go.bits .andNot .u8 x 128 = x % 128 := by
  obtain ⟨n, rfl⟩ := Int.eq_ofNat_of_zero_le h0
  have h : ∀ m : Fin 256, Go.bits .andNot .u8 ((m.val : Nat) : Int) 128 = ((m.val : Nat) : Int) % 128 := by decide +kernel
  exact h ⟨n, by omega⟩
/-- Or of what has no bit in common. -/
theorem or_join_u64 (x y : Int) (i : Nat) (hx0 : 0 ≤ x) (hx : x < 2 ^ i) (hy0 : 0 ≤ y) (hy : y % 2 ^ i = 0) (hx1 : x < 18446744073709551616) (hy1 : y < 18446744073709551616) : Go.bits .or .u64 x y = x + y := by
  obtain ⟨a, rfl⟩ := Int.eq_ofNat_of_zero_le hx0
  obtain ⟨b, rfl⟩ := Int.eq_ofNat_of_zero_le hy0
  have h := bits_join .u64 64 (by decide) (fun n a b => by rw [wrap_u64]; omega) i (b : Int) (a : Int) hy0 hy (by simpa using hy1) hx0 hx (by simpa using hx1)
  have e : Go.bits .or .u64 (a : Int) (b : Int) = Go.bits .or .u64 (b : Int) (a : Int) := by
    simp only [Go.bits, BitVec.or_comm]
  rw [e, h]; omega

/-! ### zigzag -/
def zig (m : Int) : Int := if m < 0 then -2 * m - 1 else 2 * m
def zag (n : Int) : Int := if n % 2 = 1 then -(n / 2) - 1 else n / 2
theorem zag_zig (m : Int) : zag (zig m) = m := by unfold zag zig; split <;> split <;> omega
theorem zig_zag (n : Int) (h : 0 ≤ n) : zig (zag n) = n := by unfold zag zig; split <;> split <;> omega
theorem zig_range (m : Int) (h0 : -9223372036854775808 ≤ m) (h1 : m < 9223372036854775808) : 0 ≤ zig m ∧ zig m < 18446744073709551616 := by unfold zig; split <;> omega
theorem zag_range (n : Int) (h0 : 0 ≤ n) (h1 : n < 18446744073709551616) : -9223372036854775808 ≤ zag n ∧ zag n < 9223372036854775808 := by unfold zag; split <;> omega
theorem zig_range32 (m : Int) (h0 : -2147483648 ≤ m) (h1 : m < 2147483648) : 0 ≤ zig m ∧ zig m < 4294967296 := by unfold zig; split <;> omega
theorem zag_range32 (n : Int) (h0 : 0 ≤ n) (h1 : n < 4294967296) : -2147483648 ≤ zag n ∧ zag n < 2147483648 := by unfold zag; split <;> omega

/-! ### bytes: strings as lists of numbers -/
def bs (s : ByteArray) : List Nat := s.data.toList.map UInt8.toNat
def st (l : List Nat) : ByteArray := ⟨(l.map UInt8.ofNat).toArray⟩
def okB (l : List Nat) : Prop := ∀ x ∈ l, x < 256
theorem bs_ok (s : ByteArray) : okB (bs s) := by
  intro x hx
  obtain ⟨u, _, rfl⟩ := List.mem_map.1 hx
  exact u.toNat_lt
theorem bs_st (l : List Nat) (h : okB l) : bs (st l) = l := by
  unfold bs st
  simp only [List.map_map]
  conv => rhs; rw [← List.map_id l]
  apply List.map_congr_left
  intro x hx
  have := h x hx
  simp [Function.comp]
  omega
theorem st_bs (s : ByteArray) : st (bs s) = s := by
  unfold bs st
  simp only [List.map_map]
  have : (UInt8.ofNat ∘ UInt8.toNat) = id := by funext u; simp
  rw [this]; simp
theorem bs_inj {s t : ByteArray} (h : bs s = bs t) : s = t := by rw [← st_bs s, ← st_bs t, h]
theorem bs_length (s : ByteArray) : (bs s).length = s.size := by unfold bs; simp
theorem st_size (l : List Nat) : (st l).size = l.length := by
  unfold st; show (List.toArray _).size = _; simp
theorem bs_append (s t : ByteArray) : bs (s ++ t) = bs s ++ bs t := by
  unfold bs
  rw [ByteArray.data_append]; simp
theorem st_append (a b : List Nat) : st (a ++ b) = st a ++ st b := by
  unfold st
  apply ByteArray.ext
  rw [ByteArray.data_append]; simp
theorem bs_extract (s : ByteArray) (a b : Nat) : bs (s.extract a b) = ((bs s).take b).drop a := by
  unfold bs
  rw [ByteArray.data_extract]
  simp [List.map_take, List.map_drop, List.drop_take, List.extract_eq_take_drop]
theorem strOfNums_eq (l : List Nat) : strOfNums (l.map fun (n : Nat) => (n : Int)) = st l := by
  unfold strOfNums st
  simp [List.map_map, Function.comp]
end Go.Proofs.YtlgiodkckdpjiaaDoor.Hy
namespace Go.Proofs.YtlgiodkckdpjiaaDoor.Hy

/-! ### numbers in few bytes -/
def putL (n : Nat) : List Nat := if h : n < 128 then [n] else (n % 128 + 128) :: putL (n / 128)
termination_by n
decreasing_by omega
theorem putL_lo (n : Nat) (h : n < 128) : putL n = [n] := by rw [putL]; simp [h]
theorem putL_hi (n : Nat) (h : ¬ n < 128) : putL n = (n % 128 + 128) :: putL (n / 128) := by rw [putL]; simp [h]
def put (n : Int) : ByteArray := st (putL n.toNat)
theorem putL_ok : ∀ n, okB (putL n) := by
  intro n
  induction n using Nat.strongRecOn with
  | _ n ih =>
    by_cases h : n < 128
    · rw [putL_lo n h]; intro x hx; simp at hx; omega
    · rw [putL_hi n h]; intro x hx
      rcases List.mem_cons.1 hx with rfl | hx
      · omega
      · exact ih (n / 128) (by omega) x hx
theorem putL_pos (n : Nat) : 0 < (putL n).length := by
  by_cases h : n < 128
  · rw [putL_lo n h]; simp
  · rw [putL_hi n h]; simp
theorem putL_len : ∀ j n, n < 2 ^ (7 * (j + 1)) → (putL n).length ≤ j + 1 := by
  intro j
  induction j with
  | zero => intro n h; rw [putL_lo n (by simpa using h)]; simp
  | succ j ih =>
    intro n h
    by_cases hn : n < 128
    · rw [putL_lo n hn]; simp
    · rw [putL_hi n hn]
      have : n / 128 < 2 ^ (7 * (j + 1)) := by
        rw [Nat.div_lt_iff_lt_mul (by omega)]
        calc n < _ := h
          _ = _ := by rw [show 7 * (j + 1 + 1) = 7 * (j + 1) + 7 by omega, Nat.pow_add]
      have := ih _ this
      simp; omega
theorem putL_len10 (n : Nat) (h : n < 18446744073709551616) : (putL n).length ≤ 10 := putL_len 9 n (by omega)
theorem bs_put (n : Int) : bs (put n) = putL n.toNat := bs_st _ (putL_ok _)
theorem put_size (n : Int) : (put n).size = (putL n.toNat).length := st_size _

/-! ### and back: an error's code, or what the bytes from place i on add, and how many these are -/
def dec : Nat → List Nat → Sum Nat (Nat × Nat)
  | _, [] => .inl 1
  | i, c :: r => if i = 9 ∧ 1 < c then .inl 4 else if c < 128 then .inr (c * 2 ^ (7 * i), 1) else
      match dec (i + 1) r with
      | .inl e => .inl e
      | .inr (v, k) => .inr ((c - 128) * 2 ^ (7 * i) + v, k + 1)
theorem dec_nil (i : Nat) : dec i [] = .inl 1 := rfl
theorem dec_big (c : Nat) (r : List Nat) (h : 1 < c) : dec 9 (c :: r) = .inl 4 := by simp only [dec]; rw [if_pos ⟨trivial, h⟩]
theorem dec_end (i c : Nat) (r : List Nat) (h9 : ¬ (i = 9 ∧ 1 < c)) (h : c < 128) : dec i (c :: r) = .inr (c * 2 ^ (7 * i), 1) := by simp only [dec]; rw [if_neg h9, if_pos h]
theorem dec_on (i c : Nat) (r : List Nat) (h9 : ¬ (i = 9 ∧ 1 < c)) (h : ¬ c < 128) : dec i (c :: r) = (match dec (i + 1) r with
      | .inl e => .inl e
      | .inr (v, k) => .inr ((c - 128) * 2 ^ (7 * i) + v, k + 1)) := by rw [dec, if_neg h9, if_neg h]
theorem dec_putL (rest : List Nat) : ∀ j n i, i + j = 9 → n * 2 ^ (7 * i) < 18446744073709551616 → dec i (putL n ++ rest) = .inr (n * 2 ^ (7 * i), (putL n).length) := by
  intro j
  induction j with
  | zero =>
    intro n i hi hn
    obtain rfl : i = 9 := by omega
    have h1 : n ≤ 1 := by omega
    rw [putL_lo n (by omega)]
    simp only [List.cons_append, List.nil_append, dec]
    rw [if_neg (by omega), if_pos (by omega)]; rfl
  | succ j ih =>
    intro n i hi hn
    by_cases h : n < 128
    · rw [putL_lo n h]
      simp only [List.cons_append, List.nil_append, dec]
      rw [if_neg (by omega), if_pos h]; rfl
    · have hp : 2 ^ (7 * (i + 1)) = 128 * 2 ^ (7 * i) := by rw [show 7 * (i + 1) = 7 * i + 7 by omega, Nat.pow_add]; omega
      have hle : n / 128 * 2 ^ (7 * (i + 1)) ≤ n * 2 ^ (7 * i) := by
        rw [hp, ← Nat.mul_assoc]
        exact Nat.mul_le_mul_right _ (Nat.div_mul_le_self n 128)
      rw [putL_hi n h]
      simp only [List.cons_append, dec]
      rw [if_neg (by omega), if_neg (by omega), ih (n / 128) (i + 1) (by omega) (by omega)]
      simp only [List.length_cons]
      have e : (n % 128 + 128 - 128) * 2 ^ (7 * i) + n / 128 * 2 ^ (7 * (i + 1)) = n * 2 ^ (7 * i) := by
        rw [hp, show n % 128 + 128 - 128 = n % 128 by omega, ← Nat.mul_assoc, ← Nat.add_mul, show n % 128 + n / 128 * 128 = n by omega]
      rw [e]
theorem dec_put (n : Nat) (h : n < 18446744073709551616) (rest : List Nat) : dec 0 (putL n ++ rest) = .inr (n, (putL n).length) := by
  have := dec_putL rest 9 n 0 rfl (by simpa using h)
  simpa using this
/-- What is read: its bounds. -/
theorem dec_some : ∀ (l : List Nat) (i v k : Nat), okB l → i ≤ 9 → dec i l = .inr (v, k) → 1 ≤ k ∧ k ≤ l.length ∧ i + k ≤ 10 ∧ v % 2 ^ (7 * i) = 0 ∧ v < 18446744073709551616 := by
  intro l
  induction l with
  | nil => intro i v k _ _ h; simp [dec] at h
  | cons c r ih =>
    intro i v k hok hi h
    simp only [dec] at h
    split at h
    · simp at h
    · rename_i h9
      have hpow : 2 ^ (7 * i) * 2 ^ (64 - 7 * i) = 18446744073709551616 := by
        rw [← Nat.pow_add, show 7 * i + (64 - 7 * i) = 64 by omega]
      split at h
      · rename_i hc
        simp only [Sum.inr.injEq, Prod.mk.injEq] at h
        obtain ⟨rfl, rfl⟩ := h
        refine ⟨by omega, by simp, by omega, Nat.mul_mod_left _ _, ?_⟩
        have : c < 2 ^ (64 - 7 * i) := by
          by_cases e : i = 9
          · subst e; simp; omega
          · calc c < 2 ^ 7 := hc
              _ ≤ _ := Nat.pow_le_pow_right (by omega) (by omega)
        rw [← hpow, Nat.mul_comm]
        exact Nat.mul_lt_mul_of_pos_left this (Nat.two_pow_pos _)
      · rename_i hc
        have hi8 : i ≤ 8 := by omega
        have hokr : okB r := fun x hx => hok x (List.mem_cons_of_mem _ hx)
        have hc256 := hok c List.mem_cons_self
        cases e : dec (i + 1) r with
        | inl x => rw [e] at h; simp at h
        | inr x =>
          obtain ⟨v', k'⟩ := x
          rw [e] at h
          simp only [Sum.inr.injEq, Prod.mk.injEq] at h
          obtain ⟨rfl, rfl⟩ := h
          obtain ⟨h1, h2, h3, h4, h5⟩ := ih (i + 1) v' k' hokr (by omega) e
          have hp : 2 ^ (7 * (i + 1)) = 128 * 2 ^ (7 * i) := by rw [show 7 * (i + 1) = 7 * i + 7 by omega, Nat.pow_add]; omega
          have hpow' : 2 ^ (7 * (i + 1)) * 2 ^ (64 - 7 * (i + 1)) = 18446744073709551616 := by
            rw [← Nat.pow_add, show 7 * (i + 1) + (64 - 7 * (i + 1)) = 64 by omega]
          refine ⟨by omega, by simp; omega, by omega, ?_, ?_⟩
          · rw [Nat.mul_add_mod_self_right]
            have : v' = 2 ^ (7 * (i + 1)) * (v' / 2 ^ (7 * (i + 1))) := by have := Nat.div_add_mod v' (2 ^ (7 * (i + 1))); omega
            rw [this, hp, Nat.mul_assoc, Nat.mul_comm 128, Nat.mul_assoc]
            exact Nat.mul_mod_right _ _
          · have hq : v' = 2 ^ (7 * (i + 1)) * (v' / 2 ^ (7 * (i + 1))) := by have := Nat.div_add_mod v' (2 ^ (7 * (i + 1))); omega
            have hlt : v' / 2 ^ (7 * (i + 1)) < 2 ^ (64 - 7 * (i + 1)) := by
              rw [Nat.div_lt_iff_lt_mul (Nat.two_pow_pos _), Nat.mul_comm, hpow']; exact h5
            have hb : (c - 128) * 2 ^ (7 * i) < 2 ^ (7 * (i + 1)) := by
              rw [hp]; exact Nat.mul_lt_mul_of_pos_right (by omega) (Nat.two_pow_pos _)
            calc (c - 128) * 2 ^ (7 * i) + v' < 2 ^ (7 * (i + 1)) + 2 ^ (7 * (i + 1)) * (v' / 2 ^ (7 * (i + 1))) := by omega
              _ = 2 ^ (7 * (i + 1)) * (v' / 2 ^ (7 * (i + 1)) + 1) := by generalize 2 ^ (7 * (i + 1)) = z; rw [Nat.mul_add, Nat.mul_one, Nat.add_comm]
              _ ≤ 2 ^ (7 * (i + 1)) * 2 ^ (64 - 7 * (i + 1)) := Nat.mul_le_mul_left _ hlt
              _ = _ := hpow'
/-! ### numbers one behind the other -/
def putsL (l : List Int) : List Nat := l.flatMap fun n => putL n.toNat
theorem putsL_nil : putsL [] = [] := rfl
theorem putsL_cons (n : Int) (l : List Int) : putsL (n :: l) = putL n.toNat ++ putsL l := rfl
theorem putsL_append (a b : List Int) : putsL (a ++ b) = putsL a ++ putsL b := by unfold putsL; rw [List.flatMap_append]
theorem putsL_snoc (l : List Int) (k : Nat) (h : k < l.length) : putsL (l.take (k + 1)) = putsL (l.take k) ++ putL (l[k]).toNat := by
  rw [List.take_succ_eq_append_getElem h, putsL_append]
  simp [putsL]
theorem putsL_drop (l : List Int) (k : Nat) (h : k < l.length) : (putsL l).drop (putsL (l.take k)).length = putL (l[k]).toNat ++ putsL (l.drop (k + 1)) := by
  conv => lhs; rw [← List.take_append_drop k l, putsL_append, List.take_append_drop]
  rw [List.drop_left, List.drop_eq_getElem_cons h, putsL_cons]
theorem putsL_ok (l : List Int) : okB (putsL l) := by
  intro x hx
  obtain ⟨n, _, hn⟩ := List.mem_flatMap.1 hx
  exact putL_ok _ x hn
def u64s (l : List Int) : Prop := ∀ x ∈ l, 0 ≤ x ∧ x < 18446744073709551616
theorem putsL_len (l : List Int) (h : u64s l) : (putsL l).length ≤ 10 * l.length := by
  induction l with
  | nil => simp [putsL]
  | cons n l ih =>
    have h1 := ih (fun x hx => h x (List.mem_cons_of_mem _ hx))
    have h2 := putL_len10 n.toNat (by have := h n List.mem_cons_self; omega)
    rw [putsL_cons, List.length_append, List.length_cons]; omega
theorem u64s_take {l : List Int} (h : u64s l) (k : Nat) : u64s (l.take k) := fun x hx => h x (List.mem_of_mem_take hx)
theorem putsL_take_le (l : List Int) (k : Nat) : (putsL (l.take k)).length ≤ (putsL l).length := by
  conv => rhs; rw [← List.take_append_drop k l, putsL_append]
  simp
end Go.Proofs.YtlgiodkckdpjiaaDoor.Hy
namespace Go.Proofs.YtlgiodkckdpjiaaDoor
open Go.RowKit Go.Proofs.YtlgiodkckdpjiaaDoorW.PrintWords Hy

theorem below_next {w w1 w2 : World} (h : Below w.heap.size w w1) (h' : Below w1.heap.size w1 w2) : Below w.heap.size w w2 := h.trans (h'.mono h.size)
theorem bt_bs (s : ByteArray) (i : Nat) (h : i < s.size) : ∃ c r, (bs s).drop i = c :: r ∧ bt s (i : Int) = (c : Int) ∧ c < 256 ∧ (bs s).drop (i + 1) = r := by
  have hl : i < (bs s).length := by rw [bs_length]; exact h
  refine ⟨(bs s)[i], (bs s).drop (i + 1), List.drop_eq_getElem_cons hl, ?_, bs_ok s _ (List.getElem_mem hl), rfl⟩
  unfold bt
  rw [dif_pos (by simpa using h)]
  simp [bs]
  rfl
end Go.Proofs.YtlgiodkckdpjiaaDoor
namespace Go.Proofs.YtlgiodkckdpjiaaDoor
open Go.RowKit Go.Proofs.YtlgiodkckdpjiaaDoorW.PrintWords

/-- All blocks that were there are as they were, but for those of M. -/
structure Kp (M : Nat → Prop) (w w' : World) : Prop where
  os : w'.os = w.os
  tape : w'.tape = w.tape
  output : w'.output = w.output
  size : w.heap.size ≤ w'.heap.size
  block : ∀ k, k < w.heap.size → ¬ M k → w'.heap[k]? = w.heap[k]?
variable {M M' : Nat → Prop} {w w1 w2 : World}
theorem Kp.refl (M : Nat → Prop) (w : World) : Kp M w w := ⟨rfl, rfl, rfl, Nat.le_refl _, fun _ _ _ => rfl⟩
theorem Kp.trans (h : Kp M w w1) (k : Kp M w1 w2) : Kp M w w2 :=
  ⟨k.os.trans h.os, k.tape.trans h.tape, k.output.trans h.output, Nat.le_trans h.size k.size, fun i hi hm => (k.block i (Nat.lt_of_lt_of_le hi h.size) hm).trans (h.block i hi hm)⟩
theorem Kp.mono (h : Kp M w w1) (hm : ∀ k, M k → M' k) : Kp M' w w1 := ⟨h.os, h.tape, h.output, h.size, fun k hk hn => h.block k hk (fun x => hn (hm k x))⟩
theorem Kp.drewN (h : Kp M w w1) (m : Nat) : Kp M w (w1.drewN m) := ⟨h.os, h.tape, h.output, h.size, h.block⟩
theorem Kp.drew (h : Kp M w w1) : Kp M w w1.drew := ⟨h.os, h.tape, h.output, h.size, h.block⟩
theorem Kp.ofBelow (h : Below w.heap.size w w1) : Kp M w w1 := ⟨h.os, h.tape, h.output, h.size, fun k hk _ => h.block k hk⟩
theorem Kp.toBelow {B : Nat} (h : Kp M w w1) (hB : B ≤ w.heap.size) (hM : ∀ k, M k → B ≤ k) : Below B w w1 :=
  ⟨h.os, h.tape, h.output, h.size, fun k hk => h.block k (Nat.lt_of_lt_of_le hk hB) (fun x => by have := hM k x; omega)⟩
/-- What came behind the call's beginning may have been written to. -/
theorem Kp.below {w0 : World} (h0 : Below w0.heap.size w0 w) (h : Kp M w w1) (hM : ∀ k, M k → w0.heap.size ≤ k) : Below w0.heap.size w0 w1 := h0.trans (h.toBelow h0.size hM)
theorem Kp.next (h : Kp M w w1) (k : Below w1.heap.size w1 w2) : Kp M w w2 := h.trans (Kp.ofBelow k)
theorem Kp.alloc (h : Kp M w w1) (o : Obj) : Kp M w (w1.alloc o) := h.next ((Below.refl _ _).alloc (Nat.le_refl _) o)
theorem Kp.set (h : Kp M w w1) {p : Addr} (hp : M p.block) (u : Value) : Kp M w (w1.setCell p u) :=
  ⟨h.os, h.tape, h.output, by simpa using h.size, fun k hk hn => (Below.heap_setCell w1 p u k (fun e => hn (e ▸ hp))).trans (h.block k hk hn)⟩
theorem Kp.obj {g : Nat} {o : Obj} (h : Kp M w w1) (hb : w.heap[g]? = some o) (hn : ¬ M g) : w1.heap[g]? = some o := (h.block g (blk_lt hb) hn).trans hb
theorem Kp.row {α : Type} {d : Kd α} {e base : Nat} {ok : Nat → Prop} {v : Value} {xs : List α} (h : Kp M w w1) (hr : d.R e w base ok v xs) (hok : ∀ k, ok k → ¬ M k) : d.R e w1 base ok v xs := Kd.R_step hr (fun k ho hk => h.block k hk (hok k ho))
theorem Kp.own {base : Nat} {e : TypeId} {size n : Nat} {v : Value} {xs : List Value} (h : Kp M w w1) (ho : w.ownsRow base e size v n xs) (hn : ∀ k, v.ownBlock = some k → ¬ M k) : w1.ownsRow base e size v n xs :=
  own_move ho (fun k hk => h.block k (own_lt ho k hk) (hn k hk))
end Go.Proofs.YtlgiodkckdpjiaaDoor
namespace Go.Proofs.YtlgiodkckdpjiaaDoor
open Go.RowKit

/-- What an error tells. -/
inductive Err where
  | nil : Err
  | code : Int → Err
  | at_ : Int → Err → Err
  | fld : Int → Err → Err
  | oth : Err

/-- A value that tells an error, in a world. -/
def IsE (w : World) : Err → Value → Prop
  | .nil, v => v = .nilIface
  | .code c, v => v = .iface 30 (.int .i64 c)
  | .at_ n e, v => ∃ a u, v = .iface 41 (.pointer (some ⟨a, 0, none⟩)) ∧ w.heap[a]? = some (.cells #[.int .i64 n, u] 43 (0, 0)) ∧ IsE w e u
  | .fld _ _, _ => False
  | .oth, _ => False

theorem at_any (n : Int) (u : Value) (w : World) (h : ∃ T x, u = .iface T x) :
    Calls Tryd.prog 11 #[.int .i64 n, u] w fun e w' => e = .returned (.iface 41 (.pointer (some ⟨w.heap.size, 0, none⟩))) ∧ w' = w.alloc (.cells #[.int .i64 n, u] 43 (0, 0)) := by
  obtain ⟨T, x, rfl⟩ := h
  go_enter Tryd.func11, Tryd.ntmps11
  go_wp2
  go_ret
  exact ⟨rfl, rfl⟩

theorem IsE.below {w w' : World} {e : Err} : ∀ {v : Value}, IsE w e v → Below w.heap.size w w' → IsE w' e v := by
  induction e with
  | nil => intro v h _; exact h
  | code c => intro v h _; exact h
  | at_ n e ih =>
    intro v h hb
    obtain ⟨a, u, rfl, ha, hu⟩ := h
    exact ⟨a, u, rfl, by rw [hb.block a (Array.getElem?_eq_some_iff.1 ha).1]; exact ha, ih hu hb⟩
  | fld n e ih => intro v h _; exact h
  | oth => intro v h _; exact h
theorem IsE.iface {w : World} {e : Err} {v : Value} (h : IsE w e v) (he : e ≠ .nil) : ∃ T x, v = .iface T x := by
  cases e with
  | nil => exact absurd rfl he
  | code c => exact ⟨_, _, h⟩
  | at_ n e => obtain ⟨a, u, rfl, _⟩ := h; exact ⟨_, _, rfl⟩
  | fld n e => exact h.elim
  | oth => exact h.elim
theorem IsE.new {w : World} {n : Int} {e : Err} {u : Value} (h : IsE w e u) : IsE (w.alloc (.cells #[.int .i64 n, u] 43 (0, 0))) (.at_ n e) (.iface 41 (.pointer (some ⟨w.heap.size, 0, none⟩))) :=
  ⟨_, _, rfl, heap_alloc_new _ _, h.below ((Below.refl _ _).alloc (Nat.le_refl _) _)⟩
end Go.Proofs.YtlgiodkckdpjiaaDoor
namespace Go.Proofs.YtlgiodkckdpjiaaDoor
open Go.RowKit Go.Proofs.YtlgiodkckdpjiaaDoorW.PrintWords Go.Proofs.YtlgiodkckdpjiaaDoorW.PrintLast Go.Proofs.YtlgiodkckdpjiaaDoorW.PrintMore Hy
open PVarintLong

theorem put_l0 : ∀ (j n : Nat) (k : Nat) (acc : List Nat), n < 2 ^ (7 * (j + 1)) → n < 18446744073709551616 → acc.length + j < 1000 → j < k →
    varint_Put.l0 k (n : Int) (acc.map fun (x : Nat) => (x : Int)) = some (st (acc ++ putL n)) := by
  intro j
  induction j with
  | zero =>
    intro n k acc h h64 hl hk
    obtain ⟨k, rfl⟩ : ∃ m, k = m + 1 := ⟨k - 1, by omega⟩
    have hn : n < 128 := by simpa using h
    simp only [varint_Put.l0]
    rw [if_neg (by omega), if_pos (by simp; omega), putL_lo n hn, ← strOfNums_eq, show (n : Int) % 256 = n by omega]
    simp
  | succ j ih =>
    intro n k acc h h64 hl hk
    obtain ⟨k, rfl⟩ : ∃ m, k = m + 1 := ⟨k - 1, by omega⟩
    simp only [varint_Put.l0]
    by_cases hn : n < 128
    · rw [if_neg (by omega), if_pos (by simp; omega), putL_lo n hn, ← strOfNums_eq, show (n : Int) % 256 = n by omega]
      simp
    · have h' : n / 128 < 2 ^ (7 * (j + 1)) := by
        rw [Nat.div_lt_iff_lt_mul (by omega)]
        calc n < _ := h
          _ = _ := by rw [show 7 * (j + 1 + 1) = 7 * (j + 1) + 7 by omega, Nat.pow_add]
      have := ih (n / 128) k (acc ++ [n % 128 + 128]) h' (by omega) (by simp; omega) (by omega)
      rw [if_pos (by omega), if_pos (by simp; omega), putL_hi n hn, or_u8_128 _ (by omega) (by omega)]
      rw [List.append_assoc] at this
      simp only [List.cons_append, List.nil_append] at this
      rw [← this]
      have e : ((n : Int) / 128) = ((n / 128 : Nat) : Int) := by omega
      have e2 : (n : Int) % 256 % 128 + 128 = ((n % 128 + 128 : Nat) : Int) := by omega
      rw [e, e2]
      simp
theorem put_f (n : Int) (h0 : 0 ≤ n) (h1 : n < 18446744073709551616) : varint_Put.f 10 n = some (put n) := by
  obtain ⟨n, rfl⟩ := Int.eq_ofNat_of_zero_le h0
  have := put_l0 9 n 10 [] (by omega) (by omega) (by simp) (by omega)
  simpa [varint_Put.f, put] using this
theorem put_any (n : Int) (w : World) (h0 : 0 ≤ n) (h1 : n < 18446744073709551616) :
    Calls Tryd.prog 5 #[.int .u64 n] w fun e w' => e = .returned (.string (put n)) ∧ Below w.heap.size w w' :=
  varint_Put.calls 10 n _ w (put_f n h0 h1)

theorem size_l0 : ∀ (j n : Nat) (k m : Nat), n < 2 ^ (7 * (j + 1)) → n < 18446744073709551616 → m + j < 1000 → j < k →
    varint_Size.l0 k (n : Int) (m + 1 : Nat) = some ((m + (putL n).length : Nat) : Int) := by
  intro j
  induction j with
  | zero =>
    intro n k m h h64 hl hk
    obtain ⟨k, rfl⟩ : ∃ m, k = m + 1 := ⟨k - 1, by omega⟩
    have hn : n < 128 := by simpa using h
    simp only [varint_Size.l0]
    rw [if_neg (by omega), putL_lo n hn]
    simp
  | succ j ih =>
    intro n k m h h64 hl hk
    obtain ⟨k, rfl⟩ : ∃ m, k = m + 1 := ⟨k - 1, by omega⟩
    simp only [varint_Size.l0]
    by_cases hn : n < 128
    · rw [if_neg (by omega), putL_lo n hn]; simp
    · have h' : n / 128 < 2 ^ (7 * (j + 1)) := by
        rw [Nat.div_lt_iff_lt_mul (by omega)]
        calc n < _ := h
          _ = _ := by rw [show 7 * (j + 1 + 1) = 7 * (j + 1) + 7 by omega, Nat.pow_add]
      have := ih (n / 128) k (m + 1) h' (by omega) (by omega) (by omega)
      rw [if_pos (by omega), putL_hi n hn]
      rw [show wrap64 (((m + 1 : Nat) : Int) + 1) = ((m + 1 + 1 : Nat) : Int) by unfold wrap64; omega]
      rw [show ((n : Int) / 128) = ((n / 128 : Nat) : Int) by omega, this]
      simp; omega
theorem size_any (n : Int) (w : World) (h0 : 0 ≤ n) (h1 : n < 18446744073709551616) :
    Calls Tryd.prog 8 #[.int .u64 n] w fun e w' => e = .returned (.int .i64 ((put n).size : Int)) ∧ Drawn0 w w' := by
  obtain ⟨n, rfl⟩ := Int.eq_ofNat_of_zero_le h0
  have := size_l0 9 n 10 0 (by omega) (by omega) (by simp) (by omega)
  refine varint_Size.calls 10 n _ w ?_
  simpa [varint_Size.f, put_size] using this

theorem zig_f (m : Int) (h0 : -9223372036854775808 ≤ m) (h1 : m < 9223372036854775808) : varint_Zig.f m = some (zig m) := by
  unfold varint_Zig.f zig
  rw [wrap_u64, wrap_u64, wrap_u64]
  by_cases h : m < 0
  · rw [if_pos h, show m / 9223372036854775808 % 18446744073709551616 = 18446744073709551615 by omega, xor_u64_m _ (by omega) (by omega)]
    congr 1; omega
  · rw [if_neg h, show m / 9223372036854775808 % 18446744073709551616 = 0 by omega, xor_u64_0 _ (by omega) (by omega)]
    congr 1; omega
theorem zig_any (m : Int) (w : World) (h0 : -9223372036854775808 ≤ m) (h1 : m < 9223372036854775808) :
    Calls Tryd.prog 9 #[.int .i64 m] w fun e w' => e = .returned (.int .u64 (zig m)) ∧ Drawn0 w w' := varint_Zig.calls m _ w (zig_f m h0 h1)
theorem zag_f (n : Int) (h0 : 0 ≤ n) (h1 : n < 18446744073709551616) : varint_Zag.f n = some (zag n) := by
  unfold varint_Zag.f zag
  rw [and_u64_1 n h0 h1]
  by_cases h : n % 2 = 1
  · rw [if_pos h, h, show wrap64 (-wrap64 1) = -1 by unfold wrap64; omega, xor_i64_m _ (by unfold wrap64; omega) (by unfold wrap64; omega)]
    congr 1; unfold wrap64; omega
  · rw [if_neg h, show n % 2 = 0 by omega, show wrap64 (-wrap64 0) = 0 by unfold wrap64; omega, xor_i64_0 _ (by unfold wrap64; omega) (by unfold wrap64; omega)]
    congr 1; unfold wrap64; omega
theorem zag_any (n : Int) (w : World) (h0 : 0 ≤ n) (h1 : n < 18446744073709551616) :
    Calls Tryd.prog 10 #[.int .u64 n] w fun e w' => e = .returned (.int .i64 (zag n)) ∧ Drawn0 w w' := varint_Zag.calls n _ w (zag_f n h0 h1)

theorem w7 (i : Nat) (hi : i ≤ 9) : wrap64 (7 * (i : Int)) = 7 * i := by unfold wrap64; omega
theorem shl7 (x : Int) (i : Nat) (hi : i ≤ 9) (h0 : 0 ≤ x) (h1 : x * 2 ^ (7 * i) < 18446744073709551616) : shl .u64 x (wrap64 (7 * (i : Int))) = x * 2 ^ (7 * i) := by
  have e0 : wrap64 (7 * (i : Int)) = 7 * i := by unfold wrap64; omega
  have e : (wrap64 (7 * (i : Int))).toNat = 7 * i := by rw [e0]; omega
  unfold shl
  rw [e, Nat.min_eq_left (by simp [IntKind.bits]; omega), wrap_u64]
  have : 0 ≤ x * 2 ^ (7 * i) := Int.mul_nonneg h0 (Int.pow_nonneg (by decide))
  exact Int.emod_eq_of_lt this h1
theorem step7 (c i acc : Nat) (hi : i ≤ 9) (hc : c < 256) (h9 : i = 9 → c ≤ 1) (ha : acc < 2 ^ (7 * i)) :
    Go.bits .or .u64 (acc : Int) (shl .u64 (IntKind.u64.wrap (Go.bits .andNot .u8 (c : Int) 128)) (wrap64 (7 * (i : Int)))) = ((acc + c % 128 * 2 ^ (7 * i) : Nat) : Int) ∧ acc + c % 128 * 2 ^ (7 * i) < 18446744073709551616 ∧ (i ≤ 8 → acc + c % 128 * 2 ^ (7 * i) < 2 ^ (7 * (i + 1))) := by
  have hpow : 2 ^ (7 * i) * 2 ^ (64 - 7 * i) = 18446744073709551616 := by
    rw [← Nat.pow_add, show 7 * i + (64 - 7 * i) = 64 by omega]
  have hp : 2 ^ (7 * (i + 1)) = 128 * 2 ^ (7 * i) := by rw [show 7 * (i + 1) = 7 * i + 7 by omega, Nat.pow_add]; omega
  have hb : c % 128 + 1 ≤ 2 ^ (64 - 7 * i) := by
    by_cases e : i = 9
    · have := h9 e; subst e; simp; omega
    · calc c % 128 + 1 ≤ 2 ^ 7 := by omega
        _ ≤ _ := Nat.pow_le_pow_right (by omega) (by omega)
  have hlt : acc + c % 128 * 2 ^ (7 * i) < 18446744073709551616 := by
    calc acc + c % 128 * 2 ^ (7 * i) < (c % 128 + 1) * 2 ^ (7 * i) := by rw [Nat.add_mul]; omega
      _ ≤ 2 ^ (64 - 7 * i) * 2 ^ (7 * i) := Nat.mul_le_mul_right _ hb
      _ = _ := by rw [Nat.mul_comm]; exact hpow
  have hy : c % 128 * 2 ^ (7 * i) < 18446744073709551616 := by omega
  have hi64 : 2 ^ (7 * i) ≤ 18446744073709551616 := by rw [← hpow]; exact Nat.le_mul_of_pos_right _ (Nat.two_pow_pos _)
  refine ⟨?_, hlt, fun _ => ?_⟩
  · have e1 : IntKind.u64.wrap (Go.bits .andNot .u8 (c : Int) 128) = ((c % 128 : Nat) : Int) := by
      rw [andNot_u8_128 _ (by omega) (by omega), wrap_u64]; omega
    have e2 : ((c % 128 : Nat) : Int) * 2 ^ (7 * i) = ((c % 128 * 2 ^ (7 * i) : Nat) : Int) := by rw [Int.natCast_mul, Int.natCast_pow]; rfl
    rw [e1, shl7 _ i hi (by omega) (by rw [e2]; omega), e2, or_join_u64 _ _ (7 * i) (by omega) (by exact_mod_cast ha) (by omega) ?_ (by omega) (by omega)]
    · omega
    · have : c % 128 * 2 ^ (7 * i) % 2 ^ (7 * i) = 0 := Nat.mul_mod_left _ _
      exact_mod_cast this
  · rw [hp]
    have : c % 128 * 2 ^ (7 * i) ≤ 127 * 2 ^ (7 * i) := Nat.mul_le_mul_right _ (by omega)
    omega
theorem read_9 (s : ByteArray) (acc k : Nat) (hle : 9 ≤ s.size) (ha : acc < 2 ^ (7 * 9)) :
    varint_read.l0 (k + 2) s (acc : Int) (mn (s.size : Int) 10) ((9 : Nat) : Int) = match dec 9 ((bs s).drop 9) with
      | .inl c => some (0, 0, some (c : Int))
      | .inr (v, m) => some (((acc + v : Nat) : Int), ((9 + m : Nat) : Int), none) := by
  by_cases hlt : 9 < s.size
  · obtain ⟨c, r, h1, h2, h3, h4⟩ := bt_bs s 9 hlt
    have hA : ((9 : Nat) : Int) < mn (s.size : Int) 10 := by unfold mn; split <;> omega
    have hB : 0 ≤ ((9 : Nat) : Int) := by omega
    have hC : ((9 : Nat) : Int) < (s.size : Int) := by omega
    have hD : ((9 : Nat) : Int) = 9 := rfl
    have e1 : wrap64 (((9 : Nat) : Int) + 1) = ((9 + 1 : Nat) : Int) := by unfold wrap64; omega
    have hE : 0 ≤ wrap64 (7 * ((9 : Nat) : Int)) := by rw [w7 9 (by omega)]; omega
    by_cases hc : 1 < c
    · have hT : decide ((c : Int) > 1) = true := by simp; omega
      rw [h1, dec_big c r hc]
      simp only [varint_read.l0, varint_read.j1]
      rw [if_pos hA, if_pos hB, if_pos hC, if_pos hD, h2, if_pos hT]
      rfl
    · have hT : ¬ (decide ((c : Int) > 1) = true) := by simp; omega
      have hF : (c : Int) < 128 := by omega
      have this := (step7 c 9 acc (by omega) h3 (fun _ => by omega) ha).1
      rw [h1, dec_end 9 c r (by omega) (by omega)]
      simp only [varint_read.l0, varint_read.j1]
      rw [if_pos hA, if_pos hB, if_pos hC, if_pos hD, h2, if_neg hT, if_pos hE, if_pos hF, this, Nat.mod_eq_of_lt (show c < 128 by omega), e1]
  · rw [List.drop_of_length_le (by rw [bs_length]; omega), dec_nil]
    simp only [varint_read.l0]
    rw [if_neg (by unfold mn; split <;> omega)]
    rfl
theorem read_step (s : ByteArray) (i acc k : Nat) (hi : i ≤ 8) (hlt : i < s.size) (ha : acc < 2 ^ (7 * i)) (c : Nat) (r : List Nat) (_h1 : (bs s).drop i = c :: r) (h2 : bt s (i : Int) = (c : Int)) (h3 : c < 256) (hF : (c : Int) < 128) :
    varint_read.l0 (k + 2) s (acc : Int) (mn (s.size : Int) 10) (i : Int) = some (((acc + c * 2 ^ (7 * i) : Nat) : Int), ((i + 1 : Nat) : Int), none) := by
  have hA : (i : Int) < mn (s.size : Int) 10 := by unfold mn; split <;> omega
  have hB : 0 ≤ (i : Int) := by omega
  have hC : (i : Int) < (s.size : Int) := by omega
  have hD : ¬ (i : Int) = 9 := by omega
  have hE : 0 ≤ wrap64 (7 * (i : Int)) := by rw [w7 i (by omega)]; omega
  have hT : ¬ (false = true) := by simp
  have hm : c % 128 = c := Nat.mod_eq_of_lt (by omega)
  have e1 : wrap64 ((i : Int) + 1) = ((i + 1 : Nat) : Int) := by unfold wrap64; omega
  have hs7 := (step7 c i acc (by omega) h3 (fun h => by omega) ha).1
  simp only [varint_read.l0, varint_read.j1]
  rw [if_pos hA, if_pos hB, if_pos hC, if_neg hD, h2, if_neg hT, if_pos hE, if_pos hF, hs7, e1, hm]
theorem read_step2 (s : ByteArray) (i acc k : Nat) (hi : i ≤ 8) (hlt : i < s.size) (ha : acc < 2 ^ (7 * i)) (c : Nat) (r : List Nat) (_h1 : (bs s).drop i = c :: r) (h2 : bt s (i : Int) = (c : Int)) (h3 : c < 256) (hF : ¬ (c : Int) < 128) :
    varint_read.l0 (k + 2) s (acc : Int) (mn (s.size : Int) 10) (i : Int) = varint_read.l0 k s ((acc + (c - 128) * 2 ^ (7 * i) : Nat) : Int) (mn (s.size : Int) 10) ((i + 1 : Nat) : Int) ∧ acc + (c - 128) * 2 ^ (7 * i) < 2 ^ (7 * (i + 1)) := by
  have hA : (i : Int) < mn (s.size : Int) 10 := by unfold mn; split <;> omega
  have hB : 0 ≤ (i : Int) := by omega
  have hC : (i : Int) < (s.size : Int) := by omega
  have hD : ¬ (i : Int) = 9 := by omega
  have hE : 0 ≤ wrap64 (7 * (i : Int)) := by rw [w7 i (by omega)]; omega
  have hT : ¬ (false = true) := by simp
  have hm : c % 128 = c - 128 := by omega
  have e1 : wrap64 ((i : Int) + 1) = ((i + 1 : Nat) : Int) := by unfold wrap64; omega
  obtain ⟨hs7, _, hs8⟩ := step7 c i acc (by omega) h3 (fun h => by omega) ha
  have hs9 := hs8 hi
  rw [hm] at hs7 hs9
  refine ⟨?_, hs9⟩
  rw [varint_read.l0, if_pos hA, if_pos hB, if_pos hC, if_neg hD, h2, varint_read.j1, if_neg hT, if_pos hE, if_neg hF, hs7, e1]
theorem read_both : ∀ (d : Nat) (s : ByteArray) (i acc k : Nat), i + d = 9 → i ≤ s.size → acc < 2 ^ (7 * i) → 2 * d + 3 ≤ k →
    varint_read.l0 k s (acc : Int) (mn (s.size : Int) 10) (i : Int) = match dec i ((bs s).drop i) with
      | .inl c => some (0, 0, some (c : Int))
      | .inr (v, m) => some (((acc + v : Nat) : Int), ((i + m : Nat) : Int), none) := by
  intro d
  induction d with
  | zero =>
    intro s i acc k hi hle ha hk
    obtain rfl : i = 9 := by omega
    obtain ⟨k, rfl⟩ : ∃ m, k = m + 2 := ⟨k - 2, by omega⟩
    exact read_9 s acc k hle ha
  | succ d ih =>
    intro s i acc k hi hle ha hk
    obtain ⟨k, rfl⟩ : ∃ m, k = m + 2 := ⟨k - 2, by omega⟩
    have hi8 : i ≤ 8 := by omega
    by_cases hlt : i < s.size
    · obtain ⟨c, r, h1, h2, h3, h4⟩ := bt_bs s i hlt
      have hN : ¬ (i = 9 ∧ 1 < c) := by omega
      by_cases hc : c < 128
      · rw [h1, dec_end i c r hN hc]
        exact read_step s i acc k hi8 hlt ha c r h1 h2 h3 (by omega)
      · obtain ⟨e, hb⟩ := read_step2 s i acc k hi8 hlt ha c r h1 h2 h3 (by omega)
        have IH := ih s (i + 1) _ k (by omega) (by omega) hb (by omega)
        rw [h4] at IH
        rw [h1, dec_on i c r hN hc, e, IH]
        cases dec (i + 1) r with
        | inl x => rfl
        | inr x =>
          obtain ⟨v, m⟩ := x
          show some (((acc + (c - 128) * 2 ^ (7 * i) + v : Nat) : Int), ((i + 1 + m : Nat) : Int), Option.none) = some (((acc + ((c - 128) * 2 ^ (7 * i) + v) : Nat) : Int), ((i + (m + 1) : Nat) : Int), Option.none)
          rw [Nat.add_assoc acc, Nat.add_assoc i, Nat.add_comm 1 m]
    · rw [List.drop_of_length_le (by rw [bs_length]; omega), dec_nil, varint_read.l0, if_neg (by unfold mn; split <;> omega)]
      rfl
theorem read_f (s : ByteArray) : varint_read.f 30 s = match dec 0 (bs s) with
      | .inl c => some (0, 0, some (c : Int))
      | .inr (v, m) => some ((v : Int), (m : Int), none) := by
  have := read_both 9 s 0 0 30 rfl (by omega) (by simp) (by omega)
  simp only [varint_read.f]
  simp only [Int.natCast_zero, Nat.zero_add, List.drop_zero] at this
  exact this
end Go.Proofs.YtlgiodkckdpjiaaDoor
namespace Go.Proofs.YtlgiodkckdpjiaaDoor
open Go.RowKit Go.Proofs.YtlgiodkckdpjiaaDoorW.PrintWords Go.Proofs.YtlgiodkckdpjiaaDoorW.PrintLast Go.Proofs.YtlgiodkckdpjiaaDoorW.PrintMore Hy
open PVarintLong

theorem get_ok (s : ByteArray) (at_ : Int) (v m : Nat) (w : World) (h0 : 0 ≤ at_) (h1 : at_ ≤ s.size) (hs : s.size ≤ 140737488351232)
   (h : dec 0 ((bs s).drop at_.toNat) = .inr (v, m)) :
    Calls Tryd.prog 6 #[.string s, .int .i64 at_] w fun e w' => e = .returned (.tuple #[.int .u64 v, .int .i64 (at_ + m), .nilIface]) ∧ Below w.heap.size w w' := by
  have hm : m ≤ 10 := by
    have hok : okB ((bs s).drop at_.toNat) := fun x hx => bs_ok s x (List.mem_of_mem_drop hx)
    have := dec_some _ 0 v m hok (by omega) h
    omega
  have H : Aside0 (varint_read.f 30 (s.extract at_.toNat s.size) = some ((v : Int), (m : Int), none)) := ⟨by
    rw [read_f, bs_extract, List.take_of_length_le (by rw [bs_length]; omega), h]⟩
  clear h
  go_enter Tryd.func6, Tryd.ntmps6
  go_wp2_with (go_at_call 12; refine (varint_read.calls 30 _ _ _ none _ H.out).mono ?_; rintro e w1 ⟨rfl, hb⟩; simp only [errW_none])
  go_ret3
  exact ⟨rfl, hb⟩
theorem get_put (s : ByteArray) (at_ : Int) (n : Int) (rest : List Nat) (w : World) (h0 : 0 ≤ at_) (h1 : at_ ≤ s.size) (hs : s.size ≤ 140737488351232) (hn0 : 0 ≤ n) (hn1 : n < 18446744073709551616)
   (h : (bs s).drop at_.toNat = putL n.toNat ++ rest) :
    Calls Tryd.prog 6 #[.string s, .int .i64 at_] w fun e w' => e = .returned (.tuple #[.int .u64 n, .int .i64 (at_ + ((put n).size : Int)), .nilIface]) ∧ Below w.heap.size w w' := by
  have := get_ok s at_ n.toNat (putL n.toNat).length w h0 h1 hs (by rw [h]; exact dec_put _ (by omega) _)
  rw [Int.toNat_of_nonneg hn0, ← put_size] at this
  exact this
theorem get_err (s : ByteArray) (at_ : Int) (c : Nat) (w : World) (h0 : 0 ≤ at_) (h1 : at_ ≤ s.size) (_hs : s.size ≤ 140737488351232)
   (h : dec 0 ((bs s).drop at_.toNat) = .inl c) :
    Calls Tryd.prog 6 #[.string s, .int .i64 at_] w fun e w' => ∃ u, e = .returned (.tuple #[.int .u64 0, .int .i64 0, u]) ∧ IsE w' (.at_ at_ (.code c)) u ∧ Below w.heap.size w w' := by
  have H : Aside0 (varint_read.f 30 (s.extract at_.toNat s.size) = some (0, 0, some (c : Int))) := ⟨by
    rw [read_f, bs_extract, List.take_of_length_le (by rw [bs_length]; omega), h]⟩
  clear h
  go_enter Tryd.func6, Tryd.ntmps6
  go_wp2_with (first | (go_at_call 12; refine (varint_read.calls 30 _ _ _ (some (c : Int)) _ H.out).mono ?_; rintro e w1 ⟨rfl, hb⟩; simp only [errW_some]) | (go_at_call 11; refine (at_any _ _ _ ⟨_, _, rfl⟩).mono ?_; rintro e w2 ⟨rfl, rfl⟩))
  go_ret3
  exact ⟨_, rfl, IsE.new rfl, below_alloc hb _⟩
theorem get_range (s : ByteArray) (at_ : Int) (w : World) (h : at_ < 0 ∨ s.size < at_) :
    Calls Tryd.prog 6 #[.string s, .int .i64 at_] w fun e w' => ∃ u, e = .returned (.tuple #[.int .u64 0, .int .i64 0, u]) ∧ IsE w' (.at_ at_ (.code 9)) u ∧ Below w.heap.size w w' := by
  by_cases h0 : at_ < 0
  · clear h
    go_enter Tryd.func6, Tryd.ntmps6
    go_wp2_with (go_at_call 11; refine (at_any _ _ _ ⟨_, _, rfl⟩).mono ?_; rintro e w2 ⟨rfl, rfl⟩)
    go_ret3
    exact ⟨_, rfl, IsE.new rfl, below_alloc (Below.refl _ _) _⟩
  · have h1 : (s.size : Int) < at_ := by omega
    clear h
    go_enter Tryd.func6, Tryd.ntmps6
    go_wp2_with (go_at_call 11; refine (at_any _ _ _ ⟨_, _, rfl⟩).mono ?_; rintro e w2 ⟨rfl, rfl⟩)
    go_ret3
    exact ⟨_, rfl, IsE.new rfl, below_alloc (Below.refl _ _) _⟩
end Go.Proofs.YtlgiodkckdpjiaaDoor
