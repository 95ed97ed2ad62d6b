import Derived.Laws.BitsLemmas
import Derived.RowKit
import Derived.Laws.BytesArg
import Derived.Test.YtnghlkbmfhkmoaaGreatDoorWWords
import Derived.Below
import Derived.WalkKit
namespace Go.Proofs.YtnghlkbmfhkmoaaGreatDoor.Hy
open Go.RowKit

/-! ### bits -/
theorem wrap_u64 (n : Int) : IntKind.u64.wrap n = n % 18446744073709551616 := by simp [IntKind.wrap, IntKind.bits, IntKind.signed]
theorem bits_xor_nat (k : IntKind) (a b : Nat) (ha : a < 2 ^ k.bits) (hb : b < 2 ^ k.bits) : Go.bits .xor k a b = k.wrap ((a ^^^ b : Nat) : Int) := by
  simp only [Go.bits, BitVec.ofInt_natCast, BitVec.toNat_xor, BitVec.toNat_ofNat, Nat.mod_eq_of_lt ha, Nat.mod_eq_of_lt hb]
theorem bits_xor_0 (k : IntKind) (x : Int) : Go.bits .xor k x 0 = k.wrap (BitVec.ofInt k.bits x).toNat := by
  have h : BitVec.ofInt k.bits 0 = 0#k.bits := by apply BitVec.eq_of_toInt_eq; simp
  simp only [Go.bits, h, BitVec.xor_zero]
theorem bits_xor_m (k : IntKind) (x y : Int) (h : BitVec.ofInt k.bits y = BitVec.allOnes k.bits) : Go.bits .xor k x y = k.wrap (2 ^ k.bits - 1 - (BitVec.ofInt k.bits x).toNat : Nat) := by
  simp only [Go.bits, h, BitVec.xor_allOnes, BitVec.toNat_not]
theorem ofInt_u64 (x : Int) : ((BitVec.ofInt IntKind.u64.bits x).toNat : Int) = x % 18446744073709551616 := by
  rw [BitVec.toNat_ofInt]; simp [IntKind.bits]; omega
theorem ofInt_i64 (x : Int) : ((BitVec.ofInt IntKind.i64.bits x).toNat : Int) = x % 18446744073709551616 := by
  rw [BitVec.toNat_ofInt]; simp [IntKind.bits]; omega
theorem ofInt_u32 (x : Int) : ((BitVec.ofInt IntKind.u32.bits x).toNat : Int) = x % 4294967296 := by
  rw [BitVec.toNat_ofInt]; simp [IntKind.bits]; omega
theorem ofInt_i32 (x : Int) : ((BitVec.ofInt IntKind.i32.bits x).toNat : Int) = x % 4294967296 := by
  rw [BitVec.toNat_ofInt]; simp [IntKind.bits]; omega
theorem xor_u64_0 (x : Int) (h0 : 0 ≤ x) (h1 : x < 18446744073709551616) : Go.bits .xor .u64 x 0 = x := by
  rw [bits_xor_0, ofInt_u64, wrap_u64]; omega
theorem xor_u64_m (x : Int) (h0 : 0 ≤ x) (h1 : x < 18446744073709551616) : Go.bits .xor .u64 x 18446744073709551615 = 18446744073709551615 - x := by
  rw [bits_xor_m .u64 x _ (by decide +kernel), wrap_u64]
  have := ofInt_u64 x
  simp only [show IntKind.u64.bits = 64 from rfl] at this ⊢
  omega
theorem xor_i64_0 (x : Int) (h0 : -9223372036854775808 ≤ x) (h1 : x < 9223372036854775808) : Go.bits .xor .i64 x 0 = x := by
  rw [bits_xor_0, ofInt_i64, IntKind.wrap_i64]; omega
theorem xor_i64_m (x : Int) (h0 : -9223372036854775808 ≤ x) (h1 : x < 9223372036854775808) : Go.bits .xor .i64 x (-1) = -x - 1 := by
  rw [bits_xor_m .i64 x _ (by decide +kernel), IntKind.wrap_i64]
  have := ofInt_i64 x
  simp only [show IntKind.i64.bits = 64 from rfl] at this ⊢
  omega
theorem xor_u32_0 (x : Int) (h0 : 0 ≤ x) (h1 : x < 4294967296) : Go.bits .xor .u32 x 0 = x := by
  rw [bits_xor_0, ofInt_u32, IntKind.wrap_u32]; omega
theorem xor_u32_m (x : Int) (h0 : 0 ≤ x) (h1 : x < 4294967296) : Go.bits .xor .u32 x 4294967295 = 4294967295 - x := by
  rw [bits_xor_m .u32 x _ (by decide +kernel), IntKind.wrap_u32]
  have := ofInt_u32 x
  simp only [show IntKind.u32.bits = 32 from rfl] at this ⊢
  omega
theorem xor_i32_0 (x : Int) (h0 : -2147483648 ≤ x) (h1 : x < 2147483648) : Go.bits .xor .i32 x 0 = x := by
  rw [bits_xor_0, ofInt_i32, IntKind.wrap_i32]; omega
theorem xor_i32_m (x : Int) (h0 : -2147483648 ≤ x) (h1 : x < 2147483648) : Go.bits .xor .i32 x (-1) = -x - 1 := by
  rw [bits_xor_m .i32 x _ (by decide +kernel), IntKind.wrap_i32]
  have := ofInt_i32 x
  simp only [show IntKind.i32.bits = 32 from rfl] at this ⊢
  omega
theorem and_u64_1 (x : Int) (h0 : 0 ≤ x) (h1 : x < 18446744073709551616) : Go.bits .and .u64 x 1 = x % 2 :=
  bits_mask .u64 64 (by decide) (fun n a b => by rw [wrap_u64]; omega) 1 (by decide) x h0 (by simpa using h1)
theorem and_u64_127 (x : Int) (h0 : 0 ≤ x) (h1 : x < 18446744073709551616) : Go.bits .and .u64 x 127 = x % 128 :=
  bits_mask .u64 64 (by decide) (fun n a b => by rw [wrap_u64]; omega) 7 (by decide) x h0 (by simpa using h1)
theorem and_u64_m32 (x : Int) (h0 : 0 ≤ x) (h1 : x < 18446744073709551616) : Go.bits .and .u64 x 4294967295 = x % 4294967296 :=
  bits_mask .u64 64 (by decide) (fun n a b => by rw [wrap_u64]; omega) 32 (by decide) x h0 (by simpa using h1)
theorem or_nat (k : IntKind) (j : Nat) (hj : j ≤ k.bits) (hk : ∀ n : Int, 0 ≤ n → n < 2 ^ j → k.wrap n = n) (a b : Nat) (ha : a < 2 ^ j) (hb : b < 2 ^ j) : Go.bits .or k a b = ((a ||| b : Nat) : Int) := (bits_nat k j hj hk a b ha hb).2
theorem or_u8_128 (x : Int) (h0 : 0 ≤ x) (h1 : x < 256) : Go.bits .or .u8 x 128 = x % 128 + 128 := by
  obtain ⟨n, rfl⟩ := Int.eq_ofNat_of_zero_le h0
  rw [show (128 : Int) = ((128 : Nat) : Int) from rfl, or_nat .u8 8 (by decide) wraps_u8 n 128 (by omega) (by decide)]
  have hn : n < 256 := by omega
  have : n ||| 128 = n % 128 + 128 := by
    have h : ∀ m : Fin 256, m.val ||| 128 = m.val % 128 + 128 := by decide +kernel
    exact h ⟨n, hn⟩
  rw [this]; simp
theorem or_u64_128 (x : Int) (h0 : 0 ≤ x) (h1 : x < 128) : Go.bits .or .u64 x 128 = x + 128 := by
  obtain ⟨n, rfl⟩ := Int.eq_ofNat_of_zero_le h0
  rw [show (128 : Int) = ((128 : Nat) : Int) from rfl, or_nat .u64 64 (by decide) (fun n a b => by rw [wrap_u64]; omega) n 128 (by omega) (by decide)]
  have hn : n < 128 := by omega
  have : n ||| 128 = n + 128 := by
    have h : ∀ m : Fin 128, m.val ||| 128 = m.val + 128 := by decide +kernel
    exact h ⟨n, hn⟩
  rw [this]; simp
theorem andNot_u8_128 (x : Int) (h0 : 0 ≤ x) (h1 : x < 256) : Go.bits .andNot .u8 x 128 = x % 128 := by
  obtain ⟨n, rfl⟩ := Int.eq_ofNat_of_zero_le h0
  have h : ∀ m : Fin 256, Go.bits .andNot .u8 ((m.val : Nat) : Int) 128 = ((m.val : Nat) : Int) % 128 := by decide +kernel
  exact h ⟨n, by omega⟩
/-- Or of what has no bit in common. -/
theorem or_join_u64 (x y : Int) (i : Nat) (hx0 : 0 ≤ x) (hx : x < 2 ^ i) (hy0 : 0 ≤ y) (hy : y % 2 ^ i = 0) (hx1 : x < 18446744073709551616) (hy1 : y < 18446744073709551616) : Go.bits .or .u64 x y = x + y := by
  obtain ⟨a, rfl⟩ := Int.eq_ofNat_of_zero_le hx0
  obtain ⟨b, rfl⟩ := Int.eq_ofNat_of_zero_le hy0
  have h := bits_join .u64 64 (by decide) (fun n a b => by rw [wrap_u64]; omega) i (b : Int) (a : Int) hy0 hy (by simpa using hy1) hx0 hx (by simpa using hx1)
  have e : Go.bits .or .u64 (a : Int) (b : Int) = Go.bits .or .u64 (b : Int) (a : Int) := by
    simp only [Go.bits, BitVec.or_comm]
  rw [e, h]; omega

/-! ### zigzag -/
def zig (m : Int) : Int := if m < 0 then -2 * m - 1 else 2 * m
def zag (n : Int) : Int := if n % 2 = 1 then -(n / 2) - 1 else n / 2
theorem zag_zig (m : Int) : zag (zig m) = m := by unfold zag zig; split <;> split <;> omega
theorem zig_zag (n : Int) (h : 0 ≤ n) : zig (zag n) = n := by unfold zag zig; split <;> split <;> omega
theorem zig_range (m : Int) (h0 : -9223372036854775808 ≤ m) (h1 : m < 9223372036854775808) : 0 ≤ zig m ∧ zig m < 18446744073709551616 := by unfold zig; split <;> omega
theorem zag_range (n : Int) (h0 : 0 ≤ n) (h1 : n < 18446744073709551616) : -9223372036854775808 ≤ zag n ∧ zag n < 9223372036854775808 := by unfold zag; split <;> omega
theorem zig_range32 (m : Int) (h0 : -2147483648 ≤ m) (h1 : m < 2147483648) : 0 ≤ zig m ∧ zig m < 4294967296 := by unfold zig; split <;> omega
theorem zag_range32 (n : Int) (h0 : 0 ≤ n) (h1 : n < 4294967296) : -2147483648 ≤ zag n ∧ zag n < 2147483648 := by unfold zag; split <;> omega

/-! ### bytes: strings as lists of numbers -/
def bs (s : ByteArray) : List Nat := s.data.toList.map UInt8.toNat
def st (l : List Nat) : ByteArray := ⟨(l.map UInt8.ofNat).toArray⟩
def okB (l : List Nat) : Prop := ∀ x ∈ l, x < 256
theorem bs_ok (s : ByteArray) : okB (bs s) := by
  intro x hx
  obtain ⟨u, _, rfl⟩ := List.mem_map.1 hx
  exact u.toNat_lt
theorem bs_st (l : List Nat) (h : okB l) : bs (st l) = l := by
  unfold bs st
  simp only [List.map_map]
  conv => rhs; rw [← List.map_id l]
  apply List.map_congr_left
  intro x hx
  have := h x hx
  simp [Function.comp]
  omega
theorem st_bs (s : ByteArray) : st (bs s) = s := by
  unfold bs st
  simp only [List.map_map]
  have : (UInt8.ofNat ∘ UInt8.toNat) = id := by funext u; simp
  rw [this]; simp
theorem bs_inj {s t : ByteArray} (h : bs s = bs t) : s = t := by rw [← st_bs s, ← st_bs t, h]
theorem bs_length (s : ByteArray) : (bs s).length = s.size := by unfold bs; simp
theorem st_size (l : List Nat) : (st l).size = l.length := by
  unfold st; show (List.toArray _).size = _; simp
theorem bs_append (s t : ByteArray) : bs (s ++ t) = bs s ++ bs t := by
  unfold bs
  rw [ByteArray.data_append]; simp
theorem st_append (a b : List Nat) : st (a ++ b) = st a ++ st b := by
  unfold st
  apply ByteArray.ext
  rw [ByteArray.data_append]; simp
theorem bs_extract (s : ByteArray) (a b : Nat) : bs (s.extract a b) = ((bs s).take b).drop a := by
  unfold bs
  rw [ByteArray.data_extract]
  simp [List.map_take, List.map_drop, List.drop_take, List.extract_eq_take_drop]
theorem strOfNums_eq (l : List Nat) : strOfNums (l.map fun (n : Nat) => (n : Int)) = st l := by
  unfold strOfNums st
  simp [List.map_map, Function.comp]
end Go.Proofs.YtnghlkbmfhkmoaaGreatDoor.Hy
namespace Go.Proofs.YtnghlkbmfhkmoaaGreatDoor.Hy

/-! ### numbers in few bytes -/
def putL (n : Nat) : List Nat := if h : n < 128 then [n] else (n % 128 + 128) :: putL (n / 128)
termination_by n
decreasing_by omega
theorem putL_lo (n : Nat) (h : n < 128) : putL n = [n] := by rw [putL]; simp [h]
theorem putL_hi (n : Nat) (h : ¬ n < 128) : putL n = (n % 128 + 128) :: putL (n / 128) := by rw [putL]; simp [h]
def put (n : Int) : ByteArray := st (putL n.toNat)
theorem putL_ok : ∀ n, okB (putL n) := by
  intro n
  induction n using Nat.strongRecOn with
  | _ n ih =>
    by_cases h : n < 128
    · rw [putL_lo n h]; intro x hx; simp at hx; omega
    · rw [putL_hi n h]; intro x hx
      rcases List.mem_cons.1 hx with rfl | hx
      · omega
      · exact ih (n / 128) (by omega) x hx
theorem putL_pos (n : Nat) : 0 < (putL n).length := by
  by_cases h : n < 128
  · rw [putL_lo n h]; simp
  · rw [putL_hi n h]; simp
theorem putL_len : ∀ j n, n < 2 ^ (7 * (j + 1)) → (putL n).length ≤ j + 1 := by
  intro j
  induction j with
  | zero => intro n h; rw [putL_lo n (by simpa using h)]; simp
  | succ j ih =>
    intro n h
    by_cases hn : n < 128
    · rw [putL_lo n hn]; simp
    · rw [putL_hi n hn]
      have : n / 128 < 2 ^ (7 * (j + 1)) := by
        rw [Nat.div_lt_iff_lt_mul (by omega)]
        calc n < _ := h
          _ = _ := by rw [show 7 * (j + 1 + 1) = 7 * (j + 1) + 7 by omega, Nat.pow_add]
      have := ih _ this
      simp; omega
theorem putL_len10 (n : Nat) (h : n < 18446744073709551616) : (putL n).length ≤ 10 := putL_len 9 n (by omega)
theorem bs_put (n : Int) : bs (put n) = putL n.toNat := bs_st _ (putL_ok _)
theorem put_size (n : Int) : (put n).size = (putL n.toNat).length := st_size _

/-! ### and back: an error's code, or what the bytes from place i on add, and how many these are -/
def dec : Nat → List Nat → Sum Nat (Nat × Nat)
  | _, [] => .inl 1
  | i, c :: r => if i = 9 ∧ 1 < c then .inl 4 else if c < 128 then .inr (c * 2 ^ (7 * i), 1) else
      match dec (i + 1) r with
      | .inl e => .inl e
      | .inr (v, k) => .inr ((c - 128) * 2 ^ (7 * i) + v, k + 1)
theorem dec_nil (i : Nat) : dec i [] = .inl 1 := rfl
theorem dec_big (c : Nat) (r : List Nat) (h : 1 < c) : dec 9 (c :: r) = .inl 4 := by simp only [dec]; rw [if_pos ⟨trivial, h⟩]
theorem dec_end (i c : Nat) (r : List Nat) (h9 : ¬ (i = 9 ∧ 1 < c)) (h : c < 128) : dec i (c :: r) = .inr (c * 2 ^ (7 * i), 1) := by simp only [dec]; rw [if_neg h9, if_pos h]
theorem dec_on (i c : Nat) (r : List Nat) (h9 : ¬ (i = 9 ∧ 1 < c)) (h : ¬ c < 128) : dec i (c :: r) = (match dec (i + 1) r with
      | .inl e => .inl e
      | .inr (v, k) => .inr ((c - 128) * 2 ^ (7 * i) + v, k + 1)) := by rw [dec, if_neg h9, if_neg h]
theorem dec_putL (rest : List Nat) : ∀ j n i, i + j = 9 → n * 2 ^ (7 * i) < 18446744073709551616 → dec i (putL n ++ rest) = .inr (n * 2 ^ (7 * i), (putL n).length) := by
  intro j
  induction j with
  | zero =>
    intro n i hi hn
    obtain rfl : i = 9 := by omega
    have h1 : n ≤ 1 := by omega
    rw [putL_lo n (by omega)]
    simp only [List.cons_append, List.nil_append, dec]
    rw [if_neg (by omega), if_pos (by omega)]; rfl
  | succ j ih =>
    intro n i hi hn
    by_cases h : n < 128
    · rw [putL_lo n h]
      simp only [List.cons_append, List.nil_append, dec]
      rw [if_neg (by omega), if_pos h]; rfl
    · have hp : 2 ^ (7 * (i + 1)) = 128 * 2 ^ (7 * i) := by rw [show 7 * (i + 1) = 7 * i + 7 by omega, Nat.pow_add]; omega
      have hle : n / 128 * 2 ^ (7 * (i + 1)) ≤ n * 2 ^ (7 * i) := by
        rw [hp, ← Nat.mul_assoc]
        exact Nat.mul_le_mul_right _ (Nat.div_mul_le_self n 128)
      rw [putL_hi n h]
      simp only [List.cons_append, dec]
      rw [if_neg (by omega), if_neg (by omega), ih (n / 128) (i + 1) (by omega) (by omega)]
      simp only [List.length_cons]
      have e : (n % 128 + 128 - 128) * 2 ^ (7 * i) + n / 128 * 2 ^ (7 * (i + 1)) = n * 2 ^ (7 * i) := by
        rw [hp, show n % 128 + 128 - 128 = n % 128 by omega, ← Nat.mul_assoc, ← Nat.add_mul, show n % 128 + n / 128 * 128 = n by omega]
      rw [e]
theorem dec_put (n : Nat) (h : n < 18446744073709551616) (rest : List Nat) : dec 0 (putL n ++ rest) = .inr (n, (putL n).length) := by
  have := dec_putL rest 9 n 0 rfl (by simpa using h)
  simpa using this
/-- What is read: its bounds. -/
theorem dec_some : ∀ (l : List Nat) (i v k : Nat), okB l → i ≤ 9 → dec i l = .inr (v, k) → 1 ≤ k ∧ k ≤ l.length ∧ i + k ≤ 10 ∧ v % 2 ^ (7 * i) = 0 ∧ v < 18446744073709551616 := by
  intro l
  induction l with
  | nil => intro i v k _ _ h; simp [dec] at h
  | cons c r ih =>
    intro i v k hok hi h
    simp only [dec] at h
    split at h
    · simp at h
    · rename_i h9
      have hpow : 2 ^ (7 * i) * 2 ^ (64 - 7 * i) = 18446744073709551616 := by
        rw [← Nat.pow_add, show 7 * i + (64 - 7 * i) = 64 by omega]
      split at h
      · rename_i hc
        simp only [Sum.inr.injEq, Prod.mk.injEq] at h
        obtain ⟨rfl, rfl⟩ := h
        refine ⟨by omega, by simp, by omega, Nat.mul_mod_left _ _, ?_⟩
        have : c < 2 ^ (64 - 7 * i) := by
          by_cases e : i = 9
          · subst e; simp; omega
          · calc c < 2 ^ 7 := hc
              _ ≤ _ := Nat.pow_le_pow_right (by omega) (by omega)
        rw [← hpow, Nat.mul_comm]
        exact Nat.mul_lt_mul_of_pos_left this (Nat.two_pow_pos _)
      · rename_i hc
        have hi8 : i ≤ 8 := by omega
        have hokr : okB r := fun x hx => hok x (List.mem_cons_of_mem _ hx)
        have hc256 := hok c List.mem_cons_self
        cases e : dec (i + 1) r with
        | inl x => rw [e] at h; simp at h
        | inr x =>
          obtain ⟨v', k'⟩ := x
          rw [e] at h
          simp only [Sum.inr.injEq, Prod.mk.injEq] at h
          obtain ⟨rfl, rfl⟩ := h
          obtain ⟨h1, h2, h3, h4, h5⟩ := ih (i + 1) v' k' hokr (by omega) e
          have hp : 2 ^ (7 * (i + 1)) = 128 * 2 ^ (7 * i) := by rw [show 7 * (i + 1) = 7 * i + 7 by omega, Nat.pow_add]; omega
          have hpow' : 2 ^ (7 * (i + 1)) * 2 ^ (64 - 7 * (i + 1)) = 18446744073709551616 := by
            rw [← Nat.pow_add, show 7 * (i + 1) + (64 - 7 * (i + 1)) = 64 by omega]
          refine ⟨by omega, by simp; omega, by omega, ?_, ?_⟩
          · rw [Nat.mul_add_mod_self_right]
            have : v' = 2 ^ (7 * (i + 1)) * (v' / 2 ^ (7 * (i + 1))) := by have := Nat.div_add_mod v' (2 ^ (7 * (i + 1))); omega
            rw [this, hp, Nat.mul_assoc, Nat.mul_comm 128, Nat.mul_assoc]
            exact Nat.mul_mod_right _ _
          · have hq : v' = 2 ^ (7 * (i + 1)) * (v' / 2 ^ (7 * (i + 1))) := by have := Nat.div_add_mod v' (2 ^ (7 * (i + 1))); omega
            have hlt : v' / 2 ^ (7 * (i + 1)) < 2 ^ (64 - 7 * (i + 1)) := by
              rw [Nat.div_lt_iff_lt_mul (Nat.two_pow_pos _), Nat.mul_comm, hpow']; exact h5
            have hb : (c - 128) * 2 ^ (7 * i) < 2 ^ (7 * (i + 1)) := by
              rw [hp]; exact Nat.mul_lt_mul_of_pos_right (by omega) (Nat.two_pow_pos _)
            calc (c - 128) * 2 ^ (7 * i) + v' < 2 ^ (7 * (i + 1)) + 2 ^ (7 * (i + 1)) * (v' / 2 ^ (7 * (i + 1))) := by omega
              _ = 2 ^ (7 * (i + 1)) * (v' / 2 ^ (7 * (i + 1)) + 1) := by generalize 2 ^ (7 * (i + 1)) = z; rw [Nat.mul_add, Nat.mul_one, Nat.add_comm]
              _ ≤ 2 ^ (7 * (i + 1)) * 2 ^ (64 - 7 * (i + 1)) := Nat.mul_le_mul_left _ hlt
              _ = _ := hpow'
/-! ### numbers one behind the other -/
def putsL (l : List Int) : List Nat := l.flatMap fun n => putL n.toNat
theorem putsL_nil : putsL [] = [] := rfl
theorem putsL_cons (n : Int) (l : List Int) : putsL (n :: l) = putL n.toNat ++ putsL l := rfl
theorem putsL_append (a b : List Int) : putsL (a ++ b) = putsL a ++ putsL b := by unfold putsL; rw [List.flatMap_append]
theorem putsL_snoc (l : List Int) (k : Nat) (h : k < l.length) : putsL (l.take (k + 1)) = putsL (l.take k) ++ putL (l[k]).toNat := by
  rw [List.take_succ_eq_append_getElem h, putsL_append]
  simp [putsL]
theorem putsL_drop (l : List Int) (k : Nat) (h : k < l.length) : (putsL l).drop (putsL (l.take k)).length = putL (l[k]).toNat ++ putsL (l.drop (k + 1)) := by
  conv => lhs; rw [← List.take_append_drop k l, putsL_append, List.take_append_drop]
  rw [List.drop_left, List.drop_eq_getElem_cons h, putsL_cons]
theorem putsL_ok (l : List Int) : okB (putsL l) := by
  intro x hx
  obtain ⟨n, _, hn⟩ := List.mem_flatMap.1 hx
  exact putL_ok _ x hn
def u64s (l : List Int) : Prop := ∀ x ∈ l, 0 ≤ x ∧ x < 18446744073709551616
theorem putsL_len (l : List Int) (h : u64s l) : (putsL l).length ≤ 10 * l.length := by
  induction l with
  | nil => simp [putsL]
  | cons n l ih =>
    have h1 := ih (fun x hx => h x (List.mem_cons_of_mem _ hx))
    have h2 := putL_len10 n.toNat (by have := h n List.mem_cons_self; omega)
    rw [putsL_cons, List.length_append, List.length_cons]; omega
theorem u64s_take {l : List Int} (h : u64s l) (k : Nat) : u64s (l.take k) := fun x hx => h x (List.mem_of_mem_take hx)
theorem putsL_take_le (l : List Int) (k : Nat) : (putsL (l.take k)).length ≤ (putsL l).length := by
  conv => rhs; rw [← List.take_append_drop k l, putsL_append]
  simp
end Go.Proofs.YtnghlkbmfhkmoaaGreatDoor.Hy
namespace Go.Proofs.YtnghlkbmfhkmoaaGreatDoor
open Go.RowKit Go.Proofs.YtnghlkbmfhkmoaaGreatDoorW.PrintWords Hy

theorem below_next {w w1 w2 : World} (h : Below w.heap.size w w1) (h' : Below w1.heap.size w1 w2) : Below w.heap.size w w2 := h.trans (h'.mono h.size)
theorem bt_bs (s : ByteArray) (i : Nat) (h : i < s.size) : ∃ c r, (bs s).drop i = c :: r ∧ bt s (i : Int) = (c : Int) ∧ c < 256 ∧ (bs s).drop (i + 1) = r := by
  have hl : i < (bs s).length := by rw [bs_length]; exact h
  refine ⟨(bs s)[i], (bs s).drop (i + 1), List.drop_eq_getElem_cons hl, ?_, bs_ok s _ (List.getElem_mem hl), rfl⟩
  unfold bt
  rw [dif_pos (by simpa using h)]
  simp [bs]
  rfl
end Go.Proofs.YtnghlkbmfhkmoaaGreatDoor
namespace Go.Proofs.YtnghlkbmfhkmoaaGreatDoor
open Go.RowKit Go.Proofs.YtnghlkbmfhkmoaaGreatDoorW.PrintWords

/-- All blocks that were there are as they were, but for those of M. -/
structure Kp (M : Nat → Prop) (w w' : World) : Prop where
  os : w'.os = w.os
  tape : w'.tape = w.tape
  output : w'.output = w.output
  size : w.heap.size ≤ w'.heap.size
  block : ∀ k, k < w.heap.size → ¬ M k → w'.heap[k]? = w.heap[k]?
variable {M M' : Nat → Prop} {w w1 w2 : World}
theorem Kp.refl (M : Nat → Prop) (w : World) : Kp M w w := ⟨rfl, rfl, rfl, Nat.le_refl _, fun _ _ _ => rfl⟩
theorem Kp.trans (h : Kp M w w1) (k : Kp M w1 w2) : Kp M w w2 :=
  ⟨k.os.trans h.os, k.tape.trans h.tape, k.output.trans h.output, Nat.le_trans h.size k.size, fun i hi hm => (k.block i (Nat.lt_of_lt_of_le hi h.size) hm).trans (h.block i hi hm)⟩
theorem Kp.mono (h : Kp M w w1) (hm : ∀ k, M k → M' k) : Kp M' w w1 := ⟨h.os, h.tape, h.output, h.size, fun k hk hn => h.block k hk (fun x => hn (hm k x))⟩
theorem Kp.drewN (h : Kp M w w1) (m : Nat) : Kp M w (w1.drewN m) := ⟨h.os, h.tape, h.output, h.size, h.block⟩
theorem Kp.drew (h : Kp M w w1) : Kp M w w1.drew := ⟨h.os, h.tape, h.output, h.size, h.block⟩
theorem Kp.ofBelow (h : Below w.heap.size w w1) : Kp M w w1 := ⟨h.os, h.tape, h.output, h.size, fun k hk _ => h.block k hk⟩
theorem Kp.toBelow {B : Nat} (h : Kp M w w1) (hB : B ≤ w.heap.size) (hM : ∀ k, M k → B ≤ k) : Below B w w1 :=
  ⟨h.os, h.tape, h.output, h.size, fun k hk => h.block k (Nat.lt_of_lt_of_le hk hB) (fun x => by have := hM k x; omega)⟩
/-- What came behind the call's beginning may have been written to. -/
theorem Kp.below {w0 : World} (h0 : Below w0.heap.size w0 w) (h : Kp M w w1) (hM : ∀ k, M k → w0.heap.size ≤ k) : Below w0.heap.size w0 w1 := h0.trans (h.toBelow h0.size hM)
theorem Kp.next (h : Kp M w w1) (k : Below w1.heap.size w1 w2) : Kp M w w2 := h.trans (Kp.ofBelow k)
theorem Kp.alloc (h : Kp M w w1) (o : Obj) : Kp M w (w1.alloc o) := h.next ((Below.refl _ _).alloc (Nat.le_refl _) o)
theorem Kp.set (h : Kp M w w1) {p : Addr} (hp : M p.block) (u : Value) : Kp M w (w1.setCell p u) :=
  ⟨h.os, h.tape, h.output, by simpa using h.size, fun k hk hn => (Below.heap_setCell w1 p u k (fun e => hn (e ▸ hp))).trans (h.block k hk hn)⟩
theorem Kp.obj {g : Nat} {o : Obj} (h : Kp M w w1) (hb : w.heap[g]? = some o) (hn : ¬ M g) : w1.heap[g]? = some o := (h.block g (blk_lt hb) hn).trans hb
theorem Kp.row {α : Type} {d : Kd α} {e base : Nat} {ok : Nat → Prop} {v : Value} {xs : List α} (h : Kp M w w1) (hr : d.R e w base ok v xs) (hok : ∀ k, ok k → ¬ M k) : d.R e w1 base ok v xs := Kd.R_step hr (fun k ho hk => h.block k hk (hok k ho))
theorem Kp.own {base : Nat} {e : TypeId} {size n : Nat} {v : Value} {xs : List Value} (h : Kp M w w1) (ho : w.ownsRow base e size v n xs) (hn : ∀ k, v.ownBlock = some k → ¬ M k) : w1.ownsRow base e size v n xs :=
  own_move ho (fun k hk => h.block k (own_lt ho k hk) (hn k hk))
end Go.Proofs.YtnghlkbmfhkmoaaGreatDoor
namespace Go.Proofs.YtnghlkbmfhkmoaaGreatDoor.Hy

/-! ### records: what stands ahead, what behind -/
theorem dec_pos : ∀ (l : List Nat) (i v k : Nat), dec i l = .inr (v, k) → 1 ≤ k ∧ k ≤ l.length := by
  intro l
  induction l with
  | nil => intro i v k h; rw [dec_nil] at h; cases h
  | cons c r ih =>
    intro i v k h
    by_cases h9 : i = 9 ∧ 1 < c
    · obtain ⟨rfl, hx⟩ := h9
      rw [dec_big c r hx] at h; cases h
    · by_cases hc : c < 128
      · rw [dec_end i c r h9 hc] at h
        simp only [Sum.inr.injEq, Prod.mk.injEq] at h
        obtain ⟨_, rfl⟩ := h
        simp
      · rw [dec_on i c r h9 hc] at h
        cases hd : dec (i + 1) r with
        | inl y => rw [hd] at h; cases h
        | inr y =>
          obtain ⟨v', k'⟩ := y
          rw [hd] at h
          simp only [Sum.inr.injEq, Prod.mk.injEq] at h
          obtain ⟨_, rfl⟩ := h
          have := ih _ _ _ hd
          simp; omega
/-- A tag: its number, its type, how many bytes. -/
def tagL (b : List Nat) : Option (Nat × Nat × Nat) := match dec 0 b with
  | .inl _ => none
  | .inr (v, k) => if 1 ≤ v / 8 ∧ v / 8 < 536870912 then some (v / 8, v % 8, k) else none
theorem tagL_pos {b : List Nat} {n t k : Nat} (h : tagL b = some (n, t, k)) : 1 ≤ k ∧ k ≤ b.length ∧ 1 ≤ n ∧ n < 536870912 ∧ t < 8 := by
  unfold tagL at h
  cases hd : dec 0 b with
  | inl c => rw [hd] at h; cases h
  | inr x =>
    obtain ⟨v, k'⟩ := x
    rw [hd] at h
    simp only at h
    by_cases hv : 1 ≤ v / 8 ∧ v / 8 < 536870912
    · rw [if_pos hv] at h
      simp only [Option.some.injEq, Prod.mk.injEq] at h
      obtain ⟨rfl, rfl, rfl⟩ := h
      have := dec_pos _ _ _ _ hd
      omega
    · rw [if_neg hv] at h; cases h
/-- What stands behind a tag: how many bytes; g: a group's content. -/
def restG (g : Nat → Nat → List Nat → Option Nat) (d n t : Nat) (b : List Nat) : Option Nat :=
  if t = 0 then (match dec 0 b with | .inl _ => none | .inr (_, k) => some k)
  else if t = 1 then (if 8 ≤ b.length then some 8 else none)
  else if t = 5 then (if 4 ≤ b.length then some 4 else none)
  else if t = 2 then (match dec 0 b with | .inl _ => none | .inr (v, k) => if v ≤ b.length - k then some (k + v) else none)
  else if t = 3 then (if d = 0 then none else g (d - 1) n b)
  else none
/-- A group's content, up to its end's tag: d: groups that may be within; n: its number. -/
def grpL : Nat → Nat → Nat → List Nat → Option Nat
  | 0, _, _, _ => none
  | f + 1, d, n, b => match tagL b with
    | none => none
    | some (m, t, k1) => if t = 4 then (if m = n then some k1 else none) else
      match restG (grpL f) d m t (b.drop k1) with
      | none => none
      | some k2 => match grpL f d n (b.drop (k1 + k2)) with
        | none => none
        | some k3 => some (k1 + k2 + k3)
def restL (f : Nat) := restG (grpL f)
theorem restG_le {g : Nat → Nat → List Nat → Option Nat} {d n t k : Nat} {b : List Nat} (hg : ∀ d n k, g d n b = some k → k ≤ b.length) (h : restG g d n t b = some k) : k ≤ b.length := by
  unfold restG at h
  by_cases h0 : t = 0
  · rw [if_pos h0] at h
    cases hd : dec 0 b with
    | inl c => rw [hd] at h; cases h
    | inr x => obtain ⟨v, k'⟩ := x; rw [hd] at h; simp only [Option.some.injEq] at h; subst h; exact (dec_pos _ _ _ _ hd).2
  · rw [if_neg h0] at h
    by_cases h1 : t = 1
    · rw [if_pos h1] at h
      by_cases h8 : 8 ≤ b.length
      · rw [if_pos h8] at h; cases h; exact h8
      · rw [if_neg h8] at h; cases h
    · rw [if_neg h1] at h
      by_cases h5 : t = 5
      · rw [if_pos h5] at h
        by_cases h8 : 4 ≤ b.length
        · rw [if_pos h8] at h; cases h; exact h8
        · rw [if_neg h8] at h; cases h
      · rw [if_neg h5] at h
        by_cases h2 : t = 2
        · rw [if_pos h2] at h
          cases hd : dec 0 b with
          | inl c => rw [hd] at h; cases h
          | inr x =>
            obtain ⟨v, k'⟩ := x
            rw [hd] at h
            have := (dec_pos _ _ _ _ hd).2
            simp only at h
            by_cases hv : v ≤ b.length - k'
            · rw [if_pos hv] at h; cases h; omega
            · rw [if_neg hv] at h; cases h
        · rw [if_neg h2] at h
          by_cases h3 : t = 3
          · rw [if_pos h3] at h
            by_cases hd : d = 0
            · rw [if_pos hd] at h; cases h
            · rw [if_neg hd] at h; exact hg _ _ _ h
          · rw [if_neg h3] at h; cases h
theorem grpL_le : ∀ (f d n : Nat) (b : List Nat) (k : Nat), grpL f d n b = some k → 1 ≤ k ∧ k ≤ b.length := by
  intro f
  induction f with
  | zero => intro d n b k h; cases h
  | succ f ih =>
    intro d n b k h
    simp only [grpL] at h
    cases ht : tagL b with
    | none => rw [ht] at h; cases h
    | some x =>
      obtain ⟨m, t, k1⟩ := x
      obtain ⟨p1, p2, _⟩ := tagL_pos ht
      rw [ht] at h
      simp only at h
      by_cases h4 : t = 4
      · rw [if_pos h4] at h
        by_cases hm : m = n
        · rw [if_pos hm] at h; cases h; omega
        · rw [if_neg hm] at h; cases h
      · rw [if_neg h4] at h
        cases hr : restG (grpL f) d m t (b.drop k1) with
        | none => rw [hr] at h; cases h
        | some k2 =>
          rw [hr] at h
          simp only at h
          have q := restG_le (fun d n k e => (ih d n _ k e).2) hr
          rw [List.length_drop] at q
          cases hg : grpL f d n (b.drop (k1 + k2)) with
          | none => rw [hg] at h; cases h
          | some k3 =>
            rw [hg] at h
            simp only [Option.some.injEq] at h
            have := (ih _ _ _ _ hg).2
            rw [List.length_drop] at this
            omega
theorem restL_le {f d n t k : Nat} {b : List Nat} (h : restL f d n t b = some k) : k ≤ b.length := restG_le (fun d n k e => (grpL_le f d n b k e).2) h
theorem restG_congr {g g' : Nat → Nat → List Nat → Option Nat} {d n t : Nat} {b : List Nat} (h : ∀ d n, g d n b = g' d n b) : restG g d n t b = restG g' d n t b := by
  unfold restG; simp only [h]
/-- Fuel beyond the bytes tells no more. -/
theorem grpL_fuel : ∀ (f f' d n : Nat) (b : List Nat), b.length < f → b.length < f' → grpL f d n b = grpL f' d n b := by
  intro f
  induction f with
  | zero => intro f' d n b h _; omega
  | succ f ih =>
    intro f' d n b h h'
    obtain ⟨f', rfl⟩ : ∃ m, f' = m + 1 := ⟨f' - 1, by omega⟩
    simp only [grpL]
    cases ht : tagL b with
    | none => rfl
    | some x =>
      obtain ⟨m, t, k1⟩ := x
      obtain ⟨p1, p2, _⟩ := tagL_pos ht
      have e1 : restG (grpL f) d m t (b.drop k1) = restG (grpL f') d m t (b.drop k1) := restG_congr (fun d n => ih f' d n _ (by rw [List.length_drop]; omega) (by rw [List.length_drop]; omega))
      simp only [e1]
      by_cases h4 : t = 4
      · rw [if_pos h4, if_pos h4]
      · rw [if_neg h4, if_neg h4]
        cases hr : restG (grpL f') d m t (b.drop k1) with
        | none => rfl
        | some k2 =>
          simp only
          rw [ih f' d n (b.drop (k1 + k2)) (by rw [List.length_drop]; omega) (by rw [List.length_drop]; omega)]
theorem restL_fuel (f f' d n t : Nat) (b : List Nat) (h : b.length < f) (h' : b.length < f') : restL f d n t b = restL f' d n t b := restG_congr (fun d n => grpL_fuel f f' d n b h h')

/-! ### a record's value -/
def little : List Nat → Nat
  | [] => 0
  | c :: r => c + 256 * little r
def numV (t : Nat) (b : List Nat) : Nat :=
  if t = 0 then (match dec 0 b with | .inl _ => 0 | .inr (v, _) => v) else if t = 1 then little (b.take 8) else if t = 5 then little (b.take 4) else 0
def strV (t : Nat) (b : List Nat) : List Nat :=
  if t = 2 then (match dec 0 b with | .inl _ => [] | .inr (v, k) => (b.drop k).take v) else []
structure RecL where
  num : Nat
  type : Nat
  n : Nat
  s : List Nat
  raw : List Nat
/-- A record: what it tells, how many bytes. -/
def recL (d : Nat) (b : List Nat) : Option (RecL × Nat) := match tagL b with
  | none => none
  | some (m, t, k1) => match restL (b.length + 1) d m t (b.drop k1) with
    | none => none
    | some k2 => some (⟨m, t, numV t (b.drop k1), strV t (b.drop k1), b.take (k1 + k2)⟩, k1 + k2)
theorem recL_le {d k : Nat} {b : List Nat} {r : RecL} (h : recL d b = some (r, k)) : 1 ≤ k ∧ k ≤ b.length ∧ r.raw = b.take k ∧ r.raw.length = k := by
  unfold recL at h
  cases ht : tagL b with
  | none => rw [ht] at h; cases h
  | some x =>
    obtain ⟨m, t, k1⟩ := x
    obtain ⟨p1, p2, _⟩ := tagL_pos ht
    rw [ht] at h
    simp only at h
    cases hr : restL (b.length + 1) d m t (b.drop k1) with
    | none => rw [hr] at h; cases h
    | some k2 =>
      rw [hr] at h
      have q := restL_le hr
      rw [List.length_drop] at q
      simp only [Option.some.injEq, Prod.mk.injEq] at h
      obtain ⟨rfl, rfl⟩ := h
      exact ⟨by omega, by omega, rfl, by rw [List.length_take]; omega⟩
/-- Records one behind the other. -/
def allL : Nat → Nat → List Nat → Option (List RecL)
  | 0, _, _ => none
  | f + 1, d, b => if b = [] then some [] else match recL d b with
    | none => none
    | some (r, k) => match allL f d (b.drop k) with
      | none => none
      | some l => some (r :: l)
theorem allL_fuel : ∀ (f f' d : Nat) (b : List Nat), b.length < f → b.length < f' → allL f d b = allL f' d b := by
  intro f
  induction f with
  | zero => intro f' d b h _; omega
  | succ f ih =>
    intro f' d b h h'
    obtain ⟨f', rfl⟩ : ∃ m, f' = m + 1 := ⟨f' - 1, by omega⟩
    simp only [allL]
    by_cases hb : b = []
    · rw [if_pos hb, if_pos hb]
    · rw [if_neg hb, if_neg hb]
      cases hr : recL d b with
      | none => rfl
      | some x =>
        obtain ⟨r, k⟩ := x
        have := recL_le hr
        simp only
        rw [ih f' d (b.drop k) (by rw [List.length_drop]; omega) (by rw [List.length_drop]; omega)]
def recsL (d : Nat) (b : List Nat) : Option (List RecL) := allL (b.length + 1) d b
theorem recsL_nil (d : Nat) : recsL d [] = some [] := rfl
theorem recsL_step (d : Nat) (b : List Nat) (hb : b ≠ []) : recsL d b = match recL d b with
    | none => none
    | some (r, k) => match recsL d (b.drop k) with
      | none => none
      | some l => some (r :: l) := by
  unfold recsL
  rw [show allL (b.length + 1) d b = (if b = [] then some [] else match recL d b with
    | none => none
    | some (r, k) => match allL b.length d (b.drop k) with
      | none => none
      | some l => some (r :: l)) from rfl, if_neg hb]
  cases hr : recL d b with
  | none => rfl
  | some x =>
    obtain ⟨r, k⟩ := x
    have := recL_le hr
    simp only
    rw [allL_fuel b.length ((b.drop k).length + 1) d (b.drop k) (by rw [List.length_drop]; omega) (by omega)]

/-! ### the same, its fuel out of sight -/
def grp (d n : Nat) (b : List Nat) : Option Nat := grpL (b.length + 1) d n b
def rst (d n t : Nat) (b : List Nat) : Option Nat := restG grp d n t b
theorem rst_eq (f d n t : Nat) (b : List Nat) (hf : b.length < f) : restL f d n t b = rst d n t b := restG_congr (fun d n => grpL_fuel f (b.length + 1) d n b hf (by omega))
theorem grp_le {d n k : Nat} {b : List Nat} (h : grp d n b = some k) : 1 ≤ k ∧ k ≤ b.length := grpL_le _ _ _ _ _ h
theorem rst_le {d n t k : Nat} {b : List Nat} (h : rst d n t b = some k) : k ≤ b.length := restG_le (fun _ _ _ e => (grp_le e).2) h
theorem grp_none {d n : Nat} {b : List Nat} (h : tagL b = none) : grp d n b = none := by unfold grp; simp only [grpL, h]
theorem grp_end {d n m k : Nat} {b : List Nat} (h : tagL b = some (m, 4, k)) : grp d n b = if m = n then some k else none := by
  unfold grp; simp only [grpL, h, if_true]
theorem grp_fall {d n m t k : Nat} {b : List Nat} (h : tagL b = some (m, t, k)) (ht : t ≠ 4) (hr : rst d m t (b.drop k) = none) : grp d n b = none := by
  have p := tagL_pos h
  unfold grp; simp only [grpL, h, if_neg ht]
  have := rst_eq b.length d m t (b.drop k) (by rw [List.length_drop]; omega)
  unfold restL at this
  rw [this, hr]
theorem grp_on {d n m t k k2 : Nat} {b : List Nat} (h : tagL b = some (m, t, k)) (ht : t ≠ 4) (hr : rst d m t (b.drop k) = some k2) : grp d n b = (grp d n (b.drop (k + k2))).map (k + k2 + ·) := by
  have p := tagL_pos h
  unfold grp
  rw [show grpL (b.length + 1) d n b = _ from rfl]
  simp only [grpL, h, if_neg ht]
  have := rst_eq b.length d m t (b.drop k) (by rw [List.length_drop]; omega)
  unfold restL at this
  rw [this, hr]
  simp only
  have e := grpL_fuel b.length ((b.drop (k + k2)).length + 1) d n (b.drop (k + k2)) (by rw [List.length_drop]; omega) (by omega)
  unfold grp at *
  rw [e]
  simp only [grpL]
  cases hx : grpL ((b.drop (k + k2)).length + 1) d n (b.drop (k + k2)) with
  | none => simp only [grpL] at hx; rw [hx]; rfl
  | some x => simp only [grpL] at hx; rw [hx]; rfl
theorem rst_0 {d n : Nat} {b : List Nat} : rst d n 0 b = (match dec 0 b with | .inl _ => none | .inr (_, k) => some k) := rfl
theorem rst_1 {d n : Nat} {b : List Nat} : rst d n 1 b = if 8 ≤ b.length then some 8 else none := rfl
theorem rst_5 {d n : Nat} {b : List Nat} : rst d n 5 b = if 4 ≤ b.length then some 4 else none := rfl
theorem rst_2 {d n : Nat} {b : List Nat} : rst d n 2 b = (match dec 0 b with | .inl _ => none | .inr (v, k) => if v ≤ b.length - k then some (k + v) else none) := rfl
theorem rst_3 {d n : Nat} {b : List Nat} : rst d n 3 b = if d = 0 then none else grp (d - 1) n b := rfl
theorem rst_other {d n t : Nat} {b : List Nat} (h0 : t ≠ 0) (h1 : t ≠ 1) (h2 : t ≠ 2) (h3 : t ≠ 3) (h5 : t ≠ 5) : rst d n t b = none := by
  unfold rst restG; rw [if_neg h0, if_neg h1, if_neg h5, if_neg h2, if_neg h3]
theorem rec_none {d : Nat} {b : List Nat} (h : tagL b = none) : recL d b = none := by unfold recL; rw [h]
theorem rec_rst {d m t k : Nat} {b : List Nat} (h : tagL b = some (m, t, k)) : recL d b = (rst d m t (b.drop k)).map (fun k2 => (⟨m, t, numV t (b.drop k), strV t (b.drop k), b.take (k + k2)⟩, k + k2)) := by
  have p := tagL_pos h
  unfold recL; rw [h]
  simp only
  rw [rst_eq (b.length + 1) d m t (b.drop k) (by rw [List.length_drop]; omega)]
  cases rst d m t (b.drop k) <;> rfl
theorem dec_code : ∀ (l : List Nat) (i c : Nat), dec i l = .inl c → c = 1 ∨ c = 4 := by
  intro l
  induction l with
  | nil => intro i c h; rw [dec_nil] at h; injection h with h; exact .inl h.symm
  | cons x r ih =>
    intro i c h
    by_cases h9 : i = 9 ∧ 1 < x
    · obtain ⟨rfl, hx⟩ := h9
      rw [dec_big x r hx] at h; injection h with h; exact .inr h.symm
    · by_cases hx : x < 128
      · rw [dec_end i x r h9 hx] at h; cases h
      · rw [dec_on i x r h9 hx] at h
        cases hd : dec (i + 1) r with
        | inl y => rw [hd] at h; injection h with h; subst h; exact ih _ _ hd
        | inr y => rw [hd] at h; cases h
end Go.Proofs.YtnghlkbmfhkmoaaGreatDoor.Hy
