import Derived.Laws.BitsLemmas
import Derived.RowKit
import Derived.Laws.BytesArg
import Derived.Test.YtodhnmflabehhaaDoorWWords
import Derived.Below
import Derived.WalkKit
import Derived.Test.YtodhnmflabehhaaDoorProg
import Derived.WideLaws
import Derived.LaidEql
import Derived.Deep.QuietTactic
import Derived.BigQuiet
import Derived.OwnWalk
import Derived.LoopTactic
import Derived.Test.YtodhnmflabehhaaDoorPXorGetsx
namespace Go.Proofs.YtodhnmflabehhaaDoor.Hy
open Go.RowKit

/-! ### bits -/
theorem wrap_u64 (n : Int) : IntKind.u64.wrap n = n % 18446744073709551616 := by simp [IntKind.wrap, IntKind.bits, IntKind.signed]
theorem bits_xor_nat (k : IntKind) (a b : Nat) (ha : a < 2 ^ k.bits) (hb : b < 2 ^ k.bits) : Go.bits .xor k a b = k.wrap ((a ^^^ b : Nat) : Int) := by
  simp only [Go.bits, BitVec.ofInt_natCast, BitVec.toNat_xor, BitVec.toNat_ofNat, Nat.mod_eq_of_lt ha, Nat.mod_eq_of_lt hb]
theorem bits_xor_0 (k : IntKind) (x : Int) : Go.bits .xor k x 0 = k.wrap (BitVec.ofInt k.bits x).toNat := by
  have h : BitVec.ofInt k.bits 0 = 0#k.bits := by apply BitVec.eq_of_toInt_eq; simp
  simp only [Go.bits, h, BitVec.xor_zero]
theorem bits_xor_m (k : IntKind) (x y : Int) (h : BitVec.ofInt k.bits y = BitVec.allOnes k.bits) : Go.bits .xor k x y = k.wrap (2 ^ k.bits - 1 - (BitVec.ofInt k.bits x).toNat : Nat) := by
  simp only [Go.bits, h, BitVec.xor_allOnes, BitVec.toNat_not]
theorem ofInt_u64 (x : Int) : ((BitVec.ofInt IntKind.u64.bits x).toNat : Int) = x % 18446744073709551616 := by
  rw [BitVec.toNat_ofInt]; simp [IntKind.bits]; omega
theorem ofInt_i64 (x : Int) : ((BitVec.ofInt IntKind.i64.bits x).toNat : Int) = x % 18446744073709551616 := by
  rw [BitVec.toNat_ofInt]; simp [IntKind.bits]; omega
theorem ofInt_u32 (x : Int) : ((BitVec.ofInt IntKind.u32.bits x).toNat : Int) = x % 4294967296 := by
  rw [BitVec.toNat_ofInt]; simp [IntKind.bits]; omega
theorem ofInt_i32 (x : Int) : ((BitVec.ofInt IntKind.i32.bits x).toNat : Int) = x % 4294967296 := by
  rw [BitVec.toNat_ofInt]; simp [IntKind.bits]; omega
theorem xor_u64_0 (x : Int) (h0 : 0 ≤ x) (h1 : x < 18446744073709551616) : Go.bits .xor .u64 x 0 = x := by
  rw [bits_xor_0, ofInt_u64, wrap_u64]; omega
theorem xor_u64_m (x : Int) (h0 : 0 ≤ x) (h1 : x < 18446744073709551616) : Go.bits .xor .u64 x 18446744073709551615 = 18446744073709551615 - x := by
  rw [bits_xor_m .u64 x _ (by decide +kernel), wrap_u64]
  have := ofInt_u64 x
  simp only [show IntKind.u64.bits = 64 from rfl] at this ⊢
  omega
theorem xor_i64_0 (x : Int) (h0 : -9223372036854775808 ≤ x) (h1 : x < 9223372036854775808) : Go.bits .xor .i64 x 0 = x := by
  rw [bits_xor_0, ofInt_i64, IntKind.wrap_i64]; omega
theorem xor_i64_m (x : Int) (h0 : -9223372036854775808 ≤ x) (h1 : x < 9223372036854775808) : Go.bits .xor .i64 x (-1) = -x - 1 := by
  rw [bits_xor_m .i64 x _ (by decide +kernel), IntKind.wrap_i64]
  have := ofInt_i64 x
  simp only [show IntKind.i64.bits = 64 from rfl] at this ⊢
  omega
theorem xor_u32_0 (x : Int) (h0 : 0 ≤ x) (h1 : x < 4294967296) : Go.bits .xor .u32 x 0 = x := by
  rw [bits_xor_0, ofInt_u32, IntKind.wrap_u32]; omega
theorem xor_u32_m (x : Int) (h0 : 0 ≤ x) (h1 : x < 4294967296) : Go.bits .xor .u32 x 4294967295 = 4294967295 - x := by
  rw [bits_xor_m .u32 x _ (by decide +kernel), IntKind.wrap_u32]
  have := ofInt_u32 x
  simp only [show IntKind.u32.bits = 32 from rfl] at this ⊢
  omega
theorem xor_i32_0 (x : Int) (h0 : -2147483648 ≤ x) (h1 : x < 2147483648) : Go.bits .xor .i32 x 0 = x := by
  rw [bits_xor_0, ofInt_i32, IntKind.wrap_i32]; omega
theorem xor_i32_m (x : Int) (h0 : -2147483648 ≤ x) (h1 : x < 2147483648) : Go.bits .xor .i32 x (-1) = -x - 1 := by
  rw [bits_xor_m .i32 x _ (by decide +kernel), IntKind.wrap_i32]
  have := ofInt_i32 x
  simp only [show IntKind.i32.bits = 32 from rfl] at this ⊢
  omega
theorem and_u64_1 (x : Int) (h0 : 0 ≤ x) (h1 : x < 18446744073709551616) : Go.bits .and .u64 x 1 = x % 2 :=
  bits_mask .u64 64 (by decide) (fun n a b => by rw [wrap_u64]; omega) 1 (by decide) x h0 (by simpa using h1)
theorem and_u64_127 (x : Int) (h0 : 0 ≤ x) (h1 : x < 18446744073709551616) : Go.bits .and .u64 x 127 = x % 128 :=
  bits_mask .u64 64 (by decide) (fun n a b => by rw [wrap_u64]; omega) 7 (by decide) x h0 (by simpa using h1)
theorem and_u64_m32 (x : Int) (h0 : 0 ≤ x) (h1 : x < 18446744073709551616) : Go.bits .and .u64 x 4294967295 = x % 4294967296 :=
  bits_mask .u64 64 (by decide) (fun n a b => by rw [wrap_u64]; omega) 32 (by decide) x h0 (by simpa using h1)
theorem or_nat (k : IntKind) (j : Nat) (hj : j ≤ k.bits) (hk : ∀ n : Int, 0 ≤ n → n < 2 ^ j → k.wrap n = n) (a b : Nat) (ha : a < 2 ^ j) (hb : b < 2 ^ j) : Go.bits .or k a b = ((a ||| b : Nat) : Int) := (bits_nat k j hj hk a b ha hb).2
theorem or_u8_128 (x : Int) (h0 : 0 ≤ x) (h1 : x < 256) : Go.bits .or .u8 x 128 = x % 128 + 128 := by
  obtain ⟨n, rfl⟩ := Int.eq_ofNat_of_zero_le h0
  rw [show (128 : Int) = ((128 : Nat) : Int) from rfl, or_nat .u8 8 (by decide) wraps_u8 n 128 (by omega) (by decide)]
  have hn : n < 256 := by omega
  have : n ||| 128 = n % 128 + 128 := by
    have h : ∀ m : Fin 256, m.val ||| 128 = m.val % 128 + 128 := by decide +kernel
    exact h ⟨n, hn⟩
  rw [this]; simp
theorem or_u64_128 (x : Int) (h0 : 0 ≤ x) (h1 : x < 128) : Go.bits .or .u64 x 128 = x + 128 := by
  obtain ⟨n, rfl⟩ := Int.eq_ofNat_of_zero_le h0
  rw [show (128 : Int) = ((128 : Nat) : Int) from rfl, or_nat .u64 64 (by decide) (fun n a b => by rw [wrap_u64]; omega) n 128 (by omega) (by decide)]
  have hn : n < 128 := by omega
  have : n ||| 128 = n + 128 := by
    have h : ∀ m : Fin 128, m.val ||| 128 = m.val + 128 := by decide +kernel
    exact h ⟨n, hn⟩
  rw [this]; simp
theorem andNot_u8_128 (x : Int) (h0 : 0 ≤ x) (h1 : x < 256) : Go.bits .andNot .u8 x 128 = x % 128 := by
  obtain ⟨n, rfl⟩ := Int.eq_ofNat_of_zero_le h0
  have h : ∀ m : Fin 256, Go.bits .andNot .u8 ((m.val : Nat) : Int) 128 = ((m.val : Nat) : Int) % 128 := by decide +kernel
  exact h ⟨n, by omega⟩
/-- Or of what has no bit in common. -/
theorem or_join_u64 (x y : Int) (i : Nat) (hx0 : 0 ≤ x) (hx : x < 2 ^ i) (hy0 : 0 ≤ y) (hy : y % 2 ^ i = 0) (hx1 : x < 18446744073709551616) (hy1 : y < 18446744073709551616) : Go.bits .or .u64 x y = x + y := by
  obtain ⟨a, rfl⟩ := Int.eq_ofNat_of_zero_le hx0
  obtain ⟨b, rfl⟩ := Int.eq_ofNat_of_zero_le hy0
  have h := bits_join .u64 64 (by decide) (fun n a b => by rw [wrap_u64]; omega) i (b : Int) (a : Int) hy0 hy (by simpa using hy1) hx0 hx (by simpa using hx1)
  have e : Go.bits .or .u64 (a : Int) (b : Int) = Go.bits .or .u64 (b : Int) (a : Int) := by
    simp only [Go.bits, BitVec.or_comm]
  rw [e, h]; omega

/-! ### zigzag -/
def zig (m : Int) : Int := if m < 0 then -2 * m - 1 else 2 * m
def zag (n : Int) : Int := if n % 2 = 1 then -(n / 2) - 1 else n / 2
theorem zag_zig (m : Int) : zag (zig m) = m := by unfold zag zig; split <;> split <;> omega
theorem zig_zag (n : Int) (h : 0 ≤ n) : zig (zag n) = n := by unfold zag zig; split <;> split <;> omega
theorem zig_range (m : Int) (h0 : -9223372036854775808 ≤ m) (h1 : m < 9223372036854775808) : 0 ≤ zig m ∧ zig m < 18446744073709551616 := by unfold zig; split <;> omega
theorem zag_range (n : Int) (h0 : 0 ≤ n) (h1 : n < 18446744073709551616) : -9223372036854775808 ≤ zag n ∧ zag n < 9223372036854775808 := by unfold zag; split <;> omega
theorem zig_range32 (m : Int) (h0 : -2147483648 ≤ m) (h1 : m < 2147483648) : 0 ≤ zig m ∧ zig m < 4294967296 := by unfold zig; split <;> omega
theorem zag_range32 (n : Int) (h0 : 0 ≤ n) (h1 : n < 4294967296) : -2147483648 ≤ zag n ∧ zag n < 2147483648 := by unfold zag; split <;> omega

/-! ### bytes: strings as lists of numbers -/
def bs (s : ByteArray) : List Nat := s.data.toList.map UInt8.toNat
def st (l : List Nat) : ByteArray := ⟨(l.map UInt8.ofNat).toArray⟩
def okB (l : List Nat) : Prop := ∀ x ∈ l, x < 256
theorem bs_ok (s : ByteArray) : okB (bs s) := by
  intro x hx
  obtain ⟨u, _, rfl⟩ := List.mem_map.1 hx
  exact u.toNat_lt
theorem bs_st (l : List Nat) (h : okB l) : bs (st l) = l := by
  unfold bs st
  simp only [List.map_map]
  conv => rhs; rw [← List.map_id l]
  apply List.map_congr_left
  intro x hx
  have := h x hx
  simp [Function.comp]
  omega
theorem st_bs (s : ByteArray) : st (bs s) = s := by
  unfold bs st
  simp only [List.map_map]
  have : (UInt8.ofNat ∘ UInt8.toNat) = id := by funext u; simp
  rw [this]; simp
theorem bs_inj {s t : ByteArray} (h : bs s = bs t) : s = t := by rw [← st_bs s, ← st_bs t, h]
theorem bs_length (s : ByteArray) : (bs s).length = s.size := by unfold bs; simp
theorem st_size (l : List Nat) : (st l).size = l.length := by
  unfold st; show (List.toArray _).size = _; simp
theorem bs_append (s t : ByteArray) : bs (s ++ t) = bs s ++ bs t := by
  unfold bs
  rw [ByteArray.data_append]; simp
theorem st_append (a b : List Nat) : st (a ++ b) = st a ++ st b := by
  unfold st
  apply ByteArray.ext
  rw [ByteArray.data_append]; simp
theorem bs_extract (s : ByteArray) (a b : Nat) : bs (s.extract a b) = ((bs s).take b).drop a := by
  unfold bs
  rw [ByteArray.data_extract]
  simp [List.map_take, List.map_drop, List.drop_take, List.extract_eq_take_drop]
theorem strOfNums_eq (l : List Nat) : strOfNums (l.map fun (n : Nat) => (n : Int)) = st l := by
  unfold strOfNums st
  simp [List.map_map, Function.comp]
end Go.Proofs.YtodhnmflabehhaaDoor.Hy
namespace Go.Proofs.YtodhnmflabehhaaDoor.Hy
open Go.RowKit

/-! ### rows of bits, the highest first -/
def val : List Bool → Nat
  | [] => 0
  | b :: r => b.toNat * 2 ^ r.length + val r
def bitsOf (n : Nat) : Nat → List Bool
  | 0 => []
  | k + 1 => (n / 2 ^ k % 2 == 1) :: bitsOf n k
theorem bitsOf_length (n k : Nat) : (bitsOf n k).length = k := by induction k with | zero => rfl | succ k ih => simp [bitsOf, ih]
theorem val_append (a b : List Bool) : val (a ++ b) = val a * 2 ^ b.length + val b := by
  induction a with
  | nil => simp [val]
  | cons x r ih => simp only [List.cons_append, val, ih, List.length_append, Nat.pow_add, Nat.add_mul, Nat.mul_assoc, Nat.add_assoc]
theorem val_lt (l : List Bool) : val l < 2 ^ l.length := by
  induction l with
  | nil => simp [val]
  | cons b r ih =>
    simp only [val, List.length_cons, Nat.pow_succ]
    cases b <;> simp <;> omega
theorem val_bitsOf (n k : Nat) : val (bitsOf n k) = n % 2 ^ k := by
  induction k with
  | zero => simp [bitsOf, val, Nat.mod_one]
  | succ k ih =>
    simp only [bitsOf, val, ih, bitsOf_length]
    have h := Nat.mod_two_eq_zero_or_one (n / 2 ^ k)
    have e : n % 2 ^ (k + 1) = n / 2 ^ k % 2 * 2 ^ k + n % 2 ^ k := by
      rw [Nat.pow_succ, Nat.mod_mul, Nat.mul_comm (2 ^ k), Nat.add_comm]
    rw [e]
    rcases h with h | h <;> simp [h]
theorem val_small (n k : Nat) (h : n < 2 ^ k) : val (bitsOf n k) = n := by rw [val_bitsOf, Nat.mod_eq_of_lt h]
theorem val_inj : ∀ {a b : List Bool}, a.length = b.length → val a = val b → a = b := by
  intro a
  induction a with
  | nil => intro b h _; exact (List.eq_nil_of_length_eq_zero h.symm).symm
  | cons x r ih =>
    intro b h hv
    cases b with
    | nil => simp at h
    | cons y t =>
      simp only [List.length_cons, Nat.add_right_cancel_iff] at h
      simp only [val] at hv
      have h1 := val_lt r
      have h2 := val_lt t
      rw [h] at hv h1
      have hxy : x = y := by cases x <;> cases y <;> simp at hv ⊢ <;> omega
      subst hxy
      rw [ih h (by omega)]
theorem bitsOf_val (l : List Bool) : bitsOf (val l) l.length = l := val_inj (bitsOf_length _ _) (val_small _ _ (val_lt l))
theorem bitsOf_append (n a b : Nat) : bitsOf n (a + b) = bitsOf (n / 2 ^ b) a ++ bitsOf n b := by
  apply val_inj
  · simp [bitsOf_length]
  · rw [val_append, val_bitsOf, val_bitsOf, val_bitsOf, bitsOf_length, Nat.add_comm a b, Nat.pow_add, Nat.mod_mul, Nat.mul_comm (2 ^ b), Nat.add_comm]
/-- A piece of a number's bits. -/
theorem bitsOf_piece (n p t q : Nat) : ((bitsOf n (p + t + q)).drop p).take t = bitsOf (n / 2 ^ q) t := by
  rw [Nat.add_assoc, bitsOf_append n p (t + q), List.drop_left' (bitsOf_length _ _), bitsOf_append n t q, List.take_left' (bitsOf_length _ _)]

/-! ### bytes -/
def pad (l : List Bool) : Nat := val l * 2 ^ (8 - l.length)
def pk (l : List Bool) : List Nat := if _h : l = [] then [] else pad (l.take 8) :: pk (l.drop 8)
termination_by l.length
decreasing_by
  have := List.length_pos_iff.2 _h
  rw [List.length_drop]; omega
theorem pk_nil : pk [] = [] := by rw [pk]; simp
theorem pk_cons (l : List Bool) (h : l ≠ []) : pk l = pad (l.take 8) :: pk (l.drop 8) := by rw [pk, dif_neg h]
theorem pad_lt (l : List Bool) (h : l.length ≤ 8) : pad l < 256 := by
  unfold pad
  have := val_lt l
  calc val l * 2 ^ (8 - l.length) < 2 ^ l.length * 2 ^ (8 - l.length) := Nat.mul_lt_mul_of_pos_right this (Nat.two_pow_pos _)
    _ = 2 ^ 8 := by rw [← Nat.pow_add]; congr 1; omega
theorem pk_all : ∀ (n : Nat) (l : List Bool), l.length ≤ n → okB (pk l) ∧ (pk l).length = (l.length + 7) / 8 := by
  intro n
  induction n with
  | zero =>
    intro l h
    obtain rfl : l = [] := List.eq_nil_of_length_eq_zero (by omega)
    rw [pk_nil]; exact ⟨fun x hx => by simp at hx, rfl⟩
  | succ n ih =>
    intro l h
    by_cases hl : l = []
    · subst hl; rw [pk_nil]; exact ⟨fun x hx => by simp at hx, rfl⟩
    · have hp := List.length_pos_iff.2 hl
      obtain ⟨i1, i2⟩ := ih (l.drop 8) (by rw [List.length_drop]; omega)
      rw [pk_cons l hl]
      refine ⟨fun x hx => ?_, ?_⟩
      · rcases List.mem_cons.1 hx with rfl | hx
        · exact pad_lt _ (by rw [List.length_take]; omega)
        · exact i1 x hx
      · rw [List.length_cons, i2, List.length_drop]; omega
theorem pk_okB (l : List Bool) : okB (pk l) := (pk_all _ l (Nat.le_refl _)).1
theorem pk_length (l : List Bool) : (pk l).length = (l.length + 7) / 8 := (pk_all _ l (Nat.le_refl _)).2
theorem pk_one (l : List Bool) (h : l ≠ []) (h8 : l.length ≤ 8) : pk l = [pad l] := by
  rw [pk_cons l h, List.take_of_length_le h8, List.drop_of_length_le h8, pk_nil]
/-- Bits behind full bytes. -/
theorem pk_put0 : ∀ (n : Nat) (l b : List Bool), l.length ≤ n → l.length % 8 = 0 → b ≠ [] → b.length ≤ 8 → pk (l ++ b) = pk l ++ [pad b] := by
  intro n
  induction n with
  | zero =>
    intro l b h _ hb h8
    obtain rfl : l = [] := List.eq_nil_of_length_eq_zero (by omega)
    rw [List.nil_append, pk_nil, pk_one b hb h8]; rfl
  | succ n ih =>
    intro l b h h0 hb h8
    by_cases hl : l = []
    · subst hl; rw [List.nil_append, pk_nil, pk_one b hb h8]; rfl
    · have hp := List.length_pos_iff.2 hl
      rw [pk_cons l hl, pk_cons (l ++ b) (by simp [hl]), List.take_append_of_le_length (by omega), List.drop_append_of_le_length (by omega), ih _ _ (by rw [List.length_drop]; omega) (by rw [List.length_drop]; omega) hb h8]
      rfl
theorem pad_join (r b : List Bool) (h : r.length + b.length ≤ 8) : pad (r ++ b) = pad r + val b * 2 ^ (8 - r.length - b.length) := by
  unfold pad
  rw [val_append, List.length_append, Nat.add_mul, Nat.mul_assoc, ← Nat.pow_add]
  congr 2
  · congr 1; omega
  · congr 1; omega
/-- Bits behind a byte that has room. -/
theorem pk_put1 : ∀ (n : Nat) (l b : List Bool), l.length ≤ n → l.length % 8 ≠ 0 → b.length ≤ 8 - l.length % 8 → ∃ P x, pk l = P ++ [x] ∧ pk (l ++ b) = P ++ [x + val b * 2 ^ (8 - l.length % 8 - b.length)] ∧ x % 2 ^ (8 - l.length % 8) = 0 ∧ x < 256 := by
  intro n
  induction n with
  | zero => intro l b h h0; exact absurd (by omega) h0
  | succ n ih =>
    intro l b h h0 hb
    have hl : l ≠ [] := by rintro rfl; simp at h0
    by_cases h8 : l.length < 8
    · have hm : l.length % 8 = l.length := Nat.mod_eq_of_lt h8
      rw [hm] at hb ⊢
      refine ⟨[], pad l, by rw [pk_one l hl (by omega)]; rfl, ?_, ?_, pad_lt l (by omega)⟩
      · rw [pk_one (l ++ b) (by simp [hl]) (by rw [List.length_append]; omega), pad_join l b (by omega)]; rfl
      · unfold pad; exact Nat.mul_mod_left _ _
    · obtain ⟨P, x, h1, h2, h3, h4⟩ := ih (l.drop 8) b (by rw [List.length_drop]; omega) (by rw [List.length_drop]; omega) (by rw [List.length_drop]; omega)
      have hm : (l.drop 8).length % 8 = l.length % 8 := by rw [List.length_drop]; omega
      rw [hm] at h2 h3
      refine ⟨pad (l.take 8) :: P, x, by rw [pk_cons l hl, h1]; rfl, ?_, h3, h4⟩
      rw [pk_cons (l ++ b) (by simp [hl]), List.take_append_of_le_length (by omega), List.drop_append_of_le_length (by omega), h2]; rfl
/-- The byte that is written to, whether it is new or not. -/
theorem pk_put (l b : List Bool) (hb0 : b ≠ []) (hb : b.length ≤ 8 - l.length % 8) : ∃ P x, (if l.length % 8 = 0 then pk l ++ [0] else pk l) = P ++ [x] ∧ pk (l ++ b) = P ++ [x + val b * 2 ^ (8 - l.length % 8 - b.length)] ∧ x % 2 ^ (8 - l.length % 8) = 0 ∧ x < 256 := by
  by_cases h : l.length % 8 = 0
  · rw [if_pos h]
    refine ⟨pk l, 0, rfl, ?_, by simp, by decide⟩
    rw [pk_put0 _ l b (Nat.le_refl _) h hb0 (by omega), Nat.zero_add, h]; rfl
  · rw [if_neg h]
    exact pk_put1 _ l b (Nat.le_refl _) h hb
/-! ### a text's bits -/
def unp (l : List Nat) : List Bool := l.flatMap fun c => bitsOf c 8
theorem unp_nil : unp [] = [] := rfl
theorem unp_cons (c : Nat) (l : List Nat) : unp (c :: l) = bitsOf c 8 ++ unp l := rfl
theorem unp_append (a b : List Nat) : unp (a ++ b) = unp a ++ unp b := by simp [unp]
theorem unp_length (l : List Nat) : (unp l).length = 8 * l.length := by
  induction l with
  | nil => rfl
  | cons c r ih => rw [unp_cons, List.length_append, bitsOf_length, ih, List.length_cons]; omega
theorem val_zeros (k : Nat) : val (List.replicate k false) = 0 := by
  induction k with
  | zero => rfl
  | succ k ih => rw [List.replicate_succ]; simp [val, ih]
theorem bitsOf_pad (l : List Bool) (h : l.length ≤ 8) : bitsOf (pad l) 8 = l ++ List.replicate (8 - l.length) false := by
  apply val_inj
  · rw [bitsOf_length, List.length_append, List.length_replicate]; omega
  · rw [val_small _ _ (pad_lt l h), val_append, val_zeros, List.length_replicate]; rfl
theorem unp_pk : ∀ (n : Nat) (l : List Bool), l.length ≤ n → unp (pk l) = l ++ List.replicate (8 * ((l.length + 7) / 8) - l.length) false := by
  intro n
  induction n with
  | zero =>
    intro l h
    obtain rfl : l = [] := List.eq_nil_of_length_eq_zero (by omega)
    rw [pk_nil]; rfl
  | succ n ih =>
    intro l h
    by_cases hl : l = []
    · subst hl; rw [pk_nil]; rfl
    · have hp := List.length_pos_iff.2 hl
      rw [pk_cons l hl, unp_cons]
      by_cases h8 : l.length ≤ 8
      · rw [List.take_of_length_le h8, List.drop_of_length_le h8, pk_nil, unp_nil, List.append_nil, bitsOf_pad l h8]
        congr 2; omega
      · rw [ih _ (by rw [List.length_drop]; omega), bitsOf_pad _ (by rw [List.length_take]; omega), List.length_take, Nat.min_eq_left (by omega)]
        rw [Nat.sub_self, List.replicate_zero, List.append_nil, ← List.append_assoc, List.take_append_drop, List.length_drop]
        congr 2; omega
theorem pk_unp (L : List Nat) (h : okB L) : pk (unp L) = L := by
  induction L with
  | nil => rw [unp_nil, pk_nil]
  | cons c r ih =>
    have h8 := bitsOf_length c 8
    rw [unp_cons, pk_cons _ (by intro e; have := congrArg List.length e; rw [List.length_append, h8] at this; simp at this), List.take_left' h8, List.drop_left' h8, ih (fun x hx => h x (by simp [hx]))]
    congr 1
    unfold pad
    rw [h8, val_small _ _ (h c (by simp))]; simp
/-- Zeros behind, up to the end of the byte, make no other text. -/
theorem pk_zeros (L : List Nat) (h : okB L) (l : List Bool) (k : Nat) (hk : k < 8) (e : unp L = l ++ List.replicate k false) : pk l = L := by
  have hl := congrArg List.length e
  rw [unp_length, List.length_append, List.length_replicate] at hl
  have h1 := unp_pk _ l (Nat.le_refl _)
  rw [show 8 * ((l.length + 7) / 8) - l.length = k by omega, ← e] at h1
  have h2 := pk_unp (pk l) (pk_okB l)
  rw [h1, pk_unp L h] at h2
  exact h2.symm
/-- A piece within a byte. -/
theorem unp_piece (L : List Nat) (at_ t : Nat) (c : Nat) (hc : L[at_ / 8]? = some c) (ht : at_ % 8 + t ≤ 8) : ((unp L).drop at_).take t = bitsOf (c / 2 ^ (8 - at_ % 8 - t)) t := by
  obtain ⟨p, hp⟩ : ∃ p, at_ / 8 = p := ⟨_, rfl⟩
  obtain ⟨q, hq⟩ : ∃ q, at_ % 8 = q := ⟨_, rfl⟩
  have ha : at_ = 8 * p + q := by omega
  rw [hp] at hc
  rw [hq] at ht ⊢
  have hlt : p < L.length := by
    rcases Nat.lt_or_ge p L.length with h | h
    · exact h
    · rw [List.getElem?_eq_none h] at hc; cases hc
  have hs : L = L.take p ++ c :: L.drop (p + 1) := by
    rw [List.getElem?_eq_getElem hlt] at hc
    rw [← Option.some.inj hc, ← List.drop_eq_getElem_cons hlt, List.take_append_drop]
  have hlen : (unp (L.take p)).length = 8 * p := by rw [unp_length, List.length_take]; omega
  rw [hs, unp_append, unp_cons, ha, ← List.drop_drop, List.drop_left' hlen]
  rw [List.drop_append_of_le_length (by rw [bitsOf_length]; omega), List.take_append_of_le_length (by rw [List.length_drop, bitsOf_length]; omega)]
  have := bitsOf_piece c q t (8 - q - t)
  rw [show q + t + (8 - q - t) = 8 by omega] at this
  exact this
end Go.Proofs.YtodhnmflabehhaaDoor.Hy
namespace Go.Proofs.YtodhnmflabehhaaDoor
open Go.RowKit Go.Proofs.YtodhnmflabehhaaDoorW.PrintWords Hy

theorem below_next {w w1 w2 : World} (h : Below w.heap.size w w1) (h' : Below w1.heap.size w1 w2) : Below w.heap.size w w2 := h.trans (h'.mono h.size)
theorem bt_bs (s : ByteArray) (i : Nat) (h : i < s.size) : ∃ c r, (bs s).drop i = c :: r ∧ bt s (i : Int) = (c : Int) ∧ c < 256 ∧ (bs s).drop (i + 1) = r := by
  have hl : i < (bs s).length := by rw [bs_length]; exact h
  refine ⟨(bs s)[i], (bs s).drop (i + 1), List.drop_eq_getElem_cons hl, ?_, bs_ok s _ (List.getElem_mem hl), rfl⟩
  unfold bt
  rw [dif_pos (by simpa using h)]
  simp [bs]
  rfl
end Go.Proofs.YtodhnmflabehhaaDoor
namespace Go.Proofs.YtodhnmflabehhaaDoor
open Go.RowKit Go.Proofs.YtodhnmflabehhaaDoorW.PrintWords

/-- All blocks that were there are as they were, but for those of M. -/
structure Kp (M : Nat → Prop) (w w' : World) : Prop where
  os : w'.os = w.os
  tape : w'.tape = w.tape
  output : w'.output = w.output
  size : w.heap.size ≤ w'.heap.size
  block : ∀ k, k < w.heap.size → ¬ M k → w'.heap[k]? = w.heap[k]?
variable {M M' : Nat → Prop} {w w1 w2 : World}
theorem Kp.refl (M : Nat → Prop) (w : World) : Kp M w w := ⟨rfl, rfl, rfl, Nat.le_refl _, fun _ _ _ => rfl⟩
theorem Kp.trans (h : Kp M w w1) (k : Kp M w1 w2) : Kp M w w2 :=
  ⟨k.os.trans h.os, k.tape.trans h.tape, k.output.trans h.output, Nat.le_trans h.size k.size, fun i hi hm => (k.block i (Nat.lt_of_lt_of_le hi h.size) hm).trans (h.block i hi hm)⟩
theorem Kp.mono (h : Kp M w w1) (hm : ∀ k, M k → M' k) : Kp M' w w1 := ⟨h.os, h.tape, h.output, h.size, fun k hk hn => h.block k hk (fun x => hn (hm k x))⟩
theorem Kp.drewN (h : Kp M w w1) (m : Nat) : Kp M w (w1.drewN m) := ⟨h.os, h.tape, h.output, h.size, h.block⟩
theorem Kp.drew (h : Kp M w w1) : Kp M w w1.drew := ⟨h.os, h.tape, h.output, h.size, h.block⟩
theorem Kp.ofBelow (h : Below w.heap.size w w1) : Kp M w w1 := ⟨h.os, h.tape, h.output, h.size, fun k hk _ => h.block k hk⟩
theorem Kp.toBelow {B : Nat} (h : Kp M w w1) (hB : B ≤ w.heap.size) (hM : ∀ k, M k → B ≤ k) : Below B w w1 :=
  ⟨h.os, h.tape, h.output, h.size, fun k hk => h.block k (Nat.lt_of_lt_of_le hk hB) (fun x => by have := hM k x; omega)⟩
/-- What came behind the call's beginning may have been written to. -/
theorem Kp.below {w0 : World} (h0 : Below w0.heap.size w0 w) (h : Kp M w w1) (hM : ∀ k, M k → w0.heap.size ≤ k) : Below w0.heap.size w0 w1 := h0.trans (h.toBelow h0.size hM)
theorem Kp.next (h : Kp M w w1) (k : Below w1.heap.size w1 w2) : Kp M w w2 := h.trans (Kp.ofBelow k)
theorem Kp.alloc (h : Kp M w w1) (o : Obj) : Kp M w (w1.alloc o) := h.next ((Below.refl _ _).alloc (Nat.le_refl _) o)
theorem Kp.set (h : Kp M w w1) {p : Addr} (hp : M p.block) (u : Value) : Kp M w (w1.setCell p u) :=
  ⟨h.os, h.tape, h.output, by simpa using h.size, fun k hk hn => (Below.heap_setCell w1 p u k (fun e => hn (e ▸ hp))).trans (h.block k hk hn)⟩
theorem Kp.obj {g : Nat} {o : Obj} (h : Kp M w w1) (hb : w.heap[g]? = some o) (hn : ¬ M g) : w1.heap[g]? = some o := (h.block g (blk_lt hb) hn).trans hb
theorem Kp.row {α : Type} {d : Kd α} {e base : Nat} {ok : Nat → Prop} {v : Value} {xs : List α} (h : Kp M w w1) (hr : d.R e w base ok v xs) (hok : ∀ k, ok k → ¬ M k) : d.R e w1 base ok v xs := Kd.R_step hr (fun k ho hk => h.block k hk (hok k ho))
theorem Kp.own {base : Nat} {e : TypeId} {size n : Nat} {v : Value} {xs : List Value} (h : Kp M w w1) (ho : w.ownsRow base e size v n xs) (hn : ∀ k, v.ownBlock = some k → ¬ M k) : w1.ownsRow base e size v n xs :=
  own_move ho (fun k hk => h.block k (own_lt ho k hk) (hn k hk))
end Go.Proofs.YtodhnmflabehhaaDoor
namespace Go.Proofs.YtodhnmflabehhaaDoor
open Go.RowKit

/-- What an error tells. -/
inductive Err where
  | nil : Err
  | code : Int → Err
  | at_ : Int → Err → Err
  | fld : Int → Err → Err
  | oth : Err

/-- A value that tells an error, in a world. -/
def IsE (w : World) : Err → Value → Prop
  | .nil, v => v = .nilIface
  | .code c, v => v = .iface 37 (.int .i64 c)
  | .at_ n e, v => ∃ a u, v = .iface 79 (.pointer (some ⟨a, 0, none⟩)) ∧ w.heap[a]? = some (.cells #[.int .i64 n, u] 82 (0, 0)) ∧ IsE w e u
  | .fld _ _, _ => False
  | .oth, _ => False

theorem at_any (n : Int) (u : Value) (w : World) (h : ∃ T x, u = .iface T x) :
    Calls Tryd.prog 34 #[.int .i64 n, u] w fun e w' => e = .returned (.iface 79 (.pointer (some ⟨w.heap.size, 0, none⟩))) ∧ w' = w.alloc (.cells #[.int .i64 n, u] 82 (0, 0)) := by
  obtain ⟨T, x, rfl⟩ := h
  go_enter Tryd.func34, Tryd.ntmps34
  go_wp2
  go_ret
  exact ⟨rfl, rfl⟩

theorem IsE.below {w w' : World} {e : Err} : ∀ {v : Value}, IsE w e v → Below w.heap.size w w' → IsE w' e v := by
  induction e with
  | nil => intro v h _; exact h
  | code c => intro v h _; exact h
  | at_ n e ih =>
    intro v h hb
    obtain ⟨a, u, rfl, ha, hu⟩ := h
    exact ⟨a, u, rfl, by rw [hb.block a (Array.getElem?_eq_some_iff.1 ha).1]; exact ha, ih hu hb⟩
  | fld n e ih => intro v h _; exact h
  | oth => intro v h _; exact h
theorem IsE.iface {w : World} {e : Err} {v : Value} (h : IsE w e v) (he : e ≠ .nil) : ∃ T x, v = .iface T x := by
  cases e with
  | nil => exact absurd rfl he
  | code c => exact ⟨_, _, h⟩
  | at_ n e => obtain ⟨a, u, rfl, _⟩ := h; exact ⟨_, _, rfl⟩
  | fld n e => exact h.elim
  | oth => exact h.elim
theorem IsE.new {w : World} {n : Int} {e : Err} {u : Value} (h : IsE w e u) : IsE (w.alloc (.cells #[.int .i64 n, u] 82 (0, 0))) (.at_ n e) (.iface 79 (.pointer (some ⟨w.heap.size, 0, none⟩))) :=
  ⟨_, _, rfl, heap_alloc_new _ _, h.below ((Below.refl _ _).alloc (Nat.le_refl _) _)⟩
end Go.Proofs.YtodhnmflabehhaaDoor
namespace Go.Proofs.YtodhnmflabehhaaDoor
open Go.RowKit Go.Proofs.YtodhnmflabehhaaDoorW.PrintWords Hy

def ints (l : List Nat) : List Int := l.map fun (x : Nat) => (x : Int)
theorem ints_length (l : List Nat) : (ints l).length = l.length := by simp [ints]
theorem ints_append (a b : List Nat) : ints (a ++ b) = ints a ++ ints b := by simp [ints]
/-- A writer of the call's own, in its block: its bits. -/
def WAt (T : TypeId) (B : Nat) (g : Nat) (v : Value) (n : Nat) (L : List Nat) (w : World) : Prop :=
  B ≤ g ∧ w.heap[g]? = some (.cells #[v, .int .i64 (n : Int)] T (0, 0)) ∧ w.ownsRow B 5 1 v L.length (nums .u8 (ints L))
def IsW (T : TypeId) (B : Nat) (g : Nat) (l : List Bool) (w : World) : Prop := ∃ v, WAt T B g v l.length (pk l) w
theorem WAt.c0 {T B g v n L w} (h : WAt T B g v n L w) : w.cell? ⟨g, 0, none⟩ = some v := by rw [blk_cell h.2.1]; rfl
theorem WAt.c1 {T B g v n L w} (h : WAt T B g v n L w) : w.cell? ⟨g, 1, none⟩ = some (.int .i64 (n : Int)) := by rw [blk_cell h.2.1]; rfl
theorem WAt.f0 {T B g v n L w} (h : WAt T B g v n L w) : w.frozen? ⟨g, 0, none⟩ = false := blk_frozen h.2.1 0
theorem WAt.f1 {T B g v n L w} (h : WAt T B g v n L w) : w.frozen? ⟨g, 1, none⟩ = false := blk_frozen h.2.1 1
/-- A byte more: what the store of the row leaves. -/
theorem WAt.more {T B g : Nat} {v v1 : Value} {n c : Nat} {L : List Nat} {w w1 : World} (hT : 5 ≠ T) (h : WAt T B g v n L w) (ho : w1.ownsRow B 5 1 v1 (ints L ++ [((c : Nat) : Int)]).length (nums .u8 (ints L ++ [((c : Nat) : Int)]))) (hg : w.grownBy w1 v.ownBlock) :
    w1.cell? ⟨g, 0, none⟩ = some v ∧ w1.frozen? ⟨g, 0, none⟩ = false ∧ WAt T B g v1 n (L ++ [c]) (w1.setCell ⟨g, 0, none⟩ v1) := by
  have hb : w1.heap[g]? = some (.cells #[v, .int .i64 (n : Int)] T (0, 0)) := blk_grown h.2.1 hg (own_ne h.2.2 h.2.1 hT)
  refine ⟨by rw [blk_cell hb]; rfl, blk_frozen hb 0, h.1, by rw [blk_set hb]; rfl, ?_⟩
  have he : ints L ++ [((c : Nat) : Int)] = ints (L ++ [c]) := by rw [ints_append]; rfl
  rw [he] at ho
  rw [ints_length] at ho
  exact own_setCell ho (by exact own_ne ho hb hT) v1
/-- The last byte, and what its store and the number's leave. -/
theorem WAt.last {T B g : Nat} {v : Value} {n x : Nat} {P : List Nat} {w : World} (hT : 5 ≠ T) (h : WAt T B g v n (P ++ [x]) w) :
    ∃ ad cap, v = .slice (some ad) (P.length + 1) cap ∧ P.length + 1 ≤ cap ∧ w.cell? (ad.add P.length) = some (.int .u8 (x : Int)) ∧ w.frozen? (ad.add P.length) = false ∧
      (∀ u, (w.setCell (ad.add P.length) u).cell? ⟨g, 1, none⟩ = some (.int .i64 (n : Int))) ∧ (∀ u, (w.setCell (ad.add P.length) u).frozen? ⟨g, 1, none⟩ = false) ∧
      (∀ (y n' : Nat), WAt T B g v n' (P ++ [y]) ((w.setCell (ad.add P.length) (.int .u8 (y : Int))).setCell ⟨g, 1, none⟩ (.int .i64 (n' : Int)))) ∧
      (∀ u u' w0, Below B w0 w → Below B w0 ((w.setCell (ad.add P.length) u).setCell ⟨g, 1, none⟩ u')) := by
  obtain ⟨h1, h2, h3⟩ := h
  have hlen : (P ++ [x]).length = P.length + 1 := by simp
  have hlen2 : ∀ y, (P ++ [y]).length = P.length + 1 := by simp
  rw [hlen] at h3
  have h3' := h3
  rcases h3'.2 with ⟨_, h0⟩ | ⟨ga, cap, cur, rfl, hga, hh, hcap, _⟩
  · omega
  · have hne : g ≠ ga := by
      have := own_ne h3 h2 hT
      intro e; exact this (by simp [Value.ownBlock, e])
    have ha : (⟨ga, 0, none⟩ : Addr).add P.length = ⟨ga, P.length, none⟩ := add_plain _ _
    have hat := own_at h3 (P.length : Int) (by omega) (by omega)
    have hrd : rd (ints (P ++ [x])) (P.length : Int) = (x : Int) := by
      unfold rd; rw [ints_append]; simp [ints]
    rw [hrd, Int.toNat_natCast] at hat
    refine ⟨⟨ga, 0, none⟩, cap, rfl, hcap, by rw [ha]; exact hat.1, by rw [ha]; exact hat.2, fun u => ?_, fun u => ?_, fun y n' => ?_, fun u u' w0 hb => ?_⟩
    · rw [blk_cell (blk_far h2 (by rw [ha]; exact hne) u)]; rfl
    · exact blk_frozen (blk_far h2 (by rw [ha]; exact hne) u) 1
    · refine ⟨h1, by rw [blk_set (blk_far h2 (by rw [ha]; exact hne) _)]; rfl, ?_⟩
      rw [hlen2]
      refine own_setCell ?_ (by simp [Value.ownBlock]; exact hne) _
      have := (own_store h3 (P.length : Int) (y : Int)).1
      rw [Int.toNat_natCast] at this
      rw [ha]
      have he : (ints (P ++ [x])).set P.length (y : Int) = ints (P ++ [y]) := by
        rw [ints_append, ints_append, ← ints_length P, List.set_append_right _ _ (Nat.le_refl _), Nat.sub_self]; rfl
      rw [he] at this
      exact this
    · exact (hb.setCell (by rw [ha]; exact hga) u).setCell h1 u'
theorem uint8_info : (Tryd.prog.info? 5).map (fun i => (i.zero, i.size, i.bytes)) = some (some (.int .u8 0), 1, 1) := by kernel_rfl
end Go.Proofs.YtodhnmflabehhaaDoor
namespace Go.Proofs.YtodhnmflabehhaaDoor.Hy
open Go.RowKit

/-! ### a byte's bits: written -/
theorem cast_div (n r : Nat) : (n : Int) / 2 ^ r = ((n / 2 ^ r : Nat) : Int) := by rw [Int.natCast_ediv, Int.natCast_pow]; rfl
theorem cast_shl (n r : Nat) : (n : Int) * 2 ^ r = ((n * 2 ^ r : Nat) : Int) := by rw [Int.natCast_mul, Int.natCast_pow]; rfl
theorem pow8 (t : Nat) (ht : t ≤ 8) : (2 : Nat) ^ t ≤ 256 := by
  calc 2 ^ t ≤ 2 ^ 8 := Nat.pow_le_pow_right (by omega) ht
    _ = 256 := rfl
theorem chunk_u64 (N t : Nat) (hN : N < 18446744073709551616) (ht : t ≤ 8) : Go.bits .and .u64 (N : Int) (IntKind.u64.wrap (IntKind.u64.wrap (2 ^ t) - 1)) = ((N % 2 ^ t : Nat) : Int) := by
  have h2 : (2 : Int) ^ t ≤ 256 ∧ 1 ≤ (2 : Int) ^ t := by
    rcases (by omega : t = 0 ∨ t = 1 ∨ t = 2 ∨ t = 3 ∨ t = 4 ∨ t = 5 ∨ t = 6 ∨ t = 7 ∨ t = 8) with rfl | rfl | rfl | rfl | rfl | rfl | rfl | rfl | rfl <;> decide
  rw [wrap_u64, wrap_u64, Int.emod_eq_of_lt (by omega) (by omega), Int.emod_eq_of_lt (by omega) (by omega)]
  rw [bits_mask .u64 64 (by decide) (fun n a b => by rw [wrap_u64]; omega) t (by omega) (N : Int) (by omega) (by omega)]
  rw [Int.natCast_emod, Int.natCast_pow]; rfl
theorem join_u8 (x c k R : Nat) (hx : x % 2 ^ R = 0) (hx2 : x < 256) (hk : k ≤ R) (hR : R ≤ 8) (hc : c < 2 ^ (R - k)) : Go.bits .or .u8 (x : Int) ((c * 2 ^ k : Nat) : Int) = ((x + c * 2 ^ k : Nat) : Int) := by
  have hlt : c * 2 ^ k < 2 ^ R := by
    calc c * 2 ^ k < 2 ^ (R - k) * 2 ^ k := Nat.mul_lt_mul_of_pos_right hc (Nat.two_pow_pos _)
      _ = 2 ^ R := by rw [← Nat.pow_add]; congr 1; omega
  have hle := pow8 R hR
  have h1 : (x : Int) % 2 ^ R = 0 := by
    have : ((x % 2 ^ R : Nat) : Int) = 0 := by rw [hx]; rfl
    rw [Int.natCast_emod, Int.natCast_pow] at this
    exact this
  have h2 : ((c * 2 ^ k : Nat) : Int) < 2 ^ R := by
    have : ((c * 2 ^ k : Nat) : Int) < ((2 ^ R : Nat) : Int) := by omega
    rw [Int.natCast_pow] at this
    exact this
  have h := bits_join .u8 8 (by decide) wraps_u8 R (x : Int) ((c * 2 ^ k : Nat) : Int) (by omega) h1 (by omega) (by omega) h2 (by omega)
  rw [h]; omega
theorem put_byte (x N t R k : Nat) (hx : x % 2 ^ R = 0) (hx2 : x < 256) (hk : R - t = k) (ht : t ≤ R) (hR : R ≤ 8) (hN : N < 18446744073709551616) :
    Go.bits .or .u8 (x : Int) (Go.bits .and .u64 (N : Int) (IntKind.u64.wrap (IntKind.u64.wrap (2 ^ t) - 1)) % 256 * 2 ^ k % 256) = ((x + N % 2 ^ t * 2 ^ k : Nat) : Int) := by
  have hc : N % 2 ^ t < 2 ^ t := Nat.mod_lt _ (Nat.two_pow_pos _)
  have hle := pow8 t (by omega)
  have hR2 := pow8 R hR
  have hlt : N % 2 ^ t * 2 ^ k < 256 := by
    calc N % 2 ^ t * 2 ^ k < 2 ^ t * 2 ^ k := Nat.mul_lt_mul_of_pos_right hc (Nat.two_pow_pos _)
      _ = 2 ^ R := by rw [← Nat.pow_add]; congr 1; omega
      _ ≤ 256 := hR2
  rw [chunk_u64 N t hN (by omega)]
  generalize N % 2 ^ t = c at *
  rw [Int.emod_eq_of_lt (show (0 : Int) ≤ (c : Int) by omega) (show (c : Int) < 256 by omega), cast_shl]
  generalize hq : c * 2 ^ k = q at *
  rw [Int.emod_eq_of_lt (show (0 : Int) ≤ (q : Int) by omega) (show (q : Int) < 256 by omega), ← hq]
  exact join_u8 x c k R hx hx2 (by omega) hR (by rw [show R - k = t by omega]; exact hc)
theorem put_byte0 (x N R : Nat) (hx : x % 2 ^ R = 0) (hx2 : x < 256) (hR : R ≤ 8) (hN : N < 18446744073709551616) :
    Go.bits .or .u8 (x : Int) (Go.bits .and .u64 (N : Int) (IntKind.u64.wrap (IntKind.u64.wrap (2 ^ R) - 1)) % 256) = ((x + N % 2 ^ R * 2 ^ (R - R) : Nat) : Int) := by
  have h := put_byte x N R R 0 hx hx2 (by omega) (Nat.le_refl _) hR hN
  have e : ∀ y : Int, y % 256 * 2 ^ 0 % 256 = y % 256 := by intro y; rw [Int.pow_zero, Int.mul_one, Int.emod_emod_of_dvd _ (Int.dvd_refl _)]
  rw [e] at h
  rw [h, Nat.sub_self]
theorem get_bs (s : ByteArray) (i : Nat) (h : i < s.size) : s[i].toNat = (bs s).getD i 0 := by
  have hl : i < (bs s).length := by rw [bs_length]; exact h
  rw [List.getD_eq_getElem?_getD, List.getElem?_eq_getElem hl]
  simp [bs]
  rfl
/-- What a reader's round makes of the number. -/
theorem get_step (n c t j k : Nat) (hn : n < 2 ^ j) (hj : j + t ≤ 64) (ht : t ≤ 8) (hc : c < 256) :
    Go.bits .or .u64 (IntKind.u64.wrap ((n : Int) * 2 ^ t)) (Go.bits .and .u64 ((c : Int) / 2 ^ k) (IntKind.u64.wrap (IntKind.u64.wrap (2 ^ t) - 1))) = ((n * 2 ^ t + c / 2 ^ k % 2 ^ t : Nat) : Int) := by
  have hck : c / 2 ^ k < 256 := Nat.lt_of_le_of_lt (Nat.div_le_self _ _) hc
  rw [cast_div, chunk_u64 _ t (by omega) ht, cast_shl]
  have h1 : n * 2 ^ t < 18446744073709551616 := by
    calc n * 2 ^ t < 2 ^ j * 2 ^ t := Nat.mul_lt_mul_of_pos_right hn (Nat.two_pow_pos _)
      _ = 2 ^ (j + t) := by rw [← Nat.pow_add]
      _ ≤ 2 ^ 64 := Nat.pow_le_pow_right (by omega) hj
      _ = 18446744073709551616 := rfl
  have h2 : c / 2 ^ k % 2 ^ t < 2 ^ t := Nat.mod_lt _ (Nat.two_pow_pos _)
  have h3 := pow8 t ht
  generalize hq : c / 2 ^ k % 2 ^ t = q at *
  have h4 : ((n * 2 ^ t : Nat) : Int) % 2 ^ t = 0 := by rw [← cast_shl]; exact Int.mul_emod_left _ _
  have h5 : (q : Int) < 2 ^ t := by
    have : (q : Int) < ((2 ^ t : Nat) : Int) := by omega
    rw [Int.natCast_pow] at this
    exact this
  rw [wrap_u64, Int.emod_eq_of_lt (by omega) (by omega)]
  have h := bits_join .u64 64 (by decide) (fun n a b => by rw [wrap_u64]; omega) t ((n * 2 ^ t : Nat) : Int) (q : Int) (by omega) h4 (by omega) (by omega) h5 (by omega)
  rw [h]; omega
end Go.Proofs.YtodhnmflabehhaaDoor.Hy
namespace Go.Proofs.YtodhnmflabehhaaDoor
open Go.RowKit Go.Proofs.YtodhnmflabehhaaDoorW.PrintWords Hy
open PXorGets

/-- How many 0 bits stand ahead; behind. -/
def lead (n : Nat) : Nat := if n = 0 then 64 else 63 - n.log2
def tz : Nat → Nat → Nat
  | 0, _ => 0
  | d + 1, n => if n % 2 = 1 then 0 else 1 + tz d (n / 2)
def trail (n : Nat) : Nat := if n = 0 then 64 else tz 64 n
theorem lead_says (n : Nat) (hn : n ≠ 0) (h : n < 18446744073709551616) : lead n ≤ 63 ∧ n / 2 ^ (63 - lead n) = 1 := by
  unfold lead
  rw [if_neg hn]
  have h1 := Nat.log2_self_le hn
  have h2 := Nat.lt_log2_self (n := n)
  have h3 : n.log2 < 64 := by
    rcases Nat.lt_or_ge n.log2 64 with h | h
    · exact h
    · have : 2 ^ 64 ≤ 2 ^ n.log2 := Nat.pow_le_pow_right (by omega) h
      omega
  refine ⟨by omega, ?_⟩
  rw [show 63 - (63 - n.log2) = n.log2 by omega]
  have := Nat.pow_succ 2 n.log2
  apply Nat.div_eq_of_lt_le <;> omega
theorem lead_iff (n x : Nat) (h : n < 18446744073709551616) (hx : x < 64) (hl : x ≤ lead n) : n / 2 ^ (63 - x) = 0 ↔ x < lead n := by
  by_cases hn : n = 0
  · subst hn; simp [lead]; exact hx
  · obtain ⟨h1, h2⟩ := lead_says n hn h
    constructor
    · intro e
      rcases Nat.lt_or_ge x (lead n) with h | h
      · exact h
      · obtain rfl : x = lead n := by omega
        omega
    · intro hlt
      apply Nat.div_eq_of_lt
      have h3 : n < 2 ^ (63 - lead n) * 2 := by
        have := Nat.div_add_mod n (2 ^ (63 - lead n))
        have := Nat.mod_lt n (Nat.two_pow_pos (63 - lead n))
        rw [h2] at *; omega
      calc n < 2 ^ (63 - lead n) * 2 := h3
        _ = 2 ^ (63 - lead n + 1) := by rw [Nat.pow_succ]
        _ ≤ 2 ^ (63 - x) := Nat.pow_le_pow_right (by omega) (by omega)
theorem tz_says : ∀ (d n : Nat), n ≠ 0 → n < 2 ^ d → tz d n < d ∧ n / 2 ^ tz d n % 2 = 1 ∧ n % 2 ^ tz d n = 0 ∧ ∀ x, x < tz d n → n / 2 ^ x % 2 = 0 := by
  intro d
  induction d with
  | zero => intro n h0 h; simp at h; omega
  | succ d ih =>
    intro n h0 h
    simp only [tz]
    by_cases h1 : n % 2 = 1
    · rw [if_pos h1]; exact ⟨by omega, by simpa using h1, by simp [Nat.mod_one], fun x hx => by omega⟩
    · rw [if_neg h1]
      obtain ⟨i1, i2, i3, i4⟩ := ih (n / 2) (by omega) (by rw [Nat.pow_succ] at h; omega)
      have e : ∀ k, n / 2 ^ (1 + k) = n / 2 / 2 ^ k := by intro k; rw [Nat.pow_add, Nat.div_div_eq_div_mul, Nat.pow_one]
      refine ⟨by omega, by rw [e]; exact i2, ?_, fun x hx => ?_⟩
      · rw [Nat.pow_add, Nat.pow_one, Nat.mod_mul, i3]; omega
      · cases x with
        | zero => simp; omega
        | succ x => rw [Nat.add_comm x 1, e]; exact i4 x (by omega)
theorem shr_div (n k : Nat) (hk : k ≤ 64) : shr .u64 (n : Int) (k : Int) = ((n / 2 ^ k : Nat) : Int) := by
  unfold shr
  rw [Int.toNat_natCast, Nat.min_eq_left (by simpa [IntKind.bits] using hk), cast_div]
theorem lead_l0 (n : Nat) (h : n < 18446744073709551616) : ∀ (d x k : Nat), x + d = 64 → d < k → x ≤ lead n → bits_Lead.l0 k (n : Int) (x : Int) = some ((lead n : Nat) : Int) := by
  have hl : lead n ≤ 64 := by unfold lead; split <;> omega
  intro d
  induction d with
  | zero =>
    intro x k hx hk hle
    obtain ⟨k, rfl⟩ : ∃ m, k = m + 1 := ⟨k - 1, by omega⟩
    simp only [bits_Lead.l0]
    rw [if_neg (by omega), show x = lead n by omega]
  | succ d ih =>
    intro x k hx hk hle
    obtain ⟨k, rfl⟩ : ∃ m, k = m + 1 := ⟨k - 1, by omega⟩
    have e1 : wrap64 (63 - (x : Int)) = ((63 - x : Nat) : Int) := by unfold wrap64; omega
    have e2 : wrap64 ((x : Int) + 1) = ((x + 1 : Nat) : Int) := by unfold wrap64; omega
    simp only [bits_Lead.l0]
    rw [if_pos (by omega), e1, if_pos (by omega), shr_div _ _ (by omega), e2]
    have hi := lead_iff n x h (by omega) hle
    by_cases hlt : x < lead n
    · rw [if_pos (by rw [hi.2 hlt]; rfl)]
      exact ih (x + 1) k (by omega) (by omega) (by omega)
    · rw [if_neg (by intro e; exact hlt (hi.1 (by omega))), show x = lead n by omega]
theorem lead_any (n : Nat) (w : World) (h : n < 18446744073709551616) : Calls Tryd.prog 14 #[.int .u64 (n : Int)] w fun e w' => e = .returned (.int .i64 ((lead n : Nat) : Int)) ∧ Drawn0 w w' :=
  bits_Lead.calls 70 _ _ w (lead_l0 n h 64 0 70 (by omega) (by omega) (by omega))
theorem trail_l0 (n : Nat) (h : n < 18446744073709551616) : ∀ (d x k : Nat), x + d = 64 → d < k → x ≤ trail n → bits_Trail.l0 k (n : Int) (x : Int) = some ((trail n : Nat) : Int) := by
  have hs : trail n ≤ 64 ∧ ∀ x, x < 64 → x ≤ trail n → (n / 2 ^ x % 2 = 0 ↔ x < trail n) := by
    by_cases hn : n = 0
    · subst hn; simp [trail]; intro x hx _; omega
    · obtain ⟨i1, i2, i3, i4⟩ := tz_says 64 n hn h
      unfold trail
      rw [if_neg hn]
      refine ⟨by omega, fun x hx hxl => ⟨fun e => ?_, fun hlt => i4 x hlt⟩⟩
      rcases Nat.lt_or_ge x (tz 64 n) with h | h
      · exact h
      · obtain rfl : x = tz 64 n := by omega
        omega
  intro d
  induction d with
  | zero =>
    intro x k hx hk hle
    obtain ⟨k, rfl⟩ : ∃ m, k = m + 1 := ⟨k - 1, by omega⟩
    simp only [bits_Trail.l0]
    rw [if_neg (by omega), show x = trail n by omega]
  | succ d ih =>
    intro x k hx hk hle
    obtain ⟨k, rfl⟩ : ∃ m, k = m + 1 := ⟨k - 1, by omega⟩
    have e2 : wrap64 ((x : Int) + 1) = ((x + 1 : Nat) : Int) := by unfold wrap64; omega
    have hb : n / 2 ^ x < 18446744073709551616 := Nat.lt_of_le_of_lt (Nat.div_le_self _ _) h
    simp only [bits_Trail.l0]
    have hi := hs.2 x (by omega) hle
    rw [if_pos (by omega), if_pos (by omega), shr_div _ _ (by omega)]
    generalize n / 2 ^ x = q at *
    rw [and_u64_1 _ (by omega) (by omega), e2]
    by_cases hlt : x < trail n
    · rw [if_pos (by have := hi.2 hlt; omega)]
      exact ih (x + 1) k (by omega) (by omega) (by omega)
    · rw [if_neg (by intro e; exact hlt (hi.1 (by omega))), show x = trail n by omega]
theorem trail_any (n : Nat) (w : World) (h : n < 18446744073709551616) : Calls Tryd.prog 16 #[.int .u64 (n : Int)] w fun e w' => e = .returned (.int .i64 ((trail n : Nat) : Int)) ∧ Drawn0 w w' :=
  bits_Trail.calls 70 _ _ w (trail_l0 n h 64 0 70 (by omega) (by omega) (by omega))
end Go.Proofs.YtodhnmflabehhaaDoor
