import Derived.Laws.BitsLemmas
import Derived.RowKit
import Derived.Laws.BytesArg
import Derived.Test.YtipgdjjmmfkfiaaDoorWWords
import Derived.Below
import Derived.WalkKit
import Derived.Test.YtipgdjjmmfkfiaaDoorProg
import Derived.WideLaws
import Derived.LaidEql
import Derived.Deep.QuietTactic
import Derived.BigQuiet
import Derived.OwnWalk
namespace Go.Proofs.YtipgdjjmmfkfiaaDoor.Hy
open Go.RowKit

/-! ### bits -/
theorem wrap_u64 (n : Int) : IntKind.u64.wrap n = n % 18446744073709551616 := by simp [IntKind.wrap, IntKind.bits, IntKind.signed]
theorem bits_xor_nat (k : IntKind) (a b : Nat) (ha : a < 2 ^ k.bits) (hb : b < 2 ^ k.bits) : Go.bits .xor k a b = k.wrap ((a ^^^ b : Nat) : Int) := by
  simp only [Go.bits, BitVec.ofInt_natCast, BitVec.toNat_xor, BitVec.toNat_ofNat, Nat.mod_eq_of_lt ha, Nat.mod_eq_of_lt hb]
theorem bits_xor_0 (k : IntKind) (x : Int) : Go.bits .xor k x 0 = k.wrap (BitVec.ofInt k.bits x).toNat := by
  have h : BitVec.ofInt k.bits 0 = 0#k.bits := by apply BitVec.eq_of_toInt_eq; simp
  simp only [Go.bits, h, BitVec.xor_zero]
theorem bits_xor_m (k : IntKind) (x y : Int) (h : BitVec.ofInt k.bits y = BitVec.allOnes k.bits) : Go.bits .xor k x y = k.wrap (2 ^ k.bits - 1 - (BitVec.ofInt k.bits x).toNat : Nat) := by
  simp only [Go.bits, h, BitVec.xor_allOnes, BitVec.toNat_not]
theorem ofInt_u64 (x : Int) : ((BitVec.ofInt IntKind.u64.bits x).toNat : Int) = x % 18446744073709551616 := by
  rw [BitVec.toNat_ofInt]; simp [IntKind.bits]; omega
theorem ofInt_i64 (x : Int) : ((BitVec.ofInt IntKind.i64.bits x).toNat : Int) = x % 18446744073709551616 := by
  rw [BitVec.toNat_ofInt]; simp [IntKind.bits]; omega
theorem ofInt_u32 (x : Int) : ((BitVec.ofInt IntKind.u32.bits x).toNat : Int) = x % 4294967296 := by
  rw [BitVec.toNat_ofInt]; simp [IntKind.bits]; omega
theorem ofInt_i32 (x : Int) : ((BitVec.ofInt IntKind.i32.bits x).toNat : Int) = x % 4294967296 := by
  rw [BitVec.toNat_ofInt]; simp [IntKind.bits]; omega
theorem xor_u64_0 (x : Int) (h0 : 0 ≤ x) (h1 : x < 18446744073709551616) : Go.bits .xor .u64 x 0 = x := by
  rw [bits_xor_0, ofInt_u64, wrap_u64]; omega
theorem xor_u64_m (x : Int) (h0 : 0 ≤ x) (h1 : x < 18446744073709551616) : Go.bits .xor .u64 x 18446744073709551615 = 18446744073709551615 - x := by
  rw [bits_xor_m .u64 x _ (by decide +kernel), wrap_u64]
  have := ofInt_u64 x
  simp only [show IntKind.u64.bits = 64 from rfl] at this ⊢
  omega
theorem xor_i64_0 (x : Int) (h0 : -9223372036854775808 ≤ x) (h1 : x < 9223372036854775808) : Go.bits .xor .i64 x 0 = x := by
  rw [bits_xor_0, ofInt_i64, IntKind.wrap_i64]; omega
theorem xor_i64_m (x : Int) (h0 : -9223372036854775808 ≤ x) (h1 : x < 9223372036854775808) : Go.bits .xor .i64 x (-1) = -x - 1 := by
  rw [bits_xor_m .i64 x _ (by decide +kernel), IntKind.wrap_i64]
  have := ofInt_i64 x
  simp only [show IntKind.i64.bits = 64 from rfl] at this ⊢
  omega
theorem xor_u32_0 (x : Int) (h0 : 0 ≤ x) (h1 : x < 4294967296) : Go.bits .xor .u32 x 0 = x := by
  rw [bits_xor_0, ofInt_u32, IntKind.wrap_u32]; omega
theorem xor_u32_m (x : Int) (h0 : 0 ≤ x) (h1 : x < 4294967296) : Go.bits .xor .u32 x 4294967295 = 4294967295 - x := by
  rw [bits_xor_m .u32 x _ (by decide +kernel), IntKind.wrap_u32]
  have := ofInt_u32 x
  simp only [show IntKind.u32.bits = 32 from rfl] at this ⊢
  omega
theorem xor_i32_0 (x : Int) (h0 : -2147483648 ≤ x) (h1 : x < 2147483648) : Go.bits .xor .i32 x 0 = x := by
  rw [bits_xor_0, ofInt_i32, IntKind.wrap_i32]; omega
theorem xor_i32_m (x : Int) (h0 : -2147483648 ≤ x) (h1 : x < 2147483648) : Go.bits .xor .i32 x (-1) = -x - 1 := by
  rw [bits_xor_m .i32 x _ (by decide +kernel), IntKind.wrap_i32]
  have := ofInt_i32 x
  simp only [show IntKind.i32.bits = 32 from rfl] at this ⊢
  omega
theorem and_u64_1 (x : Int) (h0 : 0 ≤ x) (h1 : x < 18446744073709551616) : Go.bits .and .u64 x 1 = x % 2 :=
  bits_mask .u64 64 (by decide) (fun n a b => by rw [wrap_u64]; omega) 1 (by decide) x h0 (by simpa using h1)
theorem and_u64_127 (x : Int) (h0 : 0 ≤ x) (h1 : x < 18446744073709551616) : Go.bits .and .u64 x 127 = x % 128 :=
  bits_mask .u64 64 (by decide) (fun n a b => by rw [wrap_u64]; omega) 7 (by decide) x h0 (by simpa using h1)
theorem and_u64_m32 (x : Int) (h0 : 0 ≤ x) (h1 : x < 18446744073709551616) : Go.bits .and .u64 x 4294967295 = x % 4294967296 :=
  bits_mask .u64 64 (by decide) (fun n a b => by rw [wrap_u64]; omega) 32 (by decide) x h0 (by simpa using h1)
theorem or_nat (k : IntKind) (j : Nat) (hj : j ≤ k.bits) (hk : ∀ n : Int, 0 ≤ n → n < 2 ^ j → k.wrap n = n) (a b : Nat) (ha : a < 2 ^ j) (hb : b < 2 ^ j) : Go.bits .or k a b = ((a ||| b : Nat) : Int) := (bits_nat k j hj hk a b ha hb).2
theorem or_u8_128 (x : Int) (h0 : 0 ≤ x) (h1 : x < 256) : Go.bits .or .u8 x 128 = x % 128 + 128 := by
  obtain ⟨n, rfl⟩ := Int.eq_ofNat_of_zero_le h0
  rw [show (128 : Int) = ((128 : Nat) : Int) from rfl, or_nat .u8 8 (by decide) wraps_u8 n 128 (by omega) (by decide)]
  have hn : n < 256 := by omega
  have : n ||| 128 = n % 128 + 128 := by
    have h : ∀ m : Fin 256, m.val ||| 128 = m.val % 128 + 128 := by decide +kernel
    exact h ⟨n, hn⟩
  rw [this]; simp
theorem or_u64_128 (x : Int) (h0 : 0 ≤ x) (h1 : x < 128) : Go.bits .or .u64 x 128 = x + 128 := by
  obtain ⟨n, rfl⟩ := Int.eq_ofNat_of_zero_le h0
  rw [show (128 : Int) = ((128 : Nat) : Int) from rfl, or_nat .u64 64 (by decide) (fun n a b => by rw [wrap_u64]; omega) n 128 (by omega) (by decide)]
  have hn : n < 128 := by omega
  have : n ||| 128 = n + 128 := by
    have h : ∀ m : Fin 128, m.val ||| 128 = m.val + 128 := by decide +kernel
    exact h ⟨n, hn⟩
  rw [this]; simp
theorem andNot_u8_128 (x : Int) (h0 : 0 ≤ x) (h1 : x < 256) : Go.bits .andNot .u8 x 128 = x % 128 := by
  obtain ⟨n, rfl⟩ := Int.eq_ofNat_of_zero_le h0
  have h : ∀ m : Fin 256, Go.bits .andNot .u8 ((m.val : Nat) : Int) 128 = ((m.val : Nat) : Int) % 128 := by decide +kernel
  exact h ⟨n, by omega⟩
/-- Or of what has no bit in common. -/
theorem or_join_u64 (x y : Int) (i : Nat) (hx0 : 0 ≤ x) (hx : x < 2 ^ i) (hy0 : 0 ≤ y) (hy : y % 2 ^ i = 0) (hx1 : x < 18446744073709551616) (hy1 : y < 18446744073709551616) : Go.bits .or .u64 x y = x + y := by
  obtain ⟨a, rfl⟩ := Int.eq_ofNat_of_zero_le hx0
  obtain ⟨b, rfl⟩ := Int.eq_ofNat_of_zero_le hy0
  have h := bits_join .u64 64 (by decide) (fun n a b => by rw [wrap_u64]; omega) i (b : Int) (a : Int) hy0 hy (by simpa using hy1) hx0 hx (by simpa using hx1)
  have e : Go.bits .or .u64 (a : Int) (b : Int) = Go.bits .or .u64 (b : Int) (a : Int) := by
    simp only [Go.bits, BitVec.or_comm]
  rw [e, h]; omega

/-! ### zigzag -/
def zig (m : Int) : Int := if m < 0 then -2 * m - 1 else 2 * m
def zag (n : Int) : Int := if n % 2 = 1 then -(n / 2) - 1 else n / 2
theorem zag_zig (m : Int) : zag (zig m) = m := by unfold zag zig; split <;> split <;> omega
theorem zig_zag (n : Int) (h : 0 ≤ n) : zig (zag n) = n := by unfold zag zig; split <;> split <;> omega
theorem zig_range (m : Int) (h0 : -9223372036854775808 ≤ m) (h1 : m < 9223372036854775808) : 0 ≤ zig m ∧ zig m < 18446744073709551616 := by unfold zig; split <;> omega
theorem zag_range (n : Int) (h0 : 0 ≤ n) (h1 : n < 18446744073709551616) : -9223372036854775808 ≤ zag n ∧ zag n < 9223372036854775808 := by unfold zag; split <;> omega
theorem zig_range32 (m : Int) (h0 : -2147483648 ≤ m) (h1 : m < 2147483648) : 0 ≤ zig m ∧ zig m < 4294967296 := by unfold zig; split <;> omega
theorem zag_range32 (n : Int) (h0 : 0 ≤ n) (h1 : n < 4294967296) : -2147483648 ≤ zag n ∧ zag n < 2147483648 := by unfold zag; split <;> omega

/-! ### bytes: strings as lists of numbers -/
def bs (s : ByteArray) : List Nat := s.data.toList.map UInt8.toNat
def st (l : List Nat) : ByteArray := ⟨(l.map UInt8.ofNat).toArray⟩
def okB (l : List Nat) : Prop := ∀ x ∈ l, x < 256
theorem bs_ok (s : ByteArray) : okB (bs s) := by
  intro x hx
  obtain ⟨u, _, rfl⟩ := List.mem_map.1 hx
  exact u.toNat_lt
theorem bs_st (l : List Nat) (h : okB l) : bs (st l) = l := by
  unfold bs st
  simp only [List.map_map]
  conv => rhs; rw [← List.map_id l]
  apply List.map_congr_left
  intro x hx
  have := h x hx
  simp [Function.comp]
  omega
theorem st_bs (s : ByteArray) : st (bs s) = s := by
  unfold bs st
  simp only [List.map_map]
  have : (UInt8.ofNat ∘ UInt8.toNat) = id := by funext u; simp
  rw [this]; simp
theorem bs_inj {s t : ByteArray} (h : bs s = bs t) : s = t := by rw [← st_bs s, ← st_bs t, h]
theorem bs_length (s : ByteArray) : (bs s).length = s.size := by unfold bs; simp
theorem st_size (l : List Nat) : (st l).size = l.length := by
  unfold st; show (List.toArray _).size = _; simp
theorem bs_append (s t : ByteArray) : bs (s ++ t) = bs s ++ bs t := by
  unfold bs
  rw [ByteArray.data_append]; simp
theorem st_append (a b : List Nat) : st (a ++ b) = st a ++ st b := by
  unfold st
  apply ByteArray.ext
  rw [ByteArray.data_append]; simp
theorem bs_extract (s : ByteArray) (a b : Nat) : bs (s.extract a b) = ((bs s).take b).drop a := by
  unfold bs
  rw [ByteArray.data_extract]
  simp [List.map_take, List.map_drop, List.drop_take, List.extract_eq_take_drop]
theorem strOfNums_eq (l : List Nat) : strOfNums (l.map fun (n : Nat) => (n : Int)) = st l := by
  unfold strOfNums st
  simp [List.map_map, Function.comp]
end Go.Proofs.YtipgdjjmmfkfiaaDoor.Hy
namespace Go.Proofs.YtipgdjjmmfkfiaaDoor
open Go.RowKit Go.Proofs.YtipgdjjmmfkfiaaDoorW.PrintWords Hy

theorem below_next {w w1 w2 : World} (h : Below w.heap.size w w1) (h' : Below w1.heap.size w1 w2) : Below w.heap.size w w2 := h.trans (h'.mono h.size)
theorem bt_bs (s : ByteArray) (i : Nat) (h : i < s.size) : ∃ c r, (bs s).drop i = c :: r ∧ bt s (i : Int) = (c : Int) ∧ c < 256 ∧ (bs s).drop (i + 1) = r := by
  have hl : i < (bs s).length := by rw [bs_length]; exact h
  refine ⟨(bs s)[i], (bs s).drop (i + 1), List.drop_eq_getElem_cons hl, ?_, bs_ok s _ (List.getElem_mem hl), rfl⟩
  unfold bt
  rw [dif_pos (by simpa using h)]
  simp [bs]
  rfl
end Go.Proofs.YtipgdjjmmfkfiaaDoor
namespace Go.Proofs.YtipgdjjmmfkfiaaDoor
open Go.RowKit Go.Proofs.YtipgdjjmmfkfiaaDoorW.PrintWords

/-- All blocks that were there are as they were, but for those of M. -/
structure Kp (M : Nat → Prop) (w w' : World) : Prop where
  os : w'.os = w.os
  tape : w'.tape = w.tape
  output : w'.output = w.output
  size : w.heap.size ≤ w'.heap.size
  block : ∀ k, k < w.heap.size → ¬ M k → w'.heap[k]? = w.heap[k]?
variable {M M' : Nat → Prop} {w w1 w2 : World}
theorem Kp.refl (M : Nat → Prop) (w : World) : Kp M w w := ⟨rfl, rfl, rfl, Nat.le_refl _, fun _ _ _ => rfl⟩
theorem Kp.trans (h : Kp M w w1) (k : Kp M w1 w2) : Kp M w w2 :=
  ⟨k.os.trans h.os, k.tape.trans h.tape, k.output.trans h.output, Nat.le_trans h.size k.size, fun i hi hm => (k.block i (Nat.lt_of_lt_of_le hi h.size) hm).trans (h.block i hi hm)⟩
theorem Kp.mono (h : Kp M w w1) (hm : ∀ k, M k → M' k) : Kp M' w w1 := ⟨h.os, h.tape, h.output, h.size, fun k hk hn => h.block k hk (fun x => hn (hm k x))⟩
theorem Kp.drewN (h : Kp M w w1) (m : Nat) : Kp M w (w1.drewN m) := ⟨h.os, h.tape, h.output, h.size, h.block⟩
theorem Kp.drew (h : Kp M w w1) : Kp M w w1.drew := ⟨h.os, h.tape, h.output, h.size, h.block⟩
theorem Kp.ofBelow (h : Below w.heap.size w w1) : Kp M w w1 := ⟨h.os, h.tape, h.output, h.size, fun k hk _ => h.block k hk⟩
theorem Kp.toBelow {B : Nat} (h : Kp M w w1) (hB : B ≤ w.heap.size) (hM : ∀ k, M k → B ≤ k) : Below B w w1 :=
  ⟨h.os, h.tape, h.output, h.size, fun k hk => h.block k (Nat.lt_of_lt_of_le hk hB) (fun x => by have := hM k x; omega)⟩
/-- What came behind the call's beginning may have been written to. -/
theorem Kp.below {w0 : World} (h0 : Below w0.heap.size w0 w) (h : Kp M w w1) (hM : ∀ k, M k → w0.heap.size ≤ k) : Below w0.heap.size w0 w1 := h0.trans (h.toBelow h0.size hM)
theorem Kp.next (h : Kp M w w1) (k : Below w1.heap.size w1 w2) : Kp M w w2 := h.trans (Kp.ofBelow k)
theorem Kp.alloc (h : Kp M w w1) (o : Obj) : Kp M w (w1.alloc o) := h.next ((Below.refl _ _).alloc (Nat.le_refl _) o)
theorem Kp.set (h : Kp M w w1) {p : Addr} (hp : M p.block) (u : Value) : Kp M w (w1.setCell p u) :=
  ⟨h.os, h.tape, h.output, by simpa using h.size, fun k hk hn => (Below.heap_setCell w1 p u k (fun e => hn (e ▸ hp))).trans (h.block k hk hn)⟩
theorem Kp.obj {g : Nat} {o : Obj} (h : Kp M w w1) (hb : w.heap[g]? = some o) (hn : ¬ M g) : w1.heap[g]? = some o := (h.block g (blk_lt hb) hn).trans hb
theorem Kp.row {α : Type} {d : Kd α} {e base : Nat} {ok : Nat → Prop} {v : Value} {xs : List α} (h : Kp M w w1) (hr : d.R e w base ok v xs) (hok : ∀ k, ok k → ¬ M k) : d.R e w1 base ok v xs := Kd.R_step hr (fun k ho hk => h.block k hk (hok k ho))
theorem Kp.own {base : Nat} {e : TypeId} {size n : Nat} {v : Value} {xs : List Value} (h : Kp M w w1) (ho : w.ownsRow base e size v n xs) (hn : ∀ k, v.ownBlock = some k → ¬ M k) : w1.ownsRow base e size v n xs :=
  own_move ho (fun k hk => h.block k (own_lt ho k hk) (hn k hk))
end Go.Proofs.YtipgdjjmmfkfiaaDoor
namespace Go.Proofs.YtipgdjjmmfkfiaaDoor
open Go.RowKit

/-- What an error tells. -/
inductive Err where
  | nil : Err
  | code : Int → Err
  | at_ : Int → Err → Err
  | fld : Int → Err → Err
  | oth : Err

/-- A value that tells an error, in a world. -/
def IsE (w : World) : Err → Value → Prop
  | .nil, v => v = .nilIface
  | .code c, v => v = .iface 22 (.int .i64 c)
  | .at_ n e, v => ∃ a u, v = .iface 40 (.pointer (some ⟨a, 0, none⟩)) ∧ w.heap[a]? = some (.cells #[.int .i64 n, u] 46 (0, 0)) ∧ IsE w e u
  | .fld n e, v => ∃ a u, v = .iface 41 (.pointer (some ⟨a, 0, none⟩)) ∧ w.heap[a]? = some (.cells #[.int .i64 n, u] 48 (0, 0)) ∧ IsE w e u
  | .oth, v => ∃ a s, v = .iface 58 (.pointer (some ⟨a, 0, none⟩)) ∧ w.heap[a]? = some (.cells #[.string s] 60 (0, 0))

theorem at_any (n : Int) (u : Value) (w : World) (h : ∃ T x, u = .iface T x) :
    Calls Tryd.prog 14 #[.int .i64 n, u] w fun e w' => e = .returned (.iface 40 (.pointer (some ⟨w.heap.size, 0, none⟩))) ∧ w' = w.alloc (.cells #[.int .i64 n, u] 46 (0, 0)) := by
  obtain ⟨T, x, rfl⟩ := h
  go_enter Tryd.func14, Tryd.ntmps14
  go_wp2
  go_ret
  exact ⟨rfl, rfl⟩

theorem in_any (n : Int) (u : Value) (w : World) (h : ∃ T x, u = .iface T x) :
    Calls Tryd.prog 15 #[.int .i64 n, u] w fun e w' => e = .returned (.iface 41 (.pointer (some ⟨w.heap.size, 0, none⟩))) ∧ w' = w.alloc (.cells #[.int .i64 n, u] 48 (0, 0)) := by
  obtain ⟨T, x, rfl⟩ := h
  go_enter Tryd.func15, Tryd.ntmps15
  go_wp2
  go_ret
  exact ⟨rfl, rfl⟩
theorem at_nil (n : Int) (w : World) : Calls Tryd.prog 14 #[.int .i64 n, .nilIface] w fun e w' => e = .returned .nilIface ∧ w' = w := by
  go_enter Tryd.func14, Tryd.ntmps14
  go_wp2
  go_ret
  exact ⟨rfl, rfl⟩
theorem in_nil (n : Int) (w : World) : Calls Tryd.prog 15 #[.int .i64 n, .nilIface] w fun e w' => e = .returned .nilIface ∧ w' = w := by
  go_enter Tryd.func15, Tryd.ntmps15
  go_wp2
  go_ret
  exact ⟨rfl, rfl⟩
theorem errNew_any (s : ByteArray) (w : World) : Calls Tryd.prog 13 #[.string s] w fun e w' => e = .returned (.iface 58 (.pointer (some ⟨w.heap.size, 0, none⟩))) ∧ w' = w.alloc (.cells #[.string s] 60 (0, 0)) := by
  go_enter Tryd.func13, Tryd.ntmps13
  go_wp2
  go_ret
  exact ⟨rfl, rfl⟩

theorem IsE.below {w w' : World} {e : Err} : ∀ {v : Value}, IsE w e v → Below w.heap.size w w' → IsE w' e v := by
  induction e with
  | nil => intro v h _; exact h
  | code c => intro v h _; exact h
  | at_ n e ih =>
    intro v h hb
    obtain ⟨a, u, rfl, ha, hu⟩ := h
    exact ⟨a, u, rfl, by rw [hb.block a (Array.getElem?_eq_some_iff.1 ha).1]; exact ha, ih hu hb⟩
  | fld n e ih =>
    intro v h hb
    obtain ⟨a, u, rfl, ha, hu⟩ := h
    exact ⟨a, u, rfl, by rw [hb.block a (Array.getElem?_eq_some_iff.1 ha).1]; exact ha, ih hu hb⟩
  | oth =>
    intro v h hb
    obtain ⟨a, s, rfl, ha⟩ := h
    exact ⟨a, s, rfl, by rw [hb.block a (Array.getElem?_eq_some_iff.1 ha).1]; exact ha⟩
theorem IsE.iface {w : World} {e : Err} {v : Value} (h : IsE w e v) (he : e ≠ .nil) : ∃ T x, v = .iface T x := by
  cases e with
  | nil => exact absurd rfl he
  | code c => exact ⟨_, _, h⟩
  | at_ n e => obtain ⟨a, u, rfl, _⟩ := h; exact ⟨_, _, rfl⟩
  | fld n e => obtain ⟨a, u, rfl, _⟩ := h; exact ⟨_, _, rfl⟩
  | oth => obtain ⟨a, s, rfl, _⟩ := h; exact ⟨_, _, rfl⟩
theorem IsE.new {w : World} {n : Int} {e : Err} {u : Value} (h : IsE w e u) : IsE (w.alloc (.cells #[.int .i64 n, u] 46 (0, 0))) (.at_ n e) (.iface 40 (.pointer (some ⟨w.heap.size, 0, none⟩))) :=
  ⟨_, _, rfl, heap_alloc_new _ _, h.below ((Below.refl _ _).alloc (Nat.le_refl _) _)⟩
theorem IsE.newF {w : World} {n : Int} {e : Err} {u : Value} (h : IsE w e u) : IsE (w.alloc (.cells #[.int .i64 n, u] 48 (0, 0))) (.fld n e) (.iface 41 (.pointer (some ⟨w.heap.size, 0, none⟩))) :=
  ⟨_, _, rfl, heap_alloc_new _ _, h.below ((Below.refl _ _).alloc (Nat.le_refl _) _)⟩
/-- A wrap by At, or by In; nothing stays nothing. -/
def wrapE : Err → Bool × Int → Err
  | .nil, _ => .nil
  | e, (true, n) => .at_ n e
  | e, (false, n) => .fld n e
/-- blame.At, blame.In at whatever error. -/
theorem at_wrap (n : Int) (e0 : Err) (u : Value) (w : World) (hu : IsE w e0 u) :
    Calls Tryd.prog 14 #[.int .i64 n, u] w fun e w' => ∃ v, e = .returned v ∧ IsE w' (wrapE e0 (true, n)) v ∧ Below w.heap.size w w' := by
  by_cases h : e0 = .nil
  · subst h
    obtain rfl : u = .nilIface := hu
    refine (at_nil n w).mono ?_
    rintro e w' ⟨rfl, rfl⟩
    exact ⟨_, rfl, rfl, Below.refl _ _⟩
  · refine (at_any n u w (hu.iface h)).mono ?_
    rintro e w' ⟨rfl, rfl⟩
    refine ⟨_, rfl, ?_, (Below.refl _ _).alloc (Nat.le_refl _) _⟩
    cases e0 <;> first | exact absurd rfl h | exact IsE.new hu
theorem in_wrap (n : Int) (e0 : Err) (u : Value) (w : World) (hu : IsE w e0 u) :
    Calls Tryd.prog 15 #[.int .i64 n, u] w fun e w' => ∃ v, e = .returned v ∧ IsE w' (wrapE e0 (false, n)) v ∧ Below w.heap.size w w' := by
  by_cases h : e0 = .nil
  · subst h
    obtain rfl : u = .nilIface := hu
    refine (in_nil n w).mono ?_
    rintro e w' ⟨rfl, rfl⟩
    exact ⟨_, rfl, rfl, Below.refl _ _⟩
  · refine (in_any n u w (hu.iface h)).mono ?_
    rintro e w' ⟨rfl, rfl⟩
    refine ⟨_, rfl, ?_, (Below.refl _ _).alloc (Nat.le_refl _) _⟩
    cases e0 <;> first | exact absurd rfl h | exact IsE.newF hu
end Go.Proofs.YtipgdjjmmfkfiaaDoor
