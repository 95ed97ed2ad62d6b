import Derived.Test.YtnghlkbmfhkmoaaGreatDoorMbhwgezqr
import Derived.Test.YtnghlkbmfhkmoaaGreatDoorMiviyhdre
import Derived.Test.YtnghlkbmfhkmoaaGreatDoorMhhfprggg
import Derived.Below
import Derived.WalkKit
import Derived.Laws.AppendOwn
import Derived.Laws.IdiomStrings
import Derived.KernelRfl
import Derived.ChangeArms
import Derived.Test.YtnghlkbmfhkmoaaGreatDoorChecked
import Derived.OpenShut
namespace Go.Proofs.YtnghlkbmfhkmoaaGreatDoor
open Go.RowKit Go.Proofs.YtnghlkbmfhkmoaaGreatDoorW.PrintWords Go.Proofs.YtnghlkbmfhkmoaaGreatDoorW.PrintLast Go.Proofs.YtnghlkbmfhkmoaaGreatDoorW.PrintMore Hy
open CExw
theorem put_l0 : ∀ (j n : Nat) (k : Nat) (acc : List Nat), n < 2 ^ (7 * (j + 1)) → n < 18446744073709551616 → acc.length + j < 1000 → j < k →
    varint_Put.l0 k (n : Int) (acc.map fun (x : Nat) => (x : Int)) = some (st (acc ++ putL n)) := by
  intro j
  induction j with
  | zero =>
    intro n k acc h h64 hl hk
    obtain ⟨k, rfl⟩ : ∃ m, k = m + 1 := ⟨k - 1, by omega⟩
    have hn : n < 128 := by simpa using h
    simp only [varint_Put.l0]
    rw [if_neg (by omega), if_pos (by simp; omega), putL_lo n hn, ← strOfNums_eq, show (n : Int) % 256 = n by omega]
    simp
  | succ j ih =>
    intro n k acc h h64 hl hk
    obtain ⟨k, rfl⟩ : ∃ m, k = m + 1 := ⟨k - 1, by omega⟩
    simp only [varint_Put.l0]
    by_cases hn : n < 128
    · rw [if_neg (by omega), if_pos (by simp; omega), putL_lo n hn, ← strOfNums_eq, show (n : Int) % 256 = n by omega]
      simp
    · have h' : n / 128 < 2 ^ (7 * (j + 1)) := by
        rw [Nat.div_lt_iff_lt_mul (by omega)]
        calc n < _ := h
          _ = _ := by rw [show 7 * (j + 1 + 1) = 7 * (j + 1) + 7 by omega, Nat.pow_add]
      have := ih (n / 128) k (acc ++ [n % 128 + 128]) h' (by omega) (by simp; omega) (by omega)
      rw [if_pos (by omega), if_pos (by simp; omega), putL_hi n hn, or_u8_128 _ (by omega) (by omega)]
      rw [List.append_assoc] at this
      simp only [List.cons_append, List.nil_append] at this
      rw [← this]
      have e : ((n : Int) / 128) = ((n / 128 : Nat) : Int) := by omega
      have e2 : (n : Int) % 256 % 128 + 128 = ((n % 128 + 128 : Nat) : Int) := by omega
      rw [e, e2]
      simp
theorem put_f (n : Int) (h0 : 0 ≤ n) (h1 : n < 18446744073709551616) : varint_Put.f 10 n = some (put n) := by
  obtain ⟨n, rfl⟩ := Int.eq_ofNat_of_zero_le h0
  have := put_l0 9 n 10 [] (by omega) (by omega) (by simp) (by omega)
  simpa [varint_Put.f, put] using this
theorem put_any (n : Int) (w : World) (h0 : 0 ≤ n) (h1 : n < 18446744073709551616) :
    Calls Tryz.prog 88 #[.int .u64 n] w fun e w' => e = .returned (.string (put n)) ∧ Below w.heap.size w w' :=
  varint_Put.calls 10 n _ w (put_f n h0 h1)
theorem w7 (i : Nat) (hi : i ≤ 9) : wrap64 (7 * (i : Int)) = 7 * i := by unfold wrap64; omega
theorem shl7 (x : Int) (i : Nat) (hi : i ≤ 9) (h0 : 0 ≤ x) (h1 : x * 2 ^ (7 * i) < 18446744073709551616) : shl .u64 x (wrap64 (7 * (i : Int))) = x * 2 ^ (7 * i) := by
  have e0 : wrap64 (7 * (i : Int)) = 7 * i := by unfold wrap64; omega
  have e : (wrap64 (7 * (i : Int))).toNat = 7 * i := by rw [e0]; omega
  unfold shl
  rw [e, Nat.min_eq_left (by simp [IntKind.bits]; omega), wrap_u64]
  have : 0 ≤ x * 2 ^ (7 * i) := Int.mul_nonneg h0 (Int.pow_nonneg (by decide))
  exact Int.emod_eq_of_lt this h1
theorem step7 (c i acc : Nat) (hi : i ≤ 9) (hc : c < 256) (h9 : i = 9 → c ≤ 1) (ha : acc < 2 ^ (7 * i)) :
    Go.bits .or .u64 (acc : Int) (shl .u64 (IntKind.u64.wrap (Go.bits .andNot .u8 (c : Int) 128)) (wrap64 (7 * (i : Int)))) = ((acc + c % 128 * 2 ^ (7 * i) : Nat) : Int) ∧ acc + c % 128 * 2 ^ (7 * i) < 18446744073709551616 ∧ (i ≤ 8 → acc + c % 128 * 2 ^ (7 * i) < 2 ^ (7 * (i + 1))) := by
  have hpow : 2 ^ (7 * i) * 2 ^ (64 - 7 * i) = 18446744073709551616 := by
    rw [← Nat.pow_add, show 7 * i + (64 - 7 * i) = 64 by omega]
  have hp : 2 ^ (7 * (i + 1)) = 128 * 2 ^ (7 * i) := by rw [show 7 * (i + 1) = 7 * i + 7 by omega, Nat.pow_add]; omega
  have hb : c % 128 + 1 ≤ 2 ^ (64 - 7 * i) := by
    by_cases e : i = 9
    · have := h9 e; subst e; simp; omega
    · calc c % 128 + 1 ≤ 2 ^ 7 := by omega
        _ ≤ _ := Nat.pow_le_pow_right (by omega) (by omega)
  have hlt : acc + c % 128 * 2 ^ (7 * i) < 18446744073709551616 := by
    calc acc + c % 128 * 2 ^ (7 * i) < (c % 128 + 1) * 2 ^ (7 * i) := by rw [Nat.add_mul]; omega
      _ ≤ 2 ^ (64 - 7 * i) * 2 ^ (7 * i) := Nat.mul_le_mul_right _ hb
      _ = _ := by rw [Nat.mul_comm]; exact hpow
  have hy : c % 128 * 2 ^ (7 * i) < 18446744073709551616 := by omega
  have hi64 : 2 ^ (7 * i) ≤ 18446744073709551616 := by rw [← hpow]; exact Nat.le_mul_of_pos_right _ (Nat.two_pow_pos _)
  refine ⟨?_, hlt, fun _ => ?_⟩
  · have e1 : IntKind.u64.wrap (Go.bits .andNot .u8 (c : Int) 128) = ((c % 128 : Nat) : Int) := by
      rw [andNot_u8_128 _ (by omega) (by omega), wrap_u64]; omega
    have e2 : ((c % 128 : Nat) : Int) * 2 ^ (7 * i) = ((c % 128 * 2 ^ (7 * i) : Nat) : Int) := by rw [Int.natCast_mul, Int.natCast_pow]; rfl
    rw [e1, shl7 _ i hi (by omega) (by rw [e2]; omega), e2, or_join_u64 _ _ (7 * i) (by omega) (by exact_mod_cast ha) (by omega) ?_ (by omega) (by omega)]
    · omega
    · have : c % 128 * 2 ^ (7 * i) % 2 ^ (7 * i) = 0 := Nat.mul_mod_left _ _
      exact_mod_cast this
  · rw [hp]
    have : c % 128 * 2 ^ (7 * i) ≤ 127 * 2 ^ (7 * i) := Nat.mul_le_mul_right _ (by omega)
    omega
theorem read_9 (s : ByteArray) (acc k : Nat) (hle : 9 ≤ s.size) (ha : acc < 2 ^ (7 * 9)) :
    varint_read.l0 (k + 2) s (acc : Int) (mn (s.size : Int) 10) ((9 : Nat) : Int) = match dec 9 ((bs s).drop 9) with
      | .inl c => some (0, 0, some (c : Int))
      | .inr (v, m) => some (((acc + v : Nat) : Int), ((9 + m : Nat) : Int), none) := by
  by_cases hlt : 9 < s.size
  · obtain ⟨c, r, h1, h2, h3, h4⟩ := bt_bs s 9 hlt
    have hA : ((9 : Nat) : Int) < mn (s.size : Int) 10 := by unfold mn; split <;> omega
    have hB : 0 ≤ ((9 : Nat) : Int) := by omega
    have hC : ((9 : Nat) : Int) < (s.size : Int) := by omega
    have hD : ((9 : Nat) : Int) = 9 := rfl
    have e1 : wrap64 (((9 : Nat) : Int) + 1) = ((9 + 1 : Nat) : Int) := by unfold wrap64; omega
    have hE : 0 ≤ wrap64 (7 * ((9 : Nat) : Int)) := by rw [w7 9 (by omega)]; omega
    by_cases hc : 1 < c
    · have hT : decide ((c : Int) > 1) = true := by simp; omega
      rw [h1, dec_big c r hc]
      simp only [varint_read.l0, varint_read.j1]
      rw [if_pos hA, if_pos hB, if_pos hC, if_pos hD, h2, if_pos hT]
      rfl
    · have hT : ¬ (decide ((c : Int) > 1) = true) := by simp; omega
      have hF : (c : Int) < 128 := by omega
      have this := (step7 c 9 acc (by omega) h3 (fun _ => by omega) ha).1
      rw [h1, dec_end 9 c r (by omega) (by omega)]
      simp only [varint_read.l0, varint_read.j1]
      rw [if_pos hA, if_pos hB, if_pos hC, if_pos hD, h2, if_neg hT, if_pos hE, if_pos hF, this, Nat.mod_eq_of_lt (show c < 128 by omega), e1]
  · rw [List.drop_of_length_le (by rw [bs_length]; omega), dec_nil]
    simp only [varint_read.l0]
    rw [if_neg (by unfold mn; split <;> omega)]
    rfl
theorem read_step (s : ByteArray) (i acc k : Nat) (hi : i ≤ 8) (hlt : i < s.size) (ha : acc < 2 ^ (7 * i)) (c : Nat) (r : List Nat) (_h1 : (bs s).drop i = c :: r) (h2 : bt s (i : Int) = (c : Int)) (h3 : c < 256) (hF : (c : Int) < 128) :
    varint_read.l0 (k + 2) s (acc : Int) (mn (s.size : Int) 10) (i : Int) = some (((acc + c * 2 ^ (7 * i) : Nat) : Int), ((i + 1 : Nat) : Int), none) := by
  have hA : (i : Int) < mn (s.size : Int) 10 := by unfold mn; split <;> omega
  have hB : 0 ≤ (i : Int) := by omega
  have hC : (i : Int) < (s.size : Int) := by omega
  have hD : ¬ (i : Int) = 9 := by omega
  have hE : 0 ≤ wrap64 (7 * (i : Int)) := by rw [w7 i (by omega)]; omega
  have hT : ¬ (false = true) := by simp
  have hm : c % 128 = c := Nat.mod_eq_of_lt (by omega)
  have e1 : wrap64 ((i : Int) + 1) = ((i + 1 : Nat) : Int) := by unfold wrap64; omega
  have hs7 := (step7 c i acc (by omega) h3 (fun h => by omega) ha).1
  simp only [varint_read.l0, varint_read.j1]
  rw [if_pos hA, if_pos hB, if_pos hC, if_neg hD, h2, if_neg hT, if_pos hE, if_pos hF, hs7, e1, hm]
theorem read_step2 (s : ByteArray) (i acc k : Nat) (hi : i ≤ 8) (hlt : i < s.size) (ha : acc < 2 ^ (7 * i)) (c : Nat) (r : List Nat) (_h1 : (bs s).drop i = c :: r) (h2 : bt s (i : Int) = (c : Int)) (h3 : c < 256) (hF : ¬ (c : Int) < 128) :
    varint_read.l0 (k + 2) s (acc : Int) (mn (s.size : Int) 10) (i : Int) = varint_read.l0 k s ((acc + (c - 128) * 2 ^ (7 * i) : Nat) : Int) (mn (s.size : Int) 10) ((i + 1 : Nat) : Int) ∧ acc + (c - 128) * 2 ^ (7 * i) < 2 ^ (7 * (i + 1)) := by
  have hA : (i : Int) < mn (s.size : Int) 10 := by unfold mn; split <;> omega
  have hB : 0 ≤ (i : Int) := by omega
  have hC : (i : Int) < (s.size : Int) := by omega
  have hD : ¬ (i : Int) = 9 := by omega
  have hE : 0 ≤ wrap64 (7 * (i : Int)) := by rw [w7 i (by omega)]; omega
  have hT : ¬ (false = true) := by simp
  have hm : c % 128 = c - 128 := by omega
  have e1 : wrap64 ((i : Int) + 1) = ((i + 1 : Nat) : Int) := by unfold wrap64; omega
  obtain ⟨hs7, _, hs8⟩ := step7 c i acc (by omega) h3 (fun h => by omega) ha
  have hs9 := hs8 hi
  rw [hm] at hs7 hs9
  refine ⟨?_, hs9⟩
  rw [varint_read.l0, if_pos hA, if_pos hB, if_pos hC, if_neg hD, h2, varint_read.j1, if_neg hT, if_pos hE, if_neg hF, hs7, e1]
theorem read_both : ∀ (d : Nat) (s : ByteArray) (i acc k : Nat), i + d = 9 → i ≤ s.size → acc < 2 ^ (7 * i) → 2 * d + 3 ≤ k →
    varint_read.l0 k s (acc : Int) (mn (s.size : Int) 10) (i : Int) = match dec i ((bs s).drop i) with
      | .inl c => some (0, 0, some (c : Int))
      | .inr (v, m) => some (((acc + v : Nat) : Int), ((i + m : Nat) : Int), none) := by
  intro d
  induction d with
  | zero =>
    intro s i acc k hi hle ha hk
    obtain rfl : i = 9 := by omega
    obtain ⟨k, rfl⟩ : ∃ m, k = m + 2 := ⟨k - 2, by omega⟩
    exact read_9 s acc k hle ha
  | succ d ih =>
    intro s i acc k hi hle ha hk
    obtain ⟨k, rfl⟩ : ∃ m, k = m + 2 := ⟨k - 2, by omega⟩
    have hi8 : i ≤ 8 := by omega
    by_cases hlt : i < s.size
    · obtain ⟨c, r, h1, h2, h3, h4⟩ := bt_bs s i hlt
      have hN : ¬ (i = 9 ∧ 1 < c) := by omega
      by_cases hc : c < 128
      · rw [h1, dec_end i c r hN hc]
        exact read_step s i acc k hi8 hlt ha c r h1 h2 h3 (by omega)
      · obtain ⟨e, hb⟩ := read_step2 s i acc k hi8 hlt ha c r h1 h2 h3 (by omega)
        have IH := ih s (i + 1) _ k (by omega) (by omega) hb (by omega)
        rw [h4] at IH
        rw [h1, dec_on i c r hN hc, e, IH]
        cases dec (i + 1) r with
        | inl x => rfl
        | inr x =>
          obtain ⟨v, m⟩ := x
          show some (((acc + (c - 128) * 2 ^ (7 * i) + v : Nat) : Int), ((i + 1 + m : Nat) : Int), Option.none) = some (((acc + ((c - 128) * 2 ^ (7 * i) + v) : Nat) : Int), ((i + (m + 1) : Nat) : Int), Option.none)
          rw [Nat.add_assoc acc, Nat.add_assoc i, Nat.add_comm 1 m]
    · rw [List.drop_of_length_le (by rw [bs_length]; omega), dec_nil, varint_read.l0, if_neg (by unfold mn; split <;> omega)]
      rfl
theorem read_f (s : ByteArray) : varint_read.f 30 s = match dec 0 (bs s) with
      | .inl c => some (0, 0, some (c : Int))
      | .inr (v, m) => some ((v : Int), (m : Int), none) := by
  have := read_both 9 s 0 0 30 rfl (by omega) (by simp) (by omega)
  simp only [varint_read.f]
  simp only [Int.natCast_zero, Nat.zero_add, List.drop_zero] at this
  exact this
end Go.Proofs.YtnghlkbmfhkmoaaGreatDoor
namespace Go.Proofs.YtnghlkbmfhkmoaaGreatDoor
open Go.RowKit Go.Proofs.YtnghlkbmfhkmoaaGreatDoorW.PrintWords
/-- All blocks that were there are as they were, but for those of M. -/
structure Kp (M : Nat → Prop) (w w' : World) : Prop where
  os : w'.os = w.os
  tape : w'.tape = w.tape
  output : w'.output = w.output
  size : w.heap.size ≤ w'.heap.size
  block : ∀ k, k < w.heap.size → ¬ M k → w'.heap[k]? = w.heap[k]?
variable {M M' : Nat → Prop} {w w1 w2 : World}
theorem Kp.refl (M : Nat → Prop) (w : World) : Kp M w w := ⟨rfl, rfl, rfl, Nat.le_refl _, fun _ _ _ => rfl⟩
theorem Kp.trans (h : Kp M w w1) (k : Kp M w1 w2) : Kp M w w2 :=
  ⟨k.os.trans h.os, k.tape.trans h.tape, k.output.trans h.output, Nat.le_trans h.size k.size, fun i hi hm => (k.block i (Nat.lt_of_lt_of_le hi h.size) hm).trans (h.block i hi hm)⟩
theorem Kp.mono (h : Kp M w w1) (hm : ∀ k, M k → M' k) : Kp M' w w1 := ⟨h.os, h.tape, h.output, h.size, fun k hk hn => h.block k hk (fun x => hn (hm k x))⟩
theorem Kp.drewN (h : Kp M w w1) (m : Nat) : Kp M w (w1.drewN m) := ⟨h.os, h.tape, h.output, h.size, h.block⟩
theorem Kp.drew (h : Kp M w w1) : Kp M w w1.drew := ⟨h.os, h.tape, h.output, h.size, h.block⟩
theorem Kp.ofBelow (h : Below w.heap.size w w1) : Kp M w w1 := ⟨h.os, h.tape, h.output, h.size, fun k hk _ => h.block k hk⟩
theorem Kp.toBelow {B : Nat} (h : Kp M w w1) (hB : B ≤ w.heap.size) (hM : ∀ k, M k → B ≤ k) : Below B w w1 :=
  ⟨h.os, h.tape, h.output, h.size, fun k hk => h.block k (Nat.lt_of_lt_of_le hk hB) (fun x => by have := hM k x; omega)⟩
/-- What came behind the call's beginning may have been written to. -/
theorem Kp.below {w0 : World} (h0 : Below w0.heap.size w0 w) (h : Kp M w w1) (hM : ∀ k, M k → w0.heap.size ≤ k) : Below w0.heap.size w0 w1 := h0.trans (h.toBelow h0.size hM)
theorem Kp.next (h : Kp M w w1) (k : Below w1.heap.size w1 w2) : Kp M w w2 := h.trans (Kp.ofBelow k)
theorem Kp.alloc (h : Kp M w w1) (o : Obj) : Kp M w (w1.alloc o) := h.next ((Below.refl _ _).alloc (Nat.le_refl _) o)
theorem Kp.set (h : Kp M w w1) {p : Addr} (hp : M p.block) (u : Value) : Kp M w (w1.setCell p u) :=
  ⟨h.os, h.tape, h.output, by simpa using h.size, fun k hk hn => (Below.heap_setCell w1 p u k (fun e => hn (e ▸ hp))).trans (h.block k hk hn)⟩
theorem Kp.obj {g : Nat} {o : Obj} (h : Kp M w w1) (hb : w.heap[g]? = some o) (hn : ¬ M g) : w1.heap[g]? = some o := (h.block g (blk_lt hb) hn).trans hb
theorem Kp.row {α : Type} {d : Kd α} {e base : Nat} {ok : Nat → Prop} {v : Value} {xs : List α} (h : Kp M w w1) (hr : d.R e w base ok v xs) (hok : ∀ k, ok k → ¬ M k) : d.R e w1 base ok v xs := Kd.R_step hr (fun k ho hk => h.block k hk (hok k ho))
theorem Kp.own {base : Nat} {e : TypeId} {size n : Nat} {v : Value} {xs : List Value} (h : Kp M w w1) (ho : w.ownsRow base e size v n xs) (hn : ∀ k, v.ownBlock = some k → ¬ M k) : w1.ownsRow base e size v n xs :=
  own_move ho (fun k hk => h.block k (own_lt ho k hk) (hn k hk))
end Go.Proofs.YtnghlkbmfhkmoaaGreatDoor
namespace Go.Proofs.YtnghlkbmfhkmoaaGreatDoor
open Go.RowKit Hy
/-! ### a row that bears a mark behind its cells: one more cell -/
/-- A row of bytes of the call's own, perhaps marked behind its cells. -/
def MR (e : TypeId) (B : Nat) (v : Value) (L : List Value) (w : World) : Prop :=
  ∃ g cap cur fr, v = .slice (some ⟨g, 0, none⟩) L.length cap ∧ B ≤ g ∧ w.heap[g]? = some (.cells cur e fr) ∧ cur.size = cap ∧ L.length ≤ cap ∧ cap ≤ maxLen ∧ (∀ (i : Nat) (u : Value), L[i]? = some u → cur[i]? = some u) ∧ (fr = (0, 0) ∨ cap ≤ fr.1)
/-- Bytes as they lie. -/
def bv (L : List Nat) : List Value := L.map fun (n : Nat) => Value.int .u8 (n : Int)
theorem bv_length (L : List Nat) : (bv L).length = L.length := by simp [bv]
theorem mr_new (e : TypeId) (B : Nat) (w : World) (s : ByteArray) (hB : B ≤ w.heap.size) (hs : s.size ≤ 1000) :
    MR e B (.slice (some ⟨w.heap.size, 0, none⟩) s.size (grownCap w s.size 0 e)) (bv (bs s)) (w.drew.alloc (.cells (bytesRow s (grownCap w s.size 0 e)) e ((bytesRow s (grownCap w s.size 0 e)).size, (bytesRow s (grownCap w s.size 0 e)).size + 1))) := by
  have hge := grownCap_ge w s.size 0 e
  have hsz : (bytesRow s (grownCap w s.size 0 e)).size = grownCap w s.size 0 e := by
    unfold bytesRow
    rw [Array.size_append, Array.size_map, Array.size_replicate]
    have : s.data.size = s.size := rfl
    omega
  have hlen : (bv (bs s)).length = s.size := by rw [bv_length, bs_length]
  refine ⟨w.heap.size, grownCap w s.size 0 e, bytesRow s (grownCap w s.size 0 e), ((bytesRow s (grownCap w s.size 0 e)).size, (bytesRow s (grownCap w s.size 0 e)).size + 1), by rw [hlen], hB, ?_, hsz, by rw [hlen]; exact hge, grownCap_le_maxLen w _ _ e (by unfold maxLen; omega), ?_, .inr (by rw [hsz]; exact Nat.le_refl _)⟩
  · show (w.heap.push _)[w.heap.size]? = _
    simp
  · intro i u hi
    have hil : i < (bv (bs s)).length := (List.getElem?_eq_some_iff.1 hi).1
    rw [hlen] at hil
    unfold bytesRow
    rw [Array.getElem?_append_left (by rw [Array.size_map]; exact hil)]
    unfold bv bs at hi
    rw [List.map_map] at hi
    rw [← hi, ← Array.getElem?_toList, Array.toList_map]
    rfl
theorem mr_string {P : Program} {w : World} (src dst e : TypeId) (hs : P.underlying src = some (.slice e)) (he : P.underlying e = some (.int .u8)) (hd : P.underlying dst = some .string) {B g cap cap' : Nat} {L : List Nat} (hL : okB L) (hm : MR e B (.slice (some ⟨g, 0, none⟩) L.length cap) (bv L) w) (m : Nat) (hml : m ≤ L.length) :
    (convert src dst (.slice (some ⟨g, 0, none⟩) m cap')).run P w = .ok (.string (st (L.take m))) w := by
  obtain ⟨g', cp, cur, fr, hv, _, hh, hcs, hlc, hcap, hcell, hfr⟩ := hm
  injection hv with hv1 hv2 hv3
  injection hv1 with hv1
  injection hv1 with hv1
  subst hv1
  have h := run_convert_bytes_back (P := P) w src dst e ⟨g, 0, none⟩ cap' ((L.take m).map UInt8.ofNat) hs he hd (by
    intro j hj
    have hjm : j < (L.take m).length := by simpa using hj
    have hjl : j < L.length := by rw [List.length_take] at hjm; omega
    rw [Addr.add_lit, Nat.zero_add, cell_of_row w g j cur e fr hh]
    rw [hcell j (.int .u8 (L[j] : Int)) (by unfold bv; simp [hjl])]
    have hb : L[j] < 256 := hL _ (List.getElem_mem hjl)
    simp only [List.getElem_map, List.getElem_take]
    congr 2
    simp
    omega)
  rw [List.length_map, List.length_take, Nat.min_eq_left hml] at h
  exact h
end Go.Proofs.YtnghlkbmfhkmoaaGreatDoor
namespace Go.Proofs.YtnghlkbmfhkmoaaGreatDoor
open Go.RowKit Go.Proofs.YtnghlkbmfhkmoaaGreatDoorW.PrintWords Go.Proofs.YtnghlkbmfhkmoaaGreatDoorW.PrintLast Go.Proofs.YtnghlkbmfhkmoaaGreatDoorW.PrintMore Hy
open CExw
/-! ### a number's bytes, the least first -/
def leL : Nat → Nat → List Nat
  | 0, _ => []
  | k + 1, n => n % 256 :: leL k (n / 256)
theorem leL_length : ∀ (k n : Nat), (leL k n).length = k := by
  intro k
  induction k with
  | zero => intro n; rfl
  | succ k ih => intro n; simp only [leL, List.length_cons, ih]
theorem leL_snoc : ∀ (k n : Nat), leL (k + 1) n = leL k n ++ [n / 256 ^ k % 256] := by
  intro k
  induction k with
  | zero => intro n; simp [leL]
  | succ k ih =>
    intro n
    rw [show leL (k + 1 + 1) n = n % 256 :: leL (k + 1) (n / 256) from rfl, ih, show leL (k + 1) n = n % 256 :: leL k (n / 256) from rfl, Nat.div_div_eq_div_mul, Nat.pow_succ, Nat.mul_comm (256 ^ k)]
    rfl
theorem leL_ok : ∀ (k n : Nat), okB (leL k n) := by
  intro k
  induction k with
  | zero => intro n x hx; cases hx
  | succ k ih =>
    intro n x hx
    rcases List.mem_cons.1 hx with rfl | hx
    · exact Nat.mod_lt _ (by decide)
    · exact ih _ x hx
/-- Eight cells, as far as they are written. -/
def row8 (n i : Nat) : List Value := bv (leL i n ++ List.replicate (8 - i) 0)
theorem row8_length (n i : Nat) (h : i ≤ 8) : (row8 n i).length = 8 := by
  unfold row8; rw [bv_length, List.length_append, leL_length, List.length_replicate]; omega
theorem row8_set (n i : Nat) (h : i < 8) : (row8 n i).toArray.setIfInBounds i (.int .u8 ((n / 256 ^ i % 256 : Nat) : Int)) = (row8 n (i + 1)).toArray := by
  rw [List.setIfInBounds_toArray]
  congr 1
  unfold row8 bv
  rw [leL_snoc, show 8 - i = (8 - (i + 1)) + 1 by omega, List.replicate_succ]
  simp [leL_length]
theorem shr8 (n i : Nat) : (n : Int) / 2 ^ (8 * i) % 256 = ((n / 256 ^ i % 256 : Nat) : Int) := by
  rw [show (256 : Nat) ^ i = 2 ^ (8 * i) by rw [Nat.pow_mul]]
  rw [Int.natCast_emod, Int.natCast_ediv, Int.natCast_pow]
  rfl
theorem row8_cell (n : Nat) : ∀ (i : Nat) (u : Value), (bv (leL 8 n))[i]? = some u → (row8 n 8).toArray[i]? = some u := by
  intro i u h
  unfold row8
  simpa using h
set_option maxHeartbeats 4000000 in
set_option maxRecDepth 100000 in
theorem eight_any (n : Nat) (w : World) (_hn : n < 18446744073709551616) :
    Calls Tryz.prog 87 #[.int .u64 (n : Int)] w fun e w' => e = .returned (.string (st (leL 8 n))) ∧ Below w.heap.size w w' := by
  have HB := Aside0.mk (Below.refl w.heap.size w)
  go_enter Tryz.func87, Tryz.ntmps87
  go_wp2_with fail
  have hmk : (Instr.makeSlice 46 (.int .i64 8) (.int .i64 8)).run Tryz.prog w = .ok (.slice (some ⟨w.heap.size, 0, none⟩) 8 8) (w.alloc (.cells (row8 n 0).toArray 5)) := by kernel_rfl
  rw [hmk]
  have HB1 : Aside0 (Below w.heap.size w (w.alloc (.cells (row8 n 0).toArray 5))) := ⟨HB.out.alloc (Nat.le_refl _) _⟩
  have hh : (w.alloc (.cells (row8 n 0).toArray 5)).heap[w.heap.size]? = some (.cells (row8 n 0).toArray 5 (0, 0)) := by
    show (w.heap.push _)[w.heap.size]? = _
    simp
  have HH := Aside0.mk hh
  clear hh HB hmk
  generalize w.alloc (.cells (row8 n 0).toArray 5) = W at *
  go_wp2_with fail
  go_loopw [8] (fun v8 w' => ∃ i : Nat, v8 = .int .i64 (i : Int) ∧ i ≤ 8 ∧ Aside0 (w'.heap[w.heap.size]? = some (.cells (row8 n i).toArray 5 (0, 0))) ∧ Aside0 (Below w.heap.size w w')) (fun v8 _ => (8 - intOf v8).toNat)
  case atStart => exact ⟨0, rfl, by omega, HH, HB1⟩
  case round =>
    clear HH HB1
    obtain ⟨i, rfl, hi, HH, HB⟩ := hrel
    by_cases hlt : i < 8
    · have d1 : (i : Int) < 8 := by omega
      obtain ⟨x, hx⟩ : ∃ x, (row8 n i).toArray[i]? = some x := by
        have := row8_length n i hi
        simp [this, hlt]
      have q1 : wr.cell? ⟨w.heap.size, i, none⟩ = some x := by rw [blk_cell HH.out]; exact hx
      have q2 : wr.frozen? ⟨w.heap.size, i, none⟩ = false := blk_frozen HH.out i
      go_wp2_with fail
      refine ⟨⟨i + 1, by go_num, by omega, ⟨?_⟩, ⟨HB.out.setCell (p := ⟨w.heap.size, i, none⟩) (Nat.le_refl _) _⟩⟩, by simp [intOf]; omega⟩
      have e1 := shr8 n i
      rw [e1, blk_set HH.out, row8_set n i hlt]
    · obtain rfl : i = 8 := by omega
      have hM : MR 5 0 (.slice (some ⟨w.heap.size, 0, none⟩) (bv (leL 8 n)).length 8) (bv (leL 8 n)) wr :=
        ⟨w.heap.size, 8, _, _, rfl, Nat.zero_le _, HH.out, by have := row8_length n 8 (Nat.le_refl _); simpa using this, by rw [bv_length, leL_length]; decide, by decide, row8_cell n, .inl rfl⟩
      rw [bv_length] at hM
      have hS := mr_string (P := Tryz.prog) 46 9 5 Tryz.underlying46 Tryz.underlying5 Tryz.underlying9 (leL_ok 8 n) (cap' := 8) hM 8 (by rw [leL_length]; decide)
      rw [List.take_of_length_le (by rw [leL_length]; decide)] at hS
      go_wp2_with fail
      go_ret
      exact ⟨rfl, HB.out⟩
/-! ### tags, records -/
theorem or_tag (n k : Int) (hn0 : 0 ≤ n) (hn : n < 536870912) (hk0 : 0 ≤ k) (hk : k ≤ 5) : Go.bits .or .u64 (IntKind.u64.wrap ((IntKind.u64.wrap n) * 8)) (IntKind.u64.wrap k) = n * 8 + k := by
  rw [wrap_u64, wrap_u64, wrap_u64]
  obtain ⟨n, rfl⟩ := Int.eq_ofNat_of_zero_le hn0
  obtain ⟨k, rfl⟩ := Int.eq_ofNat_of_zero_le hk0
  rw [show (n : Int) % 18446744073709551616 * 8 % 18446744073709551616 = ((n * 8 : Nat) : Int) by omega, show (k : Int) % 18446744073709551616 = ((k : Nat) : Int) by omega]
  have h1 := or_nat .u64 64 (by decide) (fun n a b => by rw [wrap_u64]; omega) (n * 8) k (by omega) (by omega)
  have h2 := or_nat .u64 64 (by decide) (fun n a b => by rw [wrap_u64]; omega) k (n * 8) (by omega) (by omega)
  have h3 := or_join_u64 (k : Int) ((n * 8 : Nat) : Int) 3 (by omega) (by omega) (by omega) (by omega) (by omega) (by omega)
  rw [h1, show n * 8 ||| k = k ||| n * 8 from Nat.or_comm _ _, ← h2, h3]
  omega
def tagB (n k : Int) : ByteArray := if n < 1 ∨ n > 536870911 ∨ k < 0 ∨ k > 5 then ⟨#[]⟩ else put (n * 8 + k)
def recB (n k : Int) (s : ByteArray) : ByteArray := if n < 1 ∨ n > 536870911 ∨ k < 0 ∨ k > 5 then ⟨#[]⟩ else put (n * 8 + k) ++ s
theorem tag_f (n k : Int) : wire_Tag.f 10 n k = some (tagB n k) := by
  unfold wire_Tag.f tagB
  by_cases h1 : n < 1
  · rw [if_pos h1, if_pos (.inl h1)]
  rw [if_neg h1]
  by_cases h2 : n > 536870911
  · rw [if_pos h2, if_pos (.inr (.inl h2))]
  rw [if_neg h2]
  by_cases h3 : k < 0
  · rw [if_pos h3, if_pos (.inr (.inr (.inl h3)))]
  rw [if_neg h3]
  by_cases h4 : k > 5
  · rw [if_pos h4, if_pos (.inr (.inr (.inr h4)))]
  rw [if_neg h4, if_neg (by omega), or_tag n k (by omega) (by omega) (by omega) (by omega), put_f _ (by omega) (by omega)]
  rfl
theorem tag_put (n : Int) : (put n).toList ≠ ([] : List UInt8) := by
  intro h
  have h1 : (put n).data.toList.length = 0 := by rw [← ByteArray.toList_eq, h]; rfl
  have h2 : (put n).size = (put n).data.toList.length := by rw [Array.length_toList]; rfl
  have h3 := putL_pos n.toNat
  rw [put_size] at h2
  omega
theorem wput_f (n k : Int) (s : ByteArray) (hs : s.size ≤ 140737488351232) : wire_put.f 10 n k s = some (recB n k s) := by
  unfold wire_put.f
  rw [tag_f]
  show (if (tagB n k).toList = ([] : List UInt8) then _ else _) = _
  unfold tagB recB
  by_cases h : n < 1 ∨ n > 536870911 ∨ k < 0 ∨ k > 5
  · rw [if_pos h, if_pos h, if_pos (by rw [ByteArray.toList_eq])]
  · rw [if_neg h, if_neg h, if_neg (tag_put _), if_pos]
    have := putL_len10 (n * 8 + k).toNat (by omega)
    rw [put_size]
    omega
theorem wput_any (n k : Int) (s : ByteArray) (w : World) (hs : s.size ≤ 140737488351232) : Calls Tryz.prog 86 #[.int .i64 n, .int .i64 k, .string s] w fun e w' => e = .returned (.string (recB n k s)) ∧ Below w.heap.size w w' := wire_put.calls 10 n k s _ w (wput_f n k s hs)
theorem wvarint_any (n v : Int) (w : World) (h0 : 0 ≤ v) (h1 : v < 18446744073709551616) : Calls Tryz.prog 109 #[.int .i64 n, .int .u64 v] w fun e w' => e = .returned (.string (recB n 0 (put v))) ∧ Below w.heap.size w w' := by
  refine wire_Varint.calls 10 n v _ w ?_
  unfold wire_Varint.f
  rw [put_f v h0 h1]
  show (wire_put.f 10 n 0 (put v)).bind _ = _
  rw [wput_f _ _ _ (by rw [put_size]; have := putL_len10 v.toNat (by omega); omega)]
  rfl
theorem wfixed_any (n : Int) (v : Nat) (w : World) (hv : v < 18446744073709551616) :
    Calls Tryz.prog 68 #[.int .i64 n, .int .u64 (v : Int)] w fun e w' => e = .returned (.string (recB n 1 (st (leL 8 v)))) ∧ Below w.heap.size w w' := by
  have HB := Aside0.mk (Below.refl w.heap.size w)
  have A1 := fun w => eight_any v w hv
  have A2 := fun w => wput_any n 1 (st (leL 8 v)) w (by rw [st_size, leL_length]; decide)
  clear hv
  go_enter Tryz.func68, Tryz.ntmps68
  go_wp2_with (first
    | (go_at_call 87; refine (A1 _).mono ?_; rintro e wb ⟨rfl, hb⟩; have HBn : Aside0 (Below w.heap.size w wb) := ⟨below_next (by repeat (first | (with_reducible exact HB.out) | apply below_alloc | apply pw_below_drewN | apply below_drew1)) hb⟩; clear HB hb; have HB := HBn; clear HBn)
    | (go_at_call 86; refine (A2 _).mono ?_; rintro e wb ⟨rfl, hb⟩; have HBn : Aside0 (Below w.heap.size w wb) := ⟨below_next (by repeat (first | (with_reducible exact HB.out) | apply below_alloc | apply pw_below_drewN | apply below_drew1)) hb⟩; clear HB hb; have HB := HBn; clear HBn))
  go_ret
  exact ⟨rfl, HB.out⟩
theorem wbytes_any (n : Int) (s : ByteArray) (w : World) (hs : s.size ≤ 100000000) :
    Calls Tryz.prog 69 #[.int .i64 n, .string s] w fun e w' => e = .returned (.string (recB n 2 (put (s.size : Int) ++ s))) ∧ Below w.heap.size w w' := by
  have HB := Aside0.mk (Below.refl w.heap.size w)
  have hps : (put (s.size : Int)).size ≤ 10 := by rw [put_size]; exact putL_len10 _ (by omega)
  have A1 := fun w => put_any (s.size : Int) w (by omega) (by omega)
  have A2 := fun w => wput_any n 2 (put (s.size : Int) ++ s) w (by rw [ByteArray.size_append]; omega)
  have hb : (put (s.size : Int)).size + s.size ≤ 9223372036854775807 := by omega
  have hw : IntKind.u64.wrap (s.size : Int) = (s.size : Int) := by rw [wrap_u64]; omega
  go_enter Tryz.func69, Tryz.ntmps69
  go_wp2_with (first
    | (go_at_call 88; refine (A1 _).mono ?_; rintro e wb ⟨rfl, hb⟩; have HBn : Aside0 (Below w.heap.size w wb) := ⟨below_next (by repeat (first | (with_reducible exact HB.out) | apply below_alloc | apply pw_below_drewN | apply below_drew1)) hb⟩; clear HB hb; have HB := HBn; clear HBn)
    | (go_at_call 86; refine (A2 _).mono ?_; rintro e wb ⟨rfl, hb⟩; have HBn : Aside0 (Below w.heap.size w wb) := ⟨below_next (by repeat (first | (with_reducible exact HB.out) | apply below_alloc | apply pw_below_drewN | apply below_drew1)) hb⟩; clear HB hb; have HB := HBn; clear HBn))
  go_ret
  exact ⟨rfl, HB.out⟩
end Go.Proofs.YtnghlkbmfhkmoaaGreatDoor
namespace Go.Proofs.YtnghlkbmfhkmoaaGreatDoor
open Go.RowKit Go.Proofs.YtnghlkbmfhkmoaaGreatDoorW.PrintWords Go.Proofs.YtnghlkbmfhkmoaaGreatDoorW.PrintLast Go.Proofs.YtnghlkbmfhkmoaaGreatDoorW.PrintMore Hy
/-! ### msg.Writer -/
/-- A writer of the call's own that holds these bytes. -/
def WB (B b : Nat) (s : ByteArray) (w : World) : Prop := Lib.IsBuilder 50 5 B b (Lib.strCells s) w
theorem WB.below {B b : Nat} {s : ByteArray} {w w' : World} (h : WB B b s w) (hb : Below w.heap.size w w') : WB B b s w' := bld_below h hb
theorem WB.new (w : World) : WB w.heap.size w.heap.size ⟨#[]⟩ (w.alloc (.cells #[.pointer none, .slice none 0 0] 50)) := bld_new _ _ w
def whenB (b : Bool) (s : ByteArray) : ByteArray := if b then s else ⟨#[]⟩
theorem app_none (s : ByteArray) : s ++ (⟨#[]⟩ : ByteArray) = s := ByteArray.append_empty
/-- A method that writes to the writer. -/
def WAdds (f : Nat) (B b : Nat) (s r : ByteArray) (args : List Value) (w : World) : Prop :=
  Calls Tryz.prog f (.pointer (some ⟨b, 0, none⟩) :: args).toArray w fun e w' => e = .returned (.tuple #[]) ∧ WB B b (s ++ r) w' ∧ Below B w w'
set_option maxRecDepth 100000 in
theorem wraw_any (B b : Nat) (s t : ByteArray) (w : World) (h : WB B b s w) (hl : s.size + t.size ≤ 140737488355328) (hB : B ≤ w.heap.size) : WAdds 26 B b s t [.string t] w := by
  have H := Aside0.mk (bld_write B b _ t w h (by rw [Lib.strCells_length]; exact hl) hB)
  clear h hl hB
  show Calls _ _ #[.pointer (some ⟨b, 0, none⟩), .string t] _ _
  go_enter Tryz.func26, Tryz.ntmps26
  go_wp2_with (go_at_call 50; with_reducible refine H.out.mono ?_; rintro e w2 ⟨rfl, h2, hb⟩)
  go_end0
  refine ⟨rfl, ?_, hb⟩
  have h3 := bld_at h2
  rw [strCells_append] at h3
  exact h3
set_option maxRecDepth 100000 in
theorem weight_any (B b : Nat) (s : ByteArray) (num : Int) (v : Nat) (hv : v < 18446744073709551616) (w : World) (h : WB B b s w) (hl : s.size + (recB num 1 (st (leL 8 v))).size ≤ 140737488355328) (hB : B ≤ w.heap.size) : WAdds 46 B b s (recB num 1 (st (leL 8 v))) [.int .i64 num, .int .u64 (v : Int)] w := by
  have H := Aside0.mk (wfixed_any num v w hv)
  have HW := Aside0.mk (fun w2 (hb : Below w.heap.size w w2) => wraw_any B b s (recB num 1 (st (leL 8 v))) w2 (h.below hb) hl (Nat.le_trans hB hb.size))
  have HB0 := Aside0.mk hB
  clear h hl hB
  unfold WAdds at *
  show Calls _ _ #[.pointer (some ⟨b, 0, none⟩), .int .i64 num, .int .u64 (v : Int)] _ _
  go_enter Tryz.func46, Tryz.ntmps46
  go_wp2_with (first
    | (go_at_call 68; with_reducible refine H.out.mono ?_; rintro e w2 ⟨rfl, hb⟩; have HB := Aside0.mk hb; clear hb)
    | (go_at_call 26; with_reducible refine (HW.out _ HB.out).mono ?_; rintro e w3 ⟨rfl, hw3, hb3⟩))
  go_end0
  exact ⟨rfl, hw3, (HB.out.mono HB0.out).trans hb3⟩
set_option maxRecDepth 100000 in
theorem wfew_any (B b : Nat) (s : ByteArray) (num v : Int) (hv0 : 0 ≤ v) (hv1 : v < 18446744073709551616) (w : World) (h : WB B b s w) (hl : s.size + (recB num 0 (put v)).size ≤ 140737488355328) (hB : B ≤ w.heap.size) : WAdds 93 B b s (recB num 0 (put v)) [.int .i64 num, .int .u64 v] w := by
  have H := Aside0.mk (wvarint_any num v w hv0 hv1)
  have HW := Aside0.mk (fun w2 (hb : Below w.heap.size w w2) => wraw_any B b s (recB num 0 (put v)) w2 (h.below hb) hl (Nat.le_trans hB hb.size))
  have HB0 := Aside0.mk hB
  clear h hl hB
  unfold WAdds at *
  show Calls _ _ #[.pointer (some ⟨b, 0, none⟩), .int .i64 num, .int .u64 v] _ _
  go_enter Tryz.func93, Tryz.ntmps93
  go_wp2_with (first
    | (go_at_call 109; with_reducible refine H.out.mono ?_; rintro e w2 ⟨rfl, hb⟩; have HB := Aside0.mk hb; clear hb)
    | (go_at_call 26; with_reducible refine (HW.out _ HB.out).mono ?_; rintro e w3 ⟨rfl, hw3, hb3⟩))
  go_end0
  exact ⟨rfl, hw3, (HB.out.mono HB0.out).trans hb3⟩
set_option maxRecDepth 100000 in
theorem wpart_any (B b : Nat) (s : ByteArray) (num : Int) (t : ByteArray) (ht : t.size ≤ 100000000) (w : World) (h : WB B b s w) (hl : s.size + (recB num 2 (put (t.size : Int) ++ t)).size ≤ 140737488355328) (hB : B ≤ w.heap.size) : WAdds 47 B b s (recB num 2 (put (t.size : Int) ++ t)) [.int .i64 num, .string t] w := by
  have H := Aside0.mk (wbytes_any num t w ht)
  have HW := Aside0.mk (fun w2 (hb : Below w.heap.size w w2) => wraw_any B b s (recB num 2 (put (t.size : Int) ++ t)) w2 (h.below hb) hl (Nat.le_trans hB hb.size))
  have HB0 := Aside0.mk hB
  clear h hl hB
  unfold WAdds at *
  show Calls _ _ #[.pointer (some ⟨b, 0, none⟩), .int .i64 num, .string t] _ _
  go_enter Tryz.func47, Tryz.ntmps47
  go_wp2_with (first
    | (go_at_call 69; with_reducible refine H.out.mono ?_; rintro e w2 ⟨rfl, hb⟩; have HB := Aside0.mk hb; clear hb)
    | (go_at_call 26; with_reducible refine (HW.out _ HB.out).mono ?_; rintro e w3 ⟨rfl, hw3, hb3⟩))
  go_end0
  exact ⟨rfl, hw3, (HB.out.mono HB0.out).trans hb3⟩
set_option maxRecDepth 100000 in
theorem weither_any (B b : Nat) (s : ByteArray) (is : Bool) (num : Int) (v : Nat) (hv : v < 18446744073709551616) (w : World) (h : WB B b s w) (hl : s.size + (recB num 1 (st (leL 8 v))).size ≤ 140737488355328) (hB : B ≤ w.heap.size) :
    WAdds 22 B b s (whenB is (recB num 1 (st (leL 8 v)))) [.bool is, .int .i64 num, .int .u64 (v : Int)] w := by
  have H := Aside0.mk (weight_any B b s num v hv w h hl hB)
  have HH := Aside0.mk h
  clear h hl hB
  unfold WAdds at *
  show Calls _ _ #[.pointer (some ⟨b, 0, none⟩), .bool is, .int .i64 num, .int .u64 (v : Int)] _ _
  cases is
  · go_enter Tryz.func22, Tryz.ntmps22
    go_wp2_with fail
    go_end0
    exact ⟨rfl, by rw [show whenB false (recB num 1 (st (leL 8 v))) = ⟨#[]⟩ from rfl, app_none]; exact HH.out, Below.refl _ _⟩
  · go_enter Tryz.func22, Tryz.ntmps22
    go_wp2_with (go_at_call 46; with_reducible refine H.out.mono ?_; rintro e w2 ⟨rfl, h2, hb⟩)
    go_end0
    exact ⟨rfl, h2, hb⟩
set_option maxRecDepth 100000 in
theorem wfixedw_any (B b : Nat) (s : ByteArray) (num : Int) (v : Nat) (hv : v < 18446744073709551616) (w : World) (h : WB B b s w) (hl : s.size + (recB num 1 (st (leL 8 v))).size ≤ 140737488355328) (hB : B ≤ w.heap.size) :
    WAdds 21 B b s (whenB (decide (0 < v)) (recB num 1 (st (leL 8 v)))) [.int .i64 num, .int .u64 (v : Int)] w := by
  have H := Aside0.mk (weight_any B b s num v hv w h hl hB)
  have HH := Aside0.mk h
  clear h hl hB
  unfold WAdds at *
  show Calls _ _ #[.pointer (some ⟨b, 0, none⟩), .int .i64 num, .int .u64 (v : Int)] _ _
  by_cases h0 : 0 < v
  · have h1 : (0 : Int) < (v : Int) := by omega
    rw [decide_eq_true h0]
    go_enter Tryz.func21, Tryz.ntmps21
    go_wp2_with (go_at_call 46; with_reducible refine H.out.mono ?_; rintro e w2 ⟨rfl, h2, hb⟩)
    go_end0
    exact ⟨rfl, h2, hb⟩
  · have h1 : ¬ (0 : Int) < (v : Int) := by omega
    rw [decide_eq_false h0]
    go_enter Tryz.func21, Tryz.ntmps21
    go_wp2_with fail
    go_end0
    exact ⟨rfl, by rw [show whenB false (recB num 1 (st (leL 8 v))) = ⟨#[]⟩ from rfl, app_none]; exact HH.out, Below.refl _ _⟩
set_option maxRecDepth 100000 in
theorem wtext_any (B b : Nat) (s : ByteArray) (num : Int) (t : ByteArray) (ht : t.size ≤ 100000000) (w : World) (h : WB B b s w) (hl : s.size + (recB num 2 (put (t.size : Int) ++ t)).size ≤ 140737488355328) (hB : B ≤ w.heap.size) :
    WAdds 23 B b s (whenB (!(t.toList == [])) (recB num 2 (put (t.size : Int) ++ t))) [.int .i64 num, .string t] w := by
  have H := Aside0.mk (wpart_any B b s num t ht w h hl hB)
  have HH := Aside0.mk h
  clear h hl hB
  unfold WAdds at *
  show Calls _ _ #[.pointer (some ⟨b, 0, none⟩), .int .i64 num, .string t] _ _
  cases h0 : (t.toList == ([] : List UInt8))
  · go_enter Tryz.func23, Tryz.ntmps23
    go_wp2_with (go_at_call 47; with_reducible refine H.out.mono ?_; rintro e w2 ⟨rfl, h2, hb⟩)
    go_end0
    exact ⟨rfl, h2, hb⟩
  · go_enter Tryz.func23, Tryz.ntmps23
    go_wp2_with fail
    go_end0
    exact ⟨rfl, by rw [show ∀ r, whenB (!true) r = ⟨#[]⟩ from fun _ => rfl, app_none]; exact HH.out, Below.refl _ _⟩
set_option maxRecDepth 100000 in
theorem wstring_any (B b : Nat) (s : ByteArray) (w : World) (h : WB B b s w) (hB : B ≤ w.heap.size) :
    Calls Tryz.prog 27 #[.pointer (some ⟨b, 0, none⟩)] w fun e w' => e = .returned (.string s) ∧ Below B w w' := by
  have H := Aside0.mk (bld_string B b s.data.toList w h hB)
  have hs : (⟨s.data.toList.toArray⟩ : ByteArray) = s := by cases s; simp
  rw [hs] at H
  clear h hB hs
  go_enter Tryz.func27, Tryz.ntmps27
  go_wp2_with (go_at_call 51; with_reducible refine H.out.mono ?_; rintro e w2 ⟨rfl, hb⟩)
  go_ret
  exact ⟨rfl, hb⟩
end Go.Proofs.YtnghlkbmfhkmoaaGreatDoor
namespace Go.Proofs.YtnghlkbmfhkmoaaGreatDoor
open Go.RowKit
/-! ### what reads as data, however deep -/
def Rd (P : Program) (W : World) (t : TypeId) (cs : List Value) : Prop :=
  ∃ (H : Type) (enc : TypeId × Value → H) (sp : Nat → Bool) (held : Bool) (n : Nat) (x : DataW H × List MemPlace), DataW.trod enc P W 0 sp held n t cs = some x
section
variable {P : Program} {W : World} {t : TypeId} {cs : List Value}
theorem rd_int {k : IntKind} (ht : P.underlying t = some (.int k)) (h : Rd P W t cs) : ∃ n, cs = [.int k n] ∧ (Lit.int k n).wf = true := by
  obtain ⟨H, enc, sp, held, n, x, h⟩ := h
  obtain ⟨m, h1, _, h2⟩ := DataW.trod_int ht h
  exact ⟨m, h1, h2⟩
theorem rd_bool (ht : P.underlying t = some .bool) (h : Rd P W t cs) : ∃ b, cs = [.bool b] := by
  obtain ⟨H, enc, sp, held, n, x, h⟩ := h
  obtain ⟨m, h1, _⟩ := DataW.trod_bool ht h
  exact ⟨m, h1⟩
theorem rd_string (ht : P.underlying t = some .string) (h : Rd P W t cs) : ∃ s : ByteArray, cs = [.string s] ∧ s.size ≤ maxLen := by
  obtain ⟨H, enc, sp, held, n, x, h⟩ := h
  obtain ⟨m, h1, _, h2⟩ := DataW.trod_string ht h
  exact ⟨m, h1, h2⟩
theorem rd_len {fs : Array Field} (ht : P.underlying t = some (.struct fs)) (h : Rd P W t cs) : cs.length = P.cellsOf t := by
  obtain ⟨H, enc, sp, held, n, x, h⟩ := h
  obtain ⟨xs, m, _, _, hl, _, _⟩ := DataW.trod_struct ht h
  exact hl
theorem rd_field {fs : Array Field} (ht : P.underlying t = some (.struct fs)) (h : Rd P W t cs) (i : Nat) {f : Field} (hf : fs[i]? = some f) : Rd P W f.type ((cs.drop f.offset).take (P.cellsOf f.type)) := by
  obtain ⟨H, enc, sp, held, n, x, h⟩ := h
  obtain ⟨xs, m, _, _, _, hl, hx⟩ := DataW.trod_struct ht h
  have hi : i < xs.length := by
    rw [hl]
    rcases Nat.lt_or_ge i fs.size with h | h
    · exact h
    · rw [Array.getElem?_eq_none h] at hf; cases hf
  exact ⟨H, enc, sp, held, m, xs[i], by rw [hx i f hf, List.getElem?_eq_getElem hi]⟩
theorem range_mapM {f : Nat → Option Value} {n : Nat} {r : List Value} (h : (List.range n).mapM f = some r) : r.length = n ∧ ∀ i, i < n → f i = r[i]? :=
  ⟨by simpa using mapM_some_length h, fun i hi => mapM_some_get h i i (by simp [hi])⟩
theorem rd_slice {e : TypeId} (ht : P.underlying t = some (.slice e)) (h : Rd P W t cs) : cs = [.slice none 0 0] ∨
    ∃ (a : Addr) (len cap : Nat), cs = [.slice (some a) len cap] ∧ len ≤ cap ∧ cap ≤ maxLen ∧
      ∀ i, i < len → ∃ es : List Value, es.length = P.cellsOf e ∧ (∀ j, j < P.cellsOf e → W.cell? ((a.add (i * P.cellsOf e)).add j) = es[j]?) ∧ Rd P W e es := by
  obtain ⟨H, enc, sp, held, n, x, h⟩ := h
  rcases DataW.trod_slice ht h with ⟨h1, _⟩ | ⟨a, len, cap, elems, rest, m, _, h1, _, _, h2, h3, h4, h5, _⟩
  · exact .inl h1
  · refine .inr ⟨a, len, cap, h1, h2, h3, fun i hi => ?_⟩
    have hb := h5 i hi
    rw [List.getElem?_eq_getElem (by omega)] at hb
    obtain ⟨es, he, hr⟩ := Option.bind_eq_some_iff.1 hb
    unfold World.cells? at he
    split at he
    · obtain ⟨l1, l2⟩ := range_mapM he
      exact ⟨es, l1, l2, H, enc, sp, held, m, _, hr⟩
    · cases he
end
theorem list_of {α : Type} : ∀ {n : Nat} {p : Nat → α → Prop}, (∀ i, i < n → ∃ x, p i x) → ∃ l : List α, l.length = n ∧ ∀ i (h : i < l.length), p i l[i] := by
  intro n
  induction n with
  | zero => intro p _; exact ⟨[], rfl, fun i h => absurd h (Nat.not_lt_zero i)⟩
  | succ n ih =>
    intro p h
    obtain ⟨l, hl, hp⟩ := ih (p := p) (fun i hi => h i (by omega))
    obtain ⟨x, hx⟩ := h n (by omega)
    refine ⟨l ++ [x], by simp [hl], fun i hi => ?_⟩
    by_cases hlt : i < l.length
    · rw [List.getElem_append_left hlt]; exact hp i hlt
    · have : i = l.length := by simp at hi; omega
      subst this
      rw [List.getElem_concat_length rfl (by simp), hl]; exact hx
/-- A slice's value, as it lies. -/
structure Sl where
  a : Option Addr
  len : Nat
  cap : Nat
  deriving Inhabited
def Sl.v (s : Sl) : Value := .slice s.a s.len s.cap
/-- A slice's elements: each k cells, read as an α that is good. -/
def SlAt {α : Type} (k : Nat) (c : α → List Value) (ok : World → α → Prop) (W : World) (s : Sl) (l : List α) : Prop :=
  s.len = l.length ∧ s.len ≤ s.cap ∧ s.cap ≤ maxLen ∧ (0 < l.length → ∃ a, s.a = some a ∧ ∀ i (h : i < l.length), (∀ j, j < k → W.cell? ((a.add (i * k)).add j) = (c l[i])[j]?) ∧ ok W l[i])
theorem rd_sl {α : Type} {P : Program} {W : World} {t e : TypeId} {cs : List Value} {k : Nat} {c : α → List Value} {ok : World → α → Prop} (ht : P.underlying t = some (.slice e)) (hk : P.cellsOf e = k)
    (hread : ∀ es, Rd P W e es → ∃ x, es = c x ∧ ok W x) (h : Rd P W t cs) : ∃ (s : Sl) (l : List α), cs = [s.v] ∧ SlAt k c ok W s l := by
  rcases rd_slice ht h with rfl | ⟨a, len, cap, rfl, h1, h2, h3⟩
  · exact ⟨⟨none, 0, 0⟩, [], rfl, rfl, Nat.le_refl _, Nat.zero_le _, fun h => absurd h (Nat.lt_irrefl 0)⟩
  · rw [hk] at h3
    obtain ⟨l, hl, hp⟩ := list_of (n := len) (p := fun i x => (∀ j, j < k → W.cell? ((a.add (i * k)).add j) = (c x)[j]?) ∧ ok W x) (fun i hi => by
      obtain ⟨es, _, e2, e3⟩ := h3 i hi
      obtain ⟨x, rfl, hx⟩ := hread es e3
      exact ⟨x, e2, hx⟩)
    exact ⟨⟨some a, len, cap⟩, l, rfl, hl.symm, h1, h2, fun _ => ⟨a, rfl, hp⟩⟩
theorem add_at (p : Addr) (j : Nat) : p.add (j + 1) = ⟨p.block, p.off + (j + 1), none⟩ := by simp [Addr.add]
theorem add_0 (p : Addr) : p.add 0 = p := by simp [Addr.add]
end Go.Proofs.YtnghlkbmfhkmoaaGreatDoor
namespace Go.Proofs.YtnghlkbmfhkmoaaGreatDoor
/-- Which operations are done, as the bits of a number (merge.py's shorter spelling). -/
def mkM (n m : Nat) : Array Bool := ((List.range n).map fun i => m.testBit i).toArray
theorem s1_ (l : List Go.Value) (i : Nat) (v : Go.Value) : l.toArray.setIfInBounds i v = (l.set i v).toArray := List.setIfInBounds_toArray ..
theorem s2_ (a b : Go.Value) (l : List Go.Value) : (a :: l).set 0 b = b :: l := List.set_cons_zero ..
theorem s3_ (a b : Go.Value) (l : List Go.Value) (n : Nat) : (a :: l).set (n + 1) b = a :: l.set n b := List.set_cons_succ ..
end Go.Proofs.YtnghlkbmfhkmoaaGreatDoor
namespace Go.Proofs.YtnghlkbmfhkmoaaGreatDoor
open Go.RowKit Go.ChangeShapes Go.WideShapes Go.Proofs.YtnghlkbmfhkmoaaGreatDoorW.PrintWords
theorem rd_slv {P : Program} {W : World} {t e : TypeId} {c : Value} (ht : P.underlying t = some (.slice e)) (h : Rd P W t [c]) : ∃ s : Sl, c = s.v := by
  rcases rd_slice ht h with h | ⟨a, len, cap, h, _⟩
  · simp only [List.cons.injEq, and_true] at h; exact ⟨⟨none, 0, 0⟩, h⟩
  · simp only [List.cons.injEq, and_true] at h; exact ⟨⟨some a, len, cap⟩, h⟩
/-- api.Value -/
structure Vl where
  kind : Int
  s : ByteArray
  b : Bool
  n : Int
  l : Sl
  m : Sl
  inner : ByteArray
  unk : ByteArray
  deriving Inhabited
def vlC (x : Vl) : List Value := [.int .i64 x.kind, .string x.s, .bool x.b, .int .u64 x.n, x.l.v, x.m.v, .string x.inner, .string x.unk]
/-- What is known of one that was read. -/
structure VlOk (W : World) (x : Vl) : Prop where
  kind : -9223372036854775808 ≤ x.kind ∧ x.kind < 9223372036854775808
  s : x.s.size ≤ maxLen
  n : 0 ≤ x.n ∧ x.n < 18446744073709551616
  l : Rd Tryz.prog W 55 [x.l.v]
  m : Rd Tryz.prog W 22 [x.m.v]
  inner : x.inner.size ≤ maxLen
  unk : x.unk.size ≤ maxLen
set_option maxRecDepth 100000 in
theorem rd_vl {W : World} {cs : List Value} (h : Rd Tryz.prog W 57 cs) : ∃ x : Vl, cs = vlC x ∧ VlOk W x := by
  have hu := Tryz.underlying57
  have hl := rd_len hu h
  rw [show Tryz.prog.cellsOf 57 = 8 by kernel_rfl] at hl
  match cs, hl, h with
  | [c0, c1, c2, c3, c4, c5, c6, c7], _, h =>
    have f0 : Rd Tryz.prog W 3 (([c0, c1, c2, c3, c4, c5, c6, c7].drop 0).take (Tryz.prog.cellsOf 3)) := rd_field hu h 0 rfl
    rw [show Tryz.prog.cellsOf 3 = 1 by kernel_rfl] at f0
    have f0 : Rd Tryz.prog W 3 [c0] := f0
    have f1 : Rd Tryz.prog W 9 (([c0, c1, c2, c3, c4, c5, c6, c7].drop 1).take (Tryz.prog.cellsOf 9)) := rd_field hu h 1 rfl
    rw [show Tryz.prog.cellsOf 9 = 1 by kernel_rfl] at f1
    have f1 : Rd Tryz.prog W 9 [c1] := f1
    have f2 : Rd Tryz.prog W 4 (([c0, c1, c2, c3, c4, c5, c6, c7].drop 2).take (Tryz.prog.cellsOf 4)) := rd_field hu h 2 rfl
    rw [show Tryz.prog.cellsOf 4 = 1 by kernel_rfl] at f2
    have f2 : Rd Tryz.prog W 4 [c2] := f2
    have f3 : Rd Tryz.prog W 23 (([c0, c1, c2, c3, c4, c5, c6, c7].drop 3).take (Tryz.prog.cellsOf 23)) := rd_field hu h 3 rfl
    rw [show Tryz.prog.cellsOf 23 = 1 by kernel_rfl] at f3
    have f3 : Rd Tryz.prog W 23 [c3] := f3
    have f4 : Rd Tryz.prog W 55 (([c0, c1, c2, c3, c4, c5, c6, c7].drop 4).take (Tryz.prog.cellsOf 55)) := rd_field hu h 4 rfl
    rw [show Tryz.prog.cellsOf 55 = 1 by kernel_rfl] at f4
    have f4 : Rd Tryz.prog W 55 [c4] := f4
    have f5 : Rd Tryz.prog W 22 (([c0, c1, c2, c3, c4, c5, c6, c7].drop 5).take (Tryz.prog.cellsOf 22)) := rd_field hu h 5 rfl
    rw [show Tryz.prog.cellsOf 22 = 1 by kernel_rfl] at f5
    have f5 : Rd Tryz.prog W 22 [c5] := f5
    have f6 : Rd Tryz.prog W 9 (([c0, c1, c2, c3, c4, c5, c6, c7].drop 6).take (Tryz.prog.cellsOf 9)) := rd_field hu h 6 rfl
    rw [show Tryz.prog.cellsOf 9 = 1 by kernel_rfl] at f6
    have f6 : Rd Tryz.prog W 9 [c6] := f6
    have f7 : Rd Tryz.prog W 9 (([c0, c1, c2, c3, c4, c5, c6, c7].drop 7).take (Tryz.prog.cellsOf 9)) := rd_field hu h 7 rfl
    rw [show Tryz.prog.cellsOf 9 = 1 by kernel_rfl] at f7
    have f7 : Rd Tryz.prog W 9 [c7] := f7
    obtain ⟨x0, e0, w0⟩ := rd_int Tryz.underlying3 f0
    have e0 := (List.cons.inj e0).1
    subst e0
    have b0 := bounds_i64 w0
    obtain ⟨x1, e1, w1⟩ := rd_string Tryz.underlying9 f1
    have e1 := (List.cons.inj e1).1
    subst e1
    obtain ⟨x2, e2⟩ := rd_bool Tryz.underlying4 f2
    have e2 := (List.cons.inj e2).1
    subst e2
    obtain ⟨x3, e3, w3⟩ := rd_int Tryz.underlying23 f3
    have e3 := (List.cons.inj e3).1
    subst e3
    have b3 := bounds_u64 w3
    obtain ⟨x4, e4⟩ := rd_slv Tryz.underlying55 f4
    subst e4
    obtain ⟨x5, e5⟩ := rd_slv Tryz.underlying22 f5
    subst e5
    obtain ⟨x6, e6, w6⟩ := rd_string Tryz.underlying9 f6
    have e6 := (List.cons.inj e6).1
    subst e6
    obtain ⟨x7, e7, w7⟩ := rd_string Tryz.underlying9 f7
    have e7 := (List.cons.inj e7).1
    subst e7
    exact ⟨⟨x0, x1, x2, x3, x4, x5, x6, x7⟩, rfl, ⟨⟨b0.1, Int.lt_of_le_of_lt b0.2 (by decide)⟩, w1, ⟨b3.1, Int.lt_of_le_of_lt b3.2 (by decide)⟩, f4, f5, w6, w7⟩⟩
/-- One at an address. -/
structure VlAt (w : World) (p : Addr) (x : Vl) : Prop where
  c0 : w.cell? p = some (.int .i64 x.kind)
  c1 : w.cell? ⟨p.block, p.off + 1, none⟩ = some (.string x.s)
  c2 : w.cell? ⟨p.block, p.off + 2, none⟩ = some (.bool x.b)
  c3 : w.cell? ⟨p.block, p.off + 3, none⟩ = some (.int .u64 x.n)
  c4 : w.cell? ⟨p.block, p.off + 4, none⟩ = some (x.l.v)
  c5 : w.cell? ⟨p.block, p.off + 5, none⟩ = some (x.m.v)
  c6 : w.cell? ⟨p.block, p.off + 6, none⟩ = some (.string x.inner)
  c7 : w.cell? ⟨p.block, p.off + 7, none⟩ = some (.string x.unk)
theorem VlAt.below {w w' : World} {p : Addr} {x : Vl} (h : VlAt w p x) (hb : Below w.heap.size w w') : VlAt w' p x := ⟨pw_cell_below hb h.c0, pw_cell_below hb h.c1, pw_cell_below hb h.c2, pw_cell_below hb h.c3, pw_cell_below hb h.c4, pw_cell_below hb h.c5, pw_cell_below hb h.c6, pw_cell_below hb h.c7⟩
theorem vl_at {w : World} {p : Addr} {x : Vl} (h : ∀ j, j < 8 → w.cell? (p.add j) = (vlC x)[j]?) : VlAt w p x :=
  ⟨by have := h 0 (by decide); rwa [add_0] at this, by have := h 1 (by decide); rwa [add_at] at this, by have := h 2 (by decide); rwa [add_at] at this, by have := h 3 (by decide); rwa [add_at] at this, by have := h 4 (by decide); rwa [add_at] at this, by have := h 5 (by decide); rwa [add_at] at this, by have := h 6 (by decide); rwa [add_at] at this, by have := h 7 (by decide); rwa [add_at] at this⟩
theorem vl_one (x : Vl) : ∀ u ∈ vlC x, u.oneCell' = true := by
  intro u hu
  simp only [vlC, List.mem_cons, List.not_mem_nil, or_false] at hu
  rcases hu with rfl | rfl | rfl | rfl | rfl | rfl | rfl | rfl <;> rfl
/-- api.KeyValue -/
structure Kv where
  key : ByteArray
  has : Bool
  v : Vl
  unk : ByteArray
  deriving Inhabited
def kvC (x : Kv) : List Value := [.string x.key, .bool x.has, .int .i64 x.v.kind, .string x.v.s, .bool x.v.b, .int .u64 x.v.n, x.v.l.v, x.v.m.v, .string x.v.inner, .string x.v.unk, .string x.unk]
/-- What is known of one that was read. -/
structure KvOk (W : World) (x : Kv) : Prop where
  key : x.key.size ≤ maxLen
  v : VlOk W x.v
  unk : x.unk.size ≤ maxLen
set_option maxRecDepth 100000 in
theorem rd_kv {W : World} {cs : List Value} (h : Rd Tryz.prog W 59 cs) : ∃ x : Kv, cs = kvC x ∧ KvOk W x := by
  have hu := Tryz.underlying59
  have hl := rd_len hu h
  rw [show Tryz.prog.cellsOf 59 = 11 by kernel_rfl] at hl
  match cs, hl, h with
  | [c0, c1, c2, c3, c4, c5, c6, c7, c8, c9, c10], _, h =>
    have f0 : Rd Tryz.prog W 9 (([c0, c1, c2, c3, c4, c5, c6, c7, c8, c9, c10].drop 0).take (Tryz.prog.cellsOf 9)) := rd_field hu h 0 rfl
    rw [show Tryz.prog.cellsOf 9 = 1 by kernel_rfl] at f0
    have f0 : Rd Tryz.prog W 9 [c0] := f0
    have f1 : Rd Tryz.prog W 4 (([c0, c1, c2, c3, c4, c5, c6, c7, c8, c9, c10].drop 1).take (Tryz.prog.cellsOf 4)) := rd_field hu h 1 rfl
    rw [show Tryz.prog.cellsOf 4 = 1 by kernel_rfl] at f1
    have f1 : Rd Tryz.prog W 4 [c1] := f1
    have f2 : Rd Tryz.prog W 57 (([c0, c1, c2, c3, c4, c5, c6, c7, c8, c9, c10].drop 2).take (Tryz.prog.cellsOf 57)) := rd_field hu h 2 rfl
    rw [show Tryz.prog.cellsOf 57 = 8 by kernel_rfl] at f2
    have f2 : Rd Tryz.prog W 57 [c2, c3, c4, c5, c6, c7, c8, c9] := f2
    have f3 : Rd Tryz.prog W 9 (([c0, c1, c2, c3, c4, c5, c6, c7, c8, c9, c10].drop 10).take (Tryz.prog.cellsOf 9)) := rd_field hu h 3 rfl
    rw [show Tryz.prog.cellsOf 9 = 1 by kernel_rfl] at f3
    have f3 : Rd Tryz.prog W 9 [c10] := f3
    obtain ⟨x0, e0, w0⟩ := rd_string Tryz.underlying9 f0
    have e0 := (List.cons.inj e0).1
    subst e0
    obtain ⟨x1, e1⟩ := rd_bool Tryz.underlying4 f1
    have e1 := (List.cons.inj e1).1
    subst e1
    obtain ⟨x2, e2, w2⟩ := rd_vl f2
    simp only [vlC] at e2
    obtain ⟨rfl, rfl, rfl, rfl, rfl, rfl, rfl, rfl⟩ := e2
    obtain ⟨x3, e3, w3⟩ := rd_string Tryz.underlying9 f3
    have e3 := (List.cons.inj e3).1
    subst e3
    exact ⟨⟨x0, x1, x2, x3⟩, rfl, ⟨w0, w2, w3⟩⟩
/-- One at an address. -/
structure KvAt (w : World) (p : Addr) (x : Kv) : Prop where
  c0 : w.cell? p = some (.string x.key)
  c1 : w.cell? ⟨p.block, p.off + 1, none⟩ = some (.bool x.has)
  c2 : w.cell? ⟨p.block, p.off + 2, none⟩ = some (.int .i64 x.v.kind)
  c3 : w.cell? ⟨p.block, p.off + 3, none⟩ = some (.string x.v.s)
  c4 : w.cell? ⟨p.block, p.off + 4, none⟩ = some (.bool x.v.b)
  c5 : w.cell? ⟨p.block, p.off + 5, none⟩ = some (.int .u64 x.v.n)
  c6 : w.cell? ⟨p.block, p.off + 6, none⟩ = some (x.v.l.v)
  c7 : w.cell? ⟨p.block, p.off + 7, none⟩ = some (x.v.m.v)
  c8 : w.cell? ⟨p.block, p.off + 8, none⟩ = some (.string x.v.inner)
  c9 : w.cell? ⟨p.block, p.off + 9, none⟩ = some (.string x.v.unk)
  c10 : w.cell? ⟨p.block, p.off + 10, none⟩ = some (.string x.unk)
theorem KvAt.below {w w' : World} {p : Addr} {x : Kv} (h : KvAt w p x) (hb : Below w.heap.size w w') : KvAt w' p x := ⟨pw_cell_below hb h.c0, pw_cell_below hb h.c1, pw_cell_below hb h.c2, pw_cell_below hb h.c3, pw_cell_below hb h.c4, pw_cell_below hb h.c5, pw_cell_below hb h.c6, pw_cell_below hb h.c7, pw_cell_below hb h.c8, pw_cell_below hb h.c9, pw_cell_below hb h.c10⟩
theorem kv_at {w : World} {p : Addr} {x : Kv} (h : ∀ j, j < 11 → w.cell? (p.add j) = (kvC x)[j]?) : KvAt w p x :=
  ⟨by have := h 0 (by decide); rwa [add_0] at this, by have := h 1 (by decide); rwa [add_at] at this, by have := h 2 (by decide); rwa [add_at] at this, by have := h 3 (by decide); rwa [add_at] at this, by have := h 4 (by decide); rwa [add_at] at this, by have := h 5 (by decide); rwa [add_at] at this, by have := h 6 (by decide); rwa [add_at] at this, by have := h 7 (by decide); rwa [add_at] at this, by have := h 8 (by decide); rwa [add_at] at this, by have := h 9 (by decide); rwa [add_at] at this, by have := h 10 (by decide); rwa [add_at] at this⟩
theorem kv_one (x : Kv) : ∀ u ∈ kvC x, u.oneCell' = true := by
  intro u hu
  simp only [kvC, List.mem_cons, List.not_mem_nil, or_false] at hu
  rcases hu with rfl | rfl | rfl | rfl | rfl | rfl | rfl | rfl | rfl | rfl | rfl <;> rfl
/-- api.Exemplar -/
structure Exm where
  attrs : Sl
  time : Int
  kind : Int
  n : Int
  span : ByteArray
  trace : ByteArray
  unk : ByteArray
  deriving Inhabited
def exmC (x : Exm) : List Value := [x.attrs.v, .int .u64 x.time, .int .i64 x.kind, .int .u64 x.n, .string x.span, .string x.trace, .string x.unk]
/-- What is known of one that was read. -/
structure ExmOk (W : World) (x : Exm) : Prop where
  attrs : Rd Tryz.prog W 22 [x.attrs.v]
  time : 0 ≤ x.time ∧ x.time < 18446744073709551616
  kind : -9223372036854775808 ≤ x.kind ∧ x.kind < 9223372036854775808
  n : 0 ≤ x.n ∧ x.n < 18446744073709551616
  span : x.span.size ≤ maxLen
  trace : x.trace.size ≤ maxLen
  unk : x.unk.size ≤ maxLen
set_option maxRecDepth 100000 in
theorem rd_exm {W : World} {cs : List Value} (h : Rd Tryz.prog W 25 cs) : ∃ x : Exm, cs = exmC x ∧ ExmOk W x := by
  have hu := Tryz.underlying25
  have hl := rd_len hu h
  rw [show Tryz.prog.cellsOf 25 = 7 by kernel_rfl] at hl
  match cs, hl, h with
  | [c0, c1, c2, c3, c4, c5, c6], _, h =>
    have f0 : Rd Tryz.prog W 22 (([c0, c1, c2, c3, c4, c5, c6].drop 0).take (Tryz.prog.cellsOf 22)) := rd_field hu h 0 rfl
    rw [show Tryz.prog.cellsOf 22 = 1 by kernel_rfl] at f0
    have f0 : Rd Tryz.prog W 22 [c0] := f0
    have f1 : Rd Tryz.prog W 23 (([c0, c1, c2, c3, c4, c5, c6].drop 1).take (Tryz.prog.cellsOf 23)) := rd_field hu h 1 rfl
    rw [show Tryz.prog.cellsOf 23 = 1 by kernel_rfl] at f1
    have f1 : Rd Tryz.prog W 23 [c1] := f1
    have f2 : Rd Tryz.prog W 3 (([c0, c1, c2, c3, c4, c5, c6].drop 2).take (Tryz.prog.cellsOf 3)) := rd_field hu h 2 rfl
    rw [show Tryz.prog.cellsOf 3 = 1 by kernel_rfl] at f2
    have f2 : Rd Tryz.prog W 3 [c2] := f2
    have f3 : Rd Tryz.prog W 23 (([c0, c1, c2, c3, c4, c5, c6].drop 3).take (Tryz.prog.cellsOf 23)) := rd_field hu h 3 rfl
    rw [show Tryz.prog.cellsOf 23 = 1 by kernel_rfl] at f3
    have f3 : Rd Tryz.prog W 23 [c3] := f3
    have f4 : Rd Tryz.prog W 9 (([c0, c1, c2, c3, c4, c5, c6].drop 4).take (Tryz.prog.cellsOf 9)) := rd_field hu h 4 rfl
    rw [show Tryz.prog.cellsOf 9 = 1 by kernel_rfl] at f4
    have f4 : Rd Tryz.prog W 9 [c4] := f4
    have f5 : Rd Tryz.prog W 9 (([c0, c1, c2, c3, c4, c5, c6].drop 5).take (Tryz.prog.cellsOf 9)) := rd_field hu h 5 rfl
    rw [show Tryz.prog.cellsOf 9 = 1 by kernel_rfl] at f5
    have f5 : Rd Tryz.prog W 9 [c5] := f5
    have f6 : Rd Tryz.prog W 9 (([c0, c1, c2, c3, c4, c5, c6].drop 6).take (Tryz.prog.cellsOf 9)) := rd_field hu h 6 rfl
    rw [show Tryz.prog.cellsOf 9 = 1 by kernel_rfl] at f6
    have f6 : Rd Tryz.prog W 9 [c6] := f6
    obtain ⟨x0, e0⟩ := rd_slv Tryz.underlying22 f0
    subst e0
    obtain ⟨x1, e1, w1⟩ := rd_int Tryz.underlying23 f1
    have e1 := (List.cons.inj e1).1
    subst e1
    have b1 := bounds_u64 w1
    obtain ⟨x2, e2, w2⟩ := rd_int Tryz.underlying3 f2
    have e2 := (List.cons.inj e2).1
    subst e2
    have b2 := bounds_i64 w2
    obtain ⟨x3, e3, w3⟩ := rd_int Tryz.underlying23 f3
    have e3 := (List.cons.inj e3).1
    subst e3
    have b3 := bounds_u64 w3
    obtain ⟨x4, e4, w4⟩ := rd_string Tryz.underlying9 f4
    have e4 := (List.cons.inj e4).1
    subst e4
    obtain ⟨x5, e5, w5⟩ := rd_string Tryz.underlying9 f5
    have e5 := (List.cons.inj e5).1
    subst e5
    obtain ⟨x6, e6, w6⟩ := rd_string Tryz.underlying9 f6
    have e6 := (List.cons.inj e6).1
    subst e6
    exact ⟨⟨x0, x1, x2, x3, x4, x5, x6⟩, rfl, ⟨f0, ⟨b1.1, Int.lt_of_le_of_lt b1.2 (by decide)⟩, ⟨b2.1, Int.lt_of_le_of_lt b2.2 (by decide)⟩, ⟨b3.1, Int.lt_of_le_of_lt b3.2 (by decide)⟩, w4, w5, w6⟩⟩
/-- One at an address. -/
structure ExmAt (w : World) (p : Addr) (x : Exm) : Prop where
  c0 : w.cell? p = some (x.attrs.v)
  c1 : w.cell? ⟨p.block, p.off + 1, none⟩ = some (.int .u64 x.time)
  c2 : w.cell? ⟨p.block, p.off + 2, none⟩ = some (.int .i64 x.kind)
  c3 : w.cell? ⟨p.block, p.off + 3, none⟩ = some (.int .u64 x.n)
  c4 : w.cell? ⟨p.block, p.off + 4, none⟩ = some (.string x.span)
  c5 : w.cell? ⟨p.block, p.off + 5, none⟩ = some (.string x.trace)
  c6 : w.cell? ⟨p.block, p.off + 6, none⟩ = some (.string x.unk)
theorem ExmAt.below {w w' : World} {p : Addr} {x : Exm} (h : ExmAt w p x) (hb : Below w.heap.size w w') : ExmAt w' p x := ⟨pw_cell_below hb h.c0, pw_cell_below hb h.c1, pw_cell_below hb h.c2, pw_cell_below hb h.c3, pw_cell_below hb h.c4, pw_cell_below hb h.c5, pw_cell_below hb h.c6⟩
theorem exm_at {w : World} {p : Addr} {x : Exm} (h : ∀ j, j < 7 → w.cell? (p.add j) = (exmC x)[j]?) : ExmAt w p x :=
  ⟨by have := h 0 (by decide); rwa [add_0] at this, by have := h 1 (by decide); rwa [add_at] at this, by have := h 2 (by decide); rwa [add_at] at this, by have := h 3 (by decide); rwa [add_at] at this, by have := h 4 (by decide); rwa [add_at] at this, by have := h 5 (by decide); rwa [add_at] at this, by have := h 6 (by decide); rwa [add_at] at this⟩
theorem rd_vls {W : World} {s : Sl} (h : Rd Tryz.prog W 55 [s.v]) : ∃ l : List Vl, SlAt 8 vlC VlOk W s l := by
  obtain ⟨s', l, e, h⟩ := rd_sl (k := 8) Tryz.underlying55 (by kernel_rfl) (fun es he => rd_vl he) h
  obtain rfl : s = s' := by
    obtain ⟨a, n, c⟩ := s
    obtain ⟨a', n', c'⟩ := s'
    simp only [Sl.v, List.cons.injEq, and_true] at e
    injection e with e1 e2 e3
    subst e1 e2 e3
    rfl
  exact ⟨l, h⟩
theorem rd_kvs {W : World} {s : Sl} (h : Rd Tryz.prog W 22 [s.v]) : ∃ l : List Kv, SlAt 11 kvC KvOk W s l := by
  obtain ⟨s', l, e, h⟩ := rd_sl (k := 11) Tryz.underlying22 (by kernel_rfl) (fun es he => rd_kv he) h
  obtain rfl : s = s' := by
    obtain ⟨a, n, c⟩ := s
    obtain ⟨a', n', c'⟩ := s'
    simp only [Sl.v, List.cons.injEq, and_true] at e
    injection e with e1 e2 e3
    subst e1 e2 e3
    rfl
  exact ⟨l, h⟩
end Go.Proofs.YtnghlkbmfhkmoaaGreatDoor
