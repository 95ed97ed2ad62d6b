import Derived.Test.YtnghlkbmfhkmoaaGreatDoorProg
import Derived.WalkKit
import Derived.WideLaws
import Derived.LaidEql
import Derived.Deep.QuietTactic
import Derived.BigQuiet
import Derived.OwnWalk
import Derived.Test.YtnghlkbmfhkmoaaGreatDoorMvjyhaahm
import Derived.Test.YtnghlkbmfhkmoaaGreatDoorCExwx
namespace Go.Proofs.YtnghlkbmfhkmoaaGreatDoor
open Go.RowKit

/-- What an error tells. -/
inductive Err where
  | nil : Err
  | code : Int → Err
  | at_ : Int → Err → Err
  | fld : Int → Err → Err
  | oth : Err

/-- A value that tells an error, in a world. -/
def IsE (w : World) : Err → Value → Prop
  | .nil, v => v = .nilIface
  | .code c, v => v = .iface 36 (.int .i64 c)
  | .at_ n e, v => ∃ a u, v = .iface 162 (.pointer (some ⟨a, 0, none⟩)) ∧ w.heap[a]? = some (.cells #[.int .i64 n, u] 164 (0, 0)) ∧ IsE w e u
  | .fld _ _, _ => False
  | .oth, _ => False

theorem at_any (n : Int) (u : Value) (w : World) (h : ∃ T x, u = .iface T x) :
    Calls Tryz.prog 117 #[.int .i64 n, u] w fun e w' => e = .returned (.iface 162 (.pointer (some ⟨w.heap.size, 0, none⟩))) ∧ w' = w.alloc (.cells #[.int .i64 n, u] 164 (0, 0)) := by
  obtain ⟨T, x, rfl⟩ := h
  go_enter Tryz.func117, Tryz.ntmps117
  go_wp2
  go_ret
  exact ⟨rfl, rfl⟩

theorem IsE.below {w w' : World} {e : Err} : ∀ {v : Value}, IsE w e v → Below w.heap.size w w' → IsE w' e v := by
  induction e with
  | nil => intro v h _; exact h
  | code c => intro v h _; exact h
  | at_ n e ih =>
    intro v h hb
    obtain ⟨a, u, rfl, ha, hu⟩ := h
    exact ⟨a, u, rfl, by rw [hb.block a (Array.getElem?_eq_some_iff.1 ha).1]; exact ha, ih hu hb⟩
  | fld n e ih => intro v h _; exact h
  | oth => intro v h _; exact h
theorem IsE.iface {w : World} {e : Err} {v : Value} (h : IsE w e v) (he : e ≠ .nil) : ∃ T x, v = .iface T x := by
  cases e with
  | nil => exact absurd rfl he
  | code c => exact ⟨_, _, h⟩
  | at_ n e => obtain ⟨a, u, rfl, _⟩ := h; exact ⟨_, _, rfl⟩
  | fld n e => exact h.elim
  | oth => exact h.elim
theorem IsE.new {w : World} {n : Int} {e : Err} {u : Value} (h : IsE w e u) : IsE (w.alloc (.cells #[.int .i64 n, u] 164 (0, 0))) (.at_ n e) (.iface 162 (.pointer (some ⟨w.heap.size, 0, none⟩))) :=
  ⟨_, _, rfl, heap_alloc_new _ _, h.below ((Below.refl _ _).alloc (Nat.le_refl _) _)⟩
end Go.Proofs.YtnghlkbmfhkmoaaGreatDoor
namespace Go.Proofs.YtnghlkbmfhkmoaaGreatDoor
open Go.RowKit Go.Proofs.YtnghlkbmfhkmoaaGreatDoorW.PrintWords Go.Proofs.YtnghlkbmfhkmoaaGreatDoorW.PrintLast Go.Proofs.YtnghlkbmfhkmoaaGreatDoorW.PrintMore Hy
open CExw

theorem put_l0 : ∀ (j n : Nat) (k : Nat) (acc : List Nat), n < 2 ^ (7 * (j + 1)) → n < 18446744073709551616 → acc.length + j < 1000 → j < k →
    varint_Put.l0 k (n : Int) (acc.map fun (x : Nat) => (x : Int)) = some (st (acc ++ putL n)) := by
  intro j
  induction j with
  | zero =>
    intro n k acc h h64 hl hk
    obtain ⟨k, rfl⟩ : ∃ m, k = m + 1 := ⟨k - 1, by omega⟩
    have hn : n < 128 := by simpa using h
    simp only [varint_Put.l0]
    rw [if_neg (by omega), if_pos (by simp; omega), putL_lo n hn, ← strOfNums_eq, show (n : Int) % 256 = n by omega]
    simp
  | succ j ih =>
    intro n k acc h h64 hl hk
    obtain ⟨k, rfl⟩ : ∃ m, k = m + 1 := ⟨k - 1, by omega⟩
    simp only [varint_Put.l0]
    by_cases hn : n < 128
    · rw [if_neg (by omega), if_pos (by simp; omega), putL_lo n hn, ← strOfNums_eq, show (n : Int) % 256 = n by omega]
      simp
    · have h' : n / 128 < 2 ^ (7 * (j + 1)) := by
        rw [Nat.div_lt_iff_lt_mul (by omega)]
        calc n < _ := h
          _ = _ := by rw [show 7 * (j + 1 + 1) = 7 * (j + 1) + 7 by omega, Nat.pow_add]
      have := ih (n / 128) k (acc ++ [n % 128 + 128]) h' (by omega) (by simp; omega) (by omega)
      rw [if_pos (by omega), if_pos (by simp; omega), putL_hi n hn, or_u8_128 _ (by omega) (by omega)]
      rw [List.append_assoc] at this
      simp only [List.cons_append, List.nil_append] at this
      rw [← this]
      have e : ((n : Int) / 128) = ((n / 128 : Nat) : Int) := by omega
      have e2 : (n : Int) % 256 % 128 + 128 = ((n % 128 + 128 : Nat) : Int) := by omega
      rw [e, e2]
      simp
theorem put_f (n : Int) (h0 : 0 ≤ n) (h1 : n < 18446744073709551616) : varint_Put.f 10 n = some (put n) := by
  obtain ⟨n, rfl⟩ := Int.eq_ofNat_of_zero_le h0
  have := put_l0 9 n 10 [] (by omega) (by omega) (by simp) (by omega)
  simpa [varint_Put.f, put] using this
theorem put_any (n : Int) (w : World) (h0 : 0 ≤ n) (h1 : n < 18446744073709551616) :
    Calls Tryz.prog 88 #[.int .u64 n] w fun e w' => e = .returned (.string (put n)) ∧ Below w.heap.size w w' :=
  varint_Put.calls 10 n _ w (put_f n h0 h1)


theorem w7 (i : Nat) (hi : i ≤ 9) : wrap64 (7 * (i : Int)) = 7 * i := by unfold wrap64; omega
theorem shl7 (x : Int) (i : Nat) (hi : i ≤ 9) (h0 : 0 ≤ x) (h1 : x * 2 ^ (7 * i) < 18446744073709551616) : shl .u64 x (wrap64 (7 * (i : Int))) = x * 2 ^ (7 * i) := by
  have e0 : wrap64 (7 * (i : Int)) = 7 * i := by unfold wrap64; omega
  have e : (wrap64 (7 * (i : Int))).toNat = 7 * i := by rw [e0]; omega
  unfold shl
  rw [e, Nat.min_eq_left (by simp [IntKind.bits]; omega), wrap_u64]
  have : 0 ≤ x * 2 ^ (7 * i) := Int.mul_nonneg h0 (Int.pow_nonneg (by decide))
  exact Int.emod_eq_of_lt this h1
theorem step7 (c i acc : Nat) (hi : i ≤ 9) (hc : c < 256) (h9 : i = 9 → c ≤ 1) (ha : acc < 2 ^ (7 * i)) :
    Go.bits .or .u64 (acc : Int) (shl .u64 (IntKind.u64.wrap (Go.bits .andNot .u8 (c : Int) 128)) (wrap64 (7 * (i : Int)))) = ((acc + c % 128 * 2 ^ (7 * i) : Nat) : Int) ∧ acc + c % 128 * 2 ^ (7 * i) < 18446744073709551616 ∧ (i ≤ 8 → acc + c % 128 * 2 ^ (7 * i) < 2 ^ (7 * (i + 1))) := by
  have hpow : 2 ^ (7 * i) * 2 ^ (64 - 7 * i) = 18446744073709551616 := by
    rw [← Nat.pow_add, show 7 * i + (64 - 7 * i) = 64 by omega]
  have hp : 2 ^ (7 * (i + 1)) = 128 * 2 ^ (7 * i) := by rw [show 7 * (i + 1) = 7 * i + 7 by omega, Nat.pow_add]; omega
  have hb : c % 128 + 1 ≤ 2 ^ (64 - 7 * i) := by
    by_cases e : i = 9
    · have := h9 e; subst e; simp; omega
    · calc c % 128 + 1 ≤ 2 ^ 7 := by omega
        _ ≤ _ := Nat.pow_le_pow_right (by omega) (by omega)
  have hlt : acc + c % 128 * 2 ^ (7 * i) < 18446744073709551616 := by
    calc acc + c % 128 * 2 ^ (7 * i) < (c % 128 + 1) * 2 ^ (7 * i) := by rw [Nat.add_mul]; omega
      _ ≤ 2 ^ (64 - 7 * i) * 2 ^ (7 * i) := Nat.mul_le_mul_right _ hb
      _ = _ := by rw [Nat.mul_comm]; exact hpow
  have hy : c % 128 * 2 ^ (7 * i) < 18446744073709551616 := by omega
  have hi64 : 2 ^ (7 * i) ≤ 18446744073709551616 := by rw [← hpow]; exact Nat.le_mul_of_pos_right _ (Nat.two_pow_pos _)
  refine ⟨?_, hlt, fun _ => ?_⟩
  · have e1 : IntKind.u64.wrap (Go.bits .andNot .u8 (c : Int) 128) = ((c % 128 : Nat) : Int) := by
      rw [andNot_u8_128 _ (by omega) (by omega), wrap_u64]; omega
    have e2 : ((c % 128 : Nat) : Int) * 2 ^ (7 * i) = ((c % 128 * 2 ^ (7 * i) : Nat) : Int) := by rw [Int.natCast_mul, Int.natCast_pow]; rfl
    rw [e1, shl7 _ i hi (by omega) (by rw [e2]; omega), e2, or_join_u64 _ _ (7 * i) (by omega) (by exact_mod_cast ha) (by omega) ?_ (by omega) (by omega)]
    · omega
    · have : c % 128 * 2 ^ (7 * i) % 2 ^ (7 * i) = 0 := Nat.mul_mod_left _ _
      exact_mod_cast this
  · rw [hp]
    have : c % 128 * 2 ^ (7 * i) ≤ 127 * 2 ^ (7 * i) := Nat.mul_le_mul_right _ (by omega)
    omega
theorem read_9 (s : ByteArray) (acc k : Nat) (hle : 9 ≤ s.size) (ha : acc < 2 ^ (7 * 9)) :
    varint_read.l0 (k + 2) s (acc : Int) (mn (s.size : Int) 10) ((9 : Nat) : Int) = match dec 9 ((bs s).drop 9) with
      | .inl c => some (0, 0, some (c : Int))
      | .inr (v, m) => some (((acc + v : Nat) : Int), ((9 + m : Nat) : Int), none) := by
  by_cases hlt : 9 < s.size
  · obtain ⟨c, r, h1, h2, h3, h4⟩ := bt_bs s 9 hlt
    have hA : ((9 : Nat) : Int) < mn (s.size : Int) 10 := by unfold mn; split <;> omega
    have hB : 0 ≤ ((9 : Nat) : Int) := by omega
    have hC : ((9 : Nat) : Int) < (s.size : Int) := by omega
    have hD : ((9 : Nat) : Int) = 9 := rfl
    have e1 : wrap64 (((9 : Nat) : Int) + 1) = ((9 + 1 : Nat) : Int) := by unfold wrap64; omega
    have hE : 0 ≤ wrap64 (7 * ((9 : Nat) : Int)) := by rw [w7 9 (by omega)]; omega
    by_cases hc : 1 < c
    · have hT : decide ((c : Int) > 1) = true := by simp; omega
      rw [h1, dec_big c r hc]
      simp only [varint_read.l0, varint_read.j1]
      rw [if_pos hA, if_pos hB, if_pos hC, if_pos hD, h2, if_pos hT]
      rfl
    · have hT : ¬ (decide ((c : Int) > 1) = true) := by simp; omega
      have hF : (c : Int) < 128 := by omega
      have this := (step7 c 9 acc (by omega) h3 (fun _ => by omega) ha).1
      rw [h1, dec_end 9 c r (by omega) (by omega)]
      simp only [varint_read.l0, varint_read.j1]
      rw [if_pos hA, if_pos hB, if_pos hC, if_pos hD, h2, if_neg hT, if_pos hE, if_pos hF, this, Nat.mod_eq_of_lt (show c < 128 by omega), e1]
  · rw [List.drop_of_length_le (by rw [bs_length]; omega), dec_nil]
    simp only [varint_read.l0]
    rw [if_neg (by unfold mn; split <;> omega)]
    rfl
theorem read_step (s : ByteArray) (i acc k : Nat) (hi : i ≤ 8) (hlt : i < s.size) (ha : acc < 2 ^ (7 * i)) (c : Nat) (r : List Nat) (_h1 : (bs s).drop i = c :: r) (h2 : bt s (i : Int) = (c : Int)) (h3 : c < 256) (hF : (c : Int) < 128) :
    varint_read.l0 (k + 2) s (acc : Int) (mn (s.size : Int) 10) (i : Int) = some (((acc + c * 2 ^ (7 * i) : Nat) : Int), ((i + 1 : Nat) : Int), none) := by
  have hA : (i : Int) < mn (s.size : Int) 10 := by unfold mn; split <;> omega
  have hB : 0 ≤ (i : Int) := by omega
  have hC : (i : Int) < (s.size : Int) := by omega
  have hD : ¬ (i : Int) = 9 := by omega
  have hE : 0 ≤ wrap64 (7 * (i : Int)) := by rw [w7 i (by omega)]; omega
  have hT : ¬ (false = true) := by simp
  have hm : c % 128 = c := Nat.mod_eq_of_lt (by omega)
  have e1 : wrap64 ((i : Int) + 1) = ((i + 1 : Nat) : Int) := by unfold wrap64; omega
  have hs7 := (step7 c i acc (by omega) h3 (fun h => by omega) ha).1
  simp only [varint_read.l0, varint_read.j1]
  rw [if_pos hA, if_pos hB, if_pos hC, if_neg hD, h2, if_neg hT, if_pos hE, if_pos hF, hs7, e1, hm]
theorem read_step2 (s : ByteArray) (i acc k : Nat) (hi : i ≤ 8) (hlt : i < s.size) (ha : acc < 2 ^ (7 * i)) (c : Nat) (r : List Nat) (_h1 : (bs s).drop i = c :: r) (h2 : bt s (i : Int) = (c : Int)) (h3 : c < 256) (hF : ¬ (c : Int) < 128) :
    varint_read.l0 (k + 2) s (acc : Int) (mn (s.size : Int) 10) (i : Int) = varint_read.l0 k s ((acc + (c - 128) * 2 ^ (7 * i) : Nat) : Int) (mn (s.size : Int) 10) ((i + 1 : Nat) : Int) ∧ acc + (c - 128) * 2 ^ (7 * i) < 2 ^ (7 * (i + 1)) := by
  have hA : (i : Int) < mn (s.size : Int) 10 := by unfold mn; split <;> omega
  have hB : 0 ≤ (i : Int) := by omega
  have hC : (i : Int) < (s.size : Int) := by omega
  have hD : ¬ (i : Int) = 9 := by omega
  have hE : 0 ≤ wrap64 (7 * (i : Int)) := by rw [w7 i (by omega)]; omega
  have hT : ¬ (false = true) := by simp
  have hm : c % 128 = c - 128 := by omega
  have e1 : wrap64 ((i : Int) + 1) = ((i + 1 : Nat) : Int) := by unfold wrap64; omega
  obtain ⟨hs7, _, hs8⟩ := step7 c i acc (by omega) h3 (fun h => by omega) ha
  have hs9 := hs8 hi
  rw [hm] at hs7 hs9
  refine ⟨?_, hs9⟩
  rw [varint_read.l0, if_pos hA, if_pos hB, if_pos hC, if_neg hD, h2, varint_read.j1, if_neg hT, if_pos hE, if_neg hF, hs7, e1]
theorem read_both : ∀ (d : Nat) (s : ByteArray) (i acc k : Nat), i + d = 9 → i ≤ s.size → acc < 2 ^ (7 * i) → 2 * d + 3 ≤ k →
    varint_read.l0 k s (acc : Int) (mn (s.size : Int) 10) (i : Int) = match dec i ((bs s).drop i) with
      | .inl c => some (0, 0, some (c : Int))
      | .inr (v, m) => some (((acc + v : Nat) : Int), ((i + m : Nat) : Int), none) := by
  intro d
  induction d with
  | zero =>
    intro s i acc k hi hle ha hk
    obtain rfl : i = 9 := by omega
    obtain ⟨k, rfl⟩ : ∃ m, k = m + 2 := ⟨k - 2, by omega⟩
    exact read_9 s acc k hle ha
  | succ d ih =>
    intro s i acc k hi hle ha hk
    obtain ⟨k, rfl⟩ : ∃ m, k = m + 2 := ⟨k - 2, by omega⟩
    have hi8 : i ≤ 8 := by omega
    by_cases hlt : i < s.size
    · obtain ⟨c, r, h1, h2, h3, h4⟩ := bt_bs s i hlt
      have hN : ¬ (i = 9 ∧ 1 < c) := by omega
      by_cases hc : c < 128
      · rw [h1, dec_end i c r hN hc]
        exact read_step s i acc k hi8 hlt ha c r h1 h2 h3 (by omega)
      · obtain ⟨e, hb⟩ := read_step2 s i acc k hi8 hlt ha c r h1 h2 h3 (by omega)
        have IH := ih s (i + 1) _ k (by omega) (by omega) hb (by omega)
        rw [h4] at IH
        rw [h1, dec_on i c r hN hc, e, IH]
        cases dec (i + 1) r with
        | inl x => rfl
        | inr x =>
          obtain ⟨v, m⟩ := x
          show some (((acc + (c - 128) * 2 ^ (7 * i) + v : Nat) : Int), ((i + 1 + m : Nat) : Int), Option.none) = some (((acc + ((c - 128) * 2 ^ (7 * i) + v) : Nat) : Int), ((i + (m + 1) : Nat) : Int), Option.none)
          rw [Nat.add_assoc acc, Nat.add_assoc i, Nat.add_comm 1 m]
    · rw [List.drop_of_length_le (by rw [bs_length]; omega), dec_nil, varint_read.l0, if_neg (by unfold mn; split <;> omega)]
      rfl
theorem read_f (s : ByteArray) : varint_read.f 30 s = match dec 0 (bs s) with
      | .inl c => some (0, 0, some (c : Int))
      | .inr (v, m) => some ((v : Int), (m : Int), none) := by
  have := read_both 9 s 0 0 30 rfl (by omega) (by simp) (by omega)
  simp only [varint_read.f]
  simp only [Int.natCast_zero, Nat.zero_add, List.drop_zero] at this
  exact this
end Go.Proofs.YtnghlkbmfhkmoaaGreatDoor
