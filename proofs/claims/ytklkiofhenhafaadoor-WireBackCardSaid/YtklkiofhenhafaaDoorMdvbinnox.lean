import Derived.Test.YtklkiofhenhafaaDoorMvfktlwbf
import Derived.Test.YtklkiofhenhafaaDoorCWirex
import Derived.Test.YtklkiofhenhafaaDoorMgabaxjxe
import Derived.Test.YtklkiofhenhafaaDoorWLast
import Derived.Test.YtklkiofhenhafaaDoorWMore
import Derived.Test.YtklkiofhenhafaaDoorMlrlhopvx
namespace Go.Proofs.YtklkiofhenhafaaDoor
open Go.RowKit Go.Proofs.YtklkiofhenhafaaDoorW.PrintWords Go.Proofs.YtklkiofhenhafaaDoorW.PrintLast Go.Proofs.YtklkiofhenhafaaDoorW.PrintMore Hy
open CWire (hygref2_GetVarint.l0 hygref2_GetVarint.j2 hygref2_GetVarint.j0 hygref2_GetVarint.f hygref2_GetVarint.calls)

/-! ### the document's own reading of a number -/
theorem and_u8_127 (x : Int) (h0 : 0 ≤ x) (h1 : x < 256) : Go.bits .and .u8 x 127 = x % 128 :=
  bits_mask .u8 8 (by decide) wraps_u8 7 (by decide) x h0 (by simpa using h1)
theorem rstep7 (c i acc : Nat) (hi : i ≤ 9) (hc : c < 256) (h9 : i = 9 → c ≤ 1) (ha : acc < 2 ^ (7 * i)) :
    Go.bits .or .u64 (acc : Int) (shl .u64 (IntKind.u64.wrap (Go.bits .and .u8 (c : Int) 127)) (IntKind.u64.wrap (wrap64 (7 * (i : Int))))) = ((acc + c % 128 * 2 ^ (7 * i) : Nat) : Int) := by
  have h := (step7 c i acc hi hc h9 ha).1
  rw [and_u8_127 _ (by omega) (by omega), ← andNot_u8_128 _ (by omega) (by omega), show IntKind.u64.wrap (wrap64 (7 * (i : Int))) = wrap64 (7 * (i : Int)) by rw [w7 i hi, wrap_u64]; omega]
  exact h
theorem rg_end (s : ByteArray) (a i k : Nat) (acc : Int) (hs : s.size ≤ 140737488351232) (hi : i ≤ 9) (hle : a + i = s.size) : hygref2_GetVarint.l0 (k + 1) s (a : Int) acc (i : Int) = some (0, 0, 1) := by
  have e0 : wrap64 ((a : Int) + (i : Int)) = ((a + i : Nat) : Int) := by unfold wrap64; omega
  have hx : (i : Int) < 10 := by omega
  have hA : ((a + i : Nat) : Int) ≥ (s.size : Int) := by omega
  rw [hygref2_GetVarint.l0, if_pos hx, e0, if_pos hA]
theorem rg_big (s : ByteArray) (a k : Nat) (acc : Int) (hs : s.size ≤ 140737488351232) (hlt : a + 9 < s.size) (c : Nat) (h2 : bt s ((a + 9 : Nat) : Int) = (c : Int)) (hc : 1 < c) : hygref2_GetVarint.l0 (k + 2) s (a : Int) acc ((9 : Nat) : Int) = some (0, 0, 4) := by
  have e0 : wrap64 ((a : Int) + ((9 : Nat) : Int)) = ((a + 9 : Nat) : Int) := by unfold wrap64; omega
  have hx : ((9 : Nat) : Int) < 10 := by omega
  have hA : ¬ ((a + 9 : Nat) : Int) ≥ (s.size : Int) := by omega
  have hB : 0 ≤ ((a + 9 : Nat) : Int) := by omega
  have hC : ((a + 9 : Nat) : Int) < (s.size : Int) := by omega
  have hD : ((9 : Nat) : Int) = 9 := rfl
  have hT : decide ((c : Int) > 1) = true := by simp; omega
  rw [hygref2_GetVarint.l0, if_pos hx, e0, if_neg hA, if_pos hB, if_pos hC, if_pos hD, h2, hygref2_GetVarint.j2, if_pos hT]
theorem rg_j2 (s : ByteArray) (a i acc k c : Nat) (x : Bool) (hx : x = false) (hs : s.size ≤ 140737488351232) (hi : i ≤ 9) (hlt : a + i < s.size) (ha : acc < 2 ^ (7 * i)) (h3 : c < 256) (h9 : i = 9 → c ≤ 1) :
    hygref2_GetVarint.j2 (k + 1) s (a : Int) (acc : Int) (i : Int) (c : Int) x = if c < 128 then some (((acc + c % 128 * 2 ^ (7 * i) : Nat) : Int), ((a + i + 1 : Nat) : Int), 0) else hygref2_GetVarint.l0 k s (a : Int) ((acc + c % 128 * 2 ^ (7 * i) : Nat) : Int) ((i + 1 : Nat) : Int) := by
  have hE : 0 ≤ IntKind.u64.wrap (wrap64 (7 * (i : Int))) := by rw [w7 i hi, wrap_u64]; omega
  have hT : ¬ (false = true) := by simp
  have e0 : wrap64 ((a : Int) + (i : Int)) = ((a + i : Nat) : Int) := by unfold wrap64; omega
  have e1 : wrap64 (((a + i : Nat) : Int) + 1) = ((a + i + 1 : Nat) : Int) := by unfold wrap64; omega
  have e2 : wrap64 ((i : Int) + 1) = ((i + 1 : Nat) : Int) := by unfold wrap64; omega
  have h7 := rstep7 c i acc hi h3 h9 ha
  subst hx
  rw [hygref2_GetVarint.j2, if_neg hT, if_pos hE, h7, e0, e1, e2]
  by_cases hc : c < 128
  · rw [if_pos hc, if_pos (by omega)]
  · rw [if_neg hc, if_neg (by omega)]
theorem rg_step (s : ByteArray) (a i acc k c : Nat) (hs : s.size ≤ 140737488351232) (hi : i ≤ 9) (hlt : a + i < s.size) (ha : acc < 2 ^ (7 * i)) (h2 : bt s ((a + i : Nat) : Int) = (c : Int)) (h3 : c < 256) (h9 : i = 9 → c ≤ 1) :
    hygref2_GetVarint.l0 (k + 2) s (a : Int) (acc : Int) (i : Int) = if c < 128 then some (((acc + c % 128 * 2 ^ (7 * i) : Nat) : Int), ((a + i + 1 : Nat) : Int), 0) else hygref2_GetVarint.l0 k s (a : Int) ((acc + c % 128 * 2 ^ (7 * i) : Nat) : Int) ((i + 1 : Nat) : Int) := by
  have e0 : wrap64 ((a : Int) + (i : Int)) = ((a + i : Nat) : Int) := by unfold wrap64; omega
  have hx : (i : Int) < 10 := by omega
  have hA : ¬ ((a + i : Nat) : Int) ≥ (s.size : Int) := by omega
  have hB : 0 ≤ ((a + i : Nat) : Int) := by omega
  have hC : ((a + i : Nat) : Int) < (s.size : Int) := by omega
  rw [hygref2_GetVarint.l0, if_pos hx, e0, if_neg hA, if_pos hB, if_pos hC, h2]
  by_cases hD : (i : Int) = 9
  · rw [if_pos hD, rg_j2 s a i acc k c _ (by have := h9 (by omega); simp; omega) hs hi hlt ha h3 h9]
  · rw [if_neg hD, rg_j2 s a i acc k c _ rfl hs hi hlt ha h3 h9]
/-- What the reading gives, as the document's function tells it. -/
def rgv (a : Nat) (x : Sum Nat (Nat × Nat)) : Option (Int × Int × Int) := match x with
  | .inl c => some (0, 0, (c : Int))
  | .inr (v, m) => some ((v : Int), ((a + m : Nat) : Int), 0)
def addv (n k : Nat) : Sum Nat (Nat × Nat) → Sum Nat (Nat × Nat)
  | .inl c => .inl c
  | .inr (v, m) => .inr (n + v, k + m)
theorem rgetv_l0 : ∀ (d : Nat) (s : ByteArray) (a i acc k : Nat), s.size ≤ 140737488351232 → i + d = 9 → a + i ≤ s.size → acc < 2 ^ (7 * i) → 2 * d + 2 ≤ k →
    hygref2_GetVarint.l0 k s (a : Int) (acc : Int) (i : Int) = rgv a (addv acc i (dec i ((bs s).drop (a + i)))) := by
  intro d
  induction d with
  | zero =>
    intro s a i acc k hs hi hle ha hk
    obtain rfl : i = 9 := by omega
    obtain ⟨k, rfl⟩ : ∃ m, k = m + 2 := ⟨k - 2, by omega⟩
    by_cases hlt : a + 9 < s.size
    · obtain ⟨c, r, h1, h2, h3, h4⟩ := bt_bs s (a + 9) hlt
      by_cases hc : 1 < c
      · rw [h1, dec_big c r hc, rg_big s a k acc hs hlt c h2 hc]; rfl
      · rw [h1, dec_end 9 c r (by omega) (by omega), rg_step s a 9 acc k c hs (by omega) hlt ha h2 h3 (fun _ => by omega), if_pos (by omega), Nat.mod_eq_of_lt (show c < 128 by omega)]
        rfl
    · rw [List.drop_of_length_le (by rw [bs_length]; omega), dec_nil, rg_end s a 9 (k + 1) acc hs (by omega) (by omega)]
      rfl
  | succ d ih =>
    intro s a i acc k hs hi hle ha hk
    obtain ⟨k, rfl⟩ : ∃ m, k = m + 2 := ⟨k - 2, by omega⟩
    by_cases hlt : a + i < s.size
    · obtain ⟨c, r, h1, h2, h3, h4⟩ := bt_bs s (a + i) hlt
      have hN : ¬ (i = 9 ∧ 1 < c) := by omega
      have hs8 := (step7 c i acc (by omega) h3 (fun h => by omega) ha).2.2 (by omega)
      rw [rg_step s a i acc k c hs (by omega) hlt ha h2 h3 (fun h => by omega)]
      by_cases hc : c < 128
      · rw [h1, dec_end i c r hN hc, if_pos hc, Nat.mod_eq_of_lt hc]; rfl
      · have IH := ih s a (i + 1) _ k hs (by omega) (by omega) hs8 (by omega)
        rw [show a + (i + 1) = a + i + 1 by omega, h4] at IH
        rw [if_neg hc, IH, h1, dec_on i c r hN hc, show c % 128 = c - 128 by omega]
        cases dec (i + 1) r with
        | inl x => rfl
        | inr x =>
          obtain ⟨v, m⟩ := x
          show some (((acc + (c - 128) * 2 ^ (7 * i) + v : Nat) : Int), ((a + (i + 1 + m) : Nat) : Int), (0 : Int)) = some (((acc + ((c - 128) * 2 ^ (7 * i) + v) : Nat) : Int), ((a + (i + (m + 1)) : Nat) : Int), 0)
          rw [Nat.add_assoc acc, Nat.add_assoc i, Nat.add_comm 1 m]
    · rw [List.drop_of_length_le (by rw [bs_length]; omega), dec_nil, rg_end s a i (k + 1) acc hs (by omega) (by omega)]
      rfl
theorem rgetv_k (s : ByteArray) (a k : Nat) (hk : 21 ≤ k) (hs : s.size ≤ 140737488351232) (ha : a ≤ s.size) : hygref2_GetVarint.f k s (a : Int) = rgv a (dec 0 ((bs s).drop a)) := by
  obtain ⟨k, rfl⟩ : ∃ m, k = m + 1 := ⟨k - 1, by omega⟩
  have := rgetv_l0 9 s a 0 0 k hs rfl (by omega) (by simp) (by omega)
  unfold hygref2_GetVarint.f
  rw [if_neg (by omega), hygref2_GetVarint.j0, if_neg (by simp; omega)]
  rw [Nat.add_zero] at this
  refine this.trans ?_
  cases dec 0 ((bs s).drop a) with
  | inl c => rfl
  | inr x => obtain ⟨v, m⟩ := x; simp [addv]
theorem rgetv_f (s : ByteArray) (a : Nat) (hs : s.size ≤ 140737488351232) (ha : a ≤ s.size) : hygref2_GetVarint.f 30 s (a : Int) = rgv a (dec 0 ((bs s).drop a)) := rgetv_k s a 30 (by omega) hs ha
theorem rgetv_range (s : ByteArray) (a : Int) (h : a < 0 ∨ s.size < a) : hygref2_GetVarint.f 30 s a = some (0, 0, 9) := by
  unfold hygref2_GetVarint.f
  by_cases h0 : a < 0
  · rw [if_pos h0, hygref2_GetVarint.j0, if_pos rfl]
  · rw [if_neg h0, hygref2_GetVarint.j0, if_pos (by simp; omega)]
end Go.Proofs.YtklkiofhenhafaaDoor
namespace Go.Proofs.YtklkiofhenhafaaDoor
open Go.RowKit Go.Proofs.YtklkiofhenhafaaDoorW.PrintWords Go.Proofs.YtklkiofhenhafaaDoorW.PrintLast Go.Proofs.YtklkiofhenhafaaDoorW.PrintMore Hy
open CWire (hygref2_Varint.l0 hygref2_Varint.f)

/-! ### the document's own: a number written; texts taken apart -/
theorem vput_l0 : ∀ (j n : Nat) (k : Nat) (acc : List Nat), n < 2 ^ (7 * (j + 1)) → n < 18446744073709551616 → acc.length + j < 1000 → j < k →
    hygref2_Varint.l0 k (n : Int) (acc.map fun (x : Nat) => (x : Int)) = some (st (acc ++ putL n)) := by
  intro j
  induction j with
  | zero =>
    intro n k acc h h64 hl hk
    obtain ⟨k, rfl⟩ : ∃ m, k = m + 1 := ⟨k - 1, by omega⟩
    have hn : n < 128 := by simpa using h
    simp only [hygref2_Varint.l0]
    rw [if_neg (by omega), if_pos (by simp; omega), putL_lo n hn, ← strOfNums_eq, show (n : Int) % 256 = n by omega]
    simp
  | succ j ih =>
    intro n k acc h h64 hl hk
    obtain ⟨k, rfl⟩ : ∃ m, k = m + 1 := ⟨k - 1, by omega⟩
    simp only [hygref2_Varint.l0]
    by_cases hn : n < 128
    · rw [if_neg (by omega), if_pos (by simp; omega), putL_lo n hn, ← strOfNums_eq, show (n : Int) % 256 = n by omega]
      simp
    · have h' : n / 128 < 2 ^ (7 * (j + 1)) := by
        rw [Nat.div_lt_iff_lt_mul (by omega)]
        calc n < _ := h
          _ = _ := by rw [show 7 * (j + 1 + 1) = 7 * (j + 1) + 7 by omega, Nat.pow_add]
      have := ih (n / 128) k (acc ++ [n % 128 + 128]) h' (by omega) (by simp; omega) (by omega)
      rw [if_pos (by omega), if_pos (by simp; omega), putL_hi n hn, and_u64_127 _ (by omega) (by omega), or_u64_128 _ (by omega) (by omega)]
      rw [List.append_assoc] at this
      simp only [List.cons_append, List.nil_append] at this
      rw [← this]
      have e : ((n : Int) / 128) = ((n / 128 : Nat) : Int) := by omega
      have e2 : ((n : Int) % 128 + 128) % 256 = ((n % 128 + 128 : Nat) : Int) := by omega
      rw [e, e2]
      simp
theorem vput_k (n : Nat) (k : Nat) (h1 : n < 18446744073709551616) (hk : 10 ≤ k) : hygref2_Varint.f k (n : Int) = some (st (putL n)) := by
  have := vput_l0 9 n k [] (by omega) (by omega) (by simp) (by omega)
  simpa [hygref2_Varint.f] using this
theorem vput_any (n : Nat) (w : World) (h1 : n < 18446744073709551616) :
    Calls Tryd.prog 40 #[.int .u64 (n : Int)] w fun e w' => e = .returned (.string (st (putL n))) ∧ Below w.heap.size w w' :=
  CWire.hygref2_Varint.calls 10 (n : Int) _ w (vput_k n 10 h1 (Nat.le_refl _))
end Go.Proofs.YtklkiofhenhafaaDoor
namespace Go.Proofs.YtklkiofhenhafaaDoor
open Go.RowKit Go.Proofs.YtklkiofhenhafaaDoorW.PrintWords Go.Proofs.YtklkiofhenhafaaDoorW.PrintLast Go.Proofs.YtklkiofhenhafaaDoorW.PrintMore Hy
open CWire

/-! ### a number of eight bytes, by the document -/
theorem leL_little : ∀ (l : List Nat), okB l → leL l.length (little l) = l := by
  intro l
  induction l with
  | nil => intro _; rfl
  | cons c r ih =>
    intro h
    have h2 : c < 256 := h c List.mem_cons_self
    rw [List.length_cons, show leL (r.length + 1) (little (c :: r)) = little (c :: r) % 256 :: leL r.length (little (c :: r) / 256) from rfl, show little (c :: r) = c + 256 * little r from rfl, show (c + 256 * little r) % 256 = c by omega, show (c + 256 * little r) / 256 = little r by omega, ih (fun x hx => h x (List.mem_cons_of_mem _ hx))]
theorem or_256 (x c : Nat) (hx : x < 72057594037927936) (hc : c < 256) : Go.bits .or .u64 (IntKind.u64.wrap ((x : Int) * 256)) (IntKind.u64.wrap (c : Int)) = ((c + 256 * x : Nat) : Int) := by
  rw [wrap_u64, wrap_u64, show (x : Int) * 256 % 18446744073709551616 = ((256 * x : Nat) : Int) by omega, show (c : Int) % 18446744073709551616 = (c : Int) by omega]
  have h1 := or_nat .u64 64 (by decide) (fun n a b => by rw [wrap_u64]; omega) (256 * x) c (by omega) (by omega)
  have h2 := or_nat .u64 64 (by decide) (fun n a b => by rw [wrap_u64]; omega) c (256 * x) (by omega) (by omega)
  have h3 := or_join_u64 (c : Int) ((256 * x : Nat) : Int) 8 (by omega) (by omega) (by omega) (by omega) (by omega) (by omega)
  rw [h1, show 256 * x ||| c = c ||| 256 * x from Nat.or_comm _ _, ← h2, h3]
  omega
theorem fixed_l0 (s : ByteArray) (hs : s.size = 8) : ∀ (m k : Nat), m ≤ 8 → m < k → hygref2_fixed.l0 k s (little ((bs s).drop m) : Int) ((m : Int) - 1) = some (little (bs s) : Int) := by
  intro m
  induction m with
  | zero =>
    intro k _ hk
    obtain ⟨k, rfl⟩ : ∃ q, k = q + 1 := ⟨k - 1, by omega⟩
    rw [hygref2_fixed.l0, if_neg (by omega), List.drop_zero]
  | succ m ih =>
    intro k hm hk
    obtain ⟨k, rfl⟩ : ∃ q, k = q + 1 := ⟨k - 1, by omega⟩
    obtain ⟨c, r, h1, h2, h3, h4⟩ := bt_bs s m (by omega)
    have hl : ((bs s).drop (m + 1)).length ≤ 7 := by rw [List.length_drop, bs_length]; omega
    have hlt : little ((bs s).drop (m + 1)) < 72057594037927936 := by
      refine Nat.lt_of_lt_of_le (little_lt _ (okB_drop (bs_ok s) _)) ?_
      exact Nat.pow_le_pow_right (n := 256) (by decide) hl
    have e1 : ((m + 1 : Nat) : Int) - 1 = (m : Int) := by omega
    have e2 : wrap64 ((m : Int) - 1) = (m : Int) - 1 := by unfold wrap64; omega
    rw [e1, hygref2_fixed.l0, if_pos (by omega), if_pos (by omega), if_pos (by omega), h2, or_256 _ c hlt h3, e2]
    have := ih k (by omega) (by omega)
    rw [h1] at this
    rw [h4]
    exact this
theorem fixed_f (s : ByteArray) (k : Nat) (hs : s.size = 8) (hk : 9 ≤ k) : hygref2_fixed.f k s = some (little (bs s) : Int) := by
  have h := fixed_l0 s hs 8 k (Nat.le_refl _) (by omega)
  rw [List.drop_of_length_le (by rw [bs_length]; omega)] at h
  unfold hygref2_fixed.f
  rw [show wrap64 ((s.size : Int) - 1) = ((8 : Nat) : Int) - 1 by unfold wrap64; omega]
  exact h
theorem fixL_append (a b : List Int) : fixL (a ++ b) = fixL a ++ fixL b := by unfold fixL; rw [List.flatMap_append]
theorem rfixeds_l0 (s : ByteArray) (hs : s.size ≤ 10000) : ∀ (R D : List Int) (K : Nat), u64s R → bs s = fixL D ++ fixL R → R.length + 10 ≤ K →
    hygref2_Fixeds.l0 K s D ((8 * D.length : Nat) : Int) = some (D ++ R, true) := by
  intro R
  induction R with
  | nil =>
    intro D K _ he hK
    obtain ⟨K, rfl⟩ : ∃ m, K = m + 1 := ⟨K - 1, by omega⟩
    have := congrArg List.length he
    rw [bs_length, show fixL [] = [] from rfl, List.append_nil, fixL_length] at this
    rw [hygref2_Fixeds.l0, if_neg (by omega), List.append_nil]
  | cons x R ih =>
    intro D K hu he hK
    obtain ⟨K, rfl⟩ : ∃ m, K = m + 1 := ⟨K - 1, by omega⟩
    simp only [List.length_cons] at hK
    have hx := hu x (by simp)
    have hlen := congrArg List.length he
    rw [bs_length, List.length_append, fixL_length, fixL_length, List.length_cons] at hlen
    have e1 : wrap64 (((8 * D.length : Nat) : Int) + 8) = ((8 * (D ++ [x]).length : Nat) : Int) := by
      rw [List.length_append, List.length_singleton]; unfold wrap64; omega
    have hex : bs (s.extract (8 * D.length) (8 * (D ++ [x]).length)) = leL 8 x.toNat := by
      rw [bs_extract, he, List.length_append, List.length_singleton, show 8 * (D.length + 1) = 8 * D.length + 8 by omega]
      rw [List.drop_take, show 8 * D.length + 8 - 8 * D.length = 8 by omega, List.drop_left' (fixL_length D)]
      rw [show fixL (x :: R) = leL 8 x.toNat ++ fixL R from rfl, List.take_left' (leL_length 8 _)]
    have hsz : (s.extract (8 * D.length) (8 * (D ++ [x]).length)).size = 8 := by rw [← bs_length, hex, leL_length]
    have hf := fixed_f _ K hsz (by omega)
    rw [hex, little_leL 8 _ (by omega), Int.toNat_of_nonneg hx.1] at hf
    have hD : (D ++ [x]).length = D.length + 1 := by simp
    rw [hygref2_Fixeds.l0, if_pos (by omega), if_pos (by omega), e1, if_pos (by omega), if_pos (by omega), Int.toNat_natCast, Int.toNat_natCast, hf, Option.bind_some, if_pos (by omega)]
    have := ih (D ++ [x]) K (fun y hy => hu y (by simp [hy])) (by rw [he, fixL_append, show fixL [x] = leL 8 x.toNat ++ [] from rfl, List.append_nil, show fixL (x :: R) = leL 8 x.toNat ++ fixL R from rfl, List.append_assoc]) (by omega)
    rw [this, List.append_assoc]
    rfl
theorem rfixeds_ok (s : ByteArray) (l : List Int) (w : World) (hs : s.size ≤ 10000) (he : bs s = fixL l) (hu : u64s l) :
    Calls Tryd.prog 20 #[.string s] w fun e w' => ∃ v0_ : Value, e = .returned (.tuple #[v0_, .bool true]) ∧ Kd.R (Kd.int .u64) 23 w' w.heap.size (fun _ => True) v0_ l ∧ Below w.heap.size w w' := by
  refine hygref2_Fixeds.calls (l.length + 10) s l true w ?_
  have h := rfixeds_l0 s hs l [] (l.length + 10) hu (by rw [he]; rfl) (Nat.le_refl _)
  have hsz : s.size = 8 * l.length := by rw [← bs_length, he, fixL_length]
  unfold hygref2_Fixeds.f
  rw [if_pos (by omega)]
  exact h
theorem rfixeds_bad (s : ByteArray) (w : World) (h : s.size % 8 ≠ 0) :
    Calls Tryd.prog 20 #[.string s] w fun e w' => ∃ v0_ : Value, e = .returned (.tuple #[v0_, .bool false]) ∧ Kd.R (Kd.int .u64) 23 w' w.heap.size (fun _ => True) v0_ [] ∧ Below w.heap.size w w' := by
  refine hygref2_Fixeds.calls 1 s [] false w ?_
  unfold hygref2_Fixeds.f
  rw [if_neg (by omega)]
theorem fix_of : ∀ (N : Nat) (b : List Nat), okB b → b.length = 8 * N → ∃ l, b = fixL l ∧ l.length = N ∧ u64s l := by
  intro N
  induction N with
  | zero => intro b _ h; exact ⟨[], List.eq_nil_of_length_eq_zero h, rfl, fun x hx => by cases hx⟩
  | succ N ih =>
    intro b hb h
    obtain ⟨l, h1, h2, h3⟩ := ih (b.drop 8) (okB_drop hb 8) (by rw [List.length_drop]; omega)
    have h8 : (b.take 8).length = 8 := by rw [List.length_take]; omega
    have hlt := little_lt _ (okB_take hb 8)
    rw [h8] at hlt
    have hle := leL_little _ (okB_take hb 8)
    rw [h8] at hle
    refine ⟨((little (b.take 8) : Nat) : Int) :: l, ?_, by rw [List.length_cons, h2], ?_⟩
    · rw [show fixL (((little (b.take 8) : Nat) : Int) :: l) = leL 8 (Int.toNat ((little (b.take 8) : Nat) : Int)) ++ fixL l from rfl, Int.toNat_natCast, hle, ← h1, List.take_append_drop]
    · intro x hx
      rcases List.mem_cons.1 hx with rfl | hx
      · exact ⟨by omega, by omega⟩
      · exact h3 x hx
end Go.Proofs.YtklkiofhenhafaaDoor
namespace Go.Proofs.YtklkiofhenhafaaDoor
open Go.RowKit Go.Proofs.YtklkiofhenhafaaDoorW.PrintWords Go.Proofs.YtklkiofhenhafaaDoorW.PrintLast Go.Proofs.YtklkiofhenhafaaDoorW.PrintMore Hy
open CWire (hygref2_Tag.f hygref2_Num.f hygref2_Eight.l0 hygref2_Eight.f hygref2_Fixed.f hygref2_Varint.f hygref2_Varints.l0 hygref2_Varints.f hygref2_GetVarint.f)

/-! ### the document's own: tags, records -/
theorem vput_f (v : Int) (k : Nat) (h0 : 0 ≤ v) (h1 : v < 18446744073709551616) (hk : 10 ≤ k) : hygref2_Varint.f k v = some (put v) := by
  obtain ⟨v, rfl⟩ := Int.eq_ofNat_of_zero_le h0
  have := vput_k v k (by omega) hk
  rw [this]
  rfl
theorem rtag_f (n t : Int) (k : Nat) (hk : 10 ≤ k) : hygref2_Tag.f k n t = some (tagB n t) := by
  unfold hygref2_Tag.f tagB
  by_cases h1 : n < 1
  · rw [if_pos h1, if_pos (.inl h1)]
  rw [if_neg h1]
  by_cases h2 : n ≥ 536870912
  · rw [if_pos h2, if_pos (.inr (.inl (by omega)))]
  rw [if_neg h2]
  by_cases h3 : t < 0
  · rw [if_pos h3, if_pos (.inr (.inr (.inl h3)))]
  rw [if_neg h3]
  by_cases h4 : t > 5
  · rw [if_pos h4, if_pos (.inr (.inr (.inr h4)))]
  rw [if_neg h4, if_neg (by omega), or_tag n t (by omega) (by omega) (by omega) (by omega), vput_f _ k (by omega) (by omega) hk]
  rfl
theorem rtag_any (n t : Int) (w : World) : Calls Tryd.prog 23 #[.int .i64 n, .int .i64 t] w fun e w' => e = .returned (.string (tagB n t)) ∧ Below w.heap.size w w' := CWire.hygref2_Tag.calls 10 n t _ w (rtag_f n t 10 (Nat.le_refl _))
theorem tagB_no {n t : Int} (h : n < 1 ∨ n > 536870911 ∨ t < 0 ∨ t > 5) : tagB n t = ⟨#[]⟩ := by unfold tagB; rw [if_pos h]
theorem tagB_yes {n t : Int} (h : ¬ (n < 1 ∨ n > 536870911 ∨ t < 0 ∨ t > 5)) : tagB n t = put (n * 8 + t) := by unfold tagB; rw [if_neg h]
theorem rnum_any (n v : Int) (w : World) (h0 : 0 ≤ v) (h1 : v < 18446744073709551616) : Calls Tryd.prog 24 #[.int .i64 n, .int .u64 v] w fun e w' => e = .returned (.string (recB n 0 (put v))) ∧ Below w.heap.size w w' := by
  refine CWire.hygref2_Num.calls 10 n v _ w ?_
  unfold hygref2_Num.f recB
  rw [rtag_f n 0 10 (Nat.le_refl _), Option.bind_some, vput_f v 10 h0 h1 (Nat.le_refl _), Option.bind_some]
  by_cases h : n < 1 ∨ n > 536870911 ∨ (0 : Int) < 0 ∨ (0 : Int) > 5
  · rw [tagB_no h, if_pos (by rw [ByteArray.toList_eq]), if_pos h]
  · have hp := putL_len10 (n * 8 + 0).toNat (by omega)
    have hv := putL_len10 v.toNat (by omega)
    rw [tagB_yes h, if_neg (tag_put _), if_neg h, if_pos (by rw [put_size, put_size]; omega)]
theorem eight_l0 (n : Nat) : ∀ (d i k : Nat), i + d = 8 → d < k → hygref2_Eight.l0 k (n : Int) ((leL i n).map fun (x : Nat) => (x : Int)) (i : Int) = some (st (leL 8 n)) := by
  intro d
  induction d with
  | zero =>
    intro i k hi hk
    obtain ⟨k, rfl⟩ : ∃ m, k = m + 1 := ⟨k - 1, by omega⟩
    obtain rfl : i = 8 := by omega
    rw [hygref2_Eight.l0, if_neg (by omega), strOfNums_eq]
  | succ d ih =>
    intro i k hi hk
    obtain ⟨k, rfl⟩ : ∃ m, k = m + 1 := ⟨k - 1, by omega⟩
    have e0 : IntKind.u64.wrap (wrap64 (8 * (i : Int))) = ((8 * i : Nat) : Int) := by rw [wrap_u64]; unfold wrap64; omega
    have e1 : wrap64 ((i : Int) + 1) = ((i + 1 : Nat) : Int) := by unfold wrap64; omega
    have e2 : shr .u64 (n : Int) ((8 * i : Nat) : Int) % 256 = ((n / 256 ^ i % 256 : Nat) : Int) := by
      unfold shr
      rw [Int.toNat_natCast, Nat.min_eq_left (by simp [IntKind.bits]; omega)]
      exact shr8 n i
    rw [hygref2_Eight.l0, if_pos (by omega), e0, if_pos (by omega), if_pos (by rw [List.length_map, leL_length]; omega), e1, e2]
    have := ih (i + 1) k (by omega) (by omega)
    rw [leL_snoc, List.map_append] at this
    exact this
theorem eight_f (n : Nat) (k : Nat) (hk : 9 ≤ k) : hygref2_Eight.f k (n : Int) = some (st (leL 8 n)) := by
  have := eight_l0 n 8 0 k rfl (by omega)
  exact this
theorem rfixed_any (n : Int) (v : Nat) (w : World) : Calls Tryd.prog 25 #[.int .i64 n, .int .u64 (v : Int)] w fun e w' => e = .returned (.string (recB n 1 (st (leL 8 v)))) ∧ Below w.heap.size w w' := by
  refine CWire.hygref2_Fixed.calls 10 n (v : Int) _ w ?_
  unfold hygref2_Fixed.f recB
  rw [rtag_f n 1 10 (Nat.le_refl _), Option.bind_some, eight_f v 10 (by decide), Option.bind_some]
  by_cases h : n < 1 ∨ n > 536870911 ∨ (1 : Int) < 0 ∨ (1 : Int) > 5
  · rw [tagB_no h, if_pos (by rw [ByteArray.toList_eq]), if_pos h]
  · have hp := putL_len10 (n * 8 + 1).toNat (by omega)
    rw [tagB_yes h, if_neg (tag_put _), if_neg h, if_pos (by rw [put_size, st_size, leL_length]; omega)]
set_option maxHeartbeats 4000000 in
set_option maxRecDepth 100000 in
theorem rbytes_any (n : Int) (s : ByteArray) (w : World) (hs : s.size ≤ 10000) :
    Calls Tryd.prog 26 #[.int .i64 n, .string s] w fun e w' => e = .returned (.string (recB n 2 (put (s.size : Int) ++ s))) ∧ Below w.heap.size w w' := by
  have HB := Aside0.mk (Below.refl w.heap.size w)
  have A1 := fun w => rtag_any n 2 w
  by_cases h : n < 1 ∨ n > 536870911 ∨ (2 : Int) < 0 ∨ (2 : Int) > 5
  · rw [tagB_no h] at A1
    have hr : recB n 2 (put (s.size : Int) ++ s) = ⟨#[]⟩ := by unfold recB; rw [if_pos h]
    rw [hr]
    clear h hr
    go_enter Tryd.func26, Tryd.ntmps26
    go_wp2_with (first
      | (go_at_call 23; refine (A1 _).mono ?_; rintro e wb ⟨rfl, hb⟩; have HBn : Aside0 (Below w.heap.size w wb) := ⟨below_next (by repeat (first | (with_reducible exact HB.out) | apply below_alloc | apply pw_below_drewN | apply below_drew1)) hb⟩; clear HB hb; have HB := HBn; clear HBn))
    go_ret
    exact ⟨rfl, HB.out⟩
  · rw [tagB_yes h] at A1
    have hr : recB n 2 (put (s.size : Int) ++ s) = put (n * 8 + 2) ++ put (s.size : Int) ++ s := by unfold recB; rw [if_neg h]; apply bs_inj; rw [bs_append, bs_append, bs_append, bs_append, List.append_assoc]
    rw [hr]
    have hw : IntKind.u64.wrap (s.size : Int) = (s.size : Int) := by rw [wrap_u64]; omega
    have A2 := fun w => vput_any s.size w (by omega)
    rw [show st (putL s.size) = put (s.size : Int) from rfl] at A2
    have hp := putL_len10 (n * 8 + 2).toNat (by omega)
    have hv := putL_len10 ((s.size : Int)).toNat (by omega)
    have hne : (put (n * 8 + 2)).toList.isEmpty = false := by
      cases hq : (put (n * 8 + 2)).toList with
      | nil => exact absurd hq (tag_put _)
      | cons => rfl
    have b1 : (put (n * 8 + 2)).size + (put (s.size : Int)).size ≤ 9223372036854775807 := by rw [put_size, put_size]; omega
    have b2 : (put (n * 8 + 2)).size + (put (s.size : Int)).size + s.size ≤ 9223372036854775807 := by rw [put_size, put_size]; omega
    have b3 : (put (n * 8 + 2) ++ put (s.size : Int)).size + s.size ≤ 9223372036854775807 := by rw [ByteArray.size_append]; exact b2
    clear h hr hp hv
    generalize put (n * 8 + 2) = T at *
    generalize put (s.size : Int) = V at *
    go_enter Tryd.func26, Tryd.ntmps26
    go_wp2_with (first
      | (go_at_call 23; refine (A1 _).mono ?_; rintro e wb ⟨rfl, hb⟩; have HBn : Aside0 (Below w.heap.size w wb) := ⟨below_next (by repeat (first | (with_reducible exact HB.out) | apply below_alloc | apply pw_below_drewN | apply below_drew1)) hb⟩; clear HB hb; have HB := HBn; clear HBn)
      | (go_at_call 40; refine (A2 _).mono ?_; rintro e wb ⟨rfl, hb⟩; have HBn : Aside0 (Below w.heap.size w wb) := ⟨below_next (by repeat (first | (with_reducible exact HB.out) | apply below_alloc | apply pw_below_drewN | apply below_drew1)) hb⟩; clear HB hb; have HB := HBn; clear HBn))
    go_ret
    exact ⟨rfl, HB.out⟩
end Go.Proofs.YtklkiofhenhafaaDoor
