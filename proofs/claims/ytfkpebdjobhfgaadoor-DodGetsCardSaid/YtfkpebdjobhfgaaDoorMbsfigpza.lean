import Derived.Test.YtfkpebdjobhfgaaDoorMsrebcxpn
import Derived.Test.YtfkpebdjobhfgaaDoorMqyobvjmj
import Derived.Test.YtfkpebdjobhfgaaDoorPDodGetsx
import Derived.Test.YtfkpebdjobhfgaaDoorMngguaahb
import Derived.Test.YtfkpebdjobhfgaaDoorMuwvugjht
namespace Go.Proofs.YtfkpebdjobhfgaaDoor
open Go.RowKit Go.Proofs.YtfkpebdjobhfgaaDoorW.PrintWords Go.Proofs.YtfkpebdjobhfgaaDoorW.PrintLast Go.Proofs.YtfkpebdjobhfgaaDoorW.PrintMore Hy
open PDodGets

/-! ### the document's own -/
theorem rput_l0 : ∀ (j n : Nat) (k : Nat) (acc : List Nat), n < 2 ^ (7 * (j + 1)) → n < 18446744073709551616 → acc.length + j < 1000 → j < k →
    hygref2_Varint.l0 k (n : Int) (acc.map fun (x : Nat) => (x : Int)) = some (st (acc ++ putL n)) := by
  intro j
  induction j with
  | zero =>
    intro n k acc h h64 hl hk
    obtain ⟨k, rfl⟩ : ∃ m, k = m + 1 := ⟨k - 1, by omega⟩
    have hn : n < 128 := by simpa using h
    simp only [hygref2_Varint.l0]
    rw [if_neg (by omega), if_pos (by simp; omega), putL_lo n hn, ← strOfNums_eq, show (n : Int) % 256 = n by omega]
    simp
  | succ j ih =>
    intro n k acc h h64 hl hk
    obtain ⟨k, rfl⟩ : ∃ m, k = m + 1 := ⟨k - 1, by omega⟩
    simp only [hygref2_Varint.l0]
    by_cases hn : n < 128
    · rw [if_neg (by omega), if_pos (by simp; omega), putL_lo n hn, ← strOfNums_eq, show (n : Int) % 256 = n by omega]
      simp
    · have h' : n / 128 < 2 ^ (7 * (j + 1)) := by
        rw [Nat.div_lt_iff_lt_mul (by omega)]
        calc n < _ := h
          _ = _ := by rw [show 7 * (j + 1 + 1) = 7 * (j + 1) + 7 by omega, Nat.pow_add]
      have := ih (n / 128) k (acc ++ [n % 128 + 128]) h' (by omega) (by simp; omega) (by omega)
      rw [if_pos (by omega), if_pos (by simp; omega), putL_hi n hn, and_u64_127 _ (by omega) (by omega), or_u64_128 _ (by omega) (by omega)]
      rw [List.append_assoc] at this
      simp only [List.cons_append, List.nil_append] at this
      rw [← this]
      have e : ((n : Int) / 128) = ((n / 128 : Nat) : Int) := by omega
      have e2 : ((n : Int) % 128 + 128) % 256 = ((n % 128 + 128 : Nat) : Int) := by omega
      rw [e, e2]
      simp
theorem rput_f (n : Int) (h0 : 0 ≤ n) (h1 : n < 18446744073709551616) : hygref2_Varint.f 10 n = some (put n) := by
  obtain ⟨n, rfl⟩ := Int.eq_ofNat_of_zero_le h0
  have := rput_l0 9 n 10 [] (by omega) (by omega) (by simp) (by omega)
  simpa [hygref2_Varint.f, put] using this
theorem rput_any (n : Int) (w : World) (h0 : 0 ≤ n) (h1 : n < 18446744073709551616) :
    Calls Tryd.prog 30 #[.int .u64 n] w fun e w' => e = .returned (.string (put n)) ∧ Below w.heap.size w w' :=
  hygref2_Varint.calls 10 n _ w (rput_f n h0 h1)
theorem rzig_f (m : Int) (h0 : -9223372036854775808 ≤ m) (h1 : m < 9223372036854775808) : hygref2_Zig.f m = some (zig m) := by
  unfold hygref2_Zig.f zig
  by_cases h : m < 0
  · rw [if_pos h, if_pos h]; simp only [wrap_u64, wrap64]; congr 1; omega
  · rw [if_neg h, if_neg h]; simp only [wrap_u64]; congr 1; omega
theorem rzig_any (m : Int) (w : World) (h0 : -9223372036854775808 ≤ m) (h1 : m < 9223372036854775808) :
    Calls Tryd.prog 31 #[.int .i64 m] w fun e w' => e = .returned (.int .u64 (zig m)) ∧ Drawn0 w w' := hygref2_Zig.calls m _ w (rzig_f m h0 h1)
theorem rzag_f (n : Int) (h0 : 0 ≤ n) (h1 : n < 18446744073709551616) : hygref2_Zag.f n = some (zag n) := by
  unfold hygref2_Zag.f zag
  rw [Int.tmod_eq_emod_of_nonneg h0, Int.tdiv_eq_ediv_of_nonneg h0]
  by_cases h : n % 2 = 1
  · rw [if_pos h, if_pos h]; simp only [wrap_u64, wrap64]; congr 1; omega
  · rw [if_neg h, if_neg h]; simp only [wrap_u64, wrap64]; congr 1; omega
theorem rzag_any (n : Int) (w : World) (h0 : 0 ≤ n) (h1 : n < 18446744073709551616) :
    Calls Tryd.prog 33 #[.int .u64 n] w fun e w' => e = .returned (.int .i64 (zag n)) ∧ Drawn0 w w' := hygref2_Zag.calls n _ w (rzag_f n h0 h1)
end Go.Proofs.YtfkpebdjobhfgaaDoor
namespace Go.Proofs.YtfkpebdjobhfgaaDoor
open Go.RowKit Go.Proofs.YtfkpebdjobhfgaaDoorW.PrintWords Go.Proofs.YtfkpebdjobhfgaaDoorW.PrintLast Go.Proofs.YtfkpebdjobhfgaaDoorW.PrintMore Hy
open PDodGets (hygref2_Varint.f hygref2_Zig.f hygref2_Zag.f hygref18_PutDod.l0 hygref18_PutDod.f)

/-! ### the document's own column of times: written -/
theorem rput_k (n : Int) (k : Nat) (h0 : 0 ≤ n) (h1 : n < 18446744073709551616) (hk : 10 ≤ k) : hygref2_Varint.f k n = some (put n) := by
  obtain ⟨n, rfl⟩ := Int.eq_ofNat_of_zero_le h0
  have := rput_l0 9 n k [] (by omega) (by omega) (by simp) (by omega)
  simpa [hygref2_Varint.f, put] using this
theorem guess_take2 (l : List Int) (i : Nat) (h : i + 2 ≤ l.length) : guess (l.take (i + 2)) = (2 * l.getD (i + 1) 0 - l.getD i 0) % 18446744073709551616 := by
  have h1 : l.take (i + 2) = l.take i ++ [l.getD i 0, l.getD (i + 1) 0] := by
    have x0 : l[i] = l.getD i 0 := by simp [List.getD_eq_getElem?_getD, List.getElem?_eq_getElem (show i < l.length by omega)]
    have x1 : l[i + 1] = l.getD (i + 1) 0 := by simp [List.getD_eq_getElem?_getD, List.getElem?_eq_getElem (show i + 1 < l.length by omega)]
    rw [List.take_succ_eq_append_getElem (show i + 1 < l.length by omega), List.take_succ_eq_append_getElem (show i < l.length by omega), List.append_assoc, x0, x1]
    rfl
  rw [h1]
  unfold guess
  rw [List.reverse_append]
  rfl
theorem guess_take1 (l : List Int) (h : 1 ≤ l.length) : guess (l.take 1) = l.getD 0 0 := by
  cases l with
  | nil => simp at h
  | cons a t => rfl
theorem offs_take (l : List Int) (i : Nat) (h : i < l.length) : st (putsL (offs [] (l.take (i + 1)))) = st (putsL (offs [] (l.take i))) ++ put (off (l.take i) (l.getD i 0)) := by
  have hx : l[i] = l.getD i 0 := by simp [List.getD_eq_getElem?_getD, List.getElem?_eq_getElem h]
  rw [List.take_succ_eq_append_getElem h, offs_snoc, putsL_append, st_append, putsL_cons, putsL_nil, List.append_nil, List.nil_append, hx]
  rfl
theorem offs_size (l : List Int) (h : l.length ≤ 20000) : (st (putsL (offs [] l))).size ≤ 200000 := by
  rw [st_size]; have := putsL_len _ (offs_range [] l); rw [offs_length] at this; omega
theorem getD_u64 (l : List Int) (hu : u64s l) (i : Nat) (h : i < l.length) : 0 ≤ l.getD i 0 ∧ l.getD i 0 < 18446744073709551616 := by
  have hx : l.getD i 0 = l[i] := by simp [List.getD_eq_getElem?_getD, List.getElem?_eq_getElem h]
  rw [hx]; exact hu _ (List.getElem_mem h)
theorem dod_diff (x a b : Int) : (x - (2 * a - b) % 18446744073709551616) % 18446744073709551616 = ((x - a) % 18446744073709551616 - (a - b) % 18446744073709551616) % 18446744073709551616 := by omega
theorem pd_0 (l : List Int) (K : Nat) (acc t : ByteArray) (x last step : Int) (hl : 0 < l.length) (hrd : rd l 0 = x) (ht : hygref2_Varint.f K x = some t) (hs : acc.size + t.size ≤ 9223372036854775807) :
    hygref18_PutDod.l0 (K + 1) l acc last step 0 = hygref18_PutDod.l0 K l (acc ++ t) x step 1 := by
  have h1 : (0 : Int) < (l.length : Int) := by omega
  rw [hygref18_PutDod.l0, if_pos h1, if_pos (Int.le_refl 0), if_pos rfl, hrd, ht, Option.bind_some, if_pos hs, if_neg (by decide), show wrap64 (0 + 1) = 1 by unfold wrap64; decide]
theorem pd_1 (l : List Int) (K : Nat) (acc t : ByteArray) (x last step z : Int) (hl : 1 < l.length) (hrd : rd l 1 = x) (hz : hygref2_Zig.f (wrap64 ((x - last) % 18446744073709551616)) = some z) (ht : hygref2_Varint.f K z = some t) (hs : acc.size + t.size ≤ 9223372036854775807) :
    hygref18_PutDod.l0 (K + 1) l acc last step 1 = hygref18_PutDod.l0 K l (acc ++ t) x ((x - last) % 18446744073709551616) 2 := by
  have h1 : (1 : Int) < (l.length : Int) := by omega
  have hw : IntKind.u64.wrap (x - last) = (x - last) % 18446744073709551616 := wrap_u64 _
  rw [hygref18_PutDod.l0, if_pos h1, if_pos (by decide), if_neg (by decide), if_pos rfl, hrd, hw, hz, Option.bind_some, ht, Option.bind_some, if_pos hs, if_pos (by decide), show wrap64 (1 + 1) = 2 by unfold wrap64; decide]
theorem pd_2 (l : List Int) (K i : Nat) (acc t : ByteArray) (x last step z : Int) (hi : 2 ≤ i) (hl : i < l.length) (hl2 : l.length ≤ 20000) (hrd : rd l (i : Int) = x) (hz : hygref2_Zig.f (wrap64 (((x - last) % 18446744073709551616 - step) % 18446744073709551616)) = some z) (ht : hygref2_Varint.f K z = some t) (hs : acc.size + t.size ≤ 9223372036854775807) :
    hygref18_PutDod.l0 (K + 1) l acc last step (i : Int) = hygref18_PutDod.l0 K l (acc ++ t) x ((x - last) % 18446744073709551616) ((i + 1 : Nat) : Int) := by
  have h1 : (i : Int) < (l.length : Int) := by omega
  have h0 : (0 : Int) ≤ (i : Int) := by omega
  have hn0 : ¬ (i : Int) = 0 := by omega
  have hn1 : ¬ (i : Int) = 1 := by omega
  have hg : (i : Int) > 0 := by omega
  have e1 : wrap64 ((i : Int) + 1) = ((i + 1 : Nat) : Int) := by unfold wrap64; omega
  have hw : IntKind.u64.wrap (x - last) = (x - last) % 18446744073709551616 := wrap_u64 _
  have hw2 : IntKind.u64.wrap ((x - last) % 18446744073709551616 - step) = ((x - last) % 18446744073709551616 - step) % 18446744073709551616 := wrap_u64 _
  rw [hygref18_PutDod.l0, if_pos h1, if_pos h0, if_neg hn0, if_neg hn1, hrd, hw, hw2, hz, Option.bind_some, ht, Option.bind_some, if_pos hs, if_pos hg, e1]
theorem put_sz (x : Int) (h : x < 18446744073709551616) : (put x).size ≤ 10 := by rw [put_size]; exact putL_len10 _ (by omega)
theorem off_at0 (l : List Int) (x : Int) (h : 0 ≤ x ∧ x < 18446744073709551616) : off (l.take 0) x = x := by
  unfold off
  rw [if_pos (by simp), show guess (l.take 0) = 0 from rfl]
  omega
theorem off_at1 (l : List Int) (x : Int) (h : 1 ≤ l.length) : off (l.take 1) x = zig (wrap64 ((x - l.getD 0 0) % 18446744073709551616)) := by
  unfold off
  rw [if_neg (by intro e; have := congrArg List.length e; rw [List.length_take, List.length_nil] at this; omega), guess_take1 l h]
theorem off_at2 (l : List Int) (x : Int) (m : Nat) (h : m + 2 ≤ l.length) : off (l.take (m + 2)) x = zig (wrap64 (((x - l.getD (m + 1) 0) % 18446744073709551616 - (l.getD (m + 1) 0 - l.getD m 0) % 18446744073709551616) % 18446744073709551616)) := by
  unfold off
  rw [if_neg (by intro e; have := congrArg List.length e; rw [List.length_take, List.length_nil] at this; omega), guess_take2 l m h, dod_diff]
theorem w64_lo (x : Int) : -9223372036854775808 ≤ wrap64 x := by unfold wrap64; omega
theorem w64_hi (x : Int) : wrap64 x < 9223372036854775808 := by unfold wrap64; omega
theorem acc_sz (l : List Int) (i : Nat) (x : Int) (hl : l.length ≤ 20000) (hx : x < 18446744073709551616) : (st (putsL (offs [] (l.take i)))).size + (put x).size ≤ 9223372036854775807 := by
  have h1 := offs_size (l.take i) (by rw [List.length_take]; omega)
  have h2 := put_sz x hx
  omega
/-- From the third number on. -/
theorem rputdod_l2 (l : List Int) (_hu : u64s l) (hl : l.length ≤ 20000) : ∀ (d m K : Nat), m + 2 + d = l.length → d + 20 ≤ K →
    hygref18_PutDod.l0 K l (st (putsL (offs [] (l.take (m + 2))))) (l.getD (m + 1) 0) ((l.getD (m + 1) 0 - l.getD m 0) % 18446744073709551616) ((m + 2 : Nat) : Int) = some (st (putsL (offs [] l)), 0) := by
  intro d
  induction d with
  | zero =>
    intro m K hi hK
    obtain ⟨K, rfl⟩ : ∃ m, K = m + 1 := ⟨K - 1, by omega⟩
    rw [hygref18_PutDod.l0, if_neg (by omega), List.take_of_length_le (by omega)]
  | succ d ih =>
    intro m K hi hK
    obtain ⟨K, rfl⟩ : ∃ m, K = m + 1 := ⟨K - 1, by omega⟩
    have hor := off_range (l.take (m + 2)) (l.getD (m + 2) 0)
    have hof := off_at2 l (l.getD (m + 2) 0) m (by omega)
    have ht := offs_take l (m + 2) (by omega)
    rw [pd_2 l K (m + 2) _ (put (off (l.take (m + 2)) (l.getD (m + 2) 0))) (l.getD (m + 2) 0) _ _ (off (l.take (m + 2)) (l.getD (m + 2) 0)) (by omega) (by omega) hl (by unfold rd; rw [Int.toNat_natCast]) (by rw [hof]; exact rzig_f _ (w64_lo _) (w64_hi _)) (rput_k _ K hor.1 hor.2 (by clear hor hof ht; omega)) (acc_sz l _ _ hl hor.2), ← ht]
    exact ih (m + 1) K (by clear hor hof ht; omega) (by clear hor hof ht; omega)
theorem rputdod_f (l : List Int) (K : Nat) (hu : u64s l) (hl : l.length ≤ 20000) (hK : l.length + 22 ≤ K) : hygref18_PutDod.f K l = some (st (putsL (offs [] l)), 0) := by
  unfold hygref18_PutDod.f
  rw [if_neg (by omega)]
  obtain ⟨K, rfl⟩ : ∃ m, K = m + 1 := ⟨K - 1, by omega⟩
  by_cases h0 : l.length = 0
  · obtain rfl : l = [] := List.eq_nil_of_length_eq_zero h0
    rw [hygref18_PutDod.l0, if_neg (by simp)]
    rfl
  · have hx0 := getD_u64 l hu 0 (by omega)
    have ht0 := offs_take l 0 (by omega)
    rw [off_at0 l _ hx0, show st (putsL (offs [] (l.take 0))) = (⟨#[]⟩ : ByteArray) from rfl, Nat.zero_add] at ht0
    rw [pd_0 l K _ (put (l.getD 0 0)) (l.getD 0 0) 0 0 (by omega) rfl (rput_k _ K hx0.1 hx0.2 (by clear hx0 ht0; omega)) (by have := put_sz _ hx0.2; show 0 + _ ≤ _; omega), ← ht0]
    obtain ⟨K, rfl⟩ : ∃ m, K = m + 1 := ⟨K - 1, by clear hx0 ht0; omega⟩
    by_cases h1 : l.length = 1
    · rw [hygref18_PutDod.l0, if_neg (by clear hx0 ht0; omega), List.take_of_length_le (by omega)]
    · have hor := off_range (l.take 1) (l.getD 1 0)
      have hof := off_at1 l (l.getD 1 0) (by omega)
      have ht := offs_take l 1 (by omega)
      rw [pd_1 l K _ (put (off (l.take 1) (l.getD 1 0))) (l.getD 1 0) _ _ (off (l.take 1) (l.getD 1 0)) (by omega) rfl (by rw [hof]; exact rzig_f _ (w64_lo _) (w64_hi _)) (rput_k _ K hor.1 hor.2 (by clear hor hof ht hx0 ht0; omega)) (acc_sz l _ _ hl hor.2), ← ht]
      exact rputdod_l2 l hu hl (l.length - 2) 0 K (by clear hor hof ht hx0 ht0; omega) (by clear hor hof ht hx0 ht0; omega)
end Go.Proofs.YtfkpebdjobhfgaaDoor
namespace Go.Proofs.YtfkpebdjobhfgaaDoor
open Go.RowKit Go.Proofs.YtfkpebdjobhfgaaDoorW.PrintWords Go.Proofs.YtfkpebdjobhfgaaDoorW.PrintLast Go.Proofs.YtfkpebdjobhfgaaDoorW.PrintMore Hy
open PDodGets (hygref2_GetVarint.l0 hygref2_GetVarint.j2 hygref2_GetVarint.j0 hygref2_GetVarint.f hygref2_GetVarint.calls)

/-! ### the document's own reading of a number -/
theorem and_u8_127 (x : Int) (h0 : 0 ≤ x) (h1 : x < 256) : Go.bits .and .u8 x 127 = x % 128 :=
  bits_mask .u8 8 (by decide) wraps_u8 7 (by decide) x h0 (by simpa using h1)
theorem rstep7 (c i acc : Nat) (hi : i ≤ 9) (hc : c < 256) (h9 : i = 9 → c ≤ 1) (ha : acc < 2 ^ (7 * i)) :
    Go.bits .or .u64 (acc : Int) (shl .u64 (IntKind.u64.wrap (Go.bits .and .u8 (c : Int) 127)) (IntKind.u64.wrap (wrap64 (7 * (i : Int))))) = ((acc + c % 128 * 2 ^ (7 * i) : Nat) : Int) := by
  have h := (step7 c i acc hi hc h9 ha).1
  rw [and_u8_127 _ (by omega) (by omega), ← andNot_u8_128 _ (by omega) (by omega), show IntKind.u64.wrap (wrap64 (7 * (i : Int))) = wrap64 (7 * (i : Int)) by rw [w7 i hi, wrap_u64]; omega]
  exact h
theorem rg_end (s : ByteArray) (a i k : Nat) (acc : Int) (hs : s.size ≤ 140737488351232) (hi : i ≤ 9) (hle : a + i = s.size) : hygref2_GetVarint.l0 (k + 1) s (a : Int) acc (i : Int) = some (0, 0, 1) := by
  have e0 : wrap64 ((a : Int) + (i : Int)) = ((a + i : Nat) : Int) := by unfold wrap64; omega
  have hx : (i : Int) < 10 := by omega
  have hA : ((a + i : Nat) : Int) ≥ (s.size : Int) := by omega
  rw [hygref2_GetVarint.l0, if_pos hx, e0, if_pos hA]
theorem rg_big (s : ByteArray) (a k : Nat) (acc : Int) (hs : s.size ≤ 140737488351232) (hlt : a + 9 < s.size) (c : Nat) (h2 : bt s ((a + 9 : Nat) : Int) = (c : Int)) (hc : 1 < c) : hygref2_GetVarint.l0 (k + 2) s (a : Int) acc ((9 : Nat) : Int) = some (0, 0, 4) := by
  have e0 : wrap64 ((a : Int) + ((9 : Nat) : Int)) = ((a + 9 : Nat) : Int) := by unfold wrap64; omega
  have hx : ((9 : Nat) : Int) < 10 := by omega
  have hA : ¬ ((a + 9 : Nat) : Int) ≥ (s.size : Int) := by omega
  have hB : 0 ≤ ((a + 9 : Nat) : Int) := by omega
  have hC : ((a + 9 : Nat) : Int) < (s.size : Int) := by omega
  have hD : ((9 : Nat) : Int) = 9 := rfl
  have hT : decide ((c : Int) > 1) = true := by simp; omega
  rw [hygref2_GetVarint.l0, if_pos hx, e0, if_neg hA, if_pos hB, if_pos hC, if_pos hD, h2, hygref2_GetVarint.j2, if_pos hT]
theorem rg_j2 (s : ByteArray) (a i acc k c : Nat) (x : Bool) (hx : x = false) (hs : s.size ≤ 140737488351232) (hi : i ≤ 9) (hlt : a + i < s.size) (ha : acc < 2 ^ (7 * i)) (h3 : c < 256) (h9 : i = 9 → c ≤ 1) :
    hygref2_GetVarint.j2 (k + 1) s (a : Int) (acc : Int) (i : Int) (c : Int) x = if c < 128 then some (((acc + c % 128 * 2 ^ (7 * i) : Nat) : Int), ((a + i + 1 : Nat) : Int), 0) else hygref2_GetVarint.l0 k s (a : Int) ((acc + c % 128 * 2 ^ (7 * i) : Nat) : Int) ((i + 1 : Nat) : Int) := by
  have hE : 0 ≤ IntKind.u64.wrap (wrap64 (7 * (i : Int))) := by rw [w7 i hi, wrap_u64]; omega
  have hT : ¬ (false = true) := by simp
  have e0 : wrap64 ((a : Int) + (i : Int)) = ((a + i : Nat) : Int) := by unfold wrap64; omega
  have e1 : wrap64 (((a + i : Nat) : Int) + 1) = ((a + i + 1 : Nat) : Int) := by unfold wrap64; omega
  have e2 : wrap64 ((i : Int) + 1) = ((i + 1 : Nat) : Int) := by unfold wrap64; omega
  have h7 := rstep7 c i acc hi h3 h9 ha
  subst hx
  rw [hygref2_GetVarint.j2, if_neg hT, if_pos hE, h7, e0, e1, e2]
  by_cases hc : c < 128
  · rw [if_pos hc, if_pos (by omega)]
  · rw [if_neg hc, if_neg (by omega)]
theorem rg_step (s : ByteArray) (a i acc k c : Nat) (hs : s.size ≤ 140737488351232) (hi : i ≤ 9) (hlt : a + i < s.size) (ha : acc < 2 ^ (7 * i)) (h2 : bt s ((a + i : Nat) : Int) = (c : Int)) (h3 : c < 256) (h9 : i = 9 → c ≤ 1) :
    hygref2_GetVarint.l0 (k + 2) s (a : Int) (acc : Int) (i : Int) = if c < 128 then some (((acc + c % 128 * 2 ^ (7 * i) : Nat) : Int), ((a + i + 1 : Nat) : Int), 0) else hygref2_GetVarint.l0 k s (a : Int) ((acc + c % 128 * 2 ^ (7 * i) : Nat) : Int) ((i + 1 : Nat) : Int) := by
  have e0 : wrap64 ((a : Int) + (i : Int)) = ((a + i : Nat) : Int) := by unfold wrap64; omega
  have hx : (i : Int) < 10 := by omega
  have hA : ¬ ((a + i : Nat) : Int) ≥ (s.size : Int) := by omega
  have hB : 0 ≤ ((a + i : Nat) : Int) := by omega
  have hC : ((a + i : Nat) : Int) < (s.size : Int) := by omega
  rw [hygref2_GetVarint.l0, if_pos hx, e0, if_neg hA, if_pos hB, if_pos hC, h2]
  by_cases hD : (i : Int) = 9
  · rw [if_pos hD, rg_j2 s a i acc k c _ (by have := h9 (by omega); simp; omega) hs hi hlt ha h3 h9]
  · rw [if_neg hD, rg_j2 s a i acc k c _ rfl hs hi hlt ha h3 h9]
/-- What the reading gives, as the document's function tells it. -/
def rgv (a : Nat) (x : Sum Nat (Nat × Nat)) : Option (Int × Int × Int) := match x with
  | .inl c => some (0, 0, (c : Int))
  | .inr (v, m) => some ((v : Int), ((a + m : Nat) : Int), 0)
def addv (n k : Nat) : Sum Nat (Nat × Nat) → Sum Nat (Nat × Nat)
  | .inl c => .inl c
  | .inr (v, m) => .inr (n + v, k + m)
theorem rgetv_l0 : ∀ (d : Nat) (s : ByteArray) (a i acc k : Nat), s.size ≤ 140737488351232 → i + d = 9 → a + i ≤ s.size → acc < 2 ^ (7 * i) → 2 * d + 2 ≤ k →
    hygref2_GetVarint.l0 k s (a : Int) (acc : Int) (i : Int) = rgv a (addv acc i (dec i ((bs s).drop (a + i)))) := by
  intro d
  induction d with
  | zero =>
    intro s a i acc k hs hi hle ha hk
    obtain rfl : i = 9 := by omega
    obtain ⟨k, rfl⟩ : ∃ m, k = m + 2 := ⟨k - 2, by omega⟩
    by_cases hlt : a + 9 < s.size
    · obtain ⟨c, r, h1, h2, h3, h4⟩ := bt_bs s (a + 9) hlt
      by_cases hc : 1 < c
      · rw [h1, dec_big c r hc, rg_big s a k acc hs hlt c h2 hc]; rfl
      · rw [h1, dec_end 9 c r (by omega) (by omega), rg_step s a 9 acc k c hs (by omega) hlt ha h2 h3 (fun _ => by omega), if_pos (by omega), Nat.mod_eq_of_lt (show c < 128 by omega)]
        rfl
    · rw [List.drop_of_length_le (by rw [bs_length]; omega), dec_nil, rg_end s a 9 (k + 1) acc hs (by omega) (by omega)]
      rfl
  | succ d ih =>
    intro s a i acc k hs hi hle ha hk
    obtain ⟨k, rfl⟩ : ∃ m, k = m + 2 := ⟨k - 2, by omega⟩
    by_cases hlt : a + i < s.size
    · obtain ⟨c, r, h1, h2, h3, h4⟩ := bt_bs s (a + i) hlt
      have hN : ¬ (i = 9 ∧ 1 < c) := by omega
      have hs8 := (step7 c i acc (by omega) h3 (fun h => by omega) ha).2.2 (by omega)
      rw [rg_step s a i acc k c hs (by omega) hlt ha h2 h3 (fun h => by omega)]
      by_cases hc : c < 128
      · rw [h1, dec_end i c r hN hc, if_pos hc, Nat.mod_eq_of_lt hc]; rfl
      · have IH := ih s a (i + 1) _ k hs (by omega) (by omega) hs8 (by omega)
        rw [show a + (i + 1) = a + i + 1 by omega, h4] at IH
        rw [if_neg hc, IH, h1, dec_on i c r hN hc, show c % 128 = c - 128 by omega]
        cases dec (i + 1) r with
        | inl x => rfl
        | inr x =>
          obtain ⟨v, m⟩ := x
          show some (((acc + (c - 128) * 2 ^ (7 * i) + v : Nat) : Int), ((a + (i + 1 + m) : Nat) : Int), (0 : Int)) = some (((acc + ((c - 128) * 2 ^ (7 * i) + v) : Nat) : Int), ((a + (i + (m + 1)) : Nat) : Int), 0)
          rw [Nat.add_assoc acc, Nat.add_assoc i, Nat.add_comm 1 m]
    · rw [List.drop_of_length_le (by rw [bs_length]; omega), dec_nil, rg_end s a i (k + 1) acc hs (by omega) (by omega)]
      rfl
theorem rgetv_k (s : ByteArray) (a k : Nat) (hk : 21 ≤ k) (hs : s.size ≤ 140737488351232) (ha : a ≤ s.size) : hygref2_GetVarint.f k s (a : Int) = rgv a (dec 0 ((bs s).drop a)) := by
  obtain ⟨k, rfl⟩ : ∃ m, k = m + 1 := ⟨k - 1, by omega⟩
  have := rgetv_l0 9 s a 0 0 k hs rfl (by omega) (by simp) (by omega)
  unfold hygref2_GetVarint.f
  rw [if_neg (by omega), hygref2_GetVarint.j0, if_neg (by simp; omega)]
  rw [Nat.add_zero] at this
  refine this.trans ?_
  cases dec 0 ((bs s).drop a) with
  | inl c => rfl
  | inr x => obtain ⟨v, m⟩ := x; simp [addv]
theorem rgetv_f (s : ByteArray) (a : Nat) (hs : s.size ≤ 140737488351232) (ha : a ≤ s.size) : hygref2_GetVarint.f 30 s (a : Int) = rgv a (dec 0 ((bs s).drop a)) := rgetv_k s a 30 (by omega) hs ha
theorem rgetv_range (s : ByteArray) (a : Int) (h : a < 0 ∨ s.size < a) : hygref2_GetVarint.f 30 s a = some (0, 0, 9) := by
  unfold hygref2_GetVarint.f
  by_cases h0 : a < 0
  · rw [if_pos h0, hygref2_GetVarint.j0, if_pos rfl]
  · rw [if_neg h0, hygref2_GetVarint.j0, if_pos (by simp; omega)]
end Go.Proofs.YtfkpebdjobhfgaaDoor
namespace Go.Proofs.YtfkpebdjobhfgaaDoor
open Go.RowKit Go.Proofs.YtfkpebdjobhfgaaDoorW.PrintWords Go.Proofs.YtfkpebdjobhfgaaDoorW.PrintLast Go.Proofs.YtfkpebdjobhfgaaDoorW.PrintMore Hy
open PDodGets (hygref2_Zag.f hygref2_GetVarint.f hygref2_Varints.l0 hygref2_Varints.f hygref18_GetDod.j0 hygref18_GetDod.j1 hygref18_GetDod.l0 hygref18_GetDod.f hygref18_PutDod.f)

/-! ### the document's own column of times: read -/
theorem dec_code0 : ∀ (l : List Nat) (i : Nat), dec i l = .inl 0 → False := by
  intro l
  induction l with
  | nil => intro i h; rw [dec_nil] at h; injection h with h; omega
  | cons x r ih =>
    intro i h
    by_cases h9 : i = 9 ∧ 1 < x
    · obtain ⟨rfl, hx⟩ := h9
      rw [dec_big x r hx] at h; injection h with h; omega
    · by_cases hx : x < 128
      · rw [dec_end i x r h9 hx] at h; cases h
      · rw [dec_on i x r h9 hx] at h
        cases hd : dec (i + 1) r with
        | inl y => rw [hd] at h; injection h with h; subst h; exact ih _ hd
        | inr y => rw [hd] at h; cases h
theorem vs_ok (s : ByteArray) (n p c : Int) (K : Nat) (acc : List Int) (a : Nat) (ha : (a : Int) < (s.size : Int)) (hg : hygref2_GetVarint.f K s (a : Int) = some (n, p, 0)) (hl : acc.length < 17592186044416) (_h : c = 0) :
    hygref2_Varints.l0 (K + 1) s acc (a : Int) = hygref2_Varints.l0 K s (acc ++ [n]) p := by
  rw [hygref2_Varints.l0, if_pos ha, hg, Option.bind_some, if_pos rfl, if_pos hl]
theorem vs_err (s : ByteArray) (n p c : Int) (K : Nat) (acc : List Int) (a : Nat) (ha : (a : Int) < (s.size : Int)) (hg : hygref2_GetVarint.f K s (a : Int) = some (n, p, c)) (hc : ¬ c = 0) :
    hygref2_Varints.l0 (K + 1) s acc (a : Int) = some ([], c) := by
  rw [hygref2_Varints.l0, if_pos ha, hg, Option.bind_some, if_neg hc]
theorem vs_puts (s : ByteArray) (hs : s.size ≤ 10000) : ∀ (R D : List Int) (K : Nat), u64s R → bs s = putsL D ++ putsL R → D.length + R.length ≤ 10000 → R.length + 25 ≤ K →
    hygref2_Varints.l0 K s D ((putsL D).length : Int) = some (D ++ R, 0) := by
  intro R
  induction R with
  | nil =>
    intro D K _ he _ hK
    obtain ⟨K, rfl⟩ : ∃ m, K = m + 1 := ⟨K - 1, by omega⟩
    have := congrArg List.length he
    rw [bs_length, putsL_nil, List.append_nil] at this
    rw [hygref2_Varints.l0, if_neg (by omega), List.append_nil]
  | cons x R ih =>
    intro D K hu he hl hK
    obtain ⟨K, rfl⟩ : ∃ m, K = m + 1 := ⟨K - 1, by omega⟩
    have hx := hu x (by simp)
    have hlen := congrArg List.length he
    rw [bs_length, putsL_cons, List.length_append, List.length_append] at hlen
    have hp := putL_pos x.toNat
    have hd : (bs s).drop (putsL D).length = putL x.toNat ++ putsL R := by rw [he, List.drop_left' rfl, putsL_cons]
    have hg := rgetv_k s (putsL D).length K (by simp at hK; omega) (by omega) (by omega)
    rw [hd, dec_put x.toNat (by omega)] at hg
    have hg2 : hygref2_GetVarint.f K s ((putsL D).length : Int) = some (x, (((putsL (D ++ [x])).length : Nat) : Int), 0) := by
      rw [hg]
      simp only [rgv]
      rw [putsL_append, List.length_append, putsL_cons, putsL_nil, List.append_nil, Int.toNat_of_nonneg hx.1]
    simp only [List.length_cons] at hl hK
    rw [vs_ok s x _ 0 K D _ (by omega) hg2 (by omega) rfl]
    have := ih (D ++ [x]) K (fun y hy => hu y (by simp [hy])) (by rw [he, putsL_append, putsL_cons, putsL_cons, putsL_nil, List.append_nil, List.append_assoc]) (by simp; omega) (by omega)
    rw [this, List.append_assoc]
    rfl
theorem vs_any (s : ByteArray) (hs : s.size ≤ 10000) : ∀ (d a : Nat) (D : List Int) (K : Nat), a + d = s.size → u64s D → D.length ≤ a → d + 25 ≤ K →
    ∃ vs c, hygref2_Varints.l0 K s D (a : Int) = some (vs, c) ∧ u64s vs ∧ vs.length ≤ s.size := by
  intro d
  induction d using Nat.strongRecOn with
  | ind d ih =>
    intro a D K ha hD hl hK
    obtain ⟨K, rfl⟩ : ∃ m, K = m + 1 := ⟨K - 1, by omega⟩
    by_cases h0 : d = 0
    · exact ⟨D, 0, by rw [hygref2_Varints.l0, if_neg (by omega)], hD, by omega⟩
    · have hg := rgetv_k s a K (by omega) (by omega) (by omega)
      cases hd : dec 0 ((bs s).drop a) with
      | inl c =>
        rw [hd] at hg
        by_cases hc : (c : Int) = 0
        · have hg2 : hygref2_GetVarint.f K s (a : Int) = some (0, 0, 0) := by rw [hg]; simp only [rgv]; rw [hc]
          exfalso
          have hc' : c = 0 := by omega
          subst hc'
          have := dec_code0 ((bs s).drop a) 0 hd
          exact this
        · exact ⟨[], c, vs_err s 0 0 c K D a (by omega) hg hc, by intro x hx; simp at hx, by simp⟩
      | inr x =>
        obtain ⟨v, m⟩ := x
        rw [hd] at hg
        obtain ⟨h1, h2, _, _, h5⟩ := dec_some _ 0 v m (okB_drop (bs_ok s) a) (by omega) hd
        rw [List.length_drop, bs_length] at h2
        rw [vs_ok s v _ 0 K D a (by omega) hg (by omega) rfl]
        exact ih (d - m) (by omega) (a + m) (D ++ [(v : Int)]) K (by omega) (by
          intro y hy
          rcases List.mem_append.1 hy with hy | hy
          · exact hD y hy
          · rw [List.mem_singleton.1 hy]; omega) (by simp; omega) (by omega)
/-! #### the numbers out of the differences -/
theorem gd_0 (s : ByteArray) (n : Int) (vs : List Int) (K : Nat) (step x : Int) (hn : 0 < n) (hl : 0 < vs.length) (hx : rd vs 0 = x) :
    hygref18_GetDod.l0 (K + 1) s n vs [] step 0 = hygref18_GetDod.l0 K s n vs [x] step 1 := by
  have h1 : (0 : Int) < (vs.length : Int) := by omega
  rw [hygref18_GetDod.l0, if_pos hn, if_pos rfl, if_pos h1, if_pos (by simp), hx, show wrap64 (0 + 1) = 1 by unfold wrap64; decide, List.nil_append]
theorem gd_1 (s : ByteArray) (n : Int) (vs : List Int) (K : Nat) (step x z a : Int) (hn : 1 < n) (hl : 1 < vs.length) (hx : rd vs 1 = x) (hz : hygref2_Zag.f x = some z) :
    hygref18_GetDod.l0 (K + 1) s n vs [a] step 1 = hygref18_GetDod.l0 K s n vs ([a] ++ [(a + z % 18446744073709551616) % 18446744073709551616]) (z % 18446744073709551616) 2 := by
  have h1 : (1 : Int) < (vs.length : Int) := by omega
  have h2 : IntKind.u64.wrap z = z % 18446744073709551616 := wrap_u64 _
  have h3 : rd [a] 0 = a := rfl
  have h4 : IntKind.u64.wrap (a + z % 18446744073709551616) = (a + z % 18446744073709551616) % 18446744073709551616 := wrap_u64 _
  rw [hygref18_GetDod.l0, if_pos hn, if_neg (by decide), if_pos rfl, if_pos h1, hx, hz, Option.bind_some, if_pos (by simp), if_pos (by simp), h2, h3, h4, show wrap64 (1 + 1) = 2 by unfold wrap64; decide]
theorem gd_2 (s : ByteArray) (n : Int) (vs out : List Int) (K m : Nat) (step x z a : Int) (hn : ((m + 2 : Nat) : Int) < n) (hn2 : n ≤ 20000) (hl : m + 2 < vs.length) (hx : rd vs ((m + 2 : Nat) : Int) = x) (hz : hygref2_Zag.f x = some z) (ho : out.length = m + 2) (ha : rd out ((m + 1 : Nat) : Int) = a) :
    hygref18_GetDod.l0 (K + 1) s n vs out step ((m + 2 : Nat) : Int) = hygref18_GetDod.l0 K s n vs (out ++ [(a + (step + z % 18446744073709551616) % 18446744073709551616) % 18446744073709551616]) ((step + z % 18446744073709551616) % 18446744073709551616) ((m + 2 + 1 : Nat) : Int) := by
  have e1 : wrap64 (((m + 2 : Nat) : Int) + 1) = ((m + 2 + 1 : Nat) : Int) := by unfold wrap64; omega
  have e2 : wrap64 (((m + 2 : Nat) : Int) - 1) = ((m + 1 : Nat) : Int) := by unfold wrap64; omega
  have h0 : ¬ ((m + 2 : Nat) : Int) = 0 := by omega
  have h1 : ¬ ((m + 2 : Nat) : Int) = 1 := by omega
  have h2 : (0 : Int) ≤ ((m + 2 : Nat) : Int) := by omega
  have h3 : ((m + 2 : Nat) : Int) < (vs.length : Int) := by omega
  have h4 : (0 : Int) ≤ ((m + 1 : Nat) : Int) := by omega
  have h5 : ((m + 1 : Nat) : Int) < (out.length : Int) := by omega
  have h6 : out.length < 17592186044416 := by omega
  have w1 : IntKind.u64.wrap z = z % 18446744073709551616 := wrap_u64 _
  have w2 : IntKind.u64.wrap (step + z % 18446744073709551616) = (step + z % 18446744073709551616) % 18446744073709551616 := wrap_u64 _
  have w3 : IntKind.u64.wrap (a + (step + z % 18446744073709551616) % 18446744073709551616) = (a + (step + z % 18446744073709551616) % 18446744073709551616) % 18446744073709551616 := wrap_u64 _
  rw [hygref18_GetDod.l0, if_pos hn, if_neg h0, if_neg h1, if_pos h2, if_pos h3, hx, hz, Option.bind_some, e2, if_pos h4, if_pos h5, if_pos h6, ha, w1, w2, w3, e1]
def gdF (s : ByteArray) (vs : List Int) : Option (List Int × Bool) := if st (putsL (offs [] (unoffs [] vs))) = s then some (unoffs [] vs, true) else some ([], false)
theorem gd_end (s : ByteArray) (vs out : List Int) (K : Nat) (step n : Int) (ho : out = unoffs [] vs) (hl : vs.length ≤ 20000) (hK : vs.length + 22 ≤ K) (hn : n = vs.length) :
    hygref18_GetDod.l0 (K + 1) s n vs out step n = gdF s vs := by
  subst ho
  obtain ⟨l, e1, e2, e3, e4⟩ := unoffs_split [] vs
  rw [List.nil_append] at e1
  rw [hygref18_GetDod.l0, if_neg (by omega), rputdod_f (unoffs [] vs) K (by rw [e1]; exact e3) (by rw [e1]; omega) (by rw [e1]; omega), Option.bind_some]
  unfold gdF
  by_cases h : st (putsL (offs [] (unoffs [] vs))) = s
  · rw [if_pos h, if_pos (by rw [h])]
  · rw [if_neg h, if_neg (by
      intro e
      rw [ByteArray.toList_eq, ByteArray.toList_eq] at e
      exact h (by cases s; simp only at e; exact ByteArray.ext (Array.toList_inj.1 e)))]
theorem unoffs_take (vs : List Int) (i : Nat) (h : i < vs.length) : unoffs [] (vs.take (i + 1)) = unoffs [] (vs.take i) ++ [unoff (unoffs [] (vs.take i)) (vs.getD i 0)] := by
  have hx : vs[i] = vs.getD i 0 := by simp [List.getD_eq_getElem?_getD, List.getElem?_eq_getElem h]
  rw [List.take_succ_eq_append_getElem h, unoffs_snoc, hx]
theorem gd_arith (a b z step : Int) (h : step = (a - b) % 18446744073709551616) : ((2 * a - b) % 18446744073709551616 + z % 18446744073709551616) % 18446744073709551616 = (a + (step + z % 18446744073709551616) % 18446744073709551616) % 18446744073709551616 := by omega
theorem gd_arith2 (a t : Int) : t % 18446744073709551616 = ((a + t % 18446744073709551616) % 18446744073709551616 - a) % 18446744073709551616 := by omega
theorem unoff_2 (out : List Int) (m : Nat) (v step : Int) (ho : out.length = m + 2) (h : step = (out.getD (m + 1) 0 - out.getD m 0) % 18446744073709551616) :
    unoff out v = (out.getD (m + 1) 0 + (step + zag v % 18446744073709551616) % 18446744073709551616) % 18446744073709551616 := by
  have hg := guess_take2 out m (by omega)
  rw [List.take_of_length_le (by omega)] at hg
  rw [← unoff_next out v (by omega), hg]
  exact gd_arith _ _ _ _ h
theorem gd_loop (s : ByteArray) (vs : List Int) (hu : u64s vs) (hl : vs.length ≤ 20000) : ∀ (d m K : Nat) (step : Int), m + 2 + d = vs.length → d + vs.length + 25 ≤ K → step = ((unoffs [] (vs.take (m + 2))).getD (m + 1) 0 - (unoffs [] (vs.take (m + 2))).getD m 0) % 18446744073709551616 →
    hygref18_GetDod.l0 K s (vs.length : Int) vs (unoffs [] (vs.take (m + 2))) step ((m + 2 : Nat) : Int) = gdF s vs := by
  intro d
  induction d with
  | zero =>
    intro m K step hm hK hst
    obtain ⟨K, rfl⟩ : ∃ m, K = m + 1 := ⟨K - 1, by omega⟩
    rw [show ((m + 2 : Nat) : Int) = (vs.length : Int) by omega, List.take_of_length_le (by omega)]
    exact gd_end s vs _ K step _ rfl hl (by omega) rfl
  | succ d ih =>
    intro m K step hm hK hst
    obtain ⟨K, rfl⟩ : ∃ m, K = m + 1 := ⟨K - 1, by omega⟩
    have ho : (unoffs [] (vs.take (m + 2))).length = m + 2 := by rw [unoffs_length, List.length_take, List.length_nil]; omega
    have hv := getD_u64 vs hu (m + 2) (by omega)
    have ht := unoffs_take vs (m + 2) (by omega)
    have hun := unoff_2 (unoffs [] (vs.take (m + 2))) m (vs.getD (m + 2) 0) step ho hst
    generalize hO : unoffs [] (vs.take (m + 2)) = out at *
    rw [gd_2 s _ vs out K m step (vs.getD (m + 2) 0) (zag (vs.getD (m + 2) 0)) (out.getD (m + 1) 0) (by omega) (by omega) (by omega) (by unfold rd; rw [Int.toNat_natCast]) (rzag_f _ hv.1 hv.2) ho (by unfold rd; rw [Int.toNat_natCast])]
    rw [← hun, ← ht]
    have h1 : (out ++ [unoff out (vs.getD (m + 2) 0)]).getD (m + 2) 0 = unoff out (vs.getD (m + 2) 0) := by rw [List.getD_eq_getElem?_getD, List.getElem?_append_right (by omega), ho]; simp
    have h2 : (out ++ [unoff out (vs.getD (m + 2) 0)]).getD (m + 1) 0 = out.getD (m + 1) 0 := by rw [List.getD_eq_getElem?_getD, List.getElem?_append_left (by omega), ← List.getD_eq_getElem?_getD]
    exact ih (m + 1) K _ (by omega) (by omega) (by rw [ht, h1, h2, hun]; exact gd_arith2 _ _)
theorem gd_all (s : ByteArray) (vs : List Int) (hu : u64s vs) (hl : vs.length ≤ 20000) (K : Nat) (hK : 2 * vs.length + 30 ≤ K) : hygref18_GetDod.l0 K s (vs.length : Int) vs [] 0 0 = gdF s vs := by
  obtain ⟨K, rfl⟩ : ∃ m, K = m + 1 := ⟨K - 1, by omega⟩
  by_cases h0 : vs.length = 0
  · obtain rfl : vs = [] := List.eq_nil_of_length_eq_zero h0
    exact gd_end s [] [] K 0 0 rfl (by simp) (by simp at hK ⊢; omega) rfl
  · have hv0 := getD_u64 vs hu 0 (by omega)
    have t0 := unoffs_take vs 0 (by omega)
    have u0 : unoff (unoffs [] (vs.take 0)) (vs.getD 0 0) = vs.getD 0 0 := by
      show unoff [] _ = _
      rw [← unoff_first [] _ rfl, show guess [] = 0 from rfl]; omega
    rw [u0, show unoffs [] (vs.take 0) = [] from rfl, List.nil_append, Nat.zero_add] at t0
    rw [gd_0 s _ vs K 0 (vs.getD 0 0) (by omega) (by omega) rfl, ← t0]
    obtain ⟨K, rfl⟩ : ∃ m, K = m + 1 := ⟨K - 1, by clear t0 u0 hv0; omega⟩
    by_cases h1 : vs.length = 1
    · rw [List.take_of_length_le (by omega), show (1 : Int) = (vs.length : Int) by omega]
      exact gd_end s vs _ K 0 _ rfl hl (by clear t0 u0 hv0; omega) rfl
    · have hv1 := getD_u64 vs hu 1 (by omega)
      have t1 := unoffs_take vs 1 (by omega)
      have u1 : unoff (unoffs [] (vs.take 1)) (vs.getD 1 0) = (vs.getD 0 0 + zag (vs.getD 1 0) % 18446744073709551616) % 18446744073709551616 := by
        rw [t0, ← unoff_next _ _ (by simp)]; rfl
      rw [u1, t0] at t1
      rw [t0, gd_1 s _ vs K 0 (vs.getD 1 0) (zag (vs.getD 1 0)) (vs.getD 0 0) (by omega) (by omega) rfl (rzag_f _ hv1.1 hv1.2), ← t1]
      exact gd_loop s vs hu hl (vs.length - 2) 0 K _ (by clear t0 t1 u0 u1 hv0 hv1; omega) (by clear t0 t1 u0 u1 hv0 hv1; omega) (by rw [t1]; exact gd_arith2 _ _)
theorem getN_of (s : ByteArray) (vs : List Int) (hu : u64s vs) (h : bs s = putsL vs) : getN vs.length (bs s) = some (vs, []) := by
  have := getN_puts vs [] hu
  rw [List.append_nil, ← h] at this
  exact this
theorem rgetdod_ok (s : ByteArray) (hs : s.size ≤ 10000) (n : Nat) (vs : List Int) (hn : n ≤ 20000) (h : getN n (bs s) = some (vs, [])) : hygref18_GetDod.f 60000 s (n : Int) = some (unoffs [] vs, true) := by
  obtain ⟨h1, h2, h3⟩ := getN_some _ _ _ _ (bs_ok s) h
  rw [List.append_nil] at h1
  have hlen := congrArg List.length h1
  rw [bs_length] at hlen
  have hle : vs.length ≤ (putsL vs).length := by
    clear h h1 h2 hlen
    induction vs with
    | nil => simp
    | cons a t ih => rw [putsL_cons, List.length_append, List.length_cons]; have := putL_pos a.toNat; have := ih (fun x hx => h3 x (by simp [hx])); omega
  have hv := vs_puts s hs vs [] 59999 h3 (by rw [h1]; rfl) (by simp; omega) (by omega)
  unfold hygref18_GetDod.f
  rw [if_neg (by omega), show (60000 : Nat) = 59999 + 1 from rfl, hygref18_GetDod.j0, if_neg (by simp; omega)]
  rw [show hygref2_Varints.f 59999 s = hygref2_Varints.l0 59999 s [] ((putsL ([] : List Int)).length : Int) from rfl, hv, Option.bind_some, List.nil_append, if_pos rfl]
  rw [show (59999 : Nat) = 59998 + 1 from rfl, hygref18_GetDod.j1, if_neg (by simp; omega)]
  rw [← h2, gd_all s vs h3 (by omega) 59998 (by omega)]
  unfold gdF
  obtain ⟨l, e1, e2, e3, e4⟩ := unoffs_split [] vs
  rw [List.nil_append] at e1
  rw [if_pos (by rw [e1, e4 h3, ← h1, st_bs])]
theorem rgetdod_no (s : ByteArray) (hs : s.size ≤ 10000) (n : Nat) (hn : n ≤ 20000) (h : ∀ vs, getN n (bs s) ≠ some (vs, [])) : hygref18_GetDod.f 60000 s (n : Int) = some ([], false) := by
  obtain ⟨vs, c, hv, hu, hl⟩ := vs_any s hs s.size 0 [] 59999 (by omega) (by intro x hx; simp at hx) (by simp) (by omega)
  unfold hygref18_GetDod.f
  rw [if_neg (by omega), show (60000 : Nat) = 59999 + 1 from rfl, hygref18_GetDod.j0, if_neg (by simp; omega)]
  rw [show hygref2_Varints.f 59999 s = hygref2_Varints.l0 59999 s [] ((0 : Nat) : Int) from rfl, hv, Option.bind_some]
  simp only
  by_cases hc : c = 0
  · rw [if_pos hc, show (59999 : Nat) = 59998 + 1 from rfl, hygref18_GetDod.j1]
    by_cases hln : vs.length = n
    · rw [if_neg (by simp; omega), ← hln, gd_all s vs hu (by omega) 59998 (by omega)]
      unfold gdF
      obtain ⟨l, e1, e2, e3, e4⟩ := unoffs_split [] vs
      rw [List.nil_append] at e1
      rw [if_neg (by
        rw [e1, e4 hu]
        intro e
        exact h vs (by rw [← hln]; exact getN_of s vs hu (by rw [← e, bs_st _ (putsL_ok _)])))]
    · rw [if_pos (by simp; omega)]
  · rw [if_neg hc, show (59999 : Nat) = 59998 + 1 from rfl, hygref18_GetDod.j1, if_pos rfl]
theorem rgetdod_range (s : ByteArray) (n : Int) (h : n < 0 ∨ 20000 < n) : hygref18_GetDod.f 60000 s n = some ([], false) := by
  unfold hygref18_GetDod.f
  by_cases h0 : n < 0
  · rw [if_pos h0, show (60000 : Nat) = 59999 + 1 from rfl, hygref18_GetDod.j0, if_pos rfl]
  · rw [if_neg h0, show (60000 : Nat) = 59999 + 1 from rfl, hygref18_GetDod.j0, if_pos (by simp; omega)]
end Go.Proofs.YtfkpebdjobhfgaaDoor
namespace Go.Proofs.YtfkpebdjobhfgaaDoor
open Go.RowKit Go.Proofs.YtfkpebdjobhfgaaDoorW.PrintWords Go.Proofs.YtfkpebdjobhfgaaDoorW.PrintLast Go.Proofs.YtfkpebdjobhfgaaDoorW.PrintMore Hy

theorem rgetdod_any (s : ByteArray) (n : Int) (l : List Int) (b : Bool) (w : World) (h : PDodGets.hygref18_GetDod.f 60000 s n = some (l, b)) :
    Calls Tryd.prog 20 #[.string s, .int .i64 n] w fun e w' => ∃ A c, e = .returned (.tuple #[.slice A l.length c, .bool b]) ∧ Kd.C (Kd.int .u64) w' A l.length l ∧ l.length ≤ c ∧ Below w.heap.size w w' := by
  refine (PDodGets.hygref18_GetDod.calls 60000 s n l b w h).mono ?_
  rintro e w' ⟨v, rfl, hR, hb⟩
  obtain ⟨A', c', rfl, h1, h2⟩ := Kd.R_reads hR
  exact ⟨A', c', rfl, h2, h1, hb⟩
theorem code9 (w : World) (hg : Laid w) : Calls Tryd.prog 11 #[.iface 30 (.int .i64 9)] w fun e w' => e = .returned (.int .i64 9) ∧ Below w.heap.size w w' := code_any (.code 9) _ w hg rfl
theorem numsNil (A : Option Addr) (c : Nat) (w : World) : Calls Tryd.prog 18 #[.slice none 0 0, .slice A 0 c] w fun e w' => e = .returned (.bool true) ∧ Drawn0 w w' := by
  have := nums_any none 0 [] A c [] w (Kd.C_nil _ _) (by simp) (⟨rfl, by simp, fun h => absurd h (Nat.lt_irrefl 0)⟩) (by simp) (by simp)
  exact this
set_option maxHeartbeats 4000000 in
theorem dodGets_walk (s : ByteArray) (count : Int) (w : World) (hs : s.size ≤ 140737488351232) (_hm0 : -9223372036854775808 ≤ count) (_hm1 : count < 9223372036854775808) (hg : Laid w) :
    Calls Tryd.prog 6 #[.string s, .int .i64 count] w fun e w' => e = .returned (.bool true) ∧ Below w.heap.size w w' := by
  have HB := Aside0.mk (Below.refl w.heap.size w)
  have HG := Aside0.mk hg
  clear hg _hm0 _hm1
  by_cases hz : 4000 < s.size
  · go_enter Tryd.func6, Tryd.ntmps6
    go_wp2_with (first
      | (go_at_call 14; refine (dod_first _).mono ?_; rintro e wb ⟨rfl, hb⟩; have HBn : Aside0 (Below w.heap.size w wb) := ⟨below_next (by repeat (first | (with_reducible exact HB.out) | apply below_alloc | apply pw_below_drewN | apply below_drew1)) hb⟩; clear HB hb; have HB := HBn; clear HBn))
    go_ret
    exact ⟨rfl, (by repeat (first | (with_reducible exact HB.out) | apply below_alloc | apply pw_below_drewN | apply below_drew1))⟩
  · by_cases hr : count < 0 ∨ 20000 < count
    · have A1 := fun w => dodGet_range s count w hr
      have A2 := fun w => rgetdod_any s count [] false w (rgetdod_range s count hr)
      by_cases h0 : count < 0
      · clear hr
        go_enter Tryd.func6, Tryd.ntmps6
        go_wp2_with (first
          | (go_at_call 14; refine (dod_first _).mono ?_; rintro e wb ⟨rfl, hb⟩; have HBn : Aside0 (Below w.heap.size w wb) := ⟨below_next (by repeat (first | (with_reducible exact HB.out) | apply below_alloc | apply pw_below_drewN | apply below_drew1)) hb⟩; clear HB hb; have HB := HBn; clear HBn)
          | (go_at_call 19; refine (A1 _).mono ?_; rintro e wb ⟨rfl, hb⟩; have HBn : Aside0 (Below w.heap.size w wb) := ⟨below_next (by repeat (first | (with_reducible exact HB.out) | apply below_alloc | apply pw_below_drewN | apply below_drew1)) hb⟩; clear HB hb; have HB := HBn; clear HBn)
          | (go_at_call 20; refine (A2 _).mono ?_; rintro e wb ⟨A, c, rfl, hC, hc, hb⟩; have HBn : Aside0 (Below w.heap.size w wb) := ⟨below_next HB.out hb⟩; clear HB hb hC hc; have HB := HBn; clear HBn)
          | (go_at_call 18; refine (numsNil _ _ _).mono ?_; rintro e wd ⟨rfl, ⟨nd, rfl⟩⟩)
          | (go_at_call 11; refine (code9 _ (HG.out.below (by repeat (first | (with_reducible exact HB.out) | apply below_alloc | apply pw_below_drewN | apply below_drew1)))).mono ?_; rintro e wb ⟨rfl, hb⟩; have HBn : Aside0 (Below w.heap.size w wb) := ⟨below_next (by repeat (first | (with_reducible exact HB.out) | apply below_alloc | apply pw_below_drewN | apply below_drew1)) hb⟩; clear HB hb; have HB := HBn; clear HBn))
        go_ret
        exact ⟨rfl, (by repeat (first | (with_reducible exact HB.out) | apply below_alloc | apply pw_below_drewN | apply below_drew1))⟩
      · have h1 : 20000 < count := by omega
        have h2 : 0 ≤ count := by omega
        clear hr h0
        go_enter Tryd.func6, Tryd.ntmps6
        go_wp2_with (first
          | (go_at_call 14; refine (dod_first _).mono ?_; rintro e wb ⟨rfl, hb⟩; have HBn : Aside0 (Below w.heap.size w wb) := ⟨below_next (by repeat (first | (with_reducible exact HB.out) | apply below_alloc | apply pw_below_drewN | apply below_drew1)) hb⟩; clear HB hb; have HB := HBn; clear HBn)
          | (go_at_call 19; refine (A1 _).mono ?_; rintro e wb ⟨rfl, hb⟩; have HBn : Aside0 (Below w.heap.size w wb) := ⟨below_next (by repeat (first | (with_reducible exact HB.out) | apply below_alloc | apply pw_below_drewN | apply below_drew1)) hb⟩; clear HB hb; have HB := HBn; clear HBn)
          | (go_at_call 20; refine (A2 _).mono ?_; rintro e wb ⟨A, c, rfl, hC, hc, hb⟩; have HBn : Aside0 (Below w.heap.size w wb) := ⟨below_next HB.out hb⟩; clear HB hb hC hc; have HB := HBn; clear HBn)
          | (go_at_call 18; refine (numsNil _ _ _).mono ?_; rintro e wd ⟨rfl, ⟨nd, rfl⟩⟩)
          | (go_at_call 11; refine (code9 _ (HG.out.below (by repeat (first | (with_reducible exact HB.out) | apply below_alloc | apply pw_below_drewN | apply below_drew1)))).mono ?_; rintro e wb ⟨rfl, hb⟩; have HBn : Aside0 (Below w.heap.size w wb) := ⟨below_next (by repeat (first | (with_reducible exact HB.out) | apply below_alloc | apply pw_below_drewN | apply below_drew1)) hb⟩; clear HB hb; have HB := HBn; clear HBn))
        go_ret
        exact ⟨rfl, (by repeat (first | (with_reducible exact HB.out) | apply below_alloc | apply pw_below_drewN | apply below_drew1))⟩
    · obtain ⟨n, rfl⟩ := Int.eq_ofNat_of_zero_le (show 0 ≤ count by omega)
      have hn : n ≤ 20000 := by omega
      by_cases hok : ∃ vs, getN n (bs s) = some (vs, [])
      · obtain ⟨vs, hvs⟩ := hok
        have hl : (unoffs [] vs).length ≤ 20000 := by have := (getN_some _ _ _ _ (bs_ok s) hvs).2.1; rw [unoffs_length, List.length_nil]; omega
        have A1 := fun w => dodGet_ok s (n : Int) vs w (by omega) (by omega) hs (by rw [Int.toNat_natCast]; exact hvs)
        have A2 := fun w => rgetdod_any s (n : Int) (unoffs [] vs) true w (rgetdod_ok s (by omega) n vs hn hvs)
        clear hvs hr
        generalize unoffs [] vs = l at *
        go_enter Tryd.func6, Tryd.ntmps6
        go_wp2_with (first
          | (go_at_call 14; refine (dod_first _).mono ?_; rintro e wb ⟨rfl, hb⟩; have HBn : Aside0 (Below w.heap.size w wb) := ⟨below_next (by repeat (first | (with_reducible exact HB.out) | apply below_alloc | apply pw_below_drewN | apply below_drew1)) hb⟩; clear HB hb; have HB := HBn; clear HBn))
        refine (A1 _).mono ?_
        rintro e wb ⟨A, c, rfl, hC, hc, hb⟩
        have HBn : Aside0 (Below w.heap.size w wb) := ⟨below_next HB.out hb⟩
        have HC1 := Aside0.mk hC
        have HC2 := Aside0.mk hc
        clear HB hb hC hc
        have HB := HBn
        clear HBn
        go_wp2_with fail
        refine (A2 _).mono ?_
        rintro e wc ⟨A', c', rfl, hC, hc, hb⟩
        have HBn : Aside0 (Below w.heap.size w wc) := ⟨below_next HB.out hb⟩
        have HC3 := Aside0.mk (Kd.C_below HC1.out hb)
        have HC4 := Aside0.mk hC
        have HC5 := Aside0.mk hc
        clear HB hb hC hc HC1
        have HB := HBn
        clear HBn
        have HN := fun w' (h1 : Kd.C (Kd.int .u64) w' A l.length l) (h2 : Kd.C (Kd.int .u64) w' A' l.length l) => nums_any A c l A' c' l w' h1 HC2.out h2 HC5.out (by omega)
        rw [decide_eq_true rfl] at HN
        go_wp2_with (first
          | (go_at_call 14; refine (dod_first _).mono ?_; rintro e wb ⟨rfl, hb⟩; have HC6 := Aside0.mk (Kd.C_below HC3.out hb); have HC7 := Aside0.mk (Kd.C_below HC4.out hb); have HBn : Aside0 (Below w.heap.size w wb) := ⟨below_next (by repeat (first | (with_reducible exact HB.out) | apply below_alloc | apply pw_below_drewN | apply below_drew1)) hb⟩; clear HB hb; have HB := HBn; clear HBn)
          | (go_at_call 18; refine (HN _ HC6.out HC7.out).mono ?_; rintro e wd ⟨rfl, ⟨nd, rfl⟩⟩))
        go_ret
        exact ⟨rfl, (by repeat (first | (with_reducible exact HB.out) | apply below_alloc | apply pw_below_drewN | apply below_drew1))⟩
      · have A1 := fun w => dodGet_err s (n : Int) w (by omega) (by omega) hs (fun vs e => hok ⟨vs, by rw [Int.toNat_natCast] at e; exact e⟩)
        have A2 := fun w => rgetdod_any s (n : Int) [] false w (rgetdod_no s (by omega) n hn (fun vs e => hok ⟨vs, e⟩))
        clear hok hr
        go_enter Tryd.func6, Tryd.ntmps6
        go_wp2_with (first
          | (go_at_call 14; refine (dod_first _).mono ?_; rintro e wb ⟨rfl, hb⟩; have HBn : Aside0 (Below w.heap.size w wb) := ⟨below_next (by repeat (first | (with_reducible exact HB.out) | apply below_alloc | apply pw_below_drewN | apply below_drew1)) hb⟩; clear HB hb; have HB := HBn; clear HBn))
        refine (A1 _).mono ?_
        rintro e wb ⟨u, E, rfl, hu, hne, hb⟩; have HBn : Aside0 (Below w.heap.size w wb) := ⟨below_next (by repeat (first | (with_reducible exact HB.out) | apply below_alloc | apply pw_below_drewN | apply below_drew1)) hb⟩; clear HB hb; have HB := HBn; clear HBn; obtain ⟨uT, ux, rfl⟩ := hu.iface hne; clear hu hne
        go_wp2_with (first
          | (go_at_call 20; refine (A2 _).mono ?_; rintro e wb ⟨A, c, rfl, hC, hc, hb⟩; have HBn : Aside0 (Below w.heap.size w wb) := ⟨below_next HB.out hb⟩; clear HB hb hC hc; have HB := HBn; clear HBn)
          | (go_at_call 14; refine (dod_first _).mono ?_; rintro e wb ⟨rfl, hb⟩; have HBn : Aside0 (Below w.heap.size w wb) := ⟨below_next (by repeat (first | (with_reducible exact HB.out) | apply below_alloc | apply pw_below_drewN | apply below_drew1)) hb⟩; clear HB hb; have HB := HBn; clear HBn)
          | (go_at_call 18; refine (numsNil _ _ _).mono ?_; rintro e wd ⟨rfl, ⟨nd, rfl⟩⟩))
        go_ret
        exact ⟨rfl, (by repeat (first | (with_reducible exact HB.out) | apply below_alloc | apply pw_below_drewN | apply below_drew1))⟩
end Go.Proofs.YtfkpebdjobhfgaaDoor
