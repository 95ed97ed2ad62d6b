import Derived.Test.YtfkpebdjobhfgaaVar
namespace Go.Proofs.Ytfkpebdjobhfgaa
open Go.RowKit Go.Proofs.YtfkpebdjobhfgaaW.PrintWords Go.Proofs.YtfkpebdjobhfgaaW.PrintLast Go.Proofs.YtfkpebdjobhfgaaW.PrintMore Hy
open PVarintPuts

/-! ### the document's own -/
theorem rput_l0 : ∀ (j n : Nat) (k : Nat) (acc : List Nat), n < 2 ^ (7 * (j + 1)) → n < 18446744073709551616 → acc.length + j < 1000 → j < k →
    hygref2_Varint.l0 k (n : Int) (acc.map fun (x : Nat) => (x : Int)) = some (st (acc ++ putL n)) := by
  intro j
  induction j with
  | zero =>
    intro n k acc h h64 hl hk
    obtain ⟨k, rfl⟩ : ∃ m, k = m + 1 := ⟨k - 1, by omega⟩
    have hn : n < 128 := by simpa using h
    simp only [hygref2_Varint.l0]
    rw [if_neg (by omega), if_pos (by simp; omega), putL_lo n hn, ← strOfNums_eq, show (n : Int) % 256 = n by omega]
    simp
  | succ j ih =>
    intro n k acc h h64 hl hk
    obtain ⟨k, rfl⟩ : ∃ m, k = m + 1 := ⟨k - 1, by omega⟩
    simp only [hygref2_Varint.l0]
    by_cases hn : n < 128
    · rw [if_neg (by omega), if_pos (by simp; omega), putL_lo n hn, ← strOfNums_eq, show (n : Int) % 256 = n by omega]
      simp
    · have h' : n / 128 < 2 ^ (7 * (j + 1)) := by
        rw [Nat.div_lt_iff_lt_mul (by omega)]
        calc n < _ := h
          _ = _ := by rw [show 7 * (j + 1 + 1) = 7 * (j + 1) + 7 by omega, Nat.pow_add]
      have := ih (n / 128) k (acc ++ [n % 128 + 128]) h' (by omega) (by simp; omega) (by omega)
      rw [if_pos (by omega), if_pos (by simp; omega), putL_hi n hn, and_u64_127 _ (by omega) (by omega), or_u64_128 _ (by omega) (by omega)]
      rw [List.append_assoc] at this
      simp only [List.cons_append, List.nil_append] at this
      rw [← this]
      have e : ((n : Int) / 128) = ((n / 128 : Nat) : Int) := by omega
      have e2 : ((n : Int) % 128 + 128) % 256 = ((n % 128 + 128 : Nat) : Int) := by omega
      rw [e, e2]
      simp
theorem rput_f (n : Int) (h0 : 0 ≤ n) (h1 : n < 18446744073709551616) : hygref2_Varint.f 10 n = some (put n) := by
  obtain ⟨n, rfl⟩ := Int.eq_ofNat_of_zero_le h0
  have := rput_l0 9 n 10 [] (by omega) (by omega) (by simp) (by omega)
  simpa [hygref2_Varint.f, put] using this
theorem rput_any (n : Int) (w : World) (h0 : 0 ≤ n) (h1 : n < 18446744073709551616) :
    Calls Try.prog 9 #[.int .u64 n] w fun e w' => e = .returned (.string (put n)) ∧ Below w.heap.size w w' :=
  hygref2_Varint.calls 10 n _ w (rput_f n h0 h1)
theorem rzig_f (m : Int) (h0 : -9223372036854775808 ≤ m) (h1 : m < 9223372036854775808) : hygref2_Zig.f m = some (zig m) := by
  unfold hygref2_Zig.f zig
  by_cases h : m < 0
  · rw [if_pos h, if_pos h]; simp only [wrap_u64, wrap64]; congr 1; omega
  · rw [if_neg h, if_neg h]; simp only [wrap_u64]; congr 1; omega
theorem rzig_any (m : Int) (w : World) (h0 : -9223372036854775808 ≤ m) (h1 : m < 9223372036854775808) :
    Calls Try.prog 12 #[.int .i64 m] w fun e w' => e = .returned (.int .u64 (zig m)) ∧ Drawn0 w w' := hygref2_Zig.calls m _ w (rzig_f m h0 h1)
theorem rzag_f (n : Int) (h0 : 0 ≤ n) (h1 : n < 18446744073709551616) : hygref2_Zag.f n = some (zag n) := by
  unfold hygref2_Zag.f zag
  rw [Int.tmod_eq_emod_of_nonneg h0, Int.tdiv_eq_ediv_of_nonneg h0]
  by_cases h : n % 2 = 1
  · rw [if_pos h, if_pos h]; simp only [wrap_u64, wrap64]; congr 1; omega
  · rw [if_neg h, if_neg h]; simp only [wrap_u64, wrap64]; congr 1; omega
theorem rzag_any (n : Int) (w : World) (h0 : 0 ≤ n) (h1 : n < 18446744073709551616) :
    Calls Try.prog 14 #[.int .u64 n] w fun e w' => e = .returned (.int .i64 (zag n)) ∧ Drawn0 w w' := hygref2_Zag.calls n _ w (rzag_f n h0 h1)
theorem zig32_f (m : Int) (h0 : -2147483648 ≤ m) (h1 : m < 2147483648) : varint_Zig32.f m = some (zig m) := by
  unfold varint_Zig32.f zig
  by_cases h : m < 0
  · rw [if_pos h, show m / 2147483648 % 4294967296 = 4294967295 by omega, xor_u32_m _ (by omega) (by omega), wrap_u64]; congr 1; omega
  · rw [if_neg h, show m / 2147483648 % 4294967296 = 0 by omega, xor_u32_0 _ (by omega) (by omega), wrap_u64]; congr 1; omega
theorem zig32_any (m : Int) (w : World) (h0 : -2147483648 ≤ m) (h1 : m < 2147483648) :
    Calls Try.prog 15 #[.int .i32 m] w fun e w' => e = .returned (.int .u64 (zig m)) ∧ Drawn0 w w' := varint_Zig32.calls m _ w (zig32_f m h0 h1)
theorem rzig32_any (m : Int) (w : World) (h0 : -2147483648 ≤ m) (h1 : m < 2147483648) :
    Calls Try.prog 16 #[.int .i32 m] w fun e w' => e = .returned (.int .u64 (zig m)) ∧ Drawn0 w w' := hygref2_Zig32.calls m _ w (by
  unfold hygref2_Zig32.f
  rw [show wrap64 m = m by unfold wrap64; omega, rzig_f m (by omega) (by omega)]; rfl)
theorem zag32_f (n : Int) (h0 : 0 ≤ n) (h1 : n < 18446744073709551616) : varint_Zag32.f n = some (zag (n % 4294967296)) := by
  unfold varint_Zag32.f zag
  rw [and_u64_1 n h0 h1]
  by_cases h : n % 2 = 1
  · rw [if_pos (by omega), h, show wrap32 (-wrap32 1) = -1 by unfold wrap32; omega, xor_i32_m _ (by omega) (by omega)]
  · rw [if_neg (by omega), show n % 2 = 0 by omega, show wrap32 (-wrap32 0) = 0 by unfold wrap32; omega, xor_i32_0 _ (by omega) (by omega)]
theorem zag32_any (n : Int) (w : World) (h0 : 0 ≤ n) (h1 : n < 18446744073709551616) :
    Calls Try.prog 17 #[.int .u64 n] w fun e w' => e = .returned (.int .i32 (zag (n % 4294967296))) ∧ Drawn0 w w' := varint_Zag32.calls n _ w (zag32_f n h0 h1)
theorem rzag32_any (n : Int) (w : World) (h0 : 0 ≤ n) (h1 : n < 18446744073709551616) :
    Calls Try.prog 18 #[.int .u64 n] w fun e w' => e = .returned (.int .i32 (zag (n % 4294967296))) ∧ Drawn0 w w' := hygref2_Zag32.calls n _ w (by
  unfold hygref2_Zag32.f
  have := zag_range32 (n % 4294967296) (by omega) (by omega)
  rw [and_u64_m32 n h0 h1, rzag_f _ (by omega) (by omega)]
  show some (wrap32 (zag (n % 4294967296))) = _
  congr 1; unfold wrap32; omega)
end Go.Proofs.Ytfkpebdjobhfgaa
