import Derived.Test.YtdgbcokakmonfaaVar
namespace Go.Proofs.Ytdgbcokakmonfaa
open Go.RowKit Go.Proofs.YtdgbcokakmonfaaW.PrintWords Go.Proofs.YtdgbcokakmonfaaW.PrintLast Go.Proofs.YtdgbcokakmonfaaW.PrintMore Hy
open PRunsDeltas

/-! ### the document's own -/
theorem rzig_f (m : Int) (h0 : -9223372036854775808 ≤ m) (h1 : m < 9223372036854775808) : hygref2_Zig.f m = some (zig m) := by
  unfold hygref2_Zig.f zig
  by_cases h : m < 0
  · rw [if_pos h, if_pos h]; simp only [wrap_u64, wrap64]; congr 1; omega
  · rw [if_neg h, if_neg h]; simp only [wrap_u64]; congr 1; omega
theorem rzig_any (m : Int) (w : World) (h0 : -9223372036854775808 ≤ m) (h1 : m < 9223372036854775808) :
    Calls Try.prog 22 #[.int .i64 m] w fun e w' => e = .returned (.int .u64 (zig m)) ∧ Drawn0 w w' := hygref2_Zig.calls m _ w (rzig_f m h0 h1)
theorem rzag_f (n : Int) (h0 : 0 ≤ n) (h1 : n < 18446744073709551616) : hygref2_Zag.f n = some (zag n) := by
  unfold hygref2_Zag.f zag
  rw [Int.tmod_eq_emod_of_nonneg h0, Int.tdiv_eq_ediv_of_nonneg h0]
  by_cases h : n % 2 = 1
  · rw [if_pos h, if_pos h]; simp only [wrap_u64, wrap64]; congr 1; omega
  · rw [if_neg h, if_neg h]; simp only [wrap_u64, wrap64]; congr 1; omega
theorem rzag_any (n : Int) (w : World) (h0 : 0 ≤ n) (h1 : n < 18446744073709551616) :
    Calls Try.prog 23 #[.int .u64 n] w fun e w' => e = .returned (.int .i64 (zag n)) ∧ Drawn0 w w' := hygref2_Zag.calls n _ w (rzag_f n h0 h1)
end Go.Proofs.Ytdgbcokakmonfaa
