import Derived.Test.YtodhnmflabehhaaNum
namespace Go.Proofs.Ytodhnmflabehhaa.Hy
open Go.RowKit

/-! ### a byte's bits: written -/
theorem cast_div (n r : Nat) : (n : Int) / 2 ^ r = ((n / 2 ^ r : Nat) : Int) := by rw [Int.natCast_ediv, Int.natCast_pow]; rfl
theorem cast_shl (n r : Nat) : (n : Int) * 2 ^ r = ((n * 2 ^ r : Nat) : Int) := by rw [Int.natCast_mul, Int.natCast_pow]; rfl
theorem pow8 (t : Nat) (ht : t ≤ 8) : (2 : Nat) ^ t ≤ 256 := by
  calc 2 ^ t ≤ 2 ^ 8 := Nat.pow_le_pow_right (by omega) ht
    _ = 256 := rfl
theorem chunk_u64 (N t : Nat) (hN : N < 18446744073709551616) (ht : t ≤ 8) : Go.bits .and .u64 (N : Int) (IntKind.u64.wrap (IntKind.u64.wrap (2 ^ t) - 1)) = ((N % 2 ^ t : Nat) : Int) := by
  have h2 : (2 : Int) ^ t ≤ 256 ∧ 1 ≤ (2 : Int) ^ t := by
    rcases (by omega : t = 0 ∨ t = 1 ∨ t = 2 ∨ t = 3 ∨ t = 4 ∨ t = 5 ∨ t = 6 ∨ t = 7 ∨ t = 8) with rfl | rfl | rfl | rfl | rfl | rfl | rfl | rfl | rfl <;> decide
  rw [wrap_u64, wrap_u64, Int.emod_eq_of_lt (by omega) (by omega), Int.emod_eq_of_lt (by omega) (by omega)]
  rw [bits_mask .u64 64 (by decide) (fun n a b => by rw [wrap_u64]; omega) t (by omega) (N : Int) (by omega) (by omega)]
  rw [Int.natCast_emod, Int.natCast_pow]; rfl
theorem join_u8 (x c k R : Nat) (hx : x % 2 ^ R = 0) (hx2 : x < 256) (hk : k ≤ R) (hR : R ≤ 8) (hc : c < 2 ^ (R - k)) : Go.bits .or .u8 (x : Int) ((c * 2 ^ k : Nat) : Int) = ((x + c * 2 ^ k : Nat) : Int) := by
  have hlt : c * 2 ^ k < 2 ^ R := by
    calc c * 2 ^ k < 2 ^ (R - k) * 2 ^ k := Nat.mul_lt_mul_of_pos_right hc (Nat.two_pow_pos _)
      _ = 2 ^ R := by rw [← Nat.pow_add]; congr 1; omega
  have hle := pow8 R hR
  have h1 : (x : Int) % 2 ^ R = 0 := by
    have : ((x % 2 ^ R : Nat) : Int) = 0 := by rw [hx]; rfl
    rw [Int.natCast_emod, Int.natCast_pow] at this
    exact this
  have h2 : ((c * 2 ^ k : Nat) : Int) < 2 ^ R := by
    have : ((c * 2 ^ k : Nat) : Int) < ((2 ^ R : Nat) : Int) := by omega
    rw [Int.natCast_pow] at this
    exact this
  have h := bits_join .u8 8 (by decide) wraps_u8 R (x : Int) ((c * 2 ^ k : Nat) : Int) (by omega) h1 (by omega) (by omega) h2 (by omega)
  rw [h]; omega
theorem put_byte (x N t R k : Nat) (hx : x % 2 ^ R = 0) (hx2 : x < 256) (hk : R - t = k) (ht : t ≤ R) (hR : R ≤ 8) (hN : N < 18446744073709551616) :
    Go.bits .or .u8 (x : Int) (Go.bits .and .u64 (N : Int) (IntKind.u64.wrap (IntKind.u64.wrap (2 ^ t) - 1)) % 256 * 2 ^ k % 256) = ((x + N % 2 ^ t * 2 ^ k : Nat) : Int) := by
  have hc : N % 2 ^ t < 2 ^ t := Nat.mod_lt _ (Nat.two_pow_pos _)
  have hle := pow8 t (by omega)
  have hR2 := pow8 R hR
  have hlt : N % 2 ^ t * 2 ^ k < 256 := by
    calc N % 2 ^ t * 2 ^ k < 2 ^ t * 2 ^ k := Nat.mul_lt_mul_of_pos_right hc (Nat.two_pow_pos _)
      _ = 2 ^ R := by rw [← Nat.pow_add]; congr 1; omega
      _ ≤ 256 := hR2
  rw [chunk_u64 N t hN (by omega)]
  generalize N % 2 ^ t = c at *
  rw [Int.emod_eq_of_lt (show (0 : Int) ≤ (c : Int) by omega) (show (c : Int) < 256 by omega), cast_shl]
  generalize hq : c * 2 ^ k = q at *
  rw [Int.emod_eq_of_lt (show (0 : Int) ≤ (q : Int) by omega) (show (q : Int) < 256 by omega), ← hq]
  exact join_u8 x c k R hx hx2 (by omega) hR (by rw [show R - k = t by omega]; exact hc)
theorem put_byte0 (x N R : Nat) (hx : x % 2 ^ R = 0) (hx2 : x < 256) (hR : R ≤ 8) (hN : N < 18446744073709551616) :
    Go.bits .or .u8 (x : Int) (Go.bits .and .u64 (N : Int) (IntKind.u64.wrap (IntKind.u64.wrap (2 ^ R) - 1)) % 256) = ((x + N % 2 ^ R * 2 ^ (R - R) : Nat) : Int) := by
  have h := put_byte x N R R 0 hx hx2 (by omega) (Nat.le_refl _) hR hN
  have e : ∀ y : Int, y % 256 * 2 ^ 0 % 256 = y % 256 := by intro y; rw [Int.pow_zero, Int.mul_one, Int.emod_emod_of_dvd _ (Int.dvd_refl _)]
  rw [e] at h
  rw [h, Nat.sub_self]
theorem get_bs (s : ByteArray) (i : Nat) (h : i < s.size) : s[i].toNat = (bs s).getD i 0 := by
  have hl : i < (bs s).length := by rw [bs_length]; exact h
  rw [List.getD_eq_getElem?_getD, List.getElem?_eq_getElem hl]
  simp [bs]
  rfl
/-- What a reader's round makes of the number. -/
theorem get_step (n c t j k : Nat) (hn : n < 2 ^ j) (hj : j + t ≤ 64) (ht : t ≤ 8) (hc : c < 256) :
    Go.bits .or .u64 (IntKind.u64.wrap ((n : Int) * 2 ^ t)) (Go.bits .and .u64 ((c : Int) / 2 ^ k) (IntKind.u64.wrap (IntKind.u64.wrap (2 ^ t) - 1))) = ((n * 2 ^ t + c / 2 ^ k % 2 ^ t : Nat) : Int) := by
  have hck : c / 2 ^ k < 256 := Nat.lt_of_le_of_lt (Nat.div_le_self _ _) hc
  rw [cast_div, chunk_u64 _ t (by omega) ht, cast_shl]
  have h1 : n * 2 ^ t < 18446744073709551616 := by
    calc n * 2 ^ t < 2 ^ j * 2 ^ t := Nat.mul_lt_mul_of_pos_right hn (Nat.two_pow_pos _)
      _ = 2 ^ (j + t) := by rw [← Nat.pow_add]
      _ ≤ 2 ^ 64 := Nat.pow_le_pow_right (by omega) hj
      _ = 18446744073709551616 := rfl
  have h2 : c / 2 ^ k % 2 ^ t < 2 ^ t := Nat.mod_lt _ (Nat.two_pow_pos _)
  have h3 := pow8 t ht
  generalize hq : c / 2 ^ k % 2 ^ t = q at *
  have h4 : ((n * 2 ^ t : Nat) : Int) % 2 ^ t = 0 := by rw [← cast_shl]; exact Int.mul_emod_left _ _
  have h5 : (q : Int) < 2 ^ t := by
    have : (q : Int) < ((2 ^ t : Nat) : Int) := by omega
    rw [Int.natCast_pow] at this
    exact this
  rw [wrap_u64, Int.emod_eq_of_lt (by omega) (by omega)]
  have h := bits_join .u64 64 (by decide) (fun n a b => by rw [wrap_u64]; omega) t ((n * 2 ^ t : Nat) : Int) (q : Int) (by omega) h4 (by omega) (by omega) h5 (by omega)
  rw [h]; omega
end Go.Proofs.Ytodhnmflabehhaa.Hy
