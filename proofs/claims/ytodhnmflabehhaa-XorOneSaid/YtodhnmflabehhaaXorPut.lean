import Derived.Test.YtodhnmflabehhaaXorW
import Derived.Test.YtodhnmflabehhaaSl
namespace Go.Proofs.Ytodhnmflabehhaa
open Go.RowKit Go.Proofs.YtodhnmflabehhaaW.PrintWords Go.Proofs.YtodhnmflabehhaaW.PrintLast Go.Proofs.YtodhnmflabehhaaW.PrintMore Hy

def nat (l : List Int) : List Nat := l.map Int.toNat
theorem nat_length (l : List Int) : (nat l).length = l.length := by simp [nat]
theorem nat_u64 (l : List Int) (h : ∀ x ∈ l, 0 ≤ x ∧ x < 18446744073709551616) : u64n (nat l) := by
  intro x hx
  obtain ⟨y, hy, rfl⟩ := List.mem_map.1 hx
  have := h y hy; omega
theorem xor_nat (a b : Int) (ha : 0 ≤ a ∧ a < 18446744073709551616) (hb : 0 ≤ b ∧ b < 18446744073709551616) : 0 ≤ Go.bits .xor .u64 a b ∧ Go.bits .xor .u64 a b < 18446744073709551616 ∧ (Go.bits .xor .u64 a b).toNat = a.toNat ^^^ b.toNat := by
  obtain ⟨a, rfl⟩ := Int.eq_ofNat_of_zero_le ha.1
  obtain ⟨b, rfl⟩ := Int.eq_ofNat_of_zero_le hb.1
  have hx := xor_lt (show a < 18446744073709551616 by omega) (show b < 18446744073709551616 by omega)
  rw [bits_xor_nat .u64 a b (by simp [IntKind.bits]; omega) (by simp [IntKind.bits]; omega), wrap_u64, Int.toNat_natCast, Int.toNat_natCast]
  omega
/-- The bits at a round's end. -/
theorem encL_take (l : List Int) (k : Nat) (hk : k + 1 < l.length) : encL (nat (l.take (k + 2))) = encL (nat (l.take (k + 1))) ++ encD ((l[k + 1]).toNat ^^^ (l[k]).toNat) := by
  have h1 : l.take (k + 2) = l.take (k + 1) ++ [l[k + 1]] := by rw [List.take_succ_eq_append_getElem hk]
  have h0 : l.take (k + 1) = l.take k ++ [l[k]] := by rw [List.take_succ_eq_append_getElem (by omega)]
  have h2 : (nat (l.take (k + 1))).getLast? = some (l[k]).toNat := by
    rw [h0, show nat (l.take k ++ [l[k]]) = nat (l.take k) ++ [(l[k]).toNat] from List.map_append]
    exact List.getLast?_concat
  have h3 : nat (l.take (k + 2)) = nat (l.take (k + 1)) ++ [(l[k + 1]).toNat] := by rw [h1]; unfold nat; rw [List.map_append]; rfl
  rw [h3, encL_snoc _ _ (by intro e; rw [e] at h2; simp at h2), h2]
  rfl
set_option maxHeartbeats 2000000 in
theorem xorPut_ok (A : Option Addr) (c : Nat) (l : List Int) (w : World) (hr : Kd.C (Kd.int .u64) w A l.length l) (hc : l.length ≤ c) (hl : l.length ≤ 20000) (hx : ∀ x ∈ l, 0 ≤ x ∧ x < 18446744073709551616) :
    Calls Try.prog 10 #[.slice A l.length c] w fun e w' => e = .returned (.tuple #[.string (colT (nat l)), .nilIface]) ∧ Below w.heap.size w w' := by
  have HB := Aside0.mk (Below.refl w.heap.size w)
  have HR := Aside0.mk hr
  have HC := Aside0.mk hc
  have HX := Aside0.mk hx
  clear hr hc hx
  go_enter Try.func10, Try.ntmps10
  go_wp2_with fail
  go_loopw [13] (fun v13 w' => ∃ k : Nat, k ≤ l.length ∧ v13 = .int .i64 (k : Int) ∧ Aside0 (IsW 50 w.heap.size w.heap.size (encL (nat (l.take k))) w') ∧ Aside0 (Below w.heap.size w w')) (fun v13 _ => l.length - (intOf v13).toNat)
  case atStart => exact ⟨0, by omega, rfl, ⟨IsW.new _ w⟩, ⟨(by repeat (first | (with_reducible exact HB.out) | apply below_alloc | apply pw_below_drewN | apply below_drew1))⟩⟩
  case round =>
    clear HB
    obtain ⟨k, hk, rfl, HI, HB⟩ := hrel
    by_cases hlt : k < l.length
    · obtain ⟨ad, rfl, hcell⟩ := cellAt (Kd.C_below HR.out HB.out) k hlt
      have hxk := Aside0.mk (HX.out _ (List.getElem_mem hlt))
      have HC' := HC.out
      have hbl : (encL (nat (l.take k))).length ≤ 1600000 := by have := encL_len (nat (l.take k)); rw [nat_length, List.length_take] at this; omega
      have hsz := HB.out.size
      by_cases h0 : k = 0
      · have HE : Aside0 (encL (nat (l.take (k + 1))) = encL (nat (l.take k)) ++ bitsOf (l[k]).toNat 64) := ⟨by
          subst h0; rw [List.take_succ_eq_append_getElem hlt]; simp [nat, encL, encT]⟩
        have hk0 : ((k : Int) == 0) = true := by simp; omega
        have hn64 : Aside0 ((l[k]).toNat < 2 ^ (64 : Int).toNat) := ⟨by rw [show (64 : Int).toNat = 64 from rfl]; have := hxk.out; omega⟩
        clear h0
        go_wp2_with (first
          | (go_at_call 18; refine (puts_any w.heap.size w.heap.size _ _ 64 _ hxk.out.1 (by decide) hn64.out (by decide) (by omega) hsz HI.out).mono ?_; rintro e w1 ⟨rfl, h1, b1⟩; have HI1 := Aside0.mk h1; have HB1 := Aside0.mk (HB.out.trans b1); clear h1 b1 HB HI))
        go_roundw
        case rel => exact ⟨k + 1, by omega, by go_num, ⟨by rw [HE.out]; exact HI1.out⟩, HB1⟩
        case measure => simp [intOf]; omega
      · obtain ⟨m, hm⟩ : ∃ m, k = m + 1 := ⟨k - 1, by omega⟩
        have hml : m < l.length := by omega
        obtain ⟨ad', e', hcell2⟩ := cellAt (Kd.C_below HR.out HB.out) m hml
        injection e' with e'
        subst e'
        have hm2 : (k : Int) - 1 = (m : Int) := by omega
        have hk0 : ((k : Int) == 0) = false := by simp; omega
        have hxj := HX.out _ (List.getElem_mem hml)
        obtain ⟨q1, q2, q3⟩ := xor_nat _ _ hxk.out hxj
        have HE : Aside0 (encL (nat (l.take (k + 1))) = encL (nat (l.take k)) ++ encD (Go.bits .xor .u64 l[k] l[m]).toNat) := ⟨by
          subst hm; rw [q3]; exact encL_take l m hlt⟩
        have Q2 := Aside0.mk q2
        clear q3 q2 hxj hm h0
        go_wp2_with (first
          | (go_at_call 19; refine (wdiff_any w.heap.size w.heap.size _ _ _ q1 Q2.out (by omega) hsz HI.out).mono ?_; rintro e w1 ⟨rfl, h1, b1⟩; have HI1 := Aside0.mk h1; have HB1 := Aside0.mk (HB.out.trans b1); clear h1 b1 HB HI))
        go_roundw
        case rel => exact ⟨k + 1, by omega, by go_num, ⟨by rw [HE.out]; exact HI1.out⟩, HB1⟩
        case measure => simp [intOf]; omega
    · obtain rfl : k = l.length := by omega
      rw [List.take_length] at HI
      have hS := fun w' (h : IsW 50 w.heap.size w.heap.size (encL (nat l)) w') => wstring_any _ _ _ _ w' h
      go_wp2_with (go_at_call 16; refine (hS _ HI.out).mono ?_; rintro e w1 ⟨rfl, hw1⟩; subst w1)
      go_ret2
      exact ⟨rfl, HB.out⟩
end Go.Proofs.Ytodhnmflabehhaa
