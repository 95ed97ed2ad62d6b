import Derived.Test.YtodhnmflabehhaaXorFirst
namespace Go.Proofs.Ytodhnmflabehhaa
open Go.RowKit Go.Proofs.YtodhnmflabehhaaW.PrintWords Go.Proofs.YtodhnmflabehhaaW.PrintLast Go.Proofs.YtodhnmflabehhaaW.PrintMore Hy

set_option maxHeartbeats 2000000 in
theorem xorBack_walk (A : Option Addr) (c : Nat) (l : List Int) (less x : Int) (w : World) (hr : Kd.C (Kd.int .u64) w A l.length l) (hc : l.length ≤ c) (hl : l.length * 8 ≤ 140737488351232) (hx : ∀ x ∈ l, 0 ≤ x ∧ x < 18446744073709551616)
    (hm0 : -9223372036854775808 ≤ less) (hm1 : less < 9223372036854775808) (hk0 : 0 ≤ x) (hk1 : x < 256) :
    Calls Try.prog 4 #[.slice A l.length c, .int .i64 less, .int .u8 x] w fun e w' => e = .returned (.bool true) ∧ Below w.heap.size w w' := by
  have HB := Aside0.mk (Below.refl w.heap.size w)
  have HR := Aside0.mk hr
  have HX := Aside0.mk hx
  have HC := Aside0.mk hc
  clear hr hc hl hx
  by_cases hg : 2000 < l.length ∨ less < 1
  · by_cases hlen : 2000 < l.length
    all_goals
      go_enter Try.func4, Try.ntmps4
      go_wp2_with (first
        | (go_at_call 9; refine (xor_first _).mono ?_; rintro e wb ⟨rfl, hb⟩; have HBn : Aside0 (Below w.heap.size w wb) := ⟨below_next (by repeat (first | (with_reducible exact HB.out) | apply below_alloc | apply pw_below_drewN | apply below_drew1)) hb⟩; clear HB hb; have HB := HBn; clear HBn))
      go_ret
      exact ⟨rfl, (by repeat (first | (with_reducible exact HB.out) | apply below_alloc | apply pw_below_drewN | apply below_drew1))⟩
  · have hlen : l.length ≤ 2000 := by omega
    have hless : 1 ≤ less := by omega
    have HU := Aside0.mk (nat_u64 l HX.out)
    have HK : Aside0 (ColX (colT (nat l)) l.length (nat l)) := ⟨by have := col_back (nat l) HU.out; rw [nat_length] at this; exact this⟩
    have hszT : (colT (nat l)).size ≤ 20000 := by rw [colT_size]; have := encL_len (nat l); rw [nat_length] at this; omega
    clear hg
    go_enter Try.func4, Try.ntmps4
    go_wp2_with (first
      | (go_at_call 9; refine (xor_first _).mono ?_; rintro e wb ⟨rfl, hb⟩; have HBn : Aside0 (Below w.heap.size w wb) := ⟨below_next (by repeat (first | (with_reducible exact HB.out) | apply below_alloc | apply pw_below_drewN | apply below_drew1)) hb⟩; clear HB hb; have HB := HBn; clear HBn)
      | (go_at_call 10; refine (xorPut_ok A c l _ (Kd.C_below HR.out (by repeat (first | (with_reducible exact HB.out) | apply below_alloc | apply pw_below_drewN | apply below_drew1))) HC.out (by omega) HX.out).mono ?_; rintro e wb ⟨rfl, hb⟩; have HBn : Aside0 (Below w.heap.size w wb) := ⟨below_next (by repeat (first | (with_reducible exact HB.out) | apply below_alloc | apply pw_below_drewN | apply below_drew1)) hb⟩; clear HB hb; have HB := HBn; clear HBn))
    refine (xorGet_ok _ _ l _ (by omega) (by omega) (by omega) HX.out (by rw [Int.toNat_natCast]; exact HK.out)).mono ?_
    rintro e wb ⟨A2, c2, rfl, hC2, hc2, hb⟩
    have HBn : Aside0 (Below w.heap.size w wb) := ⟨below_next HB.out hb⟩
    clear HB hb
    have HB := HBn
    clear HBn
    have HC2 := Aside0.mk hC2
    have HN : ∀ n, Calls Try.prog 12 #[.slice A l.length c, .slice A2 l.length c2] (wb.drewN n) fun e w' => e = .returned (.bool true) ∧ Drawn0 (wb.drewN n) w' := by
      intro n
      have := nums_any A c l A2 c2 l (wb.drewN n) (Kd.C_drewN (Kd.C_below HR.out HB.out) n) HC.out (Kd.C_drewN HC2.out n) hc2 (by omega)
      simpa using this
    have hcv := conv_byte x
    have hsz1 : (st [x.toNat]).size = 1 := rfl
    have HZ1 := Aside0.mk hsz1
    have hsz2 : (colT (nat l)).size + (st [x.toNat]).size ≤ 9223372036854775807 := by omega
    clear hC2 hc2 hsz1
    go_wp2_with (first
      | (go_at_call 12; refine (HN _).mono ?_; rintro e wd ⟨rfl, ⟨nd, rfl⟩⟩)
      | (go_at_call 12; refine (HN 0).mono ?_; rintro e wd ⟨rfl, ⟨nd, rfl⟩⟩))
    clear hcv
    refine (xorGet_no _ _ _ (by rw [ByteArray.size_append, HZ1.out]; omega) (by omega) (by omega) ?_).mono ?_
    · intro m
      rw [Int.toNat_natCast, ← nat_length l]
      exact col_more (nat l) HU.out x.toNat m
    rintro e wc ⟨T, y, rfl, hb⟩
    have HBn : Aside0 (Below w.heap.size w wc) := ⟨below_next (by repeat (first | (with_reducible exact HB.out) | apply below_alloc | apply pw_below_drewN | apply below_drew1)) hb⟩
    clear HB hb
    have HB := HBn
    clear HBn
    go_wp2_with fail
    refine (xorGet_no _ _ _ (by omega) (by omega) (by omega) ?_).mono ?_
    · intro m
      rw [show ((l.length : Int) + 8).toNat = l.length + 8 by omega]
      exact col_count (nat l) HU.out _ (by rw [nat_length]; omega) m
    rintro e wd ⟨Td, yd, rfl, hb⟩
    have HBn : Aside0 (Below w.heap.size w wd) := ⟨below_next (by repeat (first | (with_reducible exact HB.out) | apply below_alloc | apply pw_below_drewN | apply below_drew1)) hb⟩
    clear HB hb
    have HB := HBn
    clear HBn
    by_cases hz : l = []
    · have hst : (colT (nat l)).size = 0 := by rw [hz, colT_size]; rfl
      have hl0 : l.length = 0 := by rw [hz]; rfl
      clear hz
      go_wp2_with (first
        | (go_at_call 9; refine (xor_first _).mono ?_; rintro e wb ⟨rfl, hb⟩; have HBn : Aside0 (Below w.heap.size w wb) := ⟨below_next (by repeat (first | (with_reducible exact HB.out) | apply below_alloc | apply pw_below_drewN | apply below_drew1)) hb⟩; clear HB hb; have HB := HBn; clear HBn))
      go_ret
      exact ⟨rfl, (by repeat (first | (with_reducible exact HB.out) | apply below_alloc | apply pw_below_drewN | apply below_drew1))⟩
    · have hne : nat l ≠ [] := by intro e; exact hz (by simpa [nat] using e)
      have hst : 0 < (colT (nat l)).size := by rw [colT_size]; have := encL_pos _ hne; omega
      have HNE := Aside0.mk hne
      clear hz hne
      go_wp2_with fail
      refine (xorGet_no _ _ _ (by rw [ByteArray.size_extract]; omega) (by omega) (by omega) ?_).mono ?_
      · intro m
        rw [Int.toNat_natCast, ← nat_length l]
        exact col_cut (nat l) HU.out HNE.out m
      rintro e we ⟨Te, ye, rfl, hb⟩
      have HBn : Aside0 (Below w.heap.size w we) := ⟨below_next (by repeat (first | (with_reducible exact HB.out) | apply below_alloc | apply pw_below_drewN | apply below_drew1)) hb⟩
      clear HB hb
      have HB := HBn
      clear HBn
      go_wp2_with (first
        | (go_at_call 9; refine (xor_first _).mono ?_; rintro e wb ⟨rfl, hb⟩; have HBn : Aside0 (Below w.heap.size w wb) := ⟨below_next (by repeat (first | (with_reducible exact HB.out) | apply below_alloc | apply pw_below_drewN | apply below_drew1)) hb⟩; clear HB hb; have HB := HBn; clear HBn))
      go_ret
      exact ⟨rfl, (by repeat (first | (with_reducible exact HB.out) | apply below_alloc | apply pw_below_drewN | apply below_drew1))⟩
end Go.Proofs.Ytodhnmflabehhaa
