import Derived.Test.YtklkiofhenhafaaDoorMgjymbcst
import Derived.Test.YtklkiofhenhafaaDoorMmkmgwejl
import Derived.Test.YtklkiofhenhafaaDoorMwddneeel
import Derived.Test.YtklkiofhenhafaaDoorMusxpdaii
namespace Go.Proofs.YtklkiofhenhafaaDoor
open Go.RowKit Go.Proofs.YtklkiofhenhafaaDoorW.PrintWords Go.Proofs.YtklkiofhenhafaaDoorW.PrintLast Go.Proofs.YtklkiofhenhafaaDoorW.PrintMore Hy

theorem gv_range (s : ByteArray) (a : Int) (w : World) (h : a < 0 ∨ (s.size : Int) < a) :
    Calls Tryd.prog 30 #[.string s, .int .i64 a] w fun e w' => e = .returned (.tuple #[.int .u64 0, .int .i64 0, .int .i64 9]) ∧ Drawn0 w w' :=
  CWire.hygref2_GetVarint.calls 30 s a 0 0 9 w (rgetv_range s a h)
theorem rnext_range (s : ByteArray) (a dp : Int) (w : World) (h : a < 0 ∨ (s.size : Int) < a) :
    Calls Tryd.prog 8 #[.string s, .int .i64 a, .int .i64 dp] w (NoR w) :=
  rnext_dec w s a dp 9 (by omega) (fun w => gv_range s a w h)
set_option maxHeartbeats 1000000 in
theorem wireReads_walk (s : ByteArray) (a dp : Int) (w : World) (_hs : s.size ≤ 140737488351232) (_ha0 : -9223372036854775808 ≤ a) (_ha1 : a < 9223372036854775808) (hdp0 : -9223372036854775808 ≤ dp) (hdp1 : dp < 9223372036854775808) (hg : Laid w) :
    Calls Tryd.prog 3 #[.string s, .int .i64 a, .int .i64 dp] w fun e w' => e = .returned (.bool true) ∧ Below w.heap.size w w' := by
  by_cases hbig : 4000 < s.size
  · have HB := Aside0.mk (Below.refl w.heap.size w)
    clear hg
    go_enter Tryd.func3, Tryd.ntmps3
    go_wp2_with (first
      | (go_at_call 6; refine (wire_first _).mono ?_; rintro e wb ⟨rfl, hb⟩; have HBn : Aside0 (Below w.heap.size w wb) := ⟨below_next (by repeat (first | (with_reducible exact HB.out) | apply below_alloc | apply pw_below_drewN | apply below_drew1)) hb⟩; clear HB hb; have HB := HBn; clear HBn))
    go_ret
    exact ⟨rfl, (by repeat (first | (with_reducible exact HB.out) | apply below_alloc | apply pw_below_drewN | apply below_drew1))⟩
  · have hs : s.size ≤ 4000 := by omega
    by_cases h0 : a < 0
    · exact wreads_neg s ByteArray.empty ByteArray.empty a dp 0 0 0 0 w hs hdp0 hdp1 hg h0
        (fun w => (wnext_range w s a 0 dp (by omega) (.inl ⟨h0, rfl⟩)).mono (fun e w' ⟨T, v, he, hu, hb⟩ => ⟨T, v, _, he, hu, ⟨0, rfl⟩, hb⟩))
        (fun w => (rnext_range s a dp w (.inl h0)))
    · by_cases h1 : (s.size : Int) < a
      · exact wreads_far s ByteArray.empty ByteArray.empty a dp 0 0 0 0 w hs hdp0 hdp1 hg h1
          (fun w => (wnext_range w s a s.size dp (by omega) (.inr ⟨h1, rfl⟩)).mono (fun e w' ⟨T, v, he, hu, hb⟩ => ⟨T, v, _, he, hu, ⟨_, rfl⟩, hb⟩))
          (fun w => (rnext_range s a dp w (.inr h1)))
      · obtain ⟨b, rfl⟩ : ∃ b : Nat, a = (b : Int) := ⟨a.toNat, by omega⟩
        have hb : b ≤ s.size := by omega
        have N := fun w => rnext_at s (by omega) _ b dp rfl hb hdp1 w
        cases hr : recL dp.toNat ((bs s).drop b) with
        | some q =>
          obtain ⟨R, k⟩ := q
          have hle := recL_le hr
          rw [List.length_drop, bs_length] at hle
          have hraw : st R.raw = s.extract b (b + k) := by
            rw [hle.2.2.1]
            apply bs_inj
            rw [bs_st _ (okB_take (okB_drop (bs_ok s) _) _), bs_extract, List.drop_take]
            congr 1
            omega
          exact wreads_ok s (st R.raw) (st R.s) b dp ((b + k : Nat) : Int) R.num R.type R.n w hs hdp0 hdp1 hg (by omega) (by omega)
            (fun w => by
              have h := wnext_ok w s b (b + k) R.num R.type dp R.n (st R.s) hb (by omega) (by omega) (fun W r hW => by
                have := record_ok s (by omega) W r b k R dp hW hb hdp0 hdp1 hr
                rw [hraw] at this
                exact this)
              rw [hraw]
              exact h)
            (fun w => (N w).1 R k hr)
        | none =>
          exact wreads_bad s ByteArray.empty ByteArray.empty b dp 0 0 0 0 w hs hdp0 hdp1 hg (by omega) (by omega)
            (fun w => (wnext_bad w s b dp hb (by omega) (fun W r hW => record_bad s (by omega) W r b dp hW hb hdp0 hdp1 hr)).mono (fun e w' ⟨T, v, E, he, hu, hE, hb⟩ => ⟨T, v, E, he, hu, hE, hb⟩))
            (fun w => (N w).2 hr)
end Go.Proofs.YtklkiofhenhafaaDoor
