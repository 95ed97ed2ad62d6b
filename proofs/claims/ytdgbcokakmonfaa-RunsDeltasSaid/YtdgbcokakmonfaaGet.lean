import Derived.Test.YtdgbcokakmonfaaVar
namespace Go.Proofs.Ytdgbcokakmonfaa
open Go.RowKit Go.Proofs.YtdgbcokakmonfaaW.PrintWords Go.Proofs.YtdgbcokakmonfaaW.PrintLast Go.Proofs.YtdgbcokakmonfaaW.PrintMore Hy
open PRunsDeltas

theorem get_ok (s : ByteArray) (at_ : Int) (v m : Nat) (w : World) (h0 : 0 ≤ at_) (h1 : at_ ≤ s.size) (hs : s.size ≤ 140737488351232)
   (h : dec 0 ((bs s).drop at_.toNat) = .inr (v, m)) :
    Calls Try.prog 25 #[.string s, .int .i64 at_] w fun e w' => e = .returned (.tuple #[.int .u64 v, .int .i64 (at_ + m), .nilIface]) ∧ Below w.heap.size w w' := by
  have hm : m ≤ 10 := by
    have hok : okB ((bs s).drop at_.toNat) := fun x hx => bs_ok s x (List.mem_of_mem_drop hx)
    have := dec_some _ 0 v m hok (by omega) h
    omega
  have H : Aside0 (varint_read.f 30 (s.extract at_.toNat s.size) = some ((v : Int), (m : Int), none)) := ⟨by
    rw [read_f, bs_extract, List.take_of_length_le (by rw [bs_length]; omega), h]⟩
  clear h
  go_enter Try.func25, Try.ntmps25
  go_wp2_with (go_at_call 28; refine (varint_read.calls 30 _ _ _ none _ H.out).mono ?_; rintro e w1 ⟨rfl, hb⟩; simp only [errW_none])
  go_ret3
  exact ⟨rfl, hb⟩
theorem get_put (s : ByteArray) (at_ : Int) (n : Int) (rest : List Nat) (w : World) (h0 : 0 ≤ at_) (h1 : at_ ≤ s.size) (hs : s.size ≤ 140737488351232) (hn0 : 0 ≤ n) (hn1 : n < 18446744073709551616)
   (h : (bs s).drop at_.toNat = putL n.toNat ++ rest) :
    Calls Try.prog 25 #[.string s, .int .i64 at_] w fun e w' => e = .returned (.tuple #[.int .u64 n, .int .i64 (at_ + ((put n).size : Int)), .nilIface]) ∧ Below w.heap.size w w' := by
  have := get_ok s at_ n.toNat (putL n.toNat).length w h0 h1 hs (by rw [h]; exact dec_put _ (by omega) _)
  rw [Int.toNat_of_nonneg hn0, ← put_size] at this
  exact this
theorem get_err (s : ByteArray) (at_ : Int) (c : Nat) (w : World) (h0 : 0 ≤ at_) (h1 : at_ ≤ s.size) (hs : s.size ≤ 140737488351232)
   (h : dec 0 ((bs s).drop at_.toNat) = .inl c) :
    Calls Try.prog 25 #[.string s, .int .i64 at_] w fun e w' => ∃ u, e = .returned (.tuple #[.int .u64 0, .int .i64 0, u]) ∧ IsE w' (.at_ at_ (.code c)) u ∧ Below w.heap.size w w' := by
  have H : Aside0 (varint_read.f 30 (s.extract at_.toNat s.size) = some (0, 0, some (c : Int))) := ⟨by
    rw [read_f, bs_extract, List.take_of_length_le (by rw [bs_length]; omega), h]⟩
  clear h
  go_enter Try.func25, Try.ntmps25
  go_wp2_with (first | (go_at_call 28; refine (varint_read.calls 30 _ _ _ (some (c : Int)) _ H.out).mono ?_; rintro e w1 ⟨rfl, hb⟩; simp only [errW_some]) | (go_at_call 19; refine (at_any _ _ _ ⟨_, _, rfl⟩).mono ?_; rintro e w2 ⟨rfl, rfl⟩))
  go_ret3
  exact ⟨_, rfl, IsE.new rfl, below_alloc hb _⟩
theorem get_range (s : ByteArray) (at_ : Int) (w : World) (h : at_ < 0 ∨ s.size < at_) :
    Calls Try.prog 25 #[.string s, .int .i64 at_] w fun e w' => ∃ u, e = .returned (.tuple #[.int .u64 0, .int .i64 0, u]) ∧ IsE w' (.at_ at_ (.code 9)) u ∧ Below w.heap.size w w' := by
  by_cases h0 : at_ < 0
  · clear h
    go_enter Try.func25, Try.ntmps25
    go_wp2_with (go_at_call 19; refine (at_any _ _ _ ⟨_, _, rfl⟩).mono ?_; rintro e w2 ⟨rfl, rfl⟩)
    go_ret3
    exact ⟨_, rfl, IsE.new rfl, below_alloc (Below.refl _ _) _⟩
  · have h1 : (s.size : Int) < at_ := by omega
    clear h
    go_enter Try.func25, Try.ntmps25
    go_wp2_with (go_at_call 19; refine (at_any _ _ _ ⟨_, _, rfl⟩).mono ?_; rintro e w2 ⟨rfl, rfl⟩)
    go_ret3
    exact ⟨_, rfl, IsE.new rfl, below_alloc (Below.refl _ _) _⟩
end Go.Proofs.Ytdgbcokakmonfaa
