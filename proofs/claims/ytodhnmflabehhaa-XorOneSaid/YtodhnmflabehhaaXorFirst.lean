import Derived.Test.YtodhnmflabehhaaXorGet
namespace Go.Proofs.Ytodhnmflabehhaa
open Go.RowKit Go.Proofs.YtodhnmflabehhaaW.PrintWords Go.Proofs.YtodhnmflabehhaaW.PrintLast Go.Proofs.YtodhnmflabehhaaW.PrintMore Hy

theorem col_uniq {s : ByteArray} {n : Nat} {l m : List Nat} (h : ColX s n l) (h' : ColX s n m) : l = m := by
  obtain ⟨h1, h2, k, hk, e⟩ := h
  obtain ⟨h1', h2', k', hk', e'⟩ := h'
  rw [e] at e'
  obtain ⟨t, rfl, _, _⟩ := encL_inj l m _ _ h2 h2' (by omega) e'
  obtain rfl : t = [] := List.eq_nil_of_length_eq_zero (by rw [List.length_append] at h1'; omega)
  rw [List.append_nil]
theorem nat_inj : ∀ {l m : List Int}, (∀ x ∈ l, 0 ≤ x) → (∀ x ∈ m, 0 ≤ x) → nat l = nat m → l = m := by
  intro l
  induction l with
  | nil => intro m _ _ h; cases m with | nil => rfl | cons y m => simp [nat] at h
  | cons x l ih =>
    intro m h1 h2 h
    cases m with
    | nil => simp [nat] at h
    | cons y m =>
      simp only [nat, List.map_cons, List.cons.injEq] at h
      have := h1 x (by simp)
      have := h2 y (by simp)
      rw [ih (fun z hz => h1 z (by simp [hz])) (fun z hz => h2 z (by simp [hz])) h.2, show x = y by omega]
theorem xorGet_ok (s : ByteArray) (count : Int) (l : List Int) (w : World) (hs : s.size ≤ 140737488351232) (h0 : 0 ≤ count) (h1 : count ≤ 20000) (hx : ∀ x ∈ l, 0 ≤ x ∧ x < 18446744073709551616) (h : ColX s count.toNat (nat l)) :
    Calls Try.prog 11 #[.string s, .int .i64 count] w fun e w' => ∃ A c, e = .returned (.tuple #[.slice A l.length c, .nilIface]) ∧ Kd.C (Kd.int .u64) w' A l.length l ∧ l.length ≤ c ∧ Below w.heap.size w w' := by
  refine (xorGet_any s count w hs h0 h1).mono ?_
  rintro e w' (⟨m, A, c, rfl, hm, hu, hC, hc, hb⟩ | ⟨hno, _⟩)
  · obtain rfl : l = m := nat_inj (fun x hx' => (hx x hx').1) (fun x hx' => (hu x hx').1) (col_uniq h hm)
    exact ⟨A, c, rfl, hC, hc, hb⟩
  · exact absurd h (hno _)
theorem xorGet_no (s : ByteArray) (count : Int) (w : World) (hs : s.size ≤ 140737488351232) (h0 : 0 ≤ count) (h1 : count ≤ 20000) (h : ∀ m, ¬ ColX s count.toNat m) :
    Calls Try.prog 11 #[.string s, .int .i64 count] w fun e w' => ∃ T x, e = .returned (.tuple #[.slice none 0 0, .iface T x]) ∧ Below w.heap.size w w' := by
  refine (xorGet_any s count w hs h0 h1).mono ?_
  rintro e w' (⟨m, A, c, rfl, hm, hu, hC, hc, hb⟩ | ⟨_, T, x, he, hb⟩)
  · exact absurd hm (h _)
  · exact ⟨T, x, he, hb⟩
theorem colFirst : ColX ⟨#[0, 0, 0, 0, 0, 0, 0, 5, 0]⟩ 2 [5, 5] := by
  refine ⟨rfl, by intro x hx; simp at hx; omega, 7, by omega, ?_⟩
  have : encL [5, 5] = bitsOf 5 64 ++ [false] := by simp [encL, encT, encD]
  rw [this]
  decide +kernel
theorem u64First : ∀ x ∈ ([5, 5] : List Int), 0 ≤ x ∧ x < 18446744073709551616 := by intro x hx; simp at hx; omega
theorem xorPut_first (W : World) : Calls Try.prog 10 #[.slice (some ⟨W.heap.size, 0, none⟩) 2 2] (W.alloc (.cells #[.int .u64 5, .int .u64 5] 22)) fun e w' => e = .returned (.tuple #[.string ⟨#[0, 0, 0, 0, 0, 0, 0, 5, 0]⟩, .nilIface]) ∧ Below (W.alloc (.cells #[.int .u64 5, .int .u64 5] 22)).heap.size (W.alloc (.cells #[.int .u64 5, .int .u64 5] 22)) w' := by
  have h := xorPut_ok (some ⟨W.heap.size, 0, none⟩) 2 [5, 5] (W.alloc (.cells (nums .u64 [5, 5]).toArray 22)) (C_lit W .u64 [5, 5] _ (by decide)) (by decide) (by decide) u64First
  rw [show nat [5, 5] = [5, 5] from rfl, col_text _ _ _ colFirst] at h
  exact h
theorem xorGet_first (w : World) : Calls Try.prog 11 #[.string ⟨#[0, 0, 0, 0, 0, 0, 0, 5, 0]⟩, .int .i64 2] w fun e w' => ∃ A c, e = .returned (.tuple #[.slice A 2 c, .nilIface]) ∧ Kd.C (Kd.int .u64) w' A 2 [5, 5] ∧ 2 ≤ c ∧ Below w.heap.size w w' :=
  xorGet_ok ⟨#[0, 0, 0, 0, 0, 0, 0, 5, 0]⟩ 2 [5, 5] w (by decide) (by decide) (by decide) u64First colFirst
theorem nums_first (A : Option Addr) (c : Nat) (W : World) (h : Kd.C (Kd.int .u64) W A 2 [5, 5]) (hc : 2 ≤ c) :
    Calls Try.prog 12 #[.slice A 2 c, .slice (some ⟨W.heap.size, 0, none⟩) 2 2] (W.alloc (.cells #[.int .u64 5, .int .u64 5] 22)) fun e w' => e = .returned (.bool true) ∧ Drawn0 (W.alloc (.cells #[.int .u64 5, .int .u64 5] 22)) w' := by
  have h := nums_any A c [5, 5] (some ⟨W.heap.size, 0, none⟩) 2 [5, 5] (W.alloc (.cells (nums .u64 [5, 5]).toArray 22)) (Kd.C_alloc h _) hc (C_lit W .u64 [5, 5] _ (by decide)) (by decide) (by decide)
  exact h
set_option maxHeartbeats 1000000 in
theorem xor_first (w : World) : Calls Try.prog 9 #[] w fun e w' => e = .returned (.bool true) ∧ Below w.heap.size w w' := by
  have HB := Aside0.mk (Below.refl w.heap.size w)
  go_enter Try.func9, Try.ntmps9
  go_wp2_with (first
    | (go_at_call 10; refine (xorPut_first _).mono ?_; rintro e wb ⟨rfl, hb⟩; have HBn : Aside0 (Below w.heap.size w wb) := ⟨below_next (by repeat (first | (with_reducible exact HB.out) | apply below_alloc | apply pw_below_drewN | apply below_drew1)) hb⟩; clear HB hb; have HB := HBn; clear HBn)
    | (go_at_call 11; refine (xorGet_first _).mono ?_; rintro e wb ⟨A, c, rfl, hC, hc, hb⟩; have HBn : Aside0 (Below w.heap.size w wb) := ⟨below_next HB.out hb⟩; clear HB hb; have HB := HBn; clear HBn; have HC := Aside0.mk hC; clear hC)
    | (go_at_call 12; refine (nums_first _ _ _ HC.out hc).mono ?_; rintro e wd ⟨rfl, ⟨nd, rfl⟩⟩))
  go_ret
  exact ⟨rfl, (by repeat (first | (with_reducible exact HB.out) | apply below_alloc | apply pw_below_drewN | apply below_drew1))⟩
end Go.Proofs.Ytodhnmflabehhaa
