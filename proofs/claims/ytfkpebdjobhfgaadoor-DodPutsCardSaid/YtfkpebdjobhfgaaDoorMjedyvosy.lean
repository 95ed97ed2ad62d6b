import Derived.Test.YtfkpebdjobhfgaaDoorMsrebcxpn
import Derived.Test.YtfkpebdjobhfgaaDoorMqyobvjmj
import Derived.Test.YtfkpebdjobhfgaaDoorPDodGetsx
import Derived.Test.YtfkpebdjobhfgaaDoorMngguaahb
import Derived.Test.YtfkpebdjobhfgaaDoorMuwvugjht
import Derived.Test.YtfkpebdjobhfgaaDoorPDodPutsx
namespace Go.Proofs.YtfkpebdjobhfgaaDoor
open Go.RowKit Go.Proofs.YtfkpebdjobhfgaaDoorW.PrintWords Go.Proofs.YtfkpebdjobhfgaaDoorW.PrintLast Go.Proofs.YtfkpebdjobhfgaaDoorW.PrintMore Hy
open PDodGets

/-! ### the document's own -/
theorem rput_l0 : ∀ (j n : Nat) (k : Nat) (acc : List Nat), n < 2 ^ (7 * (j + 1)) → n < 18446744073709551616 → acc.length + j < 1000 → j < k →
    hygref2_Varint.l0 k (n : Int) (acc.map fun (x : Nat) => (x : Int)) = some (st (acc ++ putL n)) := by
  intro j
  induction j with
  | zero =>
    intro n k acc h h64 hl hk
    obtain ⟨k, rfl⟩ : ∃ m, k = m + 1 := ⟨k - 1, by omega⟩
    have hn : n < 128 := by simpa using h
    simp only [hygref2_Varint.l0]
    rw [if_neg (by omega), if_pos (by simp; omega), putL_lo n hn, ← strOfNums_eq, show (n : Int) % 256 = n by omega]
    simp
  | succ j ih =>
    intro n k acc h h64 hl hk
    obtain ⟨k, rfl⟩ : ∃ m, k = m + 1 := ⟨k - 1, by omega⟩
    simp only [hygref2_Varint.l0]
    by_cases hn : n < 128
    · rw [if_neg (by omega), if_pos (by simp; omega), putL_lo n hn, ← strOfNums_eq, show (n : Int) % 256 = n by omega]
      simp
    · have h' : n / 128 < 2 ^ (7 * (j + 1)) := by
        rw [Nat.div_lt_iff_lt_mul (by omega)]
        calc n < _ := h
          _ = _ := by rw [show 7 * (j + 1 + 1) = 7 * (j + 1) + 7 by omega, Nat.pow_add]
      have := ih (n / 128) k (acc ++ [n % 128 + 128]) h' (by omega) (by simp; omega) (by omega)
      rw [if_pos (by omega), if_pos (by simp; omega), putL_hi n hn, and_u64_127 _ (by omega) (by omega), or_u64_128 _ (by omega) (by omega)]
      rw [List.append_assoc] at this
      simp only [List.cons_append, List.nil_append] at this
      rw [← this]
      have e : ((n : Int) / 128) = ((n / 128 : Nat) : Int) := by omega
      have e2 : ((n : Int) % 128 + 128) % 256 = ((n % 128 + 128 : Nat) : Int) := by omega
      rw [e, e2]
      simp
theorem rput_f (n : Int) (h0 : 0 ≤ n) (h1 : n < 18446744073709551616) : hygref2_Varint.f 10 n = some (put n) := by
  obtain ⟨n, rfl⟩ := Int.eq_ofNat_of_zero_le h0
  have := rput_l0 9 n 10 [] (by omega) (by omega) (by simp) (by omega)
  simpa [hygref2_Varint.f, put] using this
theorem rput_any (n : Int) (w : World) (h0 : 0 ≤ n) (h1 : n < 18446744073709551616) :
    Calls Tryd.prog 30 #[.int .u64 n] w fun e w' => e = .returned (.string (put n)) ∧ Below w.heap.size w w' :=
  hygref2_Varint.calls 10 n _ w (rput_f n h0 h1)
theorem rzig_f (m : Int) (h0 : -9223372036854775808 ≤ m) (h1 : m < 9223372036854775808) : hygref2_Zig.f m = some (zig m) := by
  unfold hygref2_Zig.f zig
  by_cases h : m < 0
  · rw [if_pos h, if_pos h]; simp only [wrap_u64, wrap64]; congr 1; omega
  · rw [if_neg h, if_neg h]; simp only [wrap_u64]; congr 1; omega
theorem rzig_any (m : Int) (w : World) (h0 : -9223372036854775808 ≤ m) (h1 : m < 9223372036854775808) :
    Calls Tryd.prog 31 #[.int .i64 m] w fun e w' => e = .returned (.int .u64 (zig m)) ∧ Drawn0 w w' := hygref2_Zig.calls m _ w (rzig_f m h0 h1)
theorem rzag_f (n : Int) (h0 : 0 ≤ n) (h1 : n < 18446744073709551616) : hygref2_Zag.f n = some (zag n) := by
  unfold hygref2_Zag.f zag
  rw [Int.tmod_eq_emod_of_nonneg h0, Int.tdiv_eq_ediv_of_nonneg h0]
  by_cases h : n % 2 = 1
  · rw [if_pos h, if_pos h]; simp only [wrap_u64, wrap64]; congr 1; omega
  · rw [if_neg h, if_neg h]; simp only [wrap_u64, wrap64]; congr 1; omega
theorem rzag_any (n : Int) (w : World) (h0 : 0 ≤ n) (h1 : n < 18446744073709551616) :
    Calls Tryd.prog 33 #[.int .u64 n] w fun e w' => e = .returned (.int .i64 (zag n)) ∧ Drawn0 w w' := hygref2_Zag.calls n _ w (rzag_f n h0 h1)
end Go.Proofs.YtfkpebdjobhfgaaDoor
namespace Go.Proofs.YtfkpebdjobhfgaaDoor
open Go.RowKit Go.Proofs.YtfkpebdjobhfgaaDoorW.PrintWords Go.Proofs.YtfkpebdjobhfgaaDoorW.PrintLast Go.Proofs.YtfkpebdjobhfgaaDoorW.PrintMore Hy
open PDodGets (hygref2_Varint.f hygref2_Zig.f hygref2_Zag.f hygref18_PutDod.l0 hygref18_PutDod.f)

/-! ### the document's own column of times: written -/
theorem rput_k (n : Int) (k : Nat) (h0 : 0 ≤ n) (h1 : n < 18446744073709551616) (hk : 10 ≤ k) : hygref2_Varint.f k n = some (put n) := by
  obtain ⟨n, rfl⟩ := Int.eq_ofNat_of_zero_le h0
  have := rput_l0 9 n k [] (by omega) (by omega) (by simp) (by omega)
  simpa [hygref2_Varint.f, put] using this
theorem guess_take2 (l : List Int) (i : Nat) (h : i + 2 ≤ l.length) : guess (l.take (i + 2)) = (2 * l.getD (i + 1) 0 - l.getD i 0) % 18446744073709551616 := by
  have h1 : l.take (i + 2) = l.take i ++ [l.getD i 0, l.getD (i + 1) 0] := by
    have x0 : l[i] = l.getD i 0 := by simp [List.getD_eq_getElem?_getD, List.getElem?_eq_getElem (show i < l.length by omega)]
    have x1 : l[i + 1] = l.getD (i + 1) 0 := by simp [List.getD_eq_getElem?_getD, List.getElem?_eq_getElem (show i + 1 < l.length by omega)]
    rw [List.take_succ_eq_append_getElem (show i + 1 < l.length by omega), List.take_succ_eq_append_getElem (show i < l.length by omega), List.append_assoc, x0, x1]
    rfl
  rw [h1]
  unfold guess
  rw [List.reverse_append]
  rfl
theorem guess_take1 (l : List Int) (h : 1 ≤ l.length) : guess (l.take 1) = l.getD 0 0 := by
  cases l with
  | nil => simp at h
  | cons a t => rfl
theorem offs_take (l : List Int) (i : Nat) (h : i < l.length) : st (putsL (offs [] (l.take (i + 1)))) = st (putsL (offs [] (l.take i))) ++ put (off (l.take i) (l.getD i 0)) := by
  have hx : l[i] = l.getD i 0 := by simp [List.getD_eq_getElem?_getD, List.getElem?_eq_getElem h]
  rw [List.take_succ_eq_append_getElem h, offs_snoc, putsL_append, st_append, putsL_cons, putsL_nil, List.append_nil, List.nil_append, hx]
  rfl
theorem offs_size (l : List Int) (h : l.length ≤ 20000) : (st (putsL (offs [] l))).size ≤ 200000 := by
  rw [st_size]; have := putsL_len _ (offs_range [] l); rw [offs_length] at this; omega
theorem getD_u64 (l : List Int) (hu : u64s l) (i : Nat) (h : i < l.length) : 0 ≤ l.getD i 0 ∧ l.getD i 0 < 18446744073709551616 := by
  have hx : l.getD i 0 = l[i] := by simp [List.getD_eq_getElem?_getD, List.getElem?_eq_getElem h]
  rw [hx]; exact hu _ (List.getElem_mem h)
theorem dod_diff (x a b : Int) : (x - (2 * a - b) % 18446744073709551616) % 18446744073709551616 = ((x - a) % 18446744073709551616 - (a - b) % 18446744073709551616) % 18446744073709551616 := by omega
theorem pd_0 (l : List Int) (K : Nat) (acc t : ByteArray) (x last step : Int) (hl : 0 < l.length) (hrd : rd l 0 = x) (ht : hygref2_Varint.f K x = some t) (hs : acc.size + t.size ≤ 9223372036854775807) :
    hygref18_PutDod.l0 (K + 1) l acc last step 0 = hygref18_PutDod.l0 K l (acc ++ t) x step 1 := by
  have h1 : (0 : Int) < (l.length : Int) := by omega
  rw [hygref18_PutDod.l0, if_pos h1, if_pos (Int.le_refl 0), if_pos rfl, hrd, ht, Option.bind_some, if_pos hs, if_neg (by decide), show wrap64 (0 + 1) = 1 by unfold wrap64; decide]
theorem pd_1 (l : List Int) (K : Nat) (acc t : ByteArray) (x last step z : Int) (hl : 1 < l.length) (hrd : rd l 1 = x) (hz : hygref2_Zig.f (wrap64 ((x - last) % 18446744073709551616)) = some z) (ht : hygref2_Varint.f K z = some t) (hs : acc.size + t.size ≤ 9223372036854775807) :
    hygref18_PutDod.l0 (K + 1) l acc last step 1 = hygref18_PutDod.l0 K l (acc ++ t) x ((x - last) % 18446744073709551616) 2 := by
  have h1 : (1 : Int) < (l.length : Int) := by omega
  have hw : IntKind.u64.wrap (x - last) = (x - last) % 18446744073709551616 := wrap_u64 _
  rw [hygref18_PutDod.l0, if_pos h1, if_pos (by decide), if_neg (by decide), if_pos rfl, hrd, hw, hz, Option.bind_some, ht, Option.bind_some, if_pos hs, if_pos (by decide), show wrap64 (1 + 1) = 2 by unfold wrap64; decide]
theorem pd_2 (l : List Int) (K i : Nat) (acc t : ByteArray) (x last step z : Int) (hi : 2 ≤ i) (hl : i < l.length) (hl2 : l.length ≤ 20000) (hrd : rd l (i : Int) = x) (hz : hygref2_Zig.f (wrap64 (((x - last) % 18446744073709551616 - step) % 18446744073709551616)) = some z) (ht : hygref2_Varint.f K z = some t) (hs : acc.size + t.size ≤ 9223372036854775807) :
    hygref18_PutDod.l0 (K + 1) l acc last step (i : Int) = hygref18_PutDod.l0 K l (acc ++ t) x ((x - last) % 18446744073709551616) ((i + 1 : Nat) : Int) := by
  have h1 : (i : Int) < (l.length : Int) := by omega
  have h0 : (0 : Int) ≤ (i : Int) := by omega
  have hn0 : ¬ (i : Int) = 0 := by omega
  have hn1 : ¬ (i : Int) = 1 := by omega
  have hg : (i : Int) > 0 := by omega
  have e1 : wrap64 ((i : Int) + 1) = ((i + 1 : Nat) : Int) := by unfold wrap64; omega
  have hw : IntKind.u64.wrap (x - last) = (x - last) % 18446744073709551616 := wrap_u64 _
  have hw2 : IntKind.u64.wrap ((x - last) % 18446744073709551616 - step) = ((x - last) % 18446744073709551616 - step) % 18446744073709551616 := wrap_u64 _
  rw [hygref18_PutDod.l0, if_pos h1, if_pos h0, if_neg hn0, if_neg hn1, hrd, hw, hw2, hz, Option.bind_some, ht, Option.bind_some, if_pos hs, if_pos hg, e1]
theorem put_sz (x : Int) (h : x < 18446744073709551616) : (put x).size ≤ 10 := by rw [put_size]; exact putL_len10 _ (by omega)
theorem off_at0 (l : List Int) (x : Int) (h : 0 ≤ x ∧ x < 18446744073709551616) : off (l.take 0) x = x := by
  unfold off
  rw [if_pos (by simp), show guess (l.take 0) = 0 from rfl]
  omega
theorem off_at1 (l : List Int) (x : Int) (h : 1 ≤ l.length) : off (l.take 1) x = zig (wrap64 ((x - l.getD 0 0) % 18446744073709551616)) := by
  unfold off
  rw [if_neg (by intro e; have := congrArg List.length e; rw [List.length_take, List.length_nil] at this; omega), guess_take1 l h]
theorem off_at2 (l : List Int) (x : Int) (m : Nat) (h : m + 2 ≤ l.length) : off (l.take (m + 2)) x = zig (wrap64 (((x - l.getD (m + 1) 0) % 18446744073709551616 - (l.getD (m + 1) 0 - l.getD m 0) % 18446744073709551616) % 18446744073709551616)) := by
  unfold off
  rw [if_neg (by intro e; have := congrArg List.length e; rw [List.length_take, List.length_nil] at this; omega), guess_take2 l m h, dod_diff]
theorem w64_lo (x : Int) : -9223372036854775808 ≤ wrap64 x := by unfold wrap64; omega
theorem w64_hi (x : Int) : wrap64 x < 9223372036854775808 := by unfold wrap64; omega
theorem acc_sz (l : List Int) (i : Nat) (x : Int) (hl : l.length ≤ 20000) (hx : x < 18446744073709551616) : (st (putsL (offs [] (l.take i)))).size + (put x).size ≤ 9223372036854775807 := by
  have h1 := offs_size (l.take i) (by rw [List.length_take]; omega)
  have h2 := put_sz x hx
  omega
/-- From the third number on. -/
theorem rputdod_l2 (l : List Int) (_hu : u64s l) (hl : l.length ≤ 20000) : ∀ (d m K : Nat), m + 2 + d = l.length → d + 20 ≤ K →
    hygref18_PutDod.l0 K l (st (putsL (offs [] (l.take (m + 2))))) (l.getD (m + 1) 0) ((l.getD (m + 1) 0 - l.getD m 0) % 18446744073709551616) ((m + 2 : Nat) : Int) = some (st (putsL (offs [] l)), 0) := by
  intro d
  induction d with
  | zero =>
    intro m K hi hK
    obtain ⟨K, rfl⟩ : ∃ m, K = m + 1 := ⟨K - 1, by omega⟩
    rw [hygref18_PutDod.l0, if_neg (by omega), List.take_of_length_le (by omega)]
  | succ d ih =>
    intro m K hi hK
    obtain ⟨K, rfl⟩ : ∃ m, K = m + 1 := ⟨K - 1, by omega⟩
    have hor := off_range (l.take (m + 2)) (l.getD (m + 2) 0)
    have hof := off_at2 l (l.getD (m + 2) 0) m (by omega)
    have ht := offs_take l (m + 2) (by omega)
    rw [pd_2 l K (m + 2) _ (put (off (l.take (m + 2)) (l.getD (m + 2) 0))) (l.getD (m + 2) 0) _ _ (off (l.take (m + 2)) (l.getD (m + 2) 0)) (by omega) (by omega) hl (by unfold rd; rw [Int.toNat_natCast]) (by rw [hof]; exact rzig_f _ (w64_lo _) (w64_hi _)) (rput_k _ K hor.1 hor.2 (by clear hor hof ht; omega)) (acc_sz l _ _ hl hor.2), ← ht]
    exact ih (m + 1) K (by clear hor hof ht; omega) (by clear hor hof ht; omega)
theorem rputdod_f (l : List Int) (K : Nat) (hu : u64s l) (hl : l.length ≤ 20000) (hK : l.length + 22 ≤ K) : hygref18_PutDod.f K l = some (st (putsL (offs [] l)), 0) := by
  unfold hygref18_PutDod.f
  rw [if_neg (by omega)]
  obtain ⟨K, rfl⟩ : ∃ m, K = m + 1 := ⟨K - 1, by omega⟩
  by_cases h0 : l.length = 0
  · obtain rfl : l = [] := List.eq_nil_of_length_eq_zero h0
    rw [hygref18_PutDod.l0, if_neg (by simp)]
    rfl
  · have hx0 := getD_u64 l hu 0 (by omega)
    have ht0 := offs_take l 0 (by omega)
    rw [off_at0 l _ hx0, show st (putsL (offs [] (l.take 0))) = (⟨#[]⟩ : ByteArray) from rfl, Nat.zero_add] at ht0
    rw [pd_0 l K _ (put (l.getD 0 0)) (l.getD 0 0) 0 0 (by omega) rfl (rput_k _ K hx0.1 hx0.2 (by clear hx0 ht0; omega)) (by have := put_sz _ hx0.2; show 0 + _ ≤ _; omega), ← ht0]
    obtain ⟨K, rfl⟩ : ∃ m, K = m + 1 := ⟨K - 1, by clear hx0 ht0; omega⟩
    by_cases h1 : l.length = 1
    · rw [hygref18_PutDod.l0, if_neg (by clear hx0 ht0; omega), List.take_of_length_le (by omega)]
    · have hor := off_range (l.take 1) (l.getD 1 0)
      have hof := off_at1 l (l.getD 1 0) (by omega)
      have ht := offs_take l 1 (by omega)
      rw [pd_1 l K _ (put (off (l.take 1) (l.getD 1 0))) (l.getD 1 0) _ _ (off (l.take 1) (l.getD 1 0)) (by omega) rfl (by rw [hof]; exact rzig_f _ (w64_lo _) (w64_hi _)) (rput_k _ K hor.1 hor.2 (by clear hor hof ht hx0 ht0; omega)) (acc_sz l _ _ hl hor.2), ← ht]
      exact rputdod_l2 l hu hl (l.length - 2) 0 K (by clear hor hof ht hx0 ht0; omega) (by clear hor hof ht hx0 ht0; omega)
end Go.Proofs.YtfkpebdjobhfgaaDoor
namespace Go.Proofs.YtfkpebdjobhfgaaDoor
open Go.RowKit Go.Proofs.YtfkpebdjobhfgaaDoorW.PrintWords Go.Proofs.YtfkpebdjobhfgaaDoorW.PrintLast Go.Proofs.YtfkpebdjobhfgaaDoorW.PrintMore Hy

theorem copy_any (A : Option Addr) (c : Nat) (l : List Int) (w : World) (hr : Kd.C (Kd.int .u64) w A l.length l) (hc : l.length ≤ c) (hl : l.length ≤ 1000000) :
    Calls Tryd.prog 15 #[.slice A l.length c] w fun e w' => ∃ A' c', e = .returned (.slice A' l.length c') ∧ Kd.C (Kd.int .u64) w' A' l.length l ∧ l.length ≤ c' ∧ Below w.heap.size w w' := by
  refine (PDodPuts.hygref_CopyNums.calls A c l l w hr hc (by unfold PDodPuts.hygref_CopyNums.f; rw [Option.bind_some, if_pos (by simp; omega), List.nil_append])).mono ?_
  rintro e w' ⟨v, rfl, hR, hb⟩
  obtain ⟨A', c', rfl, h1, h2⟩ := Kd.R_reads hR
  exact ⟨A', c', rfl, h2, h1, hb⟩
theorem rputdod_any (A : Option Addr) (c : Nat) (l : List Int) (w : World) (hr : Kd.C (Kd.int .u64) w A l.length l) (hc : l.length ≤ c) (hl : l.length ≤ 20000) (hu : u64s l) :
    Calls Tryd.prog 17 #[.slice A l.length c] w fun e w' => e = .returned (.tuple #[.string (st (putsL (offs [] l))), .int .i64 0]) ∧ Below w.heap.size w w' :=
  PDodGets.hygref18_PutDod.calls 20022 A c l _ _ w hr hc (rputdod_f l 20022 hu hl (by omega))
theorem codeNil (w : World) (hg : Laid w) : Calls Tryd.prog 11 #[.nilIface] w fun e w' => e = .returned (.int .i64 0) ∧ Below w.heap.size w w' := code_any .nil _ w hg rfl
set_option maxHeartbeats 2000000 in
theorem dodPuts_walk (A : Option Addr) (c : Nat) (l : List Int) (w : World) (hr : Kd.C (Kd.int .u64) w A l.length l) (hc : l.length ≤ c) (_hl : l.length * 8 ≤ 140737488351232) (hx : ∀ x ∈ l, 0 ≤ x ∧ x < 18446744073709551616) (hg : Laid w) :
    Calls Tryd.prog 5 #[.slice A l.length c] w fun e w' => e = .returned (.bool true) ∧ Below w.heap.size w w' := by
  have HB := Aside0.mk (Below.refl w.heap.size w)
  have HR := Aside0.mk hr
  have HX := Aside0.mk hx
  have HC := Aside0.mk hc
  have HG := Aside0.mk hg
  clear hr hc _hl hx hg
  by_cases hlen : 2000 < l.length
  · go_enter Tryd.func5, Tryd.ntmps5
    go_wp2_with (first
      | (go_at_call 14; refine (dod_first _).mono ?_; rintro e wb ⟨rfl, hb⟩; have HBn : Aside0 (Below w.heap.size w wb) := ⟨below_next (by repeat (first | (with_reducible exact HB.out) | apply below_alloc | apply pw_below_drewN | apply below_drew1)) hb⟩; clear HB hb; have HB := HBn; clear HBn))
    go_ret
    exact ⟨rfl, (by repeat (first | (with_reducible exact HB.out) | apply below_alloc | apply pw_below_drewN | apply below_drew1))⟩
  · go_enter Tryd.func5, Tryd.ntmps5
    go_wp2_with (first
      | (go_at_call 14; refine (dod_first _).mono ?_; rintro e wb ⟨rfl, hb⟩; have HBn : Aside0 (Below w.heap.size w wb) := ⟨below_next (by repeat (first | (with_reducible exact HB.out) | apply below_alloc | apply pw_below_drewN | apply below_drew1)) hb⟩; clear HB hb; have HB := HBn; clear HBn))
    refine (copy_any A c l _ (Kd.C_below HR.out (by repeat (first | (with_reducible exact HB.out) | apply below_alloc | apply pw_below_drewN | apply below_drew1))) HC.out (by omega)).mono ?_
    rintro e wc ⟨A2, c2, rfl, hC2, hc2, hb⟩
    have HC2 := Aside0.mk hC2
    have HBn : Aside0 (Below w.heap.size w wc) := ⟨below_next HB.out hb⟩
    clear HB hb hC2
    have HB := HBn
    clear HBn
    have HC3 := Aside0.mk hc2
    clear hc2
    go_wp2_with (first
      | (go_at_call 16; refine (dodPut_ok A2 c2 l _ HC2.out HC3.out (by omega) HX.out).mono ?_; rintro e wb ⟨rfl, hb⟩; have HC4 := Aside0.mk (Kd.C_below HC2.out hb); have HBn : Aside0 (Below w.heap.size w wb) := ⟨below_next (by repeat (first | (with_reducible exact HB.out) | apply below_alloc | apply pw_below_drewN | apply below_drew1)) hb⟩; clear HB hb; have HB := HBn; clear HBn)
      | (go_at_call 17; refine (rputdod_any A c l _ (Kd.C_below HR.out (by repeat (first | (with_reducible exact HB.out) | apply below_alloc | apply pw_below_drewN | apply below_drew1))) HC.out (by omega) HX.out).mono ?_; rintro e wb ⟨rfl, hb⟩; have HC5 := Aside0.mk (Kd.C_below HC4.out hb); have HBn : Aside0 (Below w.heap.size w wb) := ⟨below_next (by repeat (first | (with_reducible exact HB.out) | apply below_alloc | apply pw_below_drewN | apply below_drew1)) hb⟩; clear HB hb; have HB := HBn; clear HBn)
      | (go_at_call 14; refine (dod_first _).mono ?_; rintro e wb ⟨rfl, hb⟩; have HC6 := Aside0.mk (Kd.C_below HC5.out hb); have HBn : Aside0 (Below w.heap.size w wb) := ⟨below_next (by repeat (first | (with_reducible exact HB.out) | apply below_alloc | apply pw_below_drewN | apply below_drew1)) hb⟩; clear HB hb; have HB := HBn; clear HBn)
      | (go_at_call 11; refine (codeNil _ (HG.out.below (by repeat (first | (with_reducible exact HB.out) | apply below_alloc | apply pw_below_drewN | apply below_drew1)))).mono ?_; rintro e wb ⟨rfl, hb⟩; have HC7 := Aside0.mk (Kd.C_below HC6.out hb); have HBn : Aside0 (Below w.heap.size w wb) := ⟨below_next (by repeat (first | (with_reducible exact HB.out) | apply below_alloc | apply pw_below_drewN | apply below_drew1)) hb⟩; clear HB hb; have HB := HBn; clear HBn))
    have HN := fun w' (h1 : Kd.C (Kd.int .u64) w' A2 l.length l) (h2 : Kd.C (Kd.int .u64) w' A l.length l) => nums_any A2 c2 l A c l w' h1 HC3.out h2 HC.out (by omega)
    rw [decide_eq_true rfl] at HN
    go_wp2_with (first
      | (go_at_call 18; refine (HN _ HC7.out (Kd.C_below HR.out (by repeat (first | (with_reducible exact HB.out) | apply below_alloc | apply pw_below_drewN | apply below_drew1)))).mono ?_; rintro e wd ⟨rfl, ⟨nd, rfl⟩⟩))
    go_ret
    exact ⟨rfl, (by repeat (first | (with_reducible exact HB.out) | apply below_alloc | apply pw_below_drewN | apply below_drew1))⟩
end Go.Proofs.YtfkpebdjobhfgaaDoor
