import Derived.Test.YtdgbcokakmonfaaDoorMueusuvpf
import Derived.Test.YtdgbcokakmonfaaDoorMkeuqxzzv
import Derived.Test.YtdgbcokakmonfaaDoorPRunsPutsx
import Derived.Test.YtdgbcokakmonfaaDoorMfhnydibo
import Derived.Test.YtdgbcokakmonfaaDoorMisltvmnq
namespace Go.Proofs.YtdgbcokakmonfaaDoor
open Go.RowKit Go.Proofs.YtdgbcokakmonfaaDoorW.PrintWords Go.Proofs.YtdgbcokakmonfaaDoorW.PrintLast Go.Proofs.YtdgbcokakmonfaaDoorW.PrintMore Hy
open PRunsPuts (hygref2_Varint.f hygref2_Varint.l0 hygref18_PutRuns.l0 hygref18_PutRuns.l1 hygref18_PutRuns.f)

/-! ### the document's own column of runs: written -/
theorem rput_l0 : ∀ (j n : Nat) (k : Nat) (acc : List Nat), n < 2 ^ (7 * (j + 1)) → n < 18446744073709551616 → acc.length + j < 1000 → j < k →
    hygref2_Varint.l0 k (n : Int) (acc.map fun (x : Nat) => (x : Int)) = some (st (acc ++ putL n)) := by
  intro j
  induction j with
  | zero =>
    intro n k acc h h64 hl hk
    obtain ⟨k, rfl⟩ : ∃ m, k = m + 1 := ⟨k - 1, by omega⟩
    have hn : n < 128 := by simpa using h
    simp only [hygref2_Varint.l0]
    rw [if_neg (by omega), if_pos (by simp; omega), putL_lo n hn, ← strOfNums_eq, show (n : Int) % 256 = n by omega]
    simp
  | succ j ih =>
    intro n k acc h h64 hl hk
    obtain ⟨k, rfl⟩ : ∃ m, k = m + 1 := ⟨k - 1, by omega⟩
    simp only [hygref2_Varint.l0]
    by_cases hn : n < 128
    · rw [if_neg (by omega), if_pos (by simp; omega), putL_lo n hn, ← strOfNums_eq, show (n : Int) % 256 = n by omega]
      simp
    · have h' : n / 128 < 2 ^ (7 * (j + 1)) := by
        rw [Nat.div_lt_iff_lt_mul (by omega)]
        calc n < _ := h
          _ = _ := by rw [show 7 * (j + 1 + 1) = 7 * (j + 1) + 7 by omega, Nat.pow_add]
      have := ih (n / 128) k (acc ++ [n % 128 + 128]) h' (by omega) (by simp; omega) (by omega)
      rw [if_pos (by omega), if_pos (by simp; omega), putL_hi n hn, and_u64_127 _ (by omega) (by omega), or_u64_128 _ (by omega) (by omega)]
      rw [List.append_assoc] at this
      simp only [List.cons_append, List.nil_append] at this
      rw [← this]
      have e : ((n : Int) / 128) = ((n / 128 : Nat) : Int) := by omega
      have e2 : ((n : Int) % 128 + 128) % 256 = ((n % 128 + 128 : Nat) : Int) := by omega
      rw [e, e2]
      simp
theorem rput_k (n : Int) (k : Nat) (h0 : 0 ≤ n) (h1 : n < 18446744073709551616) (hk : 10 ≤ k) : hygref2_Varint.f k n = some (put n) := by
  obtain ⟨n, rfl⟩ := Int.eq_ofNat_of_zero_le h0
  have := rput_l0 9 n k [] (by omega) (by omega) (by simp) (by omega)
  simpa [hygref2_Varint.f, put] using this
theorem pr_more (L : List Int) (K i j : Nat) (acc : ByteArray) (hL : L.length ≤ 20000) (hj : i + j < L.length) (he : rd L ((i + j : Nat) : Int) = rd L (i : Int)) :
    hygref18_PutRuns.l1 (K + 1) L acc (i : Int) (j : Int) = hygref18_PutRuns.l1 K L acc (i : Int) ((j + 1 : Nat) : Int) := by
  have e0 : wrap64 ((i : Int) + (j : Int)) = ((i + j : Nat) : Int) := by unfold wrap64; omega
  have e1 : wrap64 ((j : Int) + 1) = ((j + 1 : Nat) : Int) := by unfold wrap64; omega
  have h1 : ((i + j : Nat) : Int) < (L.length : Int) := by omega
  have h2 : (0 : Int) ≤ ((i + j : Nat) : Int) := by omega
  have h3 : (0 : Int) ≤ (i : Int) := by omega
  have h4 : (i : Int) < (L.length : Int) := by omega
  rw [hygref18_PutRuns.l1, e0, if_pos h1, if_pos h2, if_pos h3, if_pos h4, if_pos he, e1]
theorem pr_stop (L : List Int) (K i n : Nat) (acc t u : ByteArray) (x : Int) (hL : L.length ≤ 20000) (hj : i + (n + 1) ≤ L.length) (hx : rd L (i : Int) = x) (he : i + (n + 1) < L.length → rd L ((i + (n + 1) : Nat) : Int) ≠ x)
    (ht : hygref2_Varint.f K x = some t) (hu : hygref2_Varint.f K (n : Int) = some u) (hs1 : t.size + u.size ≤ 9223372036854775807) (hs2 : acc.size + (t ++ u).size ≤ 9223372036854775807) :
    hygref18_PutRuns.l1 (K + 1) L acc (i : Int) ((n + 1 : Nat) : Int) = hygref18_PutRuns.l0 K L (acc ++ (t ++ u)) ((i + (n + 1) : Nat) : Int) := by
  have e0 : wrap64 ((i : Int) + ((n + 1 : Nat) : Int)) = ((i + (n + 1) : Nat) : Int) := by unfold wrap64; omega
  have e1 : IntKind.u64.wrap (wrap64 (((n + 1 : Nat) : Int) - 1)) = (n : Int) := by rw [wrap_u64]; unfold wrap64; omega
  have h3 : (0 : Int) ≤ (i : Int) := by omega
  have h4 : (i : Int) < (L.length : Int) := by omega
  by_cases hlt : i + (n + 1) < L.length
  · have h1 : ((i + (n + 1) : Nat) : Int) < (L.length : Int) := by omega
    have h2 : (0 : Int) ≤ ((i + (n + 1) : Nat) : Int) := by omega
    have hne := he hlt
    rw [hygref18_PutRuns.l1, e0, if_pos h1, if_pos h2, if_pos h3, if_pos h4, hx, if_neg hne, ht, Option.bind_some, e1, hu, Option.bind_some, if_pos hs1, if_pos hs2]
  · have h1 : ¬ ((i + (n + 1) : Nat) : Int) < (L.length : Int) := by omega
    rw [hygref18_PutRuns.l1, e0, if_neg h1, if_pos h3, if_pos h4, hx, ht, Option.bind_some, e1, hu, Option.bind_some, if_pos hs1, if_pos hs2]
theorem pr_loop (L : List Int) (i n : Nat) (acc t u : ByteArray) (x : Int) (hL : L.length ≤ 20000) (hj : i + (n + 1) ≤ L.length) (hall : ∀ j, j ≤ n → rd L ((i + j : Nat) : Int) = x) (he : i + (n + 1) < L.length → rd L ((i + (n + 1) : Nat) : Int) ≠ x)
    (ht : ∀ K, 10 ≤ K → hygref2_Varint.f K x = some t) (hu : ∀ K, 10 ≤ K → hygref2_Varint.f K (n : Int) = some u) (hs1 : t.size + u.size ≤ 9223372036854775807) (hs2 : acc.size + (t ++ u).size ≤ 9223372036854775807) :
    ∀ (d j K : Nat), j + d = n + 1 → 1 ≤ j → 10 ≤ K → hygref18_PutRuns.l1 (K + d + 1) L acc (i : Int) (j : Int) = hygref18_PutRuns.l0 K L (acc ++ (t ++ u)) ((i + (n + 1) : Nat) : Int) := by
  have h0 : rd L (i : Int) = x := by have := hall 0 (by omega); rwa [Nat.add_zero] at this
  intro d
  induction d with
  | zero =>
    intro j K hd h1 hK
    obtain rfl : j = n + 1 := by omega
    exact pr_stop L K i n acc t u x hL hj h0 he (ht K hK) (hu K hK) hs1 hs2
  | succ d ih =>
    intro j K hd h1 hK
    rw [show K + (d + 1) + 1 = K + d + 1 + 1 by omega, pr_more L (K + d + 1) i j acc hL (by omega) (by rw [hall j (by omega), h0])]
    exact ih (j + 1) K (by omega) (by omega) hK
theorem rd_run (D l3 : List Int) (x : Int) (n j : Nat) (hj : j ≤ n) : rd (D ++ (List.replicate (n + 1) x ++ l3)) ((D.length + j : Nat) : Int) = x := by
  unfold rd
  rw [Int.toNat_natCast, List.getD_eq_getElem?_getD, List.getElem?_append_right (by omega), List.getElem?_append_left (by simp; omega)]
  rw [show D.length + j - D.length = j by omega, List.getElem?_replicate, if_pos (by omega)]
  rfl
theorem rd_behind (D l3 : List Int) (x y : Int) (n : Nat) : rd (D ++ (List.replicate (n + 1) x ++ y :: l3)) ((D.length + (n + 1) : Nat) : Int) = y := by
  unfold rd
  rw [Int.toNat_natCast, List.getD_eq_getElem?_getD, List.getElem?_append_right (by omega), List.getElem?_append_right (by simp)]
  simp
theorem grp_sz (l : List Int) (hl : l.length ≤ 20000) (hx : u64s l) : (st (putsL (grp l))).size ≤ 400000 := by
  rw [st_size]
  have h1 := grp_len l
  have h2 := putsL_len (grp l) (grp_u64 l hx (by omega)).1
  omega
theorem pz (x : Int) (h : x < 18446744073709551616) : (put x).size ≤ 10 := by rw [put_size]; exact putL_len10 _ (by omega)
theorem rputruns_l0 (L : List Int) (hu : u64s L) (hL : L.length ≤ 20000) : ∀ (k : Nat) (D R : List Int) (K : Nat), R.length ≤ k → L = D ++ R → (∀ x, D.getLast? = some x → R.head? ≠ some x) → 2 * R.length + 20 ≤ K →
    hygref18_PutRuns.l0 K L (st (putsL (grp D))) (D.length : Int) = some (st (putsL (grp L)), 0) := by
  intro k
  induction k with
  | zero =>
    intro D R K hk he _ hK
    obtain rfl : R = [] := List.eq_nil_of_length_eq_zero (by omega)
    obtain ⟨K, rfl⟩ : ∃ m, K = m + 1 := ⟨K - 1, by omega⟩
    rw [List.append_nil] at he
    subst he
    rw [hygref18_PutRuns.l0, if_neg (by omega)]
  | succ k ih =>
    intro D R K hk he hb hK
    by_cases hR : R = []
    · subst hR
      obtain ⟨K, rfl⟩ : ∃ m, K = m + 1 := ⟨K - 1, by omega⟩
      rw [List.append_nil] at he
      subst he
      rw [hygref18_PutRuns.l0, if_neg (by omega)]
    · obtain ⟨x, n, l3, rfl, h3⟩ := split_run R hR
      have hlen : (List.replicate (n + 1) x ++ l3).length = n + 1 + l3.length := by simp
      have hLl : L.length = D.length + (n + 1 + l3.length) := by rw [he, List.length_append, hlen]
      rw [hlen] at hk hK
      have hx : 0 ≤ x ∧ x < 18446744073709551616 := hu x (by rw [he]; simp)
      have hD : u64s D := fun y hy => hu y (by rw [he]; exact List.mem_append_left _ hy)
      have hg : grp (D ++ List.replicate (n + 1) x) = grp D ++ [x, (n : Int)] := by
        have h1 := grp_append D.length D (List.replicate (n + 1) x) (Nat.le_refl _) (by
          intro y hy
          have := hb y hy
          simp only [List.replicate_succ, List.cons_append, List.head?_cons] at this ⊢
          exact this)
        have h2 := grp_run x n [] (by simp)
        rw [List.append_nil] at h2
        rw [h1, h2]; rfl
      have hacc : st (putsL (grp (D ++ List.replicate (n + 1) x))) = st (putsL (grp D)) ++ (put x ++ put (n : Int)) := by
        rw [hg, putsL_append, st_append, putsL_cons, putsL_cons, putsL_nil, List.append_nil, st_append]
        rfl
      have hs := grp_sz D (by omega) hD
      have p1 := pz x hx.2
      have p2 := pz (n : Int) (by omega)
      obtain ⟨K, rfl⟩ : ∃ m, K = m + n + 1 + 1 := ⟨K - n - 2, by omega⟩
      have hlt : (D.length : Int) < (L.length : Int) := by omega
      rw [hygref18_PutRuns.l0, if_pos hlt]
      have hloop := pr_loop L D.length n (st (putsL (grp D))) (put x) (put (n : Int)) x hL (by omega) (fun j hj => by rw [he]; exact rd_run D l3 x n j hj) (by
        intro hlt2
        cases l3 with
        | nil => simp at hLl; omega
        | cons y l3 =>
          rw [he, rd_behind]
          intro e; exact h3 (by rw [e]; rfl)) (fun K hK => rput_k x K hx.1 hx.2 hK) (fun K hK => rput_k (n : Int) K (by omega) (by omega) hK) (by omega) (by rw [ByteArray.size_append]; omega) n 1 K (by omega) (by omega) (by omega)
      rw [show (1 : Int) = ((1 : Nat) : Int) from rfl, hloop, ← hacc]
      have IH := ih (D ++ List.replicate (n + 1) x) l3 K (by omega) (by rw [he, List.append_assoc]) (by
        intro y hy
        rw [List.getLast?_append, List.replicate_succ', List.getLast?_append] at hy
        simp at hy
        subst hy
        exact h3) (by omega)
      rw [List.length_append, List.length_replicate] at IH
      exact IH
theorem rputruns_f (L : List Int) (K : Nat) (hu : u64s L) (hL : L.length ≤ 20000) (hK : 2 * L.length + 20 ≤ K) : hygref18_PutRuns.f K L = some (st (putsL (grp L)), 0) := by
  unfold hygref18_PutRuns.f
  rw [if_neg (by omega)]
  exact rputruns_l0 L hu hL L.length [] L K (Nat.le_refl _) rfl (by simp) hK
end Go.Proofs.YtdgbcokakmonfaaDoor
namespace Go.Proofs.YtdgbcokakmonfaaDoor
open Go.RowKit Go.Proofs.YtdgbcokakmonfaaDoorW.PrintWords Go.Proofs.YtdgbcokakmonfaaDoorW.PrintLast Go.Proofs.YtdgbcokakmonfaaDoorW.PrintMore Hy

theorem copy_any (A : Option Addr) (c : Nat) (l : List Int) (w : World) (hr : Kd.C (Kd.int .u64) w A l.length l) (hc : l.length ≤ c) (hl : l.length ≤ 1000000) :
    Calls Tryd.prog 7 #[.slice A l.length c] w fun e w' => ∃ A' c', e = .returned (.slice A' l.length c') ∧ Kd.C (Kd.int .u64) w' A' l.length l ∧ l.length ≤ c' ∧ Below w.heap.size w w' := by
  refine (PRunsPuts.hygref_CopyNums.calls A c l l w hr hc (by unfold PRunsPuts.hygref_CopyNums.f; rw [Option.bind_some, if_pos (by simp; omega), List.nil_append])).mono ?_
  rintro e w' ⟨v, rfl, hR, hb⟩
  obtain ⟨A', c', rfl, h1, h2⟩ := Kd.R_reads hR
  exact ⟨A', c', rfl, h2, h1, hb⟩
theorem rputruns_any (A : Option Addr) (c : Nat) (l : List Int) (w : World) (hr : Kd.C (Kd.int .u64) w A l.length l) (hc : l.length ≤ c) (hl : l.length ≤ 20000) (hu : u64s l) :
    Calls Tryd.prog 9 #[.slice A l.length c] w fun e w' => e = .returned (.tuple #[.string (st (putsL (grp l))), .int .i64 0]) ∧ Below w.heap.size w w' :=
  PRunsPuts.hygref18_PutRuns.calls 40020 A c l _ _ w hr hc (rputruns_f l 40020 hu hl (by omega))
theorem codeNil (w : World) (hg : Laid w) : Calls Tryd.prog 10 #[.nilIface] w fun e w' => e = .returned (.int .i64 0) ∧ Below w.heap.size w w' := code_any .nil _ w hg rfl
set_option maxHeartbeats 2000000 in
theorem runsPuts_walk (A : Option Addr) (c : Nat) (l : List Int) (w : World) (hr : Kd.C (Kd.int .u64) w A l.length l) (hc : l.length ≤ c) (_hl : l.length * 8 ≤ 140737488351232) (hx : ∀ x ∈ l, 0 ≤ x ∧ x < 18446744073709551616) (hg : Laid w) :
    Calls Tryd.prog 3 #[.slice A l.length c] w fun e w' => e = .returned (.bool true) ∧ Below w.heap.size w w' := by
  have HB := Aside0.mk (Below.refl w.heap.size w)
  have HR := Aside0.mk hr
  have HX := Aside0.mk hx
  have HC := Aside0.mk hc
  have HG := Aside0.mk hg
  clear hr hc _hl hx hg
  by_cases hlen : 2000 < l.length
  · go_enter Tryd.func3, Tryd.ntmps3
    go_wp2_with (first
      | (go_at_call 6; refine (runs_first _).mono ?_; rintro e wb ⟨rfl, hb⟩; have HBn : Aside0 (Below w.heap.size w wb) := ⟨below_next (by repeat (first | (with_reducible exact HB.out) | apply below_alloc | apply pw_below_drewN | apply below_drew1)) hb⟩; clear HB hb; have HB := HBn; clear HBn))
    go_ret
    exact ⟨rfl, (by repeat (first | (with_reducible exact HB.out) | apply below_alloc | apply pw_below_drewN | apply below_drew1))⟩
  · go_enter Tryd.func3, Tryd.ntmps3
    go_wp2_with (first
      | (go_at_call 6; refine (runs_first _).mono ?_; rintro e wb ⟨rfl, hb⟩; have HBn : Aside0 (Below w.heap.size w wb) := ⟨below_next (by repeat (first | (with_reducible exact HB.out) | apply below_alloc | apply pw_below_drewN | apply below_drew1)) hb⟩; clear HB hb; have HB := HBn; clear HBn))
    refine (copy_any A c l _ (Kd.C_below HR.out (by repeat (first | (with_reducible exact HB.out) | apply below_alloc | apply pw_below_drewN | apply below_drew1))) HC.out (by omega)).mono ?_
    rintro e wc ⟨A2, c2, rfl, hC2, hc2, hb⟩
    have HC2 := Aside0.mk hC2
    have HBn : Aside0 (Below w.heap.size w wc) := ⟨below_next HB.out hb⟩
    clear HB hb hC2
    have HB := HBn
    clear HBn
    have HC3 := Aside0.mk hc2
    clear hc2
    go_wp2_with (first
      | (go_at_call 8; refine (runsPut_ok A2 c2 l _ HC2.out HC3.out (by omega) HX.out).mono ?_; rintro e wb ⟨rfl, hb⟩; have HC4 := Aside0.mk (Kd.C_below HC2.out hb); have HBn : Aside0 (Below w.heap.size w wb) := ⟨below_next (by repeat (first | (with_reducible exact HB.out) | apply below_alloc | apply pw_below_drewN | apply below_drew1)) hb⟩; clear HB hb; have HB := HBn; clear HBn)
      | (go_at_call 9; refine (rputruns_any A c l _ (Kd.C_below HR.out (by repeat (first | (with_reducible exact HB.out) | apply below_alloc | apply pw_below_drewN | apply below_drew1))) HC.out (by omega) HX.out).mono ?_; rintro e wb ⟨rfl, hb⟩; have HC5 := Aside0.mk (Kd.C_below HC4.out hb); have HBn : Aside0 (Below w.heap.size w wb) := ⟨below_next (by repeat (first | (with_reducible exact HB.out) | apply below_alloc | apply pw_below_drewN | apply below_drew1)) hb⟩; clear HB hb; have HB := HBn; clear HBn)
      | (go_at_call 6; refine (runs_first _).mono ?_; rintro e wb ⟨rfl, hb⟩; have HC6 := Aside0.mk (Kd.C_below HC5.out hb); have HBn : Aside0 (Below w.heap.size w wb) := ⟨below_next (by repeat (first | (with_reducible exact HB.out) | apply below_alloc | apply pw_below_drewN | apply below_drew1)) hb⟩; clear HB hb; have HB := HBn; clear HBn)
      | (go_at_call 10; refine (codeNil _ (HG.out.below (by repeat (first | (with_reducible exact HB.out) | apply below_alloc | apply pw_below_drewN | apply below_drew1)))).mono ?_; rintro e wb ⟨rfl, hb⟩; have HC7 := Aside0.mk (Kd.C_below HC6.out hb); have HBn : Aside0 (Below w.heap.size w wb) := ⟨below_next (by repeat (first | (with_reducible exact HB.out) | apply below_alloc | apply pw_below_drewN | apply below_drew1)) hb⟩; clear HB hb; have HB := HBn; clear HBn))
    have HN := fun w' (h1 : Kd.C (Kd.int .u64) w' A2 l.length l) (h2 : Kd.C (Kd.int .u64) w' A l.length l) => nums_any A2 c2 l A c l w' h1 HC3.out h2 HC.out (by omega)
    rw [decide_eq_true rfl] at HN
    go_wp2_with (first
      | (go_at_call 11; refine (HN _ HC7.out (Kd.C_below HR.out (by repeat (first | (with_reducible exact HB.out) | apply below_alloc | apply pw_below_drewN | apply below_drew1)))).mono ?_; rintro e wd ⟨rfl, ⟨nd, rfl⟩⟩))
    go_ret
    exact ⟨rfl, (by repeat (first | (with_reducible exact HB.out) | apply below_alloc | apply pw_below_drewN | apply below_drew1))⟩
end Go.Proofs.YtdgbcokakmonfaaDoor
