import Derived.Test.YtehfgemoccjomaaDoorMpwhyjyth
import Derived.Outline
import Derived.Test.YtehfgemoccjomaaDoorMqnaweyei
namespace Go.Proofs.YtehfgemoccjomaaDoor
open Go.RowKit Go.Proofs.YtehfgemoccjomaaDoorW.PrintWords Go.Proofs.YtehfgemoccjomaaDoorW.PrintLast Go.Proofs.YtehfgemoccjomaaDoorW.PrintMore Hy

/-! ### the document's own: texts joined -/
def jtxt (L : List ByteArray) (i : Nat) : ByteArray := st (joinL (bsL (L.take i)))
theorem jtxt_next (L : List ByteArray) (i : Nat) (h : i < L.length) : jtxt L (i + 1) = jtxt L i ++ (st (putL (L[i]).size) ++ L[i]) := by
  unfold jtxt
  rw [List.take_succ_eq_append_getElem h, bsL_snoc, joinL_snoc, textL_size, st_append, st_append (putL _) (bs _), st_bs]
theorem jtxt_le (L : List ByteArray) (i : Nat) : (jtxt L i).size ≤ (joinL (bsL L)).length := by
  unfold jtxt
  rw [st_size]
  conv => rhs; rw [← List.take_append_drop i L, bsL_append, joinL_append, List.length_append]
  omega
set_option maxHeartbeats 2000000 in
theorem rjoin_any (A : Option Addr) (c : Nat) (L : List ByteArray) (w : World) (hr : Kd.C Kd.string w A L.length L) (hc : L.length ≤ c) (hl : L.length ≤ 1000000000) (hT : (joinL (bsL L)).length ≤ 1000000000) :
    Calls Tryd.prog 20 #[.slice A L.length c] w fun e w' => e = .returned (.string (st (joinL (bsL L)))) ∧ Below w.heap.size w w' := by
  have HB := Aside0.mk (Below.refl w.heap.size w)
  have HC := Aside0.mk hr
  have HT := Aside0.mk hT
  obtain ⟨N, hN⟩ : ∃ N, L.length = N := ⟨_, rfl⟩
  rw [hN] at hc hl HC ⊢
  have HN := Aside0.mk hN
  clear hr hT hN
  go_enter Tryd.func20, Tryd.ntmps20
  go_wp2_with fail
  go_loopw [3, 4] (fun v3 v4 w' => ∃ i : Nat, i ≤ N ∧ v4 = .int .i64 (i : Int) ∧ v3 = .string (jtxt L i) ∧ Aside0 (Below w.heap.size w w')) (fun _ v4 _ => N - (intOf v4).toNat)
  case atStart => exact ⟨0, Nat.zero_le _, rfl, by unfold jtxt; rw [List.take_zero]; rfl, HB⟩
  case round =>
    clear HB
    obtain ⟨i, hi, rfl, rfl, HB⟩ := hrel
    by_cases hlt : i < N
    · have hlt2 : (i : Int) < (N : Int) := by omega
      have hi0 : (0 : Int) ≤ (i : Int) := by omega
      obtain ⟨ad, rfl, hx⟩ := Kd.at_string HC.out (i : Int) (by omega) (by omega)
      have hi2 : i < L.length := by rw [HN.out]; omega
      obtain ⟨t, ht⟩ : ∃ t, L[i] = t := ⟨_, rfl⟩
      have hx1 : w.cell? (ad.add i) = some (.string t) := by
        rw [Int.toNat_natCast] at hx
        rw [hx, ← ht]; simp [rdOf, List.getD_eq_getElem?_getD, hi2]
      have hx2 := pw_cell_below HB.out hx1
      have hnx := jtxt_next L i hi2
      rw [ht] at hnx
      have hle := jtxt_le L (i + 1)
      rw [hnx, ByteArray.size_append, ByteArray.size_append] at hle
      have hTb := HT.out
      have htz : t.size ≤ 1000000000 := by omega
      have GV := fun w => vput_any t.size w (by omega)
      obtain ⟨P, hP⟩ : ∃ P, st (putL t.size) = P := ⟨_, rfl⟩
      rw [hP] at GV hnx hle
      obtain ⟨J, hJ⟩ : ∃ J, jtxt L i = J := ⟨_, rfl⟩
      rw [hJ] at hnx hle ⊢
      have hcv : IntKind.u64.wrap (t.size : Int) = (t.size : Int) := by rw [wrap_u64]; omega
      have hs1 : P.size + t.size ≤ 9223372036854775807 := by omega
      have hs2 : J.size + (P.size + t.size) ≤ 9223372036854775807 := by omega
      have hs3 : J.size + (P ++ t).size ≤ 9223372036854775807 := by rw [ByteArray.size_append]; omega
      have HX := Aside0.mk hnx
      clear hx ht hi2 hnx hle hTb hP hJ
      go_wp2_with fail
      refine start_ (n := 15) (S := fun w' => w'.cell? (ad.add i) = some (.string t)) (ds := []) #[false, false, false, false, false, false, false, false, false, false, false, false, false, false, false] (by kernel_rfl) rfl rfl (hx2) (fun hHeld => ?_)
      refine pure_ (i := 0) (N := some 11) (v := ?_) (a' := ?_) #[true, false, false, false, false, false, false, false, false, false, false, false, false, false, false] rfl rfl (by kernel_rfl) (fun _ _ _ h => h) (Or.inl ⟨by rfl, ?_⟩) ?_ ?_
      rotate_left
      · intro w'
        go_simp
        first | with_reducible rfl | (rw [if_neg (by first | omega | (rw [ByteArray.size_append]; omega))])
      rotate_left
      · simp only [Act.put, List.setIfInBounds_toArray, List.set_cons_zero, List.set_cons_succ]
        rfl
      refine pure_ (i := 1) (N := some 12) (v := ?_) (a' := ?_) #[true, true, false, false, false, false, false, false, false, false, false, false, false, false, false] rfl rfl (by kernel_rfl) (fun _ _ _ h => h) (Or.inl ⟨by rfl, ?_⟩) ?_ ?_
      rotate_left
      · intro w'
        go_simp
        first | with_reducible rfl | (rw [if_neg (by first | omega | (rw [ByteArray.size_append]; omega))])
      rotate_left
      · simp only [Act.put, List.setIfInBounds_toArray, List.set_cons_zero, List.set_cons_succ]
        rfl
      refine pure_ (i := 2) (N := some 13) (v := ?_) (a' := ?_) #[true, true, true, false, false, false, false, false, false, false, false, false, false, false, false] rfl rfl (by kernel_rfl) (fun _ _ _ h => h) (Or.inl ⟨by rfl, ?_⟩) ?_ ?_
      rotate_left
      · intro w'
        go_simp
        first | with_reducible rfl | (rw [if_neg (by first | omega | (rw [ByteArray.size_append]; omega))])
      rotate_left
      · simp only [Act.put, List.setIfInBounds_toArray, List.set_cons_zero, List.set_cons_succ]
        rfl
      refine pure_ (i := 3) (N := some 14) (v := ?_) (a' := ?_) #[true, true, true, true, false, false, false, false, false, false, false, false, false, false, false] rfl rfl (by kernel_rfl) (fun _ _ _ h => h) (Or.inl ⟨by rfl, ?_⟩) ?_ ?_
      rotate_left
      · intro w'
        go_simp
        first | with_reducible rfl | (rw [if_neg (by first | omega | (rw [ByteArray.size_append]; omega))])
      rotate_left
      · simp only [Act.put, List.setIfInBounds_toArray, List.set_cons_zero, List.set_cons_succ]
        rfl
      refine pure_ (i := 8) (N := some 19) (v := ?_) (a' := ?_) #[true, true, true, true, false, false, false, false, true, false, false, false, false, false, false] rfl rfl (by kernel_rfl) (fun _ _ _ h => h) (Or.inl ⟨by rfl, ?_⟩) ?_ ?_
      rotate_left
      · intro w'
        go_simp
        first | with_reducible rfl | (rw [if_neg (by first | omega | (rw [ByteArray.size_append]; omega))])
      rotate_left
      · simp only [Act.put, List.setIfInBounds_toArray, List.set_cons_zero, List.set_cons_succ]
        rfl
      refine pure_ (i := 9) (N := some 20) (v := ?_) (a' := ?_) #[true, true, true, true, false, false, false, false, true, true, false, false, false, false, false] rfl rfl (by kernel_rfl) (fun _ _ _ h => h) (Or.inl ⟨by rfl, ?_⟩) ?_ ?_
      rotate_left
      · intro w'
        go_simp
        first | with_reducible rfl | (rw [if_neg (by first | omega | (rw [ByteArray.size_append]; omega))])
      rotate_left
      · simp only [Act.put, List.setIfInBounds_toArray, List.set_cons_zero, List.set_cons_succ]
        rfl
      refine pure_ (i := 10) (N := some 21) (v := ?_) (a' := ?_) #[true, true, true, true, false, false, false, false, true, true, true, false, false, false, false] rfl rfl (by kernel_rfl) (fun _ _ _ h => h) (Or.inl ⟨by rfl, ?_⟩) ?_ ?_
      rotate_left
      · intro w'
        go_simp
        first | with_reducible rfl | (rw [if_neg (by first | omega | (rw [ByteArray.size_append]; omega))])
      rotate_left
      · simp only [Act.put, List.setIfInBounds_toArray, List.set_cons_zero, List.set_cons_succ]
        rfl
      refine take_ (i := 4) (N := some 15) (v := ?_) (a' := ?_) #[true, true, true, true, true, false, false, false, true, true, true, false, false, false, false] rfl rfl (by kernel_rfl) (fun _ _ _ h => h) (Or.inl ⟨by rfl, ?_⟩) hHeld ?_ ?_
      rotate_left
      · intro w' s0
        go_simp
        first | with_reducible rfl | (rw [if_neg (by first | omega | (rw [ByteArray.size_append]; omega))])
      rotate_left
      · simp only [Act.put, List.setIfInBounds_toArray, List.set_cons_zero, List.set_cons_succ]
        rfl
      refine pure_ (i := 5) (N := some 16) (v := ?_) (a' := ?_) #[true, true, true, true, true, true, false, false, true, true, true, false, false, false, false] rfl rfl (by kernel_rfl) (fun _ _ _ h => h) (Or.inl ⟨by rfl, ?_⟩) ?_ ?_
      rotate_left
      · intro w'
        go_simp
        first | with_reducible rfl | (rw [if_neg (by first | omega | (rw [ByteArray.size_append]; omega))])
      rotate_left
      · simp only [Act.put, List.setIfInBounds_toArray, List.set_cons_zero, List.set_cons_succ]
        rfl
      refine pure_ (i := 6) (N := some 17) (v := ?_) (a' := ?_) #[true, true, true, true, true, true, true, false, true, true, true, false, false, false, false] rfl rfl (by kernel_rfl) (fun _ _ _ h => h) (Or.inl ⟨by rfl, ?_⟩) ?_ ?_
      rotate_left
      · intro w'
        go_simp
        first | with_reducible rfl | (rw [if_neg (by first | omega | (rw [ByteArray.size_append]; omega))])
      rotate_left
      · simp only [Act.put, List.setIfInBounds_toArray, List.set_cons_zero, List.set_cons_succ]
        rfl
      refine take_ (i := 11) (N := some 22) (v := ?_) (a' := ?_) #[true, true, true, true, true, true, true, false, true, true, true, true, false, false, false] rfl rfl (by kernel_rfl) (fun _ _ _ h => h) (Or.inl ⟨by rfl, ?_⟩) hHeld ?_ ?_
      rotate_left
      · intro w' s0
        go_simp
        first | with_reducible rfl | (rw [if_neg (by first | omega | (rw [ByteArray.size_append]; omega))])
      rotate_left
      · simp only [Act.put, List.setIfInBounds_toArray, List.set_cons_zero, List.set_cons_succ]
        rfl
      refine one_ (i := 7) (N := some 18) #[true, true, true, true, true, true, true, true, true, true, true, true, false, false, false] rfl rfl (by kernel_rfl) (by decide) (fun K hK => ?_)
      refine goes_ Tryd.func19 (by kernel_rfl) rfl #[.int .u64 (t.size : Int)] (by rfl) rfl rfl (by simp only [List.map_toArray, List.map_cons, List.map_nil]; rfl) ?_
      with_reducible refine (GV _).mono ?_
      rintro e w2 ⟨rfl, hb2⟩
      refine ⟨_, rfl, ?_⟩
      have HB2 := Aside0.mk (below_next (below_drew HB.out) hb2)
      clear hb2
      refine hK.out _ _ ((pw_cell_below HB2.out hx1)) (fun hHeld => ?_)
      clear hK K
      refine norm_ (a' := ?_) ?_ ?_
      rotate_left
      · show Act.put _ (some 18) _ = _
        simp only [Act.put, List.setIfInBounds_toArray, List.set_cons_zero, List.set_cons_succ]
        rfl
      refine pure_ (i := 12) (N := some 23) (v := ?_) (a' := ?_) #[true, true, true, true, true, true, true, true, true, true, true, true, true, false, false] rfl rfl (by kernel_rfl) (fun _ _ _ h => h) (Or.inl ⟨by rfl, ?_⟩) ?_ ?_
      rotate_left
      · intro w'
        go_simp
        first | with_reducible rfl | (rw [if_neg (by first | omega | (rw [ByteArray.size_append]; omega))])
      rotate_left
      · simp only [Act.put, List.setIfInBounds_toArray, List.set_cons_zero, List.set_cons_succ]
        rfl
      refine pure_ (i := 13) (N := some 24) (v := ?_) (a' := ?_) #[true, true, true, true, true, true, true, true, true, true, true, true, true, true, false] rfl rfl (by kernel_rfl) (fun _ _ _ h => h) (Or.inl ⟨by rfl, ?_⟩) ?_ ?_
      rotate_left
      · intro w'
        go_simp
        first | with_reducible rfl | (rw [if_neg (by first | omega | (rw [ByteArray.size_append]; omega))])
      rotate_left
      · simp only [Act.put, List.setIfInBounds_toArray, List.set_cons_zero, List.set_cons_succ]
        rfl
      refine pure_ (i := 14) (N := some 3) (v := ?_) (a' := ?_) #[true, true, true, true, true, true, true, true, true, true, true, true, true, true, true] rfl rfl (by kernel_rfl) (fun _ _ _ h => h) (Or.inl ⟨by rfl, ?_⟩) ?_ ?_
      rotate_left
      · intro w'
        go_simp
        first | with_reducible rfl | (rw [if_neg (by first | omega | (rw [ByteArray.size_append]; omega))])
      rotate_left
      · simp only [Act.put, List.setIfInBounds_toArray, List.set_cons_zero, List.set_cons_succ]
        rfl
      refine done_ (by kernel_rfl) ?_
      clear hcv hs1 hs2 hs3
      go_wp2_with fail
      go_roundw
      case rel => exact ⟨i + 1, by omega, by go_num, by rw [HX.out], HB2⟩
      case measure => simp [intOf]; omega
    · obtain rfl : i = N := by omega
      have hlt2 : ¬ ((i : Int) < (i : Int)) := by omega
      have hS : Aside0 (jtxt L i = st (joinL (bsL L))) := ⟨by unfold jtxt; rw [← HN.out, List.take_length]⟩
      clear hlt hi
      go_wp2_with fail
      go_ret
      exact ⟨congrArg (fun t => Ending.returned (.string t)) hS.out, HB.out⟩
end Go.Proofs.YtehfgemoccjomaaDoor
namespace Go.Proofs.YtehfgemoccjomaaDoor
open Go.RowKit Go.Proofs.YtehfgemoccjomaaDoorW.PrintWords Go.Proofs.YtehfgemoccjomaaDoorW.PrintLast Go.Proofs.YtehfgemoccjomaaDoorW.PrintMore Hy

/-! ### the document's own dictionary: its block x, its row v -/
structure RDc (w : World) (base x : Nat) (v : Value) (L : List ByteArray) : Prop where
  hx : base ≤ x
  blk : w.heap[x]? = some (.cells #[v] 28 (0, 0))
  row : Kd.R Kd.string 9 w base (fun _ => True) v L
def GR (x : Nat) (v : Value) (k : Nat) : Prop := k = x ∨ v.ownBlock = some k
section
variable {w w' : World} {base x : Nat} {v : Value} {L : List ByteArray}
theorem RDc.c0 (h : RDc w base x v L) : w.cell? ⟨x, 0, none⟩ = some v := by rw [blk_cell h.blk]; rfl
theorem RDc.rowx (h : RDc w base x v L) : v.ownBlock ≠ some x := fun e => own_ne (Kd.own_of_R h.row) h.blk (by decide) e.symm
theorem RDc.below (h : RDc w base x v L) (hb : Below w.heap.size w w') : RDc w' base x v L := ⟨h.hx, blk_below h.blk hb, Kd.R_below h.row hb⟩
theorem RDc.kp {M : Nat → Prop} (h : RDc w base x v L) (hk : Kp M w w') (hM : ∀ k, GR x v k → ¬ M k) : RDc w' base x v L :=
  ⟨h.hx, hk.obj h.blk (hM x (.inl rfl)), Kd.R_of_own (hk.own (Kd.own_of_R h.row) (fun k e => hM k (.inr e))) (fun _ _ => trivial)⟩
theorem RDc.ge (h : RDc w base x v L) (k : Nat) (hk : GR x v k) : base ≤ k := by
  rcases hk with rfl | hk
  · exact h.hx
  · exact own_base (Kd.own_of_R h.row) k hk
theorem RDc.lt (h : RDc w base x v L) (k : Nat) (hk : GR x v k) : k < w.heap.size := by
  rcases hk with rfl | hk
  · exact blk_lt h.blk
  · exact own_lt (Kd.own_of_R h.row) k hk
theorem RDc.lower {base' : Nat} (h : RDc w base x v L) (hb : base' ≤ base) : RDc w base' x v L := ⟨Nat.le_trans hb h.hx, h.blk, Kd.R_lower h.row hb⟩
theorem RDc.more {w1 : World} {v1 : Value} {s : ByteArray} (h : RDc w base x v L) (ho : Kd.R Kd.string 9 w1 base (fun _ => True) v1 (L ++ [s])) (hg : w.grownBy w1 v.ownBlock) (hat : v1.ownBlock = v.ownBlock ∨ ∃ b, v1.ownBlock = some b ∧ w.heap.size ≤ b) :
    w1.cell? ⟨x, 0, none⟩ = some v ∧ w1.frozen? ⟨x, 0, none⟩ = false ∧ RDc (w1.setCell ⟨x, 0, none⟩ v1) base x v1 (L ++ [s]) ∧ (∀ k, v1.ownBlock = some k → v.ownBlock = some k ∨ w.heap.size ≤ k) ∧ Kp (GR x v) w (w1.setCell ⟨x, 0, none⟩ v1) := by
  have hb1 : w1.heap[x]? = some (.cells #[v] 28 (0, 0)) := blk_grown h.blk hg (fun e => h.rowx e.symm)
  have hne : ∀ k, v1.ownBlock = some k → k ≠ x := fun k hk e => own_ne (Kd.own_of_R ho) hb1 (by decide) (by rw [hk, e])
  have hkp : Kp (GR x v) w w1 := ⟨hg.os, hg.tape, hg.output, hg.size, fun k hk hm => hg.block k hk (fun e => hm (.inr e.symm))⟩
  refine ⟨by rw [blk_cell hb1]; rfl, blk_frozen hb1 0, ⟨h.hx, by rw [blk_set hb1]; rfl, ?_⟩, ?_, hkp.set (.inl rfl) _⟩
  · exact Kd.R_of_own (own_move (Kd.own_of_R ho) (fun k hk => Below.heap_setCell w1 ⟨x, 0, none⟩ v1 k (hne k hk))) (fun _ _ => trivial)
  · intro k hk
    rcases hat with e | ⟨b, e, hb⟩
    · rw [e] at hk; exact .inl hk
    · rw [e] at hk
      injection hk with hk
      exact .inr (by omega)
end
set_option maxHeartbeats 1000000 in
theorem radd_old (w : World) (base x : Nat) (v : Value) (L : List ByteArray) (s : ByteArray) (j : Nat) (hj : L[j]? = some s) (hn : L.Nodup) (hl : L.length ≤ 1000000000) (h : RDc w base x v L) :
    Calls Tryd.prog 8 #[.pointer (some ⟨x, 0, none⟩), .string s] w fun e w' => e = .returned (.int .i64 (j : Int)) ∧ w = w' := by
  have c0 := h.c0
  obtain ⟨A, c, rfl, hc, hC⟩ := Kd.R_reads h.row
  have hjl := (List.getElem?_eq_some_iff.1 hj).1
  have HC := Aside0.mk hC
  have HN := Aside0.mk hn
  have HJ := Aside0.mk hj
  clear h hC hn hj
  obtain ⟨N, hN⟩ : ∃ N, L.length = N := ⟨_, rfl⟩
  rw [hN] at c0 hc hjl hl HC
  have HNN := Aside0.mk hN
  clear hN
  go_enter Tryd.func8, Tryd.ntmps8
  go_wp2
  go_loop [5] (fun v5 => ∃ i : Nat, i ≤ j ∧ v5 = .int .i64 (i : Int)) (fun v5 => j - (intOf v5).toNat)
  case atStart => exact ⟨0, Nat.zero_le _, rfl⟩
  case round =>
    obtain ⟨i, hi, rfl⟩ := hrel
    obtain ⟨ad, rfl, hx⟩ := Kd.at_string HC.out (i : Int) (by omega) (by omega)
    have hiN : (i : Int) < (N : Int) := by omega
    have hi2 : i < L.length := by rw [HNN.out]; omega
    have hj2 : j < L.length := by rw [HNN.out]; omega
    have hLj : L[j] = s := (List.getElem?_eq_some_iff.1 HJ.out).2
    obtain ⟨t, ht⟩ : ∃ t, L[i] = t := ⟨_, rfl⟩
    have hx2 : w.cell? (ad.add i) = some (.string t) := by
      rw [Int.toNat_natCast] at hx
      rw [hx, ← ht]; simp [rdOf, List.getD_eq_getElem?_getD, hi2]
    by_cases hij : i = j
    · subst hij
      have hts : t = s := by rw [← ht, hLj]
      subst hts
      clear hx ht hi2 hj2 hLj
      go_wp2
      go_ret
      exact ⟨rfl, rfl⟩
    · have hts : ¬ t = s := by
        intro e
        rw [← ht, ← hLj] at e
        exact hij ((List.getElem_inj HN.out).1 e)
      have hts2 := str_ne hts
      have hts3 : (t.toList == s.toList) = false := by rw [beq_eq_false_iff_ne]; exact hts2
      have hij2 : i < j := by omega
      clear hx ht hi2 hj2 hLj hts hij
      go_wp2
      go_round
      case rel => exact ⟨i + 1, by omega, by go_num⟩
      case measure => simp [intOf]; omega
set_option maxHeartbeats 1000000 in
theorem radd_new (w : World) (base x : Nat) (v : Value) (L : List ByteArray) (s : ByteArray) (hj : s ∉ L) (hl : L.length ≤ 1000000000) (hB : base ≤ w.heap.size) (h : RDc w base x v L) :
    Calls Tryd.prog 8 #[.pointer (some ⟨x, 0, none⟩), .string s] w fun e w' => e = .returned (.int .i64 (L.length : Int)) ∧ ∃ v1, RDc w' base x v1 (L ++ [s]) ∧ (∀ k, v1.ownBlock = some k → v.ownBlock = some k ∨ w.heap.size ≤ k) ∧ Kp (GR x v) w w' := by
  have c0 := h.c0
  obtain ⟨A, c, rfl, hc, hC⟩ := Kd.R_reads h.row
  have HC := Aside0.mk hC
  have HJ := Aside0.mk hj
  obtain ⟨N, hN⟩ : ∃ N, L.length = N := ⟨_, rfl⟩
  rw [hN] at c0 hc hl HC h
  have HI := Aside0.mk h
  have HNN := Aside0.mk hN
  clear h hC hj hN
  go_enter Tryd.func8, Tryd.ntmps8
  go_wp2
  go_loop [5] (fun v5 => ∃ i : Nat, i ≤ N ∧ v5 = .int .i64 (i : Int)) (fun v5 => N - (intOf v5).toNat)
  case atStart => exact ⟨0, Nat.zero_le _, rfl⟩
  case round =>
    obtain ⟨i, hi, rfl⟩ := hrel
    by_cases hiN : i < N
    · obtain ⟨ad, rfl, hx⟩ := Kd.at_string HC.out (i : Int) (by omega) (by omega)
      have hiN2 : (i : Int) < (N : Int) := by omega
      have hi2 : i < L.length := by rw [HNN.out]; omega
      obtain ⟨t, ht⟩ : ∃ t, L[i] = t := ⟨_, rfl⟩
      have hx2 : w.cell? (ad.add i) = some (.string t) := by
        rw [Int.toNat_natCast] at hx
        rw [hx, ← ht]; simp [rdOf, List.getD_eq_getElem?_getD, hi2]
      have hts : ¬ t = s := by
        intro e
        exact HJ.out (e ▸ ht ▸ List.getElem_mem hi2)
      have hts2 := str_ne hts
      have hts3 : (t.toList == s.toList) = false := by rw [beq_eq_false_iff_ne]; exact hts2
      clear hx ht hi2 hts
      go_wp2
      go_round
      case rel => exact ⟨i + 1, by omega, by go_num⟩
      case measure => simp [intOf]; omega
    · obtain rfl : i = N := by omega
      have hN2 : ¬ ((i : Int) < (i : Int)) := by omega
      clear hiN hi
      go_wp2_with ((with_reducible refine gate_builtin (b := .append) (xs := #[.tmp 29, .tmp 31]) rfl ?_); at_builtin; refine Kd.R_append Kd.string (w0 := w) base rfl (.tmp 29) (.tmp 31) 22 9 (.string ByteArray.empty) 16 rfl Tryd.underlying22 str_info rfl (by decide) (by omega) (.slice A i c) L s [.string s] (fun _ => True) (fun _ => False) rfl rfl rfl (fun _ hk => hk.elim) (fun _ _ => trivial) HI.out.row (Below.refl _ _) hB (by have := HNN.out; omega) ?_; intro va wa ho hb hg hat; obtain ⟨A', c', hva⟩ := Kd.R_slice ho; obtain ⟨N2, hN2⟩ : ∃ N2, (L ++ [s]).length = N2 := ⟨_, rfl⟩; rw [hN2] at hva; subst hva; obtain ⟨q0, q1, q2, q3, q4⟩ := HI.out.more ho hg hat; have HN2 := Aside0.mk hN2; have q5 : N2 = i + 1 := (by have := HNN.out; simp at hN2; omega); subst q5; have H2 := Aside0.mk q2; have H3 := Aside0.mk q3; have H4 := Aside0.mk q4; clear q2 q3 q4 ho hb hg hat hN2)
      go_ret
      exact ⟨congrArg (fun m : Nat => Ending.returned (.int .i64 (m : Int))) HNN.out.symm, _, H2.out, by rw [HNN.out]; exact H3.out, by rw [HNN.out]; exact H4.out⟩
end Go.Proofs.YtehfgemoccjomaaDoor
namespace Go.Proofs.YtehfgemoccjomaaDoor
open Go.RowKit Go.Proofs.YtehfgemoccjomaaDoorW.PrintWords Go.Proofs.YtehfgemoccjomaaDoorW.PrintLast Go.Proofs.YtehfgemoccjomaaDoorW.PrintMore Hy

theorem rdc_C {w : World} {base x : Nat} {A : Option Addr} {n c : Nat} {L : List ByteArray} (h : RDc w base x (.slice A n c) L) : Kd.C Kd.string w A L.length L := by
  obtain ⟨A', c', e, _, hC⟩ := Kd.R_reads h.row
  injection e with e1 e2 e3
  subst e1
  exact hC
theorem rdc_slice {w : World} {base x : Nat} {v : Value} {L : List ByteArray} (h : RDc w base x v L) : ∃ A c, v = .slice A L.length c ∧ L.length ≤ c := by
  obtain ⟨A, c, e, hc, _⟩ := Kd.R_reads h.row
  exact ⟨A, c, e, hc⟩
set_option maxHeartbeats 2000000 in
theorem rput_ok (w : World) (base x : Nat) (v : Value) (L : List ByteArray) (hl : L.length ≤ 20000) (hT : (dictL (bsL L)).length ≤ 1000000000) (h : RDc w base x v L) :
    Calls Tryd.prog 11 #[.pointer (some ⟨x, 0, none⟩)] w fun e w' => e = .returned (.tuple #[.string (st (dictL (bsL L))), .int .i64 0]) ∧ Below w.heap.size w w' := by
  obtain ⟨A, c, rfl, hc⟩ := rdc_slice h
  have HR := Aside0.mk h
  have q0 := h.c0
  have GV := fun w => vput_any L.length w (by omega)
  have hjl : (joinL (bsL L)).length ≤ 1000000000 := by unfold dictL at hT; rw [List.length_append] at hT; omega
  have GJ := fun w hC => rjoin_any A c L w hC hc (by omega) hjl
  obtain ⟨P, hP⟩ : ∃ P, st (putL L.length) = P := ⟨_, rfl⟩
  obtain ⟨J, hJ⟩ : ∃ J, st (joinL (bsL L)) = J := ⟨_, rfl⟩
  rw [hP] at GV
  rw [hJ] at GJ
  have hPz : P.size ≤ 10 := by rw [← hP, st_size]; exact putL_len10 _ (by omega)
  have hJz : J.size ≤ 1000000000 := by rw [← hJ, st_size]; exact hjl
  have HD : Aside0 (st (dictL (bsL L)) = P ++ J) := ⟨by unfold dictL; rw [st_append, bsL_length, hP, hJ]⟩
  have hcv : IntKind.u64.wrap (L.length : Int) = (L.length : Int) := by rw [wrap_u64]; omega
  have hs1 : P.size + J.size ≤ 9223372036854775807 := by omega
  have hl2 : ¬ (20000 < L.length) := by omega
  clear h hP hJ hT hjl
  go_enter Tryd.func11, Tryd.ntmps11
  go_wp2_with fail
  refine start_ (n := 15) (S := fun w' => w'.cell? ⟨x, 0, none⟩ = some (.slice A L.length c)) (ds := []) #[false, false, false, false, false, false, false, false, false, false, false, false, false, false, false] (by kernel_rfl) rfl rfl (q0) (fun hHeld => ?_)
  refine pure_ (i := 0) (N := some 10) (v := ?_) (a' := ?_) #[true, false, false, false, false, false, false, false, false, false, false, false, false, false, false] rfl rfl (by kernel_rfl) (fun _ _ _ h => h) (Or.inl ⟨by rfl, ?_⟩) ?_ ?_
  rotate_left
  · intro w'
    go_simp
    first | with_reducible rfl | (rw [if_neg (by first | omega | (rw [ByteArray.size_append]; omega))])
  rotate_left
  · simp only [Act.put, List.setIfInBounds_toArray, List.set_cons_zero, List.set_cons_succ]
    rfl
  refine pure_ (i := 1) (N := some 11) (v := ?_) (a' := ?_) #[true, true, false, false, false, false, false, false, false, false, false, false, false, false, false] rfl rfl (by kernel_rfl) (fun _ _ _ h => h) (Or.inl ⟨by rfl, ?_⟩) ?_ ?_
  rotate_left
  · intro w'
    go_simp
    first | with_reducible rfl | (rw [if_neg (by first | omega | (rw [ByteArray.size_append]; omega))])
  rotate_left
  · simp only [Act.put, List.setIfInBounds_toArray, List.set_cons_zero, List.set_cons_succ]
    rfl
  refine pure_ (i := 2) (N := some 12) (v := ?_) (a' := ?_) #[true, true, true, false, false, false, false, false, false, false, false, false, false, false, false] rfl rfl (by kernel_rfl) (fun _ _ _ h => h) (Or.inl ⟨by rfl, ?_⟩) ?_ ?_
  rotate_left
  · intro w'
    go_simp
    first | with_reducible rfl | (rw [if_neg (by first | omega | (rw [ByteArray.size_append]; omega))])
  rotate_left
  · simp only [Act.put, List.setIfInBounds_toArray, List.set_cons_zero, List.set_cons_succ]
    rfl
  refine pure_ (i := 7) (N := some 17) (v := ?_) (a' := ?_) #[true, true, true, false, false, false, false, true, false, false, false, false, false, false, false] rfl rfl (by kernel_rfl) (fun _ _ _ h => h) (Or.inl ⟨by rfl, ?_⟩) ?_ ?_
  rotate_left
  · intro w'
    go_simp
    first | with_reducible rfl | (rw [if_neg (by first | omega | (rw [ByteArray.size_append]; omega))])
  rotate_left
  · simp only [Act.put, List.setIfInBounds_toArray, List.set_cons_zero, List.set_cons_succ]
    rfl
  refine pure_ (i := 8) (N := some 18) (v := ?_) (a' := ?_) #[true, true, true, false, false, false, false, true, true, false, false, false, false, false, false] rfl rfl (by kernel_rfl) (fun _ _ _ h => h) (Or.inl ⟨by rfl, ?_⟩) ?_ ?_
  rotate_left
  · intro w'
    go_simp
    first | with_reducible rfl | (rw [if_neg (by first | omega | (rw [ByteArray.size_append]; omega))])
  rotate_left
  · simp only [Act.put, List.setIfInBounds_toArray, List.set_cons_zero, List.set_cons_succ]
    rfl
  refine pure_ (i := 9) (N := some 19) (v := ?_) (a' := ?_) #[true, true, true, false, false, false, false, true, true, true, false, false, false, false, false] rfl rfl (by kernel_rfl) (fun _ _ _ h => h) (Or.inl ⟨by rfl, ?_⟩) ?_ ?_
  rotate_left
  · intro w'
    go_simp
    first | with_reducible rfl | (rw [if_neg (by first | omega | (rw [ByteArray.size_append]; omega))])
  rotate_left
  · simp only [Act.put, List.setIfInBounds_toArray, List.set_cons_zero, List.set_cons_succ]
    rfl
  refine take_ (i := 3) (N := some 13) (v := ?_) (a' := ?_) #[true, true, true, true, false, false, false, true, true, true, false, false, false, false, false] rfl rfl (by kernel_rfl) (fun _ _ _ h => h) (Or.inl ⟨by rfl, ?_⟩) hHeld ?_ ?_
  rotate_left
  · intro w' s0
    go_simp
    first | with_reducible rfl | (rw [if_neg (by first | omega | (rw [ByteArray.size_append]; omega))])
  rotate_left
  · simp only [Act.put, List.setIfInBounds_toArray, List.set_cons_zero, List.set_cons_succ]
    rfl
  refine pure_ (i := 4) (N := some 14) (v := ?_) (a' := ?_) #[true, true, true, true, true, false, false, true, true, true, false, false, false, false, false] rfl rfl (by kernel_rfl) (fun _ _ _ h => h) (Or.inl ⟨by rfl, ?_⟩) ?_ ?_
  rotate_left
  · intro w'
    go_simp
    first | with_reducible rfl | (rw [if_neg (by first | omega | (rw [ByteArray.size_append]; omega))])
  rotate_left
  · simp only [Act.put, List.setIfInBounds_toArray, List.set_cons_zero, List.set_cons_succ]
    rfl
  refine pure_ (i := 5) (N := some 15) (v := ?_) (a' := ?_) #[true, true, true, true, true, true, false, true, true, true, false, false, false, false, false] rfl rfl (by kernel_rfl) (fun _ _ _ h => h) (Or.inl ⟨by rfl, ?_⟩) ?_ ?_
  rotate_left
  · intro w'
    go_simp
    first | with_reducible rfl | (rw [if_neg (by first | omega | (rw [ByteArray.size_append]; omega))])
  rotate_left
  · simp only [Act.put, List.setIfInBounds_toArray, List.set_cons_zero, List.set_cons_succ]
    rfl
  refine take_ (i := 10) (N := some 20) (v := ?_) (a' := ?_) #[true, true, true, true, true, true, false, true, true, true, true, false, false, false, false] rfl rfl (by kernel_rfl) (fun _ _ _ h => h) (Or.inl ⟨by rfl, ?_⟩) hHeld ?_ ?_
  rotate_left
  · intro w' s0
    go_simp
    first | with_reducible rfl | (rw [if_neg (by first | omega | (rw [ByteArray.size_append]; omega))])
  rotate_left
  · simp only [Act.put, List.setIfInBounds_toArray, List.set_cons_zero, List.set_cons_succ]
    rfl
  refine one_ (i := 6) (N := some 16) #[true, true, true, true, true, true, true, true, true, true, true, false, false, false, false] rfl rfl (by kernel_rfl) (by decide) (fun K hK => ?_)
  refine goes_ Tryd.func19 (by kernel_rfl) rfl #[.int .u64 (L.length : Int)] (by rfl) rfl rfl (by simp only [List.map_toArray, List.map_cons, List.map_nil]; rfl) ?_
  with_reducible refine (GV _).mono ?_
  rintro e w2 ⟨rfl, hb2⟩
  refine ⟨_, rfl, ?_⟩
  have hx2 : Below w.heap.size w w2 := below_next (below_drew (Below.refl _ _)) hb2
  have HB2 := Aside0.mk hx2
  have HR2 := Aside0.mk (HR.out.below hx2)
  clear hb2 hx2
  refine hK.out _ _ (HR2.out.c0) (fun hHeld => ?_)
  clear hK K
  refine norm_ (a' := ?_) ?_ ?_
  rotate_left
  · show Act.put _ (some 16) _ = _
    simp only [Act.put, List.setIfInBounds_toArray, List.set_cons_zero, List.set_cons_succ]
    rfl
  refine one_ (i := 11) (N := some 21) #[true, true, true, true, true, true, true, true, true, true, true, true, false, false, false] rfl rfl (by kernel_rfl) (by decide) (fun K hK => ?_)
  refine goes_ Tryd.func20 (by kernel_rfl) rfl #[.slice A L.length c] (by rfl) rfl rfl (by simp only [List.map_toArray, List.map_cons, List.map_nil]; rfl) ?_
  with_reducible refine (GJ _ (rdc_C HR2.out)).mono ?_
  rintro e w3 ⟨rfl, hb3⟩
  refine ⟨_, rfl, ?_⟩
  have HB3 := Aside0.mk (below_next HB2.out hb3)
  have HR3 := Aside0.mk (HR2.out.below hb3)
  clear hb3
  refine hK.out _ _ (HR3.out.c0) (fun hHeld => ?_)
  clear hK K
  refine norm_ (a' := ?_) ?_ ?_
  rotate_left
  · show Act.put _ (some 21) _ = _
    simp only [Act.put, List.setIfInBounds_toArray, List.set_cons_zero, List.set_cons_succ]
    rfl
  refine pure_ (i := 12) (N := some 22) (v := ?_) (a' := ?_) #[true, true, true, true, true, true, true, true, true, true, true, true, true, false, false] rfl rfl (by kernel_rfl) (fun _ _ _ h => h) (Or.inl ⟨by rfl, ?_⟩) ?_ ?_
  rotate_left
  · intro w'
    go_simp
    first | with_reducible rfl | (rw [if_neg (by first | omega | (rw [ByteArray.size_append]; omega))])
  rotate_left
  · simp only [Act.put, List.setIfInBounds_toArray, List.set_cons_zero, List.set_cons_succ]
    rfl
  refine pure_ (i := 13) (N := some 2) (v := ?_) (a' := ?_) #[true, true, true, true, true, true, true, true, true, true, true, true, true, true, false] rfl rfl (by kernel_rfl) (fun _ _ _ h => h) (Or.inl ⟨by rfl, ?_⟩) ?_ ?_
  rotate_left
  · intro w'
    go_simp
    first | with_reducible rfl | (rw [if_neg (by first | omega | (rw [ByteArray.size_append]; omega))])
  rotate_left
  · simp only [Act.put, List.setIfInBounds_toArray, List.set_cons_zero, List.set_cons_succ]
    rfl
  refine pure_ (i := 14) (N := some 3) (v := ?_) (a' := ?_) #[true, true, true, true, true, true, true, true, true, true, true, true, true, true, true] rfl rfl (by kernel_rfl) (fun _ _ _ h => h) (Or.inl ⟨by rfl, ?_⟩) ?_ ?_
  rotate_left
  · intro w'
    go_simp
    first | with_reducible rfl | (rw [if_neg (by first | omega | (rw [ByteArray.size_append]; omega))])
  rotate_left
  · simp only [Act.put, List.setIfInBounds_toArray, List.set_cons_zero, List.set_cons_succ]
    rfl
  refine done_ (by kernel_rfl) ?_
  clear hcv hs1
  go_wp2_with fail
  go_ret2
  exact ⟨congrArg (fun t => Ending.returned (.tuple #[.string t, .int .i64 0])) HD.out.symm, HB3.out⟩
end Go.Proofs.YtehfgemoccjomaaDoor
namespace Go.Proofs.YtehfgemoccjomaaDoor
open Go.RowKit Go.Proofs.YtehfgemoccjomaaDoorW.PrintWords Go.Proofs.YtehfgemoccjomaaDoorW.PrintLast Go.Proofs.YtehfgemoccjomaaDoorW.PrintMore Hy

/-! ### both dictionaries side by side -/
structure DX (w : World) (base d : Nat) (v : Value) (bm x : Nat) (vx : Value) (Ld Lx : List ByteArray) : Prop where
  D : Dct w base d v bm Ld
  X : RDc w base x vx Lx
  ap : ∀ k, GD d bm v k → ¬ GR x vx k
section
variable {w w' : World} {base d : Nat} {v v' : Value} {bm x : Nat} {vx vx' : Value} {Ld Ld' Lx Lx' : List ByteArray}
theorem DX.below (h : DX w base d v bm x vx Ld Lx) (hb : Below w.heap.size w w') : DX w' base d v bm x vx Ld Lx := ⟨h.D.below hb, h.X.below hb, h.ap⟩
theorem DX.stepD (h : DX w base d v bm x vx Ld Lx) (hd : Dct w' base d v' bm Ld') (hv : ∀ k, v'.ownBlock = some k → v.ownBlock = some k ∨ w.heap.size ≤ k) (hk : Kp (GD d bm v) w w') : DX w' base d v' bm x vx Ld' Lx := by
  refine ⟨hd, h.X.kp hk (fun k hg hd => h.ap k hd hg), fun k hg hr => ?_⟩
  rcases hg with rfl | rfl | hg
  · exact h.ap _ (.inl rfl) hr
  · exact h.ap _ (.inr (.inl rfl)) hr
  · rcases hv k hg with h1 | h1
    · exact h.ap k (.inr (.inr h1)) hr
    · have := h.X.lt k hr; omega
theorem DX.stepX (h : DX w base d v bm x vx Ld Lx) (hx : RDc w' base x vx' Lx') (hv : ∀ k, vx'.ownBlock = some k → vx.ownBlock = some k ∨ w.heap.size ≤ k) (hk : Kp (GR x vx) w w') : DX w' base d v bm x vx' Ld Lx' := by
  refine ⟨h.D.kp hk (fun k hg hr => h.ap k hg hr), hx, fun k hg hr => ?_⟩
  rcases hr with rfl | hr
  · exact h.ap _ hg (.inl rfl)
  · rcases hv k hr with h1 | h1
    · exact h.ap k hg (.inr h1)
    · have := h.D.lt k hg; omega
end
theorem code_nil (w : World) : Calls Tryd.prog 15 #[.nilIface] w fun e w' => e = .returned (.int .i64 0) ∧ w = w' := by
  go_enter Tryd.func15, Tryd.ntmps15
  go_wp2
  go_ret
  exact ⟨rfl, rfl⟩
end Go.Proofs.YtehfgemoccjomaaDoor
