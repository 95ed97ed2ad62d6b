import Derived.Test.YtbgpkfdfkmmfcaaDoorMyyqateca
import Derived.Outline
namespace Go.Proofs.YtbgpkfdfkmmfcaaDoor
open Go.RowKit Go.Proofs.YtbgpkfdfkmmfcaaDoorW.PrintWords Go.Proofs.YtbgpkfdfkmmfcaaDoorW.PrintLast Go.Proofs.YtbgpkfdfkmmfcaaDoorW.PrintMore Hy

/-! ### the document's own: texts joined -/
def jtxt (L : List ByteArray) (i : Nat) : ByteArray := st (joinL (bsL (L.take i)))
theorem jtxt_next (L : List ByteArray) (i : Nat) (h : i < L.length) : jtxt L (i + 1) = jtxt L i ++ (st (putL (L[i]).size) ++ L[i]) := by
  unfold jtxt
  rw [List.take_succ_eq_append_getElem h, bsL_snoc, joinL_snoc, textL_size, st_append, st_append (putL _) (bs _), st_bs]
theorem jtxt_le (L : List ByteArray) (i : Nat) : (jtxt L i).size ≤ (joinL (bsL L)).length := by
  unfold jtxt
  rw [st_size]
  conv => rhs; rw [← List.take_append_drop i L, bsL_append, joinL_append, List.length_append]
  omega
set_option maxHeartbeats 2000000 in
theorem rjoin_any (A : Option Addr) (c : Nat) (L : List ByteArray) (w : World) (hr : Kd.C Kd.string w A L.length L) (hc : L.length ≤ c) (hl : L.length ≤ 1000000000) (hT : (joinL (bsL L)).length ≤ 1000000000) :
    Calls Tryd.prog 10 #[.slice A L.length c] w fun e w' => e = .returned (.string (st (joinL (bsL L)))) ∧ Below w.heap.size w w' := by
  have HB := Aside0.mk (Below.refl w.heap.size w)
  have HC := Aside0.mk hr
  have HT := Aside0.mk hT
  obtain ⟨N, hN⟩ : ∃ N, L.length = N := ⟨_, rfl⟩
  rw [hN] at hc hl HC ⊢
  have HN := Aside0.mk hN
  clear hr hT hN
  go_enter Tryd.func10, Tryd.ntmps10
  go_wp2_with fail
  go_loopw [3, 4] (fun v3 v4 w' => ∃ i : Nat, i ≤ N ∧ v4 = .int .i64 (i : Int) ∧ v3 = .string (jtxt L i) ∧ Aside0 (Below w.heap.size w w')) (fun _ v4 _ => N - (intOf v4).toNat)
  case atStart => exact ⟨0, Nat.zero_le _, rfl, by unfold jtxt; rw [List.take_zero]; rfl, HB⟩
  case round =>
    clear HB
    obtain ⟨i, hi, rfl, rfl, HB⟩ := hrel
    by_cases hlt : i < N
    · have hlt2 : (i : Int) < (N : Int) := by omega
      have hi0 : (0 : Int) ≤ (i : Int) := by omega
      obtain ⟨ad, rfl, hx⟩ := Kd.at_string HC.out (i : Int) (by omega) (by omega)
      have hi2 : i < L.length := by rw [HN.out]; omega
      obtain ⟨t, ht⟩ : ∃ t, L[i] = t := ⟨_, rfl⟩
      have hx1 : w.cell? (ad.add i) = some (.string t) := by
        rw [Int.toNat_natCast] at hx
        rw [hx, ← ht]; simp [rdOf, List.getD_eq_getElem?_getD, hi2]
      have hx2 := pw_cell_below HB.out hx1
      have hnx := jtxt_next L i hi2
      rw [ht] at hnx
      have hle := jtxt_le L (i + 1)
      rw [hnx, ByteArray.size_append, ByteArray.size_append] at hle
      have hTb := HT.out
      have htz : t.size ≤ 1000000000 := by omega
      have GV := fun w => vput_any t.size w (by omega)
      obtain ⟨P, hP⟩ : ∃ P, st (putL t.size) = P := ⟨_, rfl⟩
      rw [hP] at GV hnx hle
      obtain ⟨J, hJ⟩ : ∃ J, jtxt L i = J := ⟨_, rfl⟩
      rw [hJ] at hnx hle ⊢
      have hcv : IntKind.u64.wrap (t.size : Int) = (t.size : Int) := by rw [wrap_u64]; omega
      have hs1 : P.size + t.size ≤ 9223372036854775807 := by omega
      have hs2 : J.size + (P.size + t.size) ≤ 9223372036854775807 := by omega
      have hs3 : J.size + (P ++ t).size ≤ 9223372036854775807 := by rw [ByteArray.size_append]; omega
      have HX := Aside0.mk hnx
      clear hx ht hi2 hnx hle hTb hP hJ
      go_wp2_with fail
      refine start_ (n := 15) (S := fun w' => w'.cell? (ad.add i) = some (.string t)) (ds := []) #[false, false, false, false, false, false, false, false, false, false, false, false, false, false, false] (by kernel_rfl) rfl rfl (hx2) (fun hHeld => ?_)
      refine pure_ (i := 0) (N := some 11) (v := ?_) (a' := ?_) #[true, false, false, false, false, false, false, false, false, false, false, false, false, false, false] rfl rfl (by kernel_rfl) (fun _ _ _ h => h) (Or.inl ⟨by rfl, ?_⟩) ?_ ?_
      rotate_left
      · intro w'
        go_simp
        first | with_reducible rfl | (rw [if_neg (by first | omega | (rw [ByteArray.size_append]; omega))])
      rotate_left
      · simp only [Act.put, List.setIfInBounds_toArray, List.set_cons_zero, List.set_cons_succ]
        rfl
      refine pure_ (i := 1) (N := some 12) (v := ?_) (a' := ?_) #[true, true, false, false, false, false, false, false, false, false, false, false, false, false, false] rfl rfl (by kernel_rfl) (fun _ _ _ h => h) (Or.inl ⟨by rfl, ?_⟩) ?_ ?_
      rotate_left
      · intro w'
        go_simp
        first | with_reducible rfl | (rw [if_neg (by first | omega | (rw [ByteArray.size_append]; omega))])
      rotate_left
      · simp only [Act.put, List.setIfInBounds_toArray, List.set_cons_zero, List.set_cons_succ]
        rfl
      refine pure_ (i := 2) (N := some 13) (v := ?_) (a' := ?_) #[true, true, true, false, false, false, false, false, false, false, false, false, false, false, false] rfl rfl (by kernel_rfl) (fun _ _ _ h => h) (Or.inl ⟨by rfl, ?_⟩) ?_ ?_
      rotate_left
      · intro w'
        go_simp
        first | with_reducible rfl | (rw [if_neg (by first | omega | (rw [ByteArray.size_append]; omega))])
      rotate_left
      · simp only [Act.put, List.setIfInBounds_toArray, List.set_cons_zero, List.set_cons_succ]
        rfl
      refine pure_ (i := 3) (N := some 14) (v := ?_) (a' := ?_) #[true, true, true, true, false, false, false, false, false, false, false, false, false, false, false] rfl rfl (by kernel_rfl) (fun _ _ _ h => h) (Or.inl ⟨by rfl, ?_⟩) ?_ ?_
      rotate_left
      · intro w'
        go_simp
        first | with_reducible rfl | (rw [if_neg (by first | omega | (rw [ByteArray.size_append]; omega))])
      rotate_left
      · simp only [Act.put, List.setIfInBounds_toArray, List.set_cons_zero, List.set_cons_succ]
        rfl
      refine pure_ (i := 8) (N := some 19) (v := ?_) (a' := ?_) #[true, true, true, true, false, false, false, false, true, false, false, false, false, false, false] rfl rfl (by kernel_rfl) (fun _ _ _ h => h) (Or.inl ⟨by rfl, ?_⟩) ?_ ?_
      rotate_left
      · intro w'
        go_simp
        first | with_reducible rfl | (rw [if_neg (by first | omega | (rw [ByteArray.size_append]; omega))])
      rotate_left
      · simp only [Act.put, List.setIfInBounds_toArray, List.set_cons_zero, List.set_cons_succ]
        rfl
      refine pure_ (i := 9) (N := some 20) (v := ?_) (a' := ?_) #[true, true, true, true, false, false, false, false, true, true, false, false, false, false, false] rfl rfl (by kernel_rfl) (fun _ _ _ h => h) (Or.inl ⟨by rfl, ?_⟩) ?_ ?_
      rotate_left
      · intro w'
        go_simp
        first | with_reducible rfl | (rw [if_neg (by first | omega | (rw [ByteArray.size_append]; omega))])
      rotate_left
      · simp only [Act.put, List.setIfInBounds_toArray, List.set_cons_zero, List.set_cons_succ]
        rfl
      refine pure_ (i := 10) (N := some 21) (v := ?_) (a' := ?_) #[true, true, true, true, false, false, false, false, true, true, true, false, false, false, false] rfl rfl (by kernel_rfl) (fun _ _ _ h => h) (Or.inl ⟨by rfl, ?_⟩) ?_ ?_
      rotate_left
      · intro w'
        go_simp
        first | with_reducible rfl | (rw [if_neg (by first | omega | (rw [ByteArray.size_append]; omega))])
      rotate_left
      · simp only [Act.put, List.setIfInBounds_toArray, List.set_cons_zero, List.set_cons_succ]
        rfl
      refine take_ (i := 4) (N := some 15) (v := ?_) (a' := ?_) #[true, true, true, true, true, false, false, false, true, true, true, false, false, false, false] rfl rfl (by kernel_rfl) (fun _ _ _ h => h) (Or.inl ⟨by rfl, ?_⟩) hHeld ?_ ?_
      rotate_left
      · intro w' s0
        go_simp
        first | with_reducible rfl | (rw [if_neg (by first | omega | (rw [ByteArray.size_append]; omega))])
      rotate_left
      · simp only [Act.put, List.setIfInBounds_toArray, List.set_cons_zero, List.set_cons_succ]
        rfl
      refine pure_ (i := 5) (N := some 16) (v := ?_) (a' := ?_) #[true, true, true, true, true, true, false, false, true, true, true, false, false, false, false] rfl rfl (by kernel_rfl) (fun _ _ _ h => h) (Or.inl ⟨by rfl, ?_⟩) ?_ ?_
      rotate_left
      · intro w'
        go_simp
        first | with_reducible rfl | (rw [if_neg (by first | omega | (rw [ByteArray.size_append]; omega))])
      rotate_left
      · simp only [Act.put, List.setIfInBounds_toArray, List.set_cons_zero, List.set_cons_succ]
        rfl
      refine pure_ (i := 6) (N := some 17) (v := ?_) (a' := ?_) #[true, true, true, true, true, true, true, false, true, true, true, false, false, false, false] rfl rfl (by kernel_rfl) (fun _ _ _ h => h) (Or.inl ⟨by rfl, ?_⟩) ?_ ?_
      rotate_left
      · intro w'
        go_simp
        first | with_reducible rfl | (rw [if_neg (by first | omega | (rw [ByteArray.size_append]; omega))])
      rotate_left
      · simp only [Act.put, List.setIfInBounds_toArray, List.set_cons_zero, List.set_cons_succ]
        rfl
      refine take_ (i := 11) (N := some 22) (v := ?_) (a' := ?_) #[true, true, true, true, true, true, true, false, true, true, true, true, false, false, false] rfl rfl (by kernel_rfl) (fun _ _ _ h => h) (Or.inl ⟨by rfl, ?_⟩) hHeld ?_ ?_
      rotate_left
      · intro w' s0
        go_simp
        first | with_reducible rfl | (rw [if_neg (by first | omega | (rw [ByteArray.size_append]; omega))])
      rotate_left
      · simp only [Act.put, List.setIfInBounds_toArray, List.set_cons_zero, List.set_cons_succ]
        rfl
      refine one_ (i := 7) (N := some 18) #[true, true, true, true, true, true, true, true, true, true, true, true, false, false, false] rfl rfl (by kernel_rfl) (by decide) (fun K hK => ?_)
      refine goes_ Tryd.func17 (by kernel_rfl) rfl #[.int .u64 (t.size : Int)] (by rfl) rfl rfl (by simp only [List.map_toArray, List.map_cons, List.map_nil]; rfl) ?_
      with_reducible refine (GV _).mono ?_
      rintro e w2 ⟨rfl, hb2⟩
      refine ⟨_, rfl, ?_⟩
      have HB2 := Aside0.mk (below_next (below_drew HB.out) hb2)
      clear hb2
      refine hK.out _ _ ((pw_cell_below HB2.out hx1)) (fun hHeld => ?_)
      clear hK K
      refine norm_ (a' := ?_) ?_ ?_
      rotate_left
      · show Act.put _ (some 18) _ = _
        simp only [Act.put, List.setIfInBounds_toArray, List.set_cons_zero, List.set_cons_succ]
        rfl
      refine pure_ (i := 12) (N := some 23) (v := ?_) (a' := ?_) #[true, true, true, true, true, true, true, true, true, true, true, true, true, false, false] rfl rfl (by kernel_rfl) (fun _ _ _ h => h) (Or.inl ⟨by rfl, ?_⟩) ?_ ?_
      rotate_left
      · intro w'
        go_simp
        first | with_reducible rfl | (rw [if_neg (by first | omega | (rw [ByteArray.size_append]; omega))])
      rotate_left
      · simp only [Act.put, List.setIfInBounds_toArray, List.set_cons_zero, List.set_cons_succ]
        rfl
      refine pure_ (i := 13) (N := some 24) (v := ?_) (a' := ?_) #[true, true, true, true, true, true, true, true, true, true, true, true, true, true, false] rfl rfl (by kernel_rfl) (fun _ _ _ h => h) (Or.inl ⟨by rfl, ?_⟩) ?_ ?_
      rotate_left
      · intro w'
        go_simp
        first | with_reducible rfl | (rw [if_neg (by first | omega | (rw [ByteArray.size_append]; omega))])
      rotate_left
      · simp only [Act.put, List.setIfInBounds_toArray, List.set_cons_zero, List.set_cons_succ]
        rfl
      refine pure_ (i := 14) (N := some 3) (v := ?_) (a' := ?_) #[true, true, true, true, true, true, true, true, true, true, true, true, true, true, true] rfl rfl (by kernel_rfl) (fun _ _ _ h => h) (Or.inl ⟨by rfl, ?_⟩) ?_ ?_
      rotate_left
      · intro w'
        go_simp
        first | with_reducible rfl | (rw [if_neg (by first | omega | (rw [ByteArray.size_append]; omega))])
      rotate_left
      · simp only [Act.put, List.setIfInBounds_toArray, List.set_cons_zero, List.set_cons_succ]
        rfl
      refine done_ (by kernel_rfl) ?_
      clear hcv hs1 hs2 hs3
      go_wp2_with fail
      go_roundw
      case rel => exact ⟨i + 1, by omega, by go_num, by rw [HX.out], HB2⟩
      case measure => simp [intOf]; omega
    · obtain rfl : i = N := by omega
      have hlt2 : ¬ ((i : Int) < (i : Int)) := by omega
      have hS : Aside0 (jtxt L i = st (joinL (bsL L))) := ⟨by unfold jtxt; rw [← HN.out, List.take_length]⟩
      clear hlt hi
      go_wp2_with fail
      go_ret
      exact ⟨congrArg (fun t => Ending.returned (.string t)) hS.out, HB.out⟩
end Go.Proofs.YtbgpkfdfkmmfcaaDoor
