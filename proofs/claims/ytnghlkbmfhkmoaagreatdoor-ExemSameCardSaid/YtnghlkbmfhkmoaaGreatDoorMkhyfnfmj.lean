import Derived.Test.YtnghlkbmfhkmoaaGreatDoorMolchtzdg
import Derived.Test.YtnghlkbmfhkmoaaGreatDoorWLast
import Derived.Test.YtnghlkbmfhkmoaaGreatDoorWMore
namespace Go.Proofs.YtnghlkbmfhkmoaaGreatDoor
open Go.RowKit Go.Proofs.YtnghlkbmfhkmoaaGreatDoorW.PrintWords Go.Proofs.YtnghlkbmfhkmoaaGreatDoorW.PrintLast Go.Proofs.YtnghlkbmfhkmoaaGreatDoorW.PrintMore

/-! ### the document's Value, its list -/
structure XS (w : World) (g : Nat) (s : Sl) : Prop where
  c : w.cell? ⟨g, 4, none⟩ = some (.slice s.a s.len s.cap)
theorem XS.below {w w' : World} {g : Nat} {s : Sl} (h : XS w g s) (hb : Below w.heap.size w w') : XS w' g s := ⟨pw_cell_below hb h.c⟩
set_option maxHeartbeats 2000000 in
set_option maxRecDepth 100000 in
theorem rval_l (W w : World) (d : Nat) (HK : RSK W d) (HV : RSV W d) (a b : Vl) (hW : Below W.heap.size W w) (ha : VlOk W a) (hb : VlOk W b) (hf : FinV W (d + 1) a) (e0 : a.kind = b.kind) (e1 : (a.s.toList == b.s.toList) = true) (e2 : a.b = b.b) (e3 : a.n = b.n) (e4 : (a.inner.toList == b.inner.toList) = true) (e5 : (a.unk.toList == b.unk.toList) = true) (e6 : a.l.len = b.l.len) (e7 : listB (eqK (eqV W d)) (kvs W a.m) (kvs W b.m) = true) :
    Calls Tryz.prog 63 #[vlA a, vlA b] w fun e w' => e = .returned (.bool (listB (eqV W d) (vls W a.l) (vls W b.l))) ∧ Below w.heap.size w w' := by
  have hX : XVl ((w.alloc (.cells (vlC a).toArray 57)).alloc (.cells (vlC b).toArray 57)) w.heap.size a := XVl.below ⟨heap_alloc_new w _⟩ ((Below.refl _ _).alloc (Nat.le_refl _) _)
  have hY : XVl ((w.alloc (.cells (vlC a).toArray 57)).alloc (.cells (vlC b).toArray 57)) (w.heap.size + 1) b := ⟨by have h := heap_alloc_new (w.alloc (.cells (vlC a).toArray 57)) (.cells (vlC b).toArray 57); simp only [World.size_alloc] at h; exact h⟩
  have HB : Aside0 (Below w.heap.size w ((w.alloc (.cells (vlC a).toArray 57)).alloc (.cells (vlC b).toArray 57))) := ⟨((Below.refl _ _).alloc (Nat.le_refl _) _).alloc (by simp only [World.size_alloc]; omega) _⟩
  have HX := Aside0.mk hX
  have HY := Aside0.mk hY
  have HKC := Aside0.mk (fun w2 (hb2 : Below w.heap.size w w2) => HK w2 a.m b.m (hW.trans (hb2.mono hW.size)) ha.m hb.m hf.2)
  unfold Sl.v at HKC
  rw [e7] at HKC
  have hl := vls_at ha.l
  have hl' := vls_at hb.l
  have hf1 := hf.1
  generalize vls W a.l = l at *
  generalize vls W b.l = l' at *
  have hne : l.length = l'.length := by rw [← hl.1, ← hl'.1]; exact e6
  have hlm : l.length ≤ 9223372036854775807 := by have h0 := hl.1; have h := hl.2.1; have h2 := hl.2.2.1; unfold maxLen at h2; omega
  have HL := Aside0.mk hl
  have HL' := Aside0.mk hl'
  have HW := Aside0.mk hW
  have HF := Aside0.mk hf1
  have HVV := Aside0.mk HV
  have HNE := Aside0.mk hne
  have HLM := Aside0.mk hlm
  generalize hR : listB (eqV W d) l l' = R
  have HR := Aside0.mk hR
  clear hX hY hW ha hb hf HK e7 hl hl' hf1 HV hne hlm hR
  show Calls _ _ #[.agg (vlC a).toArray, .agg (vlC b).toArray] _ _
  go_enter Tryz.func63, Tryz.ntmps63
  go_upto_region 1 with (first
    | ((with_reducible refine gate_dst (N := 2) rfl ?_); refine Great.wpList_boxTo rfl 57 _ rfl _ rfl w.heap.size rfl (vlC a).toArray rfl ?_)
    | ((with_reducible refine gate_dst (N := 3) rfl ?_); refine Great.wpList_boxTo rfl 57 _ rfl _ rfl (w.heap.size + 1) (by simp only [World.size_alloc]) (vlC b).toArray rfl ?_))
  generalize ((w.alloc (.cells (vlC a).toArray 57)).alloc (.cells (vlC b).toArray 57)) = w1 at *
  have x0 := HX.out.c0
  have y0 := HY.out.c0
  have x1 := HX.out.c1
  have y1 := HY.out.c1
  have x2 := HX.out.c2
  have y2 := HY.out.c2
  have x3 := HX.out.c3
  have y3 := HY.out.c3
  have x4 := HX.out.c4
  have y4 := HY.out.c4
  have x5 := HX.out.c5
  have y5 := HY.out.c5
  have x6 := HX.out.c6
  have y6 := HY.out.c6
  have x7 := HX.out.c7
  have y7 := HY.out.c7
  rw [← e0] at y0
  skip
  rw [← e2] at y2
  rw [← e3] at y3
  skip
  skip
  rw [← e6] at y4
  go_wp2_with (go_at_call 17; with_reducible refine (HKC.out _ HB.out).mono ?_; rintro e w2 ⟨rfl, hb2⟩; have n0_ := Aside0.mk (below_next HB.out hb2); have n1_ := Aside0.mk (HX.out.below hb2); have n2_ := Aside0.mk (HY.out.below hb2); clear HB HX HY hb2 x0 y0 x1 y1 x2 y2 x3 y3 x4 y4 x5 y5 x6 y6 x7 y7; have HB := n0_; have HX := n1_; have HY := n2_; clear n0_ n1_ n2_)
  have HS0 : Aside0 (XS w2 w.heap.size a.l) := ⟨⟨HX.out.c4⟩⟩
  have HT0 : Aside0 (XS w2 (w.heap.size + 1) b.l) := ⟨⟨HY.out.c4⟩⟩
  have hal : a.l.len = l.length := HL.out.1
  have hbl : b.l.len = l.length := HL'.out.1.trans HNE.out.symm
  have hlm := HLM.out
  clear HX HY e0 e1 e2 e3 e4 e5 e6 HLM
  generalize a.l = s at *
  generalize b.l = s' at *
  obtain ⟨sa, sn, sc⟩ := s
  obtain ⟨sa', sn', sc'⟩ := s'
  obtain rfl : sn = l.length := hal
  obtain rfl : sn' = l.length := hbl
  go_loopw [5] (fun v5 w' => ∃ i : Nat, v5 = .int .i64 (i : Int) ∧ i ≤ l.length ∧ Aside0 (listB (eqV W d) (l.drop i) (l'.drop i) = R) ∧ Aside0 (Below w.heap.size w w') ∧ Aside0 (XS w' w.heap.size ⟨sa, l.length, sc⟩) ∧ Aside0 (XS w' (w.heap.size + 1) ⟨sa', l.length, sc'⟩)) (fun v5 _ => l.length - (intOf v5).toNat)
  case atStart => exact ⟨0, rfl, Nat.zero_le _, ⟨HR.out⟩, HB, HS0, HT0⟩
  case round =>
    clear HB HS0 HT0
    obtain ⟨i, rfl, hi, HE, HB, HS, HT⟩ := hrel
    have s4 := HS.out.c
    by_cases hlt : i < l.length
    · have hlt' : i < l'.length := by have := HNE.out; omega
      obtain ⟨ad, rfl, hel⟩ := HL.out.2.2.2 (by omega)
      obtain ⟨ad', rfl, hel'⟩ := HL'.out.2.2.2 (by omega)
      obtain ⟨he1, he2⟩ := hel i hlt
      obtain ⟨he1', he2'⟩ := hel' i hlt'
      have hE := HE.out
      rw [listB_drop l l' i hlt hlt'] at hE
      have hfi := HF.out l[i] (List.getElem_mem hlt)
      generalize l[i] = x at *
      generalize l'[i] = y at *
      have hWr : Below W.heap.size W wr := HW.out.trans (HB.out.mono HW.out.size)
      have HPX := Aside0.mk (cells_below (pw_below_drewN hWr 1) (vl_cells he1))
      have HPY := Aside0.mk (cells_below (pw_below_drewN hWr 1) (vl_cells he1'))
      have HKY := Aside0.mk (fun w2 (hb : Below wr.heap.size wr w2) => show Calls Tryz.prog 63 #[.agg (vlC x).toArray, .agg (vlC y).toArray] w2 (fun e w' => e = .returned (.bool (eqV W d x y)) ∧ Below w2.heap.size w2 w') from HVV.out w2 x y (hWr.trans (hb.mono hWr.size)) he2 he2' hfi)
      generalize eqV W d x y = q at *
      have HEn := Aside0.mk hE
      have HBr := HB
      clear HE HB hE he1 he1' he2 he2' hel hel' hfi hWr
      have c1 : (i : Int) < (l.length : Int) := by omega
      have c2 : (0 : Int) ≤ (i : Int) := by omega
      have HB : Aside0 (Below wr.heap.size wr wr.drew) := ⟨below_drew1 (Below.refl _ _)⟩
      go_wp2_with fail
      clear s4
      refine start_ (n := 12) (S := fun w' => (∀ j v, (vlC x)[j]? = some v → w'.cell? ((ad.add (i * 8)).add j) = some v) ∧ (∀ j v, (vlC y)[j]? = some v → w'.cell? ((ad'.add (i * 8)).add j) = some v) ∧ (w'.cell? ⟨w.heap.size, 4, none⟩ = some (.slice (some ad) l.length sc)) ∧ (w'.cell? ⟨w.heap.size + 1, 4, none⟩ = some (.slice (some ad') l.length sc'))) (ds := []) #[false, false, false, false, false, false, false, false, false, false, false, false] (by kernel_rfl) rfl rfl ⟨(cells_below HB.out HPX.out), (cells_below HB.out HPY.out), ((HS.out.below HB.out).c), ((HT.out.below HB.out).c)⟩ (fun hHeld => ?_)
      refine pure_ (i := 0) (N := some 70) (v := ?_) (a' := ?_) #[true, false, false, false, false, false, false, false, false, false, false, false] rfl rfl (by kernel_rfl) (fun _ _ _ h => h) (Or.inl ⟨by rfl, ?_⟩) ?_ ?_
      rotate_left
      · intro w'
        go_simp
        first | with_reducible rfl | (rw [if_neg (by first | omega | (rw [ByteArray.size_append]; omega))])
      rotate_left
      · simp only [Act.put, List.setIfInBounds_toArray, List.set_cons_zero, List.set_cons_succ]
        rfl
      refine pure_ (i := 2) (N := some 72) (v := ?_) (a' := ?_) #[true, false, true, false, false, false, false, false, false, false, false, false] rfl rfl (by kernel_rfl) (fun _ _ _ h => h) (Or.inl ⟨by rfl, ?_⟩) ?_ ?_
      rotate_left
      · intro w'
        go_simp
        first | with_reducible rfl | (rw [if_neg (by first | omega | (rw [ByteArray.size_append]; omega))])
      rotate_left
      · simp only [Act.put, List.setIfInBounds_toArray, List.set_cons_zero, List.set_cons_succ]
        rfl
      refine pure_ (i := 5) (N := some 75) (v := ?_) (a' := ?_) #[true, false, true, false, false, true, false, false, false, false, false, false] rfl rfl (by kernel_rfl) (fun _ _ _ h => h) (Or.inl ⟨by rfl, ?_⟩) ?_ ?_
      rotate_left
      · intro w'
        go_simp
        first | with_reducible rfl | (rw [if_neg (by first | omega | (rw [ByteArray.size_append]; omega))])
      rotate_left
      · simp only [Act.put, List.setIfInBounds_toArray, List.set_cons_zero, List.set_cons_succ]
        rfl
      refine pure_ (i := 7) (N := some 77) (v := ?_) (a' := ?_) #[true, false, true, false, false, true, false, true, false, false, false, false] rfl rfl (by kernel_rfl) (fun _ _ _ h => h) (Or.inl ⟨by rfl, ?_⟩) ?_ ?_
      rotate_left
      · intro w'
        go_simp
        first | with_reducible rfl | (rw [if_neg (by first | omega | (rw [ByteArray.size_append]; omega))])
      rotate_left
      · simp only [Act.put, List.setIfInBounds_toArray, List.set_cons_zero, List.set_cons_succ]
        rfl
      refine take_ (i := 1) (N := some 71) (v := ?_) (a' := ?_) #[true, true, true, false, false, true, false, true, false, false, false, false] rfl rfl (by kernel_rfl) (fun _ _ _ h => h) (Or.inl ⟨by rfl, ?_⟩) hHeld ?_ ?_
      rotate_left
      · rintro w' ⟨s0, s1, s2, s3⟩
        go_simp
        first | with_reducible rfl | (rw [if_neg (by first | omega | (rw [ByteArray.size_append]; omega))])
      rotate_left
      · simp only [Act.put, List.setIfInBounds_toArray, List.set_cons_zero, List.set_cons_succ]
        rfl
      refine pure_ (i := 3) (N := some 73) (v := ?_) (a' := ?_) #[true, true, true, true, false, true, false, true, false, false, false, false] rfl rfl (by kernel_rfl) (fun _ _ _ h => h) (Or.inl ⟨by rfl, ?_⟩) ?_ ?_
      rotate_left
      · intro w'
        go_simp
        first | with_reducible rfl | (rw [if_neg (by first | omega | (rw [ByteArray.size_append]; omega))])
      rotate_left
      · simp only [Act.put, List.setIfInBounds_toArray, List.set_cons_zero, List.set_cons_succ]
        rfl
      refine take_ (i := 4) (N := some 74) (v := ?_) (a' := ?_) #[true, true, true, true, true, true, false, true, false, false, false, false] rfl rfl (by kernel_rfl) (fun _ _ _ h => h) (Or.inl ⟨by rfl, ?_⟩) hHeld ?_ ?_
      rotate_left
      · rintro w' ⟨s0, s1, s2, s3⟩
        refine ld_at 57 (.tmp 73) ?_ (ad.add (i * 8)) ?_ (vlC x) s0 Tryz.underlying57 ?_ ?_ <;> first | rfl | kernel_rfl
      rotate_left
      · simp only [Act.put, List.setIfInBounds_toArray, List.set_cons_zero, List.set_cons_succ]
        rfl
      refine take_ (i := 6) (N := some 76) (v := ?_) (a' := ?_) #[true, true, true, true, true, true, true, true, false, false, false, false] rfl rfl (by kernel_rfl) (fun _ _ _ h => h) (Or.inl ⟨by rfl, ?_⟩) hHeld ?_ ?_
      rotate_left
      · rintro w' ⟨s0, s1, s2, s3⟩
        go_simp
        first | with_reducible rfl | (rw [if_neg (by first | omega | (rw [ByteArray.size_append]; omega))])
      rotate_left
      · simp only [Act.put, List.setIfInBounds_toArray, List.set_cons_zero, List.set_cons_succ]
        rfl
      refine pure_ (i := 8) (N := some 78) (v := ?_) (a' := ?_) #[true, true, true, true, true, true, true, true, true, false, false, false] rfl rfl (by kernel_rfl) (fun _ _ _ h => h) (Or.inl ⟨by rfl, ?_⟩) ?_ ?_
      rotate_left
      · intro w'
        go_simp
        first | with_reducible rfl | (rw [if_neg (by first | omega | (rw [ByteArray.size_append]; omega))])
      rotate_left
      · simp only [Act.put, List.setIfInBounds_toArray, List.set_cons_zero, List.set_cons_succ]
        rfl
      refine take_ (i := 9) (N := some 79) (v := ?_) (a' := ?_) #[true, true, true, true, true, true, true, true, true, true, false, false] rfl rfl (by kernel_rfl) (fun _ _ _ h => h) (Or.inl ⟨by rfl, ?_⟩) hHeld ?_ ?_
      rotate_left
      · rintro w' ⟨s0, s1, s2, s3⟩
        refine ld_at 57 (.tmp 78) ?_ (ad'.add (i * 8)) ?_ (vlC y) s1 Tryz.underlying57 ?_ ?_ <;> first | rfl | kernel_rfl
      rotate_left
      · simp only [Act.put, List.setIfInBounds_toArray, List.set_cons_zero, List.set_cons_succ]
        rfl
      refine one_ (i := 10) (N := some 80) #[true, true, true, true, true, true, true, true, true, true, true, false] rfl rfl (by kernel_rfl) (by decide) (fun K hK => ?_)
      refine goes_ Tryz.func63 (by kernel_rfl) rfl #[.agg (vlC x).toArray, .agg (vlC y).toArray] (by rfl) rfl rfl (by simp only [List.map_toArray, List.map_cons, List.map_nil]; rfl) ?_
      with_reducible refine (HKY.out _ HB.out).mono ?_
      rintro e w3 ⟨rfl, hb⟩
      refine ⟨_, rfl, ?_⟩
      have HBn := Aside0.mk (below_next HB.out hb)
      clear HB
      have HB := HBn
      clear HBn hb
      refine hK.out _ _ ⟨(cells_below HB.out HPX.out), (cells_below HB.out HPY.out), ((HS.out.below HB.out).c), ((HT.out.below HB.out).c)⟩ (fun hHeld => ?_)
      clear hK K
      refine norm_ (a' := ?_) ?_ ?_
      rotate_left
      · show Act.put _ (some 80) _ = _
        simp only [Act.put, List.setIfInBounds_toArray, List.set_cons_zero, List.set_cons_succ]
        rfl
      refine pure_ (i := 11) (N := some 81) (v := ?_) (a' := ?_) #[true, true, true, true, true, true, true, true, true, true, true, true] rfl rfl (by kernel_rfl) (fun _ _ _ h => h) (Or.inl ⟨by rfl, ?_⟩) ?_ ?_
      rotate_left
      · intro w'
        go_simp
        first | with_reducible rfl | (rw [if_neg (by first | omega | (rw [ByteArray.size_append]; omega))])
      rotate_left
      · simp only [Act.put, List.setIfInBounds_toArray, List.set_cons_zero, List.set_cons_succ]
        rfl
      refine done_ (by kernel_rfl) ?_
      cases q
      · have HRq := Aside0.mk (show R = false from HEn.out.symm)
        go_wp2_with fail
        go_ret
        exact ⟨by rw [HRq.out]; rfl, below_next HBr.out HB.out⟩
      · have HRq := Aside0.mk (show listB (eqV W d) (l.drop (i + 1)) (l'.drop (i + 1)) = R from HEn.out)
        go_wp2_with fail
        go_roundw
        case rel => exact ⟨i + 1, by go_num, by omega, HRq, ⟨below_next HBr.out HB.out⟩, ⟨HS.out.below HB.out⟩, ⟨HT.out.below HB.out⟩⟩
        case measure => simp [intOf]; omega
    · have HRq := Aside0.mk (show R = true by
        rw [← HE.out, List.drop_of_length_le (by omega), List.drop_of_length_le (by have := HNE.out; omega)]; rfl)
      go_wp2_with fail
      go_ret
      exact ⟨by rw [HRq.out]; rfl, HB.out⟩
end Go.Proofs.YtnghlkbmfhkmoaaGreatDoor
namespace Go.Proofs.YtnghlkbmfhkmoaaGreatDoor
open Go.RowKit Go.Proofs.YtnghlkbmfhkmoaaGreatDoorW.PrintWords Go.Proofs.YtnghlkbmfhkmoaaGreatDoorW.PrintLast Go.Proofs.YtnghlkbmfhkmoaaGreatDoorW.PrintMore

/-! ### the document's Value, Keys, however deep -/
theorem rval_next (W : World) (d : Nat) (HV : RSV W d) (HK : RSK W d) : RSV W (d + 1) := by
  intro w a b hW ha hb hf
  have hE : eqV W (d + 1) a b = (baseV a b && (listB (eqV W d) (vls W a.l) (vls W b.l) && listB (eqK (eqV W d)) (kvs W a.m) (kvs W b.m))) := rfl
  rw [hE]
  unfold baseV
  by_cases e0 : a.kind = b.kind
  · cases e1 : (a.s.toList == b.s.toList)
    · have h := rval_1 w a b e0 e1
      unfold stB
      simp only [e1, Bool.false_and, Bool.and_false]
      exact h
    · by_cases e2 : a.b = b.b
      · by_cases e3 : a.n = b.n
        · cases e4 : (a.inner.toList == b.inner.toList)
          · have h := rval_4 w a b e0 e1 e2 e3 e4
            unfold stB
            simp only [e4, Bool.false_and, Bool.and_false]
            exact h
          · cases e5 : (a.unk.toList == b.unk.toList)
            · have h := rval_5 w a b e0 e1 e2 e3 e4 e5
              unfold stB
              simp only [e5, Bool.false_and, Bool.and_false]
              exact h
            · by_cases e6 : a.l.len = b.l.len
              · cases e7 : listB (eqK (eqV W d)) (kvs W a.m) (kvs W b.m)
                · have h := rval_k W w d HK a b hW ha hb hf e0 e1 e2 e3 e4 e5 e6 e7
                  simp only [Bool.and_false]
                  exact h
                · have h := rval_l W w d HK HV a b hW ha hb hf e0 e1 e2 e3 e4 e5 e6 e7
                  unfold stB
                  simp only [e0, e1, e2, e3, e4, e5, decide_true, Bool.true_and, Bool.and_true]
                  exact h
              · have h := rval_6 w a b e0 e1 e2 e3 e4 e5 e6
                have hn := listB_len (f := eqV W d) (vls W a.l) (vls W b.l) (by rw [← (vls_at ha.l).1, ← (vls_at hb.l).1]; exact e6)
                simp only [hn, Bool.false_and, Bool.and_false]
                exact h
        · have h := rval_3 w a b e0 e1 e2 e3
          simp only [e3, decide_false, Bool.false_and, Bool.and_false]
          exact h
      · have h := rval_2 w a b e0 e1 e2
        simp only [e2, decide_false, Bool.false_and, Bool.and_false]
        exact h
  · have h := rval_0 w a b e0
    simp only [e0, decide_false, Bool.false_and]
    exact h
theorem rval_any (W : World) : ∀ d, RSV W d
  | 0 => fun _ _ _ _ _ _ hf => hf.elim
  | d + 1 => rval_next W d (rval_any W d) (rkeys_any W d (rval_any W d))
theorem rkeys_all (W : World) (d : Nat) : RSK W d := rkeys_any W d (rval_any W d)
end Go.Proofs.YtnghlkbmfhkmoaaGreatDoor
