import Derived.Test.YtnghlkbmfhkmoaaGreatDoorMkljalyah
import Derived.Test.YtnghlkbmfhkmoaaGreatDoorMwysuqsvv
import Derived.Test.YtnghlkbmfhkmoaaGreatDoorMzxmmykla
namespace Go.Proofs.YtnghlkbmfhkmoaaGreatDoor
open Go.RowKit Go.Proofs.YtnghlkbmfhkmoaaGreatDoorW.PrintWords Go.Proofs.YtnghlkbmfhkmoaaGreatDoorW.PrintLast Go.Proofs.YtnghlkbmfhkmoaaGreatDoorW.PrintMore Hy

def exmA (x : Exm) : Value := .agg (exmC x).toArray
theorem ld_row {P : Program} {o : Oper} {a : Act} {w : World} (ty : TypeId) (x : Operand) (ho : o.op = .load ty x) (g : Nat) (hx : a.eval x = .pointer (some ⟨g, 0, none⟩)) (t : TypeId) (cs : Array Value) (fr : Nat × Nat) (d : TypeDesc) (hg : w.heap[g]? = some (.cells cs t fr))
    (hu : P.underlying ty = some d) (hd : (match d with | .struct _ | .array _ _ => true | _ => false) = true) (hi : (P.info? ty).map (·.size) = some cs.size) : (execOp a.eval o).run P w = .ok (.value (.agg cs)) w := by
  unfold execOp
  simp only [ho, hx, Instr.loadAt, Instr.sureAddr, Sem.run_bind, Sem.run_pure, Result.andThen_ok, run_loadVar_row w g t ty cs fr d hg hu hd hi]
set_option maxHeartbeats 4000000 in
set_option maxRecDepth 100000 in
theorem exemSame_walk (a b : Exm) (w : World) (ha : ExmOk w a) (_hsa : ∀ p, a.attrs.a = some p → p.spot = none) (hb : ExmOk w b) (_hsb : ∀ p, b.attrs.a = some p → p.spot = none) (hg : Laid w) :
    Calls Tryz.prog 3 #[exmA a, exmA b] w fun e w' => e = .returned (.bool true) ∧ Below w.heap.size w w' := by
  have FF := Aside0.mk (fun w2 (h : Below w.heap.size w w2) => exfirst_any w2 (hg.below h))
  have R1 := Aside0.mk (fun w2 (h : Below w.heap.size w w2) => rex_any w w2 a 12000 h ha (by omega) (by omega))
  have R2 := Aside0.mk (fun w2 (h : Below w.heap.size w w2) => rex_any w w2 b 12000 h hb (by omega) (by omega))
  have HA := Aside0.mk ha
  have HBo := Aside0.mk hb
  clear hg ha hb _hsa _hsb
  unfold exmA
  go_enter Tryz.func3, Tryz.ntmps3
  go_upto_region 1 with (first
    | ((with_reducible refine gate_dst (N := 2) rfl ?_); refine Great.wpList_boxTo rfl 25 _ rfl _ rfl w.heap.size rfl (exmC a).toArray rfl ?_)
    | ((with_reducible refine gate_dst (N := 3) rfl ?_); refine Great.wpList_boxTo rfl 25 _ rfl _ rfl (w.heap.size + 1) (by simp only [World.size_alloc]) (exmC b).toArray rfl ?_))
  have H1 : Aside0 (XEm ((w.alloc (.cells (exmC a).toArray 25)).alloc (.cells (exmC b).toArray 25)) w.heap.size a) := ⟨XEm.below ⟨heap_alloc_new w _⟩ ((Below.refl _ _).alloc (Nat.le_refl _) _)⟩
  have H2 : Aside0 (XEm ((w.alloc (.cells (exmC a).toArray 25)).alloc (.cells (exmC b).toArray 25)) (w.heap.size + 1) b) := ⟨⟨by have h := heap_alloc_new (w.alloc (.cells (exmC a).toArray 25)) (.cells (exmC b).toArray 25); rw [World.size_alloc] at h; exact h⟩⟩
  have HB : Aside0 (Below w.heap.size w ((w.alloc (.cells (exmC a).toArray 25)).alloc (.cells (exmC b).toArray 25))) := ⟨((Below.refl _ _).alloc (Nat.le_refl _) _).alloc (by simp only [World.size_alloc]; omega) _⟩
  generalize ((w.alloc (.cells (exmC a).toArray 25)).alloc (.cells (exmC b).toArray 25)) = w1 at *
  generalize w.heap.size + 1 = g2 at H2 ⊢
  generalize hg1 : w.heap.size = g1 at H1 ⊢
  have HGG := Aside0.mk hg1
  clear hg1
  go_wp2_with (first
    | (go_at_call 5; with_reducible refine (FF.out _ HB.out).mono ?_; rintro e w2 ⟨rfl, hb⟩; have n0_ := Aside0.mk (below_next HB.out hb); have n1_ := Aside0.mk (H1.out.below hb); have n2_ := Aside0.mk (H2.out.below hb); clear HB H1 H2 hb; have HB := n0_; have H1 := n1_; have H2 := n2_; clear n0_ n1_ n2_)
    | (refine wpList_load_row rfl 25 _ rfl g1 rfl 25 (exmC a).toArray (0, 0) _ H1.out.blk Tryz.underlying25 rfl (by kernel_rfl) ?_))
  refine (R1.out _ HB.out).mono ?_
  rintro e w3 ⟨r1, rfl, hr1, hb⟩
  have n0_ := Aside0.mk (below_next HB.out hb)
  have n1_ := Aside0.mk (H1.out.below hb)
  have n2_ := Aside0.mk (H2.out.below hb)
  clear HB H1 H2 hb
  have HB := n0_
  have H1 := n1_
  have H2 := n2_
  clear n0_ n1_ n2_
  by_cases c1 : r1 < 0
  · clear hr1
    go_wp2_with (go_at_call 5; with_reducible refine (FF.out _ HB.out).mono ?_; rintro e w9 ⟨rfl, hb⟩; have n0_ := Aside0.mk (below_next HB.out hb); clear HB hb; have HB := n0_; clear n0_)
    go_ret
    exact ⟨rfl, HB.out⟩
  · have d1 : decide (r1 < 0) = false := decide_eq_false c1
    have F1 := Aside0.mk (hr1.2 (by omega))
    clear hr1
    go_wp2_with (first | (refine wpList_load_rowG (by rfl) 25 _ rfl g2 rfl 25 (exmC b).toArray (0, 0) _ H2.out.blk Tryz.underlying25 rfl (by kernel_rfl) ?_) | ((simp only []); (refine wpList_load_rowG (by rfl) 25 _ rfl g2 rfl 25 (exmC b).toArray (0, 0) _ H2.out.blk Tryz.underlying25 rfl (by kernel_rfl) ?_)))
    refine (R2.out _ HB.out).mono ?_
    rintro e w4 ⟨r2, rfl, hr2, hb⟩
    have n0_ := Aside0.mk (below_next HB.out hb)
    have n1_ := Aside0.mk (H1.out.below hb)
    have n2_ := Aside0.mk (H2.out.below hb)
    clear HB H1 H2 hb
    have HB := n0_
    have H1 := n1_
    have H2 := n2_
    clear n0_ n1_ n2_
    by_cases c2 : r2 < 0
    · clear hr2
      go_wp2_with (go_at_call 5; with_reducible refine (FF.out _ HB.out).mono ?_; rintro e w9 ⟨rfl, hb⟩; have n0_ := Aside0.mk (below_next HB.out hb); clear HB hb; have HB := n0_; clear n0_)
      go_ret
      exact ⟨rfl, HB.out⟩
    · have d2 : decide (r2 < 0) = false := decide_eq_false c2
      clear hr2
      go_upto_region 5 with fail
      obtain ⟨q, C1, D1, C2⟩ : ∃ q : Bool, Aside0 (∀ w5, Below w4.heap.size w4 w5 → Calls Tryz.prog 7 #[.agg (exmC a).toArray, .agg (exmC b).toArray] w5 fun e w' => e = .returned (.bool q) ∧ Below w5.heap.size w5 w') ∧ Aside0 (∀ w5, Below w4.heap.size w4 w5 → Calls Tryz.prog 8 #[.agg (exmC a).toArray, .agg (exmC b).toArray] w5 fun e w' => e = .returned (.bool q) ∧ Below w5.heap.size w5 w') ∧
          Aside0 (∀ w5, Below w4.heap.size w4 w5 → Calls Tryz.prog 7 #[.agg (exmC a).toArray, .agg (exmC a).toArray] w5 fun e w' => e = .returned (.bool true) ∧ Below w5.heap.size w5 w') := by
        refine ⟨_, ⟨fun w5 h => sexm_any w5 a b _ (fun w6 h6 => skeys_all w 41 w6 a.attrs b.attrs (HB.out.trans ((h.trans (h6.mono h.size)).mono HB.out.size)) HA.out.attrs HBo.out.attrs F1.out)⟩, ⟨fun w5 h => ?_⟩, ⟨fun w5 h => ?_⟩⟩
        · have hD := rexm_any w5 a b _ (fun w6 h6 => rkeys_all w 41 w6 a.attrs b.attrs (HB.out.trans ((h.trans (h6.mono h.size)).mono HB.out.size)) HA.out.attrs HBo.out.attrs F1.out)
          refine hD.mono ?_
          rintro e w' ⟨rfl, hb⟩
          refine ⟨?_, hb⟩
          simp only [Bool.and_assoc, Bool.and_comm, Bool.and_left_comm]
        · have hC := sexm_any w5 a a _ (fun w6 h6 => skeys_all w 41 w6 a.attrs a.attrs (HB.out.trans ((h.trans (h6.mono h.size)).mono HB.out.size)) HA.out.attrs HA.out.attrs F1.out)
          rw [listB_self _ (fun x hx => by unfold eqK; rw [eqV_self w 41 x.v (F1.out x hx), stB_self, stB_self]; simp)] at hC
          simp only [stB_self, decide_true, Bool.and_true] at hC
          exact hC
      have HBW := Aside0.mk HB.out
      have FF4 := Aside0.mk (fun w5 (h : Below w4.heap.size w4 w5) => FF.out w5 (HBW.out.trans (h.mono HBW.out.size)))
      have HB5 := Aside0.mk (show Below w4.heap.size w4 w4.drew from below_drew1 (Below.refl _ _))
      clear HB FF R1 R2 F1
      have HB := HB5
      have FF := FF4
      clear HB5 FF4 HA HBo
      cases q
      · skip
        refine start_ (n := 16) (S := fun w' => XEm w' g1 a ∧ XEm w' g2 b) (ds := []) #[false, false, false, false, false, false, false, false, false, false, false, false, false, false, false, false] (by kernel_rfl) rfl rfl ⟨(XEm.below H1.out HB.out), (XEm.below H2.out HB.out)⟩ (fun hHeld => ?_)
        refine one_ (i := 0) (N := some 16) #[true, false, false, false, false, false, false, false, false, false, false, false, false, false, false, false] rfl rfl (by kernel_rfl) (by decide) (fun K hK => ?_)
        refine goes_ Tryz.func5 (by kernel_rfl) rfl #[] (by rfl) rfl rfl (by simp only [List.map_toArray, List.map_nil]) ?_
        with_reducible refine (FF.out _ HB.out).mono ?_
        rintro e w10 ⟨rfl, hb⟩
        refine ⟨_, rfl, ?_⟩
        have HBn := Aside0.mk (below_next HB.out hb)
        clear HB
        have HB := HBn
        clear HBn hb
        refine hK.out _ _ ⟨(XEm.below H1.out HB.out), (XEm.below H2.out HB.out)⟩ (fun hHeld => ?_)
        clear hK K
        refine norm_ (a' := ?_) ?_ ?_
        rotate_left
        · show Act.put _ (some 16) _ = _
          simp only [Act.put, List.setIfInBounds_toArray, List.set_cons_zero, List.set_cons_succ]
          rfl
        refine pure_ (i := 1) (N := some 17) (v := ?_) (a' := ?_) #[true, true, false, false, false, false, false, false, false, false, false, false, false, false, false, false] rfl rfl (by kernel_rfl) (fun _ _ _ h => h) (Or.inl ⟨by rfl, ?_⟩) ?_ ?_
        rotate_left
        · intro w'
          go_simp
          first | with_reducible rfl | (rw [if_neg (by first | omega | (rw [ByteArray.size_append]; omega))])
        rotate_left
        · simp only [Act.put, List.setIfInBounds_toArray, List.set_cons_zero, List.set_cons_succ]
          rfl
        refine take_ (i := 2) (N := some 18) (v := ?_) (a' := ?_) #[true, true, true, false, false, false, false, false, false, false, false, false, false, false, false, false] rfl rfl (by kernel_rfl) (fun _ _ _ h => h) (Or.inl ⟨by rfl, ?_⟩) hHeld ?_ ?_
        rotate_left
        · rintro w' ⟨s0, s1⟩
          refine ld_row 25 (.tmp 2) ?_ g1 ?_ 25 _ (0, 0) _ s0.blk Tryz.underlying25 ?_ ?_ <;> first | rfl | kernel_rfl
        rotate_left
        · simp only [Act.put, List.setIfInBounds_toArray, List.set_cons_zero, List.set_cons_succ]
          rfl
        refine take_ (i := 3) (N := some 19) (v := ?_) (a' := ?_) #[true, true, true, true, false, false, false, false, false, false, false, false, false, false, false, false] rfl rfl (by kernel_rfl) (fun _ _ _ h => h) (Or.inl ⟨by rfl, ?_⟩) hHeld ?_ ?_
        rotate_left
        · rintro w' ⟨s0, s1⟩
          refine ld_row 25 (.tmp 3) ?_ g2 ?_ 25 _ (0, 0) _ s1.blk Tryz.underlying25 ?_ ?_ <;> first | rfl | kernel_rfl
        rotate_left
        · simp only [Act.put, List.setIfInBounds_toArray, List.set_cons_zero, List.set_cons_succ]
          rfl
        refine take_ (i := 5) (N := some 21) (v := ?_) (a' := ?_) #[true, true, true, true, false, true, false, false, false, false, false, false, false, false, false, false] rfl rfl (by kernel_rfl) (fun _ _ _ h => h) (Or.inl ⟨by rfl, ?_⟩) hHeld ?_ ?_
        rotate_left
        · rintro w' ⟨s0, s1⟩
          refine ld_row 25 (.tmp 2) ?_ g1 ?_ 25 _ (0, 0) _ s0.blk Tryz.underlying25 ?_ ?_ <;> first | rfl | kernel_rfl
        rotate_left
        · simp only [Act.put, List.setIfInBounds_toArray, List.set_cons_zero, List.set_cons_succ]
          rfl
        refine take_ (i := 6) (N := some 22) (v := ?_) (a' := ?_) #[true, true, true, true, false, true, true, false, false, false, false, false, false, false, false, false] rfl rfl (by kernel_rfl) (fun _ _ _ h => h) (Or.inl ⟨by rfl, ?_⟩) hHeld ?_ ?_
        rotate_left
        · rintro w' ⟨s0, s1⟩
          refine ld_row 25 (.tmp 3) ?_ g2 ?_ 25 _ (0, 0) _ s1.blk Tryz.underlying25 ?_ ?_ <;> first | rfl | kernel_rfl
        rotate_left
        · simp only [Act.put, List.setIfInBounds_toArray, List.set_cons_zero, List.set_cons_succ]
          rfl
        refine one_ (i := 4) (N := some 20) #[true, true, true, true, true, true, true, false, false, false, false, false, false, false, false, false] rfl rfl (by kernel_rfl) (by decide) (fun K hK => ?_)
        refine goes_ Tryz.func7 (by kernel_rfl) rfl #[.agg (exmC a).toArray, .agg (exmC b).toArray] (by rfl) rfl rfl (by simp only [List.map_toArray, List.map_cons, List.map_nil]; rfl) ?_
        with_reducible refine (C1.out _ HB.out).mono ?_
        rintro e w11 ⟨rfl, hb⟩
        refine ⟨_, rfl, ?_⟩
        have HBn := Aside0.mk (below_next HB.out hb)
        clear HB
        have HB := HBn
        clear HBn hb
        refine hK.out _ _ ⟨(XEm.below H1.out HB.out), (XEm.below H2.out HB.out)⟩ (fun hHeld => ?_)
        clear hK K
        refine norm_ (a' := ?_) ?_ ?_
        rotate_left
        · show Act.put _ (some 20) _ = _
          simp only [Act.put, List.setIfInBounds_toArray, List.set_cons_zero, List.set_cons_succ]
          rfl
        refine one_ (i := 7) (N := some 23) #[true, true, true, true, true, true, true, true, false, false, false, false, false, false, false, false] rfl rfl (by kernel_rfl) (by decide) (fun K hK => ?_)
        refine goes_ Tryz.func8 (by kernel_rfl) rfl #[.agg (exmC a).toArray, .agg (exmC b).toArray] (by rfl) rfl rfl (by simp only [List.map_toArray, List.map_cons, List.map_nil]; rfl) ?_
        with_reducible refine (D1.out _ HB.out).mono ?_
        rintro e w12 ⟨rfl, hb⟩
        refine ⟨_, rfl, ?_⟩
        have HBn := Aside0.mk (below_next HB.out hb)
        clear HB
        have HB := HBn
        clear HBn hb
        refine hK.out _ _ ⟨(XEm.below H1.out HB.out), (XEm.below H2.out HB.out)⟩ (fun hHeld => ?_)
        clear hK K
        refine norm_ (a' := ?_) ?_ ?_
        rotate_left
        · show Act.put _ (some 23) _ = _
          simp only [Act.put, List.setIfInBounds_toArray, List.set_cons_zero, List.set_cons_succ]
          rfl
        refine pure_ (i := 8) (N := some 24) (v := ?_) (a' := ?_) #[true, true, true, true, true, true, true, true, true, false, false, false, false, false, false, false] rfl rfl (by kernel_rfl) (fun _ _ _ h => h) (Or.inl ⟨by rfl, ?_⟩) ?_ ?_
        rotate_left
        · intro w'
          go_simp
          first | with_reducible rfl | (rw [if_neg (by first | omega | (rw [ByteArray.size_append]; omega))])
        rotate_left
        · simp only [Act.put, List.setIfInBounds_toArray, List.set_cons_zero, List.set_cons_succ]
          rfl
        refine pure_ (i := 9) (N := some 25) (v := ?_) (a' := ?_) #[true, true, true, true, true, true, true, true, true, true, false, false, false, false, false, false] rfl rfl (by kernel_rfl) (fun _ _ _ h => h) (Or.inl ⟨by rfl, ?_⟩) ?_ ?_
        rotate_left
        · intro w'
          go_simp
          first | with_reducible rfl | (rw [if_neg (by first | omega | (rw [ByteArray.size_append]; omega))])
        rotate_left
        · simp only [Act.put, List.setIfInBounds_toArray, List.set_cons_zero, List.set_cons_succ]
          rfl
        refine pure_ (i := 10) (N := some 26) (v := ?_) (a' := ?_) #[true, true, true, true, true, true, true, true, true, true, true, false, false, false, false, false] rfl rfl (by kernel_rfl) (fun _ _ _ h => h) (Or.inl ⟨by rfl, ?_⟩) ?_ ?_
        rotate_left
        · intro w'
          go_simp
          first | with_reducible rfl | (rw [if_neg (by first | omega | (rw [ByteArray.size_append]; omega))])
        rotate_left
        · simp only [Act.put, List.setIfInBounds_toArray, List.set_cons_zero, List.set_cons_succ]
          rfl
        refine take_ (i := 11) (N := some 27) (v := ?_) (a' := ?_) #[true, true, true, true, true, true, true, true, true, true, true, true, false, false, false, false] rfl rfl (by kernel_rfl) (fun _ _ _ h => h) (Or.inl ⟨by rfl, ?_⟩) hHeld ?_ ?_
        rotate_left
        · rintro w' ⟨s0, s1⟩
          refine ld_row 25 (.tmp 2) ?_ g1 ?_ 25 _ (0, 0) _ s0.blk Tryz.underlying25 ?_ ?_ <;> first | rfl | kernel_rfl
        rotate_left
        · simp only [Act.put, List.setIfInBounds_toArray, List.set_cons_zero, List.set_cons_succ]
          rfl
        refine take_ (i := 12) (N := some 28) (v := ?_) (a' := ?_) #[true, true, true, true, true, true, true, true, true, true, true, true, true, false, false, false] rfl rfl (by kernel_rfl) (fun _ _ _ h => h) (Or.inl ⟨by rfl, ?_⟩) hHeld ?_ ?_
        rotate_left
        · rintro w' ⟨s0, s1⟩
          refine ld_row 25 (.tmp 2) ?_ g1 ?_ 25 _ (0, 0) _ s0.blk Tryz.underlying25 ?_ ?_ <;> first | rfl | kernel_rfl
        rotate_left
        · simp only [Act.put, List.setIfInBounds_toArray, List.set_cons_zero, List.set_cons_succ]
          rfl
        refine one_ (i := 13) (N := some 29) #[true, true, true, true, true, true, true, true, true, true, true, true, true, true, false, false] rfl rfl (by kernel_rfl) (by decide) (fun K hK => ?_)
        refine goes_ Tryz.func7 (by kernel_rfl) rfl #[.agg (exmC a).toArray, .agg (exmC a).toArray] (by rfl) rfl rfl (by simp only [List.map_toArray, List.map_cons, List.map_nil]; rfl) ?_
        with_reducible refine (C2.out _ HB.out).mono ?_
        rintro e w13 ⟨rfl, hb⟩
        refine ⟨_, rfl, ?_⟩
        have HBn := Aside0.mk (below_next HB.out hb)
        clear HB
        have HB := HBn
        clear HBn hb
        refine hK.out _ _ ⟨(XEm.below H1.out HB.out), (XEm.below H2.out HB.out)⟩ (fun hHeld => ?_)
        clear hK K
        refine norm_ (a' := ?_) ?_ ?_
        rotate_left
        · show Act.put _ (some 29) _ = _
          simp only [Act.put, List.setIfInBounds_toArray, List.set_cons_zero, List.set_cons_succ]
          rfl
        refine pure_ (i := 14) (N := some 30) (v := ?_) (a' := ?_) #[true, true, true, true, true, true, true, true, true, true, true, true, true, true, true, false] rfl rfl (by kernel_rfl) (fun _ _ _ h => h) (Or.inl ⟨by rfl, ?_⟩) ?_ ?_
        rotate_left
        · intro w'
          go_simp
          first | with_reducible rfl | (rw [if_neg (by first | omega | (rw [ByteArray.size_append]; omega))])
        rotate_left
        · simp only [Act.put, List.setIfInBounds_toArray, List.set_cons_zero, List.set_cons_succ]
          rfl
        refine pure_ (i := 15) (N := some 4) (v := ?_) (a' := ?_) #[true, true, true, true, true, true, true, true, true, true, true, true, true, true, true, true] rfl rfl (by kernel_rfl) (fun _ _ _ h => h) (Or.inl ⟨by rfl, ?_⟩) ?_ ?_
        rotate_left
        · intro w'
          go_simp
          first | with_reducible rfl | (rw [if_neg (by first | omega | (rw [ByteArray.size_append]; omega))])
        rotate_left
        · simp only [Act.put, List.setIfInBounds_toArray, List.set_cons_zero, List.set_cons_succ]
          rfl
        refine done_ (by kernel_rfl) ?_
        go_wp2_with fail
        go_ret
        exact ⟨rfl, HBW.out.trans (HB.out.mono HBW.out.size)⟩
      · skip
        refine start_ (n := 16) (S := fun w' => XEm w' g1 a ∧ XEm w' g2 b) (ds := []) #[false, false, false, false, false, false, false, false, false, false, false, false, false, false, false, false] (by kernel_rfl) rfl rfl ⟨(XEm.below H1.out HB.out), (XEm.below H2.out HB.out)⟩ (fun hHeld => ?_)
        refine one_ (i := 0) (N := some 16) #[true, false, false, false, false, false, false, false, false, false, false, false, false, false, false, false] rfl rfl (by kernel_rfl) (by decide) (fun K hK => ?_)
        refine goes_ Tryz.func5 (by kernel_rfl) rfl #[] (by rfl) rfl rfl (by simp only [List.map_toArray, List.map_nil]) ?_
        with_reducible refine (FF.out _ HB.out).mono ?_
        rintro e w10 ⟨rfl, hb⟩
        refine ⟨_, rfl, ?_⟩
        have HBn := Aside0.mk (below_next HB.out hb)
        clear HB
        have HB := HBn
        clear HBn hb
        refine hK.out _ _ ⟨(XEm.below H1.out HB.out), (XEm.below H2.out HB.out)⟩ (fun hHeld => ?_)
        clear hK K
        refine norm_ (a' := ?_) ?_ ?_
        rotate_left
        · show Act.put _ (some 16) _ = _
          simp only [Act.put, List.setIfInBounds_toArray, List.set_cons_zero, List.set_cons_succ]
          rfl
        refine pure_ (i := 1) (N := some 17) (v := ?_) (a' := ?_) #[true, true, false, false, false, false, false, false, false, false, false, false, false, false, false, false] rfl rfl (by kernel_rfl) (fun _ _ _ h => h) (Or.inl ⟨by rfl, ?_⟩) ?_ ?_
        rotate_left
        · intro w'
          go_simp
          first | with_reducible rfl | (rw [if_neg (by first | omega | (rw [ByteArray.size_append]; omega))])
        rotate_left
        · simp only [Act.put, List.setIfInBounds_toArray, List.set_cons_zero, List.set_cons_succ]
          rfl
        refine take_ (i := 2) (N := some 18) (v := ?_) (a' := ?_) #[true, true, true, false, false, false, false, false, false, false, false, false, false, false, false, false] rfl rfl (by kernel_rfl) (fun _ _ _ h => h) (Or.inl ⟨by rfl, ?_⟩) hHeld ?_ ?_
        rotate_left
        · rintro w' ⟨s0, s1⟩
          refine ld_row 25 (.tmp 2) ?_ g1 ?_ 25 _ (0, 0) _ s0.blk Tryz.underlying25 ?_ ?_ <;> first | rfl | kernel_rfl
        rotate_left
        · simp only [Act.put, List.setIfInBounds_toArray, List.set_cons_zero, List.set_cons_succ]
          rfl
        refine take_ (i := 3) (N := some 19) (v := ?_) (a' := ?_) #[true, true, true, true, false, false, false, false, false, false, false, false, false, false, false, false] rfl rfl (by kernel_rfl) (fun _ _ _ h => h) (Or.inl ⟨by rfl, ?_⟩) hHeld ?_ ?_
        rotate_left
        · rintro w' ⟨s0, s1⟩
          refine ld_row 25 (.tmp 3) ?_ g2 ?_ 25 _ (0, 0) _ s1.blk Tryz.underlying25 ?_ ?_ <;> first | rfl | kernel_rfl
        rotate_left
        · simp only [Act.put, List.setIfInBounds_toArray, List.set_cons_zero, List.set_cons_succ]
          rfl
        refine take_ (i := 5) (N := some 21) (v := ?_) (a' := ?_) #[true, true, true, true, false, true, false, false, false, false, false, false, false, false, false, false] rfl rfl (by kernel_rfl) (fun _ _ _ h => h) (Or.inl ⟨by rfl, ?_⟩) hHeld ?_ ?_
        rotate_left
        · rintro w' ⟨s0, s1⟩
          refine ld_row 25 (.tmp 2) ?_ g1 ?_ 25 _ (0, 0) _ s0.blk Tryz.underlying25 ?_ ?_ <;> first | rfl | kernel_rfl
        rotate_left
        · simp only [Act.put, List.setIfInBounds_toArray, List.set_cons_zero, List.set_cons_succ]
          rfl
        refine take_ (i := 6) (N := some 22) (v := ?_) (a' := ?_) #[true, true, true, true, false, true, true, false, false, false, false, false, false, false, false, false] rfl rfl (by kernel_rfl) (fun _ _ _ h => h) (Or.inl ⟨by rfl, ?_⟩) hHeld ?_ ?_
        rotate_left
        · rintro w' ⟨s0, s1⟩
          refine ld_row 25 (.tmp 3) ?_ g2 ?_ 25 _ (0, 0) _ s1.blk Tryz.underlying25 ?_ ?_ <;> first | rfl | kernel_rfl
        rotate_left
        · simp only [Act.put, List.setIfInBounds_toArray, List.set_cons_zero, List.set_cons_succ]
          rfl
        refine one_ (i := 4) (N := some 20) #[true, true, true, true, true, true, true, false, false, false, false, false, false, false, false, false] rfl rfl (by kernel_rfl) (by decide) (fun K hK => ?_)
        refine goes_ Tryz.func7 (by kernel_rfl) rfl #[.agg (exmC a).toArray, .agg (exmC b).toArray] (by rfl) rfl rfl (by simp only [List.map_toArray, List.map_cons, List.map_nil]; rfl) ?_
        with_reducible refine (C1.out _ HB.out).mono ?_
        rintro e w11 ⟨rfl, hb⟩
        refine ⟨_, rfl, ?_⟩
        have HBn := Aside0.mk (below_next HB.out hb)
        clear HB
        have HB := HBn
        clear HBn hb
        refine hK.out _ _ ⟨(XEm.below H1.out HB.out), (XEm.below H2.out HB.out)⟩ (fun hHeld => ?_)
        clear hK K
        refine norm_ (a' := ?_) ?_ ?_
        rotate_left
        · show Act.put _ (some 20) _ = _
          simp only [Act.put, List.setIfInBounds_toArray, List.set_cons_zero, List.set_cons_succ]
          rfl
        refine one_ (i := 7) (N := some 23) #[true, true, true, true, true, true, true, true, false, false, false, false, false, false, false, false] rfl rfl (by kernel_rfl) (by decide) (fun K hK => ?_)
        refine goes_ Tryz.func8 (by kernel_rfl) rfl #[.agg (exmC a).toArray, .agg (exmC b).toArray] (by rfl) rfl rfl (by simp only [List.map_toArray, List.map_cons, List.map_nil]; rfl) ?_
        with_reducible refine (D1.out _ HB.out).mono ?_
        rintro e w12 ⟨rfl, hb⟩
        refine ⟨_, rfl, ?_⟩
        have HBn := Aside0.mk (below_next HB.out hb)
        clear HB
        have HB := HBn
        clear HBn hb
        refine hK.out _ _ ⟨(XEm.below H1.out HB.out), (XEm.below H2.out HB.out)⟩ (fun hHeld => ?_)
        clear hK K
        refine norm_ (a' := ?_) ?_ ?_
        rotate_left
        · show Act.put _ (some 23) _ = _
          simp only [Act.put, List.setIfInBounds_toArray, List.set_cons_zero, List.set_cons_succ]
          rfl
        refine pure_ (i := 8) (N := some 24) (v := ?_) (a' := ?_) #[true, true, true, true, true, true, true, true, true, false, false, false, false, false, false, false] rfl rfl (by kernel_rfl) (fun _ _ _ h => h) (Or.inl ⟨by rfl, ?_⟩) ?_ ?_
        rotate_left
        · intro w'
          go_simp
          first | with_reducible rfl | (rw [if_neg (by first | omega | (rw [ByteArray.size_append]; omega))])
        rotate_left
        · simp only [Act.put, List.setIfInBounds_toArray, List.set_cons_zero, List.set_cons_succ]
          rfl
        refine pure_ (i := 9) (N := some 25) (v := ?_) (a' := ?_) #[true, true, true, true, true, true, true, true, true, true, false, false, false, false, false, false] rfl rfl (by kernel_rfl) (fun _ _ _ h => h) (Or.inl ⟨by rfl, ?_⟩) ?_ ?_
        rotate_left
        · intro w'
          go_simp
          first | with_reducible rfl | (rw [if_neg (by first | omega | (rw [ByteArray.size_append]; omega))])
        rotate_left
        · simp only [Act.put, List.setIfInBounds_toArray, List.set_cons_zero, List.set_cons_succ]
          rfl
        refine pure_ (i := 10) (N := some 26) (v := ?_) (a' := ?_) #[true, true, true, true, true, true, true, true, true, true, true, false, false, false, false, false] rfl rfl (by kernel_rfl) (fun _ _ _ h => h) (Or.inl ⟨by rfl, ?_⟩) ?_ ?_
        rotate_left
        · intro w'
          go_simp
          first | with_reducible rfl | (rw [if_neg (by first | omega | (rw [ByteArray.size_append]; omega))])
        rotate_left
        · simp only [Act.put, List.setIfInBounds_toArray, List.set_cons_zero, List.set_cons_succ]
          rfl
        refine take_ (i := 11) (N := some 27) (v := ?_) (a' := ?_) #[true, true, true, true, true, true, true, true, true, true, true, true, false, false, false, false] rfl rfl (by kernel_rfl) (fun _ _ _ h => h) (Or.inl ⟨by rfl, ?_⟩) hHeld ?_ ?_
        rotate_left
        · rintro w' ⟨s0, s1⟩
          refine ld_row 25 (.tmp 2) ?_ g1 ?_ 25 _ (0, 0) _ s0.blk Tryz.underlying25 ?_ ?_ <;> first | rfl | kernel_rfl
        rotate_left
        · simp only [Act.put, List.setIfInBounds_toArray, List.set_cons_zero, List.set_cons_succ]
          rfl
        refine take_ (i := 12) (N := some 28) (v := ?_) (a' := ?_) #[true, true, true, true, true, true, true, true, true, true, true, true, true, false, false, false] rfl rfl (by kernel_rfl) (fun _ _ _ h => h) (Or.inl ⟨by rfl, ?_⟩) hHeld ?_ ?_
        rotate_left
        · rintro w' ⟨s0, s1⟩
          refine ld_row 25 (.tmp 2) ?_ g1 ?_ 25 _ (0, 0) _ s0.blk Tryz.underlying25 ?_ ?_ <;> first | rfl | kernel_rfl
        rotate_left
        · simp only [Act.put, List.setIfInBounds_toArray, List.set_cons_zero, List.set_cons_succ]
          rfl
        refine one_ (i := 13) (N := some 29) #[true, true, true, true, true, true, true, true, true, true, true, true, true, true, false, false] rfl rfl (by kernel_rfl) (by decide) (fun K hK => ?_)
        refine goes_ Tryz.func7 (by kernel_rfl) rfl #[.agg (exmC a).toArray, .agg (exmC a).toArray] (by rfl) rfl rfl (by simp only [List.map_toArray, List.map_cons, List.map_nil]; rfl) ?_
        with_reducible refine (C2.out _ HB.out).mono ?_
        rintro e w13 ⟨rfl, hb⟩
        refine ⟨_, rfl, ?_⟩
        have HBn := Aside0.mk (below_next HB.out hb)
        clear HB
        have HB := HBn
        clear HBn hb
        refine hK.out _ _ ⟨(XEm.below H1.out HB.out), (XEm.below H2.out HB.out)⟩ (fun hHeld => ?_)
        clear hK K
        refine norm_ (a' := ?_) ?_ ?_
        rotate_left
        · show Act.put _ (some 29) _ = _
          simp only [Act.put, List.setIfInBounds_toArray, List.set_cons_zero, List.set_cons_succ]
          rfl
        refine pure_ (i := 14) (N := some 30) (v := ?_) (a' := ?_) #[true, true, true, true, true, true, true, true, true, true, true, true, true, true, true, false] rfl rfl (by kernel_rfl) (fun _ _ _ h => h) (Or.inl ⟨by rfl, ?_⟩) ?_ ?_
        rotate_left
        · intro w'
          go_simp
          first | with_reducible rfl | (rw [if_neg (by first | omega | (rw [ByteArray.size_append]; omega))])
        rotate_left
        · simp only [Act.put, List.setIfInBounds_toArray, List.set_cons_zero, List.set_cons_succ]
          rfl
        refine pure_ (i := 15) (N := some 4) (v := ?_) (a' := ?_) #[true, true, true, true, true, true, true, true, true, true, true, true, true, true, true, true] rfl rfl (by kernel_rfl) (fun _ _ _ h => h) (Or.inl ⟨by rfl, ?_⟩) ?_ ?_
        rotate_left
        · intro w'
          go_simp
          first | with_reducible rfl | (rw [if_neg (by first | omega | (rw [ByteArray.size_append]; omega))])
        rotate_left
        · simp only [Act.put, List.setIfInBounds_toArray, List.set_cons_zero, List.set_cons_succ]
          rfl
        refine done_ (by kernel_rfl) ?_
        go_wp2_with fail
        go_ret
        exact ⟨rfl, HBW.out.trans (HB.out.mono HBW.out.size)⟩
end Go.Proofs.YtnghlkbmfhkmoaaGreatDoor
