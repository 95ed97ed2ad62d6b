import Derived.Test.YtnghlkbmfhkmoaaGreatDoorMwysuqsvv
import Derived.Great.Walk
import Derived.Test.YtnghlkbmfhkmoaaGreatDoorWLast
import Derived.Test.YtnghlkbmfhkmoaaGreatDoorWMore
namespace Go.Proofs.YtnghlkbmfhkmoaaGreatDoor
open Go.RowKit Go.Proofs.YtnghlkbmfhkmoaaGreatDoorW.PrintWords Go.Proofs.YtnghlkbmfhkmoaaGreatDoorW.PrintLast Go.Proofs.YtnghlkbmfhkmoaaGreatDoorW.PrintMore

/-! ### the document's Key -/
def kvA (x : Kv) : Value := .agg (kvC x).toArray
def RSV (W : World) (d : Nat) : Prop := ∀ (w : World) (a b : Vl), Below W.heap.size W w → VlOk W a → VlOk W b → FinV W d a →
  Calls Tryz.prog 63 #[vlA a, vlA b] w fun e w' => e = .returned (.bool (eqV W d a b)) ∧ Below w.heap.size w w'
structure XK (w : World) (g : Nat) (x : Kv) : Prop where
  blk : w.heap[g]? = some (.cells (kvC x).toArray 59 (0, 0))
section
variable {w w' : World} {g : Nat} {x : Kv}
theorem XK.c0 (h : XK w g x) : w.cell? ⟨g, 0, none⟩ = some (.string x.key) := by rw [blk_cell h.blk]; rfl
theorem XK.c1 (h : XK w g x) : w.cell? ⟨g, 1, none⟩ = some (.bool x.has) := by rw [blk_cell h.blk]; rfl
theorem XK.c2 (h : XK w g x) : w.cell? ⟨g, 2, none⟩ = some (.int .i64 x.v.kind) := by rw [blk_cell h.blk]; rfl
theorem XK.c3 (h : XK w g x) : w.cell? ⟨g, 3, none⟩ = some (.string x.v.s) := by rw [blk_cell h.blk]; rfl
theorem XK.c4 (h : XK w g x) : w.cell? ⟨g, 4, none⟩ = some (.bool x.v.b) := by rw [blk_cell h.blk]; rfl
theorem XK.c5 (h : XK w g x) : w.cell? ⟨g, 5, none⟩ = some (.int .u64 x.v.n) := by rw [blk_cell h.blk]; rfl
theorem XK.c6 (h : XK w g x) : w.cell? ⟨g, 6, none⟩ = some (.slice x.v.l.a x.v.l.len x.v.l.cap) := by rw [blk_cell h.blk]; rfl
theorem XK.c7 (h : XK w g x) : w.cell? ⟨g, 7, none⟩ = some (.slice x.v.m.a x.v.m.len x.v.m.cap) := by rw [blk_cell h.blk]; rfl
theorem XK.c8 (h : XK w g x) : w.cell? ⟨g, 8, none⟩ = some (.string x.v.inner) := by rw [blk_cell h.blk]; rfl
theorem XK.c9 (h : XK w g x) : w.cell? ⟨g, 9, none⟩ = some (.string x.v.unk) := by rw [blk_cell h.blk]; rfl
theorem XK.c10 (h : XK w g x) : w.cell? ⟨g, 10, none⟩ = some (.string x.unk) := by rw [blk_cell h.blk]; rfl
theorem XK.below (h : XK w g x) (hb : Below w.heap.size w w') : XK w' g x := ⟨blk_below h.blk hb⟩
end
set_option maxHeartbeats 2000000 in
set_option maxRecDepth 100000 in
theorem rkey_any (W w : World) (d : Nat) (HV : RSV W d) (x y : Kv) (hW : Below W.heap.size W w) (hx : KvOk W x) (hy : KvOk W y) (hf : FinV W d x.v) :
    Calls Tryz.prog 42 #[kvA x, kvA y] w fun e w' => e = .returned (.bool (eqK (eqV W d) x y)) ∧ Below w.heap.size w w' := by
  have H := Aside0.mk (fun w2 (hb : Below w.heap.size w w2) => HV w2 x.v y.v (hW.trans (hb.mono hW.size)) hx.v hy.v hf)
  unfold eqK
  unfold vlA Sl.v at H
  generalize eqV W d x.v y.v = r at *
  have hX : XK ((w.alloc (.cells (kvC x).toArray 59)).alloc (.cells (kvC y).toArray 59)) w.heap.size x := XK.below ⟨heap_alloc_new w _⟩ ((Below.refl _ _).alloc (Nat.le_refl _) _)
  have hY : XK ((w.alloc (.cells (kvC x).toArray 59)).alloc (.cells (kvC y).toArray 59)) (w.heap.size + 1) y := ⟨by have h := heap_alloc_new (w.alloc (.cells (kvC x).toArray 59)) (.cells (kvC y).toArray 59); simp only [World.size_alloc] at h; exact h⟩
  have HB : Aside0 (Below w.heap.size w ((w.alloc (.cells (kvC x).toArray 59)).alloc (.cells (kvC y).toArray 59))) := ⟨((Below.refl _ _).alloc (Nat.le_refl _) _).alloc (by simp only [World.size_alloc]; omega) _⟩
  have HX := Aside0.mk hX
  have HY := Aside0.mk hY
  have HHs := Aside0.mk hx
  clear hX hY hW hx hy hf
  have hk : ∃ q, stB x.key y.key = q ∧ (x.key.toList == y.key.toList) = q := ⟨_, rfl, rfl⟩
  have hu : ∃ q, stB x.unk y.unk = q ∧ (x.unk.toList == y.unk.toList) = q := ⟨_, rfl, rfl⟩
  obtain ⟨q1, e1, f1⟩ := hk
  obtain ⟨q2, e2, f2⟩ := hu
  obtain ⟨h1, eh1⟩ : ∃ q, x.has = q := ⟨_, rfl⟩
  obtain ⟨h2, eh2⟩ : ∃ q, y.has = q := ⟨_, rfl⟩
  rw [e1, e2, eh1, eh2]
  have EH1 := Aside0.mk eh1
  have EH2 := Aside0.mk eh2
  clear e1 e2 eh1 eh2
  unfold kvA
  go_enter Tryz.func42, Tryz.ntmps42
  go_upto_region 1 with (first
    | ((with_reducible refine gate_dst (N := 2) rfl ?_); refine Great.wpList_boxTo rfl 59 _ rfl _ rfl w.heap.size rfl (kvC x).toArray rfl ?_)
    | ((with_reducible refine gate_dst (N := 3) rfl ?_); refine Great.wpList_boxTo rfl 59 _ rfl _ rfl (w.heap.size + 1) (by simp only [World.size_alloc]) (kvC y).toArray rfl ?_))
  generalize (w.alloc (.cells (kvC x).toArray 59)).alloc (.cells (kvC y).toArray 59) = w1 at *
  have a0 := HX.out.c0
  have a1 := HX.out.c1
  have a2 := HX.out.c2
  have a3 := HX.out.c3
  have a4 := HX.out.c4
  have a5 := HX.out.c5
  have a6 := HX.out.c6
  have a7 := HX.out.c7
  have a8 := HX.out.c8
  have a9 := HX.out.c9
  have a10 := HX.out.c10
  have b0 := HY.out.c0
  have b1 := HY.out.c1
  have b2 := HY.out.c2
  have b3 := HY.out.c3
  have b4 := HY.out.c4
  have b5 := HY.out.c5
  have b6 := HY.out.c6
  have b7 := HY.out.c7
  have b8 := HY.out.c8
  have b9 := HY.out.c9
  have b10 := HY.out.c10
  have z := Tryz.sizeOf57
  clear HX HY HHs
  rw [EH1.out] at a1
  rw [EH2.out] at b1
  clear EH1 EH2
  cases q1 <;> cases q2 <;> cases h1 <;> cases h2
  all_goals
    go_wp2_with (go_at_call 63; with_reducible refine (H.out _ HB.out).mono ?_; rintro e w2 ⟨rfl, hb⟩; replace HB := Aside0.mk (below_next HB.out hb); clear hb)
    go_ret
    exact ⟨rfl, HB.out⟩
end Go.Proofs.YtnghlkbmfhkmoaaGreatDoor
namespace Go.Proofs.YtnghlkbmfhkmoaaGreatDoor
open Go.RowKit Go.Proofs.YtnghlkbmfhkmoaaGreatDoorW.PrintWords Go.Proofs.YtnghlkbmfhkmoaaGreatDoorW.PrintLast Go.Proofs.YtnghlkbmfhkmoaaGreatDoorW.PrintMore

/-! ### the document's Keys -/
theorem ld_at {P : Program} {o : Oper} {a : Act} {w : World} (ty : TypeId) (x : Operand) (ho : o.op = .load ty x) (ad : Addr) (hx : a.eval x = .pointer (some ad)) (cs : List Value) (hc : ∀ j v, cs[j]? = some v → w.cell? (ad.add j) = some v)
    {d : TypeDesc} (hu : P.underlying ty = some d) (hd : (match d with | .struct _ | .array _ _ => true | _ => false) = true) (hi : (P.info? ty).map (·.size) = some cs.length) : (execOp a.eval o).run P w = .ok (.value (.agg cs.toArray)) w := by
  have hl := run_loadCells_list (P := P) w ad cs hc
  have hagg : (isAgg ty).run P w = .ok true w := by
    unfold isAgg
    rw [Sem.run_bind, run_underlying hu w]
    cases d <;> simp_all
  have hrun : (loadVar ty ad).run P w = .ok (.agg cs.toArray) w := by
    cases hq : P.info? ty with
    | none => simp [hq] at hi
    | some i =>
      have hs : i.size = cs.length := by simpa [hq] using hi
      simp [loadVar, Sem.run_bind, hagg, sizeOf, typeInfo, hq, hs, hl]
  unfold execOp
  simp only [ho, hx, Instr.loadAt, Instr.sureAddr, Sem.run_bind, Sem.run_pure, Result.andThen_ok, hrun]
theorem cells_below {w w' : World} {p : Addr} {cs : List Value} (hb : Below w.heap.size w w') (h : ∀ j v, cs[j]? = some v → w.cell? (p.add j) = some v) : ∀ j v, cs[j]? = some v → w'.cell? (p.add j) = some v := fun j v hv => pw_cell_below hb (h j v hv)
theorem kv_cells {W : World} {a : Addr} {x : Kv} (h : ∀ j, j < 11 → W.cell? (a.add j) = (kvC x)[j]?) : ∀ j v, (kvC x)[j]? = some v → W.cell? (a.add j) = some v := by
  intro j v hv
  have hj : j < 11 := by
    rcases Nat.lt_or_ge j 11 with h | h
    · exact h
    · rw [List.getElem?_eq_none (show (kvC x).length ≤ j from h)] at hv; cases hv
  rw [h j hj, hv]
def RSK (W : World) (d : Nat) : Prop := ∀ (w : World) (s s' : Sl), Below W.heap.size W w → Rd Tryz.prog W 22 [s.v] → Rd Tryz.prog W 22 [s'.v] → (∀ y ∈ kvs W s, FinV W d y.v) →
  Calls Tryz.prog 17 #[s.v, s'.v] w fun e w' => e = .returned (.bool (listB (eqK (eqV W d)) (kvs W s) (kvs W s'))) ∧ Below w.heap.size w w'
set_option maxHeartbeats 4000000 in
set_option maxRecDepth 100000 in
theorem rkeys_any (W : World) (d : Nat) (HV : RSV W d) : RSK W d := by
  intro w s s' hW hs hs' hf
  have hl := kvs_at hs
  have hl' := kvs_at hs'
  generalize kvs W s = l at *
  generalize kvs W s' = l' at *
  obtain ⟨sa, sn, sc⟩ := s
  obtain ⟨sa', sn', sc'⟩ := s'
  obtain rfl : sn = l.length := hl.1
  obtain rfl : sn' = l'.length := hl'.1
  have hlm : l.length ≤ 9223372036854775807 := by have h := hl.2.1; have h2 := hl.2.2.1; unfold maxLen at h2; simp only at h h2; omega
  have HL := Aside0.mk hl
  have HL' := Aside0.mk hl'
  have HW := Aside0.mk hW
  have HF := Aside0.mk hf
  have HVV := Aside0.mk HV
  have HB := Aside0.mk (Below.refl w.heap.size w)
  unfold Sl.v
  clear hl hl' hW hf HV hs hs'
  by_cases hne : l.length = l'.length
  · have HNE := Aside0.mk hne
    rw [← hne]
    clear hne
    generalize hR : listB (eqK (eqV W d)) l l' = R
    have HR := Aside0.mk hR
    clear hR
    go_enter Tryz.func17, Tryz.ntmps17
    go_wp2_with fail
    go_loopw [5] (fun v5 w' => ∃ i : Nat, v5 = .int .i64 (i : Int) ∧ i ≤ l.length ∧ Aside0 (listB (eqK (eqV W d)) (l.drop i) (l'.drop i) = R) ∧ Aside0 (Below w.heap.size w w')) (fun v5 _ => l.length - (intOf v5).toNat)
    case atStart => exact ⟨0, rfl, Nat.zero_le _, ⟨HR.out⟩, HB⟩
    case round =>
      clear HB
      obtain ⟨i, rfl, hi, HE, HB⟩ := hrel
      by_cases hlt : i < l.length
      · have hlt' : i < l'.length := by have := HNE.out; omega
        obtain ⟨ad, rfl, hel⟩ := HL.out.2.2.2 (by omega)
        obtain ⟨ad', rfl, hel'⟩ := HL'.out.2.2.2 (by omega)
        obtain ⟨he1, he2⟩ := hel i hlt
        obtain ⟨he1', he2'⟩ := hel' i hlt'
        have hE := HE.out
        rw [listB_drop l l' i hlt hlt'] at hE
        have hfi := HF.out l[i] (List.getElem_mem hlt)
        generalize l[i] = x at *
        generalize l'[i] = y at *
        have hWr : Below W.heap.size W wr := HW.out.trans (HB.out.mono HW.out.size)
        have HPX := Aside0.mk (cells_below (pw_below_drewN hWr 1) (kv_cells he1))
        have HPY := Aside0.mk (cells_below (pw_below_drewN hWr 1) (kv_cells he1'))
        have HKY := Aside0.mk (fun w2 (hb : Below wr.heap.size wr w2) => rkey_any W w2 d HVV.out x y (hWr.trans (hb.mono hWr.size)) he2 he2' hfi)
        generalize eqK (eqV W d) x y = q at *
        have HEn := Aside0.mk hE
        have HBr := HB
        clear HE HB hE he1 he1' he2 he2' hel hel' hfi hWr
        have c1 : (i : Int) < (l.length : Int) := by omega
        have c2 : (0 : Int) ≤ (i : Int) := by omega
        have HB : Aside0 (Below wr.heap.size wr wr.drew) := ⟨below_drew1 (Below.refl _ _)⟩
        unfold kvA at HKY
        go_wp2_with fail
        refine start_ (n := 10) (S := fun w' => (∀ j v, (kvC x)[j]? = some v → w'.cell? ((ad.add (i * 11)).add j) = some v) ∧ (∀ j v, (kvC y)[j]? = some v → w'.cell? ((ad'.add (i * 11)).add j) = some v)) (ds := []) #[false, false, false, false, false, false, false, false, false, false] (by kernel_rfl) rfl rfl ⟨(cells_below HB.out HPX.out), (cells_below HB.out HPY.out)⟩ (fun hHeld => ?_)
        refine pure_ (i := 0) (N := some 17) (v := ?_) (a' := ?_) #[true, false, false, false, false, false, false, false, false, false] rfl rfl (by kernel_rfl) (fun _ _ _ h => h) (Or.inl ⟨by rfl, ?_⟩) ?_ ?_
        rotate_left
        · intro w'
          go_simp
          first | with_reducible rfl | (rw [if_neg (by first | omega | (rw [ByteArray.size_append]; omega))])
        rotate_left
        · simp only [Act.put, List.setIfInBounds_toArray, List.set_cons_zero, List.set_cons_succ]
          rfl
        refine pure_ (i := 1) (N := some 18) (v := ?_) (a' := ?_) #[true, true, false, false, false, false, false, false, false, false] rfl rfl (by kernel_rfl) (fun _ _ _ h => h) (Or.inl ⟨by rfl, ?_⟩) ?_ ?_
        rotate_left
        · intro w'
          go_simp
          first | with_reducible rfl | (rw [if_neg (by first | omega | (rw [ByteArray.size_append]; omega))])
        rotate_left
        · simp only [Act.put, List.setIfInBounds_toArray, List.set_cons_zero, List.set_cons_succ]
          rfl
        refine pure_ (i := 2) (N := some 19) (v := ?_) (a' := ?_) #[true, true, true, false, false, false, false, false, false, false] rfl rfl (by kernel_rfl) (fun _ _ _ h => h) (Or.inl ⟨by rfl, ?_⟩) ?_ ?_
        rotate_left
        · intro w'
          go_simp
          first | with_reducible rfl | (rw [if_neg (by first | omega | (rw [ByteArray.size_append]; omega))])
        rotate_left
        · simp only [Act.put, List.setIfInBounds_toArray, List.set_cons_zero, List.set_cons_succ]
          rfl
        refine pure_ (i := 4) (N := some 21) (v := ?_) (a' := ?_) #[true, true, true, false, true, false, false, false, false, false] rfl rfl (by kernel_rfl) (fun _ _ _ h => h) (Or.inl ⟨by rfl, ?_⟩) ?_ ?_
        rotate_left
        · intro w'
          go_simp
          first | with_reducible rfl | (rw [if_neg (by first | omega | (rw [ByteArray.size_append]; omega))])
        rotate_left
        · simp only [Act.put, List.setIfInBounds_toArray, List.set_cons_zero, List.set_cons_succ]
          rfl
        refine pure_ (i := 5) (N := some 22) (v := ?_) (a' := ?_) #[true, true, true, false, true, true, false, false, false, false] rfl rfl (by kernel_rfl) (fun _ _ _ h => h) (Or.inl ⟨by rfl, ?_⟩) ?_ ?_
        rotate_left
        · intro w'
          go_simp
          first | with_reducible rfl | (rw [if_neg (by first | omega | (rw [ByteArray.size_append]; omega))])
        rotate_left
        · simp only [Act.put, List.setIfInBounds_toArray, List.set_cons_zero, List.set_cons_succ]
          rfl
        refine pure_ (i := 6) (N := some 23) (v := ?_) (a' := ?_) #[true, true, true, false, true, true, true, false, false, false] rfl rfl (by kernel_rfl) (fun _ _ _ h => h) (Or.inl ⟨by rfl, ?_⟩) ?_ ?_
        rotate_left
        · intro w'
          go_simp
          first | with_reducible rfl | (rw [if_neg (by first | omega | (rw [ByteArray.size_append]; omega))])
        rotate_left
        · simp only [Act.put, List.setIfInBounds_toArray, List.set_cons_zero, List.set_cons_succ]
          rfl
        refine take_ (i := 3) (N := some 20) (v := ?_) (a' := ?_) #[true, true, true, true, true, true, true, false, false, false] rfl rfl (by kernel_rfl) (fun _ _ _ h => h) (Or.inl ⟨by rfl, ?_⟩) hHeld ?_ ?_
        rotate_left
        · rintro w' ⟨s0, s1⟩
          refine ld_at 59 (.tmp 19) ?_ (ad.add (i * 11)) ?_ (kvC x) s0 Tryz.underlying59 ?_ ?_ <;> first | rfl | kernel_rfl
        rotate_left
        · simp only [Act.put, List.setIfInBounds_toArray, List.set_cons_zero, List.set_cons_succ]
          rfl
        refine take_ (i := 7) (N := some 24) (v := ?_) (a' := ?_) #[true, true, true, true, true, true, true, true, false, false] rfl rfl (by kernel_rfl) (fun _ _ _ h => h) (Or.inl ⟨by rfl, ?_⟩) hHeld ?_ ?_
        rotate_left
        · rintro w' ⟨s0, s1⟩
          refine ld_at 59 (.tmp 23) ?_ (ad'.add (i * 11)) ?_ (kvC y) s1 Tryz.underlying59 ?_ ?_ <;> first | rfl | kernel_rfl
        rotate_left
        · simp only [Act.put, List.setIfInBounds_toArray, List.set_cons_zero, List.set_cons_succ]
          rfl
        refine one_ (i := 8) (N := some 25) #[true, true, true, true, true, true, true, true, true, false] rfl rfl (by kernel_rfl) (by decide) (fun K hK => ?_)
        refine goes_ Tryz.func42 (by kernel_rfl) rfl #[.agg (kvC x).toArray, .agg (kvC y).toArray] (by rfl) rfl rfl (by simp only [List.map_toArray, List.map_cons, List.map_nil]; rfl) ?_
        with_reducible refine (HKY.out _ HB.out).mono ?_
        rintro e w3 ⟨rfl, hb⟩
        refine ⟨_, rfl, ?_⟩
        have HBn := Aside0.mk (below_next HB.out hb)
        clear HB
        have HB := HBn
        clear HBn hb
        refine hK.out _ _ ⟨(cells_below HB.out HPX.out), (cells_below HB.out HPY.out)⟩ (fun hHeld => ?_)
        clear hK K
        refine norm_ (a' := ?_) ?_ ?_
        rotate_left
        · show Act.put _ (some 25) _ = _
          simp only [Act.put, List.setIfInBounds_toArray, List.set_cons_zero, List.set_cons_succ]
          rfl
        refine pure_ (i := 9) (N := some 26) (v := ?_) (a' := ?_) #[true, true, true, true, true, true, true, true, true, true] rfl rfl (by kernel_rfl) (fun _ _ _ h => h) (Or.inl ⟨by rfl, ?_⟩) ?_ ?_
        rotate_left
        · intro w'
          go_simp
          first | with_reducible rfl | (rw [if_neg (by first | omega | (rw [ByteArray.size_append]; omega))])
        rotate_left
        · simp only [Act.put, List.setIfInBounds_toArray, List.set_cons_zero, List.set_cons_succ]
          rfl
        refine done_ (by kernel_rfl) ?_
        cases q
        · have HRq := Aside0.mk (show R = false from HEn.out.symm)
          go_wp2_with fail
          go_ret
          exact ⟨by rw [HRq.out]; rfl, below_next HBr.out HB.out⟩
        · have HRq := Aside0.mk (show listB (eqK (eqV W d)) (l.drop (i + 1)) (l'.drop (i + 1)) = R from HEn.out)
          go_wp2_with fail
          go_roundw
          case rel => exact ⟨i + 1, by go_num, by omega, HRq, ⟨below_next HBr.out HB.out⟩⟩
          case measure => simp [intOf]; omega
      · have HRq := Aside0.mk (show R = true by
          rw [← HE.out, List.drop_of_length_le (by omega), List.drop_of_length_le (by have := HNE.out; omega)]; rfl)
        go_wp2_with fail
        go_ret
        exact ⟨by rw [HRq.out]; rfl, HB.out⟩
  · rw [listB_len l l' hne]
    have hne3 : ¬ (l.length : Int) = (l'.length : Int) := by omega
    have hne2 : ((l.length : Int) == (l'.length : Int)) = false := by rw [beq_eq_false_iff_ne]; exact hne3
    go_enter Tryz.func17, Tryz.ntmps17
    go_wp2_with fail
    go_ret
    exact ⟨rfl, HB.out⟩
end Go.Proofs.YtnghlkbmfhkmoaaGreatDoor
namespace Go.Proofs.YtnghlkbmfhkmoaaGreatDoor
open Go.RowKit Go.Proofs.YtnghlkbmfhkmoaaGreatDoorW.PrintWords Go.Proofs.YtnghlkbmfhkmoaaGreatDoorW.PrintLast Go.Proofs.YtnghlkbmfhkmoaaGreatDoorW.PrintMore

/-! ### the document's Value -/
structure XVl (w : World) (g : Nat) (x : Vl) : Prop where
  blk : w.heap[g]? = some (.cells (vlC x).toArray 57 (0, 0))
section
variable {w w' : World} {g : Nat} {x : Vl}
theorem XVl.c0 (h : XVl w g x) : w.cell? ⟨g, 0, none⟩ = some (.int .i64 x.kind) := by rw [blk_cell h.blk]; rfl
theorem XVl.c1 (h : XVl w g x) : w.cell? ⟨g, 1, none⟩ = some (.string x.s) := by rw [blk_cell h.blk]; rfl
theorem XVl.c2 (h : XVl w g x) : w.cell? ⟨g, 2, none⟩ = some (.bool x.b) := by rw [blk_cell h.blk]; rfl
theorem XVl.c3 (h : XVl w g x) : w.cell? ⟨g, 3, none⟩ = some (.int .u64 x.n) := by rw [blk_cell h.blk]; rfl
theorem XVl.c4 (h : XVl w g x) : w.cell? ⟨g, 4, none⟩ = some (.slice x.l.a x.l.len x.l.cap) := by rw [blk_cell h.blk]; rfl
theorem XVl.c5 (h : XVl w g x) : w.cell? ⟨g, 5, none⟩ = some (.slice x.m.a x.m.len x.m.cap) := by rw [blk_cell h.blk]; rfl
theorem XVl.c6 (h : XVl w g x) : w.cell? ⟨g, 6, none⟩ = some (.string x.inner) := by rw [blk_cell h.blk]; rfl
theorem XVl.c7 (h : XVl w g x) : w.cell? ⟨g, 7, none⟩ = some (.string x.unk) := by rw [blk_cell h.blk]; rfl
theorem XVl.below (h : XVl w g x) (hb : Below w.heap.size w w') : XVl w' g x := ⟨blk_below h.blk hb⟩
end
theorem vl_len (x : Vl) : (vlC x).length = 8 := rfl
theorem vl_cells {W : World} {a : Addr} {x : Vl} (h : ∀ j, j < 8 → W.cell? (a.add j) = (vlC x)[j]?) : ∀ j v, (vlC x)[j]? = some v → W.cell? (a.add j) = some v := by
  intro j v hv
  have hj : j < 8 := by
    rcases Nat.lt_or_ge j 8 with h | h
    · exact h
    · rw [List.getElem?_eq_none (show (vlC x).length ≤ j from h)] at hv; cases hv
  rw [h j hj, hv]
set_option maxHeartbeats 2000000 in
set_option maxRecDepth 100000 in
theorem rval_0 (w : World) (a b : Vl) (e0 : ¬ a.kind = b.kind) :
    Calls Tryz.prog 63 #[vlA a, vlA b] w fun e w' => e = .returned (.bool false) ∧ Below w.heap.size w w' := by
  have hX : XVl ((w.alloc (.cells (vlC a).toArray 57)).alloc (.cells (vlC b).toArray 57)) w.heap.size a := XVl.below ⟨heap_alloc_new w _⟩ ((Below.refl _ _).alloc (Nat.le_refl _) _)
  have hY : XVl ((w.alloc (.cells (vlC a).toArray 57)).alloc (.cells (vlC b).toArray 57)) (w.heap.size + 1) b := ⟨by have h := heap_alloc_new (w.alloc (.cells (vlC a).toArray 57)) (.cells (vlC b).toArray 57); simp only [World.size_alloc] at h; exact h⟩
  have HB : Aside0 (Below w.heap.size w ((w.alloc (.cells (vlC a).toArray 57)).alloc (.cells (vlC b).toArray 57))) := ⟨((Below.refl _ _).alloc (Nat.le_refl _) _).alloc (by simp only [World.size_alloc]; omega) _⟩
  have HX := Aside0.mk hX
  have HY := Aside0.mk hY
  clear hX hY
  show Calls _ _ #[.agg (vlC a).toArray, .agg (vlC b).toArray] _ _
  go_enter Tryz.func63, Tryz.ntmps63
  go_upto_region 1 with (first
    | ((with_reducible refine gate_dst (N := 2) rfl ?_); refine Great.wpList_boxTo rfl 57 _ rfl _ rfl w.heap.size rfl (vlC a).toArray rfl ?_)
    | ((with_reducible refine gate_dst (N := 3) rfl ?_); refine Great.wpList_boxTo rfl 57 _ rfl _ rfl (w.heap.size + 1) (by simp only [World.size_alloc]) (vlC b).toArray rfl ?_))
  generalize ((w.alloc (.cells (vlC a).toArray 57)).alloc (.cells (vlC b).toArray 57)) = w1 at *
  have x0 := HX.out.c0
  have y0 := HY.out.c0
  have x1 := HX.out.c1
  have y1 := HY.out.c1
  have x2 := HX.out.c2
  have y2 := HY.out.c2
  have x3 := HX.out.c3
  have y3 := HY.out.c3
  have x4 := HX.out.c4
  have y4 := HY.out.c4
  have x5 := HX.out.c5
  have y5 := HY.out.c5
  have x6 := HX.out.c6
  have y6 := HY.out.c6
  have x7 := HX.out.c7
  have y7 := HY.out.c7
  have f0 : (a.kind == b.kind) = false := by rw [beq_eq_false_iff_ne]; exact e0
  clear HX HY
  go_wp2_with fail
  go_ret
  exact ⟨rfl, HB.out⟩
set_option maxHeartbeats 2000000 in
set_option maxRecDepth 100000 in
theorem rval_1 (w : World) (a b : Vl) (e0 : a.kind = b.kind) (e1 : (a.s.toList == b.s.toList) = false) :
    Calls Tryz.prog 63 #[vlA a, vlA b] w fun e w' => e = .returned (.bool false) ∧ Below w.heap.size w w' := by
  have hX : XVl ((w.alloc (.cells (vlC a).toArray 57)).alloc (.cells (vlC b).toArray 57)) w.heap.size a := XVl.below ⟨heap_alloc_new w _⟩ ((Below.refl _ _).alloc (Nat.le_refl _) _)
  have hY : XVl ((w.alloc (.cells (vlC a).toArray 57)).alloc (.cells (vlC b).toArray 57)) (w.heap.size + 1) b := ⟨by have h := heap_alloc_new (w.alloc (.cells (vlC a).toArray 57)) (.cells (vlC b).toArray 57); simp only [World.size_alloc] at h; exact h⟩
  have HB : Aside0 (Below w.heap.size w ((w.alloc (.cells (vlC a).toArray 57)).alloc (.cells (vlC b).toArray 57))) := ⟨((Below.refl _ _).alloc (Nat.le_refl _) _).alloc (by simp only [World.size_alloc]; omega) _⟩
  have HX := Aside0.mk hX
  have HY := Aside0.mk hY
  clear hX hY
  show Calls _ _ #[.agg (vlC a).toArray, .agg (vlC b).toArray] _ _
  go_enter Tryz.func63, Tryz.ntmps63
  go_upto_region 1 with (first
    | ((with_reducible refine gate_dst (N := 2) rfl ?_); refine Great.wpList_boxTo rfl 57 _ rfl _ rfl w.heap.size rfl (vlC a).toArray rfl ?_)
    | ((with_reducible refine gate_dst (N := 3) rfl ?_); refine Great.wpList_boxTo rfl 57 _ rfl _ rfl (w.heap.size + 1) (by simp only [World.size_alloc]) (vlC b).toArray rfl ?_))
  generalize ((w.alloc (.cells (vlC a).toArray 57)).alloc (.cells (vlC b).toArray 57)) = w1 at *
  have x0 := HX.out.c0
  have y0 := HY.out.c0
  have x1 := HX.out.c1
  have y1 := HY.out.c1
  have x2 := HX.out.c2
  have y2 := HY.out.c2
  have x3 := HX.out.c3
  have y3 := HY.out.c3
  have x4 := HX.out.c4
  have y4 := HY.out.c4
  have x5 := HX.out.c5
  have y5 := HY.out.c5
  have x6 := HX.out.c6
  have y6 := HY.out.c6
  have x7 := HX.out.c7
  have y7 := HY.out.c7
  rw [← e0] at y0
  skip
  clear HX HY
  go_wp2_with fail
  go_ret
  exact ⟨rfl, HB.out⟩
set_option maxHeartbeats 2000000 in
set_option maxRecDepth 100000 in
theorem rval_2 (w : World) (a b : Vl) (e0 : a.kind = b.kind) (e1 : (a.s.toList == b.s.toList) = true) (e2 : ¬ a.b = b.b) :
    Calls Tryz.prog 63 #[vlA a, vlA b] w fun e w' => e = .returned (.bool false) ∧ Below w.heap.size w w' := by
  have hX : XVl ((w.alloc (.cells (vlC a).toArray 57)).alloc (.cells (vlC b).toArray 57)) w.heap.size a := XVl.below ⟨heap_alloc_new w _⟩ ((Below.refl _ _).alloc (Nat.le_refl _) _)
  have hY : XVl ((w.alloc (.cells (vlC a).toArray 57)).alloc (.cells (vlC b).toArray 57)) (w.heap.size + 1) b := ⟨by have h := heap_alloc_new (w.alloc (.cells (vlC a).toArray 57)) (.cells (vlC b).toArray 57); simp only [World.size_alloc] at h; exact h⟩
  have HB : Aside0 (Below w.heap.size w ((w.alloc (.cells (vlC a).toArray 57)).alloc (.cells (vlC b).toArray 57))) := ⟨((Below.refl _ _).alloc (Nat.le_refl _) _).alloc (by simp only [World.size_alloc]; omega) _⟩
  have HX := Aside0.mk hX
  have HY := Aside0.mk hY
  clear hX hY
  show Calls _ _ #[.agg (vlC a).toArray, .agg (vlC b).toArray] _ _
  go_enter Tryz.func63, Tryz.ntmps63
  go_upto_region 1 with (first
    | ((with_reducible refine gate_dst (N := 2) rfl ?_); refine Great.wpList_boxTo rfl 57 _ rfl _ rfl w.heap.size rfl (vlC a).toArray rfl ?_)
    | ((with_reducible refine gate_dst (N := 3) rfl ?_); refine Great.wpList_boxTo rfl 57 _ rfl _ rfl (w.heap.size + 1) (by simp only [World.size_alloc]) (vlC b).toArray rfl ?_))
  generalize ((w.alloc (.cells (vlC a).toArray 57)).alloc (.cells (vlC b).toArray 57)) = w1 at *
  have x0 := HX.out.c0
  have y0 := HY.out.c0
  have x1 := HX.out.c1
  have y1 := HY.out.c1
  have x2 := HX.out.c2
  have y2 := HY.out.c2
  have x3 := HX.out.c3
  have y3 := HY.out.c3
  have x4 := HX.out.c4
  have y4 := HY.out.c4
  have x5 := HX.out.c5
  have y5 := HY.out.c5
  have x6 := HX.out.c6
  have y6 := HY.out.c6
  have x7 := HX.out.c7
  have y7 := HY.out.c7
  rw [← e0] at y0
  skip
  have f2 : (a.b == b.b) = false := by rw [beq_eq_false_iff_ne]; exact e2
  clear HX HY
  go_wp2_with fail
  go_ret
  exact ⟨rfl, HB.out⟩
set_option maxHeartbeats 2000000 in
set_option maxRecDepth 100000 in
theorem rval_3 (w : World) (a b : Vl) (e0 : a.kind = b.kind) (e1 : (a.s.toList == b.s.toList) = true) (e2 : a.b = b.b) (e3 : ¬ a.n = b.n) :
    Calls Tryz.prog 63 #[vlA a, vlA b] w fun e w' => e = .returned (.bool false) ∧ Below w.heap.size w w' := by
  have hX : XVl ((w.alloc (.cells (vlC a).toArray 57)).alloc (.cells (vlC b).toArray 57)) w.heap.size a := XVl.below ⟨heap_alloc_new w _⟩ ((Below.refl _ _).alloc (Nat.le_refl _) _)
  have hY : XVl ((w.alloc (.cells (vlC a).toArray 57)).alloc (.cells (vlC b).toArray 57)) (w.heap.size + 1) b := ⟨by have h := heap_alloc_new (w.alloc (.cells (vlC a).toArray 57)) (.cells (vlC b).toArray 57); simp only [World.size_alloc] at h; exact h⟩
  have HB : Aside0 (Below w.heap.size w ((w.alloc (.cells (vlC a).toArray 57)).alloc (.cells (vlC b).toArray 57))) := ⟨((Below.refl _ _).alloc (Nat.le_refl _) _).alloc (by simp only [World.size_alloc]; omega) _⟩
  have HX := Aside0.mk hX
  have HY := Aside0.mk hY
  clear hX hY
  show Calls _ _ #[.agg (vlC a).toArray, .agg (vlC b).toArray] _ _
  go_enter Tryz.func63, Tryz.ntmps63
  go_upto_region 1 with (first
    | ((with_reducible refine gate_dst (N := 2) rfl ?_); refine Great.wpList_boxTo rfl 57 _ rfl _ rfl w.heap.size rfl (vlC a).toArray rfl ?_)
    | ((with_reducible refine gate_dst (N := 3) rfl ?_); refine Great.wpList_boxTo rfl 57 _ rfl _ rfl (w.heap.size + 1) (by simp only [World.size_alloc]) (vlC b).toArray rfl ?_))
  generalize ((w.alloc (.cells (vlC a).toArray 57)).alloc (.cells (vlC b).toArray 57)) = w1 at *
  have x0 := HX.out.c0
  have y0 := HY.out.c0
  have x1 := HX.out.c1
  have y1 := HY.out.c1
  have x2 := HX.out.c2
  have y2 := HY.out.c2
  have x3 := HX.out.c3
  have y3 := HY.out.c3
  have x4 := HX.out.c4
  have y4 := HY.out.c4
  have x5 := HX.out.c5
  have y5 := HY.out.c5
  have x6 := HX.out.c6
  have y6 := HY.out.c6
  have x7 := HX.out.c7
  have y7 := HY.out.c7
  rw [← e0] at y0
  skip
  rw [← e2] at y2
  have f3 : (a.n == b.n) = false := by rw [beq_eq_false_iff_ne]; exact e3
  clear HX HY
  go_wp2_with fail
  go_ret
  exact ⟨rfl, HB.out⟩
set_option maxHeartbeats 2000000 in
set_option maxRecDepth 100000 in
theorem rval_4 (w : World) (a b : Vl) (e0 : a.kind = b.kind) (e1 : (a.s.toList == b.s.toList) = true) (e2 : a.b = b.b) (e3 : a.n = b.n) (e4 : (a.inner.toList == b.inner.toList) = false) :
    Calls Tryz.prog 63 #[vlA a, vlA b] w fun e w' => e = .returned (.bool false) ∧ Below w.heap.size w w' := by
  have hX : XVl ((w.alloc (.cells (vlC a).toArray 57)).alloc (.cells (vlC b).toArray 57)) w.heap.size a := XVl.below ⟨heap_alloc_new w _⟩ ((Below.refl _ _).alloc (Nat.le_refl _) _)
  have hY : XVl ((w.alloc (.cells (vlC a).toArray 57)).alloc (.cells (vlC b).toArray 57)) (w.heap.size + 1) b := ⟨by have h := heap_alloc_new (w.alloc (.cells (vlC a).toArray 57)) (.cells (vlC b).toArray 57); simp only [World.size_alloc] at h; exact h⟩
  have HB : Aside0 (Below w.heap.size w ((w.alloc (.cells (vlC a).toArray 57)).alloc (.cells (vlC b).toArray 57))) := ⟨((Below.refl _ _).alloc (Nat.le_refl _) _).alloc (by simp only [World.size_alloc]; omega) _⟩
  have HX := Aside0.mk hX
  have HY := Aside0.mk hY
  clear hX hY
  show Calls _ _ #[.agg (vlC a).toArray, .agg (vlC b).toArray] _ _
  go_enter Tryz.func63, Tryz.ntmps63
  go_upto_region 1 with (first
    | ((with_reducible refine gate_dst (N := 2) rfl ?_); refine Great.wpList_boxTo rfl 57 _ rfl _ rfl w.heap.size rfl (vlC a).toArray rfl ?_)
    | ((with_reducible refine gate_dst (N := 3) rfl ?_); refine Great.wpList_boxTo rfl 57 _ rfl _ rfl (w.heap.size + 1) (by simp only [World.size_alloc]) (vlC b).toArray rfl ?_))
  generalize ((w.alloc (.cells (vlC a).toArray 57)).alloc (.cells (vlC b).toArray 57)) = w1 at *
  have x0 := HX.out.c0
  have y0 := HY.out.c0
  have x1 := HX.out.c1
  have y1 := HY.out.c1
  have x2 := HX.out.c2
  have y2 := HY.out.c2
  have x3 := HX.out.c3
  have y3 := HY.out.c3
  have x4 := HX.out.c4
  have y4 := HY.out.c4
  have x5 := HX.out.c5
  have y5 := HY.out.c5
  have x6 := HX.out.c6
  have y6 := HY.out.c6
  have x7 := HX.out.c7
  have y7 := HY.out.c7
  rw [← e0] at y0
  skip
  rw [← e2] at y2
  rw [← e3] at y3
  skip
  clear HX HY
  go_wp2_with fail
  go_ret
  exact ⟨rfl, HB.out⟩
set_option maxHeartbeats 2000000 in
set_option maxRecDepth 100000 in
theorem rval_5 (w : World) (a b : Vl) (e0 : a.kind = b.kind) (e1 : (a.s.toList == b.s.toList) = true) (e2 : a.b = b.b) (e3 : a.n = b.n) (e4 : (a.inner.toList == b.inner.toList) = true) (e5 : (a.unk.toList == b.unk.toList) = false) :
    Calls Tryz.prog 63 #[vlA a, vlA b] w fun e w' => e = .returned (.bool false) ∧ Below w.heap.size w w' := by
  have hX : XVl ((w.alloc (.cells (vlC a).toArray 57)).alloc (.cells (vlC b).toArray 57)) w.heap.size a := XVl.below ⟨heap_alloc_new w _⟩ ((Below.refl _ _).alloc (Nat.le_refl _) _)
  have hY : XVl ((w.alloc (.cells (vlC a).toArray 57)).alloc (.cells (vlC b).toArray 57)) (w.heap.size + 1) b := ⟨by have h := heap_alloc_new (w.alloc (.cells (vlC a).toArray 57)) (.cells (vlC b).toArray 57); simp only [World.size_alloc] at h; exact h⟩
  have HB : Aside0 (Below w.heap.size w ((w.alloc (.cells (vlC a).toArray 57)).alloc (.cells (vlC b).toArray 57))) := ⟨((Below.refl _ _).alloc (Nat.le_refl _) _).alloc (by simp only [World.size_alloc]; omega) _⟩
  have HX := Aside0.mk hX
  have HY := Aside0.mk hY
  clear hX hY
  show Calls _ _ #[.agg (vlC a).toArray, .agg (vlC b).toArray] _ _
  go_enter Tryz.func63, Tryz.ntmps63
  go_upto_region 1 with (first
    | ((with_reducible refine gate_dst (N := 2) rfl ?_); refine Great.wpList_boxTo rfl 57 _ rfl _ rfl w.heap.size rfl (vlC a).toArray rfl ?_)
    | ((with_reducible refine gate_dst (N := 3) rfl ?_); refine Great.wpList_boxTo rfl 57 _ rfl _ rfl (w.heap.size + 1) (by simp only [World.size_alloc]) (vlC b).toArray rfl ?_))
  generalize ((w.alloc (.cells (vlC a).toArray 57)).alloc (.cells (vlC b).toArray 57)) = w1 at *
  have x0 := HX.out.c0
  have y0 := HY.out.c0
  have x1 := HX.out.c1
  have y1 := HY.out.c1
  have x2 := HX.out.c2
  have y2 := HY.out.c2
  have x3 := HX.out.c3
  have y3 := HY.out.c3
  have x4 := HX.out.c4
  have y4 := HY.out.c4
  have x5 := HX.out.c5
  have y5 := HY.out.c5
  have x6 := HX.out.c6
  have y6 := HY.out.c6
  have x7 := HX.out.c7
  have y7 := HY.out.c7
  rw [← e0] at y0
  skip
  rw [← e2] at y2
  rw [← e3] at y3
  skip
  skip
  clear HX HY
  go_wp2_with fail
  go_ret
  exact ⟨rfl, HB.out⟩
set_option maxHeartbeats 2000000 in
set_option maxRecDepth 100000 in
theorem rval_6 (w : World) (a b : Vl) (e0 : a.kind = b.kind) (e1 : (a.s.toList == b.s.toList) = true) (e2 : a.b = b.b) (e3 : a.n = b.n) (e4 : (a.inner.toList == b.inner.toList) = true) (e5 : (a.unk.toList == b.unk.toList) = true) (e6 : ¬ a.l.len = b.l.len) :
    Calls Tryz.prog 63 #[vlA a, vlA b] w fun e w' => e = .returned (.bool false) ∧ Below w.heap.size w w' := by
  have hX : XVl ((w.alloc (.cells (vlC a).toArray 57)).alloc (.cells (vlC b).toArray 57)) w.heap.size a := XVl.below ⟨heap_alloc_new w _⟩ ((Below.refl _ _).alloc (Nat.le_refl _) _)
  have hY : XVl ((w.alloc (.cells (vlC a).toArray 57)).alloc (.cells (vlC b).toArray 57)) (w.heap.size + 1) b := ⟨by have h := heap_alloc_new (w.alloc (.cells (vlC a).toArray 57)) (.cells (vlC b).toArray 57); simp only [World.size_alloc] at h; exact h⟩
  have HB : Aside0 (Below w.heap.size w ((w.alloc (.cells (vlC a).toArray 57)).alloc (.cells (vlC b).toArray 57))) := ⟨((Below.refl _ _).alloc (Nat.le_refl _) _).alloc (by simp only [World.size_alloc]; omega) _⟩
  have HX := Aside0.mk hX
  have HY := Aside0.mk hY
  clear hX hY
  show Calls _ _ #[.agg (vlC a).toArray, .agg (vlC b).toArray] _ _
  go_enter Tryz.func63, Tryz.ntmps63
  go_upto_region 1 with (first
    | ((with_reducible refine gate_dst (N := 2) rfl ?_); refine Great.wpList_boxTo rfl 57 _ rfl _ rfl w.heap.size rfl (vlC a).toArray rfl ?_)
    | ((with_reducible refine gate_dst (N := 3) rfl ?_); refine Great.wpList_boxTo rfl 57 _ rfl _ rfl (w.heap.size + 1) (by simp only [World.size_alloc]) (vlC b).toArray rfl ?_))
  generalize ((w.alloc (.cells (vlC a).toArray 57)).alloc (.cells (vlC b).toArray 57)) = w1 at *
  have x0 := HX.out.c0
  have y0 := HY.out.c0
  have x1 := HX.out.c1
  have y1 := HY.out.c1
  have x2 := HX.out.c2
  have y2 := HY.out.c2
  have x3 := HX.out.c3
  have y3 := HY.out.c3
  have x4 := HX.out.c4
  have y4 := HY.out.c4
  have x5 := HX.out.c5
  have y5 := HY.out.c5
  have x6 := HX.out.c6
  have y6 := HY.out.c6
  have x7 := HX.out.c7
  have y7 := HY.out.c7
  rw [← e0] at y0
  skip
  rw [← e2] at y2
  rw [← e3] at y3
  skip
  skip
  have g6 : ¬ (a.l.len : Int) = (b.l.len : Int) := by omega
  have f6 : ((a.l.len : Int) == (b.l.len : Int)) = false := by rw [beq_eq_false_iff_ne]; exact g6
  clear HX HY
  go_wp2_with fail
  go_ret
  exact ⟨rfl, HB.out⟩
set_option maxHeartbeats 2000000 in
set_option maxRecDepth 100000 in
theorem rval_k (W w : World) (d : Nat) (HK : RSK W d) (a b : Vl) (hW : Below W.heap.size W w) (ha : VlOk W a) (hb : VlOk W b) (hf : FinV W (d + 1) a) (e0 : a.kind = b.kind) (e1 : (a.s.toList == b.s.toList) = true) (e2 : a.b = b.b) (e3 : a.n = b.n) (e4 : (a.inner.toList == b.inner.toList) = true) (e5 : (a.unk.toList == b.unk.toList) = true) (e6 : a.l.len = b.l.len) (e7 : listB (eqK (eqV W d)) (kvs W a.m) (kvs W b.m) = false) :
    Calls Tryz.prog 63 #[vlA a, vlA b] w fun e w' => e = .returned (.bool false) ∧ Below w.heap.size w w' := by
  have hX : XVl ((w.alloc (.cells (vlC a).toArray 57)).alloc (.cells (vlC b).toArray 57)) w.heap.size a := XVl.below ⟨heap_alloc_new w _⟩ ((Below.refl _ _).alloc (Nat.le_refl _) _)
  have hY : XVl ((w.alloc (.cells (vlC a).toArray 57)).alloc (.cells (vlC b).toArray 57)) (w.heap.size + 1) b := ⟨by have h := heap_alloc_new (w.alloc (.cells (vlC a).toArray 57)) (.cells (vlC b).toArray 57); simp only [World.size_alloc] at h; exact h⟩
  have HB : Aside0 (Below w.heap.size w ((w.alloc (.cells (vlC a).toArray 57)).alloc (.cells (vlC b).toArray 57))) := ⟨((Below.refl _ _).alloc (Nat.le_refl _) _).alloc (by simp only [World.size_alloc]; omega) _⟩
  have HX := Aside0.mk hX
  have HY := Aside0.mk hY
  have HKC := Aside0.mk (fun w2 (hb2 : Below w.heap.size w w2) => HK w2 a.m b.m (hW.trans (hb2.mono hW.size)) ha.m hb.m hf.2)
  unfold Sl.v at HKC
  rw [e7] at HKC
  clear hX hY hW ha hb hf HK e7
  show Calls _ _ #[.agg (vlC a).toArray, .agg (vlC b).toArray] _ _
  go_enter Tryz.func63, Tryz.ntmps63
  go_upto_region 1 with (first
    | ((with_reducible refine gate_dst (N := 2) rfl ?_); refine Great.wpList_boxTo rfl 57 _ rfl _ rfl w.heap.size rfl (vlC a).toArray rfl ?_)
    | ((with_reducible refine gate_dst (N := 3) rfl ?_); refine Great.wpList_boxTo rfl 57 _ rfl _ rfl (w.heap.size + 1) (by simp only [World.size_alloc]) (vlC b).toArray rfl ?_))
  generalize ((w.alloc (.cells (vlC a).toArray 57)).alloc (.cells (vlC b).toArray 57)) = w1 at *
  have x0 := HX.out.c0
  have y0 := HY.out.c0
  have x1 := HX.out.c1
  have y1 := HY.out.c1
  have x2 := HX.out.c2
  have y2 := HY.out.c2
  have x3 := HX.out.c3
  have y3 := HY.out.c3
  have x4 := HX.out.c4
  have y4 := HY.out.c4
  have x5 := HX.out.c5
  have y5 := HY.out.c5
  have x6 := HX.out.c6
  have y6 := HY.out.c6
  have x7 := HX.out.c7
  have y7 := HY.out.c7
  rw [← e0] at y0
  skip
  rw [← e2] at y2
  rw [← e3] at y3
  skip
  skip
  rw [← e6] at y4
  go_wp2_with (go_at_call 17; with_reducible refine (HKC.out _ HB.out).mono ?_; rintro e w2 ⟨rfl, hb2⟩; have n0_ := Aside0.mk (below_next HB.out hb2); have n1_ := Aside0.mk (HX.out.below hb2); have n2_ := Aside0.mk (HY.out.below hb2); clear HB HX HY hb2 x0 y0 x1 y1 x2 y2 x3 y3 x4 y4 x5 y5 x6 y6 x7 y7; have HB := n0_; have HX := n1_; have HY := n2_; clear n0_ n1_ n2_)
  go_ret
  exact ⟨rfl, HB.out⟩
end Go.Proofs.YtnghlkbmfhkmoaaGreatDoor
