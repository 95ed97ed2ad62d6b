import Derived.Test.YtnghlkbmfhkmoaaGreatDoorMwysuqsvv
import Derived.Great.Walk
import Derived.Laws.CopyOwn
import Derived.Test.YtnghlkbmfhkmoaaGreatDoorMkhyfnfmj
namespace Go.Proofs.YtnghlkbmfhkmoaaGreatDoor
open Go.RowKit Go.Proofs.YtnghlkbmfhkmoaaGreatDoorW.PrintWords Go.Proofs.YtnghlkbmfhkmoaaGreatDoorW.PrintLast Go.Proofs.YtnghlkbmfhkmoaaGreatDoorW.PrintMore

/-! ### a region of open order by what holds on the way -/
theorem count_set : ∀ (l : List Bool) (i : Nat), l[i]? = some false → (l.set i true).count false + 1 = l.count false
  | [], i, h => by simp at h
  | b :: l, 0, h => by
    simp only [List.getElem?_cons_zero, Option.some.injEq] at h
    subst h
    simp
  | b :: l, i + 1, h => by
    have h' : l[i]? = some false := by simpa using h
    have := count_set l i h'
    simp only [List.set_cons_succ, List.count_cons]
    omega
section
variable {P : Program} {ops : Array Oper} {Q : Exit → Act → World → Prop} {md : Region.Mode}
theorem wpOp_plain {i : Nat} {o : Oper} {K : Act → World → Prop} {a : Act} {w : World} (ho : ops[i]? = some o) (hg : o.guard = none) (h : o.wp P a w K Q) : wpOp P ops Q i K a w := by
  unfold wpOp
  rw [ho]
  show if Region.wanted o (yielded ops a.tmps) = true then _ else _
  rw [if_pos (by unfold Region.wanted; rw [hg])]
  exact .inl h
theorem wpAny_inv (I : Array Bool → Act → World → Prop)
    (hstep : ∀ listed a w i, I listed a w → i ∈ Region.ready md ops listed → wpOp P ops Q i (fun a' w' => I (listed.setIfInBounds i true) a' w') a w)
    (hdone : ∀ listed a w, I listed a w → Region.ready md ops listed = [] → Q .normal a w) :
    ∀ (n fuel : Nat) (listed : Array Bool) (a : Act) (w : World), listed.toList.count false = n → n ≤ fuel → I listed a w → wpAny P md ops Q fuel listed a w := by
  intro n
  induction n with
  | zero =>
    intro fuel listed a w hn _ hI
    have hr : Region.ready md ops listed = [] := by
      rcases hq : Region.ready md ops listed with _ | ⟨i, l⟩
      · rfl
      · have hm : i ∈ Region.ready md ops listed := by rw [hq]; exact List.mem_cons_self
        have h1 := (mem_ready.1 hm).1
        have h2 : listed.toList[i]? = some false := by
          rw [Array.getElem?_toList]
          cases hg : listed[i]? with
          | none => simp [Array.getD_eq_getD_getElem?, hg] at h1
          | some b => simp [Array.getD_eq_getD_getElem?, hg] at h1; rw [h1]
        have := count_set _ _ h2
        omega
    exact wpAny_done hr (hdone _ _ _ hI hr) fuel
  | succ n ih =>
    intro fuel listed a w hn hf hI
    obtain ⟨f, rfl⟩ : ∃ f, fuel = f + 1 := ⟨fuel - 1, by omega⟩
    refine ⟨fun hr => hdone _ _ _ hI hr, fun i hi => ?_⟩
    refine wpOp_mono (fun a' w' h' => ih f _ a' w' ?_ (by omega) h') (hstep _ _ _ i hI hi)
    have h1 := (mem_ready.1 hi).1
    have h2 : listed.toList[i]? = some false := by
      rw [Array.getElem?_toList]
      cases hg : listed[i]? with
      | none => simp [Array.getD_eq_getD_getElem?, hg] at h1
      | some b => simp [Array.getD_eq_getD_getElem?, hg] at h1; rw [h1]
    have := count_set _ _ h2
    rw [Array.toList_setIfInBounds]
    omega
theorem wp_alloc {o : Oper} {a : Act} {w : World} {K : Act → World → Prop} (t : TypeId) (ho : o.op = .alloc t) (z : Value) (hz : (P.info? t).map (·.zero) = some (some z))
    (h : K (a.put o.dst (.pointer (some ⟨w.heap.size, 0, none⟩))) (w.alloc (.cells z.cells t))) : o.wp P a w K Q := by
  cases hi : P.info? t with
  | none => rw [hi] at hz; simp at hz
  | some i =>
    rw [hi] at hz
    have hz' : i.zero = some z := by simpa using hz
    unfold Oper.wp execOp
    have hr : (Instr.alloc t true (.tuple #[])).run P w = .ok (.pointer (some ⟨w.heap.size, 0, none⟩)) (w.alloc (.cells z.cells t)) := by
      simp [Instr.alloc, zeroValue, typeInfo, hi, hz', newVar, newRow]
    simp only [ho, Sem.run_bind, hr, Sem.run_pure, Result.andThen_ok]
    exact h
theorem wpList_alloc {rest : List Oper} {o : Oper} {a : Act} {w : World} (hg : o.guard = none) (t : TypeId) (ho : o.op = .alloc t) (z : Value) (hz : (P.info? t).map (·.zero) = some (some z))
    (h : wpList P ops Q rest (a.put o.dst (.pointer (some ⟨w.heap.size, 0, none⟩))) (w.alloc (.cells z.cells t))) : wpList P ops Q (o :: rest) a w :=
  wpList_plain hg fun _ hK => wp_alloc t ho z hz (hK _ _ h)
end
/-! ### parts of a function's code -/
def dropSeq : Nat → Code → Code
  | 0, c => c
  | n + 1, .seq _ c => dropSeq n c
  | _ + 1, c => c
def headOps : Code → Array Oper
  | .seq c _ => headOps c
  | .region _ ops _ => ops
  | _ => #[]
end Go.Proofs.YtnghlkbmfhkmoaaGreatDoor
namespace Go.Proofs.YtnghlkbmfhkmoaaGreatDoor
open Go.RowKit Go.Proofs.YtnghlkbmfhkmoaaGreatDoorW.PrintWords Go.Proofs.YtnghlkbmfhkmoaaGreatDoorW.PrintLast Go.Proofs.YtnghlkbmfhkmoaaGreatDoorW.PrintMore

theorem blk_fz {w : World} {g t : Nat} {c : Array Value} (h : w.heap[g]? = some (.cells c t (0, 0))) (i : Nat) : w.frozen? ⟨g, i, none⟩ = false := by
  simp [World.frozen?, h]
theorem wp_code {P : Program} {c c1 c2 : Code} {Q : Exit → Act → World → Prop} {a : Act} {w : World} (h : c = Code.seq c1 c2) (hw : (Code.seq c1 c2).wp P Q a w) : c.wp P Q a w := h ▸ hw
def headC : Code → Code
  | .seq c _ => c
  | c => c
theorem wp_reg {P : Program} {c : Code} {n : Nat} {ops : Array Oper} {b : Bool} {Q : Exit → Act → World → Prop} {a : Act} {w : World} (h : c = Code.region n ops b) (hw : (Code.region n ops b).wp P Q a w) : c.wp P Q a w := h ▸ hw
theorem seq_step {P : Program} {n : Nat} {Q : Exit → Act → World → Prop} {a : Act} {w : World} {c : Code} (h : dropSeq n c = Code.seq (headC (dropSeq n c)) (dropSeq (n + 1) c))
    (hw : (headC (dropSeq n c)).wp P (Exit.then (fun a w => (dropSeq (n + 1) c).wp P Q a w) Q) a w) : (dropSeq n c).wp P Q a w := by
  rw [h]
  exact wp_seq hw
theorem below_copy {w0 w : World} (h : Below w0.heap.size w0 w) (o : Obj) (cs : Array Value) : Below w0.heap.size w0 ((w.alloc o).setRow w.heap.size cs) := below_setRow (h.alloc h.size o) h.size cs
theorem copy_at {w : World} (c cs : Array Value) (t : TypeId) : ((w.alloc (.cells c t)).setRow w.heap.size cs).heap[w.heap.size]? = some (.cells cs t (0, 0)) := setRow_heap _ _ _ _ _ _ (heap_alloc_new w _)
theorem wpList_allocZ {P : Program} {ops : Array Oper} {Q : Exit → Act → World → Prop} {rest : List Oper} {o : Oper} {a : Act} {w : World} (hg : o.guard = none) (t : TypeId) (ho : o.op = .alloc t) (cs : Array Value) (z : Value) (hz : (P.info? t).map (·.zero) = some (some z)) (hc : z.cells = cs)
    (h : wpList P ops Q rest (a.put o.dst (.pointer (some ⟨w.heap.size, 0, none⟩))) (w.alloc (.cells cs t))) : wpList P ops Q (o :: rest) a w := by
  subst hc
  exact wpList_alloc hg t ho z hz h
theorem wpList_load_rowG {P : Program} {ops : Array Oper} {rest : List Oper} {o : Oper} {a : Act} {w : World} {Q : Exit → Act → World → Prop} (hw : Region.wanted o (yielded ops a.tmps) = true) (ty : TypeId) (x : Operand) (ho : o.op = .load ty x)
    (g : Nat) (hx : a.eval x = .pointer (some ⟨g, 0, none⟩)) (t : TypeId) (cs : Array Value) (fr : Nat × Nat) (d : TypeDesc) (hg : w.heap[g]? = some (.cells cs t fr))
    (hu : P.underlying ty = some d) (hd : (match d with | .struct _ | .array _ _ => true | _ => false) = true) (hi : (P.info? ty).map (·.size) = some cs.size)
    (h : wpList P ops Q rest (a.put o.dst (.agg cs)) w) : wpList P ops Q (o :: rest) a w := by
  unfold wpList
  rw [if_pos hw]
  exact .inl (wp_load_row ty x ho g hx t cs fr d hg hu hd hi h)
/-- A function told an answer in every later world. -/
def Ans (w : World) (f : Nat) (v : Value) (r : Int) : Prop := ∀ W, Below w.heap.size w W → Calls Tryz.prog f #[v] W fun e W' => e = .returned (.int .i64 r) ∧ Below W.heap.size W W'
theorem Ans.at_ {w : World} {f : Nat} {v : Value} {r : Int} (h : Ans w f v r) (W : World) (hb : Below w.heap.size w W) : Calls Tryz.prog f #[v] W fun e W' => e = .returned (.int .i64 r) ∧ Below W.heap.size W W' := h W hb
end Go.Proofs.YtnghlkbmfhkmoaaGreatDoor
namespace Go.Proofs.YtnghlkbmfhkmoaaGreatDoor
open Go.RowKit Go.Proofs.YtnghlkbmfhkmoaaGreatDoorW.PrintWords Go.Proofs.YtnghlkbmfhkmoaaGreatDoorW.PrintLast Go.Proofs.YtnghlkbmfhkmoaaGreatDoorW.PrintMore

/-! ### slices.EqualFunc at values and at attributes -/
theorem wpList_load_at {P : Program} {ops : Array Oper} {rest : List Oper} {o : Oper} {a : Act} {w : World} {Q : Exit → Act → World → Prop} (hgd : o.guard = none) (ty : TypeId) (x : Operand) (ho : o.op = .load ty x) (ad : Addr) (hx : a.eval x = .pointer (some ad)) (cs : List Value)
    (hc : ∀ j v, cs[j]? = some v → w.cell? (ad.add j) = some v) {d : TypeDesc} (hu : P.underlying ty = some d) (hd : (match d with | .struct _ | .array _ _ => true | _ => false) = true) (hi : (P.info? ty).map (·.size) = some cs.length)
    (h : wpList P ops Q rest (a.put o.dst (.agg cs.toArray)) w) : wpList P ops Q (o :: rest) a w :=
  wpList_plain hgd fun _ hK => by
    have hr := ld_at (P := P) (o := o) (a := a) (w := w) ty x ho ad hx cs hc hu hd hi
    unfold Oper.wp
    simp only [hr]
    exact hK _ _ h
/-- A function that answers so in every later world. -/
def CB (w : World) (f : Nat) (args : Array Value) (r : Bool) : Prop := ∀ w2, Below w.heap.size w w2 → Calls Tryz.prog f args w2 fun e w' => e = .returned (.bool r) ∧ Below w2.heap.size w2 w'
noncomputable def zeroV : Value := ((Tryz.prog.info? 57).bind (·.zero)).getD undef
noncomputable def zcV : Array Value := zeroV.cells
theorem zcV_sz : zcV.size = 8 := by kernel_rfl
theorem vlC_all (x : Vl) : (vlC x).toArray.all (·.oneCell') = true := Array.all_eq_true_iff_forall_mem.2 (fun v hv => vl_one x v (by simpa using hv))
set_option maxHeartbeats 4000000 in
set_option maxRecDepth 100000 in
theorem eqf_V (W w : World) (f : Vl → Vl → Bool) (p : Vl → Prop) (s s' : Sl) (hW : Below W.heap.size W w) (hs : Rd Tryz.prog W 55 [s.v]) (hs' : Rd Tryz.prog W 55 [s'.v]) (hf : ∀ y ∈ vls W s, p y)
    (HE : ∀ (w2 : World) (x y : Vl), Below W.heap.size W w2 → VlOk W x → VlOk W y → p x → Calls Tryz.prog 62 #[.agg (vlC x).toArray, .agg (vlC y).toArray] w2 fun e w' => e = .returned (.bool (f x y)) ∧ Below w2.heap.size w2 w') :
    Calls Tryz.prog 81 #[s.v, s'.v, .func (.func 62) #[] #[]] w fun e w' => e = .returned (.bool (listB f (vls W s) (vls W s'))) ∧ Below w.heap.size w w' := by
  have hl := vls_at hs
  have hl' := vls_at hs'
  generalize vls W s = l at *
  generalize vls W s' = l' at *
  obtain ⟨sa, sn, sc⟩ := s
  obtain ⟨sa', sn', sc'⟩ := s'
  obtain rfl : sn = l.length := hl.1
  obtain rfl : sn' = l'.length := hl'.1
  have hlm : l.length ≤ 9223372036854775807 := by have h := hl.2.1; have h2 := hl.2.2.1; unfold maxLen at h2; simp only at h h2; omega
  have HL := Aside0.mk hl
  have HL' := Aside0.mk hl'
  have HW := Aside0.mk hW
  have HF := Aside0.mk hf
  have HVV := Aside0.mk HE
  have HB := Aside0.mk (Below.refl w.heap.size w)
  unfold Sl.v
  clear hl hl' hW hf HE hs hs'
  by_cases hne : l.length = l'.length
  · have HNE := Aside0.mk hne
    rw [← hne]
    clear hne
    generalize hR : listB f l l' = R
    have HR := Aside0.mk hR
    clear hR
    go_enter Tryz.func81, Tryz.ntmps81
    go_wp2_with fail
    go_loopw [17] (fun v17 w' => ∃ i : Nat, v17 = .int .i64 (i : Int) ∧ i ≤ l.length ∧ Aside0 (listB f (l.drop i) (l'.drop i) = R) ∧ Aside0 (Below w.heap.size w w')) (fun v17 _ => l.length - (intOf v17).toNat)
    case atStart => exact ⟨0, rfl, Nat.zero_le _, ⟨HR.out⟩, HB⟩
    case round =>
      clear HB
      obtain ⟨i, rfl, hi, HEE, HB⟩ := hrel
      by_cases hlt : i < l.length
      · have hlt' : i < l'.length := by have := HNE.out; omega
        obtain ⟨ad, rfl, hel⟩ := HL.out.2.2.2 (by omega)
        obtain ⟨ad', rfl, hel'⟩ := HL'.out.2.2.2 (by omega)
        obtain ⟨he1, he2⟩ := hel i hlt
        obtain ⟨he1', he2'⟩ := hel' i hlt'
        have hE := HEE.out
        rw [listB_drop l l' i hlt hlt'] at hE
        have hfi := HF.out l[i] (List.getElem_mem hlt)
        generalize l[i] = x at *
        generalize l'[i] = y at *
        have hWr : Below W.heap.size W wr := HW.out.trans (HB.out.mono HW.out.size)
        have HPX := Aside0.mk (cells_below hWr (vl_cells he1))
        have HWr := Aside0.mk hWr
        have HPY := Aside0.mk (fun w2 (hb : Below wr.heap.size wr w2) => cells_below (hWr.trans (hb.mono hWr.size)) (vl_cells he1'))
        have HKY := Aside0.mk (fun w2 (hb : Below wr.heap.size wr w2) => HVV.out w2 x y (hWr.trans (hb.mono hWr.size)) he2 he2' hfi)
        generalize f x y = q at *
        have HEn := Aside0.mk hE
        have HBr := HB
        clear HEE HB hE he1 he1' he2 he2' hel hel' hfi hWr
        have c1 : (i : Int) < (l.length : Int) := by omega
        have c2 : (0 : Int) ≤ (i : Int) := by omega
        go_upto_region 6 with (first
          | ((with_reducible refine gate_dst (N := 21) rfl ?_); refine wpList_load_at rfl 57 _ rfl (ad.add (i * 8)) rfl (vlC x) HPX.out Tryz.underlying57 rfl (by kernel_rfl) ?_)
          | ((with_reducible refine gate_dst (N := 8) rfl ?_); refine wpList_allocZ rfl 57 rfl zcV zeroV (by kernel_rfl) rfl ?_)
          | (refine wpList_store_row rfl 57 _ _ rfl wr.heap.size (vlC x).toArray rfl rfl 57 zcV (heap_alloc_new wr _) (by kernel_rfl) zcV_sz (vlC_all _) ?_))
        have hB1 : Below wr.heap.size wr ((wr.alloc (.cells zcV 57)).setRow wr.heap.size (vlC x).toArray) := below_copy (Below.refl _ _) _ _
        have H1 := Aside0.mk (show XVl ((wr.alloc (.cells zcV 57)).setRow wr.heap.size (vlC x).toArray) wr.heap.size x from ⟨copy_at _ _ _⟩)
        generalize (wr.alloc (.cells zcV 57)).setRow wr.heap.size (vlC x).toArray = w2 at *
        generalize hp1 : wr.heap.size = p1 at H1 ⊢
        clear hp1
        have HB1 := Aside0.mk hB1
        clear hB1
        go_upto_region 7 with (first
          | ((with_reducible refine gate_dst (N := 25) rfl ?_); refine wpList_load_at rfl 57 _ rfl (ad'.add (i * 8)) rfl (vlC y) (HPY.out _ HB1.out) Tryz.underlying57 rfl (by kernel_rfl) ?_)
          | ((with_reducible refine gate_dst (N := 9) rfl ?_); refine wpList_allocZ rfl 57 rfl zcV zeroV (by kernel_rfl) rfl ?_)
          | (refine wpList_store_row rfl 57 _ _ rfl w2.heap.size (vlC y).toArray rfl rfl 57 zcV (heap_alloc_new w2 _) (by kernel_rfl) zcV_sz (vlC_all _) ?_))
        have hB2 : Below w2.heap.size w2 ((w2.alloc (.cells zcV 57)).setRow w2.heap.size (vlC y).toArray) := below_copy (Below.refl _ _) _ _
        have H2 := Aside0.mk (show XVl ((w2.alloc (.cells zcV 57)).setRow w2.heap.size (vlC y).toArray) w2.heap.size y from ⟨copy_at _ _ _⟩)
        have H1n := Aside0.mk (H1.out.below hB2)
        have HB := Aside0.mk (below_next HB1.out hB2)
        clear H1
        generalize (w2.alloc (.cells zcV 57)).setRow w2.heap.size (vlC y).toArray = w3 at *
        generalize hp2 : w2.heap.size = p2 at H2 ⊢
        clear hp2 hB2
        cases q
        · have HRq := Aside0.mk (show R = false from HEn.out.symm)
          go_wp2_with (first
            | (refine wpList_load_row rfl 57 _ rfl p1 rfl 57 (vlC x).toArray (0, 0) _ H1n.out.blk Tryz.underlying57 rfl (by kernel_rfl) ?_)
            | (refine wpList_load_row rfl 57 _ rfl p2 rfl 57 (vlC y).toArray (0, 0) _ H2.out.blk Tryz.underlying57 rfl (by kernel_rfl) ?_)
            | (go_at_call 62; with_reducible refine (HKY.out _ HB.out).mono ?_; rintro e w4 ⟨rfl, hb⟩; have HBn := Aside0.mk (below_next HB.out hb); clear HB hb; have HB := HBn; clear HBn))
          go_ret
          exact ⟨by rw [HRq.out]; rfl, below_next HBr.out HB.out⟩
        · have HRq := Aside0.mk (show listB f (l.drop (i + 1)) (l'.drop (i + 1)) = R from HEn.out)
          go_wp2_with (first
            | (refine wpList_load_row rfl 57 _ rfl p1 rfl 57 (vlC x).toArray (0, 0) _ H1n.out.blk Tryz.underlying57 rfl (by kernel_rfl) ?_)
            | (refine wpList_load_row rfl 57 _ rfl p2 rfl 57 (vlC y).toArray (0, 0) _ H2.out.blk Tryz.underlying57 rfl (by kernel_rfl) ?_)
            | (go_at_call 62; with_reducible refine (HKY.out _ HB.out).mono ?_; rintro e w4 ⟨rfl, hb⟩; have HBn := Aside0.mk (below_next HB.out hb); clear HB hb; have HB := HBn; clear HBn))
          go_roundw
          case rel => exact ⟨i + 1, by go_num, by omega, HRq, ⟨below_next HBr.out HB.out⟩⟩
          case measure => simp [intOf]; omega
      · have HRq := Aside0.mk (show R = true by
          rw [← HEE.out, List.drop_of_length_le (by omega), List.drop_of_length_le (by have := HNE.out; omega)]; rfl)
        go_wp2_with fail
        go_ret
        exact ⟨by rw [HRq.out]; rfl, HB.out⟩
  · rw [listB_len l l' hne]
    have hne3 : ¬ (l.length : Int) = (l'.length : Int) := by omega
    have hne2 : ((l.length : Int) == (l'.length : Int)) = false := by rw [beq_eq_false_iff_ne]; exact hne3
    go_enter Tryz.func81, Tryz.ntmps81
    go_wp2_with fail
    go_ret
    exact ⟨rfl, HB.out⟩
noncomputable def zeroK : Value := ((Tryz.prog.info? 59).bind (·.zero)).getD undef
noncomputable def zcK : Array Value := zeroK.cells
theorem zcK_sz : zcK.size = 11 := by kernel_rfl
theorem kvC_all (x : Kv) : (kvC x).toArray.all (·.oneCell') = true := Array.all_eq_true_iff_forall_mem.2 (fun v hv => kv_one x v (by simpa using hv))
set_option maxHeartbeats 4000000 in
set_option maxRecDepth 100000 in
theorem eqf_K (W w : World) (f : Kv → Kv → Bool) (p : Kv → Prop) (s s' : Sl) (hW : Below W.heap.size W w) (hs : Rd Tryz.prog W 22 [s.v]) (hs' : Rd Tryz.prog W 22 [s'.v]) (hf : ∀ y ∈ kvs W s, p y)
    (HE : ∀ (w2 : World) (x y : Kv), Below W.heap.size W w2 → KvOk W x → KvOk W y → p x → Calls Tryz.prog 41 #[.agg (kvC x).toArray, .agg (kvC y).toArray] w2 fun e w' => e = .returned (.bool (f x y)) ∧ Below w2.heap.size w2 w') :
    Calls Tryz.prog 40 #[s.v, s'.v, .func (.func 41) #[] #[]] w fun e w' => e = .returned (.bool (listB f (kvs W s) (kvs W s'))) ∧ Below w.heap.size w w' := by
  have hl := kvs_at hs
  have hl' := kvs_at hs'
  generalize kvs W s = l at *
  generalize kvs W s' = l' at *
  obtain ⟨sa, sn, sc⟩ := s
  obtain ⟨sa', sn', sc'⟩ := s'
  obtain rfl : sn = l.length := hl.1
  obtain rfl : sn' = l'.length := hl'.1
  have hlm : l.length ≤ 9223372036854775807 := by have h := hl.2.1; have h2 := hl.2.2.1; unfold maxLen at h2; simp only at h h2; omega
  have HL := Aside0.mk hl
  have HL' := Aside0.mk hl'
  have HW := Aside0.mk hW
  have HF := Aside0.mk hf
  have HVV := Aside0.mk HE
  have HB := Aside0.mk (Below.refl w.heap.size w)
  unfold Sl.v
  clear hl hl' hW hf HE hs hs'
  by_cases hne : l.length = l'.length
  · have HNE := Aside0.mk hne
    rw [← hne]
    clear hne
    generalize hR : listB f l l' = R
    have HR := Aside0.mk hR
    clear hR
    go_enter Tryz.func40, Tryz.ntmps40
    go_wp2_with fail
    go_loopw [17] (fun v17 w' => ∃ i : Nat, v17 = .int .i64 (i : Int) ∧ i ≤ l.length ∧ Aside0 (listB f (l.drop i) (l'.drop i) = R) ∧ Aside0 (Below w.heap.size w w')) (fun v17 _ => l.length - (intOf v17).toNat)
    case atStart => exact ⟨0, rfl, Nat.zero_le _, ⟨HR.out⟩, HB⟩
    case round =>
      clear HB
      obtain ⟨i, rfl, hi, HEE, HB⟩ := hrel
      by_cases hlt : i < l.length
      · have hlt' : i < l'.length := by have := HNE.out; omega
        obtain ⟨ad, rfl, hel⟩ := HL.out.2.2.2 (by omega)
        obtain ⟨ad', rfl, hel'⟩ := HL'.out.2.2.2 (by omega)
        obtain ⟨he1, he2⟩ := hel i hlt
        obtain ⟨he1', he2'⟩ := hel' i hlt'
        have hE := HEE.out
        rw [listB_drop l l' i hlt hlt'] at hE
        have hfi := HF.out l[i] (List.getElem_mem hlt)
        generalize l[i] = x at *
        generalize l'[i] = y at *
        have hWr : Below W.heap.size W wr := HW.out.trans (HB.out.mono HW.out.size)
        have HPX := Aside0.mk (cells_below hWr (kv_cells he1))
        have HWr := Aside0.mk hWr
        have HPY := Aside0.mk (fun w2 (hb : Below wr.heap.size wr w2) => cells_below (hWr.trans (hb.mono hWr.size)) (kv_cells he1'))
        have HKY := Aside0.mk (fun w2 (hb : Below wr.heap.size wr w2) => HVV.out w2 x y (hWr.trans (hb.mono hWr.size)) he2 he2' hfi)
        generalize f x y = q at *
        have HEn := Aside0.mk hE
        have HBr := HB
        clear HEE HB hE he1 he1' he2 he2' hel hel' hfi hWr
        have c1 : (i : Int) < (l.length : Int) := by omega
        have c2 : (0 : Int) ≤ (i : Int) := by omega
        go_upto_region 6 with (first
          | ((with_reducible refine gate_dst (N := 21) rfl ?_); refine wpList_load_at rfl 59 _ rfl (ad.add (i * 11)) rfl (kvC x) HPX.out Tryz.underlying59 rfl (by kernel_rfl) ?_)
          | ((with_reducible refine gate_dst (N := 8) rfl ?_); refine wpList_allocZ rfl 59 rfl zcK zeroK (by kernel_rfl) rfl ?_)
          | (refine wpList_store_row rfl 59 _ _ rfl wr.heap.size (kvC x).toArray rfl rfl 59 zcK (heap_alloc_new wr _) (by kernel_rfl) zcK_sz (kvC_all _) ?_))
        have hB1 : Below wr.heap.size wr ((wr.alloc (.cells zcK 59)).setRow wr.heap.size (kvC x).toArray) := below_copy (Below.refl _ _) _ _
        have H1 := Aside0.mk (show XK ((wr.alloc (.cells zcK 59)).setRow wr.heap.size (kvC x).toArray) wr.heap.size x from ⟨copy_at _ _ _⟩)
        generalize (wr.alloc (.cells zcK 59)).setRow wr.heap.size (kvC x).toArray = w2 at *
        generalize hp1 : wr.heap.size = p1 at H1 ⊢
        clear hp1
        have HB1 := Aside0.mk hB1
        clear hB1
        go_upto_region 7 with (first
          | ((with_reducible refine gate_dst (N := 25) rfl ?_); refine wpList_load_at rfl 59 _ rfl (ad'.add (i * 11)) rfl (kvC y) (HPY.out _ HB1.out) Tryz.underlying59 rfl (by kernel_rfl) ?_)
          | ((with_reducible refine gate_dst (N := 9) rfl ?_); refine wpList_allocZ rfl 59 rfl zcK zeroK (by kernel_rfl) rfl ?_)
          | (refine wpList_store_row rfl 59 _ _ rfl w2.heap.size (kvC y).toArray rfl rfl 59 zcK (heap_alloc_new w2 _) (by kernel_rfl) zcK_sz (kvC_all _) ?_))
        have hB2 : Below w2.heap.size w2 ((w2.alloc (.cells zcK 59)).setRow w2.heap.size (kvC y).toArray) := below_copy (Below.refl _ _) _ _
        have H2 := Aside0.mk (show XK ((w2.alloc (.cells zcK 59)).setRow w2.heap.size (kvC y).toArray) w2.heap.size y from ⟨copy_at _ _ _⟩)
        have H1n := Aside0.mk (H1.out.below hB2)
        have HB := Aside0.mk (below_next HB1.out hB2)
        clear H1
        generalize (w2.alloc (.cells zcK 59)).setRow w2.heap.size (kvC y).toArray = w3 at *
        generalize hp2 : w2.heap.size = p2 at H2 ⊢
        clear hp2 hB2
        cases q
        · have HRq := Aside0.mk (show R = false from HEn.out.symm)
          go_wp2_with (first
            | (refine wpList_load_row rfl 59 _ rfl p1 rfl 59 (kvC x).toArray (0, 0) _ H1n.out.blk Tryz.underlying59 rfl (by kernel_rfl) ?_)
            | (refine wpList_load_row rfl 59 _ rfl p2 rfl 59 (kvC y).toArray (0, 0) _ H2.out.blk Tryz.underlying59 rfl (by kernel_rfl) ?_)
            | (go_at_call 41; with_reducible refine (HKY.out _ HB.out).mono ?_; rintro e w4 ⟨rfl, hb⟩; have HBn := Aside0.mk (below_next HB.out hb); clear HB hb; have HB := HBn; clear HBn))
          go_ret
          exact ⟨by rw [HRq.out]; rfl, below_next HBr.out HB.out⟩
        · have HRq := Aside0.mk (show listB f (l.drop (i + 1)) (l'.drop (i + 1)) = R from HEn.out)
          go_wp2_with (first
            | (refine wpList_load_row rfl 59 _ rfl p1 rfl 59 (kvC x).toArray (0, 0) _ H1n.out.blk Tryz.underlying59 rfl (by kernel_rfl) ?_)
            | (refine wpList_load_row rfl 59 _ rfl p2 rfl 59 (kvC y).toArray (0, 0) _ H2.out.blk Tryz.underlying59 rfl (by kernel_rfl) ?_)
            | (go_at_call 41; with_reducible refine (HKY.out _ HB.out).mono ?_; rintro e w4 ⟨rfl, hb⟩; have HBn := Aside0.mk (below_next HB.out hb); clear HB hb; have HB := HBn; clear HBn))
          go_roundw
          case rel => exact ⟨i + 1, by go_num, by omega, HRq, ⟨below_next HBr.out HB.out⟩⟩
          case measure => simp [intOf]; omega
      · have HRq := Aside0.mk (show R = true by
          rw [← HEE.out, List.drop_of_length_le (by omega), List.drop_of_length_le (by have := HNE.out; omega)]; rfl)
        go_wp2_with fail
        go_ret
        exact ⟨by rw [HRq.out]; rfl, HB.out⟩
  · rw [listB_len l l' hne]
    have hne3 : ¬ (l.length : Int) = (l'.length : Int) := by omega
    have hne2 : ((l.length : Int) == (l'.length : Int)) = false := by rw [beq_eq_false_iff_ne]; exact hne3
    go_enter Tryz.func40, Tryz.ntmps40
    go_wp2_with fail
    go_ret
    exact ⟨rfl, HB.out⟩
end Go.Proofs.YtnghlkbmfhkmoaaGreatDoor
namespace Go.Proofs.YtnghlkbmfhkmoaaGreatDoor
open Go.RowKit Go.Proofs.YtnghlkbmfhkmoaaGreatDoorW.PrintWords Go.Proofs.YtnghlkbmfhkmoaaGreatDoorW.PrintLast Go.Proofs.YtnghlkbmfhkmoaaGreatDoorW.PrintMore

/-! ### value.SameKey, SameKeys -/
def SSV (W : World) (d : Nat) : Prop := ∀ (w : World) (a b : Vl), Below W.heap.size W w → VlOk W a → VlOk W b → FinV W d a →
  Calls Tryz.prog 62 #[vlA a, vlA b] w fun e w' => e = .returned (.bool (eqV W d a b)) ∧ Below w.heap.size w w'
def SSK (W : World) (d : Nat) : Prop := ∀ (w : World) (s s' : Sl), Below W.heap.size W w → Rd Tryz.prog W 22 [s.v] → Rd Tryz.prog W 22 [s'.v] → (∀ y ∈ kvs W s, FinV W d y.v) →
  Calls Tryz.prog 16 #[s.v, s'.v] w fun e w' => e = .returned (.bool (listB (eqK (eqV W d)) (kvs W s) (kvs W s'))) ∧ Below w.heap.size w w'
set_option maxHeartbeats 2000000 in
set_option maxRecDepth 100000 in
theorem skey_any (W w : World) (d : Nat) (HV : SSV W d) (x y : Kv) (hW : Below W.heap.size W w) (hx : KvOk W x) (hy : KvOk W y) (hf : FinV W d x.v) :
    Calls Tryz.prog 41 #[kvA x, kvA y] w fun e w' => e = .returned (.bool (eqK (eqV W d) x y)) ∧ Below w.heap.size w w' := by
  have H := Aside0.mk (fun w2 (hb : Below w.heap.size w w2) => HV w2 x.v y.v (hW.trans (hb.mono hW.size)) hx.v hy.v hf)
  unfold eqK
  unfold vlA Sl.v at H
  generalize eqV W d x.v y.v = r at *
  have hX : XK ((w.alloc (.cells (kvC x).toArray 59)).alloc (.cells (kvC y).toArray 59)) w.heap.size x := XK.below ⟨heap_alloc_new w _⟩ ((Below.refl _ _).alloc (Nat.le_refl _) _)
  have hY : XK ((w.alloc (.cells (kvC x).toArray 59)).alloc (.cells (kvC y).toArray 59)) (w.heap.size + 1) y := ⟨by have h := heap_alloc_new (w.alloc (.cells (kvC x).toArray 59)) (.cells (kvC y).toArray 59); simp only [World.size_alloc] at h; exact h⟩
  have HB : Aside0 (Below w.heap.size w ((w.alloc (.cells (kvC x).toArray 59)).alloc (.cells (kvC y).toArray 59))) := ⟨((Below.refl _ _).alloc (Nat.le_refl _) _).alloc (by simp only [World.size_alloc]; omega) _⟩
  have HX := Aside0.mk hX
  have HY := Aside0.mk hY
  have HHs := Aside0.mk hx
  clear hX hY hW hx hy hf
  have hk : ∃ q, stB x.key y.key = q ∧ (x.key.toList == y.key.toList) = q := ⟨_, rfl, rfl⟩
  have hu : ∃ q, stB x.unk y.unk = q ∧ (x.unk.toList == y.unk.toList) = q := ⟨_, rfl, rfl⟩
  obtain ⟨q1, e1, f1⟩ := hk
  obtain ⟨q2, e2, f2⟩ := hu
  obtain ⟨h1, eh1⟩ : ∃ q, x.has = q := ⟨_, rfl⟩
  obtain ⟨h2, eh2⟩ : ∃ q, y.has = q := ⟨_, rfl⟩
  rw [e1, e2, eh1, eh2]
  have EH1 := Aside0.mk eh1
  have EH2 := Aside0.mk eh2
  clear e1 e2 eh1 eh2
  unfold kvA
  go_enter Tryz.func41, Tryz.ntmps41
  go_upto_region 1 with (first
    | ((with_reducible refine gate_dst (N := 2) rfl ?_); refine Great.wpList_boxTo rfl 59 _ rfl _ rfl w.heap.size rfl (kvC x).toArray rfl ?_)
    | ((with_reducible refine gate_dst (N := 3) rfl ?_); refine Great.wpList_boxTo rfl 59 _ rfl _ rfl (w.heap.size + 1) (by simp only [World.size_alloc]) (kvC y).toArray rfl ?_))
  generalize (w.alloc (.cells (kvC x).toArray 59)).alloc (.cells (kvC y).toArray 59) = w1 at *
  have a0 := HX.out.c0
  have a1 := HX.out.c1
  have a2 := HX.out.c2
  have a3 := HX.out.c3
  have a4 := HX.out.c4
  have a5 := HX.out.c5
  have a6 := HX.out.c6
  have a7 := HX.out.c7
  have a8 := HX.out.c8
  have a9 := HX.out.c9
  have a10 := HX.out.c10
  have b0 := HY.out.c0
  have b1 := HY.out.c1
  have b2 := HY.out.c2
  have b3 := HY.out.c3
  have b4 := HY.out.c4
  have b5 := HY.out.c5
  have b6 := HY.out.c6
  have b7 := HY.out.c7
  have b8 := HY.out.c8
  have b9 := HY.out.c9
  have b10 := HY.out.c10
  have z := Tryz.sizeOf57
  clear HX HY HHs
  rw [EH1.out] at a1
  rw [EH2.out] at b1
  clear EH1 EH2
  cases q1 <;> cases q2 <;> cases h1 <;> cases h2
  all_goals
    go_wp2_with (go_at_call 62; with_reducible refine (H.out _ HB.out).mono ?_; rintro e w2 ⟨rfl, hb⟩; replace HB := Aside0.mk (below_next HB.out hb); clear hb)
    go_ret
    exact ⟨rfl, HB.out⟩
set_option maxHeartbeats 4000000 in
set_option maxRecDepth 100000 in
theorem skeys_any (W : World) (d : Nat) (HV : SSV W d) : SSK W d := by
  intro w s s' hW hs hs' hf
  have H := Aside0.mk (eqf_K W w (eqK (eqV W d)) (fun y => FinV W d y.v) s s' hW hs hs' hf (fun w2 x y hb hx hy hp => skey_any W w2 d HV x y hb hx hy hp))
  generalize listB (eqK (eqV W d)) (kvs W s) (kvs W s') = r at *
  unfold Sl.v at *
  clear hs hs' hf hW HV
  go_enter Tryz.func16, Tryz.ntmps16
  go_wp2_with (go_at_call 40; with_reducible refine H.out.mono ?_; rintro e w2 ⟨rfl, hb⟩; have HB := Aside0.mk hb; clear hb)
  go_ret
  exact ⟨rfl, HB.out⟩
end Go.Proofs.YtnghlkbmfhkmoaaGreatDoor
namespace Go.Proofs.YtnghlkbmfhkmoaaGreatDoor
open Go.RowKit Go.Proofs.YtnghlkbmfhkmoaaGreatDoorW.PrintWords Go.Proofs.YtnghlkbmfhkmoaaGreatDoorW.PrintLast Go.Proofs.YtnghlkbmfhkmoaaGreatDoorW.PrintMore

/-! ### value.Same -/
set_option maxHeartbeats 4000000 in
set_option maxRecDepth 100000 in
theorem sval_0 (w : World) (a b : Vl) (e0 : ¬ a.kind = b.kind) :
    Calls Tryz.prog 62 #[.agg (vlC a).toArray, .agg (vlC b).toArray] w fun e w' => e = .returned (.bool false) ∧ Below w.heap.size w w' := by
  have hX : XVl ((w.alloc (.cells (vlC a).toArray 57)).alloc (.cells (vlC b).toArray 57)) w.heap.size a := XVl.below ⟨heap_alloc_new w _⟩ ((Below.refl _ _).alloc (Nat.le_refl _) _)
  have hY : XVl ((w.alloc (.cells (vlC a).toArray 57)).alloc (.cells (vlC b).toArray 57)) (w.heap.size + 1) b := ⟨by have h := heap_alloc_new (w.alloc (.cells (vlC a).toArray 57)) (.cells (vlC b).toArray 57); simp only [World.size_alloc] at h; exact h⟩
  have HB : Aside0 (Below w.heap.size w ((w.alloc (.cells (vlC a).toArray 57)).alloc (.cells (vlC b).toArray 57))) := ⟨((Below.refl _ _).alloc (Nat.le_refl _) _).alloc (by simp only [World.size_alloc]; omega) _⟩
  have HX := Aside0.mk hX
  have HY := Aside0.mk hY
  clear hX hY
  go_enter Tryz.func62, Tryz.ntmps62
  go_upto_region 1 with (first
    | ((with_reducible refine gate_dst (N := 2) rfl ?_); refine Great.wpList_boxTo rfl 57 _ rfl _ rfl w.heap.size rfl (vlC a).toArray rfl ?_)
    | ((with_reducible refine gate_dst (N := 3) rfl ?_); refine Great.wpList_boxTo rfl 57 _ rfl _ rfl (w.heap.size + 1) (by simp only [World.size_alloc]) (vlC b).toArray rfl ?_))
  generalize ((w.alloc (.cells (vlC a).toArray 57)).alloc (.cells (vlC b).toArray 57)) = w1 at *
  have x0 := HX.out.c0
  have y0 := HY.out.c0
  have x1 := HX.out.c1
  have y1 := HY.out.c1
  have x2 := HX.out.c2
  have y2 := HY.out.c2
  have x3 := HX.out.c3
  have y3 := HY.out.c3
  have x4 := HX.out.c4
  have y4 := HY.out.c4
  have x5 := HX.out.c5
  have y5 := HY.out.c5
  have x6 := HX.out.c6
  have y6 := HY.out.c6
  have x7 := HX.out.c7
  have y7 := HY.out.c7
  have f0 : (a.kind == b.kind) = false := by rw [beq_eq_false_iff_ne]; exact e0
  clear HX HY
  go_wp2_with fail
  go_ret
  exact ⟨rfl, HB.out⟩
set_option maxHeartbeats 4000000 in
set_option maxRecDepth 100000 in
theorem sval_1 (w : World) (a b : Vl) (e0 : a.kind = b.kind) (e1 : (a.s.toList == b.s.toList) = false) :
    Calls Tryz.prog 62 #[.agg (vlC a).toArray, .agg (vlC b).toArray] w fun e w' => e = .returned (.bool false) ∧ Below w.heap.size w w' := by
  have hX : XVl ((w.alloc (.cells (vlC a).toArray 57)).alloc (.cells (vlC b).toArray 57)) w.heap.size a := XVl.below ⟨heap_alloc_new w _⟩ ((Below.refl _ _).alloc (Nat.le_refl _) _)
  have hY : XVl ((w.alloc (.cells (vlC a).toArray 57)).alloc (.cells (vlC b).toArray 57)) (w.heap.size + 1) b := ⟨by have h := heap_alloc_new (w.alloc (.cells (vlC a).toArray 57)) (.cells (vlC b).toArray 57); simp only [World.size_alloc] at h; exact h⟩
  have HB : Aside0 (Below w.heap.size w ((w.alloc (.cells (vlC a).toArray 57)).alloc (.cells (vlC b).toArray 57))) := ⟨((Below.refl _ _).alloc (Nat.le_refl _) _).alloc (by simp only [World.size_alloc]; omega) _⟩
  have HX := Aside0.mk hX
  have HY := Aside0.mk hY
  clear hX hY
  go_enter Tryz.func62, Tryz.ntmps62
  go_upto_region 1 with (first
    | ((with_reducible refine gate_dst (N := 2) rfl ?_); refine Great.wpList_boxTo rfl 57 _ rfl _ rfl w.heap.size rfl (vlC a).toArray rfl ?_)
    | ((with_reducible refine gate_dst (N := 3) rfl ?_); refine Great.wpList_boxTo rfl 57 _ rfl _ rfl (w.heap.size + 1) (by simp only [World.size_alloc]) (vlC b).toArray rfl ?_))
  generalize ((w.alloc (.cells (vlC a).toArray 57)).alloc (.cells (vlC b).toArray 57)) = w1 at *
  have x0 := HX.out.c0
  have y0 := HY.out.c0
  have x1 := HX.out.c1
  have y1 := HY.out.c1
  have x2 := HX.out.c2
  have y2 := HY.out.c2
  have x3 := HX.out.c3
  have y3 := HY.out.c3
  have x4 := HX.out.c4
  have y4 := HY.out.c4
  have x5 := HX.out.c5
  have y5 := HY.out.c5
  have x6 := HX.out.c6
  have y6 := HY.out.c6
  have x7 := HX.out.c7
  have y7 := HY.out.c7
  rw [← e0] at y0
  clear HX HY
  go_wp2_with fail
  go_ret
  exact ⟨rfl, HB.out⟩
set_option maxHeartbeats 4000000 in
set_option maxRecDepth 100000 in
theorem sval_2 (w : World) (a b : Vl) (e0 : a.kind = b.kind) (e1 : (a.s.toList == b.s.toList) = true) (e2 : ¬ a.b = b.b) :
    Calls Tryz.prog 62 #[.agg (vlC a).toArray, .agg (vlC b).toArray] w fun e w' => e = .returned (.bool false) ∧ Below w.heap.size w w' := by
  have hX : XVl ((w.alloc (.cells (vlC a).toArray 57)).alloc (.cells (vlC b).toArray 57)) w.heap.size a := XVl.below ⟨heap_alloc_new w _⟩ ((Below.refl _ _).alloc (Nat.le_refl _) _)
  have hY : XVl ((w.alloc (.cells (vlC a).toArray 57)).alloc (.cells (vlC b).toArray 57)) (w.heap.size + 1) b := ⟨by have h := heap_alloc_new (w.alloc (.cells (vlC a).toArray 57)) (.cells (vlC b).toArray 57); simp only [World.size_alloc] at h; exact h⟩
  have HB : Aside0 (Below w.heap.size w ((w.alloc (.cells (vlC a).toArray 57)).alloc (.cells (vlC b).toArray 57))) := ⟨((Below.refl _ _).alloc (Nat.le_refl _) _).alloc (by simp only [World.size_alloc]; omega) _⟩
  have HX := Aside0.mk hX
  have HY := Aside0.mk hY
  clear hX hY
  go_enter Tryz.func62, Tryz.ntmps62
  go_upto_region 1 with (first
    | ((with_reducible refine gate_dst (N := 2) rfl ?_); refine Great.wpList_boxTo rfl 57 _ rfl _ rfl w.heap.size rfl (vlC a).toArray rfl ?_)
    | ((with_reducible refine gate_dst (N := 3) rfl ?_); refine Great.wpList_boxTo rfl 57 _ rfl _ rfl (w.heap.size + 1) (by simp only [World.size_alloc]) (vlC b).toArray rfl ?_))
  generalize ((w.alloc (.cells (vlC a).toArray 57)).alloc (.cells (vlC b).toArray 57)) = w1 at *
  have x0 := HX.out.c0
  have y0 := HY.out.c0
  have x1 := HX.out.c1
  have y1 := HY.out.c1
  have x2 := HX.out.c2
  have y2 := HY.out.c2
  have x3 := HX.out.c3
  have y3 := HY.out.c3
  have x4 := HX.out.c4
  have y4 := HY.out.c4
  have x5 := HX.out.c5
  have y5 := HY.out.c5
  have x6 := HX.out.c6
  have y6 := HY.out.c6
  have x7 := HX.out.c7
  have y7 := HY.out.c7
  rw [← e0] at y0
  have f2 : (a.b == b.b) = false := by rw [beq_eq_false_iff_ne]; exact e2
  clear HX HY
  go_wp2_with fail
  go_ret
  exact ⟨rfl, HB.out⟩
set_option maxHeartbeats 4000000 in
set_option maxRecDepth 100000 in
theorem sval_3 (w : World) (a b : Vl) (e0 : a.kind = b.kind) (e1 : (a.s.toList == b.s.toList) = true) (e2 : a.b = b.b) (e3 : ¬ a.n = b.n) :
    Calls Tryz.prog 62 #[.agg (vlC a).toArray, .agg (vlC b).toArray] w fun e w' => e = .returned (.bool false) ∧ Below w.heap.size w w' := by
  have hX : XVl ((w.alloc (.cells (vlC a).toArray 57)).alloc (.cells (vlC b).toArray 57)) w.heap.size a := XVl.below ⟨heap_alloc_new w _⟩ ((Below.refl _ _).alloc (Nat.le_refl _) _)
  have hY : XVl ((w.alloc (.cells (vlC a).toArray 57)).alloc (.cells (vlC b).toArray 57)) (w.heap.size + 1) b := ⟨by have h := heap_alloc_new (w.alloc (.cells (vlC a).toArray 57)) (.cells (vlC b).toArray 57); simp only [World.size_alloc] at h; exact h⟩
  have HB : Aside0 (Below w.heap.size w ((w.alloc (.cells (vlC a).toArray 57)).alloc (.cells (vlC b).toArray 57))) := ⟨((Below.refl _ _).alloc (Nat.le_refl _) _).alloc (by simp only [World.size_alloc]; omega) _⟩
  have HX := Aside0.mk hX
  have HY := Aside0.mk hY
  clear hX hY
  go_enter Tryz.func62, Tryz.ntmps62
  go_upto_region 1 with (first
    | ((with_reducible refine gate_dst (N := 2) rfl ?_); refine Great.wpList_boxTo rfl 57 _ rfl _ rfl w.heap.size rfl (vlC a).toArray rfl ?_)
    | ((with_reducible refine gate_dst (N := 3) rfl ?_); refine Great.wpList_boxTo rfl 57 _ rfl _ rfl (w.heap.size + 1) (by simp only [World.size_alloc]) (vlC b).toArray rfl ?_))
  generalize ((w.alloc (.cells (vlC a).toArray 57)).alloc (.cells (vlC b).toArray 57)) = w1 at *
  have x0 := HX.out.c0
  have y0 := HY.out.c0
  have x1 := HX.out.c1
  have y1 := HY.out.c1
  have x2 := HX.out.c2
  have y2 := HY.out.c2
  have x3 := HX.out.c3
  have y3 := HY.out.c3
  have x4 := HX.out.c4
  have y4 := HY.out.c4
  have x5 := HX.out.c5
  have y5 := HY.out.c5
  have x6 := HX.out.c6
  have y6 := HY.out.c6
  have x7 := HX.out.c7
  have y7 := HY.out.c7
  rw [← e0] at y0
  rw [← e2] at y2
  have f3 : (a.n == b.n) = false := by rw [beq_eq_false_iff_ne]; exact e3
  clear HX HY
  go_wp2_with fail
  go_ret
  exact ⟨rfl, HB.out⟩
set_option maxHeartbeats 4000000 in
set_option maxRecDepth 100000 in
theorem sval_4 (w : World) (a b : Vl) (e0 : a.kind = b.kind) (e1 : (a.s.toList == b.s.toList) = true) (e2 : a.b = b.b) (e3 : a.n = b.n) (e4 : (a.inner.toList == b.inner.toList) = false) :
    Calls Tryz.prog 62 #[.agg (vlC a).toArray, .agg (vlC b).toArray] w fun e w' => e = .returned (.bool false) ∧ Below w.heap.size w w' := by
  have hX : XVl ((w.alloc (.cells (vlC a).toArray 57)).alloc (.cells (vlC b).toArray 57)) w.heap.size a := XVl.below ⟨heap_alloc_new w _⟩ ((Below.refl _ _).alloc (Nat.le_refl _) _)
  have hY : XVl ((w.alloc (.cells (vlC a).toArray 57)).alloc (.cells (vlC b).toArray 57)) (w.heap.size + 1) b := ⟨by have h := heap_alloc_new (w.alloc (.cells (vlC a).toArray 57)) (.cells (vlC b).toArray 57); simp only [World.size_alloc] at h; exact h⟩
  have HB : Aside0 (Below w.heap.size w ((w.alloc (.cells (vlC a).toArray 57)).alloc (.cells (vlC b).toArray 57))) := ⟨((Below.refl _ _).alloc (Nat.le_refl _) _).alloc (by simp only [World.size_alloc]; omega) _⟩
  have HX := Aside0.mk hX
  have HY := Aside0.mk hY
  clear hX hY
  go_enter Tryz.func62, Tryz.ntmps62
  go_upto_region 1 with (first
    | ((with_reducible refine gate_dst (N := 2) rfl ?_); refine Great.wpList_boxTo rfl 57 _ rfl _ rfl w.heap.size rfl (vlC a).toArray rfl ?_)
    | ((with_reducible refine gate_dst (N := 3) rfl ?_); refine Great.wpList_boxTo rfl 57 _ rfl _ rfl (w.heap.size + 1) (by simp only [World.size_alloc]) (vlC b).toArray rfl ?_))
  generalize ((w.alloc (.cells (vlC a).toArray 57)).alloc (.cells (vlC b).toArray 57)) = w1 at *
  have x0 := HX.out.c0
  have y0 := HY.out.c0
  have x1 := HX.out.c1
  have y1 := HY.out.c1
  have x2 := HX.out.c2
  have y2 := HY.out.c2
  have x3 := HX.out.c3
  have y3 := HY.out.c3
  have x4 := HX.out.c4
  have y4 := HY.out.c4
  have x5 := HX.out.c5
  have y5 := HY.out.c5
  have x6 := HX.out.c6
  have y6 := HY.out.c6
  have x7 := HX.out.c7
  have y7 := HY.out.c7
  rw [← e0] at y0
  rw [← e2] at y2
  rw [← e3] at y3
  clear HX HY
  go_wp2_with fail
  go_ret
  exact ⟨rfl, HB.out⟩
set_option maxHeartbeats 4000000 in
set_option maxRecDepth 100000 in
theorem sval_5 (w : World) (a b : Vl) (e0 : a.kind = b.kind) (e1 : (a.s.toList == b.s.toList) = true) (e2 : a.b = b.b) (e3 : a.n = b.n) (e4 : (a.inner.toList == b.inner.toList) = true) (e5 : (a.unk.toList == b.unk.toList) = false) :
    Calls Tryz.prog 62 #[.agg (vlC a).toArray, .agg (vlC b).toArray] w fun e w' => e = .returned (.bool false) ∧ Below w.heap.size w w' := by
  have hX : XVl ((w.alloc (.cells (vlC a).toArray 57)).alloc (.cells (vlC b).toArray 57)) w.heap.size a := XVl.below ⟨heap_alloc_new w _⟩ ((Below.refl _ _).alloc (Nat.le_refl _) _)
  have hY : XVl ((w.alloc (.cells (vlC a).toArray 57)).alloc (.cells (vlC b).toArray 57)) (w.heap.size + 1) b := ⟨by have h := heap_alloc_new (w.alloc (.cells (vlC a).toArray 57)) (.cells (vlC b).toArray 57); simp only [World.size_alloc] at h; exact h⟩
  have HB : Aside0 (Below w.heap.size w ((w.alloc (.cells (vlC a).toArray 57)).alloc (.cells (vlC b).toArray 57))) := ⟨((Below.refl _ _).alloc (Nat.le_refl _) _).alloc (by simp only [World.size_alloc]; omega) _⟩
  have HX := Aside0.mk hX
  have HY := Aside0.mk hY
  clear hX hY
  go_enter Tryz.func62, Tryz.ntmps62
  go_upto_region 1 with (first
    | ((with_reducible refine gate_dst (N := 2) rfl ?_); refine Great.wpList_boxTo rfl 57 _ rfl _ rfl w.heap.size rfl (vlC a).toArray rfl ?_)
    | ((with_reducible refine gate_dst (N := 3) rfl ?_); refine Great.wpList_boxTo rfl 57 _ rfl _ rfl (w.heap.size + 1) (by simp only [World.size_alloc]) (vlC b).toArray rfl ?_))
  generalize ((w.alloc (.cells (vlC a).toArray 57)).alloc (.cells (vlC b).toArray 57)) = w1 at *
  have x0 := HX.out.c0
  have y0 := HY.out.c0
  have x1 := HX.out.c1
  have y1 := HY.out.c1
  have x2 := HX.out.c2
  have y2 := HY.out.c2
  have x3 := HX.out.c3
  have y3 := HY.out.c3
  have x4 := HX.out.c4
  have y4 := HY.out.c4
  have x5 := HX.out.c5
  have y5 := HY.out.c5
  have x6 := HX.out.c6
  have y6 := HY.out.c6
  have x7 := HX.out.c7
  have y7 := HY.out.c7
  rw [← e0] at y0
  rw [← e2] at y2
  rw [← e3] at y3
  clear HX HY
  go_wp2_with fail
  go_ret
  exact ⟨rfl, HB.out⟩
set_option maxHeartbeats 4000000 in
set_option maxRecDepth 100000 in
theorem sval_6 (w : World) (a b : Vl) (e0 : a.kind = b.kind) (e1 : (a.s.toList == b.s.toList) = true) (e2 : a.b = b.b) (e3 : a.n = b.n) (e4 : (a.inner.toList == b.inner.toList) = true) (e5 : (a.unk.toList == b.unk.toList) = true) (h6 : CB w 81 #[a.l.v, b.l.v, .func (.func 62) #[] #[]] false) :
    Calls Tryz.prog 62 #[.agg (vlC a).toArray, .agg (vlC b).toArray] w fun e w' => e = .returned (.bool false) ∧ Below w.heap.size w w' := by
  have hX : XVl ((w.alloc (.cells (vlC a).toArray 57)).alloc (.cells (vlC b).toArray 57)) w.heap.size a := XVl.below ⟨heap_alloc_new w _⟩ ((Below.refl _ _).alloc (Nat.le_refl _) _)
  have hY : XVl ((w.alloc (.cells (vlC a).toArray 57)).alloc (.cells (vlC b).toArray 57)) (w.heap.size + 1) b := ⟨by have h := heap_alloc_new (w.alloc (.cells (vlC a).toArray 57)) (.cells (vlC b).toArray 57); simp only [World.size_alloc] at h; exact h⟩
  have HB : Aside0 (Below w.heap.size w ((w.alloc (.cells (vlC a).toArray 57)).alloc (.cells (vlC b).toArray 57))) := ⟨((Below.refl _ _).alloc (Nat.le_refl _) _).alloc (by simp only [World.size_alloc]; omega) _⟩
  have HX := Aside0.mk hX
  have HY := Aside0.mk hY
  clear hX hY
  unfold CB Sl.v at h6
  have H6 := Aside0.mk h6
  clear h6
  go_enter Tryz.func62, Tryz.ntmps62
  go_upto_region 1 with (first
    | ((with_reducible refine gate_dst (N := 2) rfl ?_); refine Great.wpList_boxTo rfl 57 _ rfl _ rfl w.heap.size rfl (vlC a).toArray rfl ?_)
    | ((with_reducible refine gate_dst (N := 3) rfl ?_); refine Great.wpList_boxTo rfl 57 _ rfl _ rfl (w.heap.size + 1) (by simp only [World.size_alloc]) (vlC b).toArray rfl ?_))
  generalize ((w.alloc (.cells (vlC a).toArray 57)).alloc (.cells (vlC b).toArray 57)) = w1 at *
  have x0 := HX.out.c0
  have y0 := HY.out.c0
  have x1 := HX.out.c1
  have y1 := HY.out.c1
  have x2 := HX.out.c2
  have y2 := HY.out.c2
  have x3 := HX.out.c3
  have y3 := HY.out.c3
  have x4 := HX.out.c4
  have y4 := HY.out.c4
  have x5 := HX.out.c5
  have y5 := HY.out.c5
  have x6 := HX.out.c6
  have y6 := HY.out.c6
  have x7 := HX.out.c7
  have y7 := HY.out.c7
  rw [← e0] at y0
  rw [← e2] at y2
  rw [← e3] at y3
  go_wp2_with (go_at_call 81; with_reducible refine (H6.out _ HB.out).mono ?_; rintro e w2 ⟨rfl, hb2⟩; have n0_ := Aside0.mk (below_next HB.out hb2); have n1_ := Aside0.mk (HX.out.below hb2); have n2_ := Aside0.mk (HY.out.below hb2); clear HB HX HY hb2 x0 y0 x1 y1 x2 y2 x3 y3 x4 y4 x5 y5 x6 y6 x7 y7; have HB := n0_; have HX := n1_; have HY := n2_; clear n0_ n1_ n2_; have x0 := HX.out.c0; have y0 := HY.out.c0; have x1 := HX.out.c1; have y1 := HY.out.c1; have x2 := HX.out.c2; have y2 := HY.out.c2; have x3 := HX.out.c3; have y3 := HY.out.c3; have x4 := HX.out.c4; have y4 := HY.out.c4; have x5 := HX.out.c5; have y5 := HY.out.c5; have x6 := HX.out.c6; have y6 := HY.out.c6; have x7 := HX.out.c7; have y7 := HY.out.c7; rw [← e0] at y0; rw [← e2] at y2; rw [← e3] at y3)
  go_ret
  exact ⟨rfl, HB.out⟩
set_option maxHeartbeats 4000000 in
set_option maxRecDepth 100000 in
theorem sval_7 (w : World) (a b : Vl) (e0 : a.kind = b.kind) (e1 : (a.s.toList == b.s.toList) = true) (e2 : a.b = b.b) (e3 : a.n = b.n) (e4 : (a.inner.toList == b.inner.toList) = true) (e5 : (a.unk.toList == b.unk.toList) = true) (h6 : CB w 81 #[a.l.v, b.l.v, .func (.func 62) #[] #[]] true) (h7 : CB w 16 #[a.m.v, b.m.v] false) :
    Calls Tryz.prog 62 #[.agg (vlC a).toArray, .agg (vlC b).toArray] w fun e w' => e = .returned (.bool false) ∧ Below w.heap.size w w' := by
  have hX : XVl ((w.alloc (.cells (vlC a).toArray 57)).alloc (.cells (vlC b).toArray 57)) w.heap.size a := XVl.below ⟨heap_alloc_new w _⟩ ((Below.refl _ _).alloc (Nat.le_refl _) _)
  have hY : XVl ((w.alloc (.cells (vlC a).toArray 57)).alloc (.cells (vlC b).toArray 57)) (w.heap.size + 1) b := ⟨by have h := heap_alloc_new (w.alloc (.cells (vlC a).toArray 57)) (.cells (vlC b).toArray 57); simp only [World.size_alloc] at h; exact h⟩
  have HB : Aside0 (Below w.heap.size w ((w.alloc (.cells (vlC a).toArray 57)).alloc (.cells (vlC b).toArray 57))) := ⟨((Below.refl _ _).alloc (Nat.le_refl _) _).alloc (by simp only [World.size_alloc]; omega) _⟩
  have HX := Aside0.mk hX
  have HY := Aside0.mk hY
  clear hX hY
  unfold CB Sl.v at h6
  have H6 := Aside0.mk h6
  clear h6
  unfold CB Sl.v at h7
  have H7 := Aside0.mk h7
  clear h7
  go_enter Tryz.func62, Tryz.ntmps62
  go_upto_region 1 with (first
    | ((with_reducible refine gate_dst (N := 2) rfl ?_); refine Great.wpList_boxTo rfl 57 _ rfl _ rfl w.heap.size rfl (vlC a).toArray rfl ?_)
    | ((with_reducible refine gate_dst (N := 3) rfl ?_); refine Great.wpList_boxTo rfl 57 _ rfl _ rfl (w.heap.size + 1) (by simp only [World.size_alloc]) (vlC b).toArray rfl ?_))
  generalize ((w.alloc (.cells (vlC a).toArray 57)).alloc (.cells (vlC b).toArray 57)) = w1 at *
  have x0 := HX.out.c0
  have y0 := HY.out.c0
  have x1 := HX.out.c1
  have y1 := HY.out.c1
  have x2 := HX.out.c2
  have y2 := HY.out.c2
  have x3 := HX.out.c3
  have y3 := HY.out.c3
  have x4 := HX.out.c4
  have y4 := HY.out.c4
  have x5 := HX.out.c5
  have y5 := HY.out.c5
  have x6 := HX.out.c6
  have y6 := HY.out.c6
  have x7 := HX.out.c7
  have y7 := HY.out.c7
  rw [← e0] at y0
  rw [← e2] at y2
  rw [← e3] at y3
  go_wp2_with (first
    | (go_at_call 81; with_reducible refine (H6.out _ HB.out).mono ?_; rintro e w2 ⟨rfl, hb2⟩; have n0_ := Aside0.mk (below_next HB.out hb2); have n1_ := Aside0.mk (HX.out.below hb2); have n2_ := Aside0.mk (HY.out.below hb2); clear HB HX HY hb2 x0 y0 x1 y1 x2 y2 x3 y3 x4 y4 x5 y5 x6 y6 x7 y7; have HB := n0_; have HX := n1_; have HY := n2_; clear n0_ n1_ n2_; have x0 := HX.out.c0; have y0 := HY.out.c0; have x1 := HX.out.c1; have y1 := HY.out.c1; have x2 := HX.out.c2; have y2 := HY.out.c2; have x3 := HX.out.c3; have y3 := HY.out.c3; have x4 := HX.out.c4; have y4 := HY.out.c4; have x5 := HX.out.c5; have y5 := HY.out.c5; have x6 := HX.out.c6; have y6 := HY.out.c6; have x7 := HX.out.c7; have y7 := HY.out.c7; rw [← e0] at y0; rw [← e2] at y2; rw [← e3] at y3)
    | (go_at_call 16; with_reducible refine (H7.out _ HB.out).mono ?_; rintro e w2 ⟨rfl, hb2⟩; have n0_ := Aside0.mk (below_next HB.out hb2); have n1_ := Aside0.mk (HX.out.below hb2); have n2_ := Aside0.mk (HY.out.below hb2); clear HB HX HY hb2 x0 y0 x1 y1 x2 y2 x3 y3 x4 y4 x5 y5 x6 y6 x7 y7; have HB := n0_; have HX := n1_; have HY := n2_; clear n0_ n1_ n2_; have x0 := HX.out.c0; have y0 := HY.out.c0; have x1 := HX.out.c1; have y1 := HY.out.c1; have x2 := HX.out.c2; have y2 := HY.out.c2; have x3 := HX.out.c3; have y3 := HY.out.c3; have x4 := HX.out.c4; have y4 := HY.out.c4; have x5 := HX.out.c5; have y5 := HY.out.c5; have x6 := HX.out.c6; have y6 := HY.out.c6; have x7 := HX.out.c7; have y7 := HY.out.c7; rw [← e0] at y0; rw [← e2] at y2; rw [← e3] at y3))
  go_ret
  exact ⟨rfl, HB.out⟩
set_option maxHeartbeats 4000000 in
set_option maxRecDepth 100000 in
theorem sval_8 (w : World) (a b : Vl) (e0 : a.kind = b.kind) (e1 : (a.s.toList == b.s.toList) = true) (e2 : a.b = b.b) (e3 : a.n = b.n) (e4 : (a.inner.toList == b.inner.toList) = true) (e5 : (a.unk.toList == b.unk.toList) = true) (h6 : CB w 81 #[a.l.v, b.l.v, .func (.func 62) #[] #[]] true) (h7 : CB w 16 #[a.m.v, b.m.v] true) :
    Calls Tryz.prog 62 #[.agg (vlC a).toArray, .agg (vlC b).toArray] w fun e w' => e = .returned (.bool true) ∧ Below w.heap.size w w' := by
  have hX : XVl ((w.alloc (.cells (vlC a).toArray 57)).alloc (.cells (vlC b).toArray 57)) w.heap.size a := XVl.below ⟨heap_alloc_new w _⟩ ((Below.refl _ _).alloc (Nat.le_refl _) _)
  have hY : XVl ((w.alloc (.cells (vlC a).toArray 57)).alloc (.cells (vlC b).toArray 57)) (w.heap.size + 1) b := ⟨by have h := heap_alloc_new (w.alloc (.cells (vlC a).toArray 57)) (.cells (vlC b).toArray 57); simp only [World.size_alloc] at h; exact h⟩
  have HB : Aside0 (Below w.heap.size w ((w.alloc (.cells (vlC a).toArray 57)).alloc (.cells (vlC b).toArray 57))) := ⟨((Below.refl _ _).alloc (Nat.le_refl _) _).alloc (by simp only [World.size_alloc]; omega) _⟩
  have HX := Aside0.mk hX
  have HY := Aside0.mk hY
  clear hX hY
  unfold CB Sl.v at h6
  have H6 := Aside0.mk h6
  clear h6
  unfold CB Sl.v at h7
  have H7 := Aside0.mk h7
  clear h7
  go_enter Tryz.func62, Tryz.ntmps62
  go_upto_region 1 with (first
    | ((with_reducible refine gate_dst (N := 2) rfl ?_); refine Great.wpList_boxTo rfl 57 _ rfl _ rfl w.heap.size rfl (vlC a).toArray rfl ?_)
    | ((with_reducible refine gate_dst (N := 3) rfl ?_); refine Great.wpList_boxTo rfl 57 _ rfl _ rfl (w.heap.size + 1) (by simp only [World.size_alloc]) (vlC b).toArray rfl ?_))
  generalize ((w.alloc (.cells (vlC a).toArray 57)).alloc (.cells (vlC b).toArray 57)) = w1 at *
  have x0 := HX.out.c0
  have y0 := HY.out.c0
  have x1 := HX.out.c1
  have y1 := HY.out.c1
  have x2 := HX.out.c2
  have y2 := HY.out.c2
  have x3 := HX.out.c3
  have y3 := HY.out.c3
  have x4 := HX.out.c4
  have y4 := HY.out.c4
  have x5 := HX.out.c5
  have y5 := HY.out.c5
  have x6 := HX.out.c6
  have y6 := HY.out.c6
  have x7 := HX.out.c7
  have y7 := HY.out.c7
  rw [← e0] at y0
  rw [← e2] at y2
  rw [← e3] at y3
  go_wp2_with (first
    | (go_at_call 81; with_reducible refine (H6.out _ HB.out).mono ?_; rintro e w2 ⟨rfl, hb2⟩; have n0_ := Aside0.mk (below_next HB.out hb2); have n1_ := Aside0.mk (HX.out.below hb2); have n2_ := Aside0.mk (HY.out.below hb2); clear HB HX HY hb2 x0 y0 x1 y1 x2 y2 x3 y3 x4 y4 x5 y5 x6 y6 x7 y7; have HB := n0_; have HX := n1_; have HY := n2_; clear n0_ n1_ n2_; have x0 := HX.out.c0; have y0 := HY.out.c0; have x1 := HX.out.c1; have y1 := HY.out.c1; have x2 := HX.out.c2; have y2 := HY.out.c2; have x3 := HX.out.c3; have y3 := HY.out.c3; have x4 := HX.out.c4; have y4 := HY.out.c4; have x5 := HX.out.c5; have y5 := HY.out.c5; have x6 := HX.out.c6; have y6 := HY.out.c6; have x7 := HX.out.c7; have y7 := HY.out.c7; rw [← e0] at y0; rw [← e2] at y2; rw [← e3] at y3)
    | (go_at_call 16; with_reducible refine (H7.out _ HB.out).mono ?_; rintro e w2 ⟨rfl, hb2⟩; have n0_ := Aside0.mk (below_next HB.out hb2); have n1_ := Aside0.mk (HX.out.below hb2); have n2_ := Aside0.mk (HY.out.below hb2); clear HB HX HY hb2 x0 y0 x1 y1 x2 y2 x3 y3 x4 y4 x5 y5 x6 y6 x7 y7; have HB := n0_; have HX := n1_; have HY := n2_; clear n0_ n1_ n2_; have x0 := HX.out.c0; have y0 := HY.out.c0; have x1 := HX.out.c1; have y1 := HY.out.c1; have x2 := HX.out.c2; have y2 := HY.out.c2; have x3 := HX.out.c3; have y3 := HY.out.c3; have x4 := HX.out.c4; have y4 := HY.out.c4; have x5 := HX.out.c5; have y5 := HY.out.c5; have x6 := HX.out.c6; have y6 := HY.out.c6; have x7 := HX.out.c7; have y7 := HY.out.c7; rw [← e0] at y0; rw [← e2] at y2; rw [← e3] at y3))
  go_ret
  exact ⟨rfl, HB.out⟩
theorem sval_any (w : World) (a b : Vl) (q6 : Bool) (h6 : CB w 81 #[a.l.v, b.l.v, .func (.func 62) #[] #[]] q6) (q7 : Bool) (h7 : CB w 16 #[a.m.v, b.m.v] q7) :
    Calls Tryz.prog 62 #[.agg (vlC a).toArray, .agg (vlC b).toArray] w fun e w' => e = .returned (.bool (decide (a.kind = b.kind) && stB a.s b.s && decide (a.b = b.b) && decide (a.n = b.n) && stB a.inner b.inner && stB a.unk b.unk && q6 && q7)) ∧ Below w.heap.size w w' := by
  by_cases e0 : a.kind = b.kind
  · skip
    cases e1 : (a.s.toList == b.s.toList)
    · have h := sval_1 w a b e0 e1
      simp only [stB, e0, e1, decide_true, Bool.false_and, Bool.and_false]
      exact h
    · skip
      by_cases e2 : a.b = b.b
      · skip
        by_cases e3 : a.n = b.n
        · skip
          cases e4 : (a.inner.toList == b.inner.toList)
          · have h := sval_4 w a b e0 e1 e2 e3 e4
            simp only [stB, e0, e1, e2, e3, e4, decide_true, Bool.false_and, Bool.and_false]
            exact h
          · skip
            cases e5 : (a.unk.toList == b.unk.toList)
            · have h := sval_5 w a b e0 e1 e2 e3 e4 e5
              simp only [stB, e0, e1, e2, e3, e4, e5, decide_true, Bool.false_and, Bool.and_false]
              exact h
            · skip
              cases q6
              · have h := sval_6 w a b e0 e1 e2 e3 e4 e5 h6
                simp only [stB, e0, e1, e2, e3, e4, e5, decide_true, Bool.false_and, Bool.and_false]
                exact h
              · skip
                cases q7
                · have h := sval_7 w a b e0 e1 e2 e3 e4 e5 h6 h7
                  simp only [stB, e0, e1, e2, e3, e4, e5, decide_true, Bool.and_false]
                  exact h
                · have h := sval_8 w a b e0 e1 e2 e3 e4 e5 h6 h7
                  simp only [stB, e0, e1, e2, e3, e4, e5, decide_true, Bool.and_true]
                  exact h
        · have h := sval_3 w a b e0 e1 e2 e3
          simp only [stB, e0, e1, e2, e3, decide_false, decide_true, Bool.false_and, Bool.and_false]
          exact h
      · have h := sval_2 w a b e0 e1 e2
        simp only [stB, e0, e1, e2, decide_false, decide_true, Bool.false_and, Bool.and_false]
        exact h
  · have h := sval_0 w a b e0
    simp only [stB, e0, decide_false, Bool.false_and]
    exact h
theorem sval_next (W : World) (d : Nat) (HV : SSV W d) (HK : SSK W d) : SSV W (d + 1) := by
  intro w a b hW ha hb hf
  have h := sval_any w a b (listB (eqV W d) (vls W a.l) (vls W b.l))
    (fun w2 hb2 => eqf_V W w2 (eqV W d) (fun y => FinV W d y) a.l b.l (hW.trans (hb2.mono hW.size)) ha.l hb.l hf.1 (fun w3 x y hb3 hx hy hp => HV w3 x y hb3 hx hy hp))
    (listB (eqK (eqV W d)) (kvs W a.m) (kvs W b.m)) (fun w2 hb2 => HK w2 a.m b.m (hW.trans (hb2.mono hW.size)) ha.m hb.m hf.2)
  have hE : eqV W (d + 1) a b = (decide (a.kind = b.kind) && stB a.s b.s && decide (a.b = b.b) && decide (a.n = b.n) && stB a.inner b.inner && stB a.unk b.unk && listB (eqV W d) (vls W a.l) (vls W b.l) && listB (eqK (eqV W d)) (kvs W a.m) (kvs W b.m)) := by
    show (baseV a b && (listB (eqV W d) (vls W a.l) (vls W b.l) && listB (eqK (eqV W d)) (kvs W a.m) (kvs W b.m))) = _
    unfold baseV
    simp only [Bool.and_assoc]
  rw [hE]
  exact h
theorem sval_all (W : World) : ∀ d, SSV W d
  | 0 => fun _ _ _ _ _ _ hf => hf.elim
  | d + 1 => sval_next W d (sval_all W d) (skeys_any W d (sval_all W d))
theorem skeys_all (W : World) (d : Nat) : SSK W d := skeys_any W d (sval_all W d)
end Go.Proofs.YtnghlkbmfhkmoaaGreatDoor
