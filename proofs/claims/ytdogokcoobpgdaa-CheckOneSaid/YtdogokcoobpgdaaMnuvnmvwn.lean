import Derived.Test.YtdogokcoobpgdaaMlrpkbaoj
import Derived.Great.Walk
import Derived.Laws.CopyOwn
import Derived.Test.YtdogokcoobpgdaaMwgvbqdnj
import Derived.Laws.AppendOwnNone
import Derived.Test.YtdogokcoobpgdaaMghuircnm
import Derived.Test.YtdogokcoobpgdaaMvkkocpix
namespace Go.Proofs.Ytdogokcoobpgdaa
open Go.RowKit Go.Proofs.YtdogokcoobpgdaaW.PrintWords Go.Proofs.YtdogokcoobpgdaaW.PrintLast Go.Proofs.YtdogokcoobpgdaaW.PrintMore

/-! ### a region of open order by what holds on the way -/
theorem count_set : ∀ (l : List Bool) (i : Nat), l[i]? = some false → (l.set i true).count false + 1 = l.count false
  | [], i, h => by simp at h
  | b :: l, 0, h => by
    simp only [List.getElem?_cons_zero, Option.some.injEq] at h
    subst h
    simp
  | b :: l, i + 1, h => by
    have h' : l[i]? = some false := by simpa using h
    have := count_set l i h'
    simp only [List.set_cons_succ, List.count_cons]
    omega
section
variable {P : Program} {ops : Array Oper} {Q : Exit → Act → World → Prop} {md : Region.Mode}
theorem wpOp_plain {i : Nat} {o : Oper} {K : Act → World → Prop} {a : Act} {w : World} (ho : ops[i]? = some o) (hg : o.guard = none) (h : o.wp P a w K Q) : wpOp P ops Q i K a w := by
  unfold wpOp
  rw [ho]
  show if Region.wanted o (yielded ops a.tmps) = true then _ else _
  rw [if_pos (by unfold Region.wanted; rw [hg])]
  exact .inl h
theorem wpAny_inv (I : Array Bool → Act → World → Prop)
    (hstep : ∀ listed a w i, I listed a w → i ∈ Region.ready md ops listed → wpOp P ops Q i (fun a' w' => I (listed.setIfInBounds i true) a' w') a w)
    (hdone : ∀ listed a w, I listed a w → Region.ready md ops listed = [] → Q .normal a w) :
    ∀ (n fuel : Nat) (listed : Array Bool) (a : Act) (w : World), listed.toList.count false = n → n ≤ fuel → I listed a w → wpAny P md ops Q fuel listed a w := by
  intro n
  induction n with
  | zero =>
    intro fuel listed a w hn _ hI
    have hr : Region.ready md ops listed = [] := by
      rcases hq : Region.ready md ops listed with _ | ⟨i, l⟩
      · rfl
      · have hm : i ∈ Region.ready md ops listed := by rw [hq]; exact List.mem_cons_self
        have h1 := (mem_ready.1 hm).1
        have h2 : listed.toList[i]? = some false := by
          rw [Array.getElem?_toList]
          cases hg : listed[i]? with
          | none => simp [Array.getD_eq_getD_getElem?, hg] at h1
          | some b => simp [Array.getD_eq_getD_getElem?, hg] at h1; rw [h1]
        have := count_set _ _ h2
        omega
    exact wpAny_done hr (hdone _ _ _ hI hr) fuel
  | succ n ih =>
    intro fuel listed a w hn hf hI
    obtain ⟨f, rfl⟩ : ∃ f, fuel = f + 1 := ⟨fuel - 1, by omega⟩
    refine ⟨fun hr => hdone _ _ _ hI hr, fun i hi => ?_⟩
    refine wpOp_mono (fun a' w' h' => ih f _ a' w' ?_ (by omega) h') (hstep _ _ _ i hI hi)
    have h1 := (mem_ready.1 hi).1
    have h2 : listed.toList[i]? = some false := by
      rw [Array.getElem?_toList]
      cases hg : listed[i]? with
      | none => simp [Array.getD_eq_getD_getElem?, hg] at h1
      | some b => simp [Array.getD_eq_getD_getElem?, hg] at h1; rw [h1]
    have := count_set _ _ h2
    rw [Array.toList_setIfInBounds]
    omega
theorem wp_alloc {o : Oper} {a : Act} {w : World} {K : Act → World → Prop} (t : TypeId) (ho : o.op = .alloc t) (z : Value) (hz : (P.info? t).map (·.zero) = some (some z))
    (h : K (a.put o.dst (.pointer (some ⟨w.heap.size, 0, none⟩))) (w.alloc (.cells z.cells t))) : o.wp P a w K Q := by
  cases hi : P.info? t with
  | none => rw [hi] at hz; simp at hz
  | some i =>
    rw [hi] at hz
    have hz' : i.zero = some z := by simpa using hz
    unfold Oper.wp execOp
    have hr : (Instr.alloc t true (.tuple #[])).run P w = .ok (.pointer (some ⟨w.heap.size, 0, none⟩)) (w.alloc (.cells z.cells t)) := by
      simp [Instr.alloc, zeroValue, typeInfo, hi, hz', newVar, newRow]
    simp only [ho, Sem.run_bind, hr, Sem.run_pure, Result.andThen_ok]
    exact h
theorem wpList_alloc {rest : List Oper} {o : Oper} {a : Act} {w : World} (hg : o.guard = none) (t : TypeId) (ho : o.op = .alloc t) (z : Value) (hz : (P.info? t).map (·.zero) = some (some z))
    (h : wpList P ops Q rest (a.put o.dst (.pointer (some ⟨w.heap.size, 0, none⟩))) (w.alloc (.cells z.cells t))) : wpList P ops Q (o :: rest) a w :=
  wpList_plain hg fun _ hK => wp_alloc t ho z hz (hK _ _ h)
end
/-! ### parts of a function's code -/
def dropSeq : Nat → Code → Code
  | 0, c => c
  | n + 1, .seq _ c => dropSeq n c
  | _ + 1, c => c
def headOps : Code → Array Oper
  | .seq c _ => headOps c
  | .region _ ops _ => ops
  | _ => #[]
end Go.Proofs.Ytdogokcoobpgdaa
namespace Go.Proofs.Ytdogokcoobpgdaa
open Go.RowKit Go.Proofs.YtdogokcoobpgdaaW.PrintWords Go.Proofs.YtdogokcoobpgdaaW.PrintLast Go.Proofs.YtdogokcoobpgdaaW.PrintMore

/-- A new block that holds a struct; when it is done, the one that is wanted. -/
def B5 (w w' : World) (v : Value) (t sz : Nat) (done : Prop) (C : Array Value) : Prop :=
  ∃ p c, v = .pointer (some ⟨p, 0, none⟩) ∧ w.heap.size ≤ p ∧ w'.heap[p]? = some (.cells c t (0, 0)) ∧ c.size = sz ∧ (done → c = C)
theorem B5.alloc {w w' : World} {v : Value} {t sz : Nat} {d : Prop} {C : Array Value} (h : B5 w w' v t sz d C) (o : Obj) : B5 w (w'.alloc o) v t sz d C := by
  obtain ⟨p, c, rfl, h1, h2, h3, h4⟩ := h
  exact ⟨p, c, rfl, h1, blk_below h2 ((Below.refl _ _).alloc (Nat.le_refl _) o), h3, h4⟩
theorem B5.row {w w' : World} {v : Value} {t sz : Nat} {d : Prop} {C : Array Value} (h : B5 w w' v t sz d C) {q : Nat} (hq : v ≠ .pointer (some ⟨q, 0, none⟩)) (cs : Array Value) : B5 w (w'.setRow q cs) v t sz d C := by
  obtain ⟨p, c, rfl, h1, h2, h3, h4⟩ := h
  exact ⟨p, c, rfl, h1, by rw [setRow_other _ _ _ _ (fun e => hq (by rw [e]))]; exact h2, h3, h4⟩
theorem B5.lt {w w' : World} {v : Value} {t sz : Nat} {d : Prop} {C : Array Value} (h : B5 w w' v t sz d C) : v ≠ .pointer (some ⟨w'.heap.size, 0, none⟩) := by
  obtain ⟨p, c, rfl, h1, h2, h3, h4⟩ := h
  intro e
  injection e with e; injection e with e; injection e with e
  have := blk_lt h2
  omega
theorem B5.imp {w w' : World} {v : Value} {t sz : Nat} {d d' : Prop} {C : Array Value} (h : B5 w w' v t sz d C) (hd : d' → d) : B5 w w' v t sz d' C := by
  obtain ⟨p, c, rfl, h1, h2, h3, h4⟩ := h
  exact ⟨p, c, rfl, h1, h2, h3, fun x => h4 (hd x)⟩
theorem hst_all (x : Hst) : (hstC x).toArray.all (·.oneCell') = true := Array.all_eq_true_iff_forall_mem.2 (fun v hv => hst_one x v (by simpa using hv))
theorem exq_all (x : Exq) : (exqC x).toArray.all (·.oneCell') = true := Array.all_eq_true_iff_forall_mem.2 (fun v hv => exq_one x v (by simpa using hv))
def D (listed : Array Bool) (j : Nat) : Prop := listed.getD j false = true
theorem D.of {listed : Array Bool} {i j : Nat} (h : D (listed.setIfInBounds i true) j) (hij : i ≠ j) : D listed j := by
  unfold D at h ⊢
  rw [getD_set_ne false hij] at h
  exact h
section
variable {ops : Array Oper} {listed : Array Bool}
theorem ready_after {j k : Nat} {o : Oper} (hj : j ∈ Region.ready .any ops listed) (ho : ops[j]? = some o) (hk : o.after.any (fun e => e.on == k && Region.binds .any e) = true) : D listed k := by
  obtain ⟨_, o', ho', h⟩ := mem_ready.1 hj
  rw [ho] at ho'
  injection ho' with ho'
  subst ho'
  obtain ⟨i, hi, h1⟩ := Array.any_eq_true.1 hk
  rw [Bool.and_eq_true, beq_iff_eq] at h1
  have := h _ (Array.getElem_mem hi) h1.2
  rw [h1.1] at this
  exact this
theorem all_done (hr : Region.ready .any ops listed = []) (hs : listed.size = ops.size) (hall : ∀ (j : Nat) (o : Oper), ops[j]? = some o → o.after.all (fun e => !Region.binds .any e || decide (e.on < j)) = true) : ∀ n j, j < n → j < ops.size → D listed j := by
  intro n
  induction n with
  | zero => intro j hj; omega
  | succ n ih =>
    intro j hj hlt
    cases hd : listed.getD j true with
    | true =>
      unfold D
      have h1 : listed[j]? = some listed[j] := Array.getElem?_eq_getElem (by omega)
      simp only [Array.getD_eq_getD_getElem?, h1, Option.getD_some] at hd ⊢
      exact hd
    | false =>
      have hm : j ∈ Region.ready .any ops listed := mem_ready.2 ⟨hd, ops[j]'hlt, Array.getElem?_eq_getElem hlt, fun e he hbd => by
        have h1 := hall j _ (Array.getElem?_eq_getElem hlt)
        rw [Array.all_eq_true_iff_forall_mem] at h1
        have h2 := h1 e he
        have h3 : e.on < j := by simpa [hbd] using h2
        exact ih e.on (by omega) (by omega)⟩
      rw [hr] at hm
      cases hm
end
structure J5 (w : World) (x : Hst) (y : Exq) (listed : Array Bool) (w' : World) (v5 v6 v7 v32 v33 v34 : Value) : Prop where
  sz : listed.size = 9
  b : Below w.heap.size w w'
  l0 : D listed 0 → v32 = hstA x
  l1 : D listed 1 → v33 = hstA x
  l2 : D listed 2 → v34 = exqA y
  a3 : D listed 3 → B5 w w' v5 30 15 (D listed 6) (hstC x).toArray
  a4 : D listed 4 → B5 w w' v6 30 15 (D listed 7) (hstC x).toArray
  a5 : D listed 5 → B5 w w' v7 34 24 (D listed 8) (exqC y).toArray
  n34 : D listed 3 → D listed 4 → v5 ≠ v6
  n35 : D listed 3 → D listed 5 → v5 ≠ v7
  n45 : D listed 4 → D listed 5 → v6 ≠ v7
  d6 : D listed 6 → D listed 3
  d7 : D listed 7 → D listed 4
  d8 : D listed 8 → D listed 5
noncomputable def oneC : Code := (Try.f3.body).getD .skip
noncomputable def R5 : Array Oper := headOps (dropSeq 3 oneC)
theorem R5_sz : R5.size = 9 := by rfl
set_option maxHeartbeats 4000000
set_option maxRecDepth 100000
theorem R5_0 : ∃ o : Oper, R5[0]? = some o ∧ o.op = .load 30 (.tmp 2) ∧ o.guard = none ∧ o.dst = some 32 := ⟨_, rfl, rfl, rfl, rfl⟩
theorem R5_1 : ∃ o : Oper, R5[1]? = some o ∧ o.op = .load 30 (.tmp 2) ∧ o.guard = none ∧ o.dst = some 33 := ⟨_, rfl, rfl, rfl, rfl⟩
theorem R5_2 : ∃ o : Oper, R5[2]? = some o ∧ o.op = .load 34 (.tmp 3) ∧ o.guard = none ∧ o.dst = some 34 := ⟨_, rfl, rfl, rfl, rfl⟩
theorem R5_3 : ∃ o : Oper, R5[3]? = some o ∧ o.op = .alloc 30 ∧ o.guard = none ∧ o.dst = some 5 := ⟨_, rfl, rfl, rfl, rfl⟩
theorem R5_4 : ∃ o : Oper, R5[4]? = some o ∧ o.op = .alloc 30 ∧ o.guard = none ∧ o.dst = some 6 := ⟨_, rfl, rfl, rfl, rfl⟩
theorem R5_5 : ∃ o : Oper, R5[5]? = some o ∧ o.op = .alloc 34 ∧ o.guard = none ∧ o.dst = some 7 := ⟨_, rfl, rfl, rfl, rfl⟩
theorem R5_6 : ∃ o : Oper, R5[6]? = some o ∧ o.op = .store 30 (.tmp 5) (.tmp 32) ∧ o.guard = none ∧ o.dst = none ∧ o.after.any (fun e => e.on == 0 && Region.binds .any e) = true ∧ o.after.any (fun e => e.on == 3 && Region.binds .any e) = true := ⟨_, rfl, rfl, rfl, rfl, by kernel_rfl, by kernel_rfl⟩
theorem R5_7 : ∃ o : Oper, R5[7]? = some o ∧ o.op = .store 30 (.tmp 6) (.tmp 33) ∧ o.guard = none ∧ o.dst = none ∧ o.after.any (fun e => e.on == 1 && Region.binds .any e) = true ∧ o.after.any (fun e => e.on == 4 && Region.binds .any e) = true := ⟨_, rfl, rfl, rfl, rfl, by kernel_rfl, by kernel_rfl⟩
theorem R5_8 : ∃ o : Oper, R5[8]? = some o ∧ o.op = .store 34 (.tmp 7) (.tmp 34) ∧ o.guard = none ∧ o.dst = none ∧ o.after.any (fun e => e.on == 2 && Region.binds .any e) = true ∧ o.after.any (fun e => e.on == 5 && Region.binds .any e) = true := ⟨_, rfl, rfl, rfl, rfl, by kernel_rfl, by kernel_rfl⟩
theorem R5_all : ∀ (j : Nat) (o : Oper), R5[j]? = some o → o.after.all (fun e => !Region.binds .any e || decide (e.on < j)) = true := by
  intro j o h
  have hj : j < 9 := by rw [← R5_sz]; exact (Array.getElem?_eq_some_iff.1 h).1
  have hc : (List.range 9).all (fun j => ((R5[j]?).map fun o => o.after.all fun e => !Region.binds .any e || decide (e.on < j)).getD true) = true := by kernel_rfl
  have := List.all_eq_true.1 hc j (List.mem_range.2 hj)
  rw [h] at this
  exact this
theorem getD_no {listed : Array Bool} {j : Nat} (h : listed.getD j true = false) (h' : listed.getD j false = true) : False := by
  rw [Array.getD_eq_getD_getElem?] at h h'
  cases hq : listed[j]? with
  | none => rw [hq] at h; cases h
  | some b => rw [hq] at h h'; simp only [Option.getD_some] at h h'; rw [h] at h'; cases h'
theorem dmono {listed : Array Bool} {j : Nat} (h : D listed j) (i : Nat) : D (listed.setIfInBounds i true) j := getD_set_true h
noncomputable def zeroH : Value := ((Try.prog.info? 30).bind (·.zero)).getD undef
noncomputable def zeroE : Value := ((Try.prog.info? 34).bind (·.zero)).getD undef
/-- Region 5: three copies, whatever the order. -/
theorem reg5 {w : World} {x : Hst} {y : Exq} {g g' : Nat} {Q : Exit → Act → World → Prop} (u11 u12 u13 u14 u15 u16 u17 u18 u19 u20 u21 u22 u23 u24 u25 u26 u27 u28 u29 u30 u31 : Value) (hX : XH w g x) (hY : XQ w g' y)
    (hQ : ∀ p5 p6 p7 w', Below w.heap.size w w' → w.heap.size ≤ p5 → w.heap.size ≤ p6 → w.heap.size ≤ p7 → p5 ≠ p6 → p5 ≠ p7 → p6 ≠ p7 → XH w' p5 x → XH w' p6 x → XQ w' p7 y →
      Q .normal ⟨#[hstA x, exqA y, .pointer (some ⟨g, 0, none⟩), .pointer (some ⟨g', 0, none⟩), .bool false, .pointer (some ⟨p5, 0, none⟩), .pointer (some ⟨p6, 0, none⟩), .pointer (some ⟨p7, 0, none⟩), undef, undef, undef, u11, u12, u13, u14, u15, u16, u17, u18, u19, u20, u21, u22, u23, u24, u25, u26, u27, u28, u29, u30, u31, hstA x, hstA x, exqA y, undef, undef, undef, undef, undef, undef, undef, undef, undef, undef, undef, undef, undef, undef, undef, undef, undef, undef, undef, undef, undef, undef, undef, undef, undef, undef, undef, undef, undef, undef, undef, undef, undef, undef, undef, undef, undef, undef, undef, undef, undef, undef, undef, undef, undef, undef, undef, undef, undef, undef, undef, undef, undef, undef, undef, undef, undef, undef, undef, undef, undef, undef, undef, undef, undef, undef, undef, undef, undef], []⟩ w') :
    (Code.region 5 R5 true).wp Try.prog Q ⟨#[hstA x, exqA y, .pointer (some ⟨g, 0, none⟩), .pointer (some ⟨g', 0, none⟩), .bool false, undef, undef, undef, undef, undef, undef, u11, u12, u13, u14, u15, u16, u17, u18, u19, u20, u21, u22, u23, u24, u25, u26, u27, u28, u29, u30, u31, undef, undef, undef, undef, undef, undef, undef, undef, undef, undef, undef, undef, undef, undef, undef, undef, undef, undef, undef, undef, undef, undef, undef, undef, undef, undef, undef, undef, undef, undef, undef, undef, undef, undef, undef, undef, undef, undef, undef, undef, undef, undef, undef, undef, undef, undef, undef, undef, undef, undef, undef, undef, undef, undef, undef, undef, undef, undef, undef, undef, undef, undef, undef, undef, undef, undef, undef, undef, undef, undef, undef, undef], []⟩ w := by
  refine wp_region_any (by kernel_rfl) (wpAny_inv (I := fun listed a w' => ∃ v5 v6 v7 v32 v33 v34 : Value, a = ⟨#[hstA x, exqA y, .pointer (some ⟨g, 0, none⟩), .pointer (some ⟨g', 0, none⟩), .bool false, v5, v6, v7, undef, undef, undef, u11, u12, u13, u14, u15, u16, u17, u18, u19, u20, u21, u22, u23, u24, u25, u26, u27, u28, u29, u30, u31, v32, v33, v34, undef, undef, undef, undef, undef, undef, undef, undef, undef, undef, undef, undef, undef, undef, undef, undef, undef, undef, undef, undef, undef, undef, undef, undef, undef, undef, undef, undef, undef, undef, undef, undef, undef, undef, undef, undef, undef, undef, undef, undef, undef, undef, undef, undef, undef, undef, undef, undef, undef, undef, undef, undef, undef, undef, undef, undef, undef, undef, undef, undef, undef, undef, undef, undef, undef, undef, undef, undef, undef], []⟩ ∧ J5 w x y listed w' v5 v6 v7 v32 v33 v34) ?_ ?_ 9 9 _ _ _ (by rfl) (Nat.le_refl _) ?_)
  · rintro listed a w' i ⟨v5, v6, v7, v32, v33, v34, rfl, H⟩ hr
    have hi : i < 9 := by
      obtain ⟨_, o, ho, _⟩ := mem_ready.1 hr
      rw [← R5_sz]
      exact (Array.getElem?_eq_some_iff.1 ho).1
    have hi9 : i = 0 ∨ i = 1 ∨ i = 2 ∨ i = 3 ∨ i = 4 ∨ i = 5 ∨ i = 6 ∨ i = 7 ∨ i = 8 := by omega
    rcases hi9 with rfl | rfl | rfl | rfl | rfl | rfl | rfl | rfl | rfl
    · obtain ⟨o, ho, hop, hg, hd⟩ := R5_0
      refine wpOp_plain ho hg (wp_load_row 30 (.tmp 2) hop g rfl 30 (hstC x).toArray (0, 0) _ (blk_below hX.blk H.b) Try.underlying30 rfl (by kernel_rfl) ?_)
      refine ⟨v5, v6, v7, _, v33, v34, by rw [hd]; rfl, ⟨by rw [Array.size_setIfInBounds]; exact H.sz, H.b, fun _ => rfl, fun h => H.l1 (h.of (by decide : 0 ≠ 1)), fun h => H.l2 (h.of (by decide : 0 ≠ 2)), fun h => (H.a3 (h.of (by decide : 0 ≠ 3))).imp (fun h => h.of (by decide : 0 ≠ 6)), fun h => (H.a4 (h.of (by decide : 0 ≠ 4))).imp (fun h => h.of (by decide : 0 ≠ 7)), fun h => (H.a5 (h.of (by decide : 0 ≠ 5))).imp (fun h => h.of (by decide : 0 ≠ 8)), fun h h' => H.n34 (h.of (by decide : 0 ≠ 3)) (h'.of (by decide : 0 ≠ 4)), fun h h' => H.n35 (h.of (by decide : 0 ≠ 3)) (h'.of (by decide : 0 ≠ 5)), fun h h' => H.n45 (h.of (by decide : 0 ≠ 4)) (h'.of (by decide : 0 ≠ 5)), fun h => dmono (H.d6 (h.of (by decide : 0 ≠ 6))) _, fun h => dmono (H.d7 (h.of (by decide : 0 ≠ 7))) _, fun h => dmono (H.d8 (h.of (by decide : 0 ≠ 8))) _⟩⟩
    · obtain ⟨o, ho, hop, hg, hd⟩ := R5_1
      refine wpOp_plain ho hg (wp_load_row 30 (.tmp 2) hop g rfl 30 (hstC x).toArray (0, 0) _ (blk_below hX.blk H.b) Try.underlying30 rfl (by kernel_rfl) ?_)
      refine ⟨v5, v6, v7, v32, _, v34, by rw [hd]; rfl, ⟨by rw [Array.size_setIfInBounds]; exact H.sz, H.b, fun h => H.l0 (h.of (by decide : 1 ≠ 0)), fun _ => rfl, fun h => H.l2 (h.of (by decide : 1 ≠ 2)), fun h => (H.a3 (h.of (by decide : 1 ≠ 3))).imp (fun h => h.of (by decide : 1 ≠ 6)), fun h => (H.a4 (h.of (by decide : 1 ≠ 4))).imp (fun h => h.of (by decide : 1 ≠ 7)), fun h => (H.a5 (h.of (by decide : 1 ≠ 5))).imp (fun h => h.of (by decide : 1 ≠ 8)), fun h h' => H.n34 (h.of (by decide : 1 ≠ 3)) (h'.of (by decide : 1 ≠ 4)), fun h h' => H.n35 (h.of (by decide : 1 ≠ 3)) (h'.of (by decide : 1 ≠ 5)), fun h h' => H.n45 (h.of (by decide : 1 ≠ 4)) (h'.of (by decide : 1 ≠ 5)), fun h => dmono (H.d6 (h.of (by decide : 1 ≠ 6))) _, fun h => dmono (H.d7 (h.of (by decide : 1 ≠ 7))) _, fun h => dmono (H.d8 (h.of (by decide : 1 ≠ 8))) _⟩⟩
    · obtain ⟨o, ho, hop, hg, hd⟩ := R5_2
      refine wpOp_plain ho hg (wp_load_row 34 (.tmp 3) hop g' rfl 34 (exqC y).toArray (0, 0) _ (blk_below hY.blk H.b) Try.underlying34 rfl (by kernel_rfl) ?_)
      refine ⟨v5, v6, v7, v32, v33, _, by rw [hd]; rfl, ⟨by rw [Array.size_setIfInBounds]; exact H.sz, H.b, fun h => H.l0 (h.of (by decide : 2 ≠ 0)), fun h => H.l1 (h.of (by decide : 2 ≠ 1)), fun _ => rfl, fun h => (H.a3 (h.of (by decide : 2 ≠ 3))).imp (fun h => h.of (by decide : 2 ≠ 6)), fun h => (H.a4 (h.of (by decide : 2 ≠ 4))).imp (fun h => h.of (by decide : 2 ≠ 7)), fun h => (H.a5 (h.of (by decide : 2 ≠ 5))).imp (fun h => h.of (by decide : 2 ≠ 8)), fun h h' => H.n34 (h.of (by decide : 2 ≠ 3)) (h'.of (by decide : 2 ≠ 4)), fun h h' => H.n35 (h.of (by decide : 2 ≠ 3)) (h'.of (by decide : 2 ≠ 5)), fun h h' => H.n45 (h.of (by decide : 2 ≠ 4)) (h'.of (by decide : 2 ≠ 5)), fun h => dmono (H.d6 (h.of (by decide : 2 ≠ 6))) _, fun h => dmono (H.d7 (h.of (by decide : 2 ≠ 7))) _, fun h => dmono (H.d8 (h.of (by decide : 2 ≠ 8))) _⟩⟩
    · obtain ⟨o, ho, hop, hg, hd⟩ := R5_3
      refine wpOp_plain ho hg (wp_alloc 30 hop zeroH (by kernel_rfl) ?_)
      have hnd : ¬ D listed 3 := fun h => by have h1 := (mem_ready.1 hr).1; unfold D at h; exact getD_no h1 h
      refine ⟨_, v6, v7, v32, v33, v34, by rw [hd]; rfl, ⟨by rw [Array.size_setIfInBounds]; exact H.sz, H.b.alloc H.b.size _, fun h => H.l0 (h.of (by decide : 3 ≠ 0)), fun h => H.l1 (h.of (by decide : 3 ≠ 1)), fun h => H.l2 (h.of (by decide : 3 ≠ 2)), fun _ => ⟨_, _, rfl, H.b.size, heap_alloc_new _ _, by kernel_rfl, fun h => absurd (H.d6 (h.of (by decide : 3 ≠ 6))) hnd⟩, fun h => ((H.a4 (h.of (by decide : 3 ≠ 4))).alloc _).imp (fun h => h.of (by decide : 3 ≠ 7)), fun h => ((H.a5 (h.of (by decide : 3 ≠ 5))).alloc _).imp (fun h => h.of (by decide : 3 ≠ 8)), fun _ h => (H.a4 (h.of (by decide : 3 ≠ 4))).lt.symm, fun _ h => (H.a5 (h.of (by decide : 3 ≠ 5))).lt.symm, fun h h' => H.n45 (h.of (by decide : 3 ≠ 4)) (h'.of (by decide : 3 ≠ 5)), fun h => absurd (H.d6 (h.of (by decide : 3 ≠ 6))) hnd, fun h => dmono (H.d7 (h.of (by decide : 3 ≠ 7))) _, fun h => dmono (H.d8 (h.of (by decide : 3 ≠ 8))) _⟩⟩
    · obtain ⟨o, ho, hop, hg, hd⟩ := R5_4
      refine wpOp_plain ho hg (wp_alloc 30 hop zeroH (by kernel_rfl) ?_)
      have hnd : ¬ D listed 4 := fun h => by have h1 := (mem_ready.1 hr).1; unfold D at h; exact getD_no h1 h
      refine ⟨v5, _, v7, v32, v33, v34, by rw [hd]; rfl, ⟨by rw [Array.size_setIfInBounds]; exact H.sz, H.b.alloc H.b.size _, fun h => H.l0 (h.of (by decide : 4 ≠ 0)), fun h => H.l1 (h.of (by decide : 4 ≠ 1)), fun h => H.l2 (h.of (by decide : 4 ≠ 2)), fun h => ((H.a3 (h.of (by decide : 4 ≠ 3))).alloc _).imp (fun h => h.of (by decide : 4 ≠ 6)), fun _ => ⟨_, _, rfl, H.b.size, heap_alloc_new _ _, by kernel_rfl, fun h => absurd (H.d7 (h.of (by decide : 4 ≠ 7))) hnd⟩, fun h => ((H.a5 (h.of (by decide : 4 ≠ 5))).alloc _).imp (fun h => h.of (by decide : 4 ≠ 8)), fun h _ => (H.a3 (h.of (by decide : 4 ≠ 3))).lt, fun h h' => H.n35 (h.of (by decide : 4 ≠ 3)) (h'.of (by decide : 4 ≠ 5)), fun _ h => (H.a5 (h.of (by decide : 4 ≠ 5))).lt.symm, fun h => dmono (H.d6 (h.of (by decide : 4 ≠ 6))) _, fun h => absurd (H.d7 (h.of (by decide : 4 ≠ 7))) hnd, fun h => dmono (H.d8 (h.of (by decide : 4 ≠ 8))) _⟩⟩
    · obtain ⟨o, ho, hop, hg, hd⟩ := R5_5
      refine wpOp_plain ho hg (wp_alloc 34 hop zeroE (by kernel_rfl) ?_)
      have hnd : ¬ D listed 5 := fun h => by have h1 := (mem_ready.1 hr).1; unfold D at h; exact getD_no h1 h
      refine ⟨v5, v6, _, v32, v33, v34, by rw [hd]; rfl, ⟨by rw [Array.size_setIfInBounds]; exact H.sz, H.b.alloc H.b.size _, fun h => H.l0 (h.of (by decide : 5 ≠ 0)), fun h => H.l1 (h.of (by decide : 5 ≠ 1)), fun h => H.l2 (h.of (by decide : 5 ≠ 2)), fun h => ((H.a3 (h.of (by decide : 5 ≠ 3))).alloc _).imp (fun h => h.of (by decide : 5 ≠ 6)), fun h => ((H.a4 (h.of (by decide : 5 ≠ 4))).alloc _).imp (fun h => h.of (by decide : 5 ≠ 7)), fun _ => ⟨_, _, rfl, H.b.size, heap_alloc_new _ _, by kernel_rfl, fun h => absurd (H.d8 (h.of (by decide : 5 ≠ 8))) hnd⟩, fun h h' => H.n34 (h.of (by decide : 5 ≠ 3)) (h'.of (by decide : 5 ≠ 4)), fun h _ => (H.a3 (h.of (by decide : 5 ≠ 3))).lt, fun h _ => (H.a4 (h.of (by decide : 5 ≠ 4))).lt, fun h => dmono (H.d6 (h.of (by decide : 5 ≠ 6))) _, fun h => dmono (H.d7 (h.of (by decide : 5 ≠ 7))) _, fun h => absurd (H.d8 (h.of (by decide : 5 ≠ 8))) hnd⟩⟩
    · obtain ⟨o, ho, hop, hg, hd, hk1, hk2⟩ := R5_6
      have hal := ready_after hr ho hk2
      have hl := H.l0 (ready_after hr ho hk1)
      obtain ⟨p, c, hv, h1, h2, h3, h4⟩ := H.a3 hal
      subst hv hl
      refine wpOp_plain ho hg (wp_store_row 30 (.tmp 5) (.tmp 32) hop p (hstC x).toArray rfl rfl 30 c h2 (by kernel_rfl) h3 (hst_all x) ?_)
      refine ⟨_, v6, v7, _, v33, v34, by rw [hd]; rfl, ⟨by rw [Array.size_setIfInBounds]; exact H.sz, below_setRow H.b h1 _, fun h => H.l0 (h.of (by decide : 6 ≠ 0)), fun h => H.l1 (h.of (by decide : 6 ≠ 1)), fun h => H.l2 (h.of (by decide : 6 ≠ 2)), fun _ => ⟨_, _, rfl, h1, setRow_heap _ _ _ _ _ _ h2, by rfl, fun _ => rfl⟩, fun h => ((H.a4 (h.of (by decide : 6 ≠ 4))).row ((H.n34 hal (h.of (by decide : 6 ≠ 4))).symm) _).imp (fun h => h.of (by decide : 6 ≠ 7)), fun h => ((H.a5 (h.of (by decide : 6 ≠ 5))).row ((H.n35 hal (h.of (by decide : 6 ≠ 5))).symm) _).imp (fun h => h.of (by decide : 6 ≠ 8)), fun h h' => H.n34 (h.of (by decide : 6 ≠ 3)) (h'.of (by decide : 6 ≠ 4)), fun h h' => H.n35 (h.of (by decide : 6 ≠ 3)) (h'.of (by decide : 6 ≠ 5)), fun h h' => H.n45 (h.of (by decide : 6 ≠ 4)) (h'.of (by decide : 6 ≠ 5)), fun _ => (dmono hal _), fun h => dmono (H.d7 (h.of (by decide : 6 ≠ 7))) _, fun h => dmono (H.d8 (h.of (by decide : 6 ≠ 8))) _⟩⟩
    · obtain ⟨o, ho, hop, hg, hd, hk1, hk2⟩ := R5_7
      have hal := ready_after hr ho hk2
      have hl := H.l1 (ready_after hr ho hk1)
      obtain ⟨p, c, hv, h1, h2, h3, h4⟩ := H.a4 hal
      subst hv hl
      refine wpOp_plain ho hg (wp_store_row 30 (.tmp 6) (.tmp 33) hop p (hstC x).toArray rfl rfl 30 c h2 (by kernel_rfl) h3 (hst_all x) ?_)
      refine ⟨v5, _, v7, v32, _, v34, by rw [hd]; rfl, ⟨by rw [Array.size_setIfInBounds]; exact H.sz, below_setRow H.b h1 _, fun h => H.l0 (h.of (by decide : 7 ≠ 0)), fun h => H.l1 (h.of (by decide : 7 ≠ 1)), fun h => H.l2 (h.of (by decide : 7 ≠ 2)), fun h => ((H.a3 (h.of (by decide : 7 ≠ 3))).row (H.n34 (h.of (by decide : 7 ≠ 3)) hal) _).imp (fun h => h.of (by decide : 7 ≠ 6)), fun _ => ⟨_, _, rfl, h1, setRow_heap _ _ _ _ _ _ h2, by rfl, fun _ => rfl⟩, fun h => ((H.a5 (h.of (by decide : 7 ≠ 5))).row ((H.n45 hal (h.of (by decide : 7 ≠ 5))).symm) _).imp (fun h => h.of (by decide : 7 ≠ 8)), fun h h' => H.n34 (h.of (by decide : 7 ≠ 3)) (h'.of (by decide : 7 ≠ 4)), fun h h' => H.n35 (h.of (by decide : 7 ≠ 3)) (h'.of (by decide : 7 ≠ 5)), fun h h' => H.n45 (h.of (by decide : 7 ≠ 4)) (h'.of (by decide : 7 ≠ 5)), fun h => dmono (H.d6 (h.of (by decide : 7 ≠ 6))) _, fun _ => (dmono hal _), fun h => dmono (H.d8 (h.of (by decide : 7 ≠ 8))) _⟩⟩
    · obtain ⟨o, ho, hop, hg, hd, hk1, hk2⟩ := R5_8
      have hal := ready_after hr ho hk2
      have hl := H.l2 (ready_after hr ho hk1)
      obtain ⟨p, c, hv, h1, h2, h3, h4⟩ := H.a5 hal
      subst hv hl
      refine wpOp_plain ho hg (wp_store_row 34 (.tmp 7) (.tmp 34) hop p (exqC y).toArray rfl rfl 34 c h2 (by kernel_rfl) h3 (exq_all y) ?_)
      refine ⟨v5, v6, _, v32, v33, _, by rw [hd]; rfl, ⟨by rw [Array.size_setIfInBounds]; exact H.sz, below_setRow H.b h1 _, fun h => H.l0 (h.of (by decide : 8 ≠ 0)), fun h => H.l1 (h.of (by decide : 8 ≠ 1)), fun h => H.l2 (h.of (by decide : 8 ≠ 2)), fun h => ((H.a3 (h.of (by decide : 8 ≠ 3))).row (H.n35 (h.of (by decide : 8 ≠ 3)) hal) _).imp (fun h => h.of (by decide : 8 ≠ 6)), fun h => ((H.a4 (h.of (by decide : 8 ≠ 4))).row (H.n45 (h.of (by decide : 8 ≠ 4)) hal) _).imp (fun h => h.of (by decide : 8 ≠ 7)), fun _ => ⟨_, _, rfl, h1, setRow_heap _ _ _ _ _ _ h2, by rfl, fun _ => rfl⟩, fun h h' => H.n34 (h.of (by decide : 8 ≠ 3)) (h'.of (by decide : 8 ≠ 4)), fun h h' => H.n35 (h.of (by decide : 8 ≠ 3)) (h'.of (by decide : 8 ≠ 5)), fun h h' => H.n45 (h.of (by decide : 8 ≠ 4)) (h'.of (by decide : 8 ≠ 5)), fun h => dmono (H.d6 (h.of (by decide : 8 ≠ 6))) _, fun h => dmono (H.d7 (h.of (by decide : 8 ≠ 7))) _, fun _ => (dmono hal _)⟩⟩
  · rintro listed a w' ⟨v5, v6, v7, v32, v33, v34, rfl, H⟩ hr
    have hall := all_done hr (by rw [H.sz, R5_sz]) R5_all 9
    have dn : ∀ j, j < 9 → D listed j := fun j hj => hall j hj (by rw [R5_sz]; exact hj)
    obtain ⟨p5, c5, e5, a5, b5, _, f5⟩ := H.a3 (dn 3 (by decide))
    obtain ⟨p6, c6, e6, a6, b6, _, f6⟩ := H.a4 (dn 4 (by decide))
    obtain ⟨p7, c7, e7, a7, b7, _, f7⟩ := H.a5 (dn 5 (by decide))
    have n1 := H.n34 (dn 3 (by decide)) (dn 4 (by decide))
    have n2 := H.n35 (dn 3 (by decide)) (dn 5 (by decide))
    have n3 := H.n45 (dn 4 (by decide)) (dn 5 (by decide))
    have l0 := H.l0 (dn 0 (by decide))
    have l1 := H.l1 (dn 1 (by decide))
    have l2 := H.l2 (dn 2 (by decide))
    rw [f5 (dn 6 (by decide))] at b5
    rw [f6 (dn 7 (by decide))] at b6
    rw [f7 (dn 8 (by decide))] at b7
    subst e5 e6 e7 l0 l1 l2
    exact hQ p5 p6 p7 w' H.b a5 a6 a7 (fun e => n1 (by rw [e])) (fun e => n2 (by rw [e])) (fun e => n3 (by rw [e])) ⟨b5⟩ ⟨b6⟩ ⟨b7⟩
  · have nd : ∀ j, ¬ D (Array.replicate 9 false) j := by
      intro j h
      unfold D at h
      rw [Array.getD_eq_getD_getElem?] at h
      by_cases hj : j < 9
      · rw [Array.getElem?_replicate, if_pos hj] at h; cases h
      · rw [Array.getElem?_replicate, if_neg hj] at h; cases h
    exact ⟨undef, undef, undef, undef, undef, undef, rfl, ⟨by rfl, below_drew1 (Below.refl _ _), fun h => absurd h (nd _), fun h => absurd h (nd _), fun h => absurd h (nd _), fun h => absurd h (nd _), fun h => absurd h (nd _), fun h => absurd h (nd _), fun h => absurd h (nd _), fun h => absurd h (nd _), fun h => absurd h (nd _), fun h => absurd h (nd _), fun h => absurd h (nd _), fun h => absurd h (nd _)⟩⟩
end Go.Proofs.Ytdogokcoobpgdaa
namespace Go.Proofs.Ytdogokcoobpgdaa
open Go.RowKit Go.Proofs.YtdogokcoobpgdaaW.PrintWords Go.Proofs.YtdogokcoobpgdaaW.PrintLast Go.Proofs.YtdogokcoobpgdaaW.PrintMore

theorem blk_fz {w : World} {g t : Nat} {c : Array Value} (h : w.heap[g]? = some (.cells c t (0, 0))) (i : Nat) : w.frozen? ⟨g, i, none⟩ = false := by
  simp [World.frozen?, h]
theorem blk_set {w : World} {g t : Nat} {c : Array Value} (h : w.heap[g]? = some (.cells c t (0, 0))) (i : Nat) (v : Value) : (w.setCell ⟨g, i, none⟩ v).heap[g]? = some (.cells (c.setIfInBounds i v) t (0, 0)) := by
  have hlt := blk_lt h
  have h' : w.heap[g] = .cells c t (0, 0) := by rw [Array.getElem?_eq_getElem hlt] at h; injection h
  simp only [World.setCell, Array.getElem?_modify, if_true, h, Option.map_some]
  rfl
theorem XH.set {w : World} {p : Nat} {x : Hst} (h : XH w p x) (i : Nat) (v : Value) (x' : Hst) (e : (hstC x).toArray.setIfInBounds i v = (hstC x').toArray) : XH (w.setCell ⟨p, i, none⟩ v) p x' := ⟨by rw [blk_set h.blk, e]⟩
theorem XQ.set {w : World} {p : Nat} {x : Exq} (h : XQ w p x) (i : Nat) (v : Value) (x' : Exq) (e : (exqC x).toArray.setIfInBounds i v = (exqC x').toArray) : XQ (w.setCell ⟨p, i, none⟩ v) p x' := ⟨by rw [blk_set h.blk, e]⟩
theorem XH.other {w : World} {p : Nat} {x : Hst} (h : XH w p x) {q : Nat} (hn : p ≠ q) (i : Nat) (v : Value) : XH (w.setCell ⟨q, i, none⟩ v) p x := ⟨by rw [Below.heap_setCell _ _ _ _ hn]; exact h.blk⟩
theorem XQ.other {w : World} {p : Nat} {x : Exq} (h : XQ w p x) {q : Nat} (hn : p ≠ q) (i : Nat) (v : Value) : XQ (w.setCell ⟨q, i, none⟩ v) p x := ⟨by rw [Below.heap_setCell _ _ _ _ hn]; exact h.blk⟩
theorem wp_code {P : Program} {c c1 c2 : Code} {Q : Exit → Act → World → Prop} {a : Act} {w : World} (h : c = Code.seq c1 c2) (hw : (Code.seq c1 c2).wp P Q a w) : c.wp P Q a w := h ▸ hw
theorem XH.row {w : World} {p : Nat} {x : Hst} (h : XH w p x) (o : Obj) (cs : Array Value) : XH ((w.alloc o).setRow w.heap.size cs) p x := by
  have hlt := blk_lt h.blk
  exact ⟨by rw [setRow_other _ _ _ _ (by omega)]; exact blk_below h.blk ((Below.refl _ _).alloc (Nat.le_refl _) o)⟩
theorem XQ.row {w : World} {p : Nat} {x : Exq} (h : XQ w p x) (o : Obj) (cs : Array Value) : XQ ((w.alloc o).setRow w.heap.size cs) p x := by
  have hlt := blk_lt h.blk
  exact ⟨by rw [setRow_other _ _ _ _ (by omega)]; exact blk_below h.blk ((Below.refl _ _).alloc (Nat.le_refl _) o)⟩
theorem below_copy {w0 w : World} (h : Below w0.heap.size w0 w) (o : Obj) (cs : Array Value) : Below w0.heap.size w0 ((w.alloc o).setRow w.heap.size cs) := below_setRow (h.alloc h.size o) h.size cs
theorem copy_at {w : World} (c cs : Array Value) (t : TypeId) : ((w.alloc (.cells c t)).setRow w.heap.size cs).heap[w.heap.size]? = some (.cells cs t (0, 0)) := setRow_heap _ _ _ _ _ _ (heap_alloc_new w _)
noncomputable def zcH : Array Value := zeroH.cells
noncomputable def zcE : Array Value := zeroE.cells
theorem zcH_sz : zcH.size = 15 := by kernel_rfl
theorem zcE_sz : zcE.size = 24 := by kernel_rfl
theorem wpList_allocZ {P : Program} {ops : Array Oper} {Q : Exit → Act → World → Prop} {rest : List Oper} {o : Oper} {a : Act} {w : World} (hg : o.guard = none) (t : TypeId) (ho : o.op = .alloc t) (cs : Array Value) (z : Value) (hz : (P.info? t).map (·.zero) = some (some z)) (hc : z.cells = cs)
    (h : wpList P ops Q rest (a.put o.dst (.pointer (some ⟨w.heap.size, 0, none⟩))) (w.alloc (.cells cs t))) : wpList P ops Q (o :: rest) a w := by
  subst hc
  exact wpList_alloc hg t ho z hz h
def headC : Code → Code
  | .seq c _ => c
  | c => c
theorem wp_reg {P : Program} {c : Code} {n : Nat} {ops : Array Oper} {b : Bool} {Q : Exit → Act → World → Prop} {a : Act} {w : World} (h : c = Code.region n ops b) (hw : (Code.region n ops b).wp P Q a w) : c.wp P Q a w := h ▸ hw
set_option maxHeartbeats 1000000 in
set_option maxRecDepth 100000 in
theorem reg6 {w : World} {K : Act → World → Prop} {Q : Exit → Act → World → Prop} {g g' p5 p6 p7 : Nat} {u0 u1 u11 u12 u13 u14 u15 u16 u17 u18 u19 u20 u21 u22 u23 u24 u25 u26 u27 u28 u29 u30 u31 u32 u33 u34 : Value} {x : Hst} (hp : XH w p5 x)
    (hK : ∀ u35 u36 : Value, K ⟨#[u0, u1, .pointer (some ⟨g, 0, none⟩), .pointer (some ⟨g', 0, none⟩), .bool false, .pointer (some ⟨p5, 0, none⟩), .pointer (some ⟨p6, 0, none⟩), .pointer (some ⟨p7, 0, none⟩), undef, undef, undef, u11, u12, u13, u14, u15, u16, u17, u18, u19, u20, u21, u22, u23, u24, u25, u26, u27, u28, u29, u30, u31, u32, u33, u34, u35, u36, undef, undef, undef, undef, undef, undef, undef, undef, undef, undef, undef, undef, undef, undef, undef, undef, undef, undef, undef, undef, undef, undef, undef, undef, undef, undef, undef, undef, undef, undef, undef, undef, undef, undef, undef, undef, undef, undef, undef, undef, undef, undef, undef, undef, undef, undef, undef, undef, undef, undef, undef, undef, undef, undef, undef, undef, undef, undef, undef, undef, undef, undef, undef, undef, undef, undef, undef], []⟩ ((w.setCell ⟨p5, 2, none⟩ (.int .u64 0)).setCell ⟨p5, 1, none⟩ (.int .u64 0))) :
    (headC (dropSeq 4 oneC)).wp Try.prog (Exit.then K Q) ⟨#[u0, u1, .pointer (some ⟨g, 0, none⟩), .pointer (some ⟨g', 0, none⟩), .bool false, .pointer (some ⟨p5, 0, none⟩), .pointer (some ⟨p6, 0, none⟩), .pointer (some ⟨p7, 0, none⟩), undef, undef, undef, u11, u12, u13, u14, u15, u16, u17, u18, u19, u20, u21, u22, u23, u24, u25, u26, u27, u28, u29, u30, u31, u32, u33, u34, undef, undef, undef, undef, undef, undef, undef, undef, undef, undef, undef, undef, undef, undef, undef, undef, undef, undef, undef, undef, undef, undef, undef, undef, undef, undef, undef, undef, undef, undef, undef, undef, undef, undef, undef, undef, undef, undef, undef, undef, undef, undef, undef, undef, undef, undef, undef, undef, undef, undef, undef, undef, undef, undef, undef, undef, undef, undef, undef, undef, undef, undef, undef, undef, undef, undef, undef, undef, undef], []⟩ w := by
  have HK := Aside0.mk hK
  clear hK
  have z1 := hp.c1
  have z2 := hp.c2
  have zf := fun i => blk_fz hp.blk i
  clear hp
  refine wp_reg rfl ?_
  go_wp2_with fail
  exact HK.out _ _
set_option maxHeartbeats 1000000 in
set_option maxRecDepth 100000 in
theorem reg7 {w : World} {K : Act → World → Prop} {Q : Exit → Act → World → Prop} {g g' p5 p6 p7 : Nat} {u0 u1 u11 u12 u13 u14 u15 u16 u17 u18 u19 u20 u21 u22 u23 u24 u25 u26 u27 u28 u29 u30 u31 u32 u33 u34 u35 u36 : Value} {x : Hst} (hp : XH w p6 x)
    (hK : ∀ u37 u38 u39 u40 : Value, K ⟨#[u0, u1, .pointer (some ⟨g, 0, none⟩), .pointer (some ⟨g', 0, none⟩), .bool false, .pointer (some ⟨p5, 0, none⟩), .pointer (some ⟨p6, 0, none⟩), .pointer (some ⟨p7, 0, none⟩), undef, undef, undef, u11, u12, u13, u14, u15, u16, u17, u18, u19, u20, u21, u22, u23, u24, u25, u26, u27, u28, u29, u30, u31, u32, u33, u34, u35, u36, u37, u38, u39, u40, undef, undef, undef, undef, undef, undef, undef, undef, undef, undef, undef, undef, undef, undef, undef, undef, undef, undef, undef, undef, undef, undef, undef, undef, undef, undef, undef, undef, undef, undef, undef, undef, undef, undef, undef, undef, undef, undef, undef, undef, undef, undef, undef, undef, undef, undef, undef, undef, undef, undef, undef, undef, undef, undef, undef, undef, undef, undef, undef, undef, undef, undef, undef], []⟩ (w.setCell ⟨p6, 1, none⟩ (.int .u64 (IntKind.u64.wrap (x.time + 1))))) :
    (headC (dropSeq 5 oneC)).wp Try.prog (Exit.then K Q) ⟨#[u0, u1, .pointer (some ⟨g, 0, none⟩), .pointer (some ⟨g', 0, none⟩), .bool false, .pointer (some ⟨p5, 0, none⟩), .pointer (some ⟨p6, 0, none⟩), .pointer (some ⟨p7, 0, none⟩), undef, undef, undef, u11, u12, u13, u14, u15, u16, u17, u18, u19, u20, u21, u22, u23, u24, u25, u26, u27, u28, u29, u30, u31, u32, u33, u34, u35, u36, undef, undef, undef, undef, undef, undef, undef, undef, undef, undef, undef, undef, undef, undef, undef, undef, undef, undef, undef, undef, undef, undef, undef, undef, undef, undef, undef, undef, undef, undef, undef, undef, undef, undef, undef, undef, undef, undef, undef, undef, undef, undef, undef, undef, undef, undef, undef, undef, undef, undef, undef, undef, undef, undef, undef, undef, undef, undef, undef, undef, undef, undef, undef, undef, undef, undef, undef], []⟩ w := by
  have HK := Aside0.mk hK
  clear hK
  have z1 := hp.c1
  have z2 := hp.c2
  have zf := fun i => blk_fz hp.blk i
  clear hp
  refine wp_reg rfl ?_
  go_wp2_with fail
  exact HK.out _ _ _ _
set_option maxHeartbeats 1000000 in
set_option maxRecDepth 100000 in
theorem reg8 {w : World} {K : Act → World → Prop} {Q : Exit → Act → World → Prop} {g g' p5 p6 p7 : Nat} {u0 u1 u11 u12 u13 u14 u15 u16 u17 u18 u19 u20 u21 u22 u23 u24 u25 u26 u27 u28 u29 u30 u31 u32 u33 u34 u35 u36 u37 u38 u39 u40 : Value} {y : Exq} (hp : XQ w p7 y)
    (hK : ∀ u41 u42 u43 u44 : Value, K ⟨#[u0, u1, .pointer (some ⟨g, 0, none⟩), .pointer (some ⟨g', 0, none⟩), .bool false, .pointer (some ⟨p5, 0, none⟩), .pointer (some ⟨p6, 0, none⟩), .pointer (some ⟨p7, 0, none⟩), undef, undef, undef, u11, u12, u13, u14, u15, u16, u17, u18, u19, u20, u21, u22, u23, u24, u25, u26, u27, u28, u29, u30, u31, u32, u33, u34, u35, u36, u37, u38, u39, u40, u41, u42, u43, u44, undef, undef, undef, undef, undef, undef, undef, undef, undef, undef, undef, undef, undef, undef, undef, undef, undef, undef, undef, undef, undef, undef, undef, undef, undef, undef, undef, undef, undef, undef, undef, undef, undef, undef, undef, undef, undef, undef, undef, undef, undef, undef, undef, undef, undef, undef, undef, undef, undef, undef, undef, undef, undef, undef, undef, undef, undef, undef, undef], []⟩ (w.setCell ⟨p7, 3, none⟩ (.int .u64 (IntKind.u64.wrap (y.count + 1))))) :
    (headC (dropSeq 6 oneC)).wp Try.prog (Exit.then K Q) ⟨#[u0, u1, .pointer (some ⟨g, 0, none⟩), .pointer (some ⟨g', 0, none⟩), .bool false, .pointer (some ⟨p5, 0, none⟩), .pointer (some ⟨p6, 0, none⟩), .pointer (some ⟨p7, 0, none⟩), undef, undef, undef, u11, u12, u13, u14, u15, u16, u17, u18, u19, u20, u21, u22, u23, u24, u25, u26, u27, u28, u29, u30, u31, u32, u33, u34, u35, u36, u37, u38, u39, u40, undef, undef, undef, undef, undef, undef, undef, undef, undef, undef, undef, undef, undef, undef, undef, undef, undef, undef, undef, undef, undef, undef, undef, undef, undef, undef, undef, undef, undef, undef, undef, undef, undef, undef, undef, undef, undef, undef, undef, undef, undef, undef, undef, undef, undef, undef, undef, undef, undef, undef, undef, undef, undef, undef, undef, undef, undef, undef, undef, undef, undef, undef, undef], []⟩ w := by
  have HK := Aside0.mk hK
  clear hK
  have z3 := hp.c3
  have zf := fun i => blk_fz hp.blk i
  clear hp
  refine wp_reg rfl ?_
  go_wp2_with fail
  exact HK.out _ _ _ _
set_option maxHeartbeats 1000000 in
set_option maxRecDepth 100000 in
theorem reg9 {w : World} {K : Act → World → Prop} {Q : Exit → Act → World → Prop} {g g' p5 p6 p7 : Nat} {u0 u1 u11 u12 u13 u14 u15 u16 u17 u18 u19 u20 u21 u22 u23 u24 u25 u26 u27 u28 u29 u30 u31 u32 u33 u34 u35 u36 u37 u38 u39 u40 u41 u42 u43 u44 : Value} {y : Exq} (hp : XQ w g' y)
    (hK : ∀ u45 : Value, K ⟨#[u0, u1, .pointer (some ⟨g, 0, none⟩), .pointer (some ⟨g', 0, none⟩), .bool false, .pointer (some ⟨p5, 0, none⟩), .pointer (some ⟨p6, 0, none⟩), .pointer (some ⟨p7, 0, none⟩), .pointer (some ⟨w.heap.size, 0, none⟩), undef, undef, u11, u12, u13, u14, u15, u16, u17, u18, u19, u20, u21, u22, u23, u24, u25, u26, u27, u28, u29, u30, u31, u32, u33, u34, u35, u36, u37, u38, u39, u40, u41, u42, u43, u44, u45, undef, undef, undef, undef, undef, undef, undef, undef, undef, undef, undef, undef, undef, undef, undef, undef, undef, undef, undef, undef, undef, undef, undef, undef, undef, undef, undef, undef, undef, undef, undef, undef, undef, undef, undef, undef, undef, undef, undef, undef, undef, undef, undef, undef, undef, undef, undef, undef, undef, undef, undef, undef, undef, undef, undef, undef, undef, undef], []⟩ ((w.alloc (.cells zcE 34)).setRow w.heap.size (exqC y).toArray)) :
    (headC (dropSeq 7 oneC)).wp Try.prog (Exit.then K Q) ⟨#[u0, u1, .pointer (some ⟨g, 0, none⟩), .pointer (some ⟨g', 0, none⟩), .bool false, .pointer (some ⟨p5, 0, none⟩), .pointer (some ⟨p6, 0, none⟩), .pointer (some ⟨p7, 0, none⟩), undef, undef, undef, u11, u12, u13, u14, u15, u16, u17, u18, u19, u20, u21, u22, u23, u24, u25, u26, u27, u28, u29, u30, u31, u32, u33, u34, u35, u36, u37, u38, u39, u40, u41, u42, u43, u44, undef, undef, undef, undef, undef, undef, undef, undef, undef, undef, undef, undef, undef, undef, undef, undef, undef, undef, undef, undef, undef, undef, undef, undef, undef, undef, undef, undef, undef, undef, undef, undef, undef, undef, undef, undef, undef, undef, undef, undef, undef, undef, undef, undef, undef, undef, undef, undef, undef, undef, undef, undef, undef, undef, undef, undef, undef, undef, undef], []⟩ w := by
  have HK := Aside0.mk hK
  clear hK
  refine wp_reg rfl ?_
  go_wp2_with (first
    | (refine wpList_load_row rfl 34 _ rfl g' rfl 34 (exqC y).toArray (0, 0) _ hp.blk Try.underlying34 rfl (by kernel_rfl) ?_)
    | (refine wpList_allocZ rfl 34 rfl zcE zeroE (by kernel_rfl) rfl ?_)
    | (refine wpList_store_row rfl 34 _ _ rfl w.heap.size (exqC y).toArray rfl rfl 34 zcE (heap_alloc_new w _) (by kernel_rfl) zcE_sz (exq_all _) ?_))
  exact HK.out _
set_option maxHeartbeats 1000000 in
set_option maxRecDepth 100000 in
theorem reg10 {w : World} {K : Act → World → Prop} {Q : Exit → Act → World → Prop} {g g' p5 p6 p7 p8 : Nat} {u0 u1 u11 u12 u13 u14 u15 u16 u17 u18 u19 u20 u21 u22 u23 u24 u25 u26 u27 u28 u29 u30 u31 u32 u33 u34 u35 u36 u37 u38 u39 u40 u41 u42 u43 u44 u45 : Value} {y : Exq} (hp : XQ w p8 y)
    (hK : ∀ u46 : Value, K ⟨#[u0, u1, .pointer (some ⟨g, 0, none⟩), .pointer (some ⟨g', 0, none⟩), .bool false, .pointer (some ⟨p5, 0, none⟩), .pointer (some ⟨p6, 0, none⟩), .pointer (some ⟨p7, 0, none⟩), .pointer (some ⟨p8, 0, none⟩), undef, undef, u11, u12, u13, u14, u15, u16, u17, u18, u19, u20, u21, u22, u23, u24, u25, u26, u27, u28, u29, u30, u31, u32, u33, u34, u35, u36, u37, u38, u39, u40, u41, u42, u43, u44, u45, u46, undef, undef, undef, undef, undef, undef, undef, undef, undef, undef, undef, undef, undef, undef, undef, undef, undef, undef, undef, undef, undef, undef, undef, undef, undef, undef, undef, undef, undef, undef, undef, undef, undef, undef, undef, undef, undef, undef, undef, undef, undef, undef, undef, undef, undef, undef, undef, undef, undef, undef, undef, undef, undef, undef, undef, undef, undef], []⟩ (w.setCell ⟨p8, 10, none⟩ (.int .i32 21))) :
    (headC (dropSeq 8 oneC)).wp Try.prog (Exit.then K Q) ⟨#[u0, u1, .pointer (some ⟨g, 0, none⟩), .pointer (some ⟨g', 0, none⟩), .bool false, .pointer (some ⟨p5, 0, none⟩), .pointer (some ⟨p6, 0, none⟩), .pointer (some ⟨p7, 0, none⟩), .pointer (some ⟨p8, 0, none⟩), undef, undef, u11, u12, u13, u14, u15, u16, u17, u18, u19, u20, u21, u22, u23, u24, u25, u26, u27, u28, u29, u30, u31, u32, u33, u34, u35, u36, u37, u38, u39, u40, u41, u42, u43, u44, u45, undef, undef, undef, undef, undef, undef, undef, undef, undef, undef, undef, undef, undef, undef, undef, undef, undef, undef, undef, undef, undef, undef, undef, undef, undef, undef, undef, undef, undef, undef, undef, undef, undef, undef, undef, undef, undef, undef, undef, undef, undef, undef, undef, undef, undef, undef, undef, undef, undef, undef, undef, undef, undef, undef, undef, undef, undef, undef], []⟩ w := by
  have HK := Aside0.mk hK
  clear hK
  have z10 := hp.c10
  have zf := fun i => blk_fz hp.blk i
  clear hp
  refine wp_reg rfl ?_
  go_wp2_with fail
  exact HK.out _
set_option maxHeartbeats 1000000 in
set_option maxRecDepth 100000 in
theorem reg11 {w : World} {K : Act → World → Prop} {Q : Exit → Act → World → Prop} {g g' p5 p6 p7 p8 : Nat} {u0 u1 u11 u12 u13 u14 u15 u16 u17 u18 u19 u20 u21 u22 u23 u24 u25 u26 u27 u28 u29 u30 u31 u32 u33 u34 u35 u36 u37 u38 u39 u40 u41 u42 u43 u44 u45 u46 : Value} {x : Hst} (hp : XH w g x)
    (hK : ∀ u47 : Value, K ⟨#[u0, u1, .pointer (some ⟨g, 0, none⟩), .pointer (some ⟨g', 0, none⟩), .bool false, .pointer (some ⟨p5, 0, none⟩), .pointer (some ⟨p6, 0, none⟩), .pointer (some ⟨p7, 0, none⟩), .pointer (some ⟨p8, 0, none⟩), .pointer (some ⟨w.heap.size, 0, none⟩), undef, u11, u12, u13, u14, u15, u16, u17, u18, u19, u20, u21, u22, u23, u24, u25, u26, u27, u28, u29, u30, u31, u32, u33, u34, u35, u36, u37, u38, u39, u40, u41, u42, u43, u44, u45, u46, u47, undef, undef, undef, undef, undef, undef, undef, undef, undef, undef, undef, undef, undef, undef, undef, undef, undef, undef, undef, undef, undef, undef, undef, undef, undef, undef, undef, undef, undef, undef, undef, undef, undef, undef, undef, undef, undef, undef, undef, undef, undef, undef, undef, undef, undef, undef, undef, undef, undef, undef, undef, undef, undef, undef, undef, undef], []⟩ ((w.alloc (.cells zcH 30)).setRow w.heap.size (hstC x).toArray)) :
    (headC (dropSeq 9 oneC)).wp Try.prog (Exit.then K Q) ⟨#[u0, u1, .pointer (some ⟨g, 0, none⟩), .pointer (some ⟨g', 0, none⟩), .bool false, .pointer (some ⟨p5, 0, none⟩), .pointer (some ⟨p6, 0, none⟩), .pointer (some ⟨p7, 0, none⟩), .pointer (some ⟨p8, 0, none⟩), undef, undef, u11, u12, u13, u14, u15, u16, u17, u18, u19, u20, u21, u22, u23, u24, u25, u26, u27, u28, u29, u30, u31, u32, u33, u34, u35, u36, u37, u38, u39, u40, u41, u42, u43, u44, u45, u46, undef, undef, undef, undef, undef, undef, undef, undef, undef, undef, undef, undef, undef, undef, undef, undef, undef, undef, undef, undef, undef, undef, undef, undef, undef, undef, undef, undef, undef, undef, undef, undef, undef, undef, undef, undef, undef, undef, undef, undef, undef, undef, undef, undef, undef, undef, undef, undef, undef, undef, undef, undef, undef, undef, undef, undef, undef], []⟩ w := by
  have HK := Aside0.mk hK
  clear hK
  refine wp_reg rfl ?_
  go_wp2_with (first
    | (refine wpList_load_row rfl 30 _ rfl g rfl 30 (hstC x).toArray (0, 0) _ hp.blk Try.underlying30 rfl (by kernel_rfl) ?_)
    | (refine wpList_allocZ rfl 30 rfl zcH zeroH (by kernel_rfl) rfl ?_)
    | (refine wpList_store_row rfl 30 _ _ rfl w.heap.size (hstC x).toArray rfl rfl 30 zcH (heap_alloc_new w _) (by kernel_rfl) zcH_sz (hst_all _) ?_))
  exact HK.out _
set_option maxHeartbeats 1000000 in
set_option maxRecDepth 100000 in
theorem reg13 {w : World} {K : Act → World → Prop} {Q : Exit → Act → World → Prop} {g g' p5 p6 p7 p8 p9 : Nat} {u0 u1 u11 u12 u13 u14 u15 u16 u17 u18 u19 u20 u21 u22 u23 u24 u25 u26 u27 u28 u29 u30 u31 u32 u33 u34 u35 u36 u37 u38 u39 u40 u41 u42 u43 u44 u45 u46 u47 u48 u49 u50 u51 u52 u53 u54 u55 u56 : Value} {x : Hst} (hp : XH w g x)
    (hK : ∀ u57 : Value, K ⟨#[u0, u1, .pointer (some ⟨g, 0, none⟩), .pointer (some ⟨g', 0, none⟩), .bool false, .pointer (some ⟨p5, 0, none⟩), .pointer (some ⟨p6, 0, none⟩), .pointer (some ⟨p7, 0, none⟩), .pointer (some ⟨p8, 0, none⟩), .pointer (some ⟨p9, 0, none⟩), .pointer (some ⟨w.heap.size, 0, none⟩), u11, u12, u13, u14, u15, u16, u17, u18, u19, u20, u21, u22, u23, u24, u25, u26, u27, u28, u29, u30, u31, u32, u33, u34, u35, u36, u37, u38, u39, u40, u41, u42, u43, u44, u45, u46, u47, u48, u49, u50, u51, u52, u53, u54, u55, u56, u57, undef, undef, undef, undef, undef, undef, undef, undef, undef, undef, undef, undef, undef, undef, undef, undef, undef, undef, undef, undef, undef, undef, undef, undef, undef, undef, undef, undef, undef, undef, undef, undef, undef, undef, undef, undef, undef, undef, undef, undef, undef, undef, undef, undef, undef, undef], []⟩ ((w.alloc (.cells zcH 30)).setRow w.heap.size (hstC x).toArray)) :
    (headC (dropSeq 11 oneC)).wp Try.prog (Exit.then K Q) ⟨#[u0, u1, .pointer (some ⟨g, 0, none⟩), .pointer (some ⟨g', 0, none⟩), .bool false, .pointer (some ⟨p5, 0, none⟩), .pointer (some ⟨p6, 0, none⟩), .pointer (some ⟨p7, 0, none⟩), .pointer (some ⟨p8, 0, none⟩), .pointer (some ⟨p9, 0, none⟩), undef, u11, u12, u13, u14, u15, u16, u17, u18, u19, u20, u21, u22, u23, u24, u25, u26, u27, u28, u29, u30, u31, u32, u33, u34, u35, u36, u37, u38, u39, u40, u41, u42, u43, u44, u45, u46, u47, u48, u49, u50, u51, u52, u53, u54, u55, u56, undef, undef, undef, undef, undef, undef, undef, undef, undef, undef, undef, undef, undef, undef, undef, undef, undef, undef, undef, undef, undef, undef, undef, undef, undef, undef, undef, undef, undef, undef, undef, undef, undef, undef, undef, undef, undef, undef, undef, undef, undef, undef, undef, undef, undef, undef, undef], []⟩ w := by
  have HK := Aside0.mk hK
  clear hK
  refine wp_reg rfl ?_
  go_wp2_with (first
    | (refine wpList_load_row rfl 30 _ rfl g rfl 30 (hstC x).toArray (0, 0) _ hp.blk Try.underlying30 rfl (by kernel_rfl) ?_)
    | (refine wpList_allocZ rfl 30 rfl zcH zeroH (by kernel_rfl) rfl ?_)
    | (refine wpList_store_row rfl 30 _ _ rfl w.heap.size (hstC x).toArray rfl rfl 30 zcH (heap_alloc_new w _) (by kernel_rfl) zcH_sz (hst_all _) ?_))
  exact HK.out _
set_option maxHeartbeats 1000000 in
set_option maxRecDepth 100000 in
theorem reg14 {w : World} {K : Act → World → Prop} {Q : Exit → Act → World → Prop} {g g' p10 p5 p6 p7 p8 p9 : Nat} {u0 u1 u11 u12 u13 u14 u15 u16 u17 u18 u19 u20 u21 u22 u23 u24 u25 u26 u27 u28 u29 u30 u31 u32 u33 u34 u35 u36 u37 u38 u39 u40 u41 u42 u43 u44 u45 u46 u47 u48 u49 u50 u51 u52 u53 u54 u55 u56 u57 : Value} {x : Hst} (hp : XH w p10 x)
    (hK : ∀ u58 u59 u60 u61 : Value, K ⟨#[u0, u1, .pointer (some ⟨g, 0, none⟩), .pointer (some ⟨g', 0, none⟩), .bool false, .pointer (some ⟨p5, 0, none⟩), .pointer (some ⟨p6, 0, none⟩), .pointer (some ⟨p7, 0, none⟩), .pointer (some ⟨p8, 0, none⟩), .pointer (some ⟨p9, 0, none⟩), .pointer (some ⟨p10, 0, none⟩), u11, u12, u13, u14, u15, u16, u17, u18, u19, u20, u21, u22, u23, u24, u25, u26, u27, u28, u29, u30, u31, u32, u33, u34, u35, u36, u37, u38, u39, u40, u41, u42, u43, u44, u45, u46, u47, u48, u49, u50, u51, u52, u53, u54, u55, u56, u57, u58, u59, u60, u61, undef, undef, undef, undef, undef, undef, undef, undef, undef, undef, undef, undef, undef, undef, undef, undef, undef, undef, undef, undef, undef, undef, undef, undef, undef, undef, undef, undef, undef, undef, undef, undef, undef, undef, undef, undef, undef, undef, undef, undef, undef, undef], []⟩ (w.setCell ⟨p10, 3, none⟩ (.int .u64 (IntKind.u64.wrap (x.count + 1))))) :
    (headC (dropSeq 12 oneC)).wp Try.prog (Exit.then K Q) ⟨#[u0, u1, .pointer (some ⟨g, 0, none⟩), .pointer (some ⟨g', 0, none⟩), .bool false, .pointer (some ⟨p5, 0, none⟩), .pointer (some ⟨p6, 0, none⟩), .pointer (some ⟨p7, 0, none⟩), .pointer (some ⟨p8, 0, none⟩), .pointer (some ⟨p9, 0, none⟩), .pointer (some ⟨p10, 0, none⟩), u11, u12, u13, u14, u15, u16, u17, u18, u19, u20, u21, u22, u23, u24, u25, u26, u27, u28, u29, u30, u31, u32, u33, u34, u35, u36, u37, u38, u39, u40, u41, u42, u43, u44, u45, u46, u47, u48, u49, u50, u51, u52, u53, u54, u55, u56, u57, undef, undef, undef, undef, undef, undef, undef, undef, undef, undef, undef, undef, undef, undef, undef, undef, undef, undef, undef, undef, undef, undef, undef, undef, undef, undef, undef, undef, undef, undef, undef, undef, undef, undef, undef, undef, undef, undef, undef, undef, undef, undef, undef, undef, undef, undef], []⟩ w := by
  have HK := Aside0.mk hK
  clear hK
  have z3 := hp.c3
  have zf := fun i => blk_fz hp.blk i
  clear hp
  refine wp_reg rfl ?_
  go_wp2_with fail
  exact HK.out _ _ _ _
end Go.Proofs.Ytdogokcoobpgdaa
namespace Go.Proofs.Ytdogokcoobpgdaa
open Go.RowKit Go.Proofs.YtdogokcoobpgdaaW.PrintWords Go.Proofs.YtdogokcoobpgdaaW.PrintLast Go.Proofs.YtdogokcoobpgdaaW.PrintMore

/-- The key that is put to the row twice. -/
def qK : Kv := ⟨⟨#[113]⟩, false, ⟨0, ByteArray.empty, false, 0, ⟨none, 0, 0⟩, ⟨none, 0, 0⟩, ByteArray.empty, ByteArray.empty⟩, ByteArray.empty⟩
def qC : Array Value := #[.string ⟨#[113]⟩, .bool false, .int .i64 0, .string ⟨#[]⟩, .bool false, .int .u64 0, .slice none 0 0, .slice none 0 0, .string ⟨#[]⟩, .string ⟨#[]⟩, .string ⟨#[]⟩, .string ⟨#[113]⟩, .bool false, .int .i64 0, .string ⟨#[]⟩, .bool false, .int .u64 0, .slice none 0 0, .slice none 0 0, .string ⟨#[]⟩, .string ⟨#[]⟩, .string ⟨#[]⟩]
theorem qC_eq : qC.toList = [qK, qK].flatMap kvC := rfl
theorem kv_info : ∃ i z, Try.prog.info? 44 = some i ∧ i.zero = some z ∧ i.size = 11 ∧ i.bytes = 160 ∧ z.cells.size = 11 := by
  have h : ((Try.prog.info? 44).bind (fun i => i.zero.map fun z => (i.size, i.bytes, z.cells.size))) = some (11, 160, 11) := by kernel_rfl
  cases hi : Try.prog.info? 44 with
  | none => rw [hi] at h; simp at h
  | some i =>
    rw [hi] at h
    cases hz : i.zero with
    | none => simp [hz] at h
    | some z => simp [hz] at h; exact ⟨i, z, rfl, hz, h.1, h.2.1, h.2.2⟩
theorem own_nil (w : World) (e : TypeId) : (w.alloc (.cells #[] e)).ownsRow w.heap.size e 11 (.slice (some ⟨w.heap.size, 0, none⟩) 0 0) 0 [] :=
  ⟨rfl, .inr ⟨w.heap.size, 0, #[], rfl, Nat.le_refl _, heap_alloc_new _ _, Nat.le_refl _, Nat.zero_le _, rfl, rfl⟩⟩
theorem own_some {w : World} {base e n : Nat} {v : Value} {xs : List Value} (h : w.ownsRow base e 11 v n xs) (hn : 0 < n) : ∃ b cap, v = .slice (some ⟨b, 0, none⟩) n cap ∧ base ≤ b ∧ n ≤ cap ∧ cap ≤ maxLen := by
  rcases h.2 with ⟨_, h0⟩ | ⟨g, cap, cur, hv, hb, _, h1, h2, _⟩
  · omega
  · exact ⟨g, cap, hv, hb, h1, h2⟩
theorem add_zero_at (b n : Nat) : (⟨b, 0, none⟩ : Addr).add n = ⟨b, n, none⟩ := by
  unfold Addr.add
  by_cases h : n = 0
  · rw [if_pos h, h]
  · rw [if_neg h]; simp
theorem add_two (a : Addr) (m n : Nat) : (a.add m).add n = a.add (m + n) := by
  unfold Addr.add
  by_cases hm : m = 0
  · subst hm; simp
  · by_cases hn : n = 0
    · subst hn; simp
    · rw [if_neg hn, if_neg hm, if_neg (by omega)]
      simp only [Nat.add_assoc]
theorem own_at {w : World} {base e n cap b : Nat} {l : List Kv} (h : w.ownsRow base e 11 (.slice (some ⟨b, 0, none⟩) n cap) n (l.flatMap kvC)) (hn : n = l.length) (hc : n ≤ cap) (hm : cap ≤ maxLen) (hf : n ≤ 1000) : KsAt w ⟨some ⟨b, 0, none⟩, n, cap⟩ l := by
  refine ⟨⟨hn, hc, hm, fun _ => ⟨_, rfl, fun i hi => ⟨fun j hj => ?_, trivial⟩⟩⟩, fun a ha => by injection ha with ha; rw [← ha], by omega⟩
  have h1 := h.cellAt (i * 11 + j) (by omega)
  rw [flat_get l i j hi hj] at h1
  rw [← h1]
  rw [add_two, add_zero_at]
theorem ks_news {w : World} {a : Addr} {m c : Nat} {l : List Kv} (h : KsAt w ⟨some a, m, c⟩ l) : ∀ j u, (l.flatMap kvC)[j]? = some u → w.cell? (a.add j) = some u := by
  intro j u hu
  have hlt : j < l.length * 11 := by
    rcases Nat.lt_or_ge j (l.length * 11) with h | h
    · exact h
    · rw [List.getElem?_eq_none (by rw [flat_len]; exact h)] at hu; cases hu
  obtain ⟨a', ha, hel⟩ := h.at_.2.2.2 (by omega)
  injection ha with ha
  subst ha
  have hi : j / 11 < l.length := by omega
  have h1 := (hel (j / 11) hi).1 (j % 11) (by omega)
  rw [add_two, show j / 11 * 11 + j % 11 = j by omega] at h1
  rw [h1, ← flat_get l (j / 11) (j % 11) hi (by omega), show j / 11 * 11 + j % 11 = j by omega]
  exact hu
theorem ks_len {w : World} {s : Sl} {l : List Kv} (h : KsAt w s l) : s.len = l.length := h.at_.1
theorem lit_news (w : World) (e : TypeId) : ∀ j u, (([qK, qK] : List Kv).flatMap kvC)[j]? = some u → (w.alloc (.cells qC e)).cell? ((⟨w.heap.size, 0, none⟩ : Addr).add j) = some u := by
  intro j u hu
  rw [add_zero_at, cell_of_row _ _ _ _ _ _ (heap_alloc_new w _), ← hu, ← qC_eq]
  simp
theorem own_lo {w : World} {base e n : Nat} {v : Value} {xs : List Value} (h : w.ownsRow base e 11 v n xs) : ∀ k, v.ownBlock = some k → base ≤ k := fun k hk => (h.lt k hk).1
set_option maxHeartbeats 1000000 in
set_option maxRecDepth 100000 in
theorem reg12s {w : World} {K : Act → World → Prop} {Q : Exit → Act → World → Prop} {g g' p5 p6 p7 p8 p9 : Nat} {u0 u1 u11 u12 u13 u14 u15 u16 u17 u18 u19 u20 u21 u22 u23 u24 u25 u26 u27 u28 u29 u30 u31 u32 u33 u34 u35 u36 u37 u38 u39 u40 u41 u42 u43 u44 u45 u46 u47 : Value} {x x9 : Hst} {ks : List Kv} {ad : Addr} {m c : Nat} (hg : XH w g x) (he : x.attrs = ⟨some ad, m, c⟩) (hk : KsAt w x.attrs ks) (hf : ks.length ≤ 600) (hp : XH w p9 x9)
    (hK : ∀ (u48 u49 u50 u51 u52 u53 u54 u55 u56 : Value) (b cap : Nat) (w2 : World), Below w.heap.size w w2 → w.heap.size ≤ b → KsAt w2 ⟨some ⟨b, 0, none⟩, ks.length + 2, cap⟩ (ks ++ [qK, qK]) → K ⟨#[u0, u1, .pointer (some ⟨g, 0, none⟩), .pointer (some ⟨g', 0, none⟩), .bool false, .pointer (some ⟨p5, 0, none⟩), .pointer (some ⟨p6, 0, none⟩), .pointer (some ⟨p7, 0, none⟩), .pointer (some ⟨p8, 0, none⟩), .pointer (some ⟨p9, 0, none⟩), undef, u11, u12, u13, u14, u15, u16, u17, u18, u19, u20, u21, u22, u23, u24, u25, u26, u27, u28, u29, u30, u31, u32, u33, u34, u35, u36, u37, u38, u39, u40, u41, u42, u43, u44, u45, u46, u47, u48, u49, u50, u51, u52, u53, u54, u55, u56, undef, undef, undef, undef, undef, undef, undef, undef, undef, undef, undef, undef, undef, undef, undef, undef, undef, undef, undef, undef, undef, undef, undef, undef, undef, undef, undef, undef, undef, undef, undef, undef, undef, undef, undef, undef, undef, undef, undef, undef, undef, undef, undef, undef, undef, undef, undef], []⟩ (w2.setCell ⟨p9, 0, none⟩ (.slice (some ⟨b, 0, none⟩) (ks.length + 2) cap))) :
    (headC (dropSeq 10 oneC)).wp Try.prog (Exit.then K Q) ⟨#[u0, u1, .pointer (some ⟨g, 0, none⟩), .pointer (some ⟨g', 0, none⟩), .bool false, .pointer (some ⟨p5, 0, none⟩), .pointer (some ⟨p6, 0, none⟩), .pointer (some ⟨p7, 0, none⟩), .pointer (some ⟨p8, 0, none⟩), .pointer (some ⟨p9, 0, none⟩), undef, u11, u12, u13, u14, u15, u16, u17, u18, u19, u20, u21, u22, u23, u24, u25, u26, u27, u28, u29, u30, u31, u32, u33, u34, u35, u36, u37, u38, u39, u40, u41, u42, u43, u44, u45, u46, u47, undef, undef, undef, undef, undef, undef, undef, undef, undef, undef, undef, undef, undef, undef, undef, undef, undef, undef, undef, undef, undef, undef, undef, undef, undef, undef, undef, undef, undef, undef, undef, undef, undef, undef, undef, undef, undef, undef, undef, undef, undef, undef, undef, undef, undef, undef, undef, undef, undef, undef, undef, undef, undef, undef, undef, undef], []⟩ w := by
  have HK := Aside0.mk hK
  clear hK
  rw [he] at hk
  have hba : Below w.heap.size w (w.alloc (.cells #[] 44)) := (Below.refl _ _).alloc (Nat.le_refl _) _
  have z0 := (XH.below hg hba).c0
  rw [he] at z0
  have HBA := Aside0.mk hba
  have HA := Aside0.mk (hk.below hba)
  have HKK := Aside0.mk hk
  have hlen := ks_len hk
  have HP := Aside0.mk hp
  have HO := Aside0.mk (own_nil w 44)
  have HF := Aside0.mk hf
  have HLEN := Aside0.mk hlen
  clear hba hk hp hlen hf hg
  obtain ⟨ik, zk, hik, hzk, hsk, hbk, hzs⟩ := kv_info
  have HI := Aside0.mk hik
  have HZ := Aside0.mk hzk
  have HS := Aside0.mk hsk
  have HBY := Aside0.mk hbk
  have HZS := Aside0.mk hzs
  clear hik hzk hsk hbk hzs
  refine wp_reg rfl ?_
  go_wp2_with (first
    | (refine wpList_append_own _ rfl (.tmp 48) (.tmp 50) 22 rfl w.heap.size 44 ik zk 11 160 Try.underlying22 HI.out HZ.out HS.out HBY.out HZS.out (by decide) (.slice (some ⟨w.heap.size, 0, none⟩) 0 0) 0 [] rfl HO.out ad m c (ks.flatMap kvC) rfl ?cL (ks_news HA.out) (flat_one ks) ?c63 ?cBy (by simp) ?_; (case cL => rw [flat_len]; have := HLEN.out; simp only at this; rw [this]); (case c63 => have := HLEN.out; have := HF.out; simp only [maxLen] at *; omega); (case cBy => have := HLEN.out; have := HF.out; simp only at *; omega); rintro v1 w1 ho1 hg1 -; have HB1 := Aside0.mk (Below.grown HBA.out hg1 (by simp) (fun k e => by injection e with e; rw [← e]; exact Nat.le_refl _)); have HO1 := Aside0.mk ho1; clear ho1 hg1 z0)
    | (refine wpList_append_own _ rfl (.tmp 51) (.tmp 54) 22 rfl w.heap.size 44 ik zk 11 160 Try.underlying22 HI.out HZ.out HS.out HBY.out HZS.out (by decide) v1 (0 + m) ([] ++ ks.flatMap kvC) rfl (HO1.out.alloc (.cells qC 44)) ⟨w1.heap.size, 0, none⟩ 2 2 ([qK, qK].flatMap kvC) rfl rfl (lit_news w1 44) (flat_one _) ?c63 ?cBy ?cB ?_; (case c63 => have := HLEN.out; have := HF.out; simp only [maxLen] at *; omega); (case cBy => have := HLEN.out; have := HF.out; simp only at *; omega); (case cB => have := HB1.out.size; simp; omega); rintro v2 w2 ho2 hg2 -; obtain ⟨b, cap, rfl, hb1, hb2, hb3⟩ := own_some ho2 (by omega); have HB2 := Aside0.mk (Below.grown (HB1.out.alloc HB1.out.size (.cells qC 44)) hg2 (by have := HB1.out.size; simp; omega) (fun k e => own_lo (HO1.out.alloc (.cells qC 44)) k e)); have HO2 := Aside0.mk ho2; have y0 := (HP.out.below HB2.out).c0; have yf := blk_fz (HP.out.below HB2.out).blk 0; clear ho2 hg2)
    | fail)
  obtain rfl : m = ks.length := HLEN.out
  have h := HO2.out
  rw [List.nil_append, ← List.flatMap_append, Nat.zero_add] at h
  have hf := HF.out
  rw [Nat.zero_add] at hb2
  exact HK.out _ _ _ _ _ _ _ _ _ b cap w2 HB2.out hb1 (own_at h (by simp) hb2 hb3 (by omega))
set_option maxHeartbeats 1000000 in
set_option maxRecDepth 100000 in
theorem reg12n {w : World} {K : Act → World → Prop} {Q : Exit → Act → World → Prop} {g g' p5 p6 p7 p8 p9 : Nat} {u0 u1 u11 u12 u13 u14 u15 u16 u17 u18 u19 u20 u21 u22 u23 u24 u25 u26 u27 u28 u29 u30 u31 u32 u33 u34 u35 u36 u37 u38 u39 u40 u41 u42 u43 u44 u45 u46 u47 : Value} {x x9 : Hst} {ks : List Kv} (hg : XH w g x) (he : x.attrs = ⟨none, 0, 0⟩) (hk : KsAt w x.attrs ks) (hf : ks.length ≤ 600) (hp : XH w p9 x9)
    (hK : ∀ (u48 u49 u50 u51 u52 u53 u54 u55 u56 : Value) (b cap : Nat) (w2 : World), Below w.heap.size w w2 → w.heap.size ≤ b → KsAt w2 ⟨some ⟨b, 0, none⟩, ks.length + 2, cap⟩ (ks ++ [qK, qK]) → K ⟨#[u0, u1, .pointer (some ⟨g, 0, none⟩), .pointer (some ⟨g', 0, none⟩), .bool false, .pointer (some ⟨p5, 0, none⟩), .pointer (some ⟨p6, 0, none⟩), .pointer (some ⟨p7, 0, none⟩), .pointer (some ⟨p8, 0, none⟩), .pointer (some ⟨p9, 0, none⟩), undef, u11, u12, u13, u14, u15, u16, u17, u18, u19, u20, u21, u22, u23, u24, u25, u26, u27, u28, u29, u30, u31, u32, u33, u34, u35, u36, u37, u38, u39, u40, u41, u42, u43, u44, u45, u46, u47, u48, u49, u50, u51, u52, u53, u54, u55, u56, undef, undef, undef, undef, undef, undef, undef, undef, undef, undef, undef, undef, undef, undef, undef, undef, undef, undef, undef, undef, undef, undef, undef, undef, undef, undef, undef, undef, undef, undef, undef, undef, undef, undef, undef, undef, undef, undef, undef, undef, undef, undef, undef, undef, undef, undef, undef], []⟩ (w2.setCell ⟨p9, 0, none⟩ (.slice (some ⟨b, 0, none⟩) (ks.length + 2) cap))) :
    (headC (dropSeq 10 oneC)).wp Try.prog (Exit.then K Q) ⟨#[u0, u1, .pointer (some ⟨g, 0, none⟩), .pointer (some ⟨g', 0, none⟩), .bool false, .pointer (some ⟨p5, 0, none⟩), .pointer (some ⟨p6, 0, none⟩), .pointer (some ⟨p7, 0, none⟩), .pointer (some ⟨p8, 0, none⟩), .pointer (some ⟨p9, 0, none⟩), undef, u11, u12, u13, u14, u15, u16, u17, u18, u19, u20, u21, u22, u23, u24, u25, u26, u27, u28, u29, u30, u31, u32, u33, u34, u35, u36, u37, u38, u39, u40, u41, u42, u43, u44, u45, u46, u47, undef, undef, undef, undef, undef, undef, undef, undef, undef, undef, undef, undef, undef, undef, undef, undef, undef, undef, undef, undef, undef, undef, undef, undef, undef, undef, undef, undef, undef, undef, undef, undef, undef, undef, undef, undef, undef, undef, undef, undef, undef, undef, undef, undef, undef, undef, undef, undef, undef, undef, undef, undef, undef, undef, undef, undef], []⟩ w := by
  have HK := Aside0.mk hK
  clear hK
  rw [he] at hk
  have hba : Below w.heap.size w (w.alloc (.cells #[] 44)) := (Below.refl _ _).alloc (Nat.le_refl _) _
  have z0 := (XH.below hg hba).c0
  rw [he] at z0
  have HBA := Aside0.mk hba
  have HA := Aside0.mk (hk.below hba)
  have HKK := Aside0.mk hk
  have hlen := ks_len hk
  have HP := Aside0.mk hp
  have HO := Aside0.mk (own_nil w 44)
  have HF := Aside0.mk hf
  have HLEN := Aside0.mk hlen
  clear hba hk hp hlen hf hg
  obtain rfl : ks = [] := List.eq_nil_of_length_eq_zero HLEN.out.symm
  obtain ⟨ik, zk, hik, hzk, hsk, hbk, hzs⟩ := kv_info
  have HI := Aside0.mk hik
  have HZ := Aside0.mk hzk
  have HS := Aside0.mk hsk
  have HBY := Aside0.mk hbk
  have HZS := Aside0.mk hzs
  clear hik hzk hsk hbk hzs
  refine wp_reg rfl ?_
  go_wp2_with (first
    | (refine wpList_append_own_none rfl (.tmp 48) (.tmp 50) 22 rfl w.heap.size 44 ik 11 Try.underlying22 HI.out (.slice (some ⟨w.heap.size, 0, none⟩) 0 0) 0 [] rfl HO.out rfl ?_; have HB1 := HBA; have HO1 := HO; generalize hv1 : Value.slice (some ⟨w.heap.size, 0, none⟩) 0 0 = v1 at HO1 ⊢; clear hv1; generalize hw1 : w.alloc (.cells #[] 44) = w1 at HB1 HO1 ⊢; clear hw1 z0)
    | (refine wpList_append_own _ rfl (.tmp 51) (.tmp 54) 22 rfl w.heap.size 44 ik zk 11 160 Try.underlying22 HI.out HZ.out HS.out HBY.out HZS.out (by decide) v1 0 [] rfl (HO1.out.alloc (.cells qC 44)) ⟨w1.heap.size, 0, none⟩ 2 2 ([qK, qK].flatMap kvC) rfl rfl (lit_news w1 44) (flat_one _) ?c63 ?cBy ?cB ?_; (case c63 => have := HLEN.out; have := HF.out; simp only [maxLen] at *; omega); (case cBy => have := HLEN.out; have := HF.out; simp only at *; omega); (case cB => have := HB1.out.size; simp; omega); rintro v2 w2 ho2 hg2 -; obtain ⟨b, cap, rfl, hb1, hb2, hb3⟩ := own_some ho2 (by omega); have HB2 := Aside0.mk (Below.grown (HB1.out.alloc HB1.out.size (.cells qC 44)) hg2 (by have := HB1.out.size; simp; omega) (fun k e => own_lo (HO1.out.alloc (.cells qC 44)) k e)); have HO2 := Aside0.mk ho2; have y0 := (HP.out.below HB2.out).c0; have yf := blk_fz (HP.out.below HB2.out).blk 0; clear ho2 hg2)
    | fail)
  have h := HO2.out
  rw [List.nil_append, Nat.zero_add] at h
  rw [Nat.zero_add] at hb2
  exact HK.out _ _ _ _ _ _ _ _ _ b cap w2 HB2.out hb1 (own_at h rfl hb2 hb3 (by decide))
end Go.Proofs.Ytdogokcoobpgdaa
namespace Go.Proofs.Ytdogokcoobpgdaa
open Go.RowKit Go.Proofs.YtdogokcoobpgdaaW.PrintWords Go.Proofs.YtdogokcoobpgdaaW.PrintLast Go.Proofs.YtdogokcoobpgdaaW.PrintMore

theorem wpList_load_rowG {P : Program} {ops : Array Oper} {rest : List Oper} {o : Oper} {a : Act} {w : World} {Q : Exit → Act → World → Prop} (hw : Region.wanted o (yielded ops a.tmps) = true) (ty : TypeId) (x : Operand) (ho : o.op = .load ty x)
    (g : Nat) (hx : a.eval x = .pointer (some ⟨g, 0, none⟩)) (t : TypeId) (cs : Array Value) (fr : Nat × Nat) (d : TypeDesc) (hg : w.heap[g]? = some (.cells cs t fr))
    (hu : P.underlying ty = some d) (hd : (match d with | .struct _ | .array _ _ => true | _ => false) = true) (hi : (P.info? ty).map (·.size) = some cs.size)
    (h : wpList P ops Q rest (a.put o.dst (.agg cs)) w) : wpList P ops Q (o :: rest) a w := by
  unfold wpList
  rw [if_pos hw]
  exact .inl (wp_load_row ty x ho g hx t cs fr d hg hu hd hi h)
/-- A function told an answer in every later world. -/
def Ans (w : World) (f : Nat) (v : Value) (r : Int) : Prop := ∀ W, Below w.heap.size w W → Calls Try.prog f #[v] W fun e W' => e = .returned (.int .i64 r) ∧ Below W.heap.size W W'
theorem Ans.at_ {w : World} {f : Nat} {v : Value} {r : Int} (h : Ans w f v r) (W : World) (hb : Below w.heap.size w W) : Calls Try.prog f #[v] W fun e W' => e = .returned (.int .i64 r) ∧ Below W.heap.size W W' := h W hb
set_option maxHeartbeats 4000000 in
set_option maxRecDepth 100000 in
theorem reg15_00 {w : World} {K : Act → World → Prop} {Q : Exit → Act → World → Prop} {g g' p10 p5 p6 p7 p8 p9 : Nat} {u0 u1 u11 u12 u13 u14 u15 u16 u17 u18 u19 u20 u21 u22 u23 u24 u25 u26 u27 u28 u29 u30 u31 u32 u33 u34 u35 u36 u37 u38 u39 u40 u41 u42 u43 u44 u45 u46 u47 u48 u49 u50 u51 u52 u53 u54 u55 u56 u57 u58 u59 u60 u61 : Value} {x x5 x6 x9 x10 : Hst} {y7 y8 : Exq} (hg : XH w g x) (h5 : XH w p5 x5) (h6 : XH w p6 x6) (h7 : XQ w p7 y7) (h8 : XQ w p8 y8) (h9 : XH w p9 x9) (h10 : XH w p10 x10)
    (c5 : Ans w 8 (.agg (hstC x5).toArray) 4) (e6 : ¬ x6.start = 0) (c6 : Ans w 8 (.agg (hstC x6).toArray) 5) (c7 : Ans w 9 (.agg (exqC y7).toArray) 8) (c8 : Ans w 9 (.agg (exqC y8).toArray) 10) (c9 : Ans w 8 (.agg (hstC x9).toArray) 6) (ec : ¬ x.counts.len = 0) (c10 : Ans w 8 (.agg (hstC x10).toArray) 8)
    (hK : ∀ (u62 u63 u64 u65 u66 u67 u68 u69 u70 u71 u72 u73 u74 u75 u76 u77 u78 u79 u80 u81 u82 u83 u84 u85 u86 u87 u88 u89 u90 u91 u92 u93 u94 u95 u96 u97 u98 u99 u100 u101 u102 u103 : Value) (W : World), Below w.heap.size w W → K ⟨#[u0, u1, .pointer (some ⟨g, 0, none⟩), .pointer (some ⟨g', 0, none⟩), .bool true, .pointer (some ⟨p5, 0, none⟩), .pointer (some ⟨p6, 0, none⟩), .pointer (some ⟨p7, 0, none⟩), .pointer (some ⟨p8, 0, none⟩), .pointer (some ⟨p9, 0, none⟩), .pointer (some ⟨p10, 0, none⟩), u11, u12, u13, u14, u15, u16, u17, u18, u19, u20, u21, u22, u23, u24, u25, u26, u27, u28, u29, u30, u31, u32, u33, u34, u35, u36, u37, u38, u39, u40, u41, u42, u43, u44, u45, u46, u47, u48, u49, u50, u51, u52, u53, u54, u55, u56, u57, u58, u59, u60, u61, u62, u63, u64, u65, u66, u67, u68, u69, u70, u71, u72, u73, u74, u75, u76, u77, u78, u79, u80, u81, u82, u83, u84, u85, u86, u87, u88, u89, u90, u91, u92, u93, u94, u95, u96, u97, u98, u99, u100, u101, u102, u103], []⟩ W) :
    (headC (dropSeq 13 oneC)).wp Try.prog (Exit.then K Q) ⟨#[u0, u1, .pointer (some ⟨g, 0, none⟩), .pointer (some ⟨g', 0, none⟩), .bool false, .pointer (some ⟨p5, 0, none⟩), .pointer (some ⟨p6, 0, none⟩), .pointer (some ⟨p7, 0, none⟩), .pointer (some ⟨p8, 0, none⟩), .pointer (some ⟨p9, 0, none⟩), .pointer (some ⟨p10, 0, none⟩), u11, u12, u13, u14, u15, u16, u17, u18, u19, u20, u21, u22, u23, u24, u25, u26, u27, u28, u29, u30, u31, u32, u33, u34, u35, u36, u37, u38, u39, u40, u41, u42, u43, u44, u45, u46, u47, u48, u49, u50, u51, u52, u53, u54, u55, u56, u57, u58, u59, u60, u61, undef, undef, undef, undef, undef, undef, undef, undef, undef, undef, undef, undef, undef, undef, undef, undef, undef, undef, undef, undef, undef, undef, undef, undef, undef, undef, undef, undef, undef, undef, undef, undef, undef, undef, undef, undef, undef, undef, undef, undef, undef, undef], []⟩ w := by
  have HK := Aside0.mk hK
  have HF := Aside0.mk first_any
  have HB := Aside0.mk (Below.refl w.heap.size w)
  have Hg := Aside0.mk hg
  have H5 := Aside0.mk h5
  have H6 := Aside0.mk h6
  have H7 := Aside0.mk h7
  have H8 := Aside0.mk h8
  have H9 := Aside0.mk h9
  have H10 := Aside0.mk h10
  have C5 := Aside0.mk c5
  have C7 := Aside0.mk c7
  have C8 := Aside0.mk c8
  have C9 := Aside0.mk c9
  have C6 := Aside0.mk c6
  have C10 := Aside0.mk c10
  have E6 := Aside0.mk e6
  have EC := Aside0.mk ec
  have f6 : (x6.start == 0) = false := by simpa using e6
  have g6 : decide (x6.start = 0) = false := decide_eq_false e6
  have f7 : ((x.counts.len : Int) == 0) = false := by simpa using ec
  have g7 : decide ((x.counts.len : Int) = 0) = false := decide_eq_false (by omega)
  clear hK hg h5 h6 h7 h8 h9 h10 c5 c7 c8 c9 c6 c10 e6 ec
  have y1 := (XH.below H6.out HB.out).c1
  have y2 := (XH.below Hg.out HB.out).c10
  refine wp_reg rfl ?_
  go_wp2_with (first
    | (go_at_call 5; with_reducible refine (HF.out _).mono ?_; rintro e W ⟨rfl, hb⟩; clear y1 y2; have n0_ := Aside0.mk (below_next HB.out hb); clear HB hb; have HB := n0_; clear n0_; have y1 := (XH.below H6.out HB.out).c1; have y2 := (XH.below Hg.out HB.out).c10)
    | (go_at_call 8; with_reducible refine (C5.out.at_ _ HB.out).mono ?_; rintro e W ⟨rfl, hb⟩; clear y1 y2; have n0_ := Aside0.mk (below_next HB.out hb); clear HB hb; have HB := n0_; clear n0_; have y1 := (XH.below H6.out HB.out).c1; have y2 := (XH.below Hg.out HB.out).c10)
    | (go_at_call 9; with_reducible refine (C7.out.at_ _ HB.out).mono ?_; rintro e W ⟨rfl, hb⟩; clear y1 y2; have n0_ := Aside0.mk (below_next HB.out hb); clear HB hb; have HB := n0_; clear n0_; have y1 := (XH.below H6.out HB.out).c1; have y2 := (XH.below Hg.out HB.out).c10)
    | (go_at_call 9; with_reducible refine (C8.out.at_ _ HB.out).mono ?_; rintro e W ⟨rfl, hb⟩; clear y1 y2; have n0_ := Aside0.mk (below_next HB.out hb); clear HB hb; have HB := n0_; clear n0_; have y1 := (XH.below H6.out HB.out).c1; have y2 := (XH.below Hg.out HB.out).c10)
    | (go_at_call 8; with_reducible refine (C9.out.at_ _ HB.out).mono ?_; rintro e W ⟨rfl, hb⟩; clear y1 y2; have n0_ := Aside0.mk (below_next HB.out hb); clear HB hb; have HB := n0_; clear n0_; have y1 := (XH.below H6.out HB.out).c1; have y2 := (XH.below Hg.out HB.out).c10)
    | (go_at_call 8; with_reducible refine (C6.out.at_ _ HB.out).mono ?_; rintro e W ⟨rfl, hb⟩; clear y1 y2; have n0_ := Aside0.mk (below_next HB.out hb); clear HB hb; have HB := n0_; clear n0_; have y1 := (XH.below H6.out HB.out).c1; have y2 := (XH.below Hg.out HB.out).c10)
    | (go_at_call 8; with_reducible refine (C10.out.at_ _ HB.out).mono ?_; rintro e W ⟨rfl, hb⟩; clear y1 y2; have n0_ := Aside0.mk (below_next HB.out hb); clear HB hb; have HB := n0_; clear n0_; have y1 := (XH.below H6.out HB.out).c1; have y2 := (XH.below Hg.out HB.out).c10)
    | (refine wpList_load_rowG (by rfl) 30 _ rfl p5 rfl 30 (hstC x5).toArray (0, 0) _ (XH.below H5.out HB.out).blk Try.underlying30 rfl (by kernel_rfl) ?_)
    | (refine wpList_load_rowG (by rfl) 30 _ rfl p6 rfl 30 (hstC x6).toArray (0, 0) _ (XH.below H6.out HB.out).blk Try.underlying30 rfl (by kernel_rfl) ?_)
    | (refine wpList_load_rowG (by rfl) 34 _ rfl p7 rfl 34 (exqC y7).toArray (0, 0) _ (XQ.below H7.out HB.out).blk Try.underlying34 rfl (by kernel_rfl) ?_)
    | (refine wpList_load_rowG (by rfl) 34 _ rfl p8 rfl 34 (exqC y8).toArray (0, 0) _ (XQ.below H8.out HB.out).blk Try.underlying34 rfl (by kernel_rfl) ?_)
    | (refine wpList_load_rowG (by rfl) 30 _ rfl p9 rfl 30 (hstC x9).toArray (0, 0) _ (XH.below H9.out HB.out).blk Try.underlying30 rfl (by kernel_rfl) ?_)
    | (refine wpList_load_rowG (by rfl) 30 _ rfl p10 rfl 30 (hstC x10).toArray (0, 0) _ (XH.below H10.out HB.out).blk Try.underlying30 rfl (by kernel_rfl) ?_)
    | fail)
  exact HK.out _ _ _ _ _ _ _ _ _ _ _ _ _ _ _ _ _ _ _ _ _ _ _ _ _ _ _ _ _ _ _ _ _ _ _ _ _ _ _ _ _ _ _ HB.out
set_option maxHeartbeats 4000000 in
set_option maxRecDepth 100000 in
theorem reg15_01 {w : World} {K : Act → World → Prop} {Q : Exit → Act → World → Prop} {g g' p10 p5 p6 p7 p8 p9 : Nat} {u0 u1 u11 u12 u13 u14 u15 u16 u17 u18 u19 u20 u21 u22 u23 u24 u25 u26 u27 u28 u29 u30 u31 u32 u33 u34 u35 u36 u37 u38 u39 u40 u41 u42 u43 u44 u45 u46 u47 u48 u49 u50 u51 u52 u53 u54 u55 u56 u57 u58 u59 u60 u61 : Value} {x x5 x6 x9 x10 : Hst} {y7 y8 : Exq} (hg : XH w g x) (h5 : XH w p5 x5) (h6 : XH w p6 x6) (h7 : XQ w p7 y7) (h8 : XQ w p8 y8) (h9 : XH w p9 x9) (h10 : XH w p10 x10)
    (c5 : Ans w 8 (.agg (hstC x5).toArray) 4) (e6 : ¬ x6.start = 0) (c6 : Ans w 8 (.agg (hstC x6).toArray) 5) (c7 : Ans w 9 (.agg (exqC y7).toArray) 8) (c8 : Ans w 9 (.agg (exqC y8).toArray) 10) (c9 : Ans w 8 (.agg (hstC x9).toArray) 6) (ec : x.counts.len = 0)
    (hK : ∀ (u62 u63 u64 u65 u66 u67 u68 u69 u70 u71 u72 u73 u74 u75 u76 u77 u78 u79 u80 u81 u82 u83 u84 u85 u86 u87 u88 u89 u90 u91 u92 u93 u94 u95 u96 u97 u98 u99 u100 u101 u102 u103 : Value) (W : World), Below w.heap.size w W → K ⟨#[u0, u1, .pointer (some ⟨g, 0, none⟩), .pointer (some ⟨g', 0, none⟩), .bool true, .pointer (some ⟨p5, 0, none⟩), .pointer (some ⟨p6, 0, none⟩), .pointer (some ⟨p7, 0, none⟩), .pointer (some ⟨p8, 0, none⟩), .pointer (some ⟨p9, 0, none⟩), .pointer (some ⟨p10, 0, none⟩), u11, u12, u13, u14, u15, u16, u17, u18, u19, u20, u21, u22, u23, u24, u25, u26, u27, u28, u29, u30, u31, u32, u33, u34, u35, u36, u37, u38, u39, u40, u41, u42, u43, u44, u45, u46, u47, u48, u49, u50, u51, u52, u53, u54, u55, u56, u57, u58, u59, u60, u61, u62, u63, u64, u65, u66, u67, u68, u69, u70, u71, u72, u73, u74, u75, u76, u77, u78, u79, u80, u81, u82, u83, u84, u85, u86, u87, u88, u89, u90, u91, u92, u93, u94, u95, u96, u97, u98, u99, u100, u101, u102, u103], []⟩ W) :
    (headC (dropSeq 13 oneC)).wp Try.prog (Exit.then K Q) ⟨#[u0, u1, .pointer (some ⟨g, 0, none⟩), .pointer (some ⟨g', 0, none⟩), .bool false, .pointer (some ⟨p5, 0, none⟩), .pointer (some ⟨p6, 0, none⟩), .pointer (some ⟨p7, 0, none⟩), .pointer (some ⟨p8, 0, none⟩), .pointer (some ⟨p9, 0, none⟩), .pointer (some ⟨p10, 0, none⟩), u11, u12, u13, u14, u15, u16, u17, u18, u19, u20, u21, u22, u23, u24, u25, u26, u27, u28, u29, u30, u31, u32, u33, u34, u35, u36, u37, u38, u39, u40, u41, u42, u43, u44, u45, u46, u47, u48, u49, u50, u51, u52, u53, u54, u55, u56, u57, u58, u59, u60, u61, undef, undef, undef, undef, undef, undef, undef, undef, undef, undef, undef, undef, undef, undef, undef, undef, undef, undef, undef, undef, undef, undef, undef, undef, undef, undef, undef, undef, undef, undef, undef, undef, undef, undef, undef, undef, undef, undef, undef, undef, undef, undef], []⟩ w := by
  have HK := Aside0.mk hK
  have HF := Aside0.mk first_any
  have HB := Aside0.mk (Below.refl w.heap.size w)
  have Hg := Aside0.mk hg
  have H5 := Aside0.mk h5
  have H6 := Aside0.mk h6
  have H7 := Aside0.mk h7
  have H8 := Aside0.mk h8
  have H9 := Aside0.mk h9
  have H10 := Aside0.mk h10
  have C5 := Aside0.mk c5
  have C7 := Aside0.mk c7
  have C8 := Aside0.mk c8
  have C9 := Aside0.mk c9
  have C6 := Aside0.mk c6
  have E6 := Aside0.mk e6
  have EC := Aside0.mk ec
  have f6 : (x6.start == 0) = false := by simpa using e6
  have g6 : decide (x6.start = 0) = false := decide_eq_false e6
  clear hK hg h5 h6 h7 h8 h9 h10 c5 c7 c8 c9 c6 e6 ec
  have y1 := (XH.below H6.out HB.out).c1
  have y2 := (XH.below Hg.out HB.out).c10
  rw [EC.out] at y2
  refine wp_reg rfl ?_
  go_wp2_with (first
    | (go_at_call 5; with_reducible refine (HF.out _).mono ?_; rintro e W ⟨rfl, hb⟩; clear y1 y2; have n0_ := Aside0.mk (below_next HB.out hb); clear HB hb; have HB := n0_; clear n0_; have y1 := (XH.below H6.out HB.out).c1; have y2 := (XH.below Hg.out HB.out).c10; rw [EC.out] at y2)
    | (go_at_call 8; with_reducible refine (C5.out.at_ _ HB.out).mono ?_; rintro e W ⟨rfl, hb⟩; clear y1 y2; have n0_ := Aside0.mk (below_next HB.out hb); clear HB hb; have HB := n0_; clear n0_; have y1 := (XH.below H6.out HB.out).c1; have y2 := (XH.below Hg.out HB.out).c10; rw [EC.out] at y2)
    | (go_at_call 9; with_reducible refine (C7.out.at_ _ HB.out).mono ?_; rintro e W ⟨rfl, hb⟩; clear y1 y2; have n0_ := Aside0.mk (below_next HB.out hb); clear HB hb; have HB := n0_; clear n0_; have y1 := (XH.below H6.out HB.out).c1; have y2 := (XH.below Hg.out HB.out).c10; rw [EC.out] at y2)
    | (go_at_call 9; with_reducible refine (C8.out.at_ _ HB.out).mono ?_; rintro e W ⟨rfl, hb⟩; clear y1 y2; have n0_ := Aside0.mk (below_next HB.out hb); clear HB hb; have HB := n0_; clear n0_; have y1 := (XH.below H6.out HB.out).c1; have y2 := (XH.below Hg.out HB.out).c10; rw [EC.out] at y2)
    | (go_at_call 8; with_reducible refine (C9.out.at_ _ HB.out).mono ?_; rintro e W ⟨rfl, hb⟩; clear y1 y2; have n0_ := Aside0.mk (below_next HB.out hb); clear HB hb; have HB := n0_; clear n0_; have y1 := (XH.below H6.out HB.out).c1; have y2 := (XH.below Hg.out HB.out).c10; rw [EC.out] at y2)
    | (go_at_call 8; with_reducible refine (C6.out.at_ _ HB.out).mono ?_; rintro e W ⟨rfl, hb⟩; clear y1 y2; have n0_ := Aside0.mk (below_next HB.out hb); clear HB hb; have HB := n0_; clear n0_; have y1 := (XH.below H6.out HB.out).c1; have y2 := (XH.below Hg.out HB.out).c10; rw [EC.out] at y2)
    | (refine wpList_load_rowG (by rfl) 30 _ rfl p5 rfl 30 (hstC x5).toArray (0, 0) _ (XH.below H5.out HB.out).blk Try.underlying30 rfl (by kernel_rfl) ?_)
    | (refine wpList_load_rowG (by rfl) 30 _ rfl p6 rfl 30 (hstC x6).toArray (0, 0) _ (XH.below H6.out HB.out).blk Try.underlying30 rfl (by kernel_rfl) ?_)
    | (refine wpList_load_rowG (by rfl) 34 _ rfl p7 rfl 34 (exqC y7).toArray (0, 0) _ (XQ.below H7.out HB.out).blk Try.underlying34 rfl (by kernel_rfl) ?_)
    | (refine wpList_load_rowG (by rfl) 34 _ rfl p8 rfl 34 (exqC y8).toArray (0, 0) _ (XQ.below H8.out HB.out).blk Try.underlying34 rfl (by kernel_rfl) ?_)
    | (refine wpList_load_rowG (by rfl) 30 _ rfl p9 rfl 30 (hstC x9).toArray (0, 0) _ (XH.below H9.out HB.out).blk Try.underlying30 rfl (by kernel_rfl) ?_)
    | (refine wpList_load_rowG (by rfl) 30 _ rfl p10 rfl 30 (hstC x10).toArray (0, 0) _ (XH.below H10.out HB.out).blk Try.underlying30 rfl (by kernel_rfl) ?_)
    | fail)
  exact HK.out _ _ _ _ _ _ _ _ _ _ _ _ _ _ _ _ _ _ _ _ _ _ _ _ _ _ _ _ _ _ _ _ _ _ _ _ _ _ _ _ _ _ _ HB.out
set_option maxHeartbeats 4000000 in
set_option maxRecDepth 100000 in
theorem reg15_10 {w : World} {K : Act → World → Prop} {Q : Exit → Act → World → Prop} {g g' p10 p5 p6 p7 p8 p9 : Nat} {u0 u1 u11 u12 u13 u14 u15 u16 u17 u18 u19 u20 u21 u22 u23 u24 u25 u26 u27 u28 u29 u30 u31 u32 u33 u34 u35 u36 u37 u38 u39 u40 u41 u42 u43 u44 u45 u46 u47 u48 u49 u50 u51 u52 u53 u54 u55 u56 u57 u58 u59 u60 u61 : Value} {x x5 x6 x9 x10 : Hst} {y7 y8 : Exq} (hg : XH w g x) (h5 : XH w p5 x5) (h6 : XH w p6 x6) (h7 : XQ w p7 y7) (h8 : XQ w p8 y8) (h9 : XH w p9 x9) (h10 : XH w p10 x10)
    (c5 : Ans w 8 (.agg (hstC x5).toArray) 4) (e6 : x6.start = 0) (c7 : Ans w 9 (.agg (exqC y7).toArray) 8) (c8 : Ans w 9 (.agg (exqC y8).toArray) 10) (c9 : Ans w 8 (.agg (hstC x9).toArray) 6) (ec : ¬ x.counts.len = 0) (c10 : Ans w 8 (.agg (hstC x10).toArray) 8)
    (hK : ∀ (u62 u63 u64 u65 u66 u67 u68 u69 u70 u71 u72 u73 u74 u75 u76 u77 u78 u79 u80 u81 u82 u83 u84 u85 u86 u87 u88 u89 u90 u91 u92 u93 u94 u95 u96 u97 u98 u99 u100 u101 u102 u103 : Value) (W : World), Below w.heap.size w W → K ⟨#[u0, u1, .pointer (some ⟨g, 0, none⟩), .pointer (some ⟨g', 0, none⟩), .bool true, .pointer (some ⟨p5, 0, none⟩), .pointer (some ⟨p6, 0, none⟩), .pointer (some ⟨p7, 0, none⟩), .pointer (some ⟨p8, 0, none⟩), .pointer (some ⟨p9, 0, none⟩), .pointer (some ⟨p10, 0, none⟩), u11, u12, u13, u14, u15, u16, u17, u18, u19, u20, u21, u22, u23, u24, u25, u26, u27, u28, u29, u30, u31, u32, u33, u34, u35, u36, u37, u38, u39, u40, u41, u42, u43, u44, u45, u46, u47, u48, u49, u50, u51, u52, u53, u54, u55, u56, u57, u58, u59, u60, u61, u62, u63, u64, u65, u66, u67, u68, u69, u70, u71, u72, u73, u74, u75, u76, u77, u78, u79, u80, u81, u82, u83, u84, u85, u86, u87, u88, u89, u90, u91, u92, u93, u94, u95, u96, u97, u98, u99, u100, u101, u102, u103], []⟩ W) :
    (headC (dropSeq 13 oneC)).wp Try.prog (Exit.then K Q) ⟨#[u0, u1, .pointer (some ⟨g, 0, none⟩), .pointer (some ⟨g', 0, none⟩), .bool false, .pointer (some ⟨p5, 0, none⟩), .pointer (some ⟨p6, 0, none⟩), .pointer (some ⟨p7, 0, none⟩), .pointer (some ⟨p8, 0, none⟩), .pointer (some ⟨p9, 0, none⟩), .pointer (some ⟨p10, 0, none⟩), u11, u12, u13, u14, u15, u16, u17, u18, u19, u20, u21, u22, u23, u24, u25, u26, u27, u28, u29, u30, u31, u32, u33, u34, u35, u36, u37, u38, u39, u40, u41, u42, u43, u44, u45, u46, u47, u48, u49, u50, u51, u52, u53, u54, u55, u56, u57, u58, u59, u60, u61, undef, undef, undef, undef, undef, undef, undef, undef, undef, undef, undef, undef, undef, undef, undef, undef, undef, undef, undef, undef, undef, undef, undef, undef, undef, undef, undef, undef, undef, undef, undef, undef, undef, undef, undef, undef, undef, undef, undef, undef, undef, undef], []⟩ w := by
  have HK := Aside0.mk hK
  have HF := Aside0.mk first_any
  have HB := Aside0.mk (Below.refl w.heap.size w)
  have Hg := Aside0.mk hg
  have H5 := Aside0.mk h5
  have H6 := Aside0.mk h6
  have H7 := Aside0.mk h7
  have H8 := Aside0.mk h8
  have H9 := Aside0.mk h9
  have H10 := Aside0.mk h10
  have C5 := Aside0.mk c5
  have C7 := Aside0.mk c7
  have C8 := Aside0.mk c8
  have C9 := Aside0.mk c9
  have C10 := Aside0.mk c10
  have E6 := Aside0.mk e6
  have EC := Aside0.mk ec
  have f7 : ((x.counts.len : Int) == 0) = false := by simpa using ec
  have g7 : decide ((x.counts.len : Int) = 0) = false := decide_eq_false (by omega)
  clear hK hg h5 h6 h7 h8 h9 h10 c5 c7 c8 c9 c10 e6 ec
  have y1 := (XH.below H6.out HB.out).c1
  have y2 := (XH.below Hg.out HB.out).c10
  rw [E6.out] at y1
  refine wp_reg rfl ?_
  go_wp2_with (first
    | (go_at_call 5; with_reducible refine (HF.out _).mono ?_; rintro e W ⟨rfl, hb⟩; clear y1 y2; have n0_ := Aside0.mk (below_next HB.out hb); clear HB hb; have HB := n0_; clear n0_; have y1 := (XH.below H6.out HB.out).c1; have y2 := (XH.below Hg.out HB.out).c10; rw [E6.out] at y1)
    | (go_at_call 8; with_reducible refine (C5.out.at_ _ HB.out).mono ?_; rintro e W ⟨rfl, hb⟩; clear y1 y2; have n0_ := Aside0.mk (below_next HB.out hb); clear HB hb; have HB := n0_; clear n0_; have y1 := (XH.below H6.out HB.out).c1; have y2 := (XH.below Hg.out HB.out).c10; rw [E6.out] at y1)
    | (go_at_call 9; with_reducible refine (C7.out.at_ _ HB.out).mono ?_; rintro e W ⟨rfl, hb⟩; clear y1 y2; have n0_ := Aside0.mk (below_next HB.out hb); clear HB hb; have HB := n0_; clear n0_; have y1 := (XH.below H6.out HB.out).c1; have y2 := (XH.below Hg.out HB.out).c10; rw [E6.out] at y1)
    | (go_at_call 9; with_reducible refine (C8.out.at_ _ HB.out).mono ?_; rintro e W ⟨rfl, hb⟩; clear y1 y2; have n0_ := Aside0.mk (below_next HB.out hb); clear HB hb; have HB := n0_; clear n0_; have y1 := (XH.below H6.out HB.out).c1; have y2 := (XH.below Hg.out HB.out).c10; rw [E6.out] at y1)
    | (go_at_call 8; with_reducible refine (C9.out.at_ _ HB.out).mono ?_; rintro e W ⟨rfl, hb⟩; clear y1 y2; have n0_ := Aside0.mk (below_next HB.out hb); clear HB hb; have HB := n0_; clear n0_; have y1 := (XH.below H6.out HB.out).c1; have y2 := (XH.below Hg.out HB.out).c10; rw [E6.out] at y1)
    | (go_at_call 8; with_reducible refine (C10.out.at_ _ HB.out).mono ?_; rintro e W ⟨rfl, hb⟩; clear y1 y2; have n0_ := Aside0.mk (below_next HB.out hb); clear HB hb; have HB := n0_; clear n0_; have y1 := (XH.below H6.out HB.out).c1; have y2 := (XH.below Hg.out HB.out).c10; rw [E6.out] at y1)
    | (refine wpList_load_rowG (by rfl) 30 _ rfl p5 rfl 30 (hstC x5).toArray (0, 0) _ (XH.below H5.out HB.out).blk Try.underlying30 rfl (by kernel_rfl) ?_)
    | (refine wpList_load_rowG (by rfl) 30 _ rfl p6 rfl 30 (hstC x6).toArray (0, 0) _ (XH.below H6.out HB.out).blk Try.underlying30 rfl (by kernel_rfl) ?_)
    | (refine wpList_load_rowG (by rfl) 34 _ rfl p7 rfl 34 (exqC y7).toArray (0, 0) _ (XQ.below H7.out HB.out).blk Try.underlying34 rfl (by kernel_rfl) ?_)
    | (refine wpList_load_rowG (by rfl) 34 _ rfl p8 rfl 34 (exqC y8).toArray (0, 0) _ (XQ.below H8.out HB.out).blk Try.underlying34 rfl (by kernel_rfl) ?_)
    | (refine wpList_load_rowG (by rfl) 30 _ rfl p9 rfl 30 (hstC x9).toArray (0, 0) _ (XH.below H9.out HB.out).blk Try.underlying30 rfl (by kernel_rfl) ?_)
    | (refine wpList_load_rowG (by rfl) 30 _ rfl p10 rfl 30 (hstC x10).toArray (0, 0) _ (XH.below H10.out HB.out).blk Try.underlying30 rfl (by kernel_rfl) ?_)
    | fail)
  exact HK.out _ _ _ _ _ _ _ _ _ _ _ _ _ _ _ _ _ _ _ _ _ _ _ _ _ _ _ _ _ _ _ _ _ _ _ _ _ _ _ _ _ _ _ HB.out
set_option maxHeartbeats 4000000 in
set_option maxRecDepth 100000 in
theorem reg15_11 {w : World} {K : Act → World → Prop} {Q : Exit → Act → World → Prop} {g g' p10 p5 p6 p7 p8 p9 : Nat} {u0 u1 u11 u12 u13 u14 u15 u16 u17 u18 u19 u20 u21 u22 u23 u24 u25 u26 u27 u28 u29 u30 u31 u32 u33 u34 u35 u36 u37 u38 u39 u40 u41 u42 u43 u44 u45 u46 u47 u48 u49 u50 u51 u52 u53 u54 u55 u56 u57 u58 u59 u60 u61 : Value} {x x5 x6 x9 x10 : Hst} {y7 y8 : Exq} (hg : XH w g x) (h5 : XH w p5 x5) (h6 : XH w p6 x6) (h7 : XQ w p7 y7) (h8 : XQ w p8 y8) (h9 : XH w p9 x9) (h10 : XH w p10 x10)
    (c5 : Ans w 8 (.agg (hstC x5).toArray) 4) (e6 : x6.start = 0) (c7 : Ans w 9 (.agg (exqC y7).toArray) 8) (c8 : Ans w 9 (.agg (exqC y8).toArray) 10) (c9 : Ans w 8 (.agg (hstC x9).toArray) 6) (ec : x.counts.len = 0)
    (hK : ∀ (u62 u63 u64 u65 u66 u67 u68 u69 u70 u71 u72 u73 u74 u75 u76 u77 u78 u79 u80 u81 u82 u83 u84 u85 u86 u87 u88 u89 u90 u91 u92 u93 u94 u95 u96 u97 u98 u99 u100 u101 u102 u103 : Value) (W : World), Below w.heap.size w W → K ⟨#[u0, u1, .pointer (some ⟨g, 0, none⟩), .pointer (some ⟨g', 0, none⟩), .bool true, .pointer (some ⟨p5, 0, none⟩), .pointer (some ⟨p6, 0, none⟩), .pointer (some ⟨p7, 0, none⟩), .pointer (some ⟨p8, 0, none⟩), .pointer (some ⟨p9, 0, none⟩), .pointer (some ⟨p10, 0, none⟩), u11, u12, u13, u14, u15, u16, u17, u18, u19, u20, u21, u22, u23, u24, u25, u26, u27, u28, u29, u30, u31, u32, u33, u34, u35, u36, u37, u38, u39, u40, u41, u42, u43, u44, u45, u46, u47, u48, u49, u50, u51, u52, u53, u54, u55, u56, u57, u58, u59, u60, u61, u62, u63, u64, u65, u66, u67, u68, u69, u70, u71, u72, u73, u74, u75, u76, u77, u78, u79, u80, u81, u82, u83, u84, u85, u86, u87, u88, u89, u90, u91, u92, u93, u94, u95, u96, u97, u98, u99, u100, u101, u102, u103], []⟩ W) :
    (headC (dropSeq 13 oneC)).wp Try.prog (Exit.then K Q) ⟨#[u0, u1, .pointer (some ⟨g, 0, none⟩), .pointer (some ⟨g', 0, none⟩), .bool false, .pointer (some ⟨p5, 0, none⟩), .pointer (some ⟨p6, 0, none⟩), .pointer (some ⟨p7, 0, none⟩), .pointer (some ⟨p8, 0, none⟩), .pointer (some ⟨p9, 0, none⟩), .pointer (some ⟨p10, 0, none⟩), u11, u12, u13, u14, u15, u16, u17, u18, u19, u20, u21, u22, u23, u24, u25, u26, u27, u28, u29, u30, u31, u32, u33, u34, u35, u36, u37, u38, u39, u40, u41, u42, u43, u44, u45, u46, u47, u48, u49, u50, u51, u52, u53, u54, u55, u56, u57, u58, u59, u60, u61, undef, undef, undef, undef, undef, undef, undef, undef, undef, undef, undef, undef, undef, undef, undef, undef, undef, undef, undef, undef, undef, undef, undef, undef, undef, undef, undef, undef, undef, undef, undef, undef, undef, undef, undef, undef, undef, undef, undef, undef, undef, undef], []⟩ w := by
  have HK := Aside0.mk hK
  have HF := Aside0.mk first_any
  have HB := Aside0.mk (Below.refl w.heap.size w)
  have Hg := Aside0.mk hg
  have H5 := Aside0.mk h5
  have H6 := Aside0.mk h6
  have H7 := Aside0.mk h7
  have H8 := Aside0.mk h8
  have H9 := Aside0.mk h9
  have H10 := Aside0.mk h10
  have C5 := Aside0.mk c5
  have C7 := Aside0.mk c7
  have C8 := Aside0.mk c8
  have C9 := Aside0.mk c9
  have E6 := Aside0.mk e6
  have EC := Aside0.mk ec
  clear hK hg h5 h6 h7 h8 h9 h10 c5 c7 c8 c9 e6 ec
  have y1 := (XH.below H6.out HB.out).c1
  have y2 := (XH.below Hg.out HB.out).c10
  rw [E6.out] at y1
  rw [EC.out] at y2
  refine wp_reg rfl ?_
  go_wp2_with (first
    | (go_at_call 5; with_reducible refine (HF.out _).mono ?_; rintro e W ⟨rfl, hb⟩; clear y1 y2; have n0_ := Aside0.mk (below_next HB.out hb); clear HB hb; have HB := n0_; clear n0_; have y1 := (XH.below H6.out HB.out).c1; have y2 := (XH.below Hg.out HB.out).c10; rw [E6.out] at y1; rw [EC.out] at y2)
    | (go_at_call 8; with_reducible refine (C5.out.at_ _ HB.out).mono ?_; rintro e W ⟨rfl, hb⟩; clear y1 y2; have n0_ := Aside0.mk (below_next HB.out hb); clear HB hb; have HB := n0_; clear n0_; have y1 := (XH.below H6.out HB.out).c1; have y2 := (XH.below Hg.out HB.out).c10; rw [E6.out] at y1; rw [EC.out] at y2)
    | (go_at_call 9; with_reducible refine (C7.out.at_ _ HB.out).mono ?_; rintro e W ⟨rfl, hb⟩; clear y1 y2; have n0_ := Aside0.mk (below_next HB.out hb); clear HB hb; have HB := n0_; clear n0_; have y1 := (XH.below H6.out HB.out).c1; have y2 := (XH.below Hg.out HB.out).c10; rw [E6.out] at y1; rw [EC.out] at y2)
    | (go_at_call 9; with_reducible refine (C8.out.at_ _ HB.out).mono ?_; rintro e W ⟨rfl, hb⟩; clear y1 y2; have n0_ := Aside0.mk (below_next HB.out hb); clear HB hb; have HB := n0_; clear n0_; have y1 := (XH.below H6.out HB.out).c1; have y2 := (XH.below Hg.out HB.out).c10; rw [E6.out] at y1; rw [EC.out] at y2)
    | (go_at_call 8; with_reducible refine (C9.out.at_ _ HB.out).mono ?_; rintro e W ⟨rfl, hb⟩; clear y1 y2; have n0_ := Aside0.mk (below_next HB.out hb); clear HB hb; have HB := n0_; clear n0_; have y1 := (XH.below H6.out HB.out).c1; have y2 := (XH.below Hg.out HB.out).c10; rw [E6.out] at y1; rw [EC.out] at y2)
    | (refine wpList_load_rowG (by rfl) 30 _ rfl p5 rfl 30 (hstC x5).toArray (0, 0) _ (XH.below H5.out HB.out).blk Try.underlying30 rfl (by kernel_rfl) ?_)
    | (refine wpList_load_rowG (by rfl) 30 _ rfl p6 rfl 30 (hstC x6).toArray (0, 0) _ (XH.below H6.out HB.out).blk Try.underlying30 rfl (by kernel_rfl) ?_)
    | (refine wpList_load_rowG (by rfl) 34 _ rfl p7 rfl 34 (exqC y7).toArray (0, 0) _ (XQ.below H7.out HB.out).blk Try.underlying34 rfl (by kernel_rfl) ?_)
    | (refine wpList_load_rowG (by rfl) 34 _ rfl p8 rfl 34 (exqC y8).toArray (0, 0) _ (XQ.below H8.out HB.out).blk Try.underlying34 rfl (by kernel_rfl) ?_)
    | (refine wpList_load_rowG (by rfl) 30 _ rfl p9 rfl 30 (hstC x9).toArray (0, 0) _ (XH.below H9.out HB.out).blk Try.underlying30 rfl (by kernel_rfl) ?_)
    | (refine wpList_load_rowG (by rfl) 30 _ rfl p10 rfl 30 (hstC x10).toArray (0, 0) _ (XH.below H10.out HB.out).blk Try.underlying30 rfl (by kernel_rfl) ?_)
    | fail)
  exact HK.out _ _ _ _ _ _ _ _ _ _ _ _ _ _ _ _ _ _ _ _ _ _ _ _ _ _ _ _ _ _ _ _ _ _ _ _ _ _ _ _ _ _ _ HB.out
end Go.Proofs.Ytdogokcoobpgdaa
namespace Go.Proofs.Ytdogokcoobpgdaa
open Go.RowKit Go.Proofs.YtdogokcoobpgdaaW.PrintWords Go.Proofs.YtdogokcoobpgdaaW.PrintLast Go.Proofs.YtdogokcoobpgdaaW.PrintMore

theorem seq_step {P : Program} {n : Nat} {Q : Exit → Act → World → Prop} {a : Act} {w : World} {c : Code} (h : dropSeq n c = Code.seq (headC (dropSeq n c)) (dropSeq (n + 1) c))
    (hw : (headC (dropSeq n c)).wp P (Exit.then (fun a w => (dropSeq (n + 1) c).wp P Q a w) Q) a w) : (dropSeq n c).wp P Q a w := by
  rw [h]
  exact wp_seq hw
theorem w64 (n : Int) (h : 0 ≤ n ∧ n < 18446744073709551616) : IntKind.u64.wrap (n + 1) = if n = 18446744073709551615 then 0 else n + 1 := by
  have e : IntKind.u64.wrap (n + 1) = (n + 1) % 18446744073709551616 := by rfl
  rw [e]
  split <;> omega
theorem w64_ne (n : Int) (h : 0 ≤ n ∧ n < 18446744073709551616) : IntKind.u64.wrap (n + 1) ≠ n := by
  rw [w64 n h]
  split <;> omega
theorem w64_lt (n : Int) (h : 0 ≤ n ∧ n < 18446744073709551616) (h0 : IntKind.u64.wrap (n + 1) ≠ 0) : n < IntKind.u64.wrap (n + 1) := by
  rw [w64 n h] at h0 ⊢
  split
  · rename_i hc; rw [if_pos hc] at h0; exact absurd rfl h0
  · omega
theorem exp_0' {cm scale : Int} {ad bp bn up low : Bool} (h : expI cm ad scale bp bn up low = 0) : cm = 0 ∧ ad = true := exp_0 h
theorem attrs_case {W : World} {s : Sl} (h : Rd Try.prog W 22 [s.v]) : s = ⟨none, 0, 0⟩ ∨ ∃ a m c, s = ⟨some a, m, c⟩ := by
  obtain ⟨a, m, c⟩ := s
  rcases rd_slice Try.underlying22 h with h | ⟨a', len, cap, h, _⟩
  · have e := (List.cons.inj h).1
    unfold Sl.v at e
    injection e with e1 e2 e3
    simp only at e1 e2 e3
    exact .inl (by rw [e1, e2, e3])
  · have e := (List.cons.inj h).1
    unfold Sl.v at e
    injection e with e1 e2 e3
    simp only at e1 e2 e3
    exact .inr ⟨a', m, c, by rw [e1]⟩
theorem KsAt.other {w : World} {b m cap : Nat} {l : List Kv} (h : KsAt w ⟨some ⟨b, 0, none⟩, m, cap⟩ l) {q : Nat} (hn : b ≠ q) (i : Nat) (v : Value) : KsAt (w.setCell ⟨q, i, none⟩ v) ⟨some ⟨b, 0, none⟩, m, cap⟩ l :=
  ⟨⟨h.at_.1, h.at_.2.1, h.at_.2.2.1, fun hl => by
    obtain ⟨a, ha, hel⟩ := h.at_.2.2.2 hl
    refine ⟨a, ha, fun i' hi => ⟨fun j hj => ?_, trivial⟩⟩
    injection ha with ha
    subst ha
    rw [← (hel i' hi).1 j hj, add_two, add_zero_at]
    exact World.cell?_of_block (Below.heap_setCell _ _ _ _ hn)⟩, h.spot, h.few⟩
theorem ks_lt {w : World} {b m cap : Nat} {l : List Kv} (h : KsAt w ⟨some ⟨b, 0, none⟩, m, cap⟩ l) (hl : 0 < l.length) : b < w.heap.size := by
  obtain ⟨a, ha, hel⟩ := h.at_.2.2.2 hl
  injection ha with ha
  subst ha
  have h1 := (hel 0 hl).1 0 (by decide)
  have h2 := block_lt_of_cell (h1.trans (show (kvC l[0])[0]? = some (.string l[0].key) from rfl))
  rw [add_two, add_zero_at] at h2
  exact h2
theorem reg12 {w w0 : World} {K : Act → World → Prop} {Q : Exit → Act → World → Prop} {g g' p5 p6 p7 p8 p9 : Nat} {u0 u1 u11 u12 u13 u14 u15 u16 u17 u18 u19 u20 u21 u22 u23 u24 u25 u26 u27 u28 u29 u30 u31 u32 u33 u34 u35 u36 u37 u38 u39 u40 u41 u42 u43 u44 u45 u46 u47 : Value} {x x9 : Hst} {ks : List Kv} (hg : XH w g x) (hx : HstOk w0 x) (hk : KsAt w x.attrs ks) (hf : ks.length ≤ 600) (hp : XH w p9 x9)
    (hK : ∀ (u48 u49 u50 u51 u52 u53 u54 u55 u56 : Value) (b cap : Nat) (w2 : World), Below w.heap.size w w2 → w.heap.size ≤ b → KsAt w2 ⟨some ⟨b, 0, none⟩, ks.length + 2, cap⟩ (ks ++ [qK, qK]) → K ⟨#[u0, u1, .pointer (some ⟨g, 0, none⟩), .pointer (some ⟨g', 0, none⟩), .bool false, .pointer (some ⟨p5, 0, none⟩), .pointer (some ⟨p6, 0, none⟩), .pointer (some ⟨p7, 0, none⟩), .pointer (some ⟨p8, 0, none⟩), .pointer (some ⟨p9, 0, none⟩), undef, u11, u12, u13, u14, u15, u16, u17, u18, u19, u20, u21, u22, u23, u24, u25, u26, u27, u28, u29, u30, u31, u32, u33, u34, u35, u36, u37, u38, u39, u40, u41, u42, u43, u44, u45, u46, u47, u48, u49, u50, u51, u52, u53, u54, u55, u56, undef, undef, undef, undef, undef, undef, undef, undef, undef, undef, undef, undef, undef, undef, undef, undef, undef, undef, undef, undef, undef, undef, undef, undef, undef, undef, undef, undef, undef, undef, undef, undef, undef, undef, undef, undef, undef, undef, undef, undef, undef, undef, undef, undef, undef, undef, undef], []⟩ (w2.setCell ⟨p9, 0, none⟩ (.slice (some ⟨b, 0, none⟩) (ks.length + 2) cap))) :
    (headC (dropSeq 10 oneC)).wp Try.prog (Exit.then K Q) ⟨#[u0, u1, .pointer (some ⟨g, 0, none⟩), .pointer (some ⟨g', 0, none⟩), .bool false, .pointer (some ⟨p5, 0, none⟩), .pointer (some ⟨p6, 0, none⟩), .pointer (some ⟨p7, 0, none⟩), .pointer (some ⟨p8, 0, none⟩), .pointer (some ⟨p9, 0, none⟩), undef, u11, u12, u13, u14, u15, u16, u17, u18, u19, u20, u21, u22, u23, u24, u25, u26, u27, u28, u29, u30, u31, u32, u33, u34, u35, u36, u37, u38, u39, u40, u41, u42, u43, u44, u45, u46, u47, undef, undef, undef, undef, undef, undef, undef, undef, undef, undef, undef, undef, undef, undef, undef, undef, undef, undef, undef, undef, undef, undef, undef, undef, undef, undef, undef, undef, undef, undef, undef, undef, undef, undef, undef, undef, undef, undef, undef, undef, undef, undef, undef, undef, undef, undef, undef, undef, undef, undef, undef, undef, undef, undef, undef, undef], []⟩ w := by
  rcases attrs_case hx.attrs with e | ⟨a, m, c, e⟩
  · exact reg12n hg e hk hf hp hK
  · exact reg12s hg e hk hf hp hK
set_option maxHeartbeats 4000000 in
set_option maxRecDepth 100000 in
theorem one_tail {w0 w : World} {x : Hst} {y : Exq} {g g' : Nat} {ks ks2 : List Kv} {cl bl pl nl : List Int} (u11 u12 u13 u14 u15 u16 u17 u18 u19 u20 u21 u22 u23 u24 u25 u26 u27 u28 u29 u30 u31 : Value)
    (hB : Below w0.heap.size w0 w) (hg : XH w g x) (he : XQ w g' y) (lg : w0.heap.size ≤ g) (_le : w0.heap.size ≤ g') (hx : HstOk w0 x) (hy : ExqOk w0 y)
    (hks : KsAt w0 x.attrs ks) (hks2 : KsAt w0 y.attrs ks2) (hf : ks.length ≤ 600) (hcl : NsAt w0 x.counts cl) (hbl : NsAt w0 x.bounds bl) (hpl : NsAt w0 y.pos.counts pl) (hnl : NsAt w0 y.neg.counts nl)
    (hh : histI x.start x.time x.count (dupK ks) cl bl (upB x.mn.has x.mn.n x.mx.has x.mx.n) = 0) (hz : expI (commI y.start y.time (dupK ks2)) (addsB y.count [[y.zero], pl, nl]) y.scale (beyB y.pos.off pl.length) (beyB y.neg.off nl.length) (upB y.mn.has y.mn.n y.mx.has y.mx.n) (lowB y.thr) = 0) :
    (dropSeq 3 oneC).wp Try.prog (bodyPost Try.prog Try.f3 (fun e w' => e = .returned (.bool true) ∧ Below w0.heap.size w0 w')) ⟨#[hstA x, exqA y, .pointer (some ⟨g, 0, none⟩), .pointer (some ⟨g', 0, none⟩), .bool false, undef, undef, undef, undef, undef, undef, u11, u12, u13, u14, u15, u16, u17, u18, u19, u20, u21, u22, u23, u24, u25, u26, u27, u28, u29, u30, u31, undef, undef, undef, undef, undef, undef, undef, undef, undef, undef, undef, undef, undef, undef, undef, undef, undef, undef, undef, undef, undef, undef, undef, undef, undef, undef, undef, undef, undef, undef, undef, undef, undef, undef, undef, undef, undef, undef, undef, undef, undef, undef, undef, undef, undef, undef, undef, undef, undef, undef, undef, undef, undef, undef, undef, undef, undef, undef, undef, undef, undef, undef, undef, undef, undef, undef, undef, undef, undef, undef, undef, undef], []⟩ w := by
  have lt_hg := blk_lt hg.blk
  have lt_he := blk_lt he.blk
  refine seq_step rfl (wp_reg (n := 5) (ops := R5) (b := true) rfl (reg5 u11 u12 u13 u14 u15 u16 u17 u18 u19 u20 u21 u22 u23 u24 u25 u26 u27 u28 u29 u30 u31 hg he (fun p5 p6 p7 w1 hb1 l5 l6 l7 n56 n57 n67 h5 h6 h7 => ?_)))
  have t_hg := XH.below hg hb1
  have t_he := XQ.below he hb1
  have t_B := below_next hB hb1
  have lo := hB.size
  have q1 : g ≠ p5 := by omega
  have q2 : g ≠ p6 := by omega
  have q3 : g ≠ p7 := by omega
  have q4 : g' ≠ p5 := by omega
  have q5 : g' ≠ p6 := by omega
  have q6 : g' ≠ p7 := by omega
  have k5 : w0.heap.size ≤ p5 := by omega
  have k6 : w0.heap.size ≤ p6 := by omega
  have k7 : w0.heap.size ≤ p7 := by omega
  clear hB hg he hb1 l5 l6 l7 lo lt_hg lt_he
  have hB := t_B
  clear t_B
  have hg := t_hg
  clear t_hg
  have he := t_he
  clear t_he
  have lt_hg := blk_lt hg.blk
  have lt_he := blk_lt he.blk
  have lt_h5 := blk_lt h5.blk
  have lt_h6 := blk_lt h6.blk
  have lt_h7 := blk_lt h7.blk
  refine seq_step rfl (reg6 h5 (fun _ _ => ?_))
  have t_h5 : XH ((w1.setCell ⟨p5, 2, none⟩ (.int .u64 0)).setCell ⟨p5, 1, none⟩ (.int .u64 0)) p5 { x with start := 0, time := 0 } := XH.set (XH.set (h5) 2 (.int .u64 0) { x with time := 0 } rfl) 1 (.int .u64 0) { x with start := 0, time := 0 } rfl
  have ne_ : g ≠ p5 := by omega
  have t_hg := ((hg).other ne_ 2 (.int .u64 0)).other ne_ 1 (.int .u64 0)
  clear ne_
  have ne_ : g' ≠ p5 := by omega
  have t_he := ((he).other ne_ 2 (.int .u64 0)).other ne_ 1 (.int .u64 0)
  clear ne_
  have ne_ : p6 ≠ p5 := by omega
  have t_h6 := ((h6).other ne_ 2 (.int .u64 0)).other ne_ 1 (.int .u64 0)
  clear ne_
  have ne_ : p7 ≠ p5 := by omega
  have t_h7 := ((h7).other ne_ 2 (.int .u64 0)).other ne_ 1 (.int .u64 0)
  clear ne_
  have t_B := ((hB).setCell (p := ⟨p5, 2, none⟩) (show w0.heap.size ≤ p5 by omega) (.int .u64 0)).setCell (p := ⟨p5, 1, none⟩) (show w0.heap.size ≤ p5 by omega) (.int .u64 0)
  clear hB hg he h5 h6 h7 lt_hg lt_he lt_h5 lt_h6 lt_h7
  generalize ((w1.setCell ⟨p5, 2, none⟩ (.int .u64 0)).setCell ⟨p5, 1, none⟩ (.int .u64 0)) = w2 at *
  have hB := t_B
  clear t_B
  have hg := t_hg
  clear t_hg
  have he := t_he
  clear t_he
  have h5 := t_h5
  clear t_h5
  have h6 := t_h6
  clear t_h6
  have h7 := t_h7
  clear t_h7
  have lt_hg := blk_lt hg.blk
  have lt_he := blk_lt he.blk
  have lt_h5 := blk_lt h5.blk
  have lt_h6 := blk_lt h6.blk
  have lt_h7 := blk_lt h7.blk
  refine seq_step rfl (reg7 h6 (fun _ _ _ _ => ?_))
  have t_h6 : XH (w2.setCell ⟨p6, 1, none⟩ (.int .u64 (IntKind.u64.wrap (x.time + 1)))) p6 { x with start := IntKind.u64.wrap (x.time + 1) } := XH.set (h6) 1 (.int .u64 (IntKind.u64.wrap (x.time + 1))) { x with start := IntKind.u64.wrap (x.time + 1) } rfl
  have ne_ : g ≠ p6 := by omega
  have t_hg := (hg).other ne_ 1 (.int .u64 (IntKind.u64.wrap (x.time + 1)))
  clear ne_
  have ne_ : g' ≠ p6 := by omega
  have t_he := (he).other ne_ 1 (.int .u64 (IntKind.u64.wrap (x.time + 1)))
  clear ne_
  have ne_ : p5 ≠ p6 := by omega
  have t_h5 := (h5).other ne_ 1 (.int .u64 (IntKind.u64.wrap (x.time + 1)))
  clear ne_
  have ne_ : p7 ≠ p6 := by omega
  have t_h7 := (h7).other ne_ 1 (.int .u64 (IntKind.u64.wrap (x.time + 1)))
  clear ne_
  have t_B := (hB).setCell (p := ⟨p6, 1, none⟩) (show w0.heap.size ≤ p6 by omega) (.int .u64 (IntKind.u64.wrap (x.time + 1)))
  clear hB hg he h5 h6 h7 lt_hg lt_he lt_h5 lt_h6 lt_h7
  generalize (w2.setCell ⟨p6, 1, none⟩ (.int .u64 (IntKind.u64.wrap (x.time + 1)))) = w3 at *
  have hB := t_B
  clear t_B
  have hg := t_hg
  clear t_hg
  have he := t_he
  clear t_he
  have h5 := t_h5
  clear t_h5
  have h6 := t_h6
  clear t_h6
  have h7 := t_h7
  clear t_h7
  have lt_hg := blk_lt hg.blk
  have lt_he := blk_lt he.blk
  have lt_h5 := blk_lt h5.blk
  have lt_h6 := blk_lt h6.blk
  have lt_h7 := blk_lt h7.blk
  refine seq_step rfl (reg8 h7 (fun _ _ _ _ => ?_))
  have t_h7 : XQ (w3.setCell ⟨p7, 3, none⟩ (.int .u64 (IntKind.u64.wrap (y.count + 1)))) p7 { y with count := IntKind.u64.wrap (y.count + 1) } := XQ.set (h7) 3 (.int .u64 (IntKind.u64.wrap (y.count + 1))) { y with count := IntKind.u64.wrap (y.count + 1) } rfl
  have ne_ : g ≠ p7 := by omega
  have t_hg := (hg).other ne_ 3 (.int .u64 (IntKind.u64.wrap (y.count + 1)))
  clear ne_
  have ne_ : g' ≠ p7 := by omega
  have t_he := (he).other ne_ 3 (.int .u64 (IntKind.u64.wrap (y.count + 1)))
  clear ne_
  have ne_ : p5 ≠ p7 := by omega
  have t_h5 := (h5).other ne_ 3 (.int .u64 (IntKind.u64.wrap (y.count + 1)))
  clear ne_
  have ne_ : p6 ≠ p7 := by omega
  have t_h6 := (h6).other ne_ 3 (.int .u64 (IntKind.u64.wrap (y.count + 1)))
  clear ne_
  have t_B := (hB).setCell (p := ⟨p7, 3, none⟩) (show w0.heap.size ≤ p7 by omega) (.int .u64 (IntKind.u64.wrap (y.count + 1)))
  clear hB hg he h5 h6 h7 lt_hg lt_he lt_h5 lt_h6 lt_h7
  generalize (w3.setCell ⟨p7, 3, none⟩ (.int .u64 (IntKind.u64.wrap (y.count + 1)))) = w4 at *
  have hB := t_B
  clear t_B
  have hg := t_hg
  clear t_hg
  have he := t_he
  clear t_he
  have h5 := t_h5
  clear t_h5
  have h6 := t_h6
  clear t_h6
  have h7 := t_h7
  clear t_h7
  have lt_hg := blk_lt hg.blk
  have lt_he := blk_lt he.blk
  have lt_h5 := blk_lt h5.blk
  have lt_h6 := blk_lt h6.blk
  have lt_h7 := blk_lt h7.blk
  refine seq_step rfl (reg9 he (fun _ => ?_))
  have t_h8 : XQ ((w4.alloc (.cells zcE 34)).setRow w4.heap.size (exqC y).toArray) w4.heap.size y := ⟨copy_at _ _ _⟩
  have t_hg := hg.row (.cells zcE 34) (exqC y).toArray
  have t_he := he.row (.cells zcE 34) (exqC y).toArray
  have t_h5 := h5.row (.cells zcE 34) (exqC y).toArray
  have t_h6 := h6.row (.cells zcE 34) (exqC y).toArray
  have t_h7 := h7.row (.cells zcE 34) (exqC y).toArray
  have t_B := below_copy hB (.cells zcE 34) (exqC y).toArray
  have t_lo := hB.size
  clear hB hg he h5 h6 h7
  generalize ((w4.alloc (.cells zcE 34)).setRow w4.heap.size (exqC y).toArray) = w5 at *
  generalize w4.heap.size = p8 at *
  have hB := t_B
  clear t_B
  have lo_h8 := t_lo
  clear t_lo
  have hg := t_hg
  clear t_hg
  have he := t_he
  clear t_he
  have h5 := t_h5
  clear t_h5
  have h6 := t_h6
  clear t_h6
  have h7 := t_h7
  clear t_h7
  have h8 := t_h8
  clear t_h8
  have nq_hg_h8 := lt_hg
  clear lt_hg
  have nq_he_h8 := lt_he
  clear lt_he
  have nq_h5_h8 := lt_h5
  clear lt_h5
  have nq_h6_h8 := lt_h6
  clear lt_h6
  have nq_h7_h8 := lt_h7
  clear lt_h7
  have lt_hg := blk_lt hg.blk
  have lt_he := blk_lt he.blk
  have lt_h5 := blk_lt h5.blk
  have lt_h6 := blk_lt h6.blk
  have lt_h7 := blk_lt h7.blk
  have lt_h8 := blk_lt h8.blk
  refine seq_step rfl (reg10 h8 (fun _ => ?_))
  have t_h8 : XQ (w5.setCell ⟨p8, 10, none⟩ (.int .i32 21)) p8 { y with scale := 21 } := XQ.set (h8) 10 (.int .i32 21) { y with scale := 21 } rfl
  have ne_ : g ≠ p8 := by omega
  have t_hg := (hg).other ne_ 10 (.int .i32 21)
  clear ne_
  have ne_ : g' ≠ p8 := by omega
  have t_he := (he).other ne_ 10 (.int .i32 21)
  clear ne_
  have ne_ : p5 ≠ p8 := by omega
  have t_h5 := (h5).other ne_ 10 (.int .i32 21)
  clear ne_
  have ne_ : p6 ≠ p8 := by omega
  have t_h6 := (h6).other ne_ 10 (.int .i32 21)
  clear ne_
  have ne_ : p7 ≠ p8 := by omega
  have t_h7 := (h7).other ne_ 10 (.int .i32 21)
  clear ne_
  have t_B := (hB).setCell (p := ⟨p8, 10, none⟩) (show w0.heap.size ≤ p8 by omega) (.int .i32 21)
  clear hB hg he h5 h6 h7 h8 lt_hg lt_he lt_h5 lt_h6 lt_h7 lt_h8
  generalize (w5.setCell ⟨p8, 10, none⟩ (.int .i32 21)) = w6 at *
  have hB := t_B
  clear t_B
  have hg := t_hg
  clear t_hg
  have he := t_he
  clear t_he
  have h5 := t_h5
  clear t_h5
  have h6 := t_h6
  clear t_h6
  have h7 := t_h7
  clear t_h7
  have h8 := t_h8
  clear t_h8
  have lt_hg := blk_lt hg.blk
  have lt_he := blk_lt he.blk
  have lt_h5 := blk_lt h5.blk
  have lt_h6 := blk_lt h6.blk
  have lt_h7 := blk_lt h7.blk
  have lt_h8 := blk_lt h8.blk
  refine seq_step rfl (reg11 hg (fun _ => ?_))
  have t_h9 : XH ((w6.alloc (.cells zcH 30)).setRow w6.heap.size (hstC x).toArray) w6.heap.size x := ⟨copy_at _ _ _⟩
  have t_hg := hg.row (.cells zcH 30) (hstC x).toArray
  have t_he := he.row (.cells zcH 30) (hstC x).toArray
  have t_h5 := h5.row (.cells zcH 30) (hstC x).toArray
  have t_h6 := h6.row (.cells zcH 30) (hstC x).toArray
  have t_h7 := h7.row (.cells zcH 30) (hstC x).toArray
  have t_h8 := h8.row (.cells zcH 30) (hstC x).toArray
  have t_B := below_copy hB (.cells zcH 30) (hstC x).toArray
  have t_lo := hB.size
  clear hB hg he h5 h6 h7 h8
  generalize ((w6.alloc (.cells zcH 30)).setRow w6.heap.size (hstC x).toArray) = w7 at *
  generalize w6.heap.size = p9 at *
  have hB := t_B
  clear t_B
  have lo_h9 := t_lo
  clear t_lo
  have hg := t_hg
  clear t_hg
  have he := t_he
  clear t_he
  have h5 := t_h5
  clear t_h5
  have h6 := t_h6
  clear t_h6
  have h7 := t_h7
  clear t_h7
  have h8 := t_h8
  clear t_h8
  have h9 := t_h9
  clear t_h9
  have nq_hg_h9 := lt_hg
  clear lt_hg
  have nq_he_h9 := lt_he
  clear lt_he
  have nq_h5_h9 := lt_h5
  clear lt_h5
  have nq_h6_h9 := lt_h6
  clear lt_h6
  have nq_h7_h9 := lt_h7
  clear lt_h7
  have nq_h8_h9 := lt_h8
  clear lt_h8
  have lt_hg := blk_lt hg.blk
  have lt_he := blk_lt he.blk
  have lt_h5 := blk_lt h5.blk
  have lt_h6 := blk_lt h6.blk
  have lt_h7 := blk_lt h7.blk
  have lt_h8 := blk_lt h8.blk
  have lt_h9 := blk_lt h9.blk
  refine seq_step rfl (reg12 hg hx (hks.below hB) hf h9 (fun _ _ _ _ _ _ _ _ _ b cap w8 hb8 lb hk9 => ?_))
  have t_hg := XH.below hg hb8
  have t_he := XQ.below he hb8
  have t_h5 := XH.below h5 hb8
  have t_h6 := XH.below h6 hb8
  have t_h7 := XQ.below h7 hb8
  have t_h8 := XQ.below h8 hb8
  have t_h9 := XH.below h9 hb8
  have t_B := below_next hB hb8
  have lt_b := lb
  clear hB hg he h5 h6 h7 h8 h9
  have hB := t_B
  clear t_B
  have hg := t_hg
  clear t_hg
  have he := t_he
  clear t_he
  have h5 := t_h5
  clear t_h5
  have h6 := t_h6
  clear t_h6
  have h7 := t_h7
  clear t_h7
  have h8 := t_h8
  clear t_h8
  have h9 := t_h9
  clear t_h9
  have nb : b ≠ p9 := by omega
  clear lt_hg
  have lt_hg := blk_lt hg.blk
  clear lt_he
  have lt_he := blk_lt he.blk
  clear lt_h5
  have lt_h5 := blk_lt h5.blk
  clear lt_h6
  have lt_h6 := blk_lt h6.blk
  clear lt_h7
  have lt_h7 := blk_lt h7.blk
  clear lt_h8
  have lt_h8 := blk_lt h8.blk
  clear lt_h9
  have lt_h9 := blk_lt h9.blk
  have t_k9 : KsAt (w8.setCell ⟨p9, 0, none⟩ (.slice (some ⟨b, 0, none⟩) (ks.length + 2) cap)) ⟨some ⟨b, 0, none⟩, ks.length + 2, cap⟩ (ks ++ [qK, qK]) := hk9.other nb 0 _
  clear hk9
  have hk9 := t_k9
  clear t_k9
  have t_h9 : XH (w8.setCell ⟨p9, 0, none⟩ (.slice (some ⟨b, 0, none⟩) (ks.length + 2) cap)) p9 { x with attrs := ⟨some ⟨b, 0, none⟩, ks.length + 2, cap⟩ } := XH.set (h9) 0 (.slice (some ⟨b, 0, none⟩) (ks.length + 2) cap) { x with attrs := ⟨some ⟨b, 0, none⟩, ks.length + 2, cap⟩ } rfl
  have ne_ : g ≠ p9 := by omega
  have t_hg := (hg).other ne_ 0 (.slice (some ⟨b, 0, none⟩) (ks.length + 2) cap)
  clear ne_
  have ne_ : g' ≠ p9 := by omega
  have t_he := (he).other ne_ 0 (.slice (some ⟨b, 0, none⟩) (ks.length + 2) cap)
  clear ne_
  have ne_ : p5 ≠ p9 := by omega
  have t_h5 := (h5).other ne_ 0 (.slice (some ⟨b, 0, none⟩) (ks.length + 2) cap)
  clear ne_
  have ne_ : p6 ≠ p9 := by omega
  have t_h6 := (h6).other ne_ 0 (.slice (some ⟨b, 0, none⟩) (ks.length + 2) cap)
  clear ne_
  have ne_ : p7 ≠ p9 := by omega
  have t_h7 := (h7).other ne_ 0 (.slice (some ⟨b, 0, none⟩) (ks.length + 2) cap)
  clear ne_
  have ne_ : p8 ≠ p9 := by omega
  have t_h8 := (h8).other ne_ 0 (.slice (some ⟨b, 0, none⟩) (ks.length + 2) cap)
  clear ne_
  have t_B := (hB).setCell (p := ⟨p9, 0, none⟩) (show w0.heap.size ≤ p9 by omega) (.slice (some ⟨b, 0, none⟩) (ks.length + 2) cap)
  clear hB hg he h5 h6 h7 h8 h9 lt_hg lt_he lt_h5 lt_h6 lt_h7 lt_h8 lt_h9
  generalize (w8.setCell ⟨p9, 0, none⟩ (.slice (some ⟨b, 0, none⟩) (ks.length + 2) cap)) = w9 at *
  have hB := t_B
  clear t_B
  have hg := t_hg
  clear t_hg
  have he := t_he
  clear t_he
  have h5 := t_h5
  clear t_h5
  have h6 := t_h6
  clear t_h6
  have h7 := t_h7
  clear t_h7
  have h8 := t_h8
  clear t_h8
  have h9 := t_h9
  clear t_h9
  have lt_hg := blk_lt hg.blk
  have lt_he := blk_lt he.blk
  have lt_h5 := blk_lt h5.blk
  have lt_h6 := blk_lt h6.blk
  have lt_h7 := blk_lt h7.blk
  have lt_h8 := blk_lt h8.blk
  have lt_h9 := blk_lt h9.blk
  refine seq_step rfl (reg13 hg (fun _ => ?_))
  have blt : b < w9.heap.size := ks_lt hk9 (by simp)
  have t_k9 : KsAt ((w9.alloc (.cells zcH 30)).setRow w9.heap.size (hstC x).toArray) ⟨some ⟨b, 0, none⟩, ks.length + 2, cap⟩ (ks ++ [qK, qK]) := hk9.below (below_copy (Below.refl _ _) _ _)
  clear hk9
  have hk9 := t_k9
  clear t_k9
  have t_h10 : XH ((w9.alloc (.cells zcH 30)).setRow w9.heap.size (hstC x).toArray) w9.heap.size x := ⟨copy_at _ _ _⟩
  have t_hg := hg.row (.cells zcH 30) (hstC x).toArray
  have t_he := he.row (.cells zcH 30) (hstC x).toArray
  have t_h5 := h5.row (.cells zcH 30) (hstC x).toArray
  have t_h6 := h6.row (.cells zcH 30) (hstC x).toArray
  have t_h7 := h7.row (.cells zcH 30) (hstC x).toArray
  have t_h8 := h8.row (.cells zcH 30) (hstC x).toArray
  have t_h9 := h9.row (.cells zcH 30) (hstC x).toArray
  have t_B := below_copy hB (.cells zcH 30) (hstC x).toArray
  have t_lo := hB.size
  clear hB hg he h5 h6 h7 h8 h9
  generalize ((w9.alloc (.cells zcH 30)).setRow w9.heap.size (hstC x).toArray) = w10 at *
  generalize w9.heap.size = p10 at *
  have hB := t_B
  clear t_B
  have lo_h10 := t_lo
  clear t_lo
  have hg := t_hg
  clear t_hg
  have he := t_he
  clear t_he
  have h5 := t_h5
  clear t_h5
  have h6 := t_h6
  clear t_h6
  have h7 := t_h7
  clear t_h7
  have h8 := t_h8
  clear t_h8
  have h9 := t_h9
  clear t_h9
  have h10 := t_h10
  clear t_h10
  have nq_hg_h10 := lt_hg
  clear lt_hg
  have nq_he_h10 := lt_he
  clear lt_he
  have nq_h5_h10 := lt_h5
  clear lt_h5
  have nq_h6_h10 := lt_h6
  clear lt_h6
  have nq_h7_h10 := lt_h7
  clear lt_h7
  have nq_h8_h10 := lt_h8
  clear lt_h8
  have nq_h9_h10 := lt_h9
  clear lt_h9
  have lt_hg := blk_lt hg.blk
  have lt_he := blk_lt he.blk
  have lt_h5 := blk_lt h5.blk
  have lt_h6 := blk_lt h6.blk
  have lt_h7 := blk_lt h7.blk
  have lt_h8 := blk_lt h8.blk
  have lt_h9 := blk_lt h9.blk
  have lt_h10 := blk_lt h10.blk
  refine seq_step rfl (reg14 h10 (fun _ _ _ _ => ?_))
  have t_k9 : KsAt (w10.setCell ⟨p10, 3, none⟩ (.int .u64 (IntKind.u64.wrap (x.count + 1)))) ⟨some ⟨b, 0, none⟩, ks.length + 2, cap⟩ (ks ++ [qK, qK]) := hk9.other (by omega) 3 _
  clear hk9
  have hk9 := t_k9
  clear t_k9
  have t_h10 : XH (w10.setCell ⟨p10, 3, none⟩ (.int .u64 (IntKind.u64.wrap (x.count + 1)))) p10 { x with count := IntKind.u64.wrap (x.count + 1) } := XH.set (h10) 3 (.int .u64 (IntKind.u64.wrap (x.count + 1))) { x with count := IntKind.u64.wrap (x.count + 1) } rfl
  have ne_ : g ≠ p10 := by omega
  have t_hg := (hg).other ne_ 3 (.int .u64 (IntKind.u64.wrap (x.count + 1)))
  clear ne_
  have ne_ : g' ≠ p10 := by omega
  have t_he := (he).other ne_ 3 (.int .u64 (IntKind.u64.wrap (x.count + 1)))
  clear ne_
  have ne_ : p5 ≠ p10 := by omega
  have t_h5 := (h5).other ne_ 3 (.int .u64 (IntKind.u64.wrap (x.count + 1)))
  clear ne_
  have ne_ : p6 ≠ p10 := by omega
  have t_h6 := (h6).other ne_ 3 (.int .u64 (IntKind.u64.wrap (x.count + 1)))
  clear ne_
  have ne_ : p7 ≠ p10 := by omega
  have t_h7 := (h7).other ne_ 3 (.int .u64 (IntKind.u64.wrap (x.count + 1)))
  clear ne_
  have ne_ : p8 ≠ p10 := by omega
  have t_h8 := (h8).other ne_ 3 (.int .u64 (IntKind.u64.wrap (x.count + 1)))
  clear ne_
  have ne_ : p9 ≠ p10 := by omega
  have t_h9 := (h9).other ne_ 3 (.int .u64 (IntKind.u64.wrap (x.count + 1)))
  clear ne_
  have t_B := (hB).setCell (p := ⟨p10, 3, none⟩) (show w0.heap.size ≤ p10 by omega) (.int .u64 (IntKind.u64.wrap (x.count + 1)))
  clear hB hg he h5 h6 h7 h8 h9 h10 lt_hg lt_he lt_h5 lt_h6 lt_h7 lt_h8 lt_h9 lt_h10
  generalize (w10.setCell ⟨p10, 3, none⟩ (.int .u64 (IntKind.u64.wrap (x.count + 1)))) = w11 at *
  have hB := t_B
  clear t_B
  have hg := t_hg
  clear t_hg
  have he := t_he
  clear t_he
  have h5 := t_h5
  clear t_h5
  have h6 := t_h6
  clear t_h6
  have h7 := t_h7
  clear t_h7
  have h8 := t_h8
  clear t_h8
  have h9 := t_h9
  clear t_h9
  have h10 := t_h10
  clear t_h10
  have lt_hg := blk_lt hg.blk
  have lt_he := blk_lt he.blk
  have lt_h5 := blk_lt h5.blk
  have lt_h6 := blk_lt h6.blk
  have lt_h7 := blk_lt h7.blk
  have lt_h8 := blk_lt h8.blk
  have lt_h9 := blk_lt h9.blk
  have lt_h10 := blk_lt h10.blk
  obtain ⟨c0, c1⟩ := hist_0 hh
  obtain ⟨t0, t1, t2⟩ := comm_0 c0
  obtain ⟨e0, e1⟩ := exp_0 hz
  have c5 : Ans w11 8 (.agg (hstC { x with start := 0, time := 0 }).toArray) 4 := fun W hb => by
    have h := hist_any W { x with start := 0, time := 0 } ks cl bl ((hks.below hB).below hb) ((hcl.below hB).below hb) ((hbl.below hB).below hb)
    rw [hist_comm (comm_time _ _) (by decide)] at h
    exact h
  have c7 : Ans w11 9 (.agg (exqC { y with count := IntKind.u64.wrap (y.count + 1) }).toArray) 8 := fun W hb => by
    have h := exp_any W { y with count := IntKind.u64.wrap (y.count + 1) } ks2 pl nl ((hks2.below hB).below hb) ((hpl.below hB).below hb) ((hnl.below hB).below hb) hy.zero
    rw [show addsB (IntKind.u64.wrap (y.count + 1)) [[y.zero], pl, nl] = false from adds_more e1 (w64_ne _ hy.count), e0, exp_total] at h
    exact h
  have c8 : Ans w11 9 (.agg (exqC { y with scale := 21 }).toArray) 10 := fun W hb => by
    have h := exp_any W { y with scale := 21 } ks2 pl nl ((hks2.below hB).below hb) ((hpl.below hB).below hb) ((hnl.below hB).below hb) hy.zero
    rw [show addsB y.count [[y.zero], pl, nl] = true from e1, e0, exp_scale] at h
    exact h
  have c9 : Ans w11 8 (.agg (hstC { x with attrs := ⟨some ⟨b, 0, none⟩, ks.length + 2, cap⟩ }).toArray) 6 := fun W hb => by
    have h := hist_any W { x with attrs := ⟨some ⟨b, 0, none⟩, ks.length + 2, cap⟩ } (ks ++ [qK, qK]) cl bl (hk9.below hb) ((hcl.below hB).below hb) ((hbl.below hB).below hb)
    rw [dup_two ks qK qK rfl, hist_comm (comm_dup t0 t1) (by decide)] at h
    exact h
  have c6 : ¬ IntKind.u64.wrap (x.time + 1) = 0 → Ans w11 8 (.agg (hstC { x with start := IntKind.u64.wrap (x.time + 1) }).toArray) 5 := fun h0 W hb => by
    have h := hist_any W { x with start := IntKind.u64.wrap (x.time + 1) } ks cl bl ((hks.below hB).below hb) ((hcl.below hB).below hb) ((hbl.below hB).below hb)
    rw [hist_comm (comm_order t0 (w64_lt _ hx.time h0)) (by decide)] at h
    exact h
  have c10 : ¬ x.counts.len = 0 → Ans w11 8 (.agg (hstC { x with count := IntKind.u64.wrap (x.count + 1) }).toArray) 8 := fun h0 W hb => by
    have h := hist_any W { x with count := IntKind.u64.wrap (x.count + 1) } ks cl bl ((hks.below hB).below hb) ((hcl.below hB).below hb) ((hbl.below hB).below hb)
    obtain ⟨a1, a2⟩ := c1 (by have := hcl.len; omega)
    rw [hist_total c0 a2 (adds_more a1 (w64_ne _ hx.count))] at h
    exact h
  have fin : ∀ (u0 u1 u11 u12 u13 u14 u15 u16 u17 u18 u19 u20 u21 u22 u23 u24 u25 u26 u27 u28 u29 u30 u31 u32 u33 u34 u35 u36 u37 u38 u39 u40 u41 u42 u43 u44 u45 u46 u47 u48 u49 u50 u51 u52 u53 u54 u55 u56 u57 u58 u59 u60 u61 u62 u63 u64 u65 u66 u67 u68 u69 u70 u71 u72 u73 u74 u75 u76 u77 u78 u79 u80 u81 u82 u83 u84 u85 u86 u87 u88 u89 u90 u91 u92 u93 u94 u95 u96 u97 u98 u99 u100 u101 u102 u103 : Value) (W : World), Below w11.heap.size w11 W → (dropSeq 14 oneC).wp Try.prog (bodyPost Try.prog Try.f3 (fun e w' => e = .returned (.bool true) ∧ Below w0.heap.size w0 w')) ⟨#[u0, u1, .pointer (some ⟨g, 0, none⟩), .pointer (some ⟨g', 0, none⟩), .bool true, .pointer (some ⟨p5, 0, none⟩), .pointer (some ⟨p6, 0, none⟩), .pointer (some ⟨p7, 0, none⟩), .pointer (some ⟨p8, 0, none⟩), .pointer (some ⟨p9, 0, none⟩), .pointer (some ⟨p10, 0, none⟩), u11, u12, u13, u14, u15, u16, u17, u18, u19, u20, u21, u22, u23, u24, u25, u26, u27, u28, u29, u30, u31, u32, u33, u34, u35, u36, u37, u38, u39, u40, u41, u42, u43, u44, u45, u46, u47, u48, u49, u50, u51, u52, u53, u54, u55, u56, u57, u58, u59, u60, u61, u62, u63, u64, u65, u66, u67, u68, u69, u70, u71, u72, u73, u74, u75, u76, u77, u78, u79, u80, u81, u82, u83, u84, u85, u86, u87, u88, u89, u90, u91, u92, u93, u94, u95, u96, u97, u98, u99, u100, u101, u102, u103], []⟩ W := by
    intro u0 u1 u11 u12 u13 u14 u15 u16 u17 u18 u19 u20 u21 u22 u23 u24 u25 u26 u27 u28 u29 u30 u31 u32 u33 u34 u35 u36 u37 u38 u39 u40 u41 u42 u43 u44 u45 u46 u47 u48 u49 u50 u51 u52 u53 u54 u55 u56 u57 u58 u59 u60 u61 u62 u63 u64 u65 u66 u67 u68 u69 u70 u71 u72 u73 u74 u75 u76 u77 u78 u79 u80 u81 u82 u83 u84 u85 u86 u87 u88 u89 u90 u91 u92 u93 u94 u95 u96 u97 u98 u99 u100 u101 u102 u103 W hb
    have HB := Aside0.mk (below_next hB hb)
    show Code.ret.wp _ _ _ _
    clear hB hb hg he h5 h6 h7 h8 h9 h10 c5 c6 c7 c8 c9 c10 hh hz
    go_wp2_with fail
    go_ret
    exact ⟨rfl, HB.out⟩
  by_cases z6 : IntKind.u64.wrap (x.time + 1) = 0
  · by_cases zc : x.counts.len = 0
    · exact seq_step rfl (reg15_11  hg h5 h6 h7 h8 h9 h10 c5 z6 c7 c8 c9 zc (fun u62 u63 u64 u65 u66 u67 u68 u69 u70 u71 u72 u73 u74 u75 u76 u77 u78 u79 u80 u81 u82 u83 u84 u85 u86 u87 u88 u89 u90 u91 u92 u93 u94 u95 u96 u97 u98 u99 u100 u101 u102 u103 W hb => fin _ _ _ _ _ _ _ _ _ _ _ _ _ _ _ _ _ _ _ _ _ _ _ _ _ _ _ _ _ _ _ _ _ _ _ _ _ _ _ _ _ _ _ _ _ _ _ _ _ _ _ _ _ u62 u63 u64 u65 u66 u67 u68 u69 u70 u71 u72 u73 u74 u75 u76 u77 u78 u79 u80 u81 u82 u83 u84 u85 u86 u87 u88 u89 u90 u91 u92 u93 u94 u95 u96 u97 u98 u99 u100 u101 u102 u103 W hb))
    · exact seq_step rfl (reg15_10  hg h5 h6 h7 h8 h9 h10 c5 z6 c7 c8 c9 zc (c10 zc) (fun u62 u63 u64 u65 u66 u67 u68 u69 u70 u71 u72 u73 u74 u75 u76 u77 u78 u79 u80 u81 u82 u83 u84 u85 u86 u87 u88 u89 u90 u91 u92 u93 u94 u95 u96 u97 u98 u99 u100 u101 u102 u103 W hb => fin _ _ _ _ _ _ _ _ _ _ _ _ _ _ _ _ _ _ _ _ _ _ _ _ _ _ _ _ _ _ _ _ _ _ _ _ _ _ _ _ _ _ _ _ _ _ _ _ _ _ _ _ _ u62 u63 u64 u65 u66 u67 u68 u69 u70 u71 u72 u73 u74 u75 u76 u77 u78 u79 u80 u81 u82 u83 u84 u85 u86 u87 u88 u89 u90 u91 u92 u93 u94 u95 u96 u97 u98 u99 u100 u101 u102 u103 W hb))
  · by_cases zc : x.counts.len = 0
    · exact seq_step rfl (reg15_01  hg h5 h6 h7 h8 h9 h10 c5 z6 (c6 z6) c7 c8 c9 zc (fun u62 u63 u64 u65 u66 u67 u68 u69 u70 u71 u72 u73 u74 u75 u76 u77 u78 u79 u80 u81 u82 u83 u84 u85 u86 u87 u88 u89 u90 u91 u92 u93 u94 u95 u96 u97 u98 u99 u100 u101 u102 u103 W hb => fin _ _ _ _ _ _ _ _ _ _ _ _ _ _ _ _ _ _ _ _ _ _ _ _ _ _ _ _ _ _ _ _ _ _ _ _ _ _ _ _ _ _ _ _ _ _ _ _ _ _ _ _ _ u62 u63 u64 u65 u66 u67 u68 u69 u70 u71 u72 u73 u74 u75 u76 u77 u78 u79 u80 u81 u82 u83 u84 u85 u86 u87 u88 u89 u90 u91 u92 u93 u94 u95 u96 u97 u98 u99 u100 u101 u102 u103 W hb))
    · exact seq_step rfl (reg15_00  hg h5 h6 h7 h8 h9 h10 c5 z6 (c6 z6) c7 c8 c9 zc (c10 zc) (fun u62 u63 u64 u65 u66 u67 u68 u69 u70 u71 u72 u73 u74 u75 u76 u77 u78 u79 u80 u81 u82 u83 u84 u85 u86 u87 u88 u89 u90 u91 u92 u93 u94 u95 u96 u97 u98 u99 u100 u101 u102 u103 W hb => fin _ _ _ _ _ _ _ _ _ _ _ _ _ _ _ _ _ _ _ _ _ _ _ _ _ _ _ _ _ _ _ _ _ _ _ _ _ _ _ _ _ _ _ _ _ _ _ _ _ _ _ _ _ u62 u63 u64 u65 u66 u67 u68 u69 u70 u71 u72 u73 u74 u75 u76 u77 u78 u79 u80 u81 u82 u83 u84 u85 u86 u87 u88 u89 u90 u91 u92 u93 u94 u95 u96 u97 u98 u99 u100 u101 u102 u103 W hb))
end Go.Proofs.Ytdogokcoobpgdaa
namespace Go.Proofs.Ytdogokcoobpgdaa
open Go.RowKit Go.Proofs.YtdogokcoobpgdaaW.PrintWords Go.Proofs.YtdogokcoobpgdaaW.PrintLast Go.Proofs.YtdogokcoobpgdaaW.PrintMore

theorem alloc_size (w : World) (o : Obj) : (w.alloc o).heap.size = w.heap.size + 1 := by simp
theorem sl_true {α : Type} {k : Nat} {c : α → List Value} {ok : World → α → Prop} {W : World} {s : Sl} {l : List α} (h : SlAt k c ok W s l) : SlAt k c (fun _ _ => True) W s l :=
  ⟨h.1, h.2.1, h.2.2.1, fun hl => by
    obtain ⟨a, ha, hel⟩ := h.2.2.2 hl
    exact ⟨a, ha, fun i hi => ⟨(hel i hi).1, trivial⟩⟩⟩
set_option maxHeartbeats 1000000 in
set_option maxRecDepth 100000 in
theorem reg0 {w : World} {K : Act → World → Prop} {Q : Exit → Act → World → Prop} {x : Hst} {y : Exq}
    (hK : ∀ g', g' = w.heap.size + 1 → K ⟨#[hstA x, exqA y, .pointer (some ⟨w.heap.size, 0, none⟩), .pointer (some ⟨g', 0, none⟩), .bool false, undef, undef, undef, undef, undef, undef, undef, undef, undef, undef, undef, undef, undef, undef, undef, undef, undef, undef, undef, undef, undef, undef, undef, undef, undef, undef, undef, undef, undef, undef, undef, undef, undef, undef, undef, undef, undef, undef, undef, undef, undef, undef, undef, undef, undef, undef, undef, undef, undef, undef, undef, undef, undef, undef, undef, undef, undef, undef, undef, undef, undef, undef, undef, undef, undef, undef, undef, undef, undef, undef, undef, undef, undef, undef, undef, undef, undef, undef, undef, undef, undef, undef, undef, undef, undef, undef, undef, undef, undef, undef, undef, undef, undef, undef, undef, undef, undef, undef, undef], []⟩ ((w.alloc (.cells (hstC x).toArray 30)).alloc (.cells (exqC y).toArray 34))) :
    (headC (dropSeq 0 oneC)).wp Try.prog (Exit.then K Q) ⟨#[hstA x, exqA y, undef, undef, undef, undef, undef, undef, undef, undef, undef, undef, undef, undef, undef, undef, undef, undef, undef, undef, undef, undef, undef, undef, undef, undef, undef, undef, undef, undef, undef, undef, undef, undef, undef, undef, undef, undef, undef, undef, undef, undef, undef, undef, undef, undef, undef, undef, undef, undef, undef, undef, undef, undef, undef, undef, undef, undef, undef, undef, undef, undef, undef, undef, undef, undef, undef, undef, undef, undef, undef, undef, undef, undef, undef, undef, undef, undef, undef, undef, undef, undef, undef, undef, undef, undef, undef, undef, undef, undef, undef, undef, undef, undef, undef, undef, undef, undef, undef, undef, undef, undef, undef, undef], []⟩ w := by
  have HK := Aside0.mk hK
  clear hK
  refine wp_reg rfl ?_
  go_wp2_with (first
    | (refine Great.wpList_boxTo rfl 30 _ rfl _ rfl w.heap.size rfl (hstC x).toArray rfl ?_)
    | (refine Great.wpList_boxTo rfl 34 _ rfl _ rfl (w.heap.size + 1) (alloc_size _ _) (exqC y).toArray rfl ?_))
  exact HK.out _ rfl
set_option maxHeartbeats 1000000 in
set_option maxRecDepth 100000 in
theorem reg1 {w : World} {K : Act → World → Prop} {Q : Exit → Act → World → Prop} {x : Hst} {y : Exq} {g g' : Nat}
    (hK : ∀ W, Below w.heap.size w W → K ⟨#[hstA x, exqA y, .pointer (some ⟨g, 0, none⟩), .pointer (some ⟨g', 0, none⟩), .bool false, undef, undef, undef, undef, undef, undef, .bool true, .bool false, undef, undef, undef, undef, undef, undef, undef, undef, undef, undef, undef, undef, undef, undef, undef, undef, undef, undef, undef, undef, undef, undef, undef, undef, undef, undef, undef, undef, undef, undef, undef, undef, undef, undef, undef, undef, undef, undef, undef, undef, undef, undef, undef, undef, undef, undef, undef, undef, undef, undef, undef, undef, undef, undef, undef, undef, undef, undef, undef, undef, undef, undef, undef, undef, undef, undef, undef, undef, undef, undef, undef, undef, undef, undef, undef, undef, undef, undef, undef, undef, undef, undef, undef, undef, undef, undef, undef, undef, undef, undef, undef], []⟩ W) :
    (headC (dropSeq 1 oneC)).wp Try.prog (Exit.then K Q) ⟨#[hstA x, exqA y, .pointer (some ⟨g, 0, none⟩), .pointer (some ⟨g', 0, none⟩), .bool false, undef, undef, undef, undef, undef, undef, undef, undef, undef, undef, undef, undef, undef, undef, undef, undef, undef, undef, undef, undef, undef, undef, undef, undef, undef, undef, undef, undef, undef, undef, undef, undef, undef, undef, undef, undef, undef, undef, undef, undef, undef, undef, undef, undef, undef, undef, undef, undef, undef, undef, undef, undef, undef, undef, undef, undef, undef, undef, undef, undef, undef, undef, undef, undef, undef, undef, undef, undef, undef, undef, undef, undef, undef, undef, undef, undef, undef, undef, undef, undef, undef, undef, undef, undef, undef, undef, undef, undef, undef, undef, undef, undef, undef, undef, undef, undef, undef, undef, undef], []⟩ w := by
  have HK := Aside0.mk hK
  have HF := Aside0.mk first_any
  clear hK
  refine wp_code rfl ?_
  go_wp2_with (go_at_call 5; with_reducible refine (HF.out _).mono ?_; rintro e w2 ⟨rfl, hb⟩; have HB := Aside0.mk hb; clear hb)
  exact HK.out _ HB.out
set_option maxHeartbeats 4000000 in
set_option maxRecDepth 100000 in
theorem one_room {w0 w : World} {x : Hst} {y : Exq} {g g' : Nat} {cl bl pl nl : List Int} (hW : Below w0.heap.size w0 w) (hg : XH w g x) (he : XQ w g' y) (hx : HstOk w0 x) (hy : ExqOk w0 y)
    (hsx : ∀ a, x.attrs.a = some a → a.spot = none) (hsy : ∀ a, y.attrs.a = some a → a.spot = none) (hcl : NsAt w0 x.counts cl) (hbl : NsAt w0 x.bounds bl) (hpl : NsAt w0 y.pos.counts pl) (hnl : NsAt w0 y.neg.counts nl)
    (hT : ∀ (ks ks2 : List Kv) (u11 u12 u13 u14 u15 u16 u17 u18 u19 u20 u21 u22 u23 u24 u25 u26 u27 u28 u29 u30 u31 : Value) (W : World), Below w.heap.size w W → KsAt w0 x.attrs ks → KsAt w0 y.attrs ks2 → ks.length ≤ 600 →
      histI x.start x.time x.count (dupK ks) cl bl (upB x.mn.has x.mn.n x.mx.has x.mx.n) = 0 → expI (commI y.start y.time (dupK ks2)) (addsB y.count [[y.zero], pl, nl]) y.scale (beyB y.pos.off pl.length) (beyB y.neg.off nl.length) (upB y.mn.has y.mn.n y.mx.has y.mx.n) (lowB y.thr) = 0 →
      (dropSeq 3 oneC).wp Try.prog (bodyPost Try.prog Try.f3 (fun e w' => e = .returned (.bool true) ∧ Below w0.heap.size w0 w')) ⟨#[hstA x, exqA y, .pointer (some ⟨g, 0, none⟩), .pointer (some ⟨g', 0, none⟩), .bool false, undef, undef, undef, undef, undef, undef, u11, u12, u13, u14, u15, u16, u17, u18, u19, u20, u21, u22, u23, u24, u25, u26, u27, u28, u29, u30, u31, undef, undef, undef, undef, undef, undef, undef, undef, undef, undef, undef, undef, undef, undef, undef, undef, undef, undef, undef, undef, undef, undef, undef, undef, undef, undef, undef, undef, undef, undef, undef, undef, undef, undef, undef, undef, undef, undef, undef, undef, undef, undef, undef, undef, undef, undef, undef, undef, undef, undef, undef, undef, undef, undef, undef, undef, undef, undef, undef, undef, undef, undef, undef, undef, undef, undef, undef, undef, undef, undef, undef, undef], []⟩ W) :
    (headC (dropSeq 2 oneC)).wp Try.prog (Exit.then (fun a w => (dropSeq 3 oneC).wp Try.prog (bodyPost Try.prog Try.f3 (fun e w' => e = .returned (.bool true) ∧ Below w0.heap.size w0 w')) a w) (bodyPost Try.prog Try.f3 (fun e w' => e = .returned (.bool true) ∧ Below w0.heap.size w0 w'))) ⟨#[hstA x, exqA y, .pointer (some ⟨g, 0, none⟩), .pointer (some ⟨g', 0, none⟩), .bool false, undef, undef, undef, undef, undef, undef, .bool true, .bool false, undef, undef, undef, undef, undef, undef, undef, undef, undef, undef, undef, undef, undef, undef, undef, undef, undef, undef, undef, undef, undef, undef, undef, undef, undef, undef, undef, undef, undef, undef, undef, undef, undef, undef, undef, undef, undef, undef, undef, undef, undef, undef, undef, undef, undef, undef, undef, undef, undef, undef, undef, undef, undef, undef, undef, undef, undef, undef, undef, undef, undef, undef, undef, undef, undef, undef, undef, undef, undef, undef, undef, undef, undef, undef, undef, undef, undef, undef, undef, undef, undef, undef, undef, undef, undef, undef, undef, undef, undef, undef, undef], []⟩ w := by
  have HG := Aside0.mk hg
  have HE := Aside0.mk he
  have HW := Aside0.mk hW
  have HF := Aside0.mk first_any
  have HB := Aside0.mk (Below.refl w.heap.size w)
  have HRH := Aside0.mk (fun W (hb : Below w.heap.size w W) => rhist_any w0 W x (hW.trans (hb.mono hW.size)) hx)
  have HRE := Aside0.mk (fun W (hb : Below w.heap.size w W) => rexp_any w0 W y (hW.trans (hb.mono hW.size)) hy)
  have HCH := Aside0.mk (fun W (hb : Below w.heap.size w W) ks (hk : KsAt w0 x.attrs ks) => hist_any W x ks cl bl (hk.below (hW.trans (hb.mono hW.size))) (hcl.below (hW.trans (hb.mono hW.size))) (hbl.below (hW.trans (hb.mono hW.size))))
  have HCE := Aside0.mk (fun W (hb : Below w.heap.size w W) ks (hk : KsAt w0 y.attrs ks) => exp_any W y ks pl nl (hk.below (hW.trans (hb.mono hW.size))) (hpl.below (hW.trans (hb.mono hW.size))) (hnl.below (hW.trans (hb.mono hW.size))) hy.zero)
  have HT := Aside0.mk hT
  have HSX := Aside0.mk hsx
  have HSY := Aside0.mk hsy
  clear hg he hW hx hy hsx hsy hcl hbl hpl hnl hT
  generalize hK : (fun a w => (dropSeq 3 oneC).wp Try.prog (bodyPost Try.prog Try.f3 (fun e w' => e = .returned (.bool true) ∧ Below w0.heap.size w0 w')) a w) = KK
  have HKK := Aside0.mk hK
  clear hK
  refine wp_code rfl ?_
  unfold hstA exqA
  go_wp2_with (refine wpList_load_rowG (by rfl) 30 _ rfl g rfl 30 (hstC x).toArray (0, 0) _ (XH.below HG.out HB.out).blk Try.underlying30 rfl (by kernel_rfl) ?_)
  refine (HRH.out _ HB.out).mono ?_
  rintro e w3 ⟨r1, ks, rfl, hks, hfew, hr1, hr2, hb⟩
  replace HB := Aside0.mk (below_next HB.out hb)
  clear hb
  by_cases h1 : r1 < 0
  · clear hks hfew
    go_wp2_with (first
      | (refine wpList_load_rowG (by rfl) 30 _ rfl g rfl 30 (hstC x).toArray (0, 0) _ (XH.below HG.out HB.out).blk Try.underlying30 rfl (by kernel_rfl) ?_)
      | (refine wpList_load_rowG (by rfl) 34 _ rfl g' rfl 34 (exqC y).toArray (0, 0) _ (XQ.below HE.out HB.out).blk Try.underlying34 rfl (by kernel_rfl) ?_)
      | (go_at_call 5; with_reducible refine (HF.out _).mono ?_; rintro e w9 ⟨rfl, hb9⟩; replace HB := Aside0.mk (below_next HB.out hb9); clear hb9))
    go_ret
    exact ⟨rfl, below_next HW.out HB.out⟩
  · have d1 : decide (r1 < 0) = false := decide_eq_false h1
    have HKS := Aside0.mk (show KsAt w0 x.attrs ks from ⟨sl_true hks, HSX.out, by have := hfew (by omega); omega⟩)
    have HFEW := Aside0.mk (hfew (by omega))
    clear hks hfew
    go_wp2_with (first | (refine wpList_load_rowG (by rfl) 30 _ rfl g rfl 30 (hstC x).toArray (0, 0) _ (XH.below HG.out HB.out).blk Try.underlying30 rfl (by kernel_rfl) ?_) | (refine wpList_load_rowG (by rfl) 34 _ rfl g' rfl 34 (exqC y).toArray (0, 0) _ (XQ.below HE.out HB.out).blk Try.underlying34 rfl (by kernel_rfl) ?_) | ((simp only []); first | (refine wpList_load_rowG (by rfl) 30 _ rfl g rfl 30 (hstC x).toArray (0, 0) _ (XH.below HG.out HB.out).blk Try.underlying30 rfl (by kernel_rfl) ?_) | (refine wpList_load_rowG (by rfl) 34 _ rfl g' rfl 34 (exqC y).toArray (0, 0) _ (XQ.below HE.out HB.out).blk Try.underlying34 rfl (by kernel_rfl) ?_)) | ((simp only [d2]); first | (refine wpList_load_rowG (by rfl) 30 _ rfl g rfl 30 (hstC x).toArray (0, 0) _ (XH.below HG.out HB.out).blk Try.underlying30 rfl (by kernel_rfl) ?_) | (refine wpList_load_rowG (by rfl) 34 _ rfl g' rfl 34 (exqC y).toArray (0, 0) _ (XQ.below HE.out HB.out).blk Try.underlying34 rfl (by kernel_rfl) ?_)))
    refine (HRE.out _ HB.out).mono ?_
    rintro e w4 ⟨r2, ks2, rfl, hks, hfew, hr3, hr4, hb⟩
    replace HB := Aside0.mk (below_next HB.out hb)
    clear hb
    by_cases h2 : r2 < 0
    · clear hks hfew
      go_wp2_with (first
        | (refine wpList_load_rowG (by rfl) 30 _ rfl g rfl 30 (hstC x).toArray (0, 0) _ (XH.below HG.out HB.out).blk Try.underlying30 rfl (by kernel_rfl) ?_)
        | (refine wpList_load_rowG (by rfl) 34 _ rfl g' rfl 34 (exqC y).toArray (0, 0) _ (XQ.below HE.out HB.out).blk Try.underlying34 rfl (by kernel_rfl) ?_)
        | (go_at_call 5; with_reducible refine (HF.out _).mono ?_; rintro e w9 ⟨rfl, hb9⟩; replace HB := Aside0.mk (below_next HB.out hb9); clear hb9))
      go_ret
      exact ⟨rfl, below_next HW.out HB.out⟩
    · have d2 : decide (r2 < 0) = false := decide_eq_false h2
      have HKS2 := Aside0.mk (show KsAt w0 y.attrs ks2 from ⟨sl_true hks, HSY.out, by have := hfew (by omega); omega⟩)
      clear hks hfew
      go_wp2_with (first | (refine wpList_load_rowG (by rfl) 30 _ rfl g rfl 30 (hstC x).toArray (0, 0) _ (XH.below HG.out HB.out).blk Try.underlying30 rfl (by kernel_rfl) ?_) | (refine wpList_load_rowG (by rfl) 34 _ rfl g' rfl 34 (exqC y).toArray (0, 0) _ (XQ.below HE.out HB.out).blk Try.underlying34 rfl (by kernel_rfl) ?_) | ((simp only []); first | (refine wpList_load_rowG (by rfl) 30 _ rfl g rfl 30 (hstC x).toArray (0, 0) _ (XH.below HG.out HB.out).blk Try.underlying30 rfl (by kernel_rfl) ?_) | (refine wpList_load_rowG (by rfl) 34 _ rfl g' rfl 34 (exqC y).toArray (0, 0) _ (XQ.below HE.out HB.out).blk Try.underlying34 rfl (by kernel_rfl) ?_)) | ((simp only []); first | (refine wpList_load_rowG (by rfl) 30 _ rfl g rfl 30 (hstC x).toArray (0, 0) _ (XH.below HG.out HB.out).blk Try.underlying30 rfl (by kernel_rfl) ?_) | (refine wpList_load_rowG (by rfl) 34 _ rfl g' rfl 34 (exqC y).toArray (0, 0) _ (XQ.below HE.out HB.out).blk Try.underlying34 rfl (by kernel_rfl) ?_)))
      refine (HCH.out _ HB.out ks HKS.out).mono ?_
      rintro e w5 ⟨rfl, hb⟩
      replace HB := Aside0.mk (below_next HB.out hb)
      clear hb
      generalize hi : histI x.start x.time x.count (dupK ks) cl bl (upB x.mn.has x.mn.n x.mx.has x.mx.n) = hh
      have HI := Aside0.mk hi
      clear hi
      by_cases h3 : hh = 0
      · subst h3
        go_wp2_with (first | (refine wpList_load_rowG (by rfl) 30 _ rfl g rfl 30 (hstC x).toArray (0, 0) _ (XH.below HG.out HB.out).blk Try.underlying30 rfl (by kernel_rfl) ?_) | (refine wpList_load_rowG (by rfl) 34 _ rfl g' rfl 34 (exqC y).toArray (0, 0) _ (XQ.below HE.out HB.out).blk Try.underlying34 rfl (by kernel_rfl) ?_) | ((simp only []); first | (refine wpList_load_rowG (by rfl) 30 _ rfl g rfl 30 (hstC x).toArray (0, 0) _ (XH.below HG.out HB.out).blk Try.underlying30 rfl (by kernel_rfl) ?_) | (refine wpList_load_rowG (by rfl) 34 _ rfl g' rfl 34 (exqC y).toArray (0, 0) _ (XQ.below HE.out HB.out).blk Try.underlying34 rfl (by kernel_rfl) ?_)) | ((simp only []); first | (refine wpList_load_rowG (by rfl) 30 _ rfl g rfl 30 (hstC x).toArray (0, 0) _ (XH.below HG.out HB.out).blk Try.underlying30 rfl (by kernel_rfl) ?_) | (refine wpList_load_rowG (by rfl) 34 _ rfl g' rfl 34 (exqC y).toArray (0, 0) _ (XQ.below HE.out HB.out).blk Try.underlying34 rfl (by kernel_rfl) ?_)))
        refine (HCE.out _ HB.out ks2 HKS2.out).mono ?_
        rintro e w6 ⟨rfl, hb⟩
        replace HB := Aside0.mk (below_next HB.out hb)
        clear hb
        generalize hj : expI (commI y.start y.time (dupK ks2)) (addsB y.count [[y.zero], pl, nl]) y.scale (beyB y.pos.off pl.length) (beyB y.neg.off nl.length) (upB y.mn.has y.mn.n y.mx.has y.mx.n) (lowB y.thr) = ee
        have HJ := Aside0.mk hj
        clear hj
        by_cases h4 : ee = 0
        · subst h4
          go_wp2_with fail
          rw [← HKK.out]
          exact HT.out ks ks2 _ _ _ _ _ _ _ _ _ _ _ _ _ _ _ _ _ _ _ _ _ _ HB.out HKS.out HKS2.out HFEW.out HI.out HJ.out
        · have h5 : (ee == 0) = false := by simpa using h4
          go_wp2_with (first
            | (refine wpList_load_rowG (by rfl) 30 _ rfl g rfl 30 (hstC x).toArray (0, 0) _ (XH.below HG.out HB.out).blk Try.underlying30 rfl (by kernel_rfl) ?_)
            | (refine wpList_load_rowG (by rfl) 34 _ rfl g' rfl 34 (exqC y).toArray (0, 0) _ (XQ.below HE.out HB.out).blk Try.underlying34 rfl (by kernel_rfl) ?_)
            | (go_at_call 5; with_reducible refine (HF.out _).mono ?_; rintro e w9 ⟨rfl, hb9⟩; replace HB := Aside0.mk (below_next HB.out hb9); clear hb9))
          go_ret
          exact ⟨rfl, below_next HW.out HB.out⟩
      · have h5 : (hh == 0) = false := by simpa using h3
        go_wp2_with (first
          | (refine wpList_load_rowG (by rfl) 30 _ rfl g rfl 30 (hstC x).toArray (0, 0) _ (XH.below HG.out HB.out).blk Try.underlying30 rfl (by kernel_rfl) ?_)
          | (refine wpList_load_rowG (by rfl) 34 _ rfl g' rfl 34 (exqC y).toArray (0, 0) _ (XQ.below HE.out HB.out).blk Try.underlying34 rfl (by kernel_rfl) ?_)
          | (go_at_call 5; with_reducible refine (HF.out _).mono ?_; rintro e w9 ⟨rfl, hb9⟩; replace HB := Aside0.mk (below_next HB.out hb9); clear hb9))
        go_ret
        exact ⟨rfl, below_next HW.out HB.out⟩
set_option maxHeartbeats 1000000 in
set_option maxRecDepth 100000 in
theorem one_any (w : World) (x : Hst) (y : Exq) (hx : HstOk w x) (hy : ExqOk w y) (hsx : ∀ a, x.attrs.a = some a → a.spot = none) (hsy : ∀ a, y.attrs.a = some a → a.spot = none) :
    Calls Try.prog 3 #[hstA x, exqA y] w fun e w' => e = .returned (.bool true) ∧ Below w.heap.size w w' := by
  obtain ⟨cl, hcl⟩ := rd_u64s hx.counts
  obtain ⟨bl, hbl⟩ := rd_u64s hx.bounds
  obtain ⟨pl, hpl⟩ := rd_u64s hy.pos.counts
  obtain ⟨nl, hnl⟩ := rd_u64s hy.neg.counts
  go_enter Try.func3, Try.ntmps3
  show (dropSeq 0 oneC).wp Try.prog _ _ w
  refine seq_step rfl (reg0 (fun g' hg' => ?_))
  subst hg'
  have hb0 : Below w.heap.size w ((w.alloc (.cells (hstC x).toArray 30)).alloc (.cells (exqC y).toArray 34)) := ((Below.refl _ _).alloc (Nat.le_refl _) _).alloc (by rw [alloc_size]; omega) _
  have hX : XH ((w.alloc (.cells (hstC x).toArray 30)).alloc (.cells (exqC y).toArray 34)) w.heap.size x := ⟨heap_alloc2_old w _ _⟩
  have hY : XQ ((w.alloc (.cells (hstC x).toArray 30)).alloc (.cells (exqC y).toArray 34)) (w.heap.size + 1) y := ⟨heap_alloc2_new w _ _⟩
  generalize (w.alloc (.cells (hstC x).toArray 30)).alloc (.cells (exqC y).toArray 34) = w1 at *
  refine seq_step rfl (reg1 (fun w2 hb2 => ?_))
  have hb := below_next hb0 hb2
  have hX2 := XH.below hX hb2
  have hY2 := XQ.below hY hb2
  refine seq_step rfl (one_room hb hX2 hY2 hx hy hsx hsy hcl hbl hpl hnl (fun ks ks2 u11 u12 u13 u14 u15 u16 u17 u18 u19 u20 u21 u22 u23 u24 u25 u26 u27 u28 u29 u30 u31 W hbW k1 k2 kf hi hj => ?_))
  exact one_tail _ _ _ _ _ _ _ _ _ _ _ _ _ _ _ _ _ _ _ _ _ (below_next hb hbW) (XH.below hX2 hbW) (XQ.below hY2 hbW) (Nat.le_refl _) (Nat.le_succ _) hx hy k1 k2 kf hcl hbl hpl hnl hi hj
end Go.Proofs.Ytdogokcoobpgdaa
