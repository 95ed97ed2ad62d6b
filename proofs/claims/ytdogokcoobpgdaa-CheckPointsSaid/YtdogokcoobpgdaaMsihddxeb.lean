import Derived.Test.YtdogokcoobpgdaaMzsmiysjl
import Derived.Great.Walk
import Derived.Laws.CopyOwn
namespace Go.Proofs.Ytdogokcoobpgdaa
open Go.RowKit Go.Proofs.YtdogokcoobpgdaaW.PrintWords Go.Proofs.YtdogokcoobpgdaaW.PrintLast Go.Proofs.YtdogokcoobpgdaaW.PrintMore

/-! ### a region of open order by what holds on the way -/
theorem count_set : ∀ (l : List Bool) (i : Nat), l[i]? = some false → (l.set i true).count false + 1 = l.count false
  | [], i, h => by simp at h
  | b :: l, 0, h => by
    simp only [List.getElem?_cons_zero, Option.some.injEq] at h
    subst h
    simp
  | b :: l, i + 1, h => by
    have h' : l[i]? = some false := by simpa using h
    have := count_set l i h'
    simp only [List.set_cons_succ, List.count_cons]
    omega
section
variable {P : Program} {ops : Array Oper} {Q : Exit → Act → World → Prop} {md : Region.Mode}
theorem wpOp_plain {i : Nat} {o : Oper} {K : Act → World → Prop} {a : Act} {w : World} (ho : ops[i]? = some o) (hg : o.guard = none) (h : o.wp P a w K Q) : wpOp P ops Q i K a w := by
  unfold wpOp
  rw [ho]
  show if Region.wanted o (yielded ops a.tmps) = true then _ else _
  rw [if_pos (by unfold Region.wanted; rw [hg])]
  exact .inl h
theorem wpAny_inv (I : Array Bool → Act → World → Prop)
    (hstep : ∀ listed a w i, I listed a w → i ∈ Region.ready md ops listed → wpOp P ops Q i (fun a' w' => I (listed.setIfInBounds i true) a' w') a w)
    (hdone : ∀ listed a w, I listed a w → Region.ready md ops listed = [] → Q .normal a w) :
    ∀ (n fuel : Nat) (listed : Array Bool) (a : Act) (w : World), listed.toList.count false = n → n ≤ fuel → I listed a w → wpAny P md ops Q fuel listed a w := by
  intro n
  induction n with
  | zero =>
    intro fuel listed a w hn _ hI
    have hr : Region.ready md ops listed = [] := by
      rcases hq : Region.ready md ops listed with _ | ⟨i, l⟩
      · rfl
      · have hm : i ∈ Region.ready md ops listed := by rw [hq]; exact List.mem_cons_self
        have h1 := (mem_ready.1 hm).1
        have h2 : listed.toList[i]? = some false := by
          rw [Array.getElem?_toList]
          cases hg : listed[i]? with
          | none => simp [Array.getD_eq_getD_getElem?, hg] at h1
          | some b => simp [Array.getD_eq_getD_getElem?, hg] at h1; rw [h1]
        have := count_set _ _ h2
        omega
    exact wpAny_done hr (hdone _ _ _ hI hr) fuel
  | succ n ih =>
    intro fuel listed a w hn hf hI
    obtain ⟨f, rfl⟩ : ∃ f, fuel = f + 1 := ⟨fuel - 1, by omega⟩
    refine ⟨fun hr => hdone _ _ _ hI hr, fun i hi => ?_⟩
    refine wpOp_mono (fun a' w' h' => ih f _ a' w' ?_ (by omega) h') (hstep _ _ _ i hI hi)
    have h1 := (mem_ready.1 hi).1
    have h2 : listed.toList[i]? = some false := by
      rw [Array.getElem?_toList]
      cases hg : listed[i]? with
      | none => simp [Array.getD_eq_getD_getElem?, hg] at h1
      | some b => simp [Array.getD_eq_getD_getElem?, hg] at h1; rw [h1]
    have := count_set _ _ h2
    rw [Array.toList_setIfInBounds]
    omega
theorem wp_alloc {o : Oper} {a : Act} {w : World} {K : Act → World → Prop} (t : TypeId) (ho : o.op = .alloc t) (z : Value) (hz : (P.info? t).map (·.zero) = some (some z))
    (h : K (a.put o.dst (.pointer (some ⟨w.heap.size, 0, none⟩))) (w.alloc (.cells z.cells t))) : o.wp P a w K Q := by
  cases hi : P.info? t with
  | none => rw [hi] at hz; simp at hz
  | some i =>
    rw [hi] at hz
    have hz' : i.zero = some z := by simpa using hz
    unfold Oper.wp execOp
    have hr : (Instr.alloc t true (.tuple #[])).run P w = .ok (.pointer (some ⟨w.heap.size, 0, none⟩)) (w.alloc (.cells z.cells t)) := by
      simp [Instr.alloc, zeroValue, typeInfo, hi, hz', newVar, newRow]
    simp only [ho, Sem.run_bind, hr, Sem.run_pure, Result.andThen_ok]
    exact h
theorem wpList_alloc {rest : List Oper} {o : Oper} {a : Act} {w : World} (hg : o.guard = none) (t : TypeId) (ho : o.op = .alloc t) (z : Value) (hz : (P.info? t).map (·.zero) = some (some z))
    (h : wpList P ops Q rest (a.put o.dst (.pointer (some ⟨w.heap.size, 0, none⟩))) (w.alloc (.cells z.cells t))) : wpList P ops Q (o :: rest) a w :=
  wpList_plain hg fun _ hK => wp_alloc t ho z hz (hK _ _ h)
end
/-! ### parts of a function's code -/
def dropSeq : Nat → Code → Code
  | 0, c => c
  | n + 1, .seq _ c => dropSeq n c
  | _ + 1, c => c
def headOps : Code → Array Oper
  | .seq c _ => headOps c
  | .region _ ops _ => ops
  | _ => #[]
end Go.Proofs.Ytdogokcoobpgdaa
namespace Go.Proofs.Ytdogokcoobpgdaa
open Go.RowKit Go.Proofs.YtdogokcoobpgdaaW.PrintWords Go.Proofs.YtdogokcoobpgdaaW.PrintLast Go.Proofs.YtdogokcoobpgdaaW.PrintMore

theorem blk_fz {w : World} {g t : Nat} {c : Array Value} (h : w.heap[g]? = some (.cells c t (0, 0))) (i : Nat) : w.frozen? ⟨g, i, none⟩ = false := by
  simp [World.frozen?, h]
theorem wp_code {P : Program} {c c1 c2 : Code} {Q : Exit → Act → World → Prop} {a : Act} {w : World} (h : c = Code.seq c1 c2) (hw : (Code.seq c1 c2).wp P Q a w) : c.wp P Q a w := h ▸ hw
def headC : Code → Code
  | .seq c _ => c
  | c => c
theorem wp_reg {P : Program} {c : Code} {n : Nat} {ops : Array Oper} {b : Bool} {Q : Exit → Act → World → Prop} {a : Act} {w : World} (h : c = Code.region n ops b) (hw : (Code.region n ops b).wp P Q a w) : c.wp P Q a w := h ▸ hw
theorem seq_step {P : Program} {n : Nat} {Q : Exit → Act → World → Prop} {a : Act} {w : World} {c : Code} (h : dropSeq n c = Code.seq (headC (dropSeq n c)) (dropSeq (n + 1) c))
    (hw : (headC (dropSeq n c)).wp P (Exit.then (fun a w => (dropSeq (n + 1) c).wp P Q a w) Q) a w) : (dropSeq n c).wp P Q a w := by
  rw [h]
  exact wp_seq hw
theorem below_copy {w0 w : World} (h : Below w0.heap.size w0 w) (o : Obj) (cs : Array Value) : Below w0.heap.size w0 ((w.alloc o).setRow w.heap.size cs) := below_setRow (h.alloc h.size o) h.size cs
theorem copy_at {w : World} (c cs : Array Value) (t : TypeId) : ((w.alloc (.cells c t)).setRow w.heap.size cs).heap[w.heap.size]? = some (.cells cs t (0, 0)) := setRow_heap _ _ _ _ _ _ (heap_alloc_new w _)
theorem wpList_allocZ {P : Program} {ops : Array Oper} {Q : Exit → Act → World → Prop} {rest : List Oper} {o : Oper} {a : Act} {w : World} (hg : o.guard = none) (t : TypeId) (ho : o.op = .alloc t) (cs : Array Value) (z : Value) (hz : (P.info? t).map (·.zero) = some (some z)) (hc : z.cells = cs)
    (h : wpList P ops Q rest (a.put o.dst (.pointer (some ⟨w.heap.size, 0, none⟩))) (w.alloc (.cells cs t))) : wpList P ops Q (o :: rest) a w := by
  subst hc
  exact wpList_alloc hg t ho z hz h
theorem wpList_load_rowG {P : Program} {ops : Array Oper} {rest : List Oper} {o : Oper} {a : Act} {w : World} {Q : Exit → Act → World → Prop} (hw : Region.wanted o (yielded ops a.tmps) = true) (ty : TypeId) (x : Operand) (ho : o.op = .load ty x)
    (g : Nat) (hx : a.eval x = .pointer (some ⟨g, 0, none⟩)) (t : TypeId) (cs : Array Value) (fr : Nat × Nat) (d : TypeDesc) (hg : w.heap[g]? = some (.cells cs t fr))
    (hu : P.underlying ty = some d) (hd : (match d with | .struct _ | .array _ _ => true | _ => false) = true) (hi : (P.info? ty).map (·.size) = some cs.size)
    (h : wpList P ops Q rest (a.put o.dst (.agg cs)) w) : wpList P ops Q (o :: rest) a w := by
  unfold wpList
  rw [if_pos hw]
  exact .inl (wp_load_row ty x ho g hx t cs fr d hg hu hd hi h)
/-- A function told an answer in every later world. -/
def Ans (w : World) (f : Nat) (v : Value) (r : Int) : Prop := ∀ W, Below w.heap.size w W → Calls Try.prog f #[v] W fun e W' => e = .returned (.int .i64 r) ∧ Below W.heap.size W W'
theorem Ans.at_ {w : World} {f : Nat} {v : Value} {r : Int} (h : Ans w f v r) (W : World) (hb : Below w.heap.size w W) : Calls Try.prog f #[v] W fun e W' => e = .returned (.int .i64 r) ∧ Below W.heap.size W W' := h W hb
end Go.Proofs.Ytdogokcoobpgdaa
