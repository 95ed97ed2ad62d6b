import Derived.Test.YtnghlkbmfhkmoaaGreatDoorMawrohoxn
import Derived.Test.YtnghlkbmfhkmoaaGreatDoorMbhwgezqr
import Derived.Test.YtnghlkbmfhkmoaaGreatDoorMkhvakyml
import Derived.Test.YtnghlkbmfhkmoaaGreatDoorMmyyqihvb
import Derived.Test.YtnghlkbmfhkmoaaGreatDoorMcjxepzge
import Derived.WalkKit
import Derived.Great.Walk
import Derived.Laws.CopyOwn
import Derived.Test.YtnghlkbmfhkmoaaGreatDoorProg
import Derived.LaidEql
import Derived.Stop.Asserts
import Derived.RowKitTokens
import Derived.Deep.LoopGhost
namespace Go.Proofs.YtnghlkbmfhkmoaaGreatDoor
open Go.RowKit Go.Proofs.YtnghlkbmfhkmoaaGreatDoorW.PrintWords Go.Proofs.YtnghlkbmfhkmoaaGreatDoorW.PrintLast Go.Proofs.YtnghlkbmfhkmoaaGreatDoorW.PrintMore
/-! ### how much there is: what is known of the answer -/
def tk (a0 a1 : Int) : Int := if a0 < 0 then -1 else if a1 > wrap64 (a0 - 20) then -1 else wrap64 (wrap64 (a0 - a1) - 20)
theorem take_q (a0 a1 : Int) (w : World) : Calls Tryz.prog 38 #[.int .i64 a0, .int .i64 a1] w fun e w' => e = .returned (.int .i64 (tk a0 a1)) ∧ Drawn0 w w' :=
  CExm.hygref_take.calls a0 a1 _ w (by
    unfold CExm.hygref_take.f tk
    by_cases h1 : a0 < 0
    · rw [if_pos h1, if_pos h1]
    · rw [if_neg h1, if_neg h1]
      by_cases h2 : a1 > wrap64 (a0 - 20)
      · rw [if_pos h2, if_pos h2]
      · rw [if_neg h2, if_neg h2])
theorem take_qq (a0 a1 : Int) (w : World) : Calls Tryz.prog 38 #[.int .i64 a0, .int .i64 a1] w fun e w' => e = .returned (.int .i64 (tk a0 a1)) ∧ ∃ m, w' = w.drewN m :=
  (take_q a0 a1 w).mono fun _ _ ⟨h1, ⟨m, h2⟩⟩ => ⟨h1, m, h2⟩
def RP (room : Int) (k : Nat) (r : Int) : Prop := -1 ≤ r ∧ r ≤ room ∧ (0 ≤ r → r + 20 * k ≤ room)
theorem tk_rp (room n : Int) (h : -1 ≤ room) (h2 : room ≤ 12000) (hn : 0 ≤ n) : RP room 1 (tk room n) := by
  unfold RP tk
  by_cases h1 : room < 0
  · rw [if_pos h1]; omega
  · rw [if_neg h1]
    have e1 : wrap64 (room - 20) = room - 20 := by unfold wrap64; omega
    rw [e1]
    by_cases h3 : n > room - 20
    · rw [if_pos h3]; omega
    · rw [if_neg h3]
      have e2 : wrap64 (room - n) = room - n := by unfold wrap64; omega
      rw [e2]
      have e3 : wrap64 (room - n - 20) = room - n - 20 := by unfold wrap64; omega
      rw [e3]
      omega
theorem RP.refl {room : Int} (h : -1 ≤ room) : RP room 0 room := ⟨h, Int.le_refl _, fun _ => by omega⟩
theorem RP.trans {a b c : Int} {j k : Nat} (h : RP a j b) (h' : RP b k c) : RP a (j + k) c := by
  obtain ⟨h1, h2, h3⟩ := h
  obtain ⟨k1, k2, k3⟩ := h'
  refine ⟨k1, by omega, fun h0 => ?_⟩
  have := k3 h0
  have := h3 (by omega)
  omega
theorem RP.less {a b : Int} {j k : Nat} (h : RP a j b) (hk : k ≤ j) : RP a k b := ⟨h.1, h.2.1, fun h0 => by have := h.2.2 h0; omega⟩
theorem RP.neg {a b : Int} {j : Nat} (k : Nat) (h : RP a j b) (hb : b < 0) : RP a k b := ⟨h.1, h.2.1, fun h0 => by omega⟩
theorem tk3 (room : Int) (a b c : Nat) (h : -1 ≤ room) (h2 : room ≤ 12000) : RP room 3 (tk (tk (tk room a) b) c) := by
  have r1 := tk_rp room a h h2 (by omega)
  have r2 := tk_rp (tk room a) b r1.1 (by have := r1.2.1; omega) (by omega)
  have r12 := r1.trans r2
  exact r12.trans (tk_rp (tk (tk room a) b) c r2.1 (by have := r12.2.1; omega) (by omega))
theorem tk2 (room : Int) (a b : Nat) (h : -1 ≤ room) (h2 : room ≤ 12000) : RP room 2 (tk (tk room a) b) := by
  have r1 := tk_rp room a h h2 (by omega)
  exact r1.trans (tk_rp (tk room a) b r1.1 (by have := r1.2.1; omega) (by omega))
/-! ### values, attributes -/
def vlA (v : Vl) : Value := .agg #[.int .i64 v.kind, .string v.s, .bool v.b, .int .u64 v.n, v.l.v, v.m.v, .string v.inner, .string v.unk]
/-- A value's block. -/
def XV (w : World) (g : Nat) (v : Vl) : Prop := w.heap[g]? = some (.cells #[.int .i64 v.kind, .string v.s, .bool v.b, .int .u64 v.n, v.l.v, v.m.v, .string v.inner, .string v.unk] 57 (0, 0))
theorem XV.c1 {w : World} {g : Nat} {v : Vl} (h : XV w g v) : w.cell? ⟨g, 1, none⟩ = some (.string v.s) := by rw [blk_cell h]; rfl
theorem XV.c4 {w : World} {g : Nat} {v : Vl} (h : XV w g v) : w.cell? ⟨g, 4, none⟩ = some (.slice v.l.a v.l.len v.l.cap) := by rw [blk_cell h]; rfl
theorem XV.c5 {w : World} {g : Nat} {v : Vl} (h : XV w g v) : w.cell? ⟨g, 5, none⟩ = some (.slice v.m.a v.m.len v.m.cap) := by rw [blk_cell h]; rfl
theorem XV.c6 {w : World} {g : Nat} {v : Vl} (h : XV w g v) : w.cell? ⟨g, 6, none⟩ = some (.string v.inner) := by rw [blk_cell h]; rfl
theorem XV.c7 {w : World} {g : Nat} {v : Vl} (h : XV w g v) : w.cell? ⟨g, 7, none⟩ = some (.string v.unk) := by rw [blk_cell h]; rfl
end Go.Proofs.YtnghlkbmfhkmoaaGreatDoor
namespace Go.Proofs.YtnghlkbmfhkmoaaGreatDoor
open Go.RowKit Go.Proofs.YtnghlkbmfhkmoaaGreatDoorW.PrintWords Go.Proofs.YtnghlkbmfhkmoaaGreatDoorW.PrintLast Go.Proofs.YtnghlkbmfhkmoaaGreatDoorW.PrintMore
end Go.Proofs.YtnghlkbmfhkmoaaGreatDoor
namespace Go.Proofs.YtnghlkbmfhkmoaaGreatDoor
open Go.RowKit Go.Proofs.YtnghlkbmfhkmoaaGreatDoorW.PrintWords Go.Proofs.YtnghlkbmfhkmoaaGreatDoorW.PrintLast Go.Proofs.YtnghlkbmfhkmoaaGreatDoorW.PrintMore
open Classical in
/-- The values of a slice, as they are read. -/
noncomputable def vls (W : World) (s : Sl) : List Vl := if h : ∃ l, SlAt 8 vlC VlOk W s l then h.choose else []
open Classical in
/-- The attributes of a slice, as they are read. -/
noncomputable def kvs (W : World) (s : Sl) : List Kv := if h : ∃ l, SlAt 11 kvC KvOk W s l then h.choose else []
theorem vls_at {W : World} {s : Sl} (h : Rd Tryz.prog W 55 [s.v]) : SlAt 8 vlC VlOk W s (vls W s) := by
  have h' := rd_vls h
  unfold vls
  rw [dif_pos h']
  exact h'.choose_spec
theorem kvs_at {W : World} {s : Sl} (h : Rd Tryz.prog W 22 [s.v]) : SlAt 11 kvC KvOk W s (kvs W s) := by
  have h' := rd_kvs h
  unfold kvs
  rw [dif_pos h']
  exact h'.choose_spec
/-- Read through within this depth. -/
def FinV (W : World) : Nat → Vl → Prop
  | 0, _ => False
  | d + 1, x => (∀ y ∈ vls W x.l, FinV W d y) ∧ ∀ y ∈ kvs W x.m, FinV W d y.v
theorem all_of_get {α : Type} {l : List α} {p : α → Prop} (h : ∀ j y, j < l.length → l[j]? = some y → p y) : ∀ y ∈ l, p y := by
  intro y hy
  obtain ⟨j, hj, e⟩ := List.mem_iff_getElem.1 hy
  exact h j y hj (by rw [List.getElem?_eq_getElem hj, e])
theorem get_next {α : Type} {l : List α} {p : α → Prop} {i : Nat} {x : α} (h : ∀ j y, j < i → l[j]? = some y → p y) (hx : l[i]? = some x) (hp : p x) : ∀ j y, j < i + 1 → l[j]? = some y → p y := by
  intro j y hj hy
  by_cases hji : j < i
  · exact h j y hji hy
  · obtain rfl : j = i := by omega
    rw [hx] at hy
    injection hy with hy
    subst hy
    exact hp
end Go.Proofs.YtnghlkbmfhkmoaaGreatDoor
namespace Go.Proofs.YtnghlkbmfhkmoaaGreatDoor
open Go.RowKit Go.Proofs.YtnghlkbmfhkmoaaGreatDoorW.PrintWords Go.Proofs.YtnghlkbmfhkmoaaGreatDoorW.PrintLast Go.Proofs.YtnghlkbmfhkmoaaGreatDoorW.PrintMore
/-! ### values alike, however deep -/
def stB (s t : ByteArray) : Bool := s.toList == t.toList
end Go.Proofs.YtnghlkbmfhkmoaaGreatDoor
namespace Go.Proofs.YtnghlkbmfhkmoaaGreatDoor
open Go.RowKit Go.Proofs.YtnghlkbmfhkmoaaGreatDoorW.PrintWords Go.Proofs.YtnghlkbmfhkmoaaGreatDoorW.PrintLast Go.Proofs.YtnghlkbmfhkmoaaGreatDoorW.PrintMore
/-! ### the document's Key -/
structure XK (w : World) (g : Nat) (x : Kv) : Prop where
  blk : w.heap[g]? = some (.cells (kvC x).toArray 59 (0, 0))
section
variable {w w' : World} {g : Nat} {x : Kv}
theorem XK.c0 (h : XK w g x) : w.cell? ⟨g, 0, none⟩ = some (.string x.key) := by rw [blk_cell h.blk]; rfl
theorem XK.c1 (h : XK w g x) : w.cell? ⟨g, 1, none⟩ = some (.bool x.has) := by rw [blk_cell h.blk]; rfl
theorem XK.c2 (h : XK w g x) : w.cell? ⟨g, 2, none⟩ = some (.int .i64 x.v.kind) := by rw [blk_cell h.blk]; rfl
theorem XK.c3 (h : XK w g x) : w.cell? ⟨g, 3, none⟩ = some (.string x.v.s) := by rw [blk_cell h.blk]; rfl
theorem XK.c4 (h : XK w g x) : w.cell? ⟨g, 4, none⟩ = some (.bool x.v.b) := by rw [blk_cell h.blk]; rfl
theorem XK.c5 (h : XK w g x) : w.cell? ⟨g, 5, none⟩ = some (.int .u64 x.v.n) := by rw [blk_cell h.blk]; rfl
theorem XK.c6 (h : XK w g x) : w.cell? ⟨g, 6, none⟩ = some (.slice x.v.l.a x.v.l.len x.v.l.cap) := by rw [blk_cell h.blk]; rfl
theorem XK.c7 (h : XK w g x) : w.cell? ⟨g, 7, none⟩ = some (.slice x.v.m.a x.v.m.len x.v.m.cap) := by rw [blk_cell h.blk]; rfl
theorem XK.c8 (h : XK w g x) : w.cell? ⟨g, 8, none⟩ = some (.string x.v.inner) := by rw [blk_cell h.blk]; rfl
theorem XK.c9 (h : XK w g x) : w.cell? ⟨g, 9, none⟩ = some (.string x.v.unk) := by rw [blk_cell h.blk]; rfl
theorem XK.c10 (h : XK w g x) : w.cell? ⟨g, 10, none⟩ = some (.string x.unk) := by rw [blk_cell h.blk]; rfl
theorem XK.below (h : XK w g x) (hb : Below w.heap.size w w') : XK w' g x := ⟨blk_below h.blk hb⟩
end
end Go.Proofs.YtnghlkbmfhkmoaaGreatDoor
namespace Go.Proofs.YtnghlkbmfhkmoaaGreatDoor
open Go.RowKit Go.Proofs.YtnghlkbmfhkmoaaGreatDoorW.PrintWords Go.Proofs.YtnghlkbmfhkmoaaGreatDoorW.PrintLast Go.Proofs.YtnghlkbmfhkmoaaGreatDoorW.PrintMore
/-! ### the document's Keys -/
theorem ld_at {P : Program} {o : Oper} {a : Act} {w : World} (ty : TypeId) (x : Operand) (ho : o.op = .load ty x) (ad : Addr) (hx : a.eval x = .pointer (some ad)) (cs : List Value) (hc : ∀ j v, cs[j]? = some v → w.cell? (ad.add j) = some v)
    {d : TypeDesc} (hu : P.underlying ty = some d) (hd : (match d with | .struct _ | .array _ _ => true | _ => false) = true) (hi : (P.info? ty).map (·.size) = some cs.length) : (execOp a.eval o).run P w = .ok (.value (.agg cs.toArray)) w := by
  have hl := run_loadCells_list (P := P) w ad cs hc
  have hagg : (isAgg ty).run P w = .ok true w := by
    unfold isAgg
    rw [Sem.run_bind, run_underlying hu w]
    cases d <;> simp_all
  have hrun : (loadVar ty ad).run P w = .ok (.agg cs.toArray) w := by
    cases hq : P.info? ty with
    | none => simp [hq] at hi
    | some i =>
      have hs : i.size = cs.length := by simpa [hq] using hi
      simp [loadVar, Sem.run_bind, hagg, sizeOf, typeInfo, hq, hs, hl]
  unfold execOp
  simp only [ho, hx, Instr.loadAt, Instr.sureAddr, Sem.run_bind, Sem.run_pure, Result.andThen_ok, hrun]
theorem cells_below {w w' : World} {p : Addr} {cs : List Value} (hb : Below w.heap.size w w') (h : ∀ j v, cs[j]? = some v → w.cell? (p.add j) = some v) : ∀ j v, cs[j]? = some v → w'.cell? (p.add j) = some v := fun j v hv => pw_cell_below hb (h j v hv)
theorem kv_cells {W : World} {a : Addr} {x : Kv} (h : ∀ j, j < 11 → W.cell? (a.add j) = (kvC x)[j]?) : ∀ j v, (kvC x)[j]? = some v → W.cell? (a.add j) = some v := by
  intro j v hv
  have hj : j < 11 := by
    rcases Nat.lt_or_ge j 11 with h | h
    · exact h
    · rw [List.getElem?_eq_none (show (kvC x).length ≤ j from h)] at hv; cases hv
  rw [h j hj, hv]
end Go.Proofs.YtnghlkbmfhkmoaaGreatDoor
namespace Go.Proofs.YtnghlkbmfhkmoaaGreatDoor
open Go.RowKit Go.Proofs.YtnghlkbmfhkmoaaGreatDoorW.PrintWords Go.Proofs.YtnghlkbmfhkmoaaGreatDoorW.PrintLast Go.Proofs.YtnghlkbmfhkmoaaGreatDoorW.PrintMore
/-! ### the document's Value -/
structure XVl (w : World) (g : Nat) (x : Vl) : Prop where
  blk : w.heap[g]? = some (.cells (vlC x).toArray 57 (0, 0))
section
variable {w w' : World} {g : Nat} {x : Vl}
theorem XVl.c0 (h : XVl w g x) : w.cell? ⟨g, 0, none⟩ = some (.int .i64 x.kind) := by rw [blk_cell h.blk]; rfl
theorem XVl.c1 (h : XVl w g x) : w.cell? ⟨g, 1, none⟩ = some (.string x.s) := by rw [blk_cell h.blk]; rfl
theorem XVl.c2 (h : XVl w g x) : w.cell? ⟨g, 2, none⟩ = some (.bool x.b) := by rw [blk_cell h.blk]; rfl
theorem XVl.c3 (h : XVl w g x) : w.cell? ⟨g, 3, none⟩ = some (.int .u64 x.n) := by rw [blk_cell h.blk]; rfl
theorem XVl.c4 (h : XVl w g x) : w.cell? ⟨g, 4, none⟩ = some (.slice x.l.a x.l.len x.l.cap) := by rw [blk_cell h.blk]; rfl
theorem XVl.c5 (h : XVl w g x) : w.cell? ⟨g, 5, none⟩ = some (.slice x.m.a x.m.len x.m.cap) := by rw [blk_cell h.blk]; rfl
theorem XVl.c6 (h : XVl w g x) : w.cell? ⟨g, 6, none⟩ = some (.string x.inner) := by rw [blk_cell h.blk]; rfl
theorem XVl.c7 (h : XVl w g x) : w.cell? ⟨g, 7, none⟩ = some (.string x.unk) := by rw [blk_cell h.blk]; rfl
theorem XVl.below (h : XVl w g x) (hb : Below w.heap.size w w') : XVl w' g x := ⟨blk_below h.blk hb⟩
end
theorem vl_cells {W : World} {a : Addr} {x : Vl} (h : ∀ j, j < 8 → W.cell? (a.add j) = (vlC x)[j]?) : ∀ j v, (vlC x)[j]? = some v → W.cell? (a.add j) = some v := by
  intro j v hv
  have hj : j < 8 := by
    rcases Nat.lt_or_ge j 8 with h | h
    · exact h
    · rw [List.getElem?_eq_none (show (vlC x).length ≤ j from h)] at hv; cases hv
  rw [h j hj, hv]
end Go.Proofs.YtnghlkbmfhkmoaaGreatDoor
namespace Go.Proofs.YtnghlkbmfhkmoaaGreatDoor
open Go.RowKit Go.Proofs.YtnghlkbmfhkmoaaGreatDoorW.PrintWords Go.Proofs.YtnghlkbmfhkmoaaGreatDoorW.PrintLast Go.Proofs.YtnghlkbmfhkmoaaGreatDoorW.PrintMore
/-! ### the document's Value, its list -/
structure XS (w : World) (g : Nat) (s : Sl) : Prop where
  c : w.cell? ⟨g, 4, none⟩ = some (.slice s.a s.len s.cap)
theorem XS.below {w w' : World} {g : Nat} {s : Sl} (h : XS w g s) (hb : Below w.heap.size w w') : XS w' g s := ⟨pw_cell_below hb h.c⟩
end Go.Proofs.YtnghlkbmfhkmoaaGreatDoor
namespace Go.Proofs.YtnghlkbmfhkmoaaGreatDoor
open Go.RowKit Go.Proofs.YtnghlkbmfhkmoaaGreatDoorW.PrintWords Go.Proofs.YtnghlkbmfhkmoaaGreatDoorW.PrintLast Go.Proofs.YtnghlkbmfhkmoaaGreatDoorW.PrintMore
/-! ### the document's Value, Keys, however deep -/
end Go.Proofs.YtnghlkbmfhkmoaaGreatDoor
namespace Go.Proofs.YtnghlkbmfhkmoaaGreatDoor
open Go.RowKit Go.Proofs.YtnghlkbmfhkmoaaGreatDoorW.PrintWords Go.Proofs.YtnghlkbmfhkmoaaGreatDoorW.PrintLast Go.Proofs.YtnghlkbmfhkmoaaGreatDoorW.PrintMore
/-- An exemplar's block. -/
def XE (w : World) (g : Nat) (a : Value) (t k n : Int) (sp tr u : ByteArray) : Prop := w.heap[g]? = some (.cells #[a, .int .u64 t, .int .i64 k, .int .u64 n, .string sp, .string tr, .string u] 25 (0, 0))
section
variable {w : World} {g : Nat} {a : Value} {t k n : Int} {sp tr u : ByteArray}
theorem XE.c0 (h : XE w g a t k n sp tr u) : w.cell? ⟨g, 0, none⟩ = some a := by rw [blk_cell h]; rfl
theorem XE.c1 (h : XE w g a t k n sp tr u) : w.cell? ⟨g, 1, none⟩ = some (.int .u64 t) := by rw [blk_cell h]; rfl
theorem XE.c2 (h : XE w g a t k n sp tr u) : w.cell? ⟨g, 2, none⟩ = some (.int .i64 k) := by rw [blk_cell h]; rfl
theorem XE.c3 (h : XE w g a t k n sp tr u) : w.cell? ⟨g, 3, none⟩ = some (.int .u64 n) := by rw [blk_cell h]; rfl
theorem XE.c4 (h : XE w g a t k n sp tr u) : w.cell? ⟨g, 4, none⟩ = some (.string sp) := by rw [blk_cell h]; rfl
theorem XE.c5 (h : XE w g a t k n sp tr u) : w.cell? ⟨g, 5, none⟩ = some (.string tr) := by rw [blk_cell h]; rfl
theorem XE.c6 (h : XE w g a t k n sp tr u) : w.cell? ⟨g, 6, none⟩ = some (.string u) := by rw [blk_cell h]; rfl
theorem XE.fz (h : XE w g a t k n sp tr u) (i : Nat) : w.frozen? ⟨g, i, none⟩ = false := blk_frozen h i
def exSt (w : World) (x : Nat) (a' : Value) (t' k' n' : Int) (sp' tr' u' : ByteArray) : World :=
  ((((((w.setCell ⟨x, 0, none⟩ a').setCell ⟨x, 1, none⟩ (.int .u64 t')).setCell ⟨x, 2, none⟩ (.int .i64 k')).setCell ⟨x, 3, none⟩ (.int .u64 n')).setCell ⟨x, 4, none⟩ (.string sp')).setCell ⟨x, 5, none⟩ (.string tr')).setCell ⟨x, 6, none⟩ (.string u')
theorem XE.all (h : XE w g a t k n sp tr u) (a' : Value) (t' k' n' : Int) (sp' tr' u' : ByteArray) : XE (exSt w g a' t' k' n' sp' tr' u') g a' t' k' n' sp' tr' u' := by
  unfold XE exSt
  rw [blk_set (blk_set (blk_set (blk_set (blk_set (blk_set (blk_set h 0 _) 1 _) 2 _) 3 _) 4 _) 5 _) 6 _]
  rfl
end
theorem ex_kp (w : World) (x : Nat) (a' : Value) (t' k' n' : Int) (sp' tr' u' : ByteArray) : Kp (fun k => k = x) w (exSt w x a' t' k' n' sp' tr' u') :=
  (((((((Kp.refl (fun k => k = x) w).set (p := ⟨x, 0, none⟩) rfl _).set (p := ⟨x, 1, none⟩) rfl _).set (p := ⟨x, 2, none⟩) rfl _).set (p := ⟨x, 3, none⟩) rfl _).set (p := ⟨x, 4, none⟩) rfl _).set (p := ⟨x, 5, none⟩) rfl _).set (p := ⟨x, 6, none⟩) rfl _
end Go.Proofs.YtnghlkbmfhkmoaaGreatDoor
namespace Go.Proofs.YtnghlkbmfhkmoaaGreatDoor
open Go.RowKit Go.Proofs.YtnghlkbmfhkmoaaGreatDoorW.PrintWords Go.Proofs.YtnghlkbmfhkmoaaGreatDoorW.PrintLast Go.Proofs.YtnghlkbmfhkmoaaGreatDoorW.PrintMore
/-! ### a region of open order by what holds on the way -/
section
variable {P : Program} {ops : Array Oper} {Q : Exit → Act → World → Prop} {md : Region.Mode}
theorem wp_alloc {o : Oper} {a : Act} {w : World} {K : Act → World → Prop} (t : TypeId) (ho : o.op = .alloc t) (z : Value) (hz : (P.info? t).map (·.zero) = some (some z))
    (h : K (a.put o.dst (.pointer (some ⟨w.heap.size, 0, none⟩))) (w.alloc (.cells z.cells t))) : o.wp P a w K Q := by
  cases hi : P.info? t with
  | none => rw [hi] at hz; simp at hz
  | some i =>
    rw [hi] at hz
    have hz' : i.zero = some z := by simpa using hz
    unfold Oper.wp execOp
    have hr : (Instr.alloc t true (.tuple #[])).run P w = .ok (.pointer (some ⟨w.heap.size, 0, none⟩)) (w.alloc (.cells z.cells t)) := by
      simp [Instr.alloc, zeroValue, typeInfo, hi, hz', newVar, newRow]
    simp only [ho, Sem.run_bind, hr, Sem.run_pure, Result.andThen_ok]
    exact h
theorem wpList_alloc {rest : List Oper} {o : Oper} {a : Act} {w : World} (hg : o.guard = none) (t : TypeId) (ho : o.op = .alloc t) (z : Value) (hz : (P.info? t).map (·.zero) = some (some z))
    (h : wpList P ops Q rest (a.put o.dst (.pointer (some ⟨w.heap.size, 0, none⟩))) (w.alloc (.cells z.cells t))) : wpList P ops Q (o :: rest) a w :=
  wpList_plain hg fun _ hK => wp_alloc t ho z hz (hK _ _ h)
end
/-! ### parts of a function's code -/
end Go.Proofs.YtnghlkbmfhkmoaaGreatDoor
namespace Go.Proofs.YtnghlkbmfhkmoaaGreatDoor
open Go.RowKit Go.Proofs.YtnghlkbmfhkmoaaGreatDoorW.PrintWords Go.Proofs.YtnghlkbmfhkmoaaGreatDoorW.PrintLast Go.Proofs.YtnghlkbmfhkmoaaGreatDoorW.PrintMore
theorem blk_fz {w : World} {g t : Nat} {c : Array Value} (h : w.heap[g]? = some (.cells c t (0, 0))) (i : Nat) : w.frozen? ⟨g, i, none⟩ = false := by
  simp [World.frozen?, h]
theorem below_copy {w0 w : World} (h : Below w0.heap.size w0 w) (o : Obj) (cs : Array Value) : Below w0.heap.size w0 ((w.alloc o).setRow w.heap.size cs) := below_setRow (h.alloc h.size o) h.size cs
theorem copy_at {w : World} (c cs : Array Value) (t : TypeId) : ((w.alloc (.cells c t)).setRow w.heap.size cs).heap[w.heap.size]? = some (.cells cs t (0, 0)) := setRow_heap _ _ _ _ _ _ (heap_alloc_new w _)
theorem wpList_allocZ {P : Program} {ops : Array Oper} {Q : Exit → Act → World → Prop} {rest : List Oper} {o : Oper} {a : Act} {w : World} (hg : o.guard = none) (t : TypeId) (ho : o.op = .alloc t) (cs : Array Value) (z : Value) (hz : (P.info? t).map (·.zero) = some (some z)) (hc : z.cells = cs)
    (h : wpList P ops Q rest (a.put o.dst (.pointer (some ⟨w.heap.size, 0, none⟩))) (w.alloc (.cells cs t))) : wpList P ops Q (o :: rest) a w := by
  subst hc
  exact wpList_alloc hg t ho z hz h
theorem wpList_load_rowG {P : Program} {ops : Array Oper} {rest : List Oper} {o : Oper} {a : Act} {w : World} {Q : Exit → Act → World → Prop} (hw : Region.wanted o (yielded ops a.tmps) = true) (ty : TypeId) (x : Operand) (ho : o.op = .load ty x)
    (g : Nat) (hx : a.eval x = .pointer (some ⟨g, 0, none⟩)) (t : TypeId) (cs : Array Value) (fr : Nat × Nat) (d : TypeDesc) (hg : w.heap[g]? = some (.cells cs t fr))
    (hu : P.underlying ty = some d) (hd : (match d with | .struct _ | .array _ _ => true | _ => false) = true) (hi : (P.info? ty).map (·.size) = some cs.size)
    (h : wpList P ops Q rest (a.put o.dst (.agg cs)) w) : wpList P ops Q (o :: rest) a w := by
  unfold wpList
  rw [if_pos hw]
  exact .inl (wp_load_row ty x ho g hx t cs fr d hg hu hd hi h)
/-- A function told an answer in every later world. -/
def Ans (w : World) (f : Nat) (v : Value) (r : Int) : Prop := ∀ W, Below w.heap.size w W → Calls Tryz.prog f #[v] W fun e W' => e = .returned (.int .i64 r) ∧ Below W.heap.size W W'
theorem Ans.at_ {w : World} {f : Nat} {v : Value} {r : Int} (h : Ans w f v r) (W : World) (hb : Below w.heap.size w W) : Calls Tryz.prog f #[v] W fun e W' => e = .returned (.int .i64 r) ∧ Below W.heap.size W W' := h W hb
end Go.Proofs.YtnghlkbmfhkmoaaGreatDoor
namespace Go.Proofs.YtnghlkbmfhkmoaaGreatDoor
open Go.RowKit Go.Proofs.YtnghlkbmfhkmoaaGreatDoorW.PrintWords Go.Proofs.YtnghlkbmfhkmoaaGreatDoorW.PrintLast Go.Proofs.YtnghlkbmfhkmoaaGreatDoorW.PrintMore
/-! ### slices.EqualFunc at values and at attributes -/
theorem wpList_load_at {P : Program} {ops : Array Oper} {rest : List Oper} {o : Oper} {a : Act} {w : World} {Q : Exit → Act → World → Prop} (hgd : o.guard = none) (ty : TypeId) (x : Operand) (ho : o.op = .load ty x) (ad : Addr) (hx : a.eval x = .pointer (some ad)) (cs : List Value)
    (hc : ∀ j v, cs[j]? = some v → w.cell? (ad.add j) = some v) {d : TypeDesc} (hu : P.underlying ty = some d) (hd : (match d with | .struct _ | .array _ _ => true | _ => false) = true) (hi : (P.info? ty).map (·.size) = some cs.length)
    (h : wpList P ops Q rest (a.put o.dst (.agg cs.toArray)) w) : wpList P ops Q (o :: rest) a w :=
  wpList_plain hgd fun _ hK => by
    have hr := ld_at (P := P) (o := o) (a := a) (w := w) ty x ho ad hx cs hc hu hd hi
    unfold Oper.wp
    simp only [hr]
    exact hK _ _ h
/-- A function that answers so in every later world. -/
def CB (w : World) (f : Nat) (args : Array Value) (r : Bool) : Prop := ∀ w2, Below w.heap.size w w2 → Calls Tryz.prog f args w2 fun e w' => e = .returned (.bool r) ∧ Below w2.heap.size w2 w'
noncomputable def zeroV : Value := ((Tryz.prog.info? 57).bind (·.zero)).getD undef
noncomputable def zcV : Array Value := zeroV.cells
theorem zcV_sz : zcV.size = 8 := by kernel_rfl
theorem vlC_all (x : Vl) : (vlC x).toArray.all (·.oneCell') = true := Array.all_eq_true_iff_forall_mem.2 (fun v hv => vl_one x v (by simpa using hv))
noncomputable def zeroK : Value := ((Tryz.prog.info? 59).bind (·.zero)).getD undef
noncomputable def zcK : Array Value := zeroK.cells
theorem zcK_sz : zcK.size = 11 := by kernel_rfl
theorem kvC_all (x : Kv) : (kvC x).toArray.all (·.oneCell') = true := Array.all_eq_true_iff_forall_mem.2 (fun v hv => kv_one x v (by simpa using hv))
end Go.Proofs.YtnghlkbmfhkmoaaGreatDoor
namespace Go.Proofs.YtnghlkbmfhkmoaaGreatDoor
open Go.RowKit Go.Proofs.YtnghlkbmfhkmoaaGreatDoorW.PrintWords Go.Proofs.YtnghlkbmfhkmoaaGreatDoorW.PrintLast Go.Proofs.YtnghlkbmfhkmoaaGreatDoorW.PrintMore
/-! ### value.SameKey, SameKeys -/
end Go.Proofs.YtnghlkbmfhkmoaaGreatDoor
namespace Go.Proofs.YtnghlkbmfhkmoaaGreatDoor
open Go.RowKit Go.Proofs.YtnghlkbmfhkmoaaGreatDoorW.PrintWords Go.Proofs.YtnghlkbmfhkmoaaGreatDoorW.PrintLast Go.Proofs.YtnghlkbmfhkmoaaGreatDoorW.PrintMore
/-! ### value.Same -/
set_option maxHeartbeats 4000000 in
set_option maxRecDepth 100000 in
theorem sval_0 (w : World) (a b : Vl) (e0 : ¬ a.kind = b.kind) :
    Calls Tryz.prog 62 #[.agg (vlC a).toArray, .agg (vlC b).toArray] w fun e w' => e = .returned (.bool false) ∧ Below w.heap.size w w' := by
  have hX : XVl ((w.alloc (.cells (vlC a).toArray 57)).alloc (.cells (vlC b).toArray 57)) w.heap.size a := XVl.below ⟨heap_alloc_new w _⟩ ((Below.refl _ _).alloc (Nat.le_refl _) _)
  have hY : XVl ((w.alloc (.cells (vlC a).toArray 57)).alloc (.cells (vlC b).toArray 57)) (w.heap.size + 1) b := ⟨by have h := heap_alloc_new (w.alloc (.cells (vlC a).toArray 57)) (.cells (vlC b).toArray 57); simp only [World.size_alloc] at h; exact h⟩
  have HB : Aside0 (Below w.heap.size w ((w.alloc (.cells (vlC a).toArray 57)).alloc (.cells (vlC b).toArray 57))) := ⟨((Below.refl _ _).alloc (Nat.le_refl _) _).alloc (by simp only [World.size_alloc]; omega) _⟩
  have HX := Aside0.mk hX
  have HY := Aside0.mk hY
  clear hX hY
  go_enter Tryz.func62, Tryz.ntmps62
  go_upto_region 1 with (first
    | ((with_reducible refine gate_dst (N := 2) rfl ?_); refine Great.wpList_boxTo rfl 57 _ rfl _ rfl w.heap.size rfl (vlC a).toArray rfl ?_)
    | ((with_reducible refine gate_dst (N := 3) rfl ?_); refine Great.wpList_boxTo rfl 57 _ rfl _ rfl (w.heap.size + 1) (by simp only [World.size_alloc]) (vlC b).toArray rfl ?_))
  generalize ((w.alloc (.cells (vlC a).toArray 57)).alloc (.cells (vlC b).toArray 57)) = w1 at *
  have x0 := HX.out.c0
  have y0 := HY.out.c0
  have x1 := HX.out.c1
  have y1 := HY.out.c1
  have x2 := HX.out.c2
  have y2 := HY.out.c2
  have x3 := HX.out.c3
  have y3 := HY.out.c3
  have x4 := HX.out.c4
  have y4 := HY.out.c4
  have x5 := HX.out.c5
  have y5 := HY.out.c5
  have x6 := HX.out.c6
  have y6 := HY.out.c6
  have x7 := HX.out.c7
  have y7 := HY.out.c7
  have f0 : (a.kind == b.kind) = false := by rw [beq_eq_false_iff_ne]; exact e0
  clear HX HY
  go_wp2_with fail
  go_ret
  exact ⟨rfl, HB.out⟩
set_option maxHeartbeats 4000000 in
set_option maxRecDepth 100000 in
theorem sval_1 (w : World) (a b : Vl) (e0 : a.kind = b.kind) (e1 : (a.s.toList == b.s.toList) = false) :
    Calls Tryz.prog 62 #[.agg (vlC a).toArray, .agg (vlC b).toArray] w fun e w' => e = .returned (.bool false) ∧ Below w.heap.size w w' := by
  have hX : XVl ((w.alloc (.cells (vlC a).toArray 57)).alloc (.cells (vlC b).toArray 57)) w.heap.size a := XVl.below ⟨heap_alloc_new w _⟩ ((Below.refl _ _).alloc (Nat.le_refl _) _)
  have hY : XVl ((w.alloc (.cells (vlC a).toArray 57)).alloc (.cells (vlC b).toArray 57)) (w.heap.size + 1) b := ⟨by have h := heap_alloc_new (w.alloc (.cells (vlC a).toArray 57)) (.cells (vlC b).toArray 57); simp only [World.size_alloc] at h; exact h⟩
  have HB : Aside0 (Below w.heap.size w ((w.alloc (.cells (vlC a).toArray 57)).alloc (.cells (vlC b).toArray 57))) := ⟨((Below.refl _ _).alloc (Nat.le_refl _) _).alloc (by simp only [World.size_alloc]; omega) _⟩
  have HX := Aside0.mk hX
  have HY := Aside0.mk hY
  clear hX hY
  go_enter Tryz.func62, Tryz.ntmps62
  go_upto_region 1 with (first
    | ((with_reducible refine gate_dst (N := 2) rfl ?_); refine Great.wpList_boxTo rfl 57 _ rfl _ rfl w.heap.size rfl (vlC a).toArray rfl ?_)
    | ((with_reducible refine gate_dst (N := 3) rfl ?_); refine Great.wpList_boxTo rfl 57 _ rfl _ rfl (w.heap.size + 1) (by simp only [World.size_alloc]) (vlC b).toArray rfl ?_))
  generalize ((w.alloc (.cells (vlC a).toArray 57)).alloc (.cells (vlC b).toArray 57)) = w1 at *
  have x0 := HX.out.c0
  have y0 := HY.out.c0
  have x1 := HX.out.c1
  have y1 := HY.out.c1
  have x2 := HX.out.c2
  have y2 := HY.out.c2
  have x3 := HX.out.c3
  have y3 := HY.out.c3
  have x4 := HX.out.c4
  have y4 := HY.out.c4
  have x5 := HX.out.c5
  have y5 := HY.out.c5
  have x6 := HX.out.c6
  have y6 := HY.out.c6
  have x7 := HX.out.c7
  have y7 := HY.out.c7
  rw [← e0] at y0
  clear HX HY
  go_wp2_with fail
  go_ret
  exact ⟨rfl, HB.out⟩
set_option maxHeartbeats 4000000 in
set_option maxRecDepth 100000 in
theorem sval_2 (w : World) (a b : Vl) (e0 : a.kind = b.kind) (e1 : (a.s.toList == b.s.toList) = true) (e2 : ¬ a.b = b.b) :
    Calls Tryz.prog 62 #[.agg (vlC a).toArray, .agg (vlC b).toArray] w fun e w' => e = .returned (.bool false) ∧ Below w.heap.size w w' := by
  have hX : XVl ((w.alloc (.cells (vlC a).toArray 57)).alloc (.cells (vlC b).toArray 57)) w.heap.size a := XVl.below ⟨heap_alloc_new w _⟩ ((Below.refl _ _).alloc (Nat.le_refl _) _)
  have hY : XVl ((w.alloc (.cells (vlC a).toArray 57)).alloc (.cells (vlC b).toArray 57)) (w.heap.size + 1) b := ⟨by have h := heap_alloc_new (w.alloc (.cells (vlC a).toArray 57)) (.cells (vlC b).toArray 57); simp only [World.size_alloc] at h; exact h⟩
  have HB : Aside0 (Below w.heap.size w ((w.alloc (.cells (vlC a).toArray 57)).alloc (.cells (vlC b).toArray 57))) := ⟨((Below.refl _ _).alloc (Nat.le_refl _) _).alloc (by simp only [World.size_alloc]; omega) _⟩
  have HX := Aside0.mk hX
  have HY := Aside0.mk hY
  clear hX hY
  go_enter Tryz.func62, Tryz.ntmps62
  go_upto_region 1 with (first
    | ((with_reducible refine gate_dst (N := 2) rfl ?_); refine Great.wpList_boxTo rfl 57 _ rfl _ rfl w.heap.size rfl (vlC a).toArray rfl ?_)
    | ((with_reducible refine gate_dst (N := 3) rfl ?_); refine Great.wpList_boxTo rfl 57 _ rfl _ rfl (w.heap.size + 1) (by simp only [World.size_alloc]) (vlC b).toArray rfl ?_))
  generalize ((w.alloc (.cells (vlC a).toArray 57)).alloc (.cells (vlC b).toArray 57)) = w1 at *
  have x0 := HX.out.c0
  have y0 := HY.out.c0
  have x1 := HX.out.c1
  have y1 := HY.out.c1
  have x2 := HX.out.c2
  have y2 := HY.out.c2
  have x3 := HX.out.c3
  have y3 := HY.out.c3
  have x4 := HX.out.c4
  have y4 := HY.out.c4
  have x5 := HX.out.c5
  have y5 := HY.out.c5
  have x6 := HX.out.c6
  have y6 := HY.out.c6
  have x7 := HX.out.c7
  have y7 := HY.out.c7
  rw [← e0] at y0
  have f2 : (a.b == b.b) = false := by rw [beq_eq_false_iff_ne]; exact e2
  clear HX HY
  go_wp2_with fail
  go_ret
  exact ⟨rfl, HB.out⟩
set_option maxHeartbeats 4000000 in
set_option maxRecDepth 100000 in
theorem sval_3 (w : World) (a b : Vl) (e0 : a.kind = b.kind) (e1 : (a.s.toList == b.s.toList) = true) (e2 : a.b = b.b) (e3 : ¬ a.n = b.n) :
    Calls Tryz.prog 62 #[.agg (vlC a).toArray, .agg (vlC b).toArray] w fun e w' => e = .returned (.bool false) ∧ Below w.heap.size w w' := by
  have hX : XVl ((w.alloc (.cells (vlC a).toArray 57)).alloc (.cells (vlC b).toArray 57)) w.heap.size a := XVl.below ⟨heap_alloc_new w _⟩ ((Below.refl _ _).alloc (Nat.le_refl _) _)
  have hY : XVl ((w.alloc (.cells (vlC a).toArray 57)).alloc (.cells (vlC b).toArray 57)) (w.heap.size + 1) b := ⟨by have h := heap_alloc_new (w.alloc (.cells (vlC a).toArray 57)) (.cells (vlC b).toArray 57); simp only [World.size_alloc] at h; exact h⟩
  have HB : Aside0 (Below w.heap.size w ((w.alloc (.cells (vlC a).toArray 57)).alloc (.cells (vlC b).toArray 57))) := ⟨((Below.refl _ _).alloc (Nat.le_refl _) _).alloc (by simp only [World.size_alloc]; omega) _⟩
  have HX := Aside0.mk hX
  have HY := Aside0.mk hY
  clear hX hY
  go_enter Tryz.func62, Tryz.ntmps62
  go_upto_region 1 with (first
    | ((with_reducible refine gate_dst (N := 2) rfl ?_); refine Great.wpList_boxTo rfl 57 _ rfl _ rfl w.heap.size rfl (vlC a).toArray rfl ?_)
    | ((with_reducible refine gate_dst (N := 3) rfl ?_); refine Great.wpList_boxTo rfl 57 _ rfl _ rfl (w.heap.size + 1) (by simp only [World.size_alloc]) (vlC b).toArray rfl ?_))
  generalize ((w.alloc (.cells (vlC a).toArray 57)).alloc (.cells (vlC b).toArray 57)) = w1 at *
  have x0 := HX.out.c0
  have y0 := HY.out.c0
  have x1 := HX.out.c1
  have y1 := HY.out.c1
  have x2 := HX.out.c2
  have y2 := HY.out.c2
  have x3 := HX.out.c3
  have y3 := HY.out.c3
  have x4 := HX.out.c4
  have y4 := HY.out.c4
  have x5 := HX.out.c5
  have y5 := HY.out.c5
  have x6 := HX.out.c6
  have y6 := HY.out.c6
  have x7 := HX.out.c7
  have y7 := HY.out.c7
  rw [← e0] at y0
  rw [← e2] at y2
  have f3 : (a.n == b.n) = false := by rw [beq_eq_false_iff_ne]; exact e3
  clear HX HY
  go_wp2_with fail
  go_ret
  exact ⟨rfl, HB.out⟩
set_option maxHeartbeats 4000000 in
set_option maxRecDepth 100000 in
theorem sval_4 (w : World) (a b : Vl) (e0 : a.kind = b.kind) (e1 : (a.s.toList == b.s.toList) = true) (e2 : a.b = b.b) (e3 : a.n = b.n) (e4 : (a.inner.toList == b.inner.toList) = false) :
    Calls Tryz.prog 62 #[.agg (vlC a).toArray, .agg (vlC b).toArray] w fun e w' => e = .returned (.bool false) ∧ Below w.heap.size w w' := by
  have hX : XVl ((w.alloc (.cells (vlC a).toArray 57)).alloc (.cells (vlC b).toArray 57)) w.heap.size a := XVl.below ⟨heap_alloc_new w _⟩ ((Below.refl _ _).alloc (Nat.le_refl _) _)
  have hY : XVl ((w.alloc (.cells (vlC a).toArray 57)).alloc (.cells (vlC b).toArray 57)) (w.heap.size + 1) b := ⟨by have h := heap_alloc_new (w.alloc (.cells (vlC a).toArray 57)) (.cells (vlC b).toArray 57); simp only [World.size_alloc] at h; exact h⟩
  have HB : Aside0 (Below w.heap.size w ((w.alloc (.cells (vlC a).toArray 57)).alloc (.cells (vlC b).toArray 57))) := ⟨((Below.refl _ _).alloc (Nat.le_refl _) _).alloc (by simp only [World.size_alloc]; omega) _⟩
  have HX := Aside0.mk hX
  have HY := Aside0.mk hY
  clear hX hY
  go_enter Tryz.func62, Tryz.ntmps62
  go_upto_region 1 with (first
    | ((with_reducible refine gate_dst (N := 2) rfl ?_); refine Great.wpList_boxTo rfl 57 _ rfl _ rfl w.heap.size rfl (vlC a).toArray rfl ?_)
    | ((with_reducible refine gate_dst (N := 3) rfl ?_); refine Great.wpList_boxTo rfl 57 _ rfl _ rfl (w.heap.size + 1) (by simp only [World.size_alloc]) (vlC b).toArray rfl ?_))
  generalize ((w.alloc (.cells (vlC a).toArray 57)).alloc (.cells (vlC b).toArray 57)) = w1 at *
  have x0 := HX.out.c0
  have y0 := HY.out.c0
  have x1 := HX.out.c1
  have y1 := HY.out.c1
  have x2 := HX.out.c2
  have y2 := HY.out.c2
  have x3 := HX.out.c3
  have y3 := HY.out.c3
  have x4 := HX.out.c4
  have y4 := HY.out.c4
  have x5 := HX.out.c5
  have y5 := HY.out.c5
  have x6 := HX.out.c6
  have y6 := HY.out.c6
  have x7 := HX.out.c7
  have y7 := HY.out.c7
  rw [← e0] at y0
  rw [← e2] at y2
  rw [← e3] at y3
  clear HX HY
  go_wp2_with fail
  go_ret
  exact ⟨rfl, HB.out⟩
set_option maxHeartbeats 4000000 in
set_option maxRecDepth 100000 in
theorem sval_5 (w : World) (a b : Vl) (e0 : a.kind = b.kind) (e1 : (a.s.toList == b.s.toList) = true) (e2 : a.b = b.b) (e3 : a.n = b.n) (e4 : (a.inner.toList == b.inner.toList) = true) (e5 : (a.unk.toList == b.unk.toList) = false) :
    Calls Tryz.prog 62 #[.agg (vlC a).toArray, .agg (vlC b).toArray] w fun e w' => e = .returned (.bool false) ∧ Below w.heap.size w w' := by
  have hX : XVl ((w.alloc (.cells (vlC a).toArray 57)).alloc (.cells (vlC b).toArray 57)) w.heap.size a := XVl.below ⟨heap_alloc_new w _⟩ ((Below.refl _ _).alloc (Nat.le_refl _) _)
  have hY : XVl ((w.alloc (.cells (vlC a).toArray 57)).alloc (.cells (vlC b).toArray 57)) (w.heap.size + 1) b := ⟨by have h := heap_alloc_new (w.alloc (.cells (vlC a).toArray 57)) (.cells (vlC b).toArray 57); simp only [World.size_alloc] at h; exact h⟩
  have HB : Aside0 (Below w.heap.size w ((w.alloc (.cells (vlC a).toArray 57)).alloc (.cells (vlC b).toArray 57))) := ⟨((Below.refl _ _).alloc (Nat.le_refl _) _).alloc (by simp only [World.size_alloc]; omega) _⟩
  have HX := Aside0.mk hX
  have HY := Aside0.mk hY
  clear hX hY
  go_enter Tryz.func62, Tryz.ntmps62
  go_upto_region 1 with (first
    | ((with_reducible refine gate_dst (N := 2) rfl ?_); refine Great.wpList_boxTo rfl 57 _ rfl _ rfl w.heap.size rfl (vlC a).toArray rfl ?_)
    | ((with_reducible refine gate_dst (N := 3) rfl ?_); refine Great.wpList_boxTo rfl 57 _ rfl _ rfl (w.heap.size + 1) (by simp only [World.size_alloc]) (vlC b).toArray rfl ?_))
  generalize ((w.alloc (.cells (vlC a).toArray 57)).alloc (.cells (vlC b).toArray 57)) = w1 at *
  have x0 := HX.out.c0
  have y0 := HY.out.c0
  have x1 := HX.out.c1
  have y1 := HY.out.c1
  have x2 := HX.out.c2
  have y2 := HY.out.c2
  have x3 := HX.out.c3
  have y3 := HY.out.c3
  have x4 := HX.out.c4
  have y4 := HY.out.c4
  have x5 := HX.out.c5
  have y5 := HY.out.c5
  have x6 := HX.out.c6
  have y6 := HY.out.c6
  have x7 := HX.out.c7
  have y7 := HY.out.c7
  rw [← e0] at y0
  rw [← e2] at y2
  rw [← e3] at y3
  clear HX HY
  go_wp2_with fail
  go_ret
  exact ⟨rfl, HB.out⟩
set_option maxHeartbeats 4000000 in
set_option maxRecDepth 100000 in
theorem sval_6 (w : World) (a b : Vl) (e0 : a.kind = b.kind) (e1 : (a.s.toList == b.s.toList) = true) (e2 : a.b = b.b) (e3 : a.n = b.n) (e4 : (a.inner.toList == b.inner.toList) = true) (e5 : (a.unk.toList == b.unk.toList) = true) (h6 : CB w 81 #[a.l.v, b.l.v, .func (.func 62) #[] #[]] false) :
    Calls Tryz.prog 62 #[.agg (vlC a).toArray, .agg (vlC b).toArray] w fun e w' => e = .returned (.bool false) ∧ Below w.heap.size w w' := by
  have hX : XVl ((w.alloc (.cells (vlC a).toArray 57)).alloc (.cells (vlC b).toArray 57)) w.heap.size a := XVl.below ⟨heap_alloc_new w _⟩ ((Below.refl _ _).alloc (Nat.le_refl _) _)
  have hY : XVl ((w.alloc (.cells (vlC a).toArray 57)).alloc (.cells (vlC b).toArray 57)) (w.heap.size + 1) b := ⟨by have h := heap_alloc_new (w.alloc (.cells (vlC a).toArray 57)) (.cells (vlC b).toArray 57); simp only [World.size_alloc] at h; exact h⟩
  have HB : Aside0 (Below w.heap.size w ((w.alloc (.cells (vlC a).toArray 57)).alloc (.cells (vlC b).toArray 57))) := ⟨((Below.refl _ _).alloc (Nat.le_refl _) _).alloc (by simp only [World.size_alloc]; omega) _⟩
  have HX := Aside0.mk hX
  have HY := Aside0.mk hY
  clear hX hY
  unfold CB Sl.v at h6
  have H6 := Aside0.mk h6
  clear h6
  go_enter Tryz.func62, Tryz.ntmps62
  go_upto_region 1 with (first
    | ((with_reducible refine gate_dst (N := 2) rfl ?_); refine Great.wpList_boxTo rfl 57 _ rfl _ rfl w.heap.size rfl (vlC a).toArray rfl ?_)
    | ((with_reducible refine gate_dst (N := 3) rfl ?_); refine Great.wpList_boxTo rfl 57 _ rfl _ rfl (w.heap.size + 1) (by simp only [World.size_alloc]) (vlC b).toArray rfl ?_))
  generalize ((w.alloc (.cells (vlC a).toArray 57)).alloc (.cells (vlC b).toArray 57)) = w1 at *
  have x0 := HX.out.c0
  have y0 := HY.out.c0
  have x1 := HX.out.c1
  have y1 := HY.out.c1
  have x2 := HX.out.c2
  have y2 := HY.out.c2
  have x3 := HX.out.c3
  have y3 := HY.out.c3
  have x4 := HX.out.c4
  have y4 := HY.out.c4
  have x5 := HX.out.c5
  have y5 := HY.out.c5
  have x6 := HX.out.c6
  have y6 := HY.out.c6
  have x7 := HX.out.c7
  have y7 := HY.out.c7
  rw [← e0] at y0
  rw [← e2] at y2
  rw [← e3] at y3
  go_wp2_with (go_at_call 81; with_reducible refine (H6.out _ HB.out).mono ?_; rintro e w2 ⟨rfl, hb2⟩; have n0_ := Aside0.mk (below_next HB.out hb2); have n1_ := Aside0.mk (HX.out.below hb2); have n2_ := Aside0.mk (HY.out.below hb2); clear HB HX HY hb2 x0 y0 x1 y1 x2 y2 x3 y3 x4 y4 x5 y5 x6 y6 x7 y7; have HB := n0_; have HX := n1_; have HY := n2_; clear n0_ n1_ n2_; have x0 := HX.out.c0; have y0 := HY.out.c0; have x1 := HX.out.c1; have y1 := HY.out.c1; have x2 := HX.out.c2; have y2 := HY.out.c2; have x3 := HX.out.c3; have y3 := HY.out.c3; have x4 := HX.out.c4; have y4 := HY.out.c4; have x5 := HX.out.c5; have y5 := HY.out.c5; have x6 := HX.out.c6; have y6 := HY.out.c6; have x7 := HX.out.c7; have y7 := HY.out.c7; rw [← e0] at y0; rw [← e2] at y2; rw [← e3] at y3)
  go_ret
  exact ⟨rfl, HB.out⟩
set_option maxHeartbeats 4000000 in
set_option maxRecDepth 100000 in
theorem sval_7 (w : World) (a b : Vl) (e0 : a.kind = b.kind) (e1 : (a.s.toList == b.s.toList) = true) (e2 : a.b = b.b) (e3 : a.n = b.n) (e4 : (a.inner.toList == b.inner.toList) = true) (e5 : (a.unk.toList == b.unk.toList) = true) (h6 : CB w 81 #[a.l.v, b.l.v, .func (.func 62) #[] #[]] true) (h7 : CB w 16 #[a.m.v, b.m.v] false) :
    Calls Tryz.prog 62 #[.agg (vlC a).toArray, .agg (vlC b).toArray] w fun e w' => e = .returned (.bool false) ∧ Below w.heap.size w w' := by
  have hX : XVl ((w.alloc (.cells (vlC a).toArray 57)).alloc (.cells (vlC b).toArray 57)) w.heap.size a := XVl.below ⟨heap_alloc_new w _⟩ ((Below.refl _ _).alloc (Nat.le_refl _) _)
  have hY : XVl ((w.alloc (.cells (vlC a).toArray 57)).alloc (.cells (vlC b).toArray 57)) (w.heap.size + 1) b := ⟨by have h := heap_alloc_new (w.alloc (.cells (vlC a).toArray 57)) (.cells (vlC b).toArray 57); simp only [World.size_alloc] at h; exact h⟩
  have HB : Aside0 (Below w.heap.size w ((w.alloc (.cells (vlC a).toArray 57)).alloc (.cells (vlC b).toArray 57))) := ⟨((Below.refl _ _).alloc (Nat.le_refl _) _).alloc (by simp only [World.size_alloc]; omega) _⟩
  have HX := Aside0.mk hX
  have HY := Aside0.mk hY
  clear hX hY
  unfold CB Sl.v at h6
  have H6 := Aside0.mk h6
  clear h6
  unfold CB Sl.v at h7
  have H7 := Aside0.mk h7
  clear h7
  go_enter Tryz.func62, Tryz.ntmps62
  go_upto_region 1 with (first
    | ((with_reducible refine gate_dst (N := 2) rfl ?_); refine Great.wpList_boxTo rfl 57 _ rfl _ rfl w.heap.size rfl (vlC a).toArray rfl ?_)
    | ((with_reducible refine gate_dst (N := 3) rfl ?_); refine Great.wpList_boxTo rfl 57 _ rfl _ rfl (w.heap.size + 1) (by simp only [World.size_alloc]) (vlC b).toArray rfl ?_))
  generalize ((w.alloc (.cells (vlC a).toArray 57)).alloc (.cells (vlC b).toArray 57)) = w1 at *
  have x0 := HX.out.c0
  have y0 := HY.out.c0
  have x1 := HX.out.c1
  have y1 := HY.out.c1
  have x2 := HX.out.c2
  have y2 := HY.out.c2
  have x3 := HX.out.c3
  have y3 := HY.out.c3
  have x4 := HX.out.c4
  have y4 := HY.out.c4
  have x5 := HX.out.c5
  have y5 := HY.out.c5
  have x6 := HX.out.c6
  have y6 := HY.out.c6
  have x7 := HX.out.c7
  have y7 := HY.out.c7
  rw [← e0] at y0
  rw [← e2] at y2
  rw [← e3] at y3
  go_wp2_with (first
    | (go_at_call 81; with_reducible refine (H6.out _ HB.out).mono ?_; rintro e w2 ⟨rfl, hb2⟩; have n0_ := Aside0.mk (below_next HB.out hb2); have n1_ := Aside0.mk (HX.out.below hb2); have n2_ := Aside0.mk (HY.out.below hb2); clear HB HX HY hb2 x0 y0 x1 y1 x2 y2 x3 y3 x4 y4 x5 y5 x6 y6 x7 y7; have HB := n0_; have HX := n1_; have HY := n2_; clear n0_ n1_ n2_; have x0 := HX.out.c0; have y0 := HY.out.c0; have x1 := HX.out.c1; have y1 := HY.out.c1; have x2 := HX.out.c2; have y2 := HY.out.c2; have x3 := HX.out.c3; have y3 := HY.out.c3; have x4 := HX.out.c4; have y4 := HY.out.c4; have x5 := HX.out.c5; have y5 := HY.out.c5; have x6 := HX.out.c6; have y6 := HY.out.c6; have x7 := HX.out.c7; have y7 := HY.out.c7; rw [← e0] at y0; rw [← e2] at y2; rw [← e3] at y3)
    | (go_at_call 16; with_reducible refine (H7.out _ HB.out).mono ?_; rintro e w2 ⟨rfl, hb2⟩; have n0_ := Aside0.mk (below_next HB.out hb2); have n1_ := Aside0.mk (HX.out.below hb2); have n2_ := Aside0.mk (HY.out.below hb2); clear HB HX HY hb2 x0 y0 x1 y1 x2 y2 x3 y3 x4 y4 x5 y5 x6 y6 x7 y7; have HB := n0_; have HX := n1_; have HY := n2_; clear n0_ n1_ n2_; have x0 := HX.out.c0; have y0 := HY.out.c0; have x1 := HX.out.c1; have y1 := HY.out.c1; have x2 := HX.out.c2; have y2 := HY.out.c2; have x3 := HX.out.c3; have y3 := HY.out.c3; have x4 := HX.out.c4; have y4 := HY.out.c4; have x5 := HX.out.c5; have y5 := HY.out.c5; have x6 := HX.out.c6; have y6 := HY.out.c6; have x7 := HX.out.c7; have y7 := HY.out.c7; rw [← e0] at y0; rw [← e2] at y2; rw [← e3] at y3))
  go_ret
  exact ⟨rfl, HB.out⟩
set_option maxHeartbeats 4000000 in
set_option maxRecDepth 100000 in
theorem sval_8 (w : World) (a b : Vl) (e0 : a.kind = b.kind) (e1 : (a.s.toList == b.s.toList) = true) (e2 : a.b = b.b) (e3 : a.n = b.n) (e4 : (a.inner.toList == b.inner.toList) = true) (e5 : (a.unk.toList == b.unk.toList) = true) (h6 : CB w 81 #[a.l.v, b.l.v, .func (.func 62) #[] #[]] true) (h7 : CB w 16 #[a.m.v, b.m.v] true) :
    Calls Tryz.prog 62 #[.agg (vlC a).toArray, .agg (vlC b).toArray] w fun e w' => e = .returned (.bool true) ∧ Below w.heap.size w w' := by
  have hX : XVl ((w.alloc (.cells (vlC a).toArray 57)).alloc (.cells (vlC b).toArray 57)) w.heap.size a := XVl.below ⟨heap_alloc_new w _⟩ ((Below.refl _ _).alloc (Nat.le_refl _) _)
  have hY : XVl ((w.alloc (.cells (vlC a).toArray 57)).alloc (.cells (vlC b).toArray 57)) (w.heap.size + 1) b := ⟨by have h := heap_alloc_new (w.alloc (.cells (vlC a).toArray 57)) (.cells (vlC b).toArray 57); simp only [World.size_alloc] at h; exact h⟩
  have HB : Aside0 (Below w.heap.size w ((w.alloc (.cells (vlC a).toArray 57)).alloc (.cells (vlC b).toArray 57))) := ⟨((Below.refl _ _).alloc (Nat.le_refl _) _).alloc (by simp only [World.size_alloc]; omega) _⟩
  have HX := Aside0.mk hX
  have HY := Aside0.mk hY
  clear hX hY
  unfold CB Sl.v at h6
  have H6 := Aside0.mk h6
  clear h6
  unfold CB Sl.v at h7
  have H7 := Aside0.mk h7
  clear h7
  go_enter Tryz.func62, Tryz.ntmps62
  go_upto_region 1 with (first
    | ((with_reducible refine gate_dst (N := 2) rfl ?_); refine Great.wpList_boxTo rfl 57 _ rfl _ rfl w.heap.size rfl (vlC a).toArray rfl ?_)
    | ((with_reducible refine gate_dst (N := 3) rfl ?_); refine Great.wpList_boxTo rfl 57 _ rfl _ rfl (w.heap.size + 1) (by simp only [World.size_alloc]) (vlC b).toArray rfl ?_))
  generalize ((w.alloc (.cells (vlC a).toArray 57)).alloc (.cells (vlC b).toArray 57)) = w1 at *
  have x0 := HX.out.c0
  have y0 := HY.out.c0
  have x1 := HX.out.c1
  have y1 := HY.out.c1
  have x2 := HX.out.c2
  have y2 := HY.out.c2
  have x3 := HX.out.c3
  have y3 := HY.out.c3
  have x4 := HX.out.c4
  have y4 := HY.out.c4
  have x5 := HX.out.c5
  have y5 := HY.out.c5
  have x6 := HX.out.c6
  have y6 := HY.out.c6
  have x7 := HX.out.c7
  have y7 := HY.out.c7
  rw [← e0] at y0
  rw [← e2] at y2
  rw [← e3] at y3
  go_wp2_with (first
    | (go_at_call 81; with_reducible refine (H6.out _ HB.out).mono ?_; rintro e w2 ⟨rfl, hb2⟩; have n0_ := Aside0.mk (below_next HB.out hb2); have n1_ := Aside0.mk (HX.out.below hb2); have n2_ := Aside0.mk (HY.out.below hb2); clear HB HX HY hb2 x0 y0 x1 y1 x2 y2 x3 y3 x4 y4 x5 y5 x6 y6 x7 y7; have HB := n0_; have HX := n1_; have HY := n2_; clear n0_ n1_ n2_; have x0 := HX.out.c0; have y0 := HY.out.c0; have x1 := HX.out.c1; have y1 := HY.out.c1; have x2 := HX.out.c2; have y2 := HY.out.c2; have x3 := HX.out.c3; have y3 := HY.out.c3; have x4 := HX.out.c4; have y4 := HY.out.c4; have x5 := HX.out.c5; have y5 := HY.out.c5; have x6 := HX.out.c6; have y6 := HY.out.c6; have x7 := HX.out.c7; have y7 := HY.out.c7; rw [← e0] at y0; rw [← e2] at y2; rw [← e3] at y3)
    | (go_at_call 16; with_reducible refine (H7.out _ HB.out).mono ?_; rintro e w2 ⟨rfl, hb2⟩; have n0_ := Aside0.mk (below_next HB.out hb2); have n1_ := Aside0.mk (HX.out.below hb2); have n2_ := Aside0.mk (HY.out.below hb2); clear HB HX HY hb2 x0 y0 x1 y1 x2 y2 x3 y3 x4 y4 x5 y5 x6 y6 x7 y7; have HB := n0_; have HX := n1_; have HY := n2_; clear n0_ n1_ n2_; have x0 := HX.out.c0; have y0 := HY.out.c0; have x1 := HX.out.c1; have y1 := HY.out.c1; have x2 := HX.out.c2; have y2 := HY.out.c2; have x3 := HX.out.c3; have y3 := HY.out.c3; have x4 := HX.out.c4; have y4 := HY.out.c4; have x5 := HX.out.c5; have y5 := HY.out.c5; have x6 := HX.out.c6; have y6 := HY.out.c6; have x7 := HX.out.c7; have y7 := HY.out.c7; rw [← e0] at y0; rw [← e2] at y2; rw [← e3] at y3))
  go_ret
  exact ⟨rfl, HB.out⟩
theorem sval_any (w : World) (a b : Vl) (q6 : Bool) (h6 : CB w 81 #[a.l.v, b.l.v, .func (.func 62) #[] #[]] q6) (q7 : Bool) (h7 : CB w 16 #[a.m.v, b.m.v] q7) :
    Calls Tryz.prog 62 #[.agg (vlC a).toArray, .agg (vlC b).toArray] w fun e w' => e = .returned (.bool (decide (a.kind = b.kind) && stB a.s b.s && decide (a.b = b.b) && decide (a.n = b.n) && stB a.inner b.inner && stB a.unk b.unk && q6 && q7)) ∧ Below w.heap.size w w' := by
  by_cases e0 : a.kind = b.kind
  · skip
    cases e1 : (a.s.toList == b.s.toList)
    · have h := sval_1 w a b e0 e1
      simp only [stB, e0, e1, decide_true, Bool.false_and, Bool.and_false]
      exact h
    · skip
      by_cases e2 : a.b = b.b
      · skip
        by_cases e3 : a.n = b.n
        · skip
          cases e4 : (a.inner.toList == b.inner.toList)
          · have h := sval_4 w a b e0 e1 e2 e3 e4
            simp only [stB, e0, e1, e2, e3, e4, decide_true, Bool.false_and, Bool.and_false]
            exact h
          · skip
            cases e5 : (a.unk.toList == b.unk.toList)
            · have h := sval_5 w a b e0 e1 e2 e3 e4 e5
              simp only [stB, e0, e1, e2, e3, e4, e5, decide_true, Bool.false_and, Bool.and_false]
              exact h
            · skip
              cases q6
              · have h := sval_6 w a b e0 e1 e2 e3 e4 e5 h6
                simp only [stB, e0, e1, e2, e3, e4, e5, decide_true, Bool.false_and, Bool.and_false]
                exact h
              · skip
                cases q7
                · have h := sval_7 w a b e0 e1 e2 e3 e4 e5 h6 h7
                  simp only [stB, e0, e1, e2, e3, e4, e5, decide_true, Bool.and_false]
                  exact h
                · have h := sval_8 w a b e0 e1 e2 e3 e4 e5 h6 h7
                  simp only [stB, e0, e1, e2, e3, e4, e5, decide_true, Bool.and_true]
                  exact h
        · have h := sval_3 w a b e0 e1 e2 e3
          simp only [stB, e0, e1, e2, e3, decide_false, decide_true, Bool.false_and, Bool.and_false]
          exact h
      · have h := sval_2 w a b e0 e1 e2
        simp only [stB, e0, e1, e2, decide_false, decide_true, Bool.false_and, Bool.and_false]
        exact h
  · have h := sval_0 w a b e0
    simp only [stB, e0, decide_false, Bool.false_and]
    exact h
end Go.Proofs.YtnghlkbmfhkmoaaGreatDoor
namespace Go.Proofs.YtnghlkbmfhkmoaaGreatDoor
open Go.RowKit Go.Proofs.YtnghlkbmfhkmoaaGreatDoorW.PrintWords Go.Proofs.YtnghlkbmfhkmoaaGreatDoorW.PrintLast Go.Proofs.YtnghlkbmfhkmoaaGreatDoorW.PrintMore
/-! ### exemplars alike -/
structure XEm (w : World) (g : Nat) (x : Exm) : Prop where
  blk : w.heap[g]? = some (.cells (exmC x).toArray 25 (0, 0))
section
variable {w w' : World} {g : Nat} {x : Exm}
theorem XEm.c0 (h : XEm w g x) : w.cell? ⟨g, 0, none⟩ = some (.slice x.attrs.a x.attrs.len x.attrs.cap) := by rw [blk_cell h.blk]; rfl
theorem XEm.c1 (h : XEm w g x) : w.cell? ⟨g, 1, none⟩ = some (.int .u64 x.time) := by rw [blk_cell h.blk]; rfl
theorem XEm.c2 (h : XEm w g x) : w.cell? ⟨g, 2, none⟩ = some (.int .i64 x.kind) := by rw [blk_cell h.blk]; rfl
theorem XEm.c3 (h : XEm w g x) : w.cell? ⟨g, 3, none⟩ = some (.int .u64 x.n) := by rw [blk_cell h.blk]; rfl
theorem XEm.c4 (h : XEm w g x) : w.cell? ⟨g, 4, none⟩ = some (.string x.span) := by rw [blk_cell h.blk]; rfl
theorem XEm.c5 (h : XEm w g x) : w.cell? ⟨g, 5, none⟩ = some (.string x.trace) := by rw [blk_cell h.blk]; rfl
theorem XEm.c6 (h : XEm w g x) : w.cell? ⟨g, 6, none⟩ = some (.string x.unk) := by rw [blk_cell h.blk]; rfl
theorem XEm.below (h : XEm w g x) (hb : Below w.heap.size w w') : XEm w' g x := ⟨blk_below h.blk hb⟩
end
end Go.Proofs.YtnghlkbmfhkmoaaGreatDoor
namespace Go.Proofs.YtnghlkbmfhkmoaaGreatDoor
open Go.RowKit Go.Proofs.YtnghlkbmfhkmoaaGreatDoorW.PrintWords Go.Extern.Stop Go.Stop Go.Extern
theorem rlm (z : Sem Value) (f : TypeId → Addr → Nat → Nat → Sem Value) (v : Value) :
    ReflectliteValue.method z f #[v] = (do match ← ReflectliteValue.parts v with | none => z | some (t, a, fl) => f t a fl (fl % 32)) := rfl
theorem rls (v x : Value) : ReflectliteValue.set #[v, x] = (do
    let (some (dst, a, fl), some (src, b, _)) := (← ReflectliteValue.parts v, ← ReflectliteValue.parts x)
      | unsupported (.noEntry "extern/(internal/reflectlite.Value).Set.zeroValue")
    if fl / ReflectliteValue.flagAddr % 2 == 0 then unsupported (.noEntry "extern/(internal/reflectlite.Value).Set.unaddressable")
    let val ← loadVar src b
    if ← Rtype.directlyAssignable dst src then storeVar dst a val
    else if ← Rtype.implements dst src then
      if (← Rtype.kind src) == 20 then
        match val with
        | .nilIface => unsupported (.noEntry "extern/reflectlite: a nil value of one interface type handed on as a value of another")
        | _ => storeVar dst a val
      else storeVar dst a (.iface src val)
    else panicString ("reflectlite.Set: value of type " ++ (← Rtype.spelt src) ++ " is not assignable to type " ++ (← Rtype.spelt dst))
    pure (.tuple #[])) := rfl
theorem asMethod_Kind (h : Value) (w : World) : (Go.method 293 118 (.agg #[h]) "Kind").run Tryz.prog w = .ok (136, h) w := by kernel_rfl
theorem asMethod_Elem (h : Value) (w : World) : (Go.method 293 118 (.agg #[h]) "Elem").run Tryz.prog w = .ok (147, .agg #[h]) w := by kernel_rfl
theorem asMethod_Implements (h : Value) (w : World) : (Go.method 293 118 (.agg #[h]) "Implements").run Tryz.prog w = .ok (148, .agg #[h]) w := by kernel_rfl
theorem asMethod_AssignableTo (h : Value) (w : World) : (Go.method 293 118 (.agg #[h]) "AssignableTo").run Tryz.prog w = .ok (145, .agg #[h]) w := by kernel_rfl
theorem asCode_typeOf (v : Value) (w : World) : (ReflectliteType.typeOf #[.iface 36 v]).run Tryz.prog w = .ok (.iface 118 (.agg #[.pointer (some ⟨1, 36, none⟩)])) w := by kernel_rfl
/-! ### the target Code -/
theorem asCode_valueOfP (a : Addr) (w : World) : (ReflectliteValue.unpack (.iface 72 (.pointer (some a)))).run Tryz.prog w = .ok (.agg #[.pointer (some ⟨1, 72, none⟩), .pointer (some ⟨w.heap.size, 0, none⟩), .int .u64 150]) (w.alloc (.cells #[.pointer (some a)] 72)) := by kernel_rfl
theorem asCode_type (a : Addr) (w : World) : (ReflectliteValue.methodAny (ReflectliteValue.valueError "reflectlite.Value.Type" 0) (fun t _ _ _ => ReflectliteType.toType t) #[.agg #[.pointer (some ⟨1, 72, none⟩), .pointer (some a), .int .u64 150]]).run Tryz.prog w = .ok (.iface 118 (.agg #[.pointer (some ⟨1, 72, none⟩)])) w := by kernel_rfl
theorem asCode_kindP (w : World) : ((ReflectliteType.abiMethod fun t => (fun a : Nat => Value.int IntKind.u8 (a : Int)) <$> Rtype.kind t) #[.pointer (some ⟨1, 72, none⟩)]).run Tryz.prog w = .ok (.int .u8 22) w := by kernel_rfl
theorem asCode_kind (w : World) : ((ReflectliteType.abiMethod fun t => (fun a : Nat => Value.int IntKind.u8 (a : Int)) <$> Rtype.kind t) #[.pointer (some ⟨1, 36, none⟩)]).run Tryz.prog w = .ok (.int .u8 2) w := by kernel_rfl
theorem asCode_partsP (a : Addr) (w : World) : (ReflectliteValue.parts (.agg #[.pointer (some ⟨1, 72, none⟩), .pointer (some a), .int .u64 150])).run Tryz.prog w = .ok (some (72, a, 150)) w := by kernel_rfl
theorem asCode_isNil (a b : Addr) (W : World) (ha : W.cell? a = some (.pointer (some b))) :
    (ReflectliteValue.method (ReflectliteValue.valueError "reflectlite.Value.IsNil" 0) ReflectliteValue.isNil #[.agg #[.pointer (some ⟨1, 72, none⟩), .pointer (some a), .int .u64 150]]).run Tryz.prog W = .ok (.bool false) W := by
  rw [rlm]
  simp only [Sem.run_bind, asCode_partsP, Result.andThen]
  simp [ReflectliteValue.isNil, loadVar, isAgg, underlying, Tryz.underlying72, ha, Result.andThen]
theorem asCode_elem (w : World) : (ReflectliteType.method ReflectliteType.elem #[.agg #[.pointer (some ⟨1, 72, none⟩)]]).run Tryz.prog w = .ok (.iface 118 (.agg #[.pointer (some ⟨1, 36, none⟩)])) w := by kernel_rfl
theorem asCode_implements (w : World) : (ReflectliteType.relation "Implements" ReflectliteType.implements_ #[.agg #[.pointer (some ⟨1, 36, none⟩)], .iface 118 (.agg #[.pointer (some ⟨1, 31, none⟩)])]).run Tryz.prog w = .ok (.bool true) w := by kernel_rfl
theorem asCode_elemOfP (w : World) : (Rtype.elem? 72).run Tryz.prog w = .ok (some 36) w := by kernel_rfl
theorem asCode_mk (b : Addr) (w : World) : (ReflectliteValue.mk 36 b ReflectliteValue.flagAddr).run Tryz.prog w = .ok (.agg #[.pointer (some ⟨1, 36, none⟩), .pointer (some b), .int .u64 386]) w := by kernel_rfl
theorem asCode_elemV (a b : Addr) (W : World) (ha : W.cell? a = some (.pointer (some b))) :
    (ReflectliteValue.method (ReflectliteValue.valueError "reflectlite.Value.Elem" 0) ReflectliteValue.elem #[.agg #[.pointer (some ⟨1, 72, none⟩), .pointer (some a), .int .u64 150]]).run Tryz.prog W = .ok (.agg #[.pointer (some ⟨1, 36, none⟩), .pointer (some b), .int .u64 386]) W := by
  rw [rlm]
  simp only [Sem.run_bind, asCode_partsP, Result.andThen]
  simp [ReflectliteValue.elem, loadVar, isAgg, underlying, Tryz.underlying72, ha, Result.andThen, asCode_elemOfP, asCode_mk]
theorem asCode_partsA (a : Addr) (w : World) : (ReflectliteValue.parts (.agg #[.pointer (some ⟨1, 36, none⟩), .pointer (some a), .int .u64 386])).run Tryz.prog w = .ok (some (36, a, 386)) w := by kernel_rfl
theorem asCode_parts (a : Addr) (w : World) : (ReflectliteValue.parts (.agg #[.pointer (some ⟨1, 36, none⟩), .pointer (some a), .int .u64 130])).run Tryz.prog w = .ok (some (36, a, 130)) w := by kernel_rfl
theorem asCode_direct (w : World) : (Rtype.directlyAssignable 36 36).run Tryz.prog w = .ok true w := by kernel_rfl
theorem asCode_valueOf (c : Int) (w : World) : (ReflectliteValue.unpack (.iface 36 (.int .i64 c))).run Tryz.prog w = .ok (.agg #[.pointer (some ⟨1, 36, none⟩), .pointer (some ⟨w.heap.size, 0, none⟩), .int .u64 130]) (w.alloc (.cells #[.int .i64 c] 36)) := by kernel_rfl
theorem asCode_set (a b : Addr) (c : Int) (old : Value) (W : World) (hb : W.cell? b = some (.int .i64 c)) (ht : W.cell? a = some old) (hf : W.frozen? a = false) :
    (ReflectliteValue.set #[.agg #[.pointer (some ⟨1, 36, none⟩), .pointer (some a), .int .u64 386], .agg #[.pointer (some ⟨1, 36, none⟩), .pointer (some b), .int .u64 130]]).run Tryz.prog W = .ok (.tuple #[]) (W.setCell a (.int .i64 c)) := by
  rw [rls]
  simp only [Sem.run_bind, asCode_partsA, asCode_parts, Result.andThen]
  simp [ReflectliteValue.flagAddr, loadVar, isAgg, underlying, Tryz.underlying36, hb, Result.andThen, asCode_direct, storeVar, Value.cells, storeCells, Addr.add]
  rw [run_store Tryz.prog W a _ _ (by rfl)]
  simp [ht, hf]
theorem asCode_fromCode (w : World) : (ReflectliteType.relation "AssignableTo" ReflectliteType.assignableTo #[.agg #[.pointer (some ⟨1, 36, none⟩)], .iface 118 (.agg #[.pointer (some ⟨1, 36, none⟩)])]).run Tryz.prog w = .ok (.bool true) w := by kernel_rfl
theorem asCode_fromWhere (w : World) : (ReflectliteType.relation "AssignableTo" ReflectliteType.assignableTo #[.agg #[.pointer (some ⟨1, 162, none⟩)], .iface 118 (.agg #[.pointer (some ⟨1, 36, none⟩)])]).run Tryz.prog w = .ok (.bool false) w := by kernel_rfl
theorem asWhere_typeOf (v : Value) (w : World) : (ReflectliteType.typeOf #[.iface 162 v]).run Tryz.prog w = .ok (.iface 118 (.agg #[.pointer (some ⟨1, 162, none⟩)])) w := by kernel_rfl
theorem asWhere_noAs (v : Value) (xT : TypeId) (w : World) : (Instr.typeAssert (.iface 162 v) xT 123 true).run Tryz.prog w = .ok (.tuple #[.nilIface, .bool false]) w := run_typeAssert_lacksB Tryz.underlying123 (by kernel_rfl) (by kernel_rfl) v xT w
theorem asWhere_hasUnwrap (v : Value) (xT : TypeId) (w : World) : (Instr.typeAssert (.iface 162 v) xT 126 true).run Tryz.prog w = .ok (.tuple #[.iface 162 v, .bool true]) w := run_typeAssert_hasB Tryz.underlying126 (by kernel_rfl) v xT w
theorem asWhere_unwrapM (v : Value) (w : World) : (Go.method 293 162 v "Unwrap").run Tryz.prog w = .ok (156, v) w := by kernel_rfl
end Go.Proofs.YtnghlkbmfhkmoaaGreatDoor
