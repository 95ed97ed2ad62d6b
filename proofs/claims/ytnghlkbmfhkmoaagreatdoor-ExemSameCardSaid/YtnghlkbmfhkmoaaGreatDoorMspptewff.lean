import Derived.ChangeArms
import Derived.Below
import Derived.WalkKit
import Derived.Test.YtnghlkbmfhkmoaaGreatDoorChecked
import Derived.Test.YtnghlkbmfhkmoaaGreatDoorWWords
import Derived.KernelRfl
import Derived.OpenShut
namespace Go.Proofs.YtnghlkbmfhkmoaaGreatDoor
open Go.RowKit

/-! ### what reads as data, however deep -/
def Rd (P : Program) (W : World) (t : TypeId) (cs : List Value) : Prop :=
  ∃ (H : Type) (enc : TypeId × Value → H) (sp : Nat → Bool) (held : Bool) (n : Nat) (x : DataW H × List MemPlace), DataW.trod enc P W 0 sp held n t cs = some x
section
variable {P : Program} {W : World} {t : TypeId} {cs : List Value}
theorem rd_int {k : IntKind} (ht : P.underlying t = some (.int k)) (h : Rd P W t cs) : ∃ n, cs = [.int k n] ∧ (Lit.int k n).wf = true := by
  obtain ⟨H, enc, sp, held, n, x, h⟩ := h
  obtain ⟨m, h1, _, h2⟩ := DataW.trod_int ht h
  exact ⟨m, h1, h2⟩
theorem rd_bool (ht : P.underlying t = some .bool) (h : Rd P W t cs) : ∃ b, cs = [.bool b] := by
  obtain ⟨H, enc, sp, held, n, x, h⟩ := h
  obtain ⟨m, h1, _⟩ := DataW.trod_bool ht h
  exact ⟨m, h1⟩
theorem rd_string (ht : P.underlying t = some .string) (h : Rd P W t cs) : ∃ s : ByteArray, cs = [.string s] ∧ s.size ≤ maxLen := by
  obtain ⟨H, enc, sp, held, n, x, h⟩ := h
  obtain ⟨m, h1, _, h2⟩ := DataW.trod_string ht h
  exact ⟨m, h1, h2⟩
theorem rd_len {fs : Array Field} (ht : P.underlying t = some (.struct fs)) (h : Rd P W t cs) : cs.length = P.cellsOf t := by
  obtain ⟨H, enc, sp, held, n, x, h⟩ := h
  obtain ⟨xs, m, _, _, hl, _, _⟩ := DataW.trod_struct ht h
  exact hl
theorem rd_field {fs : Array Field} (ht : P.underlying t = some (.struct fs)) (h : Rd P W t cs) (i : Nat) {f : Field} (hf : fs[i]? = some f) : Rd P W f.type ((cs.drop f.offset).take (P.cellsOf f.type)) := by
  obtain ⟨H, enc, sp, held, n, x, h⟩ := h
  obtain ⟨xs, m, _, _, _, hl, hx⟩ := DataW.trod_struct ht h
  have hi : i < xs.length := by
    rw [hl]
    rcases Nat.lt_or_ge i fs.size with h | h
    · exact h
    · rw [Array.getElem?_eq_none h] at hf; cases hf
  exact ⟨H, enc, sp, held, m, xs[i], by rw [hx i f hf, List.getElem?_eq_getElem hi]⟩
theorem range_mapM {f : Nat → Option Value} {n : Nat} {r : List Value} (h : (List.range n).mapM f = some r) : r.length = n ∧ ∀ i, i < n → f i = r[i]? :=
  ⟨by simpa using mapM_some_length h, fun i hi => mapM_some_get h i i (by simp [hi])⟩
theorem rd_slice {e : TypeId} (ht : P.underlying t = some (.slice e)) (h : Rd P W t cs) : cs = [.slice none 0 0] ∨
    ∃ (a : Addr) (len cap : Nat), cs = [.slice (some a) len cap] ∧ len ≤ cap ∧ cap ≤ maxLen ∧
      ∀ i, i < len → ∃ es : List Value, es.length = P.cellsOf e ∧ (∀ j, j < P.cellsOf e → W.cell? ((a.add (i * P.cellsOf e)).add j) = es[j]?) ∧ Rd P W e es := by
  obtain ⟨H, enc, sp, held, n, x, h⟩ := h
  rcases DataW.trod_slice ht h with ⟨h1, _⟩ | ⟨a, len, cap, elems, rest, m, _, h1, _, _, h2, h3, h4, h5, _⟩
  · exact .inl h1
  · refine .inr ⟨a, len, cap, h1, h2, h3, fun i hi => ?_⟩
    have hb := h5 i hi
    rw [List.getElem?_eq_getElem (by omega)] at hb
    obtain ⟨es, he, hr⟩ := Option.bind_eq_some_iff.1 hb
    unfold World.cells? at he
    split at he
    · obtain ⟨l1, l2⟩ := range_mapM he
      exact ⟨es, l1, l2, H, enc, sp, held, m, _, hr⟩
    · cases he
end
theorem list_of {α : Type} : ∀ {n : Nat} {p : Nat → α → Prop}, (∀ i, i < n → ∃ x, p i x) → ∃ l : List α, l.length = n ∧ ∀ i (h : i < l.length), p i l[i] := by
  intro n
  induction n with
  | zero => intro p _; exact ⟨[], rfl, fun i h => absurd h (Nat.not_lt_zero i)⟩
  | succ n ih =>
    intro p h
    obtain ⟨l, hl, hp⟩ := ih (p := p) (fun i hi => h i (by omega))
    obtain ⟨x, hx⟩ := h n (by omega)
    refine ⟨l ++ [x], by simp [hl], fun i hi => ?_⟩
    by_cases hlt : i < l.length
    · rw [List.getElem_append_left hlt]; exact hp i hlt
    · have : i = l.length := by simp at hi; omega
      subst this
      rw [List.getElem_concat_length rfl (by simp), hl]; exact hx
/-- A slice's value, as it lies. -/
structure Sl where
  a : Option Addr
  len : Nat
  cap : Nat
  deriving Inhabited
def Sl.v (s : Sl) : Value := .slice s.a s.len s.cap
/-- A slice's elements: each k cells, read as an α that is good. -/
def SlAt {α : Type} (k : Nat) (c : α → List Value) (ok : World → α → Prop) (W : World) (s : Sl) (l : List α) : Prop :=
  s.len = l.length ∧ s.len ≤ s.cap ∧ s.cap ≤ maxLen ∧ (0 < l.length → ∃ a, s.a = some a ∧ ∀ i (h : i < l.length), (∀ j, j < k → W.cell? ((a.add (i * k)).add j) = (c l[i])[j]?) ∧ ok W l[i])
theorem rd_sl {α : Type} {P : Program} {W : World} {t e : TypeId} {cs : List Value} {k : Nat} {c : α → List Value} {ok : World → α → Prop} (ht : P.underlying t = some (.slice e)) (hk : P.cellsOf e = k)
    (hread : ∀ es, Rd P W e es → ∃ x, es = c x ∧ ok W x) (h : Rd P W t cs) : ∃ (s : Sl) (l : List α), cs = [s.v] ∧ SlAt k c ok W s l := by
  rcases rd_slice ht h with rfl | ⟨a, len, cap, rfl, h1, h2, h3⟩
  · exact ⟨⟨none, 0, 0⟩, [], rfl, rfl, Nat.le_refl _, Nat.zero_le _, fun h => absurd h (Nat.lt_irrefl 0)⟩
  · rw [hk] at h3
    obtain ⟨l, hl, hp⟩ := list_of (n := len) (p := fun i x => (∀ j, j < k → W.cell? ((a.add (i * k)).add j) = (c x)[j]?) ∧ ok W x) (fun i hi => by
      obtain ⟨es, _, e2, e3⟩ := h3 i hi
      obtain ⟨x, rfl, hx⟩ := hread es e3
      exact ⟨x, e2, hx⟩)
    exact ⟨⟨some a, len, cap⟩, l, rfl, hl.symm, h1, h2, fun _ => ⟨a, rfl, hp⟩⟩
theorem add_at (p : Addr) (j : Nat) : p.add (j + 1) = ⟨p.block, p.off + (j + 1), none⟩ := by simp [Addr.add]
theorem add_0 (p : Addr) : p.add 0 = p := by simp [Addr.add]
end Go.Proofs.YtnghlkbmfhkmoaaGreatDoor
namespace Go.Proofs.YtnghlkbmfhkmoaaGreatDoor
/-- Which operations are done, as the bits of a number (merge.py's shorter spelling). -/
def mkM (n m : Nat) : Array Bool := ((List.range n).map fun i => m.testBit i).toArray
theorem s1_ (l : List Go.Value) (i : Nat) (v : Go.Value) : l.toArray.setIfInBounds i v = (l.set i v).toArray := List.setIfInBounds_toArray ..
theorem s2_ (a b : Go.Value) (l : List Go.Value) : (a :: l).set 0 b = b :: l := List.set_cons_zero ..
theorem s3_ (a b : Go.Value) (l : List Go.Value) (n : Nat) : (a :: l).set (n + 1) b = a :: l.set n b := List.set_cons_succ ..
end Go.Proofs.YtnghlkbmfhkmoaaGreatDoor
namespace Go.Proofs.YtnghlkbmfhkmoaaGreatDoor
open Go.RowKit Go.ChangeShapes Go.WideShapes Go.Proofs.YtnghlkbmfhkmoaaGreatDoorW.PrintWords

theorem rd_slv {P : Program} {W : World} {t e : TypeId} {c : Value} (ht : P.underlying t = some (.slice e)) (h : Rd P W t [c]) : ∃ s : Sl, c = s.v := by
  rcases rd_slice ht h with h | ⟨a, len, cap, h, _⟩
  · simp only [List.cons.injEq, and_true] at h; exact ⟨⟨none, 0, 0⟩, h⟩
  · simp only [List.cons.injEq, and_true] at h; exact ⟨⟨some a, len, cap⟩, h⟩
/-- api.Value -/
structure Vl where
  kind : Int
  s : ByteArray
  b : Bool
  n : Int
  l : Sl
  m : Sl
  inner : ByteArray
  unk : ByteArray
  deriving Inhabited
def vlC (x : Vl) : List Value := [.int .i64 x.kind, .string x.s, .bool x.b, .int .u64 x.n, x.l.v, x.m.v, .string x.inner, .string x.unk]
/-- What is known of one that was read. -/
structure VlOk (W : World) (x : Vl) : Prop where
  kind : -9223372036854775808 ≤ x.kind ∧ x.kind < 9223372036854775808
  s : x.s.size ≤ maxLen
  n : 0 ≤ x.n ∧ x.n < 18446744073709551616
  l : Rd Tryz.prog W 55 [x.l.v]
  m : Rd Tryz.prog W 22 [x.m.v]
  inner : x.inner.size ≤ maxLen
  unk : x.unk.size ≤ maxLen
set_option maxRecDepth 100000 in
theorem rd_vl {W : World} {cs : List Value} (h : Rd Tryz.prog W 57 cs) : ∃ x : Vl, cs = vlC x ∧ VlOk W x := by
  have hu := Tryz.underlying57
  have hl := rd_len hu h
  rw [show Tryz.prog.cellsOf 57 = 8 by kernel_rfl] at hl
  match cs, hl, h with
  | [c0, c1, c2, c3, c4, c5, c6, c7], _, h =>
    have f0 : Rd Tryz.prog W 3 (([c0, c1, c2, c3, c4, c5, c6, c7].drop 0).take (Tryz.prog.cellsOf 3)) := rd_field hu h 0 rfl
    rw [show Tryz.prog.cellsOf 3 = 1 by kernel_rfl] at f0
    have f0 : Rd Tryz.prog W 3 [c0] := f0
    have f1 : Rd Tryz.prog W 9 (([c0, c1, c2, c3, c4, c5, c6, c7].drop 1).take (Tryz.prog.cellsOf 9)) := rd_field hu h 1 rfl
    rw [show Tryz.prog.cellsOf 9 = 1 by kernel_rfl] at f1
    have f1 : Rd Tryz.prog W 9 [c1] := f1
    have f2 : Rd Tryz.prog W 4 (([c0, c1, c2, c3, c4, c5, c6, c7].drop 2).take (Tryz.prog.cellsOf 4)) := rd_field hu h 2 rfl
    rw [show Tryz.prog.cellsOf 4 = 1 by kernel_rfl] at f2
    have f2 : Rd Tryz.prog W 4 [c2] := f2
    have f3 : Rd Tryz.prog W 23 (([c0, c1, c2, c3, c4, c5, c6, c7].drop 3).take (Tryz.prog.cellsOf 23)) := rd_field hu h 3 rfl
    rw [show Tryz.prog.cellsOf 23 = 1 by kernel_rfl] at f3
    have f3 : Rd Tryz.prog W 23 [c3] := f3
    have f4 : Rd Tryz.prog W 55 (([c0, c1, c2, c3, c4, c5, c6, c7].drop 4).take (Tryz.prog.cellsOf 55)) := rd_field hu h 4 rfl
    rw [show Tryz.prog.cellsOf 55 = 1 by kernel_rfl] at f4
    have f4 : Rd Tryz.prog W 55 [c4] := f4
    have f5 : Rd Tryz.prog W 22 (([c0, c1, c2, c3, c4, c5, c6, c7].drop 5).take (Tryz.prog.cellsOf 22)) := rd_field hu h 5 rfl
    rw [show Tryz.prog.cellsOf 22 = 1 by kernel_rfl] at f5
    have f5 : Rd Tryz.prog W 22 [c5] := f5
    have f6 : Rd Tryz.prog W 9 (([c0, c1, c2, c3, c4, c5, c6, c7].drop 6).take (Tryz.prog.cellsOf 9)) := rd_field hu h 6 rfl
    rw [show Tryz.prog.cellsOf 9 = 1 by kernel_rfl] at f6
    have f6 : Rd Tryz.prog W 9 [c6] := f6
    have f7 : Rd Tryz.prog W 9 (([c0, c1, c2, c3, c4, c5, c6, c7].drop 7).take (Tryz.prog.cellsOf 9)) := rd_field hu h 7 rfl
    rw [show Tryz.prog.cellsOf 9 = 1 by kernel_rfl] at f7
    have f7 : Rd Tryz.prog W 9 [c7] := f7
    obtain ⟨x0, e0, w0⟩ := rd_int Tryz.underlying3 f0
    have e0 := (List.cons.inj e0).1
    subst e0
    have b0 := bounds_i64 w0
    obtain ⟨x1, e1, w1⟩ := rd_string Tryz.underlying9 f1
    have e1 := (List.cons.inj e1).1
    subst e1
    obtain ⟨x2, e2⟩ := rd_bool Tryz.underlying4 f2
    have e2 := (List.cons.inj e2).1
    subst e2
    obtain ⟨x3, e3, w3⟩ := rd_int Tryz.underlying23 f3
    have e3 := (List.cons.inj e3).1
    subst e3
    have b3 := bounds_u64 w3
    obtain ⟨x4, e4⟩ := rd_slv Tryz.underlying55 f4
    subst e4
    obtain ⟨x5, e5⟩ := rd_slv Tryz.underlying22 f5
    subst e5
    obtain ⟨x6, e6, w6⟩ := rd_string Tryz.underlying9 f6
    have e6 := (List.cons.inj e6).1
    subst e6
    obtain ⟨x7, e7, w7⟩ := rd_string Tryz.underlying9 f7
    have e7 := (List.cons.inj e7).1
    subst e7
    exact ⟨⟨x0, x1, x2, x3, x4, x5, x6, x7⟩, rfl, ⟨⟨b0.1, Int.lt_of_le_of_lt b0.2 (by decide)⟩, w1, ⟨b3.1, Int.lt_of_le_of_lt b3.2 (by decide)⟩, f4, f5, w6, w7⟩⟩
/-- One at an address. -/
structure VlAt (w : World) (p : Addr) (x : Vl) : Prop where
  c0 : w.cell? p = some (.int .i64 x.kind)
  c1 : w.cell? ⟨p.block, p.off + 1, none⟩ = some (.string x.s)
  c2 : w.cell? ⟨p.block, p.off + 2, none⟩ = some (.bool x.b)
  c3 : w.cell? ⟨p.block, p.off + 3, none⟩ = some (.int .u64 x.n)
  c4 : w.cell? ⟨p.block, p.off + 4, none⟩ = some (x.l.v)
  c5 : w.cell? ⟨p.block, p.off + 5, none⟩ = some (x.m.v)
  c6 : w.cell? ⟨p.block, p.off + 6, none⟩ = some (.string x.inner)
  c7 : w.cell? ⟨p.block, p.off + 7, none⟩ = some (.string x.unk)
theorem VlAt.below {w w' : World} {p : Addr} {x : Vl} (h : VlAt w p x) (hb : Below w.heap.size w w') : VlAt w' p x := ⟨pw_cell_below hb h.c0, pw_cell_below hb h.c1, pw_cell_below hb h.c2, pw_cell_below hb h.c3, pw_cell_below hb h.c4, pw_cell_below hb h.c5, pw_cell_below hb h.c6, pw_cell_below hb h.c7⟩
theorem vl_at {w : World} {p : Addr} {x : Vl} (h : ∀ j, j < 8 → w.cell? (p.add j) = (vlC x)[j]?) : VlAt w p x :=
  ⟨by have := h 0 (by decide); rwa [add_0] at this, by have := h 1 (by decide); rwa [add_at] at this, by have := h 2 (by decide); rwa [add_at] at this, by have := h 3 (by decide); rwa [add_at] at this, by have := h 4 (by decide); rwa [add_at] at this, by have := h 5 (by decide); rwa [add_at] at this, by have := h 6 (by decide); rwa [add_at] at this, by have := h 7 (by decide); rwa [add_at] at this⟩
theorem vl_one (x : Vl) : ∀ u ∈ vlC x, u.oneCell' = true := by
  intro u hu
  simp only [vlC, List.mem_cons, List.not_mem_nil, or_false] at hu
  rcases hu with rfl | rfl | rfl | rfl | rfl | rfl | rfl | rfl <;> rfl
/-- api.KeyValue -/
structure Kv where
  key : ByteArray
  has : Bool
  v : Vl
  unk : ByteArray
  deriving Inhabited
def kvC (x : Kv) : List Value := [.string x.key, .bool x.has, .int .i64 x.v.kind, .string x.v.s, .bool x.v.b, .int .u64 x.v.n, x.v.l.v, x.v.m.v, .string x.v.inner, .string x.v.unk, .string x.unk]
/-- What is known of one that was read. -/
structure KvOk (W : World) (x : Kv) : Prop where
  key : x.key.size ≤ maxLen
  v : VlOk W x.v
  unk : x.unk.size ≤ maxLen
set_option maxRecDepth 100000 in
theorem rd_kv {W : World} {cs : List Value} (h : Rd Tryz.prog W 59 cs) : ∃ x : Kv, cs = kvC x ∧ KvOk W x := by
  have hu := Tryz.underlying59
  have hl := rd_len hu h
  rw [show Tryz.prog.cellsOf 59 = 11 by kernel_rfl] at hl
  match cs, hl, h with
  | [c0, c1, c2, c3, c4, c5, c6, c7, c8, c9, c10], _, h =>
    have f0 : Rd Tryz.prog W 9 (([c0, c1, c2, c3, c4, c5, c6, c7, c8, c9, c10].drop 0).take (Tryz.prog.cellsOf 9)) := rd_field hu h 0 rfl
    rw [show Tryz.prog.cellsOf 9 = 1 by kernel_rfl] at f0
    have f0 : Rd Tryz.prog W 9 [c0] := f0
    have f1 : Rd Tryz.prog W 4 (([c0, c1, c2, c3, c4, c5, c6, c7, c8, c9, c10].drop 1).take (Tryz.prog.cellsOf 4)) := rd_field hu h 1 rfl
    rw [show Tryz.prog.cellsOf 4 = 1 by kernel_rfl] at f1
    have f1 : Rd Tryz.prog W 4 [c1] := f1
    have f2 : Rd Tryz.prog W 57 (([c0, c1, c2, c3, c4, c5, c6, c7, c8, c9, c10].drop 2).take (Tryz.prog.cellsOf 57)) := rd_field hu h 2 rfl
    rw [show Tryz.prog.cellsOf 57 = 8 by kernel_rfl] at f2
    have f2 : Rd Tryz.prog W 57 [c2, c3, c4, c5, c6, c7, c8, c9] := f2
    have f3 : Rd Tryz.prog W 9 (([c0, c1, c2, c3, c4, c5, c6, c7, c8, c9, c10].drop 10).take (Tryz.prog.cellsOf 9)) := rd_field hu h 3 rfl
    rw [show Tryz.prog.cellsOf 9 = 1 by kernel_rfl] at f3
    have f3 : Rd Tryz.prog W 9 [c10] := f3
    obtain ⟨x0, e0, w0⟩ := rd_string Tryz.underlying9 f0
    have e0 := (List.cons.inj e0).1
    subst e0
    obtain ⟨x1, e1⟩ := rd_bool Tryz.underlying4 f1
    have e1 := (List.cons.inj e1).1
    subst e1
    obtain ⟨x2, e2, w2⟩ := rd_vl f2
    simp only [vlC] at e2
    obtain ⟨rfl, rfl, rfl, rfl, rfl, rfl, rfl, rfl⟩ := e2
    obtain ⟨x3, e3, w3⟩ := rd_string Tryz.underlying9 f3
    have e3 := (List.cons.inj e3).1
    subst e3
    exact ⟨⟨x0, x1, x2, x3⟩, rfl, ⟨w0, w2, w3⟩⟩
/-- One at an address. -/
structure KvAt (w : World) (p : Addr) (x : Kv) : Prop where
  c0 : w.cell? p = some (.string x.key)
  c1 : w.cell? ⟨p.block, p.off + 1, none⟩ = some (.bool x.has)
  c2 : w.cell? ⟨p.block, p.off + 2, none⟩ = some (.int .i64 x.v.kind)
  c3 : w.cell? ⟨p.block, p.off + 3, none⟩ = some (.string x.v.s)
  c4 : w.cell? ⟨p.block, p.off + 4, none⟩ = some (.bool x.v.b)
  c5 : w.cell? ⟨p.block, p.off + 5, none⟩ = some (.int .u64 x.v.n)
  c6 : w.cell? ⟨p.block, p.off + 6, none⟩ = some (x.v.l.v)
  c7 : w.cell? ⟨p.block, p.off + 7, none⟩ = some (x.v.m.v)
  c8 : w.cell? ⟨p.block, p.off + 8, none⟩ = some (.string x.v.inner)
  c9 : w.cell? ⟨p.block, p.off + 9, none⟩ = some (.string x.v.unk)
  c10 : w.cell? ⟨p.block, p.off + 10, none⟩ = some (.string x.unk)
theorem KvAt.below {w w' : World} {p : Addr} {x : Kv} (h : KvAt w p x) (hb : Below w.heap.size w w') : KvAt w' p x := ⟨pw_cell_below hb h.c0, pw_cell_below hb h.c1, pw_cell_below hb h.c2, pw_cell_below hb h.c3, pw_cell_below hb h.c4, pw_cell_below hb h.c5, pw_cell_below hb h.c6, pw_cell_below hb h.c7, pw_cell_below hb h.c8, pw_cell_below hb h.c9, pw_cell_below hb h.c10⟩
theorem kv_at {w : World} {p : Addr} {x : Kv} (h : ∀ j, j < 11 → w.cell? (p.add j) = (kvC x)[j]?) : KvAt w p x :=
  ⟨by have := h 0 (by decide); rwa [add_0] at this, by have := h 1 (by decide); rwa [add_at] at this, by have := h 2 (by decide); rwa [add_at] at this, by have := h 3 (by decide); rwa [add_at] at this, by have := h 4 (by decide); rwa [add_at] at this, by have := h 5 (by decide); rwa [add_at] at this, by have := h 6 (by decide); rwa [add_at] at this, by have := h 7 (by decide); rwa [add_at] at this, by have := h 8 (by decide); rwa [add_at] at this, by have := h 9 (by decide); rwa [add_at] at this, by have := h 10 (by decide); rwa [add_at] at this⟩
theorem kv_one (x : Kv) : ∀ u ∈ kvC x, u.oneCell' = true := by
  intro u hu
  simp only [kvC, List.mem_cons, List.not_mem_nil, or_false] at hu
  rcases hu with rfl | rfl | rfl | rfl | rfl | rfl | rfl | rfl | rfl | rfl | rfl <;> rfl
/-- api.Exemplar -/
structure Exm where
  attrs : Sl
  time : Int
  kind : Int
  n : Int
  span : ByteArray
  trace : ByteArray
  unk : ByteArray
  deriving Inhabited
def exmC (x : Exm) : List Value := [x.attrs.v, .int .u64 x.time, .int .i64 x.kind, .int .u64 x.n, .string x.span, .string x.trace, .string x.unk]
/-- What is known of one that was read. -/
structure ExmOk (W : World) (x : Exm) : Prop where
  attrs : Rd Tryz.prog W 22 [x.attrs.v]
  time : 0 ≤ x.time ∧ x.time < 18446744073709551616
  kind : -9223372036854775808 ≤ x.kind ∧ x.kind < 9223372036854775808
  n : 0 ≤ x.n ∧ x.n < 18446744073709551616
  span : x.span.size ≤ maxLen
  trace : x.trace.size ≤ maxLen
  unk : x.unk.size ≤ maxLen
set_option maxRecDepth 100000 in
theorem rd_exm {W : World} {cs : List Value} (h : Rd Tryz.prog W 25 cs) : ∃ x : Exm, cs = exmC x ∧ ExmOk W x := by
  have hu := Tryz.underlying25
  have hl := rd_len hu h
  rw [show Tryz.prog.cellsOf 25 = 7 by kernel_rfl] at hl
  match cs, hl, h with
  | [c0, c1, c2, c3, c4, c5, c6], _, h =>
    have f0 : Rd Tryz.prog W 22 (([c0, c1, c2, c3, c4, c5, c6].drop 0).take (Tryz.prog.cellsOf 22)) := rd_field hu h 0 rfl
    rw [show Tryz.prog.cellsOf 22 = 1 by kernel_rfl] at f0
    have f0 : Rd Tryz.prog W 22 [c0] := f0
    have f1 : Rd Tryz.prog W 23 (([c0, c1, c2, c3, c4, c5, c6].drop 1).take (Tryz.prog.cellsOf 23)) := rd_field hu h 1 rfl
    rw [show Tryz.prog.cellsOf 23 = 1 by kernel_rfl] at f1
    have f1 : Rd Tryz.prog W 23 [c1] := f1
    have f2 : Rd Tryz.prog W 3 (([c0, c1, c2, c3, c4, c5, c6].drop 2).take (Tryz.prog.cellsOf 3)) := rd_field hu h 2 rfl
    rw [show Tryz.prog.cellsOf 3 = 1 by kernel_rfl] at f2
    have f2 : Rd Tryz.prog W 3 [c2] := f2
    have f3 : Rd Tryz.prog W 23 (([c0, c1, c2, c3, c4, c5, c6].drop 3).take (Tryz.prog.cellsOf 23)) := rd_field hu h 3 rfl
    rw [show Tryz.prog.cellsOf 23 = 1 by kernel_rfl] at f3
    have f3 : Rd Tryz.prog W 23 [c3] := f3
    have f4 : Rd Tryz.prog W 9 (([c0, c1, c2, c3, c4, c5, c6].drop 4).take (Tryz.prog.cellsOf 9)) := rd_field hu h 4 rfl
    rw [show Tryz.prog.cellsOf 9 = 1 by kernel_rfl] at f4
    have f4 : Rd Tryz.prog W 9 [c4] := f4
    have f5 : Rd Tryz.prog W 9 (([c0, c1, c2, c3, c4, c5, c6].drop 5).take (Tryz.prog.cellsOf 9)) := rd_field hu h 5 rfl
    rw [show Tryz.prog.cellsOf 9 = 1 by kernel_rfl] at f5
    have f5 : Rd Tryz.prog W 9 [c5] := f5
    have f6 : Rd Tryz.prog W 9 (([c0, c1, c2, c3, c4, c5, c6].drop 6).take (Tryz.prog.cellsOf 9)) := rd_field hu h 6 rfl
    rw [show Tryz.prog.cellsOf 9 = 1 by kernel_rfl] at f6
    have f6 : Rd Tryz.prog W 9 [c6] := f6
    obtain ⟨x0, e0⟩ := rd_slv Tryz.underlying22 f0
    subst e0
    obtain ⟨x1, e1, w1⟩ := rd_int Tryz.underlying23 f1
    have e1 := (List.cons.inj e1).1
    subst e1
    have b1 := bounds_u64 w1
    obtain ⟨x2, e2, w2⟩ := rd_int Tryz.underlying3 f2
    have e2 := (List.cons.inj e2).1
    subst e2
    have b2 := bounds_i64 w2
    obtain ⟨x3, e3, w3⟩ := rd_int Tryz.underlying23 f3
    have e3 := (List.cons.inj e3).1
    subst e3
    have b3 := bounds_u64 w3
    obtain ⟨x4, e4, w4⟩ := rd_string Tryz.underlying9 f4
    have e4 := (List.cons.inj e4).1
    subst e4
    obtain ⟨x5, e5, w5⟩ := rd_string Tryz.underlying9 f5
    have e5 := (List.cons.inj e5).1
    subst e5
    obtain ⟨x6, e6, w6⟩ := rd_string Tryz.underlying9 f6
    have e6 := (List.cons.inj e6).1
    subst e6
    exact ⟨⟨x0, x1, x2, x3, x4, x5, x6⟩, rfl, ⟨f0, ⟨b1.1, Int.lt_of_le_of_lt b1.2 (by decide)⟩, ⟨b2.1, Int.lt_of_le_of_lt b2.2 (by decide)⟩, ⟨b3.1, Int.lt_of_le_of_lt b3.2 (by decide)⟩, w4, w5, w6⟩⟩
/-- One at an address. -/
structure ExmAt (w : World) (p : Addr) (x : Exm) : Prop where
  c0 : w.cell? p = some (x.attrs.v)
  c1 : w.cell? ⟨p.block, p.off + 1, none⟩ = some (.int .u64 x.time)
  c2 : w.cell? ⟨p.block, p.off + 2, none⟩ = some (.int .i64 x.kind)
  c3 : w.cell? ⟨p.block, p.off + 3, none⟩ = some (.int .u64 x.n)
  c4 : w.cell? ⟨p.block, p.off + 4, none⟩ = some (.string x.span)
  c5 : w.cell? ⟨p.block, p.off + 5, none⟩ = some (.string x.trace)
  c6 : w.cell? ⟨p.block, p.off + 6, none⟩ = some (.string x.unk)
theorem ExmAt.below {w w' : World} {p : Addr} {x : Exm} (h : ExmAt w p x) (hb : Below w.heap.size w w') : ExmAt w' p x := ⟨pw_cell_below hb h.c0, pw_cell_below hb h.c1, pw_cell_below hb h.c2, pw_cell_below hb h.c3, pw_cell_below hb h.c4, pw_cell_below hb h.c5, pw_cell_below hb h.c6⟩
theorem exm_at {w : World} {p : Addr} {x : Exm} (h : ∀ j, j < 7 → w.cell? (p.add j) = (exmC x)[j]?) : ExmAt w p x :=
  ⟨by have := h 0 (by decide); rwa [add_0] at this, by have := h 1 (by decide); rwa [add_at] at this, by have := h 2 (by decide); rwa [add_at] at this, by have := h 3 (by decide); rwa [add_at] at this, by have := h 4 (by decide); rwa [add_at] at this, by have := h 5 (by decide); rwa [add_at] at this, by have := h 6 (by decide); rwa [add_at] at this⟩
theorem exm_one (x : Exm) : ∀ u ∈ exmC x, u.oneCell' = true := by
  intro u hu
  simp only [exmC, List.mem_cons, List.not_mem_nil, or_false] at hu
  rcases hu with rfl | rfl | rfl | rfl | rfl | rfl | rfl <;> rfl
theorem rd_vls {W : World} {s : Sl} (h : Rd Tryz.prog W 55 [s.v]) : ∃ l : List Vl, SlAt 8 vlC VlOk W s l := by
  obtain ⟨s', l, e, h⟩ := rd_sl (k := 8) Tryz.underlying55 (by kernel_rfl) (fun es he => rd_vl he) h
  obtain rfl : s = s' := by
    obtain ⟨a, n, c⟩ := s
    obtain ⟨a', n', c'⟩ := s'
    simp only [Sl.v, List.cons.injEq, and_true] at e
    injection e with e1 e2 e3
    subst e1 e2 e3
    rfl
  exact ⟨l, h⟩
theorem rd_kvs {W : World} {s : Sl} (h : Rd Tryz.prog W 22 [s.v]) : ∃ l : List Kv, SlAt 11 kvC KvOk W s l := by
  obtain ⟨s', l, e, h⟩ := rd_sl (k := 11) Tryz.underlying22 (by kernel_rfl) (fun es he => rd_kv he) h
  obtain rfl : s = s' := by
    obtain ⟨a, n, c⟩ := s
    obtain ⟨a', n', c'⟩ := s'
    simp only [Sl.v, List.cons.injEq, and_true] at e
    injection e with e1 e2 e3
    subst e1 e2 e3
    rfl
  exact ⟨l, h⟩
theorem rd_exms {W : World} {s : Sl} (h : Rd Tryz.prog W 39 [s.v]) : ∃ l : List Exm, SlAt 7 exmC ExmOk W s l := by
  obtain ⟨s', l, e, h⟩ := rd_sl (k := 7) Tryz.underlying39 (by kernel_rfl) (fun es he => rd_exm he) h
  obtain rfl : s = s' := by
    obtain ⟨a, n, c⟩ := s
    obtain ⟨a', n', c'⟩ := s'
    simp only [Sl.v, List.cons.injEq, and_true] at e
    injection e with e1 e2 e3
    subst e1 e2 e3
    rfl
  exact ⟨l, h⟩
end Go.Proofs.YtnghlkbmfhkmoaaGreatDoor
