import Derived.ChangeArms
import Derived.Below
import Derived.WalkKit
import Derived.Test.YtdogokcoobpgdaaChecked
import Derived.Test.YtdogokcoobpgdaaWTrm
import Derived.KernelRfl
import Derived.OpenShut
import Derived.Laws.BitsLemmas
import Derived.RowKit
import Derived.Laws.BytesArg
namespace Go.Proofs.Ytdogokcoobpgdaa
open Go.RowKit

/-! ### what reads as data, however deep -/
def Rd (P : Program) (W : World) (t : TypeId) (cs : List Value) : Prop :=
  ∃ (H : Type) (enc : TypeId × Value → H) (sp : Nat → Bool) (held : Bool) (n : Nat) (x : DataW H × List MemPlace), DataW.trod enc P W 0 sp held n t cs = some x
section
variable {P : Program} {W : World} {t : TypeId} {cs : List Value}
theorem rd_int {k : IntKind} (ht : P.underlying t = some (.int k)) (h : Rd P W t cs) : ∃ n, cs = [.int k n] ∧ (Lit.int k n).wf = true := by
  obtain ⟨H, enc, sp, held, n, x, h⟩ := h
  obtain ⟨m, h1, _, h2⟩ := DataW.trod_int ht h
  exact ⟨m, h1, h2⟩
theorem rd_bool (ht : P.underlying t = some .bool) (h : Rd P W t cs) : ∃ b, cs = [.bool b] := by
  obtain ⟨H, enc, sp, held, n, x, h⟩ := h
  obtain ⟨m, h1, _⟩ := DataW.trod_bool ht h
  exact ⟨m, h1⟩
theorem rd_string (ht : P.underlying t = some .string) (h : Rd P W t cs) : ∃ s : ByteArray, cs = [.string s] ∧ s.size ≤ maxLen := by
  obtain ⟨H, enc, sp, held, n, x, h⟩ := h
  obtain ⟨m, h1, _, h2⟩ := DataW.trod_string ht h
  exact ⟨m, h1, h2⟩
theorem rd_len {fs : Array Field} (ht : P.underlying t = some (.struct fs)) (h : Rd P W t cs) : cs.length = P.cellsOf t := by
  obtain ⟨H, enc, sp, held, n, x, h⟩ := h
  obtain ⟨xs, m, _, _, hl, _, _⟩ := DataW.trod_struct ht h
  exact hl
theorem rd_field {fs : Array Field} (ht : P.underlying t = some (.struct fs)) (h : Rd P W t cs) (i : Nat) {f : Field} (hf : fs[i]? = some f) : Rd P W f.type ((cs.drop f.offset).take (P.cellsOf f.type)) := by
  obtain ⟨H, enc, sp, held, n, x, h⟩ := h
  obtain ⟨xs, m, _, _, _, hl, hx⟩ := DataW.trod_struct ht h
  have hi : i < xs.length := by
    rw [hl]
    rcases Nat.lt_or_ge i fs.size with h | h
    · exact h
    · rw [Array.getElem?_eq_none h] at hf; cases hf
  exact ⟨H, enc, sp, held, m, xs[i], by rw [hx i f hf, List.getElem?_eq_getElem hi]⟩
theorem range_mapM {f : Nat → Option Value} {n : Nat} {r : List Value} (h : (List.range n).mapM f = some r) : r.length = n ∧ ∀ i, i < n → f i = r[i]? :=
  ⟨by simpa using mapM_some_length h, fun i hi => mapM_some_get h i i (by simp [hi])⟩
theorem rd_slice {e : TypeId} (ht : P.underlying t = some (.slice e)) (h : Rd P W t cs) : cs = [.slice none 0 0] ∨
    ∃ (a : Addr) (len cap : Nat), cs = [.slice (some a) len cap] ∧ len ≤ cap ∧ cap ≤ maxLen ∧
      ∀ i, i < len → ∃ es : List Value, es.length = P.cellsOf e ∧ (∀ j, j < P.cellsOf e → W.cell? ((a.add (i * P.cellsOf e)).add j) = es[j]?) ∧ Rd P W e es := by
  obtain ⟨H, enc, sp, held, n, x, h⟩ := h
  rcases DataW.trod_slice ht h with ⟨h1, _⟩ | ⟨a, len, cap, elems, rest, m, _, h1, _, _, h2, h3, h4, h5, _⟩
  · exact .inl h1
  · refine .inr ⟨a, len, cap, h1, h2, h3, fun i hi => ?_⟩
    have hb := h5 i hi
    rw [List.getElem?_eq_getElem (by omega)] at hb
    obtain ⟨es, he, hr⟩ := Option.bind_eq_some_iff.1 hb
    unfold World.cells? at he
    split at he
    · obtain ⟨l1, l2⟩ := range_mapM he
      exact ⟨es, l1, l2, H, enc, sp, held, m, _, hr⟩
    · cases he
end
theorem list_of {α : Type} : ∀ {n : Nat} {p : Nat → α → Prop}, (∀ i, i < n → ∃ x, p i x) → ∃ l : List α, l.length = n ∧ ∀ i (h : i < l.length), p i l[i] := by
  intro n
  induction n with
  | zero => intro p _; exact ⟨[], rfl, fun i h => absurd h (Nat.not_lt_zero i)⟩
  | succ n ih =>
    intro p h
    obtain ⟨l, hl, hp⟩ := ih (p := p) (fun i hi => h i (by omega))
    obtain ⟨x, hx⟩ := h n (by omega)
    refine ⟨l ++ [x], by simp [hl], fun i hi => ?_⟩
    by_cases hlt : i < l.length
    · rw [List.getElem_append_left hlt]; exact hp i hlt
    · have : i = l.length := by simp at hi; omega
      subst this
      rw [List.getElem_concat_length rfl (by simp), hl]; exact hx
/-- A slice's value, as it lies. -/
structure Sl where
  a : Option Addr
  len : Nat
  cap : Nat
  deriving Inhabited
def Sl.v (s : Sl) : Value := .slice s.a s.len s.cap
/-- A slice's elements: each k cells, read as an α that is good. -/
def SlAt {α : Type} (k : Nat) (c : α → List Value) (ok : World → α → Prop) (W : World) (s : Sl) (l : List α) : Prop :=
  s.len = l.length ∧ s.len ≤ s.cap ∧ s.cap ≤ maxLen ∧ (0 < l.length → ∃ a, s.a = some a ∧ ∀ i (h : i < l.length), (∀ j, j < k → W.cell? ((a.add (i * k)).add j) = (c l[i])[j]?) ∧ ok W l[i])
theorem rd_sl {α : Type} {P : Program} {W : World} {t e : TypeId} {cs : List Value} {k : Nat} {c : α → List Value} {ok : World → α → Prop} (ht : P.underlying t = some (.slice e)) (hk : P.cellsOf e = k)
    (hread : ∀ es, Rd P W e es → ∃ x, es = c x ∧ ok W x) (h : Rd P W t cs) : ∃ (s : Sl) (l : List α), cs = [s.v] ∧ SlAt k c ok W s l := by
  rcases rd_slice ht h with rfl | ⟨a, len, cap, rfl, h1, h2, h3⟩
  · exact ⟨⟨none, 0, 0⟩, [], rfl, rfl, Nat.le_refl _, Nat.zero_le _, fun h => absurd h (Nat.lt_irrefl 0)⟩
  · rw [hk] at h3
    obtain ⟨l, hl, hp⟩ := list_of (n := len) (p := fun i x => (∀ j, j < k → W.cell? ((a.add (i * k)).add j) = (c x)[j]?) ∧ ok W x) (fun i hi => by
      obtain ⟨es, _, e2, e3⟩ := h3 i hi
      obtain ⟨x, rfl, hx⟩ := hread es e3
      exact ⟨x, e2, hx⟩)
    exact ⟨⟨some a, len, cap⟩, l, rfl, hl.symm, h1, h2, fun _ => ⟨a, rfl, hp⟩⟩
theorem add_at (p : Addr) (j : Nat) : p.add (j + 1) = ⟨p.block, p.off + (j + 1), none⟩ := by simp [Addr.add]
theorem add_0 (p : Addr) : p.add 0 = p := by simp [Addr.add]
end Go.Proofs.Ytdogokcoobpgdaa
namespace Go.Proofs.Ytdogokcoobpgdaa
/-- Which operations are done, as the bits of a number (merge.py's shorter spelling). -/
def mkM (n m : Nat) : Array Bool := ((List.range n).map fun i => m.testBit i).toArray
theorem s1_ (l : List Go.Value) (i : Nat) (v : Go.Value) : l.toArray.setIfInBounds i v = (l.set i v).toArray := List.setIfInBounds_toArray ..
theorem s2_ (a b : Go.Value) (l : List Go.Value) : (a :: l).set 0 b = b :: l := List.set_cons_zero ..
theorem s3_ (a b : Go.Value) (l : List Go.Value) (n : Nat) : (a :: l).set (n + 1) b = a :: l.set n b := List.set_cons_succ ..
end Go.Proofs.Ytdogokcoobpgdaa
namespace Go.Proofs.Ytdogokcoobpgdaa
open Go.RowKit Go.ChangeShapes Go.WideShapes Go.Proofs.YtdogokcoobpgdaaW.PrintWords

theorem rd_slv {P : Program} {W : World} {t e : TypeId} {c : Value} (ht : P.underlying t = some (.slice e)) (h : Rd P W t [c]) : ∃ s : Sl, c = s.v := by
  rcases rd_slice ht h with h | ⟨a, len, cap, h, _⟩
  · simp only [List.cons.injEq, and_true] at h; exact ⟨⟨none, 0, 0⟩, h⟩
  · simp only [List.cons.injEq, and_true] at h; exact ⟨⟨some a, len, cap⟩, h⟩
/-- api.Value -/
structure Vl where
  kind : Int
  s : ByteArray
  b : Bool
  n : Int
  l : Sl
  m : Sl
  inner : ByteArray
  unk : ByteArray
  deriving Inhabited
def vlC (x : Vl) : List Value := [.int .i64 x.kind, .string x.s, .bool x.b, .int .u64 x.n, x.l.v, x.m.v, .string x.inner, .string x.unk]
/-- What is known of one that was read. -/
structure VlOk (W : World) (x : Vl) : Prop where
  kind : -9223372036854775808 ≤ x.kind ∧ x.kind < 9223372036854775808
  s : x.s.size ≤ maxLen
  n : 0 ≤ x.n ∧ x.n < 18446744073709551616
  l : Rd Try.prog W 40 [x.l.v]
  m : Rd Try.prog W 22 [x.m.v]
  inner : x.inner.size ≤ maxLen
  unk : x.unk.size ≤ maxLen
set_option maxRecDepth 100000 in
theorem rd_vl {W : World} {cs : List Value} (h : Rd Try.prog W 42 cs) : ∃ x : Vl, cs = vlC x ∧ VlOk W x := by
  have hu := Try.underlying42
  have hl := rd_len hu h
  rw [show Try.prog.cellsOf 42 = 8 by kernel_rfl] at hl
  match cs, hl, h with
  | [c0, c1, c2, c3, c4, c5, c6, c7], _, h =>
    have f0 : Rd Try.prog W 3 (([c0, c1, c2, c3, c4, c5, c6, c7].drop 0).take (Try.prog.cellsOf 3)) := rd_field hu h 0 rfl
    rw [show Try.prog.cellsOf 3 = 1 by kernel_rfl] at f0
    have f0 : Rd Try.prog W 3 [c0] := f0
    have f1 : Rd Try.prog W 9 (([c0, c1, c2, c3, c4, c5, c6, c7].drop 1).take (Try.prog.cellsOf 9)) := rd_field hu h 1 rfl
    rw [show Try.prog.cellsOf 9 = 1 by kernel_rfl] at f1
    have f1 : Rd Try.prog W 9 [c1] := f1
    have f2 : Rd Try.prog W 4 (([c0, c1, c2, c3, c4, c5, c6, c7].drop 2).take (Try.prog.cellsOf 4)) := rd_field hu h 2 rfl
    rw [show Try.prog.cellsOf 4 = 1 by kernel_rfl] at f2
    have f2 : Rd Try.prog W 4 [c2] := f2
    have f3 : Rd Try.prog W 23 (([c0, c1, c2, c3, c4, c5, c6, c7].drop 3).take (Try.prog.cellsOf 23)) := rd_field hu h 3 rfl
    rw [show Try.prog.cellsOf 23 = 1 by kernel_rfl] at f3
    have f3 : Rd Try.prog W 23 [c3] := f3
    have f4 : Rd Try.prog W 40 (([c0, c1, c2, c3, c4, c5, c6, c7].drop 4).take (Try.prog.cellsOf 40)) := rd_field hu h 4 rfl
    rw [show Try.prog.cellsOf 40 = 1 by kernel_rfl] at f4
    have f4 : Rd Try.prog W 40 [c4] := f4
    have f5 : Rd Try.prog W 22 (([c0, c1, c2, c3, c4, c5, c6, c7].drop 5).take (Try.prog.cellsOf 22)) := rd_field hu h 5 rfl
    rw [show Try.prog.cellsOf 22 = 1 by kernel_rfl] at f5
    have f5 : Rd Try.prog W 22 [c5] := f5
    have f6 : Rd Try.prog W 9 (([c0, c1, c2, c3, c4, c5, c6, c7].drop 6).take (Try.prog.cellsOf 9)) := rd_field hu h 6 rfl
    rw [show Try.prog.cellsOf 9 = 1 by kernel_rfl] at f6
    have f6 : Rd Try.prog W 9 [c6] := f6
    have f7 : Rd Try.prog W 9 (([c0, c1, c2, c3, c4, c5, c6, c7].drop 7).take (Try.prog.cellsOf 9)) := rd_field hu h 7 rfl
    rw [show Try.prog.cellsOf 9 = 1 by kernel_rfl] at f7
    have f7 : Rd Try.prog W 9 [c7] := f7
    obtain ⟨x0, e0, w0⟩ := rd_int Try.underlying3 f0
    have e0 := (List.cons.inj e0).1
    subst e0
    have b0 := bounds_i64 w0
    obtain ⟨x1, e1, w1⟩ := rd_string Try.underlying9 f1
    have e1 := (List.cons.inj e1).1
    subst e1
    obtain ⟨x2, e2⟩ := rd_bool Try.underlying4 f2
    have e2 := (List.cons.inj e2).1
    subst e2
    obtain ⟨x3, e3, w3⟩ := rd_int Try.underlying23 f3
    have e3 := (List.cons.inj e3).1
    subst e3
    have b3 := bounds_u64 w3
    obtain ⟨x4, e4⟩ := rd_slv Try.underlying40 f4
    subst e4
    obtain ⟨x5, e5⟩ := rd_slv Try.underlying22 f5
    subst e5
    obtain ⟨x6, e6, w6⟩ := rd_string Try.underlying9 f6
    have e6 := (List.cons.inj e6).1
    subst e6
    obtain ⟨x7, e7, w7⟩ := rd_string Try.underlying9 f7
    have e7 := (List.cons.inj e7).1
    subst e7
    exact ⟨⟨x0, x1, x2, x3, x4, x5, x6, x7⟩, rfl, ⟨⟨b0.1, Int.lt_of_le_of_lt b0.2 (by decide)⟩, w1, ⟨b3.1, Int.lt_of_le_of_lt b3.2 (by decide)⟩, f4, f5, w6, w7⟩⟩
/-- One at an address. -/
structure VlAt (w : World) (p : Addr) (x : Vl) : Prop where
  c0 : w.cell? p = some (.int .i64 x.kind)
  c1 : w.cell? ⟨p.block, p.off + 1, none⟩ = some (.string x.s)
  c2 : w.cell? ⟨p.block, p.off + 2, none⟩ = some (.bool x.b)
  c3 : w.cell? ⟨p.block, p.off + 3, none⟩ = some (.int .u64 x.n)
  c4 : w.cell? ⟨p.block, p.off + 4, none⟩ = some (x.l.v)
  c5 : w.cell? ⟨p.block, p.off + 5, none⟩ = some (x.m.v)
  c6 : w.cell? ⟨p.block, p.off + 6, none⟩ = some (.string x.inner)
  c7 : w.cell? ⟨p.block, p.off + 7, none⟩ = some (.string x.unk)
theorem VlAt.below {w w' : World} {p : Addr} {x : Vl} (h : VlAt w p x) (hb : Below w.heap.size w w') : VlAt w' p x := ⟨pw_cell_below hb h.c0, pw_cell_below hb h.c1, pw_cell_below hb h.c2, pw_cell_below hb h.c3, pw_cell_below hb h.c4, pw_cell_below hb h.c5, pw_cell_below hb h.c6, pw_cell_below hb h.c7⟩
theorem vl_at {w : World} {p : Addr} {x : Vl} (h : ∀ j, j < 8 → w.cell? (p.add j) = (vlC x)[j]?) : VlAt w p x :=
  ⟨by have := h 0 (by decide); rwa [add_0] at this, by have := h 1 (by decide); rwa [add_at] at this, by have := h 2 (by decide); rwa [add_at] at this, by have := h 3 (by decide); rwa [add_at] at this, by have := h 4 (by decide); rwa [add_at] at this, by have := h 5 (by decide); rwa [add_at] at this, by have := h 6 (by decide); rwa [add_at] at this, by have := h 7 (by decide); rwa [add_at] at this⟩
theorem vl_one (x : Vl) : ∀ u ∈ vlC x, u.oneCell' = true := by
  intro u hu
  simp only [vlC, List.mem_cons, List.not_mem_nil, or_false] at hu
  rcases hu with rfl | rfl | rfl | rfl | rfl | rfl | rfl | rfl <;> rfl
/-- api.KeyValue -/
structure Kv where
  key : ByteArray
  has : Bool
  v : Vl
  unk : ByteArray
  deriving Inhabited
def kvC (x : Kv) : List Value := [.string x.key, .bool x.has, .int .i64 x.v.kind, .string x.v.s, .bool x.v.b, .int .u64 x.v.n, x.v.l.v, x.v.m.v, .string x.v.inner, .string x.v.unk, .string x.unk]
/-- What is known of one that was read. -/
structure KvOk (W : World) (x : Kv) : Prop where
  key : x.key.size ≤ maxLen
  v : VlOk W x.v
  unk : x.unk.size ≤ maxLen
set_option maxRecDepth 100000 in
theorem rd_kv {W : World} {cs : List Value} (h : Rd Try.prog W 44 cs) : ∃ x : Kv, cs = kvC x ∧ KvOk W x := by
  have hu := Try.underlying44
  have hl := rd_len hu h
  rw [show Try.prog.cellsOf 44 = 11 by kernel_rfl] at hl
  match cs, hl, h with
  | [c0, c1, c2, c3, c4, c5, c6, c7, c8, c9, c10], _, h =>
    have f0 : Rd Try.prog W 9 (([c0, c1, c2, c3, c4, c5, c6, c7, c8, c9, c10].drop 0).take (Try.prog.cellsOf 9)) := rd_field hu h 0 rfl
    rw [show Try.prog.cellsOf 9 = 1 by kernel_rfl] at f0
    have f0 : Rd Try.prog W 9 [c0] := f0
    have f1 : Rd Try.prog W 4 (([c0, c1, c2, c3, c4, c5, c6, c7, c8, c9, c10].drop 1).take (Try.prog.cellsOf 4)) := rd_field hu h 1 rfl
    rw [show Try.prog.cellsOf 4 = 1 by kernel_rfl] at f1
    have f1 : Rd Try.prog W 4 [c1] := f1
    have f2 : Rd Try.prog W 42 (([c0, c1, c2, c3, c4, c5, c6, c7, c8, c9, c10].drop 2).take (Try.prog.cellsOf 42)) := rd_field hu h 2 rfl
    rw [show Try.prog.cellsOf 42 = 8 by kernel_rfl] at f2
    have f2 : Rd Try.prog W 42 [c2, c3, c4, c5, c6, c7, c8, c9] := f2
    have f3 : Rd Try.prog W 9 (([c0, c1, c2, c3, c4, c5, c6, c7, c8, c9, c10].drop 10).take (Try.prog.cellsOf 9)) := rd_field hu h 3 rfl
    rw [show Try.prog.cellsOf 9 = 1 by kernel_rfl] at f3
    have f3 : Rd Try.prog W 9 [c10] := f3
    obtain ⟨x0, e0, w0⟩ := rd_string Try.underlying9 f0
    have e0 := (List.cons.inj e0).1
    subst e0
    obtain ⟨x1, e1⟩ := rd_bool Try.underlying4 f1
    have e1 := (List.cons.inj e1).1
    subst e1
    obtain ⟨x2, e2, w2⟩ := rd_vl f2
    simp only [vlC] at e2
    obtain ⟨rfl, rfl, rfl, rfl, rfl, rfl, rfl, rfl⟩ := e2
    obtain ⟨x3, e3, w3⟩ := rd_string Try.underlying9 f3
    have e3 := (List.cons.inj e3).1
    subst e3
    exact ⟨⟨x0, x1, x2, x3⟩, rfl, ⟨w0, w2, w3⟩⟩
/-- One at an address. -/
structure KvAt (w : World) (p : Addr) (x : Kv) : Prop where
  c0 : w.cell? p = some (.string x.key)
  c1 : w.cell? ⟨p.block, p.off + 1, none⟩ = some (.bool x.has)
  c2 : w.cell? ⟨p.block, p.off + 2, none⟩ = some (.int .i64 x.v.kind)
  c3 : w.cell? ⟨p.block, p.off + 3, none⟩ = some (.string x.v.s)
  c4 : w.cell? ⟨p.block, p.off + 4, none⟩ = some (.bool x.v.b)
  c5 : w.cell? ⟨p.block, p.off + 5, none⟩ = some (.int .u64 x.v.n)
  c6 : w.cell? ⟨p.block, p.off + 6, none⟩ = some (x.v.l.v)
  c7 : w.cell? ⟨p.block, p.off + 7, none⟩ = some (x.v.m.v)
  c8 : w.cell? ⟨p.block, p.off + 8, none⟩ = some (.string x.v.inner)
  c9 : w.cell? ⟨p.block, p.off + 9, none⟩ = some (.string x.v.unk)
  c10 : w.cell? ⟨p.block, p.off + 10, none⟩ = some (.string x.unk)
theorem KvAt.below {w w' : World} {p : Addr} {x : Kv} (h : KvAt w p x) (hb : Below w.heap.size w w') : KvAt w' p x := ⟨pw_cell_below hb h.c0, pw_cell_below hb h.c1, pw_cell_below hb h.c2, pw_cell_below hb h.c3, pw_cell_below hb h.c4, pw_cell_below hb h.c5, pw_cell_below hb h.c6, pw_cell_below hb h.c7, pw_cell_below hb h.c8, pw_cell_below hb h.c9, pw_cell_below hb h.c10⟩
theorem kv_at {w : World} {p : Addr} {x : Kv} (h : ∀ j, j < 11 → w.cell? (p.add j) = (kvC x)[j]?) : KvAt w p x :=
  ⟨by have := h 0 (by decide); rwa [add_0] at this, by have := h 1 (by decide); rwa [add_at] at this, by have := h 2 (by decide); rwa [add_at] at this, by have := h 3 (by decide); rwa [add_at] at this, by have := h 4 (by decide); rwa [add_at] at this, by have := h 5 (by decide); rwa [add_at] at this, by have := h 6 (by decide); rwa [add_at] at this, by have := h 7 (by decide); rwa [add_at] at this, by have := h 8 (by decide); rwa [add_at] at this, by have := h 9 (by decide); rwa [add_at] at this, by have := h 10 (by decide); rwa [add_at] at this⟩
theorem kv_one (x : Kv) : ∀ u ∈ kvC x, u.oneCell' = true := by
  intro u hu
  simp only [kvC, List.mem_cons, List.not_mem_nil, or_false] at hu
  rcases hu with rfl | rfl | rfl | rfl | rfl | rfl | rfl | rfl | rfl | rfl | rfl <;> rfl
/-- api.Opt -/
structure Op where
  has : Bool
  n : Int
  deriving Inhabited
def opC (x : Op) : List Value := [.bool x.has, .int .u64 x.n]
/-- What is known of one that was read. -/
structure OpOk (W : World) (x : Op) : Prop where
  n : 0 ≤ x.n ∧ x.n < 18446744073709551616
set_option maxRecDepth 100000 in
theorem rd_op {W : World} {cs : List Value} (h : Rd Try.prog W 25 cs) : ∃ x : Op, cs = opC x ∧ OpOk W x := by
  have hu := Try.underlying25
  have hl := rd_len hu h
  rw [show Try.prog.cellsOf 25 = 2 by kernel_rfl] at hl
  match cs, hl, h with
  | [c0, c1], _, h =>
    have f0 : Rd Try.prog W 4 (([c0, c1].drop 0).take (Try.prog.cellsOf 4)) := rd_field hu h 0 rfl
    rw [show Try.prog.cellsOf 4 = 1 by kernel_rfl] at f0
    have f0 : Rd Try.prog W 4 [c0] := f0
    have f1 : Rd Try.prog W 23 (([c0, c1].drop 1).take (Try.prog.cellsOf 23)) := rd_field hu h 1 rfl
    rw [show Try.prog.cellsOf 23 = 1 by kernel_rfl] at f1
    have f1 : Rd Try.prog W 23 [c1] := f1
    obtain ⟨x0, e0⟩ := rd_bool Try.underlying4 f0
    have e0 := (List.cons.inj e0).1
    subst e0
    obtain ⟨x1, e1, w1⟩ := rd_int Try.underlying23 f1
    have e1 := (List.cons.inj e1).1
    subst e1
    have b1 := bounds_u64 w1
    exact ⟨⟨x0, x1⟩, rfl, ⟨⟨b1.1, Int.lt_of_le_of_lt b1.2 (by decide)⟩⟩⟩
/-- One at an address. -/
structure OpAt (w : World) (p : Addr) (x : Op) : Prop where
  c0 : w.cell? p = some (.bool x.has)
  c1 : w.cell? ⟨p.block, p.off + 1, none⟩ = some (.int .u64 x.n)
theorem OpAt.below {w w' : World} {p : Addr} {x : Op} (h : OpAt w p x) (hb : Below w.heap.size w w') : OpAt w' p x := ⟨pw_cell_below hb h.c0, pw_cell_below hb h.c1⟩
theorem op_at {w : World} {p : Addr} {x : Op} (h : ∀ j, j < 2 → w.cell? (p.add j) = (opC x)[j]?) : OpAt w p x :=
  ⟨by have := h 0 (by decide); rwa [add_0] at this, by have := h 1 (by decide); rwa [add_at] at this⟩
theorem op_one (x : Op) : ∀ u ∈ opC x, u.oneCell' = true := by
  intro u hu
  simp only [opC, List.mem_cons, List.not_mem_nil, or_false] at hu
  rcases hu with rfl | rfl <;> rfl
/-- api.Exemplar -/
structure Exm where
  attrs : Sl
  time : Int
  kind : Int
  n : Int
  span : ByteArray
  trace : ByteArray
  unk : ByteArray
  deriving Inhabited
def exmC (x : Exm) : List Value := [x.attrs.v, .int .u64 x.time, .int .i64 x.kind, .int .u64 x.n, .string x.span, .string x.trace, .string x.unk]
/-- What is known of one that was read. -/
structure ExmOk (W : World) (x : Exm) : Prop where
  attrs : Rd Try.prog W 22 [x.attrs.v]
  time : 0 ≤ x.time ∧ x.time < 18446744073709551616
  kind : -9223372036854775808 ≤ x.kind ∧ x.kind < 9223372036854775808
  n : 0 ≤ x.n ∧ x.n < 18446744073709551616
  span : x.span.size ≤ maxLen
  trace : x.trace.size ≤ maxLen
  unk : x.unk.size ≤ maxLen
set_option maxRecDepth 100000 in
theorem rd_exm {W : World} {cs : List Value} (h : Rd Try.prog W 83 cs) : ∃ x : Exm, cs = exmC x ∧ ExmOk W x := by
  have hu := Try.underlying83
  have hl := rd_len hu h
  rw [show Try.prog.cellsOf 83 = 7 by kernel_rfl] at hl
  match cs, hl, h with
  | [c0, c1, c2, c3, c4, c5, c6], _, h =>
    have f0 : Rd Try.prog W 22 (([c0, c1, c2, c3, c4, c5, c6].drop 0).take (Try.prog.cellsOf 22)) := rd_field hu h 0 rfl
    rw [show Try.prog.cellsOf 22 = 1 by kernel_rfl] at f0
    have f0 : Rd Try.prog W 22 [c0] := f0
    have f1 : Rd Try.prog W 23 (([c0, c1, c2, c3, c4, c5, c6].drop 1).take (Try.prog.cellsOf 23)) := rd_field hu h 1 rfl
    rw [show Try.prog.cellsOf 23 = 1 by kernel_rfl] at f1
    have f1 : Rd Try.prog W 23 [c1] := f1
    have f2 : Rd Try.prog W 3 (([c0, c1, c2, c3, c4, c5, c6].drop 2).take (Try.prog.cellsOf 3)) := rd_field hu h 2 rfl
    rw [show Try.prog.cellsOf 3 = 1 by kernel_rfl] at f2
    have f2 : Rd Try.prog W 3 [c2] := f2
    have f3 : Rd Try.prog W 23 (([c0, c1, c2, c3, c4, c5, c6].drop 3).take (Try.prog.cellsOf 23)) := rd_field hu h 3 rfl
    rw [show Try.prog.cellsOf 23 = 1 by kernel_rfl] at f3
    have f3 : Rd Try.prog W 23 [c3] := f3
    have f4 : Rd Try.prog W 9 (([c0, c1, c2, c3, c4, c5, c6].drop 4).take (Try.prog.cellsOf 9)) := rd_field hu h 4 rfl
    rw [show Try.prog.cellsOf 9 = 1 by kernel_rfl] at f4
    have f4 : Rd Try.prog W 9 [c4] := f4
    have f5 : Rd Try.prog W 9 (([c0, c1, c2, c3, c4, c5, c6].drop 5).take (Try.prog.cellsOf 9)) := rd_field hu h 5 rfl
    rw [show Try.prog.cellsOf 9 = 1 by kernel_rfl] at f5
    have f5 : Rd Try.prog W 9 [c5] := f5
    have f6 : Rd Try.prog W 9 (([c0, c1, c2, c3, c4, c5, c6].drop 6).take (Try.prog.cellsOf 9)) := rd_field hu h 6 rfl
    rw [show Try.prog.cellsOf 9 = 1 by kernel_rfl] at f6
    have f6 : Rd Try.prog W 9 [c6] := f6
    obtain ⟨x0, e0⟩ := rd_slv Try.underlying22 f0
    subst e0
    obtain ⟨x1, e1, w1⟩ := rd_int Try.underlying23 f1
    have e1 := (List.cons.inj e1).1
    subst e1
    have b1 := bounds_u64 w1
    obtain ⟨x2, e2, w2⟩ := rd_int Try.underlying3 f2
    have e2 := (List.cons.inj e2).1
    subst e2
    have b2 := bounds_i64 w2
    obtain ⟨x3, e3, w3⟩ := rd_int Try.underlying23 f3
    have e3 := (List.cons.inj e3).1
    subst e3
    have b3 := bounds_u64 w3
    obtain ⟨x4, e4, w4⟩ := rd_string Try.underlying9 f4
    have e4 := (List.cons.inj e4).1
    subst e4
    obtain ⟨x5, e5, w5⟩ := rd_string Try.underlying9 f5
    have e5 := (List.cons.inj e5).1
    subst e5
    obtain ⟨x6, e6, w6⟩ := rd_string Try.underlying9 f6
    have e6 := (List.cons.inj e6).1
    subst e6
    exact ⟨⟨x0, x1, x2, x3, x4, x5, x6⟩, rfl, ⟨f0, ⟨b1.1, Int.lt_of_le_of_lt b1.2 (by decide)⟩, ⟨b2.1, Int.lt_of_le_of_lt b2.2 (by decide)⟩, ⟨b3.1, Int.lt_of_le_of_lt b3.2 (by decide)⟩, w4, w5, w6⟩⟩
/-- One at an address. -/
structure ExmAt (w : World) (p : Addr) (x : Exm) : Prop where
  c0 : w.cell? p = some (x.attrs.v)
  c1 : w.cell? ⟨p.block, p.off + 1, none⟩ = some (.int .u64 x.time)
  c2 : w.cell? ⟨p.block, p.off + 2, none⟩ = some (.int .i64 x.kind)
  c3 : w.cell? ⟨p.block, p.off + 3, none⟩ = some (.int .u64 x.n)
  c4 : w.cell? ⟨p.block, p.off + 4, none⟩ = some (.string x.span)
  c5 : w.cell? ⟨p.block, p.off + 5, none⟩ = some (.string x.trace)
  c6 : w.cell? ⟨p.block, p.off + 6, none⟩ = some (.string x.unk)
theorem ExmAt.below {w w' : World} {p : Addr} {x : Exm} (h : ExmAt w p x) (hb : Below w.heap.size w w') : ExmAt w' p x := ⟨pw_cell_below hb h.c0, pw_cell_below hb h.c1, pw_cell_below hb h.c2, pw_cell_below hb h.c3, pw_cell_below hb h.c4, pw_cell_below hb h.c5, pw_cell_below hb h.c6⟩
theorem exm_at {w : World} {p : Addr} {x : Exm} (h : ∀ j, j < 7 → w.cell? (p.add j) = (exmC x)[j]?) : ExmAt w p x :=
  ⟨by have := h 0 (by decide); rwa [add_0] at this, by have := h 1 (by decide); rwa [add_at] at this, by have := h 2 (by decide); rwa [add_at] at this, by have := h 3 (by decide); rwa [add_at] at this, by have := h 4 (by decide); rwa [add_at] at this, by have := h 5 (by decide); rwa [add_at] at this, by have := h 6 (by decide); rwa [add_at] at this⟩
theorem exm_one (x : Exm) : ∀ u ∈ exmC x, u.oneCell' = true := by
  intro u hu
  simp only [exmC, List.mem_cons, List.not_mem_nil, or_false] at hu
  rcases hu with rfl | rfl | rfl | rfl | rfl | rfl | rfl <;> rfl
/-- api.Hist -/
structure Hst where
  attrs : Sl
  start : Int
  time : Int
  count : Int
  sum : Op
  mn : Op
  mx : Op
  counts : Sl
  bounds : Sl
  exs : Sl
  flags : Int
  unk : ByteArray
  deriving Inhabited
def hstC (x : Hst) : List Value := [x.attrs.v, .int .u64 x.start, .int .u64 x.time, .int .u64 x.count, .bool x.sum.has, .int .u64 x.sum.n, .bool x.mn.has, .int .u64 x.mn.n, .bool x.mx.has, .int .u64 x.mx.n, x.counts.v, x.bounds.v, x.exs.v, .int .u32 x.flags, .string x.unk]
/-- What is known of one that was read. -/
structure HstOk (W : World) (x : Hst) : Prop where
  attrs : Rd Try.prog W 22 [x.attrs.v]
  start : 0 ≤ x.start ∧ x.start < 18446744073709551616
  time : 0 ≤ x.time ∧ x.time < 18446744073709551616
  count : 0 ≤ x.count ∧ x.count < 18446744073709551616
  sum : OpOk W x.sum
  mn : OpOk W x.mn
  mx : OpOk W x.mx
  counts : Rd Try.prog W 26 [x.counts.v]
  bounds : Rd Try.prog W 26 [x.bounds.v]
  exs : Rd Try.prog W 27 [x.exs.v]
  flags : 0 ≤ x.flags ∧ x.flags < 4294967296
  unk : x.unk.size ≤ maxLen
set_option maxRecDepth 100000 in
theorem rd_hst {W : World} {cs : List Value} (h : Rd Try.prog W 30 cs) : ∃ x : Hst, cs = hstC x ∧ HstOk W x := by
  have hu := Try.underlying30
  have hl := rd_len hu h
  rw [show Try.prog.cellsOf 30 = 15 by kernel_rfl] at hl
  match cs, hl, h with
  | [c0, c1, c2, c3, c4, c5, c6, c7, c8, c9, c10, c11, c12, c13, c14], _, h =>
    have f0 : Rd Try.prog W 22 (([c0, c1, c2, c3, c4, c5, c6, c7, c8, c9, c10, c11, c12, c13, c14].drop 0).take (Try.prog.cellsOf 22)) := rd_field hu h 0 rfl
    rw [show Try.prog.cellsOf 22 = 1 by kernel_rfl] at f0
    have f0 : Rd Try.prog W 22 [c0] := f0
    have f1 : Rd Try.prog W 23 (([c0, c1, c2, c3, c4, c5, c6, c7, c8, c9, c10, c11, c12, c13, c14].drop 1).take (Try.prog.cellsOf 23)) := rd_field hu h 1 rfl
    rw [show Try.prog.cellsOf 23 = 1 by kernel_rfl] at f1
    have f1 : Rd Try.prog W 23 [c1] := f1
    have f2 : Rd Try.prog W 23 (([c0, c1, c2, c3, c4, c5, c6, c7, c8, c9, c10, c11, c12, c13, c14].drop 2).take (Try.prog.cellsOf 23)) := rd_field hu h 2 rfl
    rw [show Try.prog.cellsOf 23 = 1 by kernel_rfl] at f2
    have f2 : Rd Try.prog W 23 [c2] := f2
    have f3 : Rd Try.prog W 23 (([c0, c1, c2, c3, c4, c5, c6, c7, c8, c9, c10, c11, c12, c13, c14].drop 3).take (Try.prog.cellsOf 23)) := rd_field hu h 3 rfl
    rw [show Try.prog.cellsOf 23 = 1 by kernel_rfl] at f3
    have f3 : Rd Try.prog W 23 [c3] := f3
    have f4 : Rd Try.prog W 25 (([c0, c1, c2, c3, c4, c5, c6, c7, c8, c9, c10, c11, c12, c13, c14].drop 4).take (Try.prog.cellsOf 25)) := rd_field hu h 4 rfl
    rw [show Try.prog.cellsOf 25 = 2 by kernel_rfl] at f4
    have f4 : Rd Try.prog W 25 [c4, c5] := f4
    have f5 : Rd Try.prog W 25 (([c0, c1, c2, c3, c4, c5, c6, c7, c8, c9, c10, c11, c12, c13, c14].drop 6).take (Try.prog.cellsOf 25)) := rd_field hu h 5 rfl
    rw [show Try.prog.cellsOf 25 = 2 by kernel_rfl] at f5
    have f5 : Rd Try.prog W 25 [c6, c7] := f5
    have f6 : Rd Try.prog W 25 (([c0, c1, c2, c3, c4, c5, c6, c7, c8, c9, c10, c11, c12, c13, c14].drop 8).take (Try.prog.cellsOf 25)) := rd_field hu h 6 rfl
    rw [show Try.prog.cellsOf 25 = 2 by kernel_rfl] at f6
    have f6 : Rd Try.prog W 25 [c8, c9] := f6
    have f7 : Rd Try.prog W 26 (([c0, c1, c2, c3, c4, c5, c6, c7, c8, c9, c10, c11, c12, c13, c14].drop 10).take (Try.prog.cellsOf 26)) := rd_field hu h 7 rfl
    rw [show Try.prog.cellsOf 26 = 1 by kernel_rfl] at f7
    have f7 : Rd Try.prog W 26 [c10] := f7
    have f8 : Rd Try.prog W 26 (([c0, c1, c2, c3, c4, c5, c6, c7, c8, c9, c10, c11, c12, c13, c14].drop 11).take (Try.prog.cellsOf 26)) := rd_field hu h 8 rfl
    rw [show Try.prog.cellsOf 26 = 1 by kernel_rfl] at f8
    have f8 : Rd Try.prog W 26 [c11] := f8
    have f9 : Rd Try.prog W 27 (([c0, c1, c2, c3, c4, c5, c6, c7, c8, c9, c10, c11, c12, c13, c14].drop 12).take (Try.prog.cellsOf 27)) := rd_field hu h 9 rfl
    rw [show Try.prog.cellsOf 27 = 1 by kernel_rfl] at f9
    have f9 : Rd Try.prog W 27 [c12] := f9
    have f10 : Rd Try.prog W 28 (([c0, c1, c2, c3, c4, c5, c6, c7, c8, c9, c10, c11, c12, c13, c14].drop 13).take (Try.prog.cellsOf 28)) := rd_field hu h 10 rfl
    rw [show Try.prog.cellsOf 28 = 1 by kernel_rfl] at f10
    have f10 : Rd Try.prog W 28 [c13] := f10
    have f11 : Rd Try.prog W 9 (([c0, c1, c2, c3, c4, c5, c6, c7, c8, c9, c10, c11, c12, c13, c14].drop 14).take (Try.prog.cellsOf 9)) := rd_field hu h 11 rfl
    rw [show Try.prog.cellsOf 9 = 1 by kernel_rfl] at f11
    have f11 : Rd Try.prog W 9 [c14] := f11
    obtain ⟨x0, e0⟩ := rd_slv Try.underlying22 f0
    subst e0
    obtain ⟨x1, e1, w1⟩ := rd_int Try.underlying23 f1
    have e1 := (List.cons.inj e1).1
    subst e1
    have b1 := bounds_u64 w1
    obtain ⟨x2, e2, w2⟩ := rd_int Try.underlying23 f2
    have e2 := (List.cons.inj e2).1
    subst e2
    have b2 := bounds_u64 w2
    obtain ⟨x3, e3, w3⟩ := rd_int Try.underlying23 f3
    have e3 := (List.cons.inj e3).1
    subst e3
    have b3 := bounds_u64 w3
    obtain ⟨x4, e4, w4⟩ := rd_op f4
    simp only [opC] at e4
    obtain ⟨rfl, rfl⟩ := e4
    obtain ⟨x5, e5, w5⟩ := rd_op f5
    simp only [opC] at e5
    obtain ⟨rfl, rfl⟩ := e5
    obtain ⟨x6, e6, w6⟩ := rd_op f6
    simp only [opC] at e6
    obtain ⟨rfl, rfl⟩ := e6
    obtain ⟨x7, e7⟩ := rd_slv Try.underlying26 f7
    subst e7
    obtain ⟨x8, e8⟩ := rd_slv Try.underlying26 f8
    subst e8
    obtain ⟨x9, e9⟩ := rd_slv Try.underlying27 f9
    subst e9
    obtain ⟨x10, e10, w10⟩ := rd_int Try.underlying28 f10
    have e10 := (List.cons.inj e10).1
    subst e10
    have b10 := bounds_u32 w10
    obtain ⟨x11, e11, w11⟩ := rd_string Try.underlying9 f11
    have e11 := (List.cons.inj e11).1
    subst e11
    exact ⟨⟨x0, x1, x2, x3, x4, x5, x6, x7, x8, x9, x10, x11⟩, rfl, ⟨f0, ⟨b1.1, Int.lt_of_le_of_lt b1.2 (by decide)⟩, ⟨b2.1, Int.lt_of_le_of_lt b2.2 (by decide)⟩, ⟨b3.1, Int.lt_of_le_of_lt b3.2 (by decide)⟩, w4, w5, w6, f7, f8, f9, ⟨b10.1, Int.lt_of_le_of_lt b10.2 (by decide)⟩, w11⟩⟩
/-- One at an address. -/
structure HstAt (w : World) (p : Addr) (x : Hst) : Prop where
  c0 : w.cell? p = some (x.attrs.v)
  c1 : w.cell? ⟨p.block, p.off + 1, none⟩ = some (.int .u64 x.start)
  c2 : w.cell? ⟨p.block, p.off + 2, none⟩ = some (.int .u64 x.time)
  c3 : w.cell? ⟨p.block, p.off + 3, none⟩ = some (.int .u64 x.count)
  c4 : w.cell? ⟨p.block, p.off + 4, none⟩ = some (.bool x.sum.has)
  c5 : w.cell? ⟨p.block, p.off + 5, none⟩ = some (.int .u64 x.sum.n)
  c6 : w.cell? ⟨p.block, p.off + 6, none⟩ = some (.bool x.mn.has)
  c7 : w.cell? ⟨p.block, p.off + 7, none⟩ = some (.int .u64 x.mn.n)
  c8 : w.cell? ⟨p.block, p.off + 8, none⟩ = some (.bool x.mx.has)
  c9 : w.cell? ⟨p.block, p.off + 9, none⟩ = some (.int .u64 x.mx.n)
  c10 : w.cell? ⟨p.block, p.off + 10, none⟩ = some (x.counts.v)
  c11 : w.cell? ⟨p.block, p.off + 11, none⟩ = some (x.bounds.v)
  c12 : w.cell? ⟨p.block, p.off + 12, none⟩ = some (x.exs.v)
  c13 : w.cell? ⟨p.block, p.off + 13, none⟩ = some (.int .u32 x.flags)
  c14 : w.cell? ⟨p.block, p.off + 14, none⟩ = some (.string x.unk)
theorem HstAt.below {w w' : World} {p : Addr} {x : Hst} (h : HstAt w p x) (hb : Below w.heap.size w w') : HstAt w' p x := ⟨pw_cell_below hb h.c0, pw_cell_below hb h.c1, pw_cell_below hb h.c2, pw_cell_below hb h.c3, pw_cell_below hb h.c4, pw_cell_below hb h.c5, pw_cell_below hb h.c6, pw_cell_below hb h.c7, pw_cell_below hb h.c8, pw_cell_below hb h.c9, pw_cell_below hb h.c10, pw_cell_below hb h.c11, pw_cell_below hb h.c12, pw_cell_below hb h.c13, pw_cell_below hb h.c14⟩
theorem hst_at {w : World} {p : Addr} {x : Hst} (h : ∀ j, j < 15 → w.cell? (p.add j) = (hstC x)[j]?) : HstAt w p x :=
  ⟨by have := h 0 (by decide); rwa [add_0] at this, by have := h 1 (by decide); rwa [add_at] at this, by have := h 2 (by decide); rwa [add_at] at this, by have := h 3 (by decide); rwa [add_at] at this, by have := h 4 (by decide); rwa [add_at] at this, by have := h 5 (by decide); rwa [add_at] at this, by have := h 6 (by decide); rwa [add_at] at this, by have := h 7 (by decide); rwa [add_at] at this, by have := h 8 (by decide); rwa [add_at] at this, by have := h 9 (by decide); rwa [add_at] at this, by have := h 10 (by decide); rwa [add_at] at this, by have := h 11 (by decide); rwa [add_at] at this, by have := h 12 (by decide); rwa [add_at] at this, by have := h 13 (by decide); rwa [add_at] at this, by have := h 14 (by decide); rwa [add_at] at this⟩
theorem hst_one (x : Hst) : ∀ u ∈ hstC x, u.oneCell' = true := by
  intro u hu
  simp only [hstC, List.mem_cons, List.not_mem_nil, or_false] at hu
  rcases hu with rfl | rfl | rfl | rfl | rfl | rfl | rfl | rfl | rfl | rfl | rfl | rfl | rfl | rfl | rfl <;> rfl
/-- api.Buckets -/
structure Bkt where
  off : Int
  counts : Sl
  unk : ByteArray
  deriving Inhabited
def bktC (x : Bkt) : List Value := [.int .i32 x.off, x.counts.v, .string x.unk]
/-- What is known of one that was read. -/
structure BktOk (W : World) (x : Bkt) : Prop where
  off : -2147483648 ≤ x.off ∧ x.off < 2147483648
  counts : Rd Try.prog W 26 [x.counts.v]
  unk : x.unk.size ≤ maxLen
set_option maxRecDepth 100000 in
theorem rd_bkt {W : World} {cs : List Value} (h : Rd Try.prog W 32 cs) : ∃ x : Bkt, cs = bktC x ∧ BktOk W x := by
  have hu := Try.underlying32
  have hl := rd_len hu h
  rw [show Try.prog.cellsOf 32 = 3 by kernel_rfl] at hl
  match cs, hl, h with
  | [c0, c1, c2], _, h =>
    have f0 : Rd Try.prog W 21 (([c0, c1, c2].drop 0).take (Try.prog.cellsOf 21)) := rd_field hu h 0 rfl
    rw [show Try.prog.cellsOf 21 = 1 by kernel_rfl] at f0
    have f0 : Rd Try.prog W 21 [c0] := f0
    have f1 : Rd Try.prog W 26 (([c0, c1, c2].drop 1).take (Try.prog.cellsOf 26)) := rd_field hu h 1 rfl
    rw [show Try.prog.cellsOf 26 = 1 by kernel_rfl] at f1
    have f1 : Rd Try.prog W 26 [c1] := f1
    have f2 : Rd Try.prog W 9 (([c0, c1, c2].drop 2).take (Try.prog.cellsOf 9)) := rd_field hu h 2 rfl
    rw [show Try.prog.cellsOf 9 = 1 by kernel_rfl] at f2
    have f2 : Rd Try.prog W 9 [c2] := f2
    obtain ⟨x0, e0, w0⟩ := rd_int Try.underlying21 f0
    have e0 := (List.cons.inj e0).1
    subst e0
    have b0 := bounds_i32 w0
    obtain ⟨x1, e1⟩ := rd_slv Try.underlying26 f1
    subst e1
    obtain ⟨x2, e2, w2⟩ := rd_string Try.underlying9 f2
    have e2 := (List.cons.inj e2).1
    subst e2
    exact ⟨⟨x0, x1, x2⟩, rfl, ⟨⟨b0.1, Int.lt_of_le_of_lt b0.2 (by decide)⟩, f1, w2⟩⟩
/-- One at an address. -/
structure BktAt (w : World) (p : Addr) (x : Bkt) : Prop where
  c0 : w.cell? p = some (.int .i32 x.off)
  c1 : w.cell? ⟨p.block, p.off + 1, none⟩ = some (x.counts.v)
  c2 : w.cell? ⟨p.block, p.off + 2, none⟩ = some (.string x.unk)
theorem BktAt.below {w w' : World} {p : Addr} {x : Bkt} (h : BktAt w p x) (hb : Below w.heap.size w w') : BktAt w' p x := ⟨pw_cell_below hb h.c0, pw_cell_below hb h.c1, pw_cell_below hb h.c2⟩
theorem bkt_at {w : World} {p : Addr} {x : Bkt} (h : ∀ j, j < 3 → w.cell? (p.add j) = (bktC x)[j]?) : BktAt w p x :=
  ⟨by have := h 0 (by decide); rwa [add_0] at this, by have := h 1 (by decide); rwa [add_at] at this, by have := h 2 (by decide); rwa [add_at] at this⟩
theorem bkt_one (x : Bkt) : ∀ u ∈ bktC x, u.oneCell' = true := by
  intro u hu
  simp only [bktC, List.mem_cons, List.not_mem_nil, or_false] at hu
  rcases hu with rfl | rfl | rfl <;> rfl
/-- api.Exp -/
structure Exq where
  attrs : Sl
  start : Int
  time : Int
  count : Int
  sum : Op
  mn : Op
  mx : Op
  scale : Int
  zero : Int
  hasPos : Bool
  pos : Bkt
  hasNeg : Bool
  neg : Bkt
  exs : Sl
  flags : Int
  thr : Int
  unk : ByteArray
  deriving Inhabited
def exqC (x : Exq) : List Value := [x.attrs.v, .int .u64 x.start, .int .u64 x.time, .int .u64 x.count, .bool x.sum.has, .int .u64 x.sum.n, .bool x.mn.has, .int .u64 x.mn.n, .bool x.mx.has, .int .u64 x.mx.n, .int .i32 x.scale, .int .u64 x.zero, .bool x.hasPos, .int .i32 x.pos.off, x.pos.counts.v, .string x.pos.unk, .bool x.hasNeg, .int .i32 x.neg.off, x.neg.counts.v, .string x.neg.unk, x.exs.v, .int .u32 x.flags, .int .u64 x.thr, .string x.unk]
/-- What is known of one that was read. -/
structure ExqOk (W : World) (x : Exq) : Prop where
  attrs : Rd Try.prog W 22 [x.attrs.v]
  start : 0 ≤ x.start ∧ x.start < 18446744073709551616
  time : 0 ≤ x.time ∧ x.time < 18446744073709551616
  count : 0 ≤ x.count ∧ x.count < 18446744073709551616
  sum : OpOk W x.sum
  mn : OpOk W x.mn
  mx : OpOk W x.mx
  scale : -2147483648 ≤ x.scale ∧ x.scale < 2147483648
  zero : 0 ≤ x.zero ∧ x.zero < 18446744073709551616
  pos : BktOk W x.pos
  neg : BktOk W x.neg
  exs : Rd Try.prog W 27 [x.exs.v]
  flags : 0 ≤ x.flags ∧ x.flags < 4294967296
  thr : 0 ≤ x.thr ∧ x.thr < 18446744073709551616
  unk : x.unk.size ≤ maxLen
set_option maxRecDepth 100000 in
theorem rd_exq {W : World} {cs : List Value} (h : Rd Try.prog W 34 cs) : ∃ x : Exq, cs = exqC x ∧ ExqOk W x := by
  have hu := Try.underlying34
  have hl := rd_len hu h
  rw [show Try.prog.cellsOf 34 = 24 by kernel_rfl] at hl
  match cs, hl, h with
  | [c0, c1, c2, c3, c4, c5, c6, c7, c8, c9, c10, c11, c12, c13, c14, c15, c16, c17, c18, c19, c20, c21, c22, c23], _, h =>
    have f0 : Rd Try.prog W 22 (([c0, c1, c2, c3, c4, c5, c6, c7, c8, c9, c10, c11, c12, c13, c14, c15, c16, c17, c18, c19, c20, c21, c22, c23].drop 0).take (Try.prog.cellsOf 22)) := rd_field hu h 0 rfl
    rw [show Try.prog.cellsOf 22 = 1 by kernel_rfl] at f0
    have f0 : Rd Try.prog W 22 [c0] := f0
    have f1 : Rd Try.prog W 23 (([c0, c1, c2, c3, c4, c5, c6, c7, c8, c9, c10, c11, c12, c13, c14, c15, c16, c17, c18, c19, c20, c21, c22, c23].drop 1).take (Try.prog.cellsOf 23)) := rd_field hu h 1 rfl
    rw [show Try.prog.cellsOf 23 = 1 by kernel_rfl] at f1
    have f1 : Rd Try.prog W 23 [c1] := f1
    have f2 : Rd Try.prog W 23 (([c0, c1, c2, c3, c4, c5, c6, c7, c8, c9, c10, c11, c12, c13, c14, c15, c16, c17, c18, c19, c20, c21, c22, c23].drop 2).take (Try.prog.cellsOf 23)) := rd_field hu h 2 rfl
    rw [show Try.prog.cellsOf 23 = 1 by kernel_rfl] at f2
    have f2 : Rd Try.prog W 23 [c2] := f2
    have f3 : Rd Try.prog W 23 (([c0, c1, c2, c3, c4, c5, c6, c7, c8, c9, c10, c11, c12, c13, c14, c15, c16, c17, c18, c19, c20, c21, c22, c23].drop 3).take (Try.prog.cellsOf 23)) := rd_field hu h 3 rfl
    rw [show Try.prog.cellsOf 23 = 1 by kernel_rfl] at f3
    have f3 : Rd Try.prog W 23 [c3] := f3
    have f4 : Rd Try.prog W 25 (([c0, c1, c2, c3, c4, c5, c6, c7, c8, c9, c10, c11, c12, c13, c14, c15, c16, c17, c18, c19, c20, c21, c22, c23].drop 4).take (Try.prog.cellsOf 25)) := rd_field hu h 4 rfl
    rw [show Try.prog.cellsOf 25 = 2 by kernel_rfl] at f4
    have f4 : Rd Try.prog W 25 [c4, c5] := f4
    have f5 : Rd Try.prog W 25 (([c0, c1, c2, c3, c4, c5, c6, c7, c8, c9, c10, c11, c12, c13, c14, c15, c16, c17, c18, c19, c20, c21, c22, c23].drop 6).take (Try.prog.cellsOf 25)) := rd_field hu h 5 rfl
    rw [show Try.prog.cellsOf 25 = 2 by kernel_rfl] at f5
    have f5 : Rd Try.prog W 25 [c6, c7] := f5
    have f6 : Rd Try.prog W 25 (([c0, c1, c2, c3, c4, c5, c6, c7, c8, c9, c10, c11, c12, c13, c14, c15, c16, c17, c18, c19, c20, c21, c22, c23].drop 8).take (Try.prog.cellsOf 25)) := rd_field hu h 6 rfl
    rw [show Try.prog.cellsOf 25 = 2 by kernel_rfl] at f6
    have f6 : Rd Try.prog W 25 [c8, c9] := f6
    have f7 : Rd Try.prog W 21 (([c0, c1, c2, c3, c4, c5, c6, c7, c8, c9, c10, c11, c12, c13, c14, c15, c16, c17, c18, c19, c20, c21, c22, c23].drop 10).take (Try.prog.cellsOf 21)) := rd_field hu h 7 rfl
    rw [show Try.prog.cellsOf 21 = 1 by kernel_rfl] at f7
    have f7 : Rd Try.prog W 21 [c10] := f7
    have f8 : Rd Try.prog W 23 (([c0, c1, c2, c3, c4, c5, c6, c7, c8, c9, c10, c11, c12, c13, c14, c15, c16, c17, c18, c19, c20, c21, c22, c23].drop 11).take (Try.prog.cellsOf 23)) := rd_field hu h 8 rfl
    rw [show Try.prog.cellsOf 23 = 1 by kernel_rfl] at f8
    have f8 : Rd Try.prog W 23 [c11] := f8
    have f9 : Rd Try.prog W 4 (([c0, c1, c2, c3, c4, c5, c6, c7, c8, c9, c10, c11, c12, c13, c14, c15, c16, c17, c18, c19, c20, c21, c22, c23].drop 12).take (Try.prog.cellsOf 4)) := rd_field hu h 9 rfl
    rw [show Try.prog.cellsOf 4 = 1 by kernel_rfl] at f9
    have f9 : Rd Try.prog W 4 [c12] := f9
    have f10 : Rd Try.prog W 32 (([c0, c1, c2, c3, c4, c5, c6, c7, c8, c9, c10, c11, c12, c13, c14, c15, c16, c17, c18, c19, c20, c21, c22, c23].drop 13).take (Try.prog.cellsOf 32)) := rd_field hu h 10 rfl
    rw [show Try.prog.cellsOf 32 = 3 by kernel_rfl] at f10
    have f10 : Rd Try.prog W 32 [c13, c14, c15] := f10
    have f11 : Rd Try.prog W 4 (([c0, c1, c2, c3, c4, c5, c6, c7, c8, c9, c10, c11, c12, c13, c14, c15, c16, c17, c18, c19, c20, c21, c22, c23].drop 16).take (Try.prog.cellsOf 4)) := rd_field hu h 11 rfl
    rw [show Try.prog.cellsOf 4 = 1 by kernel_rfl] at f11
    have f11 : Rd Try.prog W 4 [c16] := f11
    have f12 : Rd Try.prog W 32 (([c0, c1, c2, c3, c4, c5, c6, c7, c8, c9, c10, c11, c12, c13, c14, c15, c16, c17, c18, c19, c20, c21, c22, c23].drop 17).take (Try.prog.cellsOf 32)) := rd_field hu h 12 rfl
    rw [show Try.prog.cellsOf 32 = 3 by kernel_rfl] at f12
    have f12 : Rd Try.prog W 32 [c17, c18, c19] := f12
    have f13 : Rd Try.prog W 27 (([c0, c1, c2, c3, c4, c5, c6, c7, c8, c9, c10, c11, c12, c13, c14, c15, c16, c17, c18, c19, c20, c21, c22, c23].drop 20).take (Try.prog.cellsOf 27)) := rd_field hu h 13 rfl
    rw [show Try.prog.cellsOf 27 = 1 by kernel_rfl] at f13
    have f13 : Rd Try.prog W 27 [c20] := f13
    have f14 : Rd Try.prog W 28 (([c0, c1, c2, c3, c4, c5, c6, c7, c8, c9, c10, c11, c12, c13, c14, c15, c16, c17, c18, c19, c20, c21, c22, c23].drop 21).take (Try.prog.cellsOf 28)) := rd_field hu h 14 rfl
    rw [show Try.prog.cellsOf 28 = 1 by kernel_rfl] at f14
    have f14 : Rd Try.prog W 28 [c21] := f14
    have f15 : Rd Try.prog W 23 (([c0, c1, c2, c3, c4, c5, c6, c7, c8, c9, c10, c11, c12, c13, c14, c15, c16, c17, c18, c19, c20, c21, c22, c23].drop 22).take (Try.prog.cellsOf 23)) := rd_field hu h 15 rfl
    rw [show Try.prog.cellsOf 23 = 1 by kernel_rfl] at f15
    have f15 : Rd Try.prog W 23 [c22] := f15
    have f16 : Rd Try.prog W 9 (([c0, c1, c2, c3, c4, c5, c6, c7, c8, c9, c10, c11, c12, c13, c14, c15, c16, c17, c18, c19, c20, c21, c22, c23].drop 23).take (Try.prog.cellsOf 9)) := rd_field hu h 16 rfl
    rw [show Try.prog.cellsOf 9 = 1 by kernel_rfl] at f16
    have f16 : Rd Try.prog W 9 [c23] := f16
    obtain ⟨x0, e0⟩ := rd_slv Try.underlying22 f0
    subst e0
    obtain ⟨x1, e1, w1⟩ := rd_int Try.underlying23 f1
    have e1 := (List.cons.inj e1).1
    subst e1
    have b1 := bounds_u64 w1
    obtain ⟨x2, e2, w2⟩ := rd_int Try.underlying23 f2
    have e2 := (List.cons.inj e2).1
    subst e2
    have b2 := bounds_u64 w2
    obtain ⟨x3, e3, w3⟩ := rd_int Try.underlying23 f3
    have e3 := (List.cons.inj e3).1
    subst e3
    have b3 := bounds_u64 w3
    obtain ⟨x4, e4, w4⟩ := rd_op f4
    simp only [opC] at e4
    obtain ⟨rfl, rfl⟩ := e4
    obtain ⟨x5, e5, w5⟩ := rd_op f5
    simp only [opC] at e5
    obtain ⟨rfl, rfl⟩ := e5
    obtain ⟨x6, e6, w6⟩ := rd_op f6
    simp only [opC] at e6
    obtain ⟨rfl, rfl⟩ := e6
    obtain ⟨x7, e7, w7⟩ := rd_int Try.underlying21 f7
    have e7 := (List.cons.inj e7).1
    subst e7
    have b7 := bounds_i32 w7
    obtain ⟨x8, e8, w8⟩ := rd_int Try.underlying23 f8
    have e8 := (List.cons.inj e8).1
    subst e8
    have b8 := bounds_u64 w8
    obtain ⟨x9, e9⟩ := rd_bool Try.underlying4 f9
    have e9 := (List.cons.inj e9).1
    subst e9
    obtain ⟨x10, e10, w10⟩ := rd_bkt f10
    simp only [bktC] at e10
    obtain ⟨rfl, rfl, rfl⟩ := e10
    obtain ⟨x11, e11⟩ := rd_bool Try.underlying4 f11
    have e11 := (List.cons.inj e11).1
    subst e11
    obtain ⟨x12, e12, w12⟩ := rd_bkt f12
    simp only [bktC] at e12
    obtain ⟨rfl, rfl, rfl⟩ := e12
    obtain ⟨x13, e13⟩ := rd_slv Try.underlying27 f13
    subst e13
    obtain ⟨x14, e14, w14⟩ := rd_int Try.underlying28 f14
    have e14 := (List.cons.inj e14).1
    subst e14
    have b14 := bounds_u32 w14
    obtain ⟨x15, e15, w15⟩ := rd_int Try.underlying23 f15
    have e15 := (List.cons.inj e15).1
    subst e15
    have b15 := bounds_u64 w15
    obtain ⟨x16, e16, w16⟩ := rd_string Try.underlying9 f16
    have e16 := (List.cons.inj e16).1
    subst e16
    exact ⟨⟨x0, x1, x2, x3, x4, x5, x6, x7, x8, x9, x10, x11, x12, x13, x14, x15, x16⟩, rfl, ⟨f0, ⟨b1.1, Int.lt_of_le_of_lt b1.2 (by decide)⟩, ⟨b2.1, Int.lt_of_le_of_lt b2.2 (by decide)⟩, ⟨b3.1, Int.lt_of_le_of_lt b3.2 (by decide)⟩, w4, w5, w6, ⟨b7.1, Int.lt_of_le_of_lt b7.2 (by decide)⟩, ⟨b8.1, Int.lt_of_le_of_lt b8.2 (by decide)⟩, w10, w12, f13, ⟨b14.1, Int.lt_of_le_of_lt b14.2 (by decide)⟩, ⟨b15.1, Int.lt_of_le_of_lt b15.2 (by decide)⟩, w16⟩⟩
/-- One at an address. -/
structure ExqAt (w : World) (p : Addr) (x : Exq) : Prop where
  c0 : w.cell? p = some (x.attrs.v)
  c1 : w.cell? ⟨p.block, p.off + 1, none⟩ = some (.int .u64 x.start)
  c2 : w.cell? ⟨p.block, p.off + 2, none⟩ = some (.int .u64 x.time)
  c3 : w.cell? ⟨p.block, p.off + 3, none⟩ = some (.int .u64 x.count)
  c4 : w.cell? ⟨p.block, p.off + 4, none⟩ = some (.bool x.sum.has)
  c5 : w.cell? ⟨p.block, p.off + 5, none⟩ = some (.int .u64 x.sum.n)
  c6 : w.cell? ⟨p.block, p.off + 6, none⟩ = some (.bool x.mn.has)
  c7 : w.cell? ⟨p.block, p.off + 7, none⟩ = some (.int .u64 x.mn.n)
  c8 : w.cell? ⟨p.block, p.off + 8, none⟩ = some (.bool x.mx.has)
  c9 : w.cell? ⟨p.block, p.off + 9, none⟩ = some (.int .u64 x.mx.n)
  c10 : w.cell? ⟨p.block, p.off + 10, none⟩ = some (.int .i32 x.scale)
  c11 : w.cell? ⟨p.block, p.off + 11, none⟩ = some (.int .u64 x.zero)
  c12 : w.cell? ⟨p.block, p.off + 12, none⟩ = some (.bool x.hasPos)
  c13 : w.cell? ⟨p.block, p.off + 13, none⟩ = some (.int .i32 x.pos.off)
  c14 : w.cell? ⟨p.block, p.off + 14, none⟩ = some (x.pos.counts.v)
  c15 : w.cell? ⟨p.block, p.off + 15, none⟩ = some (.string x.pos.unk)
  c16 : w.cell? ⟨p.block, p.off + 16, none⟩ = some (.bool x.hasNeg)
  c17 : w.cell? ⟨p.block, p.off + 17, none⟩ = some (.int .i32 x.neg.off)
  c18 : w.cell? ⟨p.block, p.off + 18, none⟩ = some (x.neg.counts.v)
  c19 : w.cell? ⟨p.block, p.off + 19, none⟩ = some (.string x.neg.unk)
  c20 : w.cell? ⟨p.block, p.off + 20, none⟩ = some (x.exs.v)
  c21 : w.cell? ⟨p.block, p.off + 21, none⟩ = some (.int .u32 x.flags)
  c22 : w.cell? ⟨p.block, p.off + 22, none⟩ = some (.int .u64 x.thr)
  c23 : w.cell? ⟨p.block, p.off + 23, none⟩ = some (.string x.unk)
theorem ExqAt.below {w w' : World} {p : Addr} {x : Exq} (h : ExqAt w p x) (hb : Below w.heap.size w w') : ExqAt w' p x := ⟨pw_cell_below hb h.c0, pw_cell_below hb h.c1, pw_cell_below hb h.c2, pw_cell_below hb h.c3, pw_cell_below hb h.c4, pw_cell_below hb h.c5, pw_cell_below hb h.c6, pw_cell_below hb h.c7, pw_cell_below hb h.c8, pw_cell_below hb h.c9, pw_cell_below hb h.c10, pw_cell_below hb h.c11, pw_cell_below hb h.c12, pw_cell_below hb h.c13, pw_cell_below hb h.c14, pw_cell_below hb h.c15, pw_cell_below hb h.c16, pw_cell_below hb h.c17, pw_cell_below hb h.c18, pw_cell_below hb h.c19, pw_cell_below hb h.c20, pw_cell_below hb h.c21, pw_cell_below hb h.c22, pw_cell_below hb h.c23⟩
theorem exq_at {w : World} {p : Addr} {x : Exq} (h : ∀ j, j < 24 → w.cell? (p.add j) = (exqC x)[j]?) : ExqAt w p x :=
  ⟨by have := h 0 (by decide); rwa [add_0] at this, by have := h 1 (by decide); rwa [add_at] at this, by have := h 2 (by decide); rwa [add_at] at this, by have := h 3 (by decide); rwa [add_at] at this, by have := h 4 (by decide); rwa [add_at] at this, by have := h 5 (by decide); rwa [add_at] at this, by have := h 6 (by decide); rwa [add_at] at this, by have := h 7 (by decide); rwa [add_at] at this, by have := h 8 (by decide); rwa [add_at] at this, by have := h 9 (by decide); rwa [add_at] at this, by have := h 10 (by decide); rwa [add_at] at this, by have := h 11 (by decide); rwa [add_at] at this, by have := h 12 (by decide); rwa [add_at] at this, by have := h 13 (by decide); rwa [add_at] at this, by have := h 14 (by decide); rwa [add_at] at this, by have := h 15 (by decide); rwa [add_at] at this, by have := h 16 (by decide); rwa [add_at] at this, by have := h 17 (by decide); rwa [add_at] at this, by have := h 18 (by decide); rwa [add_at] at this, by have := h 19 (by decide); rwa [add_at] at this, by have := h 20 (by decide); rwa [add_at] at this, by have := h 21 (by decide); rwa [add_at] at this, by have := h 22 (by decide); rwa [add_at] at this, by have := h 23 (by decide); rwa [add_at] at this⟩
theorem exq_one (x : Exq) : ∀ u ∈ exqC x, u.oneCell' = true := by
  intro u hu
  simp only [exqC, List.mem_cons, List.not_mem_nil, or_false] at hu
  rcases hu with rfl | rfl | rfl | rfl | rfl | rfl | rfl | rfl | rfl | rfl | rfl | rfl | rfl | rfl | rfl | rfl | rfl | rfl | rfl | rfl | rfl | rfl | rfl | rfl <;> rfl
/-- api.Number -/
structure Nmb where
  attrs : Sl
  start : Int
  time : Int
  kind : Int
  n : Int
  exs : Sl
  flags : Int
  unk : ByteArray
  deriving Inhabited
def nmbC (x : Nmb) : List Value := [x.attrs.v, .int .u64 x.start, .int .u64 x.time, .int .i64 x.kind, .int .u64 x.n, x.exs.v, .int .u32 x.flags, .string x.unk]
/-- What is known of one that was read. -/
structure NmbOk (W : World) (x : Nmb) : Prop where
  attrs : Rd Try.prog W 22 [x.attrs.v]
  start : 0 ≤ x.start ∧ x.start < 18446744073709551616
  time : 0 ≤ x.time ∧ x.time < 18446744073709551616
  kind : -9223372036854775808 ≤ x.kind ∧ x.kind < 9223372036854775808
  n : 0 ≤ x.n ∧ x.n < 18446744073709551616
  exs : Rd Try.prog W 27 [x.exs.v]
  flags : 0 ≤ x.flags ∧ x.flags < 4294967296
  unk : x.unk.size ≤ maxLen
set_option maxRecDepth 100000 in
theorem rd_nmb {W : World} {cs : List Value} (h : Rd Try.prog W 47 cs) : ∃ x : Nmb, cs = nmbC x ∧ NmbOk W x := by
  have hu := Try.underlying47
  have hl := rd_len hu h
  rw [show Try.prog.cellsOf 47 = 8 by kernel_rfl] at hl
  match cs, hl, h with
  | [c0, c1, c2, c3, c4, c5, c6, c7], _, h =>
    have f0 : Rd Try.prog W 22 (([c0, c1, c2, c3, c4, c5, c6, c7].drop 0).take (Try.prog.cellsOf 22)) := rd_field hu h 0 rfl
    rw [show Try.prog.cellsOf 22 = 1 by kernel_rfl] at f0
    have f0 : Rd Try.prog W 22 [c0] := f0
    have f1 : Rd Try.prog W 23 (([c0, c1, c2, c3, c4, c5, c6, c7].drop 1).take (Try.prog.cellsOf 23)) := rd_field hu h 1 rfl
    rw [show Try.prog.cellsOf 23 = 1 by kernel_rfl] at f1
    have f1 : Rd Try.prog W 23 [c1] := f1
    have f2 : Rd Try.prog W 23 (([c0, c1, c2, c3, c4, c5, c6, c7].drop 2).take (Try.prog.cellsOf 23)) := rd_field hu h 2 rfl
    rw [show Try.prog.cellsOf 23 = 1 by kernel_rfl] at f2
    have f2 : Rd Try.prog W 23 [c2] := f2
    have f3 : Rd Try.prog W 3 (([c0, c1, c2, c3, c4, c5, c6, c7].drop 3).take (Try.prog.cellsOf 3)) := rd_field hu h 3 rfl
    rw [show Try.prog.cellsOf 3 = 1 by kernel_rfl] at f3
    have f3 : Rd Try.prog W 3 [c3] := f3
    have f4 : Rd Try.prog W 23 (([c0, c1, c2, c3, c4, c5, c6, c7].drop 4).take (Try.prog.cellsOf 23)) := rd_field hu h 4 rfl
    rw [show Try.prog.cellsOf 23 = 1 by kernel_rfl] at f4
    have f4 : Rd Try.prog W 23 [c4] := f4
    have f5 : Rd Try.prog W 27 (([c0, c1, c2, c3, c4, c5, c6, c7].drop 5).take (Try.prog.cellsOf 27)) := rd_field hu h 5 rfl
    rw [show Try.prog.cellsOf 27 = 1 by kernel_rfl] at f5
    have f5 : Rd Try.prog W 27 [c5] := f5
    have f6 : Rd Try.prog W 28 (([c0, c1, c2, c3, c4, c5, c6, c7].drop 6).take (Try.prog.cellsOf 28)) := rd_field hu h 6 rfl
    rw [show Try.prog.cellsOf 28 = 1 by kernel_rfl] at f6
    have f6 : Rd Try.prog W 28 [c6] := f6
    have f7 : Rd Try.prog W 9 (([c0, c1, c2, c3, c4, c5, c6, c7].drop 7).take (Try.prog.cellsOf 9)) := rd_field hu h 7 rfl
    rw [show Try.prog.cellsOf 9 = 1 by kernel_rfl] at f7
    have f7 : Rd Try.prog W 9 [c7] := f7
    obtain ⟨x0, e0⟩ := rd_slv Try.underlying22 f0
    subst e0
    obtain ⟨x1, e1, w1⟩ := rd_int Try.underlying23 f1
    have e1 := (List.cons.inj e1).1
    subst e1
    have b1 := bounds_u64 w1
    obtain ⟨x2, e2, w2⟩ := rd_int Try.underlying23 f2
    have e2 := (List.cons.inj e2).1
    subst e2
    have b2 := bounds_u64 w2
    obtain ⟨x3, e3, w3⟩ := rd_int Try.underlying3 f3
    have e3 := (List.cons.inj e3).1
    subst e3
    have b3 := bounds_i64 w3
    obtain ⟨x4, e4, w4⟩ := rd_int Try.underlying23 f4
    have e4 := (List.cons.inj e4).1
    subst e4
    have b4 := bounds_u64 w4
    obtain ⟨x5, e5⟩ := rd_slv Try.underlying27 f5
    subst e5
    obtain ⟨x6, e6, w6⟩ := rd_int Try.underlying28 f6
    have e6 := (List.cons.inj e6).1
    subst e6
    have b6 := bounds_u32 w6
    obtain ⟨x7, e7, w7⟩ := rd_string Try.underlying9 f7
    have e7 := (List.cons.inj e7).1
    subst e7
    exact ⟨⟨x0, x1, x2, x3, x4, x5, x6, x7⟩, rfl, ⟨f0, ⟨b1.1, Int.lt_of_le_of_lt b1.2 (by decide)⟩, ⟨b2.1, Int.lt_of_le_of_lt b2.2 (by decide)⟩, ⟨b3.1, Int.lt_of_le_of_lt b3.2 (by decide)⟩, ⟨b4.1, Int.lt_of_le_of_lt b4.2 (by decide)⟩, f5, ⟨b6.1, Int.lt_of_le_of_lt b6.2 (by decide)⟩, w7⟩⟩
/-- One at an address. -/
structure NmbAt (w : World) (p : Addr) (x : Nmb) : Prop where
  c0 : w.cell? p = some (x.attrs.v)
  c1 : w.cell? ⟨p.block, p.off + 1, none⟩ = some (.int .u64 x.start)
  c2 : w.cell? ⟨p.block, p.off + 2, none⟩ = some (.int .u64 x.time)
  c3 : w.cell? ⟨p.block, p.off + 3, none⟩ = some (.int .i64 x.kind)
  c4 : w.cell? ⟨p.block, p.off + 4, none⟩ = some (.int .u64 x.n)
  c5 : w.cell? ⟨p.block, p.off + 5, none⟩ = some (x.exs.v)
  c6 : w.cell? ⟨p.block, p.off + 6, none⟩ = some (.int .u32 x.flags)
  c7 : w.cell? ⟨p.block, p.off + 7, none⟩ = some (.string x.unk)
theorem NmbAt.below {w w' : World} {p : Addr} {x : Nmb} (h : NmbAt w p x) (hb : Below w.heap.size w w') : NmbAt w' p x := ⟨pw_cell_below hb h.c0, pw_cell_below hb h.c1, pw_cell_below hb h.c2, pw_cell_below hb h.c3, pw_cell_below hb h.c4, pw_cell_below hb h.c5, pw_cell_below hb h.c6, pw_cell_below hb h.c7⟩
theorem nmb_at {w : World} {p : Addr} {x : Nmb} (h : ∀ j, j < 8 → w.cell? (p.add j) = (nmbC x)[j]?) : NmbAt w p x :=
  ⟨by have := h 0 (by decide); rwa [add_0] at this, by have := h 1 (by decide); rwa [add_at] at this, by have := h 2 (by decide); rwa [add_at] at this, by have := h 3 (by decide); rwa [add_at] at this, by have := h 4 (by decide); rwa [add_at] at this, by have := h 5 (by decide); rwa [add_at] at this, by have := h 6 (by decide); rwa [add_at] at this, by have := h 7 (by decide); rwa [add_at] at this⟩
theorem nmb_one (x : Nmb) : ∀ u ∈ nmbC x, u.oneCell' = true := by
  intro u hu
  simp only [nmbC, List.mem_cons, List.not_mem_nil, or_false] at hu
  rcases hu with rfl | rfl | rfl | rfl | rfl | rfl | rfl | rfl <;> rfl
/-- api.Quantile -/
structure Qnt where
  q : Int
  v : Int
  unk : ByteArray
  deriving Inhabited
def qntC (x : Qnt) : List Value := [.int .u64 x.q, .int .u64 x.v, .string x.unk]
/-- What is known of one that was read. -/
structure QntOk (W : World) (x : Qnt) : Prop where
  q : 0 ≤ x.q ∧ x.q < 18446744073709551616
  v : 0 ≤ x.v ∧ x.v < 18446744073709551616
  unk : x.unk.size ≤ maxLen
set_option maxRecDepth 100000 in
theorem rd_qnt {W : World} {cs : List Value} (h : Rd Try.prog W 78 cs) : ∃ x : Qnt, cs = qntC x ∧ QntOk W x := by
  have hu := Try.underlying78
  have hl := rd_len hu h
  rw [show Try.prog.cellsOf 78 = 3 by kernel_rfl] at hl
  match cs, hl, h with
  | [c0, c1, c2], _, h =>
    have f0 : Rd Try.prog W 23 (([c0, c1, c2].drop 0).take (Try.prog.cellsOf 23)) := rd_field hu h 0 rfl
    rw [show Try.prog.cellsOf 23 = 1 by kernel_rfl] at f0
    have f0 : Rd Try.prog W 23 [c0] := f0
    have f1 : Rd Try.prog W 23 (([c0, c1, c2].drop 1).take (Try.prog.cellsOf 23)) := rd_field hu h 1 rfl
    rw [show Try.prog.cellsOf 23 = 1 by kernel_rfl] at f1
    have f1 : Rd Try.prog W 23 [c1] := f1
    have f2 : Rd Try.prog W 9 (([c0, c1, c2].drop 2).take (Try.prog.cellsOf 9)) := rd_field hu h 2 rfl
    rw [show Try.prog.cellsOf 9 = 1 by kernel_rfl] at f2
    have f2 : Rd Try.prog W 9 [c2] := f2
    obtain ⟨x0, e0, w0⟩ := rd_int Try.underlying23 f0
    have e0 := (List.cons.inj e0).1
    subst e0
    have b0 := bounds_u64 w0
    obtain ⟨x1, e1, w1⟩ := rd_int Try.underlying23 f1
    have e1 := (List.cons.inj e1).1
    subst e1
    have b1 := bounds_u64 w1
    obtain ⟨x2, e2, w2⟩ := rd_string Try.underlying9 f2
    have e2 := (List.cons.inj e2).1
    subst e2
    exact ⟨⟨x0, x1, x2⟩, rfl, ⟨⟨b0.1, Int.lt_of_le_of_lt b0.2 (by decide)⟩, ⟨b1.1, Int.lt_of_le_of_lt b1.2 (by decide)⟩, w2⟩⟩
/-- One at an address. -/
structure QntAt (w : World) (p : Addr) (x : Qnt) : Prop where
  c0 : w.cell? p = some (.int .u64 x.q)
  c1 : w.cell? ⟨p.block, p.off + 1, none⟩ = some (.int .u64 x.v)
  c2 : w.cell? ⟨p.block, p.off + 2, none⟩ = some (.string x.unk)
theorem QntAt.below {w w' : World} {p : Addr} {x : Qnt} (h : QntAt w p x) (hb : Below w.heap.size w w') : QntAt w' p x := ⟨pw_cell_below hb h.c0, pw_cell_below hb h.c1, pw_cell_below hb h.c2⟩
theorem qnt_at {w : World} {p : Addr} {x : Qnt} (h : ∀ j, j < 3 → w.cell? (p.add j) = (qntC x)[j]?) : QntAt w p x :=
  ⟨by have := h 0 (by decide); rwa [add_0] at this, by have := h 1 (by decide); rwa [add_at] at this, by have := h 2 (by decide); rwa [add_at] at this⟩
theorem qnt_one (x : Qnt) : ∀ u ∈ qntC x, u.oneCell' = true := by
  intro u hu
  simp only [qntC, List.mem_cons, List.not_mem_nil, or_false] at hu
  rcases hu with rfl | rfl | rfl <;> rfl
/-- api.Summary -/
structure Smm where
  attrs : Sl
  start : Int
  time : Int
  count : Int
  sum : Int
  qs : Sl
  flags : Int
  unk : ByteArray
  deriving Inhabited
def smmC (x : Smm) : List Value := [x.attrs.v, .int .u64 x.start, .int .u64 x.time, .int .u64 x.count, .int .u64 x.sum, x.qs.v, .int .u32 x.flags, .string x.unk]
/-- What is known of one that was read. -/
structure SmmOk (W : World) (x : Smm) : Prop where
  attrs : Rd Try.prog W 22 [x.attrs.v]
  start : 0 ≤ x.start ∧ x.start < 18446744073709551616
  time : 0 ≤ x.time ∧ x.time < 18446744073709551616
  count : 0 ≤ x.count ∧ x.count < 18446744073709551616
  sum : 0 ≤ x.sum ∧ x.sum < 18446744073709551616
  qs : Rd Try.prog W 48 [x.qs.v]
  flags : 0 ≤ x.flags ∧ x.flags < 4294967296
  unk : x.unk.size ≤ maxLen
set_option maxRecDepth 100000 in
theorem rd_smm {W : World} {cs : List Value} (h : Rd Try.prog W 50 cs) : ∃ x : Smm, cs = smmC x ∧ SmmOk W x := by
  have hu := Try.underlying50
  have hl := rd_len hu h
  rw [show Try.prog.cellsOf 50 = 8 by kernel_rfl] at hl
  match cs, hl, h with
  | [c0, c1, c2, c3, c4, c5, c6, c7], _, h =>
    have f0 : Rd Try.prog W 22 (([c0, c1, c2, c3, c4, c5, c6, c7].drop 0).take (Try.prog.cellsOf 22)) := rd_field hu h 0 rfl
    rw [show Try.prog.cellsOf 22 = 1 by kernel_rfl] at f0
    have f0 : Rd Try.prog W 22 [c0] := f0
    have f1 : Rd Try.prog W 23 (([c0, c1, c2, c3, c4, c5, c6, c7].drop 1).take (Try.prog.cellsOf 23)) := rd_field hu h 1 rfl
    rw [show Try.prog.cellsOf 23 = 1 by kernel_rfl] at f1
    have f1 : Rd Try.prog W 23 [c1] := f1
    have f2 : Rd Try.prog W 23 (([c0, c1, c2, c3, c4, c5, c6, c7].drop 2).take (Try.prog.cellsOf 23)) := rd_field hu h 2 rfl
    rw [show Try.prog.cellsOf 23 = 1 by kernel_rfl] at f2
    have f2 : Rd Try.prog W 23 [c2] := f2
    have f3 : Rd Try.prog W 23 (([c0, c1, c2, c3, c4, c5, c6, c7].drop 3).take (Try.prog.cellsOf 23)) := rd_field hu h 3 rfl
    rw [show Try.prog.cellsOf 23 = 1 by kernel_rfl] at f3
    have f3 : Rd Try.prog W 23 [c3] := f3
    have f4 : Rd Try.prog W 23 (([c0, c1, c2, c3, c4, c5, c6, c7].drop 4).take (Try.prog.cellsOf 23)) := rd_field hu h 4 rfl
    rw [show Try.prog.cellsOf 23 = 1 by kernel_rfl] at f4
    have f4 : Rd Try.prog W 23 [c4] := f4
    have f5 : Rd Try.prog W 48 (([c0, c1, c2, c3, c4, c5, c6, c7].drop 5).take (Try.prog.cellsOf 48)) := rd_field hu h 5 rfl
    rw [show Try.prog.cellsOf 48 = 1 by kernel_rfl] at f5
    have f5 : Rd Try.prog W 48 [c5] := f5
    have f6 : Rd Try.prog W 28 (([c0, c1, c2, c3, c4, c5, c6, c7].drop 6).take (Try.prog.cellsOf 28)) := rd_field hu h 6 rfl
    rw [show Try.prog.cellsOf 28 = 1 by kernel_rfl] at f6
    have f6 : Rd Try.prog W 28 [c6] := f6
    have f7 : Rd Try.prog W 9 (([c0, c1, c2, c3, c4, c5, c6, c7].drop 7).take (Try.prog.cellsOf 9)) := rd_field hu h 7 rfl
    rw [show Try.prog.cellsOf 9 = 1 by kernel_rfl] at f7
    have f7 : Rd Try.prog W 9 [c7] := f7
    obtain ⟨x0, e0⟩ := rd_slv Try.underlying22 f0
    subst e0
    obtain ⟨x1, e1, w1⟩ := rd_int Try.underlying23 f1
    have e1 := (List.cons.inj e1).1
    subst e1
    have b1 := bounds_u64 w1
    obtain ⟨x2, e2, w2⟩ := rd_int Try.underlying23 f2
    have e2 := (List.cons.inj e2).1
    subst e2
    have b2 := bounds_u64 w2
    obtain ⟨x3, e3, w3⟩ := rd_int Try.underlying23 f3
    have e3 := (List.cons.inj e3).1
    subst e3
    have b3 := bounds_u64 w3
    obtain ⟨x4, e4, w4⟩ := rd_int Try.underlying23 f4
    have e4 := (List.cons.inj e4).1
    subst e4
    have b4 := bounds_u64 w4
    obtain ⟨x5, e5⟩ := rd_slv Try.underlying48 f5
    subst e5
    obtain ⟨x6, e6, w6⟩ := rd_int Try.underlying28 f6
    have e6 := (List.cons.inj e6).1
    subst e6
    have b6 := bounds_u32 w6
    obtain ⟨x7, e7, w7⟩ := rd_string Try.underlying9 f7
    have e7 := (List.cons.inj e7).1
    subst e7
    exact ⟨⟨x0, x1, x2, x3, x4, x5, x6, x7⟩, rfl, ⟨f0, ⟨b1.1, Int.lt_of_le_of_lt b1.2 (by decide)⟩, ⟨b2.1, Int.lt_of_le_of_lt b2.2 (by decide)⟩, ⟨b3.1, Int.lt_of_le_of_lt b3.2 (by decide)⟩, ⟨b4.1, Int.lt_of_le_of_lt b4.2 (by decide)⟩, f5, ⟨b6.1, Int.lt_of_le_of_lt b6.2 (by decide)⟩, w7⟩⟩
/-- One at an address. -/
structure SmmAt (w : World) (p : Addr) (x : Smm) : Prop where
  c0 : w.cell? p = some (x.attrs.v)
  c1 : w.cell? ⟨p.block, p.off + 1, none⟩ = some (.int .u64 x.start)
  c2 : w.cell? ⟨p.block, p.off + 2, none⟩ = some (.int .u64 x.time)
  c3 : w.cell? ⟨p.block, p.off + 3, none⟩ = some (.int .u64 x.count)
  c4 : w.cell? ⟨p.block, p.off + 4, none⟩ = some (.int .u64 x.sum)
  c5 : w.cell? ⟨p.block, p.off + 5, none⟩ = some (x.qs.v)
  c6 : w.cell? ⟨p.block, p.off + 6, none⟩ = some (.int .u32 x.flags)
  c7 : w.cell? ⟨p.block, p.off + 7, none⟩ = some (.string x.unk)
theorem SmmAt.below {w w' : World} {p : Addr} {x : Smm} (h : SmmAt w p x) (hb : Below w.heap.size w w') : SmmAt w' p x := ⟨pw_cell_below hb h.c0, pw_cell_below hb h.c1, pw_cell_below hb h.c2, pw_cell_below hb h.c3, pw_cell_below hb h.c4, pw_cell_below hb h.c5, pw_cell_below hb h.c6, pw_cell_below hb h.c7⟩
theorem smm_at {w : World} {p : Addr} {x : Smm} (h : ∀ j, j < 8 → w.cell? (p.add j) = (smmC x)[j]?) : SmmAt w p x :=
  ⟨by have := h 0 (by decide); rwa [add_0] at this, by have := h 1 (by decide); rwa [add_at] at this, by have := h 2 (by decide); rwa [add_at] at this, by have := h 3 (by decide); rwa [add_at] at this, by have := h 4 (by decide); rwa [add_at] at this, by have := h 5 (by decide); rwa [add_at] at this, by have := h 6 (by decide); rwa [add_at] at this, by have := h 7 (by decide); rwa [add_at] at this⟩
theorem smm_one (x : Smm) : ∀ u ∈ smmC x, u.oneCell' = true := by
  intro u hu
  simp only [smmC, List.mem_cons, List.not_mem_nil, or_false] at hu
  rcases hu with rfl | rfl | rfl | rfl | rfl | rfl | rfl | rfl <;> rfl
theorem rd_vls {W : World} {s : Sl} (h : Rd Try.prog W 40 [s.v]) : ∃ l : List Vl, SlAt 8 vlC VlOk W s l := by
  obtain ⟨s', l, e, h⟩ := rd_sl (k := 8) Try.underlying40 (by kernel_rfl) (fun es he => rd_vl he) h
  obtain rfl : s = s' := by
    obtain ⟨a, n, c⟩ := s
    obtain ⟨a', n', c'⟩ := s'
    simp only [Sl.v, List.cons.injEq, and_true] at e
    injection e with e1 e2 e3
    subst e1 e2 e3
    rfl
  exact ⟨l, h⟩
theorem rd_kvs {W : World} {s : Sl} (h : Rd Try.prog W 22 [s.v]) : ∃ l : List Kv, SlAt 11 kvC KvOk W s l := by
  obtain ⟨s', l, e, h⟩ := rd_sl (k := 11) Try.underlying22 (by kernel_rfl) (fun es he => rd_kv he) h
  obtain rfl : s = s' := by
    obtain ⟨a, n, c⟩ := s
    obtain ⟨a', n', c'⟩ := s'
    simp only [Sl.v, List.cons.injEq, and_true] at e
    injection e with e1 e2 e3
    subst e1 e2 e3
    rfl
  exact ⟨l, h⟩
theorem rd_exms {W : World} {s : Sl} (h : Rd Try.prog W 27 [s.v]) : ∃ l : List Exm, SlAt 7 exmC ExmOk W s l := by
  obtain ⟨s', l, e, h⟩ := rd_sl (k := 7) Try.underlying27 (by kernel_rfl) (fun es he => rd_exm he) h
  obtain rfl : s = s' := by
    obtain ⟨a, n, c⟩ := s
    obtain ⟨a', n', c'⟩ := s'
    simp only [Sl.v, List.cons.injEq, and_true] at e
    injection e with e1 e2 e3
    subst e1 e2 e3
    rfl
  exact ⟨l, h⟩
theorem rd_qnts {W : World} {s : Sl} (h : Rd Try.prog W 48 [s.v]) : ∃ l : List Qnt, SlAt 3 qntC QntOk W s l := by
  obtain ⟨s', l, e, h⟩ := rd_sl (k := 3) Try.underlying48 (by kernel_rfl) (fun es he => rd_qnt he) h
  obtain rfl : s = s' := by
    obtain ⟨a, n, c⟩ := s
    obtain ⟨a', n', c'⟩ := s'
    simp only [Sl.v, List.cons.injEq, and_true] at e
    injection e with e1 e2 e3
    subst e1 e2 e3
    rfl
  exact ⟨l, h⟩
end Go.Proofs.Ytdogokcoobpgdaa
namespace Go.Proofs.Ytdogokcoobpgdaa.Hy
open Go.RowKit

/-! ### bits -/
theorem wrap_u64 (n : Int) : IntKind.u64.wrap n = n % 18446744073709551616 := by simp [IntKind.wrap, IntKind.bits, IntKind.signed]
theorem bits_xor_nat (k : IntKind) (a b : Nat) (ha : a < 2 ^ k.bits) (hb : b < 2 ^ k.bits) : Go.bits .xor k a b = k.wrap ((a ^^^ b : Nat) : Int) := by
  simp only [Go.bits, BitVec.ofInt_natCast, BitVec.toNat_xor, BitVec.toNat_ofNat, Nat.mod_eq_of_lt ha, Nat.mod_eq_of_lt hb]
theorem bits_xor_0 (k : IntKind) (x : Int) : Go.bits .xor k x 0 = k.wrap (BitVec.ofInt k.bits x).toNat := by
  have h : BitVec.ofInt k.bits 0 = 0#k.bits := by apply BitVec.eq_of_toInt_eq; simp
  simp only [Go.bits, h, BitVec.xor_zero]
theorem bits_xor_m (k : IntKind) (x y : Int) (h : BitVec.ofInt k.bits y = BitVec.allOnes k.bits) : Go.bits .xor k x y = k.wrap (2 ^ k.bits - 1 - (BitVec.ofInt k.bits x).toNat : Nat) := by
  simp only [Go.bits, h, BitVec.xor_allOnes, BitVec.toNat_not]
theorem ofInt_u64 (x : Int) : ((BitVec.ofInt IntKind.u64.bits x).toNat : Int) = x % 18446744073709551616 := by
  rw [BitVec.toNat_ofInt]; simp [IntKind.bits]; omega
theorem ofInt_i64 (x : Int) : ((BitVec.ofInt IntKind.i64.bits x).toNat : Int) = x % 18446744073709551616 := by
  rw [BitVec.toNat_ofInt]; simp [IntKind.bits]; omega
theorem ofInt_u32 (x : Int) : ((BitVec.ofInt IntKind.u32.bits x).toNat : Int) = x % 4294967296 := by
  rw [BitVec.toNat_ofInt]; simp [IntKind.bits]; omega
theorem ofInt_i32 (x : Int) : ((BitVec.ofInt IntKind.i32.bits x).toNat : Int) = x % 4294967296 := by
  rw [BitVec.toNat_ofInt]; simp [IntKind.bits]; omega
theorem xor_u64_0 (x : Int) (h0 : 0 ≤ x) (h1 : x < 18446744073709551616) : Go.bits .xor .u64 x 0 = x := by
  rw [bits_xor_0, ofInt_u64, wrap_u64]; omega
theorem xor_u64_m (x : Int) (h0 : 0 ≤ x) (h1 : x < 18446744073709551616) : Go.bits .xor .u64 x 18446744073709551615 = 18446744073709551615 - x := by
  rw [bits_xor_m .u64 x _ (by decide +kernel), wrap_u64]
  have := ofInt_u64 x
  simp only [show IntKind.u64.bits = 64 from rfl] at this ⊢
  omega
theorem xor_i64_0 (x : Int) (h0 : -9223372036854775808 ≤ x) (h1 : x < 9223372036854775808) : Go.bits .xor .i64 x 0 = x := by
  rw [bits_xor_0, ofInt_i64, IntKind.wrap_i64]; omega
theorem xor_i64_m (x : Int) (h0 : -9223372036854775808 ≤ x) (h1 : x < 9223372036854775808) : Go.bits .xor .i64 x (-1) = -x - 1 := by
  rw [bits_xor_m .i64 x _ (by decide +kernel), IntKind.wrap_i64]
  have := ofInt_i64 x
  simp only [show IntKind.i64.bits = 64 from rfl] at this ⊢
  omega
theorem xor_u32_0 (x : Int) (h0 : 0 ≤ x) (h1 : x < 4294967296) : Go.bits .xor .u32 x 0 = x := by
  rw [bits_xor_0, ofInt_u32, IntKind.wrap_u32]; omega
theorem xor_u32_m (x : Int) (h0 : 0 ≤ x) (h1 : x < 4294967296) : Go.bits .xor .u32 x 4294967295 = 4294967295 - x := by
  rw [bits_xor_m .u32 x _ (by decide +kernel), IntKind.wrap_u32]
  have := ofInt_u32 x
  simp only [show IntKind.u32.bits = 32 from rfl] at this ⊢
  omega
theorem xor_i32_0 (x : Int) (h0 : -2147483648 ≤ x) (h1 : x < 2147483648) : Go.bits .xor .i32 x 0 = x := by
  rw [bits_xor_0, ofInt_i32, IntKind.wrap_i32]; omega
theorem xor_i32_m (x : Int) (h0 : -2147483648 ≤ x) (h1 : x < 2147483648) : Go.bits .xor .i32 x (-1) = -x - 1 := by
  rw [bits_xor_m .i32 x _ (by decide +kernel), IntKind.wrap_i32]
  have := ofInt_i32 x
  simp only [show IntKind.i32.bits = 32 from rfl] at this ⊢
  omega
theorem and_u64_1 (x : Int) (h0 : 0 ≤ x) (h1 : x < 18446744073709551616) : Go.bits .and .u64 x 1 = x % 2 :=
  bits_mask .u64 64 (by decide) (fun n a b => by rw [wrap_u64]; omega) 1 (by decide) x h0 (by simpa using h1)
theorem and_u64_127 (x : Int) (h0 : 0 ≤ x) (h1 : x < 18446744073709551616) : Go.bits .and .u64 x 127 = x % 128 :=
  bits_mask .u64 64 (by decide) (fun n a b => by rw [wrap_u64]; omega) 7 (by decide) x h0 (by simpa using h1)
theorem and_u64_m32 (x : Int) (h0 : 0 ≤ x) (h1 : x < 18446744073709551616) : Go.bits .and .u64 x 4294967295 = x % 4294967296 :=
  bits_mask .u64 64 (by decide) (fun n a b => by rw [wrap_u64]; omega) 32 (by decide) x h0 (by simpa using h1)
theorem or_nat (k : IntKind) (j : Nat) (hj : j ≤ k.bits) (hk : ∀ n : Int, 0 ≤ n → n < 2 ^ j → k.wrap n = n) (a b : Nat) (ha : a < 2 ^ j) (hb : b < 2 ^ j) : Go.bits .or k a b = ((a ||| b : Nat) : Int) := (bits_nat k j hj hk a b ha hb).2
theorem or_u8_128 (x : Int) (h0 : 0 ≤ x) (h1 : x < 256) : Go.bits .or .u8 x 128 = x % 128 + 128 := by
  obtain ⟨n, rfl⟩ := Int.eq_ofNat_of_zero_le h0
  rw [show (128 : Int) = ((128 : Nat) : Int) from rfl, or_nat .u8 8 (by decide) wraps_u8 n 128 (by omega) (by decide)]
  have hn : n < 256 := by omega
  have : n ||| 128 = n % 128 + 128 := by
    have h : ∀ m : Fin 256, m.val ||| 128 = m.val % 128 + 128 := by decide +kernel
    exact h ⟨n, hn⟩
  rw [this]; simp
theorem or_u64_128 (x : Int) (h0 : 0 ≤ x) (h1 : x < 128) : Go.bits .or .u64 x 128 = x + 128 := by
  obtain ⟨n, rfl⟩ := Int.eq_ofNat_of_zero_le h0
  rw [show (128 : Int) = ((128 : Nat) : Int) from rfl, or_nat .u64 64 (by decide) (fun n a b => by rw [wrap_u64]; omega) n 128 (by omega) (by decide)]
  have hn : n < 128 := by omega
  have : n ||| 128 = n + 128 := by
    have h : ∀ m : Fin 128, m.val ||| 128 = m.val + 128 := by decide +kernel
    exact h ⟨n, hn⟩
  rw [this]; simp
theorem andNot_u8_128 (x : Int) (h0 : 0 ≤ x) (h1 : x < 256) : Go.bits .andNot .u8 x 128 = x % 128 := by
  obtain ⟨n, rfl⟩ := Int.eq_ofNat_of_zero_le h0
  have h : ∀ m : Fin 256, Go.bits .andNot .u8 ((m.val : Nat) : Int) 128 = ((m.val : Nat) : Int) % 128 := by decide +kernel
  exact h ⟨n, by omega⟩
/-- Or of what has no bit in common. -/
theorem or_join_u64 (x y : Int) (i : Nat) (hx0 : 0 ≤ x) (hx : x < 2 ^ i) (hy0 : 0 ≤ y) (hy : y % 2 ^ i = 0) (hx1 : x < 18446744073709551616) (hy1 : y < 18446744073709551616) : Go.bits .or .u64 x y = x + y := by
  obtain ⟨a, rfl⟩ := Int.eq_ofNat_of_zero_le hx0
  obtain ⟨b, rfl⟩ := Int.eq_ofNat_of_zero_le hy0
  have h := bits_join .u64 64 (by decide) (fun n a b => by rw [wrap_u64]; omega) i (b : Int) (a : Int) hy0 hy (by simpa using hy1) hx0 hx (by simpa using hx1)
  have e : Go.bits .or .u64 (a : Int) (b : Int) = Go.bits .or .u64 (b : Int) (a : Int) := by
    simp only [Go.bits, BitVec.or_comm]
  rw [e, h]; omega

/-! ### zigzag -/
def zig (m : Int) : Int := if m < 0 then -2 * m - 1 else 2 * m
def zag (n : Int) : Int := if n % 2 = 1 then -(n / 2) - 1 else n / 2
theorem zag_zig (m : Int) : zag (zig m) = m := by unfold zag zig; split <;> split <;> omega
theorem zig_zag (n : Int) (h : 0 ≤ n) : zig (zag n) = n := by unfold zag zig; split <;> split <;> omega
theorem zig_range (m : Int) (h0 : -9223372036854775808 ≤ m) (h1 : m < 9223372036854775808) : 0 ≤ zig m ∧ zig m < 18446744073709551616 := by unfold zig; split <;> omega
theorem zag_range (n : Int) (h0 : 0 ≤ n) (h1 : n < 18446744073709551616) : -9223372036854775808 ≤ zag n ∧ zag n < 9223372036854775808 := by unfold zag; split <;> omega
theorem zig_range32 (m : Int) (h0 : -2147483648 ≤ m) (h1 : m < 2147483648) : 0 ≤ zig m ∧ zig m < 4294967296 := by unfold zig; split <;> omega
theorem zag_range32 (n : Int) (h0 : 0 ≤ n) (h1 : n < 4294967296) : -2147483648 ≤ zag n ∧ zag n < 2147483648 := by unfold zag; split <;> omega

/-! ### bytes: strings as lists of numbers -/
def bs (s : ByteArray) : List Nat := s.data.toList.map UInt8.toNat
def st (l : List Nat) : ByteArray := ⟨(l.map UInt8.ofNat).toArray⟩
def okB (l : List Nat) : Prop := ∀ x ∈ l, x < 256
theorem bs_ok (s : ByteArray) : okB (bs s) := by
  intro x hx
  obtain ⟨u, _, rfl⟩ := List.mem_map.1 hx
  exact u.toNat_lt
theorem bs_st (l : List Nat) (h : okB l) : bs (st l) = l := by
  unfold bs st
  simp only [List.map_map]
  conv => rhs; rw [← List.map_id l]
  apply List.map_congr_left
  intro x hx
  have := h x hx
  simp [Function.comp]
  omega
theorem st_bs (s : ByteArray) : st (bs s) = s := by
  unfold bs st
  simp only [List.map_map]
  have : (UInt8.ofNat ∘ UInt8.toNat) = id := by funext u; simp
  rw [this]; simp
theorem bs_inj {s t : ByteArray} (h : bs s = bs t) : s = t := by rw [← st_bs s, ← st_bs t, h]
theorem bs_length (s : ByteArray) : (bs s).length = s.size := by unfold bs; simp
theorem st_size (l : List Nat) : (st l).size = l.length := by
  unfold st; show (List.toArray _).size = _; simp
theorem bs_append (s t : ByteArray) : bs (s ++ t) = bs s ++ bs t := by
  unfold bs
  rw [ByteArray.data_append]; simp
theorem st_append (a b : List Nat) : st (a ++ b) = st a ++ st b := by
  unfold st
  apply ByteArray.ext
  rw [ByteArray.data_append]; simp
theorem bs_extract (s : ByteArray) (a b : Nat) : bs (s.extract a b) = ((bs s).take b).drop a := by
  unfold bs
  rw [ByteArray.data_extract]
  simp [List.map_take, List.map_drop, List.drop_take, List.extract_eq_take_drop]
theorem strOfNums_eq (l : List Nat) : strOfNums (l.map fun (n : Nat) => (n : Int)) = st l := by
  unfold strOfNums st
  simp [List.map_map, Function.comp]
end Go.Proofs.Ytdogokcoobpgdaa.Hy
namespace Go.Proofs.Ytdogokcoobpgdaa
open Go.RowKit Go.Proofs.YtdogokcoobpgdaaW.PrintWords Hy

theorem below_next {w w1 w2 : World} (h : Below w.heap.size w w1) (h' : Below w1.heap.size w1 w2) : Below w.heap.size w w2 := h.trans (h'.mono h.size)
theorem bt_bs (s : ByteArray) (i : Nat) (h : i < s.size) : ∃ c r, (bs s).drop i = c :: r ∧ bt s (i : Int) = (c : Int) ∧ c < 256 ∧ (bs s).drop (i + 1) = r := by
  have hl : i < (bs s).length := by rw [bs_length]; exact h
  refine ⟨(bs s)[i], (bs s).drop (i + 1), List.drop_eq_getElem_cons hl, ?_, bs_ok s _ (List.getElem_mem hl), rfl⟩
  unfold bt
  rw [dif_pos (by simpa using h)]
  simp [bs]
  rfl
end Go.Proofs.Ytdogokcoobpgdaa
