import Derived.Test.YtodhnmflabehhaaDoorWWords
import Derived.Deep.SlicePairs
import Derived.Below
import Derived.WalkKit
import Derived.ChangeSame
import Derived.Test.YtodhnmflabehhaaDoorMxwdpkuyd
import Derived.Test.YtodhnmflabehhaaDoorMzfxtwfqr
import Derived.Test.YtodhnmflabehhaaDoorMsvpcawkb
import Derived.Outline
import Derived.BigQuiet
namespace Go.Proofs.YtodhnmflabehhaaDoor
open Go.RowKit Go.Deep Go.ChangeShapes Go.WideShapes Go.Proofs.YtodhnmflabehhaaDoorW.PrintWords

/-- A row of structs of two one-cell fields, as it lies. -/
def Prs {α : Type} (f g : α → Value) (w : World) (A : Option Addr) (l : List α) : Prop :=
  ∀ i (h : i < l.length), ∃ ad, A = some ad ∧ w.cell? (ad.add (i * 2)) = some (f l[i]) ∧ w.cell? (ad.add (i * 2 + 1)) = some (g l[i])
theorem Prs.below {α : Type} {f g : α → Value} {w w' : World} {A : Option Addr} {l : List α} (h : Prs f g w A l) (hb : Below w.heap.size w w') : Prs f g w' A l := by
  intro i hi
  obtain ⟨ad, e, h0, h1⟩ := h i hi
  exact ⟨ad, e, pw_cell_below hb h0, pw_cell_below hb h1⟩
theorem list_of {α : Type} : ∀ {n : Nat} {p : Nat → α → Prop}, (∀ i, i < n → ∃ x, p i x) → ∃ l : List α, l.length = n ∧ ∀ i (h : i < l.length), p i l[i] := by
  intro n
  induction n with
  | zero => intro p _; exact ⟨[], rfl, fun i h => absurd h (Nat.not_lt_zero i)⟩
  | succ n ih =>
    intro p h
    obtain ⟨l, hl, hp⟩ := ih (p := p) (fun i hi => h i (by omega))
    obtain ⟨x, hx⟩ := h n (by omega)
    refine ⟨l ++ [x], by simp [hl], fun i hi => ?_⟩
    by_cases hlt : i < l.length
    · rw [List.getElem_append_left hlt]; exact hp i hlt
    · have : i = l.length := by simp at hi; omega
      subst this
      rw [List.getElem_concat_length rfl (by simp), hl]; exact hx
theorem pairs_row {H : Type} {enc : TypeId × Value → H} {P : Program} {W : World} {base : Nat} {sp : Nat → Bool} {held : Bool} {t e : TypeId} {f0 f1 : Field} {α : Type} {f g : α → Value} {ok : α → Prop} {a : Option Addr} {len cap : Nat} {d : DataW H} {p : List MemPlace}
    (ht : P.underlying t = some (.slice e)) (he : P.underlying e = some (.struct #[f0, f1])) (ce : P.cellsOf e = 2) (o0 : f0.offset = 0) (o1 : f1.offset = 1) (c0 : P.cellsOf f0.type = 1) (c1 : P.cellsOf f1.type = 1)
    (hread : ∀ n v0 v1 x0 x1, DataW.trod enc P W base sp held n f0.type [v0] = some x0 → DataW.trod enc P W base sp held n f1.type [v1] = some x1 → ∃ x : α, v0 = f x ∧ v1 = g x ∧ ok x)
    (h : DataW.Trod enc P W base sp held t (.slice a len cap) d p) : ∃ l : List α, len = l.length ∧ Prs f g W a l ∧ l.length ≤ cap ∧ cap ≤ maxLen ∧ ∀ x ∈ l, ok x := by
  obtain ⟨fuel, hf⟩ := h
  rcases open_slice_pairs ht he ce o0 o1 c0 c1 hf with ⟨hcs, _⟩ | ⟨x, l, c, m, n, V0, V1, D0, D1, P0, P1, hcs, _, hl, hm, hmm, _, hx⟩
  · simp [Value.cells] at hcs
    obtain ⟨rfl, rfl, rfl⟩ := hcs
    exact ⟨[], rfl, fun i h => absurd h (Nat.not_lt_zero i), by simp, by simp, by simp⟩
  · simp [Value.cells] at hcs
    obtain ⟨rfl, rfl, rfl⟩ := hcs
    have hlm : len ≤ m := by rw [hmm]; split <;> omega
    obtain ⟨L, hL, hp⟩ := list_of (n := len) (p := fun i y => V0 i = f y ∧ V1 i = g y ∧ ok y) (fun i hi => by
      obtain ⟨_, _, h2, h3⟩ := hx i (by omega)
      exact hread n _ _ _ _ h2 h3)
    refine ⟨L, hL.symm, fun i hi => ?_, by omega, hm, fun y hy => ?_⟩
    · obtain ⟨h0, h1, _, _⟩ := hx i (by omega)
      obtain ⟨e0, e1, _⟩ := hp i hi
      exact ⟨x, rfl, by rw [h0, e0], by rw [h1, e1]⟩
    · obtain ⟨i, hi, rfl⟩ := List.getElem_of_mem hy
      exact (hp i hi).2.2
end Go.Proofs.YtodhnmflabehhaaDoor
namespace Go.Proofs.YtodhnmflabehhaaDoor
open Go.RowKit Go.Proofs.YtodhnmflabehhaaDoorW.PrintWords Go.Proofs.YtodhnmflabehhaaDoorW.PrintLast Go.Proofs.YtodhnmflabehhaaDoorW.PrintMore Hy

theorem IsW.drew {T B g : Nat} {l : List Bool} {w : World} (h : IsW T B g l w) : IsW T B g l w.drew := h
/-! ### numbers in so many bits -/
def Ops (w : World) (A : Option Addr) (l : List (Int × Int)) : Prop := Prs (fun x : Int × Int => Value.int .u64 x.1) (fun x : Int × Int => Value.int .i64 x.2) w A l
theorem Ops.below {w w' : World} {A : Option Addr} {l : List (Int × Int)} (h : Ops w A l) (hb : Below w.heap.size w w') : Ops w' A l := Prs.below h hb
theorem Ops.at_ {w : World} {A : Option Addr} {l : List (Int × Int)} (h : Ops w A l) (i : Nat) (hi : i < l.length) : ∃ ad, A = some ad ∧ w.cell? (ad.add (i * 2)) = some (.int .u64 l[i].1) ∧ w.cell? ⟨(ad.add (i * 2)).block, (ad.add (i * 2)).off + 1, none⟩ = some (.int .i64 l[i].2) := by
  obtain ⟨ad, rfl, h0, h1⟩ := h i hi
  rw [add_field _ _ 1 (by omega)] at h1
  exact ⟨ad, rfl, h0, h1⟩
/-- May it be put? -/
def opG (x : Int × Int) : Prop := 0 ≤ x.2 ∧ x.2 ≤ 64 ∧ x.1.toNat < 2 ^ x.2.toNat
def opsL (l : List (Int × Int)) : List Bool := l.flatMap fun x => bitsOf x.1.toNat x.2.toNat
theorem opsL_take (l : List (Int × Int)) (k : Nat) (hk : k < l.length) : opsL (l.take (k + 1)) = opsL (l.take k) ++ bitsOf l[k].1.toNat l[k].2.toNat := by
  rw [List.take_succ_eq_append_getElem hk]
  unfold opsL
  rw [List.flatMap_append]
  simp
theorem opsL_split (l : List (Int × Int)) (k : Nat) (hk : k < l.length) : opsL l = opsL (l.take k) ++ (bitsOf l[k].1.toNat l[k].2.toNat ++ opsL (l.drop (k + 1))) := by
  have h : l = l.take k ++ (l[k] :: l.drop (k + 1)) := by rw [← List.drop_eq_getElem_cons hk, List.take_append_drop]
  have h2 : opsL (l.take k ++ (l[k] :: l.drop (k + 1))) = opsL (l.take k) ++ (bitsOf l[k].1.toNat l[k].2.toNat ++ opsL (l.drop (k + 1))) := by
    unfold opsL
    rw [List.flatMap_append, List.flatMap_cons]
  rw [← h] at h2
  exact h2
theorem opsL_len (l : List (Int × Int)) (h : ∀ x ∈ l, opG x) : (opsL l).length ≤ 64 * l.length := by
  induction l with
  | nil => simp [opsL]
  | cons x l ih =>
    have h1 := ih (fun y hy => h y (by simp [hy]))
    have h2 := h x (by simp)
    unfold opG at h2
    rw [show opsL (x :: l) = bitsOf x.1.toNat x.2.toNat ++ opsL l from List.flatMap_cons, List.length_append, bitsOf_length, List.length_cons]
    omega
theorem good_take {l : List (Int × Int)} {k : Nat} (hk : k < l.length) (h : ∀ x ∈ l.take k, opG x) (hx : opG l[k]) : ∀ x ∈ l.take (k + 1), opG x := by
  intro x hm
  rw [List.take_succ_eq_append_getElem hk] at hm
  rcases List.mem_append.1 hm with hm | hm
  · exact h x hm
  · rw [List.mem_singleton.1 hm]; exact hx
end Go.Proofs.YtodhnmflabehhaaDoor
