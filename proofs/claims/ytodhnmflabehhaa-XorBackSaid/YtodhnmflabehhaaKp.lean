import Derived.Test.YtodhnmflabehhaaWWords
import Derived.Below
import Derived.WalkKit
namespace Go.Proofs.Ytodhnmflabehhaa
open Go.RowKit Go.Proofs.YtodhnmflabehhaaW.PrintWords

/-- All blocks that were there are as they were, but for those of M. -/
structure Kp (M : Nat → Prop) (w w' : World) : Prop where
  os : w'.os = w.os
  tape : w'.tape = w.tape
  output : w'.output = w.output
  size : w.heap.size ≤ w'.heap.size
  block : ∀ k, k < w.heap.size → ¬ M k → w'.heap[k]? = w.heap[k]?
variable {M M' : Nat → Prop} {w w1 w2 : World}
theorem Kp.refl (M : Nat → Prop) (w : World) : Kp M w w := ⟨rfl, rfl, rfl, Nat.le_refl _, fun _ _ _ => rfl⟩
theorem Kp.trans (h : Kp M w w1) (k : Kp M w1 w2) : Kp M w w2 :=
  ⟨k.os.trans h.os, k.tape.trans h.tape, k.output.trans h.output, Nat.le_trans h.size k.size, fun i hi hm => (k.block i (Nat.lt_of_lt_of_le hi h.size) hm).trans (h.block i hi hm)⟩
theorem Kp.mono (h : Kp M w w1) (hm : ∀ k, M k → M' k) : Kp M' w w1 := ⟨h.os, h.tape, h.output, h.size, fun k hk hn => h.block k hk (fun x => hn (hm k x))⟩
theorem Kp.drewN (h : Kp M w w1) (m : Nat) : Kp M w (w1.drewN m) := ⟨h.os, h.tape, h.output, h.size, h.block⟩
theorem Kp.drew (h : Kp M w w1) : Kp M w w1.drew := ⟨h.os, h.tape, h.output, h.size, h.block⟩
theorem Kp.ofBelow (h : Below w.heap.size w w1) : Kp M w w1 := ⟨h.os, h.tape, h.output, h.size, fun k hk _ => h.block k hk⟩
theorem Kp.toBelow {B : Nat} (h : Kp M w w1) (hB : B ≤ w.heap.size) (hM : ∀ k, M k → B ≤ k) : Below B w w1 :=
  ⟨h.os, h.tape, h.output, h.size, fun k hk => h.block k (Nat.lt_of_lt_of_le hk hB) (fun x => by have := hM k x; omega)⟩
/-- What came behind the call's beginning may have been written to. -/
theorem Kp.below {w0 : World} (h0 : Below w0.heap.size w0 w) (h : Kp M w w1) (hM : ∀ k, M k → w0.heap.size ≤ k) : Below w0.heap.size w0 w1 := h0.trans (h.toBelow h0.size hM)
theorem Kp.next (h : Kp M w w1) (k : Below w1.heap.size w1 w2) : Kp M w w2 := h.trans (Kp.ofBelow k)
theorem Kp.alloc (h : Kp M w w1) (o : Obj) : Kp M w (w1.alloc o) := h.next ((Below.refl _ _).alloc (Nat.le_refl _) o)
theorem Kp.set (h : Kp M w w1) {p : Addr} (hp : M p.block) (u : Value) : Kp M w (w1.setCell p u) :=
  ⟨h.os, h.tape, h.output, by simpa using h.size, fun k hk hn => (Below.heap_setCell w1 p u k (fun e => hn (e ▸ hp))).trans (h.block k hk hn)⟩
theorem Kp.obj {g : Nat} {o : Obj} (h : Kp M w w1) (hb : w.heap[g]? = some o) (hn : ¬ M g) : w1.heap[g]? = some o := (h.block g (blk_lt hb) hn).trans hb
theorem Kp.row {α : Type} {d : Kd α} {e base : Nat} {ok : Nat → Prop} {v : Value} {xs : List α} (h : Kp M w w1) (hr : d.R e w base ok v xs) (hok : ∀ k, ok k → ¬ M k) : d.R e w1 base ok v xs := Kd.R_step hr (fun k ho hk => h.block k hk (hok k ho))
theorem Kp.own {base : Nat} {e : TypeId} {size n : Nat} {v : Value} {xs : List Value} (h : Kp M w w1) (ho : w.ownsRow base e size v n xs) (hn : ∀ k, v.ownBlock = some k → ¬ M k) : w1.ownsRow base e size v n xs :=
  own_move ho (fun k hk => h.block k (own_lt ho k hk) (hn k hk))
end Go.Proofs.Ytodhnmflabehhaa
