import Derived.Lib.Bytealg
import Derived.Sort.Statements
import Derived.Shelf.SlSortCmp.Insertion
import Derived.Test.YtdogokcoobpgdaaMgvmrfvsf
import Derived.Shelf.SlSortCmp.WholeK
import Derived.Shelf.SlicesE.Clone
import Derived.Shelf.Small.Strs
import Derived.Shelf.SlGeneric
import Derived.Ground.SlsfProg
import Derived.Ground.SlgnProg
import Derived.Ground.NamesProg
import Derived.Test.YtdogokcoobpgdaaProg
import Derived.Test.YtdogokcoobpgdaaMzsmiysjl
import Derived.Test.YtdogokcoobpgdaaWLsx
import Derived.Test.YtdogokcoobpgdaaMox
import Derived.Shelf.SlSortCmp.NoneTotal
import Derived.BigQuiet
namespace Go.Proofs.Ytdogokcoobpgdaa
open Go.Lib Go.Sort

theorem cb_self : ∀ l : List UInt8, compareBytes l l = 0 := by
  intro l
  induction l with
  | nil => rfl
  | cons a l ih => simp only [compareBytes]; rw [if_neg (by simp), if_neg (by simp)]; exact ih
theorem cb_anti : ∀ a b : List UInt8, compareBytes b a = - compareBytes a b := by
  intro a
  induction a with
  | nil => intro b; cases b <;> rfl
  | cons x a ih =>
    intro b
    cases b with
    | nil => rfl
    | cons y b =>
      simp only [compareBytes]
      by_cases h1 : x < y
      · have h2 : ¬ y < x := by rw [UInt8.lt_iff_toNat_lt] at h1 ⊢; omega
        rw [if_neg h2, if_pos h1, if_pos h1]; rfl
      · by_cases h2 : y < x
        · rw [if_pos h2, if_neg h1, if_pos h2]
        · rw [if_neg h2, if_neg h1, if_neg h1, if_neg h2]; exact ih b
theorem cb_eq : ∀ a b : List UInt8, compareBytes a b = 0 → a = b := by
  intro a
  induction a with
  | nil => intro b h; cases b; rfl; simp [compareBytes] at h
  | cons x a ih =>
    intro b h
    cases b with
    | nil => simp [compareBytes] at h
    | cons y b =>
      simp only [compareBytes] at h
      by_cases h1 : x < y
      · rw [if_pos h1] at h; simp at h
      · rw [if_neg h1] at h
        by_cases h2 : y < x
        · rw [if_pos h2] at h; simp at h
        · rw [if_neg h2] at h
          have e : x = y := by
            apply UInt8.toNat_inj.1
            rw [UInt8.lt_iff_toNat_lt] at h1 h2
            omega
          rw [e, ih b h]
theorem cb_le_trans : ∀ a b c : List UInt8, compareBytes a b ≤ 0 → compareBytes b c ≤ 0 → compareBytes a c ≤ 0 := by
  intro a
  induction a with
  | nil => intro b c _ _; cases c <;> simp [compareBytes]
  | cons x a ih =>
    intro b c h1 h2
    cases b with
    | nil => simp [compareBytes] at h1
    | cons y b =>
      cases c with
      | nil => simp [compareBytes] at h2
      | cons z c =>
        simp only [compareBytes] at h1 h2 ⊢
        simp only [UInt8.lt_iff_toNat_lt] at h1 h2 ⊢
        by_cases a1 : x.toNat < y.toNat
        · by_cases b1 : y.toNat < z.toNat
          · rw [if_pos (by omega)]; omega
          · rw [if_neg b1] at h2
            by_cases b2 : z.toNat < y.toNat
            · rw [if_pos b2] at h2; omega
            · rw [if_pos (by omega)]; omega
        · rw [if_neg a1] at h1
          by_cases a2 : y.toNat < x.toNat
          · rw [if_pos a2] at h1; omega
          · rw [if_neg a2] at h1
            by_cases b1 : y.toNat < z.toNat
            · rw [if_pos (by omega)]; omega
            · rw [if_neg b1] at h2
              by_cases b2 : z.toNat < y.toNat
              · rw [if_pos b2] at h2; omega
              · rw [if_neg b2] at h2
                rw [if_neg (by omega), if_neg (by omega)]
                exact ih b c h1 h2
theorem cb_swo {α : Type} (f : α → List UInt8) : SWO (ltOf fun x y : α => compareBytes (f x) (f y)) where
  irrefl x := by show decide (compareBytes (f x) (f x) < 0) = false; rw [cb_self]; rfl
  trans x y z h1 h2 := by
    unfold ltOf at *
    simp only [decide_eq_true_eq] at *
    have h3 := cb_le_trans (f x) (f y) (f z) (by omega) (by omega)
    by_cases h : compareBytes (f x) (f z) = 0
    · rw [cb_eq _ _ h] at h1
      have := cb_anti (f y) (f z)
      omega
    · omega
  ntrans x y z h1 h2 := by
    unfold ltOf at *
    simp only [decide_eq_false_iff_not] at *
    have a1 := cb_anti (f x) (f y)
    have a2 := cb_anti (f y) (f z)
    have a3 := cb_anti (f x) (f z)
    have := cb_le_trans (f z) (f y) (f x) (by omega) (by omega)
    omega
/-- A key's bytes. -/
def kb (x : Kv) : List UInt8 := x.key.data.toList
/-- Are there two alike? -/
def dupK (l : List Kv) : Bool := !decide ((l.map kb).Nodup)
/-- In order, two alike lie side by side. -/
theorem dup_adj (K : List (List UInt8)) (hs : ∀ i j (hi : i < j) (hj : j < K.length), 0 ≤ compareBytes K[j] (K[i]'(by omega))) : K.Nodup ↔ ∀ i (h : i + 1 < K.length), ¬ K[i + 1] = K[i] := by
  constructor
  · intro hn i h e
    rw [List.nodup_iff_pairwise_ne, List.pairwise_iff_getElem] at hn
    exact hn i (i + 1) (by omega) h (by omega) e.symm
  · intro h
    rw [List.nodup_iff_pairwise_ne, List.pairwise_iff_getElem]
    intro i j hi hj hij e
    by_cases hj1 : j = i + 1
    · subst hj1
      exact h i hj e.symm
    · have h1 := hs i (i + 1) (by omega) (by omega)
      have h2 := hs (i + 1) j (by omega) hj
      rw [← e] at h2
      have h3 := cb_anti K[i] K[i + 1]
      have h4 : compareBytes K[i + 1] K[i] = 0 := by omega
      exact h i (by omega) (cb_eq _ _ h4)
end Go.Proofs.Ytdogokcoobpgdaa
/-
  DERIVED: THE SHELF's CONTRACTS AT THIS DUMP, IN PLAIN WORDS (tools/lay-plain.mjs out of 'YtdogokcoobpgdaaShelf.lean', which tools/lay-shelf.mjs wrote): THE SAME DECLARATIONS UNDER THE SAME NAMES: 'import', 'namespace', 'open', 'def', 'theorem' AND NOTHING ELSE: no command of the shelf's: FOR A HAND-IN. Each laying: the table of numbers ('.._ren') and one theorem, a field a fact of the dump's own or the kernel's comparison; each contract: ONE APPLICATION.
-/
namespace Go.Proofs
open Go.Shelf
def Try.sortKv_ren : Go.Shelf.Ren := ⟨fun | 6 => 52 | 15 => 57 | 14 => 56 | 28 => 68 | 29 => 69 | 20 => 60 | 21 => 61 | 22 => 62 | 23 => 63 | 24 => 64 | 25 => 65 | 26 => 66 | 27 => 67 | 46 => 71 | 47 => 72 | 48 => 73 | 49 => 74 | 50 => 75 | 57 => 77 | n => n, fun | 22 => 22 | 24 => 44 | 25 => 95 | 3 => 3 | 39 => 91 | 0 => 0 | 53 => 28 | 55 => 23 | 4 => 4 | 46 => 101 | 45 => 100 | 50 => 105 | 5 => 5 | 9 => 9 | 66 => 108 | 70 => 112 | 76 => 114 | 77 => 115 | n => n, fun | n => n⟩
theorem Try.sortKv : Go.Proofs.SlLaysF0.n6 Try.prog Try.sortKv_ren := {
  mixed := by kernel_rfl
  f6 := ⟨Try.f52.name, by decide, Try.func52.trans (congrArg some (by kernel_rfl))⟩
  f14 := ⟨Try.f56.name, by decide, Try.func56.trans (congrArg some (by kernel_rfl))⟩
  f15 := Try.func57.trans (congrArg some (by kernel_rfl))
  f20 := ⟨Try.f60.name, by decide, Try.func60.trans (congrArg some (by kernel_rfl))⟩
  f21 := ⟨Try.f61.name, by decide, Try.func61.trans (congrArg some (by kernel_rfl))⟩
  f22 := ⟨Try.f62.name, by decide, Try.func62.trans (congrArg some (by kernel_rfl))⟩
  f23 := ⟨Try.f63.name, by decide, Try.func63.trans (congrArg some (by kernel_rfl))⟩
  f24 := ⟨Try.f64.name, by decide, Try.func64.trans (congrArg some (by kernel_rfl))⟩
  f25 := ⟨Try.f65.name, by decide, Try.func65.trans (congrArg some (by kernel_rfl))⟩
  f26 := ⟨Try.f66.name, by decide, Try.func66.trans (congrArg some (by kernel_rfl))⟩
  f27 := ⟨Try.f67.name, by decide, Try.func67.trans (congrArg some (by kernel_rfl))⟩
  f28 := Try.func68.trans (congrArg some (by kernel_rfl))
  f29 := Try.func69.trans (congrArg some (by kernel_rfl))
  f46 := ⟨Try.f71.name, by decide, Try.func71.trans (congrArg some (by kernel_rfl))⟩
  f47 := Try.func72.trans (congrArg some (by kernel_rfl))
  f48 := Try.func73.trans (congrArg some (by kernel_rfl))
  f49 := ⟨Try.f74.name, by decide, Try.func74.trans (congrArg some (by kernel_rfl))⟩
  f50 := ⟨Try.f75.name, by decide, Try.func75.trans (congrArg some (by kernel_rfl))⟩
  f57 := ⟨Try.f77.name, by decide, Try.func77.trans (congrArg some (by kernel_rfl))⟩
  t0 := Try.underlying0
  a0 := Try.isAgg0
  z0 := Try.sizeOf0
  v0 := Try.zeroValue0
  t3 := Try.underlying3
  a3 := Try.isAgg3
  z3 := Try.sizeOf3
  v3 := Try.zeroValue3
  t4 := Try.underlying4
  a4 := Try.isAgg4
  z4 := Try.sizeOf4
  v4 := Try.zeroValue4
  t5 := Try.underlying5
  a5 := Try.isAgg5
  z5 := Try.sizeOf5
  v5 := Try.zeroValue5
  t9 := Try.underlying9
  a9 := Try.isAgg9
  z9 := Try.sizeOf9
  v9 := Try.zeroValue9
  t22 := Try.underlying22
  a22 := Try.isAgg22
  z22 := Try.sizeOf22
  v22 := Try.zeroValue22
  t25 := Try.underlying95
  a25 := Try.isAgg95
  z25 := Try.sizeOf95
  v25 := Try.zeroValue95
  t39 := Try.underlying91
  a39 := Try.isAgg91
  z39 := Try.sizeOf91
  v39 := Try.zeroValue91
  t45 := Try.underlying100
  a45 := Try.isAgg100
  z45 := Try.sizeOf100
  v45 := Try.zeroValue100
  t46 := Try.underlying101
  a46 := Try.isAgg101
  z46 := Try.sizeOf101
  v46 := Try.zeroValue101
  t50 := Try.underlying105
  a50 := Try.isAgg105
  z50 := Try.sizeOf105
  v50 := Try.zeroValue105
  t53 := Try.underlying28
  a53 := Try.isAgg28
  z53 := Try.sizeOf28
  v53 := Try.zeroValue28
  t55 := Try.underlying23
  a55 := Try.isAgg23
  z55 := Try.sizeOf23
  v55 := Try.zeroValue23
  t66 := Try.underlying108
  a66 := Try.isAgg108
  z66 := Try.sizeOf108
  v66 := Try.zeroValue108
  t70 := Try.underlying112
  a70 := Try.isAgg112
  z70 := Try.sizeOf112
  v70 := Try.zeroValue112
  t76 := Try.underlying114
  a76 := Try.isAgg114
  z76 := Try.sizeOf114
  v76 := Try.zeroValue114
  t77 := Try.underlying115
  a77 := Try.isAgg115
  z77 := Try.sizeOf115
  v77 := Try.zeroValue115 }
def Try.cloneKv_ren : Go.Shelf.Ren := ⟨fun | 41 => 51 | n => n, fun | 22 => 22 | 23 => 44 | 4 => 4 | n => n, fun | n => n⟩
theorem Try.cloneKv : Go.Proofs.SlLaysE0.n41 Try.prog Try.cloneKv_ren := {
  mixed := by kernel_rfl
  f41 := ⟨Try.f51.name, by decide, Try.func51.trans (congrArg some (by kernel_rfl))⟩
  t4 := Try.underlying4
  a4 := Try.isAgg4
  z4 := Try.sizeOf4
  v4 := Try.zeroValue4
  t22 := Try.underlying22
  a22 := Try.isAgg22
  z22 := Try.sizeOf22
  v22 := Try.zeroValue22 }
def Try.cmpStr_ren : Go.Shelf.Ren := ⟨fun | 106 => 58 | 213 => 70 | 265 => 76 | n => n, fun | 9 => 9 | 3 => 3 | n => n, fun | n => n⟩
theorem Try.cmpStr : Go.Proofs.Lays.n106 Try.prog Try.cmpStr_ren := {
  mixed := by kernel_rfl
  f106 := Try.func58.trans (congrArg some (by kernel_rfl))
  f213 := Try.func70.trans (congrArg some (by kernel_rfl))
  f265 := Try.func76.trans (congrArg some (by kernel_rfl))
  t3 := Try.underlying3
  a3 := Try.isAgg3
  z3 := Try.sizeOf3
  v3 := Try.zeroValue3
  t9 := Try.underlying9
  a9 := Try.isAgg9
  z9 := Try.sizeOf9
  v9 := Try.zeroValue9 }
end Go.Proofs
namespace Go.Proofs.Ytdogokcoobpgdaa
open Go.RowKit Go.Proofs.YtdogokcoobpgdaaW.PrintWords Go.Proofs.YtdogokcoobpgdaaW.PrintLast Go.Proofs.YtdogokcoobpgdaaW.PrintMore Go.Sort

def cfK (x y : Kv) : Int := Lib.compareBytes (kb x) (kb y)
set_option maxHeartbeats 1000000 in
theorem cmp_kv (x y : Kv) (W : World) : Calls Try.prog 53 #[.agg (kvC x).toArray, .agg (kvC y).toArray] W fun e w' => e = .returned (.int .i64 (cfK x y)) ∧ ∃ q os', w' = grow (W.drewN q) os' := by
  have hcon := fun W' => Any.strings_Compare Try.cmpStr x.key y.key W'
  change ∀ W', Calls Try.prog 58 _ _ _ at hcon
  have he : Lib.compareBytes x.key.data.toList y.key.data.toList = cfK x y := rfl
  rw [he] at hcon
  clear he
  generalize cfK x y = r at hcon ⊢
  unfold kvC Sl.v
  go_enter Try.func53, Try.ntmps53
  go_wp2_with (go_at_call 58; refine (hcon _).mono ?_; rintro e w' ⟨rfl, rfl⟩)
  go_ret
  exact ⟨rfl, 0, _, by rw [alloc_eq_grow, alloc_eq_grow, grow_grow]; rfl⟩
theorem cmpLays (blk off size : Nat) (w : World) : CmpLays Try.prog 53 #[] kvC 11 cfK blk off size w :=
  fun _ _ _ _ x y => cmp_kv x y _
/-- What the sort leaves: blocks of its own, the row written. -/
theorem sort_kp (w : World) (blk off n : Nat) (d : Array Kv) (os : Array Obj) : Kp (fun k => k = blk) w (sortWorldK kvC 11 w blk off n d os) := by
  refine ⟨rfl, rfl, rfl, ?_, fun k hk hn => ?_⟩
  · exact size_sortWorldK_c kvC 11 w blk off n d os
  · have e : (sortWorldK kvC 11 w blk off n d os).heap = ((putRowK kvC 11 (Go.Sort.ahead w n) blk off d).heap ++ os) := rfl
    have hz : (putRowK kvC 11 (Go.Sort.ahead w n) blk off d).heap.size = w.heap.size := by
      show (w.heap.modify blk _).size = _
      exact Array.size_modify
    rw [e, Array.getElem?_append_left (by omega)]
    show (w.heap.modify blk _)[k]? = _
    rw [Array.getElem?_modify, if_neg (fun h => hn h.symm)]

/-! ### a row's cells, one behind the other -/
theorem flat_len (l : List Kv) : (l.flatMap kvC).length = l.length * 11 := by
  induction l with
  | nil => rfl
  | cons x l ih => rw [List.flatMap_cons, List.length_append, ih, List.length_cons]; show 11 + _ = _; omega
theorem flat_get : ∀ (l : List Kv) (i r : Nat) (hi : i < l.length), r < 11 → (l.flatMap kvC)[i * 11 + r]? = (kvC l[i])[r]? := by
  intro l
  induction l with
  | nil => intro i r hi _; simp at hi
  | cons x l ih =>
    intro i r hi hr
    rw [List.flatMap_cons]
    cases i with
    | zero => rw [List.getElem?_append_left (by show _ < 11; omega)]; simp
    | succ i =>
      rw [List.getElem?_append_right (by show 11 ≤ _; omega), show (i + 1) * 11 + r - (kvC x).length = i * 11 + r by show _ - 11 = _; omega]
      simp only [List.length_cons] at hi
      rw [ih i r (by omega) hr]
      rfl
theorem flat_one (l : List Kv) : ∀ u ∈ l.flatMap kvC, u.oneCell' = true := by
  intro u hu
  obtain ⟨x, _, h⟩ := List.mem_flatMap.1 hu
  exact kv_one x u h
theorem flat_lt (l : List Kv) (j : Nat) (hj : j < l.length * 11) : (l.flatMap kvC)[j]? = some ((kvC (l.toArray)[j / 11]!)[j % 11]!) := by
  have hi : j / 11 < l.length := by omega
  have h := flat_get l (j / 11) (j % 11) hi (by omega)
  rw [show j / 11 * 11 + j % 11 = j by omega] at h
  rw [h]
  have h1 : (l.toArray)[j / 11]! = l[j / 11] := by rw [getElem!_pos l.toArray (j / 11) (by simpa using hi)]; simp
  rw [h1]
  have h2 : j % 11 < (kvC l[j / 11]).length := by show _ < 11; omega
  rw [List.getElem?_eq_getElem h2, getElem!_pos (kvC l[j / 11]) (j % 11) h2]
theorem info_kv : (Try.prog.info? 44).map (fun i => (i.zero.isSome, i.size, i.bytes)) = some (true, 11, 160) := by kernel_rfl
set_option maxRecDepth 100000 in
set_option maxHeartbeats 1000000 in
theorem clone_any (w : World) (b off c : Nat) (l : List Kv) (hs : SlAt 11 kvC (fun _ _ => True) w ⟨some ⟨b, off, none⟩, l.length, c⟩ l) (hl : l.length ≤ 1000) :
    Calls Try.prog 51 #[.slice (some ⟨b, off, none⟩) l.length c] w fun e w' => ∃ g cap, e = .returned (.slice (some ⟨g, 0, none⟩) l.length cap) ∧ w.heap.size ≤ g ∧ g < w'.heap.size ∧ HoldsK kvC 11 w' g 0 l.toArray ∧ Below w.heap.size w w' := by
  have hi := info_kv
  cases h0 : Try.prog.info? 44 with
  | none => rw [h0] at hi; cases hi
  | some i0 =>
    rw [h0] at hi
    simp only [Option.map_some, Option.some.injEq, Prod.mk.injEq] at hi
    obtain ⟨z0, z1, z2⟩ := hi
    obtain ⟨z, hz⟩ := Option.isSome_iff_exists.1 z0
    have hzs : z.cells.size = 11 := by
      have h : (Try.prog.info? 44).bind (fun i => i.zero.map (fun z => z.cells.size)) = some 11 := by kernel_rfl
      rw [h0] at h
      simp only [Option.bind_some, hz, Option.map_some, Option.some.injEq] at h
      exact h
    have H := AnyE.slices_Clone Try.cloneKv i0 z 11 160 h0 hz z1 z2 hzs (by decide) Try.sizeOf44 b off l.length c (l.flatMap kvC) w (flat_len l) (by unfold maxLen; omega) (by omega)
      (fun j u hu => by
        have hj : j < l.length * 11 := by
          rcases Nat.lt_or_ge j (l.flatMap kvC).length with h | h
          · rwa [flat_len] at h
          · rw [List.getElem?_eq_none h] at hu; cases hu
        obtain ⟨a, ha, hel⟩ := hs.2.2.2 (by omega)
        injection ha with ha
        subst ha
        obtain ⟨he, _⟩ := hel (j / 11) (by omega)
        have h := he (j % 11) (by omega)
        have hf := flat_get l (j / 11) (j % 11) (by omega) (by omega)
        rw [show j / 11 * 11 + j % 11 = j by omega, hu] at hf
        rw [← hf] at h
        rw [← h]
        congr 1
        unfold Addr.add
        by_cases h1 : j / 11 * 11 = 0
        · rw [if_pos h1]
          by_cases h2 : j % 11 = 0
          · rw [if_pos h2]; simp only [Addr.mk.injEq, true_and, and_true]; omega
          · rw [if_neg h2]; simp only [Addr.mk.injEq, true_and, and_true]; omega
        · rw [if_neg h1]
          by_cases h2 : j % 11 = 0
          · rw [if_pos h2]; simp only [Addr.mk.injEq, true_and, and_true]; omega
          · rw [if_neg h2]; simp only [Addr.mk.injEq, true_and, and_true]; omega)
      (flat_one l)
    change Calls Try.prog 51 _ _ _ at H
    refine H.mono ?_
    rintro e w' ⟨v', rfl, ho, hne, hb⟩
    obtain ⟨hlen, ⟨rfl, _⟩ | ⟨g, cap, cur, rfl, hg, hh, hnc, hcm, hcs, htk⟩⟩ := ho
    · exact absurd rfl hne
    · refine ⟨g, cap, rfl, hg, (Array.getElem?_eq_some_iff.1 hh).1, fun j hj => ?_, hb⟩
      rw [size_flatK] at hj
      have hj' : j < l.length * 11 := by simpa using hj
      refine ⟨?_, by simp [World.frozen?, hh]⟩
      rw [Nat.zero_add, cell_of_row w' g j cur _ (0, 0) hh]
      have h1 := flat_lt l j hj'
      rw [← htk, List.getElem?_take, if_pos (by omega)] at h1
      rw [get_flatK _ _ _ _ hj]
      simpa using h1
end Go.Proofs.Ytdogokcoobpgdaa
namespace Go.Proofs.Ytdogokcoobpgdaa
open Go.RowKit Go.Proofs.YtdogokcoobpgdaaW.PrintWords Go.Proofs.YtdogokcoobpgdaaW.PrintLast Go.Proofs.YtdogokcoobpgdaaW.PrintMore
open Go.Sort hiding Below

theorem str_toList {t s : ByteArray} (h : t.toList = s.toList) : t = s := by
  rw [ByteArray.toList_eq, ByteArray.toList_eq] at h
  exact ByteArray.ext (Array.toList_inj.mp h)
theorem dup_hit {l : List Kv} {d : Array Kv} (hp : d.toList.Perm l) {m : Nat} (h : m + 1 < d.size) (e : (d[m + 1]!).key = (d[m]!).key) : dupK l = true := by
  unfold dupK
  rw [show decide ((l.map kb).Nodup) = decide ((d.toList.map kb).Nodup) from decide_eq_decide.2 (hp.map kb).nodup_iff.symm]
  simp only [Bool.not_eq_true', decide_eq_false_iff_not]
  intro hn
  rw [List.nodup_iff_pairwise_ne, List.pairwise_iff_getElem] at hn
  refine hn m (m + 1) (by simp; omega) (by simpa using h) (by omega) ?_
  rw [getElem!_pos d (m + 1) h, getElem!_pos d m (by omega)] at e
  simp only [List.getElem_map, Array.getElem_toList, kb, e]
theorem dup_end {l : List Kv} {d : Array Kv} (hp : d.toList.Perm l) (hs : SortedIn (ltOf cfK) 0 d.size d) (h : ∀ m, m + 1 < d.size → ¬ (d[m + 1]!).key = (d[m]!).key) : dupK l = false := by
  unfold dupK
  rw [show decide ((l.map kb).Nodup) = decide ((d.toList.map kb).Nodup) from decide_eq_decide.2 (hp.map kb).nodup_iff.symm]
  simp only [Bool.not_eq_false', decide_eq_true_eq]
  rw [dup_adj]
  · intro i hi e
    simp only [List.length_map, Array.length_toList] at hi
    apply h i hi
    rw [getElem!_pos d (i + 1) hi, getElem!_pos d i (by omega)]
    simp only [List.getElem_map, Array.getElem_toList, kb] at e
    have h1 : (d[i + 1]).key.data = (d[i]).key.data := Array.toList_inj.1 e
    rcases hk1 : (d[i + 1]).key with ⟨k1⟩
    rcases hk2 : (d[i]).key with ⟨k2⟩
    rw [hk1, hk2] at h1
    exact congrArg ByteArray.mk h1
  · intro i j hi hj
    simp only [List.length_map, Array.length_toList] at hj
    have h1 := hs i j (Nat.zero_le _) hi hj
    rw [getElem!_pos d j hj, getElem!_pos d i (by omega)] at h1
    unfold ltOf cfK at h1
    simp only [decide_eq_false_iff_not] at h1
    simp only [List.getElem_map, Array.getElem_toList]
    omega
set_option maxHeartbeats 2000000 in
set_option maxRecDepth 100000 in
theorem twice_any (w : World) (s : Sl) (l : List Kv) (hs : SlAt 11 kvC (fun _ _ => True) w s l) (hp : ∀ a, s.a = some a → a.spot = none) (hl : l.length ≤ 1000) :
    Calls Try.prog 42 #[s.v] w fun e w' => e = .returned (.bool (dupK l)) ∧ Below w.heap.size w w' := by
  obtain ⟨sa, sn, sc⟩ := s
  obtain rfl : sn = l.length := hs.1
  have HB := Aside0.mk (Below.refl w.heap.size w)
  unfold Sl.v
  cases sa with
  | none =>
    have h0 : l = [] := by
      rcases Nat.eq_zero_or_pos l.length with h | h
      · exact List.length_eq_zero_iff.1 h
      · obtain ⟨a, ha, _⟩ := hs.2.2.2 h; cases ha
    subst h0
    have H1 := fun W => AnyE.slices_Clone_nil Try.cloneKv ([] : List Kv).length sc W
    change ∀ W, Calls Try.prog 51 _ _ _ at H1
    have H2 := fun W => AnyF.slices_SortFunc_none Try.sortKv none 0 (.func (.func 53) #[] #[]) W
    change ∀ W, Calls Try.prog 52 _ _ _ at H2
    clear hs hp
    go_enter Try.func42, Try.ntmps42
    go_wp2_with (first
      | (go_at_call 51; refine (H1 _).mono ?_; rintro e w1 ⟨rfl, hw1⟩; subst w1)
      | (go_at_call 52; refine (H2 _).mono ?_; rintro e w1 ⟨rfl, hw1⟩; subst w1))
    go_loopw [3] (fun v3 w' => v3 = .int .i64 1 ∧ Aside0 (Below w.heap.size w w')) (fun _ _ => 0)
    case atStart => exact ⟨rfl, HB⟩
    case round =>
      clear HB
      obtain ⟨rfl, HB⟩ := hrel
      go_wp2_with fail
      go_ret
      exact ⟨rfl, HB.out⟩
  | some a =>
    obtain ⟨b, off, spot⟩ := a
    obtain rfl : spot = none := hp _ rfl
    have H1 := clone_any w b off sc l hs hl
    have HC := Aside0.mk H1
    clear hs hp H1
    go_enter Try.func42, Try.ntmps42
    go_wp2_with (first
      | (go_at_call 51; refine HC.out.mono ?_; rintro e w1 ⟨g, cap, rfl, hg, hg2, hH, hb⟩; have HB1 := Aside0.mk hb; have HG := Aside0.mk (And.intro hg hg2); have HH := Aside0.mk hH; clear hg hg2 hH hb))
    have hcon := AnyQ.slices_SortFunc Try.sortKv 11 Try.isAgg44 Try.sizeOf44 kvC (fun _ => rfl) kv_one cfK (cb_swo kb) 53 #[] g 0 cap l.toArray w1 (enters_of Try.func53 (by kernel_rfl) rfl) (cmpLays g 0 l.toArray.size w1) HH.out HG.out.2 (by simp; omega)
    change Calls Try.prog 52 _ _ _ at hcon
    rw [show l.toArray.size = l.length from by simp] at hcon
    have HCN := Aside0.mk hcon
    clear hcon HB
    go_wp2_with (first
      | (go_at_call 52
         refine HCN.out.mono ?_
         rintro e w2 ⟨rfl, d, n, os, hperm, hsort, hw2⟩
         have HHd : Aside0 (HoldsK kvC 11 w2 g 0 d) := ⟨by rw [hw2]; exact holdsK_sortWorldK_c _ _ w1 g 0 l.toArray d n os HH.out HG.out.2 hperm.1⟩
         have HB2 : Aside0 (Below w.heap.size w w2) := ⟨by rw [hw2]; exact Kp.below HB1.out (sort_kp w1 g 0 n d os) (fun k hk => by subst hk; exact HG.out.1)⟩
         have hd : d.size = l.length := by rw [hperm.1]; simp
         have HP : Aside0 (d.toList.Perm l) := ⟨by
           have h := hperm.2.2
           have ht : List.take l.length d.toList = d.toList := List.take_of_length_le (by simp; omega)
           simpa [ht] using h⟩
         have HS : Aside0 (SortedIn (ltOf cfK) 0 d.size d) := ⟨by rw [hd]; exact hsort⟩
         have HD := Aside0.mk hd
         clear hw2 hperm hsort HCN HH HB1 HC hd))
    obtain ⟨ad, had⟩ : ∃ ad : Addr, (⟨g, 0, none⟩ : Addr) = ad := ⟨_, rfl⟩
    have HAD := Aside0.mk had
    rw [had]
    clear had
    go_wp2_with fail
    go_loopw [3] (fun v3 w' => ∃ i : Nat, v3 = .int .i64 (i : Int) ∧ 1 ≤ i ∧ (i ≤ l.length ∨ i = 1) ∧ Aside0 (∀ m, m + 1 < i → ¬ (d[m + 1]!).key = (d[m]!).key) ∧ Aside0 (Drawn0 w2 w')) (fun v3 _ => l.length - (intOf v3).toNat)
    case atStart => exact ⟨1, rfl, Nat.le_refl _, .inr rfl, ⟨fun m h => by omega⟩, ⟨Drawn0.refl _⟩⟩
    case round =>
      obtain ⟨i, rfl, hi1, hi2, HN, HDW⟩ := hrel
      by_cases hlt : i < l.length
      · obtain ⟨m, hm⟩ : ∃ m : Nat, i = m + 1 := ⟨i - 1, by omega⟩
        have hml : m < l.length := by omega
        have hm2 : (i : Int) - 1 = (m : Int) := by omega
        have hx : wr.cell? (ad.add (i * 11)) = some (.string (d[i]!).key) := pw_cell_below HDW.out.below (by
          have h := (HHd.out.cell (i := i) (c := 0) (by rw [HD.out]; exact hlt) (by decide)).1
          have e : ad.add (i * 11) = ⟨g, 0 + i * 11 + 0, none⟩ := by
            rw [← HAD.out]
            unfold Addr.add; by_cases h0 : i * 11 = 0
            · rw [if_pos h0]; simp <;> omega
            · rw [if_neg h0]; simp
          rw [e, h]
          rfl)
        have hy : wr.cell? (ad.add (m * 11)) = some (.string (d[m]!).key) := pw_cell_below HDW.out.below (by
          have h := (HHd.out.cell (i := m) (c := 0) (by rw [HD.out]; exact hml) (by decide)).1
          have e : ad.add (m * 11) = ⟨g, 0 + m * 11 + 0, none⟩ := by
            rw [← HAD.out]
            unfold Addr.add; by_cases h0 : m * 11 = 0
            · rw [if_pos h0]; simp <;> omega
            · rw [if_neg h0]; simp
          rw [e, h]
          rfl)
        have hm0 : (0 : Int) ≤ (m : Int) := by omega
        have hi0 : (0 : Int) ≤ (i : Int) := by omega
        have hml2 : (m : Int) < (l.length : Int) := by omega
        have hlt2 : (i : Int) < (l.length : Int) := by omega
        by_cases heq : (d[i]!).key = (d[m]!).key
        · have HEQ : Aside0 (dupK l = true) := ⟨dup_hit HP.out (m := m) (by rw [HD.out]; omega) (by rw [← hm]; exact heq)⟩
          rw [heq] at hx
          generalize (d[m]!).key = k1 at *
          clear heq hm
          go_wp2_with fail
          go_region
          go_wp2_with fail
          go_ret
          exact ⟨by rw [HEQ.out]; rfl, HB2.out.trans ((HDW.out.step 1).below.mono HB2.out.size)⟩
        · have hn1 : ¬ (d[i]!).key.toList = (d[m]!).key.toList := fun e => heq (str_toList e)
          have HNN : Aside0 (∀ k, k + 1 < i + 1 → ¬ (d[k + 1]!).key = (d[k]!).key) := ⟨fun k hk => by
            by_cases h : k + 1 < i
            · exact HN.out k h
            · obtain rfl : k = m := by omega
              rw [← hm]; exact heq⟩
          generalize (d[m]!).key = k1 at hn1 heq hy
          generalize (d[i]!).key = k2 at hn1 heq hx
          have hn2 : (k2.toList == k1.toList) = false := by rw [beq_eq_false_iff_ne]; exact hn1
          clear hm HN heq
          go_wp2_with fail
          go_region
          go_wp2_with fail
          go_roundw
          case rel => exact ⟨i + 1, by go_num, by omega, .inl (by omega), HNN, ⟨HDW.out.step 1⟩⟩
          case measure => simp [intOf]; omega
      · have HF : Aside0 (dupK l = false) := ⟨dup_end HP.out HS.out (fun m hm => HN.out m (by rw [HD.out] at hm; omega))⟩
        go_wp2_with fail
        go_ret
        exact ⟨by rw [HF.out]; rfl, HB2.out.trans (HDW.out.below.mono HB2.out.size)⟩
end Go.Proofs.Ytdogokcoobpgdaa
