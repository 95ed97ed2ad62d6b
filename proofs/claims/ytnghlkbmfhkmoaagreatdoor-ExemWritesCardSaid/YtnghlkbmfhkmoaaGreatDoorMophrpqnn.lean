import Derived.Test.YtnghlkbmfhkmoaaGreatDoorMqazhvmzc
import Derived.Test.YtnghlkbmfhkmoaaGreatDoorMmmsfdqrm
import Derived.Test.YtnghlkbmfhkmoaaGreatDoorMbhwgezqr
import Derived.Test.YtnghlkbmfhkmoaaGreatDoorMawrohoxn
import Derived.Test.YtnghlkbmfhkmoaaGreatDoorProg
import Derived.WalkKit
import Derived.Deep.QuietTactic
import Derived.BigQuiet
import Derived.LoopTactic
namespace Go.Proofs.YtnghlkbmfhkmoaaGreatDoor
open Go.RowKit Hy
/-! ### what may be -/
/-- Has a table (numbers times 8 and types) a record? -/
def tkn (T : List Nat) (n t : Nat) : Bool := T.any fun k => k / 8 == n && k % 8 == t
def restB (T : List Nat) (d : Int) (s : ByteArray) : Bool := match recsL d.toNat (bs s) with
  | none => false
  | some L => L.all fun R => !tkn T R.num R.type
def tbE : List Nat := [17, 25, 34, 42, 49, 58]
def tbV : List Nat := [10, 16, 24, 33, 42, 50, 58]
def tbL : List Nat := [10]
def tbK : List Nat := [10, 18]
def emB (s : ByteArray) : Bool := s.toList == []
def nestB (x : Vl) : Bool := decide (x.l.len = 0) && (decide (x.m.len = 0) && emB x.inner)
def plainB (x : Vl) : Bool := decide (x.n = 0) && (!x.b && nestB x)
/-- Are the parts zero that a kind does not name? -/
def bareB (x : Vl) : Bool :=
  if x.kind = 1 then vld (bs x.s) && plainB x
  else if x.kind = 7 then plainB x
  else if x.kind = 2 then emB x.s && (decide (x.n = 0) && nestB x)
  else if x.kind = 3 ∨ x.kind = 4 then emB x.s && (!x.b && nestB x)
  else if x.kind = 0 then emB x.s && (decide (x.n = 0) && (!x.b && nestB x))
  else if x.kind = 5 then emB x.s && (decide (x.n = 0) && (!x.b && decide (x.m.len = 0)))
  else if x.kind = 6 then emB x.s && (decide (x.n = 0) && (!x.b && decide (x.l.len = 0)))
  else false
def zeroB (x : Vl) : Bool := decide (x.kind = 0) && (emB x.s && (!x.b && (decide (x.n = 0) && (emB x.inner && (emB x.unk && (decide (x.l.len = 0) && decide (x.m.len = 0)))))))
def mayK (g : Int → Vl → Bool) (d : Int) (y : Kv) : Bool := decide (0 ≤ d) && (vld (bs y.key) && (restB tbK d y.unk && (if y.has then g (d - 1) y.v else zeroB y.v)))
/-- May a value be at a depth? f: how deep it is read. -/
noncomputable def mayV (W : World) : Nat → Int → Vl → Bool
  | 0, _, _ => false
  | f + 1, d, x => decide (0 ≤ d) && (bareB x && (restB tbV d x.unk && (if x.kind = 5 ∨ x.kind = 6 then decide (1 ≤ d) && (restB tbL (d - 1) x.inner && ((vls W x.l).all (mayV W f (d - 2)) && (kvs W x.m).all (mayK (mayV W f) (d - 2)))) else true)))
/-! ### bytes -/
/-- A text, or a part, as a record. -/
def putB (n : Int) (s : ByteArray) : ByteArray := recB n 2 (put (s.size : Int) ++ s)
def catB {α : Type} (f : α → ByteArray) (l : List α) : ByteArray := l.foldl (fun s x => s ++ f x) ⟨#[]⟩
def keyB (g : Vl → ByteArray) (y : Kv) : ByteArray := (whenB (!emB y.key) (putB 1 y.key) ++ whenB y.has (putB 2 (g y.v))) ++ y.unk
def kindB (x : Vl) (L M : ByteArray) : ByteArray :=
  if x.kind = 1 ∨ x.kind = 7 then putB x.kind x.s
  else if x.kind = 2 then recB 2 0 (put (if x.b then 1 else x.n))
  else if x.kind = 3 then recB 3 0 (put x.n)
  else if x.kind = 4 then recB 4 1 (st (leL 8 x.n.toNat))
  else if x.kind = 5 then putB 5 (L ++ x.inner)
  else if x.kind = 6 then putB 6 (M ++ x.inner)
  else ⟨#[]⟩
noncomputable def bytV (W : World) : Nat → Vl → ByteArray
  | 0, _ => ⟨#[]⟩
  | f + 1, x => kindB x (catB (fun y => putB 1 (bytV W f y)) (vls W x.l)) (catB (fun y => putB 1 (keyB (bytV W f) y)) (kvs W x.m)) ++ x.unk
theorem catB_snoc {α : Type} (f : α → ByteArray) (l : List α) (x : α) : catB f (l ++ [x]) = catB f l ++ f x := by
  unfold catB
  rw [List.foldl_append]
  rfl
theorem catB_next {α : Type} (f : α → ByteArray) (l : List α) (i : Nat) (x : α) (h : l[i]? = some x) : catB f (l.take (i + 1)) = catB f (l.take i) ++ f x := by
  rw [List.take_add_one, h]
  exact catB_snoc f _ x
theorem catB_all {α : Type} (f : α → ByteArray) (l : List α) (i : Nat) (h : l.length ≤ i) : catB f (l.take i) = catB f l := by rw [List.take_of_length_le h]
theorem catB_size {α : Type} (f : α → ByteArray) (g : α → Nat) : ∀ l : List α, (∀ x ∈ l, (f x).size ≤ g x) → (catB f l).size ≤ (l.map g).sum := by
  intro l
  unfold catB
  suffices h : ∀ (l : List α) (s : ByteArray), (∀ x ∈ l, (f x).size ≤ g x) → (l.foldl (fun s x => s ++ f x) s).size ≤ s.size + (l.map g).sum by
    intro hl
    have := h l ⟨#[]⟩ hl
    have z : (⟨#[]⟩ : ByteArray).size = 0 := rfl
    omega
  intro l
  induction l with
  | nil => intro s _; simp
  | cons a l ih =>
    intro s hl
    have h1 := ih (s ++ f a) (fun x hx => hl x (List.mem_cons_of_mem _ hx))
    have h2 := hl a List.mem_cons_self
    rw [ByteArray.size_append] at h1
    simp only [List.foldl_cons, List.map_cons, List.sum_cons]
    omega
theorem recB_le (n k : Int) (s : ByteArray) : (recB n k s).size ≤ s.size + 10 := by
  unfold recB
  split
  · exact Nat.zero_le _
  · rw [ByteArray.size_append, put_size]
    have := putL_len10 (n * 8 + k).toNat (by omega)
    omega
theorem whenB_le (b : Bool) (s : ByteArray) : (whenB b s).size ≤ s.size := by
  cases b
  · exact Nat.zero_le _
  · exact Nat.le_refl _
theorem putB_le (n : Int) (s : ByteArray) (h : s.size ≤ 100000000) : (putB n s).size ≤ s.size + 20 := by
  unfold putB
  refine Nat.le_trans (recB_le _ _ _) ?_
  rw [ByteArray.size_append, put_size]
  have := putL_len10 (s.size : Int).toNat (by omega)
  omega
theorem put_le (n : Int) (h : n < 18446744073709551616) : (put n).size ≤ 10 := by
  rw [put_size]
  exact putL_len10 _ (by omega)
/-! ### read, and little -/
def SmV (W : World) (f : Nat) (x : Vl) : Prop := FinV W f x ∧ wtV W f x ≤ 12000
structure SmK (W : World) (f : Nat) (y : Kv) : Prop where
  key : y.key.size ≤ 12000
  unk : y.unk.size ≤ 12000
  v : SmV W f y.v
theorem sum_mem {α : Type} {g : α → Nat} {l : List α} {x : α} (h : x ∈ l) : g x ≤ (l.map g).sum := by
  induction l with
  | nil => cases h
  | cons a l ih =>
    rw [List.map_cons, List.sum_cons]
    rcases List.mem_cons.1 h with rfl | h
    · omega
    · have := ih h; omega
theorem SmK.of {W : World} {f : Nat} {l : List Kv} (hf : ∀ y ∈ l, FinV W f y.v) (hw : (l.map (kw W f)).sum ≤ 12000) : ∀ y ∈ l, SmK W f y := by
  intro y hy
  have h1 := sum_mem (g := kw W f) hy
  have h2 : kw W f y = 40 + y.key.size + y.unk.size + wtV W f y.v := rfl
  exact ⟨by omega, by omega, hf y hy, by omega⟩
theorem SmV.of {W : World} {f : Nat} {x : Vl} (h : SmV W (f + 1) x) : x.s.size ≤ 12000 ∧ x.inner.size ≤ 12000 ∧ x.unk.size ≤ 12000 ∧ (∀ y ∈ vls W x.l, SmV W f y) ∧ (∀ y ∈ kvs W x.m, SmK W f y) := by
  obtain ⟨hf, hw⟩ := h
  rw [wtV_succ] at hw
  refine ⟨by omega, by omega, by omega, fun y hy => ⟨hf.1 y hy, ?_⟩, SmK.of hf.2 (by omega)⟩
  have := sum_mem (g := wtV W f) hy
  omega
theorem keyB_le {W : World} {f : Nat} {y : Kv} (h : SmK W f y) (hv : (bytV W f y.v).size + 20 ≤ wtV W f y.v) : (keyB (bytV W f) y).size + 20 ≤ kw W f y := by
  unfold keyB kw
  have h1 := whenB_le (!emB y.key) (putB 1 y.key)
  have h2 := whenB_le y.has (putB 2 (bytV W f y.v))
  have h3 := putB_le 1 y.key (by have := h.key; omega)
  have h4 := putB_le 2 (bytV W f y.v) (by have := h.v.2; omega)
  rw [ByteArray.size_append, ByteArray.size_append]
  omega
theorem slAt_ok {α : Type} {k : Nat} {c : α → List Value} {ok : World → α → Prop} {W : World} {s : Sl} {l : List α} (h : SlAt k c ok W s l) : ∀ y ∈ l, ok W y := by
  intro y hy
  obtain ⟨j, hj, rfl⟩ := List.mem_iff_getElem.1 hy
  obtain ⟨a, _, hel⟩ := h.2.2.2 (by omega)
  exact (hel j hj).2
theorem VlOk.ls {W : World} {x : Vl} (h : VlOk W x) : ∀ y ∈ vls W x.l, VlOk W y := slAt_ok (vls_at h.l)
theorem VlOk.ms {W : World} {x : Vl} (h : VlOk W x) : ∀ y ∈ kvs W x.m, KvOk W y := slAt_ok (kvs_at h.m)
theorem kindB_le {x : Vl} {L M : ByteArray} (hn : x.n < 18446744073709551616) (hs : x.s.size ≤ 12000) (hi : x.inner.size ≤ 12000) (hL : L.size ≤ 12000) (hM : M.size ≤ 12000) : (kindB x L M).size ≤ 20 + x.s.size + x.inner.size + L.size + M.size := by
  unfold kindB
  split
  · have := putB_le x.kind x.s (by omega); omega
  split
  · have h1 := recB_le 2 0 (put (if x.b then 1 else x.n))
    have h2 := put_le (if x.b then 1 else x.n) (by split <;> omega)
    omega
  split
  · have h1 := recB_le 3 0 (put x.n)
    have h2 := put_le x.n hn
    omega
  split
  · have h1 := recB_le 4 1 (st (leL 8 x.n.toNat))
    rw [st_size, leL_length] at h1
    omega
  split
  · have h1 := putB_le 5 (L ++ x.inner) (by rw [ByteArray.size_append]; omega)
    rw [ByteArray.size_append] at h1
    omega
  split
  · have h1 := putB_le 6 (M ++ x.inner) (by rw [ByteArray.size_append]; omega)
    rw [ByteArray.size_append] at h1
    omega
  · exact Nat.zero_le _
theorem bytV_le (W : World) : ∀ (f : Nat) (x : Vl), VlOk W x → SmV W f x → (bytV W f x).size + 20 ≤ wtV W f x := by
  intro f
  induction f with
  | zero => intro x _ h; exact h.1.elim
  | succ f ih =>
    intro x ho h
    obtain ⟨h1, h2, h3, h4, h5⟩ := h.of
    have hw := h.2
    rw [wtV_succ] at hw ⊢
    have hL : (catB (fun y => putB 1 (bytV W f y)) (vls W x.l)).size ≤ ((vls W x.l).map (wtV W f)).sum := catB_size _ _ _ (fun y hy => by
      have e1 := ih y (ho.ls y hy) (h4 y hy)
      have e2 := (h4 y hy).2
      have e3 := putB_le 1 (bytV W f y) (by omega)
      omega)
    have hM : (catB (fun y => putB 1 (keyB (bytV W f) y)) (kvs W x.m)).size ≤ ((kvs W x.m).map (kw W f)).sum := catB_size _ _ _ (fun y hy => by
      have e1 := keyB_le (h5 y hy) (ih y.v (ho.ms y hy).v (h5 y hy).v)
      have e2 := sum_mem (g := kw W f) hy
      have e3 := putB_le 1 (keyB (bytV W f) y) (by omega)
      omega)
    have hk := kindB_le (x := x) ho.n.2 h1 h2 (L := catB (fun y => putB 1 (bytV W f y)) (vls W x.l)) (M := catB (fun y => putB 1 (keyB (bytV W f) y)) (kvs W x.m)) (by omega) (by omega)
    show (kindB x _ _ ++ x.unk).size + 20 ≤ _
    rw [ByteArray.size_append]
    omega
theorem keysB_le (W : World) (f : Nat) (l : List Kv) (ho : ∀ y ∈ l, KvOk W y) (hs : ∀ y ∈ l, SmK W f y) (n : Int) : (catB (fun y => putB n (keyB (bytV W f) y)) l).size ≤ (l.map (kw W f)).sum := catB_size _ _ _ (fun y hy => by
  have e1 := keyB_le (hs y hy) (bytV_le W f y.v (ho y hy).v (hs y hy).v)
  have e2 := (hs y hy).v.2
  have e4 := (hs y hy).key
  have e5 := (hs y hy).unk
  have e6 : kw W f y = 40 + y.key.size + y.unk.size + wtV W f y.v := rfl
  have e3 := putB_le n (keyB (bytV W f) y) (by omega)
  omega)
end Go.Proofs.YtnghlkbmfhkmoaaGreatDoor
namespace Go.Proofs.YtnghlkbmfhkmoaaGreatDoor
open Go.RowKit Go.Proofs.YtnghlkbmfhkmoaaGreatDoorW.PrintWords Go.Proofs.YtnghlkbmfhkmoaaGreatDoorW.PrintLast Go.Proofs.YtnghlkbmfhkmoaaGreatDoorW.PrintMore Hy
/-! ### alike with none -/
set_option maxHeartbeats 4000000 in
set_option maxRecDepth 100000 in
theorem eqfz_V (w : World) (s : Sl) : Calls Tryz.prog 81 #[s.v, .slice none 0 0, .func (.func 62) #[] #[]] w fun e w' => e = .returned (.bool (decide (s.len = 0))) ∧ Below w.heap.size w w' := by
  obtain ⟨sa, sn, sc⟩ := s
  unfold Sl.v
  by_cases h : sn = 0
  · subst h
    go_enter Tryz.func81, Tryz.ntmps81
    go_wp2_with fail
    go_loopw [17] (fun v17 w' => v17 = .int .i64 0 ∧ w' = w) (fun _ _ => 0)
    case atStart => exact ⟨rfl, rfl⟩
    case round =>
      obtain ⟨rfl, rfl⟩ := hrel
      go_wp2_with fail
      go_ret
      exact ⟨rfl, Below.refl _ _⟩
  · have hne3 : ¬ (sn : Int) = 0 := by omega
    have hne2 : ((sn : Int) == 0) = false := by rw [beq_eq_false_iff_ne]; exact hne3
    have HN := Aside0.mk h
    clear h
    go_enter Tryz.func81, Tryz.ntmps81
    go_wp2_with fail
    go_ret
    exact ⟨by rw [decide_eq_false HN.out]; rfl, Below.refl _ _⟩
set_option maxHeartbeats 4000000 in
set_option maxRecDepth 100000 in
theorem eqfz_K (w : World) (s : Sl) : Calls Tryz.prog 40 #[s.v, .slice none 0 0, .func (.func 41) #[] #[]] w fun e w' => e = .returned (.bool (decide (s.len = 0))) ∧ Below w.heap.size w w' := by
  obtain ⟨sa, sn, sc⟩ := s
  unfold Sl.v
  by_cases h : sn = 0
  · subst h
    go_enter Tryz.func40, Tryz.ntmps40
    go_wp2_with fail
    go_loopw [17] (fun v17 w' => v17 = .int .i64 0 ∧ w' = w) (fun _ _ => 0)
    case atStart => exact ⟨rfl, rfl⟩
    case round =>
      obtain ⟨rfl, rfl⟩ := hrel
      go_wp2_with fail
      go_ret
      exact ⟨rfl, Below.refl _ _⟩
  · have hne3 : ¬ (sn : Int) = 0 := by omega
    have hne2 : ((sn : Int) == 0) = false := by rw [beq_eq_false_iff_ne]; exact hne3
    have HN := Aside0.mk h
    clear h
    go_enter Tryz.func40, Tryz.ntmps40
    go_wp2_with fail
    go_ret
    exact ⟨by rw [decide_eq_false HN.out]; rfl, Below.refl _ _⟩
theorem skeysz_any (w : World) (s : Sl) : Calls Tryz.prog 16 #[s.v, .slice none 0 0] w fun e w' => e = .returned (.bool (decide (s.len = 0))) ∧ Below w.heap.size w w' := by
  have H := Aside0.mk (eqfz_K w s)
  generalize decide (s.len = 0) = r at *
  unfold Sl.v at *
  go_enter Tryz.func16, Tryz.ntmps16
  go_wp2_with (go_at_call 40; with_reducible refine H.out.mono ?_; rintro e w2 ⟨rfl, hb⟩; have HB := Aside0.mk hb; clear hb)
  go_ret
  exact ⟨rfl, HB.out⟩
def zV : Vl := ⟨0, ⟨#[]⟩, false, 0, ⟨none, 0, 0⟩, ⟨none, 0, 0⟩, ⟨#[]⟩, ⟨#[]⟩⟩
theorem stB_em (s : ByteArray) : stB s ⟨#[]⟩ = emB s := by
  unfold stB emB
  rw [show (⟨#[]⟩ : ByteArray).toList = [] by rw [ByteArray.toList_eq]]
theorem samez_any (w : World) (x : Vl) : Calls Tryz.prog 62 #[.agg (vlC x).toArray, .agg (vlC zV).toArray] w fun e w' => e = .returned (.bool (zeroB x)) ∧ Below w.heap.size w w' := by
  have h := sval_any w x zV (decide (x.l.len = 0)) (fun w2 _ => eqfz_V w2 x.l) (decide (x.m.len = 0)) (fun w2 _ => skeysz_any w2 x.m)
  refine h.mono ?_
  rintro e w' ⟨rfl, hb⟩
  refine ⟨?_, hb⟩
  unfold zeroB zV
  simp only [stB_em, Bool.and_assoc]
  cases x.b <;> rfl
end Go.Proofs.YtnghlkbmfhkmoaaGreatDoor
namespace Go.Proofs.YtnghlkbmfhkmoaaGreatDoor
open Go.RowKit Go.Proofs.YtnghlkbmfhkmoaaGreatDoorW.PrintWords Hy
theorem follows_any (c : Nat) (w : World) : Calls Tryz.prog 120 #[.int .u8 (c : Int)] w fun e w' => e = .returned (.bool (fol c)) ∧ w' = w := by
  unfold fol
  by_cases h : 128 ≤ c
  · have h1 : (128 : Int) ≤ (c : Int) := by omega
    have h2 : decide ((c : Int) ≤ 191) = decide (c ≤ 191) := decide_eq_decide.2 (by omega)
    go_enter Tryz.func120, Tryz.ntmps120
    go_wp2
    go_ret
    exact ⟨by rw [decide_eq_true h, Bool.true_and, ← h2]; rfl, rfl⟩
  · have h1 : ¬ (128 : Int) ≤ (c : Int) := by omega
    go_enter Tryz.func120, Tryz.ntmps120
    go_wp2
    go_ret
    exact ⟨by simp, rfl⟩
def szcV (c : Nat) (w : World) (e : Ending) (w' : World) : Prop := e = .returned (.int .i64 ((szc c : Nat) : Int)) ∧ w' = w
set_option maxHeartbeats 1000000 in
theorem usize_any (c : Nat) (w : World) : Calls Tryz.prog 118 #[.int .u8 (c : Int)] w (szcV c w) := by
  have hz : ∀ n, szc c = n → ∀ W, ∀ e, e = .returned (.int .i64 (n : Int)) → szcV c W e W := by
    intro n hn W e he; subst hn; exact ⟨he, rfl⟩
  by_cases h1 : c > 244
  · have HZ := Aside0.mk (hz 0 (by unfold szc; rw [if_pos h1]))
    have g1 : (244 : Int) < (c : Int) := by omega
    clear hz h1
    go_enter Tryz.func118, Tryz.ntmps118
    go_wp2
    go_ret
    exact HZ.out _ _ rfl
  · have g1 : ¬ (244 : Int) < (c : Int) := by omega
    by_cases h2 : c < 128
    · have HZ := Aside0.mk (hz 1 (by unfold szc; rw [if_neg h1, if_neg (by omega), if_neg (by omega), if_neg (by omega), if_neg (by omega)]))
      have g2 : ¬ (128 : Int) ≤ (c : Int) := by omega
      have g4 : ¬ (240 : Int) ≤ (c : Int) := by omega
      have g5 : ¬ (224 : Int) ≤ (c : Int) := by omega
      have g6 : ¬ (194 : Int) ≤ (c : Int) := by omega
      clear hz h1 h2
      go_enter Tryz.func118, Tryz.ntmps118
      go_wp2
      go_ret
      exact HZ.out _ _ rfl
    · have g2 : (128 : Int) ≤ (c : Int) := by omega
      by_cases h3 : c < 194
      · have HZ := Aside0.mk (hz 0 (by unfold szc; rw [if_neg h1, if_pos (by omega)]))
        have g3 : (c : Int) < 194 := by omega
        clear hz h1 h2 h3
        go_enter Tryz.func118, Tryz.ntmps118
        go_wp2
        go_ret
        exact HZ.out _ _ rfl
      · have g3 : ¬ (c : Int) < 194 := by omega
        have g6 : (194 : Int) ≤ (c : Int) := by omega
        by_cases h4 : c ≥ 240
        · have HZ := Aside0.mk (hz 4 (by unfold szc; rw [if_neg h1, if_neg (by omega), if_pos h4]))
          have g4 : (240 : Int) ≤ (c : Int) := by omega
          clear hz h1 h2 h3 h4
          go_enter Tryz.func118, Tryz.ntmps118
          go_wp2
          go_ret
          exact HZ.out _ _ rfl
        · have g4 : ¬ (240 : Int) ≤ (c : Int) := by omega
          by_cases h5 : c ≥ 224
          · have HZ := Aside0.mk (hz 3 (by unfold szc; rw [if_neg h1, if_neg (by omega), if_neg h4, if_pos h5]))
            have g5 : (224 : Int) ≤ (c : Int) := by omega
            clear hz h1 h2 h3 h4 h5
            go_enter Tryz.func118, Tryz.ntmps118
            go_wp2
            go_ret
            exact HZ.out _ _ rfl
          · have HZ := Aside0.mk (hz 2 (by unfold szc; rw [if_neg h1, if_neg (by omega), if_neg h4, if_neg h5, if_pos (by omega)]))
            have g5 : ¬ (224 : Int) ≤ (c : Int) := by omega
            clear hz h1 h2 h3 h4 h5
            go_enter Tryz.func118, Tryz.ntmps118
            go_wp2
            go_ret
            exact HZ.out _ _ rfl
def secV (f c : Nat) (w : World) (e : Ending) (w' : World) : Prop := e = .returned (.bool (sec f c)) ∧ w' = w
theorem sec_one (f c : Nat) (_ : Int) (p : Bool) (hs : sec f c = (p && fol c)) : ∀ W e, e = .returned (.bool (p && fol c)) → secV f c W e W := fun _ _ he => ⟨by rw [he, hs], rfl⟩
set_option maxHeartbeats 1000000 in
theorem second_any (f c : Nat) (w : World) : Calls Tryz.prog 119 #[.int .u8 (f : Int), .int .u8 (c : Int)] w (secV f c w) := by
  have F := follows_any c
  by_cases h1 : f = 224
  · by_cases h : 160 ≤ c
    · have HZ := Aside0.mk (sec_one f c 0 true (by unfold sec; rw [if_pos h1, decide_eq_true h]))
      have g : (160 : Int) ≤ (c : Int) := by omega
      subst h1
      go_enter Tryz.func119, Tryz.ntmps119
      go_wp2_with (go_at_call 120; refine (F _).mono ?_; rintro e w' ⟨rfl, rfl⟩)
      go_ret
      exact HZ.out _ _ rfl
    · have HZ := Aside0.mk (sec_one f c 0 false (by unfold sec; rw [if_pos h1, decide_eq_false h]))
      have g : ¬ (160 : Int) ≤ (c : Int) := by omega
      subst h1
      go_enter Tryz.func119, Tryz.ntmps119
      go_wp2_with (go_at_call 120; refine (F _).mono ?_; rintro e w' ⟨rfl, rfl⟩)
      go_ret
      exact HZ.out _ _ rfl
  · have g1 : ((f : Int) == 224) = false := by rw [beq_eq_false_iff_ne]; omega
    by_cases h2 : f = 237
    · by_cases h : c ≤ 159
      · have HZ := Aside0.mk (sec_one f c 0 true (by unfold sec; rw [if_neg h1, if_pos h2, decide_eq_true h]))
        have g : (c : Int) ≤ 159 := by omega
        clear h1 g1
        subst h2
        go_enter Tryz.func119, Tryz.ntmps119
        go_wp2_with (go_at_call 120; refine (F _).mono ?_; rintro e w' ⟨rfl, rfl⟩)
        go_ret
        exact HZ.out _ _ rfl
      · have HZ := Aside0.mk (sec_one f c 0 false (by unfold sec; rw [if_neg h1, if_pos h2, decide_eq_false h]))
        have g : ¬ (c : Int) ≤ 159 := by omega
        clear h1 g1
        subst h2
        go_enter Tryz.func119, Tryz.ntmps119
        go_wp2_with (go_at_call 120; refine (F _).mono ?_; rintro e w' ⟨rfl, rfl⟩)
        go_ret
        exact HZ.out _ _ rfl
    · have g2 : ((f : Int) == 237) = false := by rw [beq_eq_false_iff_ne]; omega
      by_cases h3 : f = 240
      · by_cases h : 144 ≤ c
        · have HZ := Aside0.mk (sec_one f c 0 true (by unfold sec; rw [if_neg h1, if_neg h2, if_pos h3, decide_eq_true h]))
          have g : (144 : Int) ≤ (c : Int) := by omega
          clear h1 g1 h2 g2
          subst h3
          go_enter Tryz.func119, Tryz.ntmps119
          go_wp2_with (go_at_call 120; refine (F _).mono ?_; rintro e w' ⟨rfl, rfl⟩)
          go_ret
          exact HZ.out _ _ rfl
        · have HZ := Aside0.mk (sec_one f c 0 false (by unfold sec; rw [if_neg h1, if_neg h2, if_pos h3, decide_eq_false h]))
          have g : ¬ (144 : Int) ≤ (c : Int) := by omega
          clear h1 g1 h2 g2
          subst h3
          go_enter Tryz.func119, Tryz.ntmps119
          go_wp2_with (go_at_call 120; refine (F _).mono ?_; rintro e w' ⟨rfl, rfl⟩)
          go_ret
          exact HZ.out _ _ rfl
      · have g3 : ((f : Int) == 240) = false := by rw [beq_eq_false_iff_ne]; omega
        by_cases h4 : f = 244
        · by_cases h : c ≤ 143
          · have HZ := Aside0.mk (sec_one f c 0 true (by unfold sec; rw [if_neg h1, if_neg h2, if_neg h3, if_pos h4, decide_eq_true h]))
            have g : (c : Int) ≤ 143 := by omega
            clear h1 g1 h2 g2 h3 g3
            subst h4
            go_enter Tryz.func119, Tryz.ntmps119
            go_wp2_with (go_at_call 120; refine (F _).mono ?_; rintro e w' ⟨rfl, rfl⟩)
            go_ret
            exact HZ.out _ _ rfl
          · have HZ := Aside0.mk (sec_one f c 0 false (by unfold sec; rw [if_neg h1, if_neg h2, if_neg h3, if_pos h4, decide_eq_false h]))
            have g : ¬ (c : Int) ≤ 143 := by omega
            clear h1 g1 h2 g2 h3 g3
            subst h4
            go_enter Tryz.func119, Tryz.ntmps119
            go_wp2_with (go_at_call 120; refine (F _).mono ?_; rintro e w' ⟨rfl, rfl⟩)
            go_ret
            exact HZ.out _ _ rfl
        · have g4 : ((f : Int) == 244) = false := by rw [beq_eq_false_iff_ne]; omega
          have HZ := Aside0.mk (sec_one f c 0 true (by unfold sec; rw [if_neg h1, if_neg h2, if_neg h3, if_neg h4, Bool.true_and]))
          clear h1 h2 h3 h4
          go_enter Tryz.func119, Tryz.ntmps119
          go_wp2_with (go_at_call 120; refine (F _).mono ?_; rintro e w' ⟨rfl, rfl⟩)
          go_ret
          exact HZ.out _ _ (by simp)
end Go.Proofs.YtnghlkbmfhkmoaaGreatDoor
namespace Go.Proofs.YtnghlkbmfhkmoaaGreatDoor
open Go.RowKit Go.Proofs.YtnghlkbmfhkmoaaGreatDoorW.PrintWords Hy
def sgnV (s : ByteArray) (w : World) (e : Ending) (w' : World) : Prop := e = .returned (.int .i64 ((sgn (bs s) : Nat) : Int)) ∧ Drawn0 w w'
theorem drawnN {w : World} (n : Nat) : Drawn0 w (w.drewN n) := ⟨n, rfl⟩
set_option maxHeartbeats 4000000 in
theorem sign_any (s : ByteArray) (w : World) (h0 : 0 < s.size) (hs : s.size ≤ 140737488351232) :
    Calls Tryz.prog 115 #[.string s] w (sgnV s w) := by
  have hlen := bs_length s
  have hz : ∀ n, sgn (bs s) = n → ∀ W, Drawn0 w W → ∀ e, e = .returned (.int .i64 (n : Int)) → sgnV s w e W := by
    intro n hn W hW e he; subst hn; exact ⟨he, hW⟩
  have hg0 := get_bs s 0 h0
  have hA := usize_any s[0].toNat
  unfold szcV at hA
  rw [hg0] at hA
  by_cases h1 : szc ((bs s).getD 0 0) ≤ 1
  · have HZ := Aside0.mk (hz _ (sgn_small (bs s) (by omega) h1))
    rcases (by omega : szc ((bs s).getD 0 0) = 0 ∨ szc ((bs s).getD 0 0) = 1) with h2 | h2
    · rw [h2] at hA HZ
      rw [← hg0] at hA
      have hb1 : decide ((s.size : Int) < 0) = false := by simp
      clear hz hg0 h1 h2 hlen
      go_enter Tryz.func115, Tryz.ntmps115
      go_wp2_with (go_at_call 118; refine (hA _).mono ?_; rintro e w' ⟨rfl, hw'⟩; subst w')
      go_quiet (fail)
      go_wp2
      go_loopw [4] (fun v4 w' => v4 = .int .i64 2 ∧ Drawn0 w w') (fun _ _ => 0)
      case atStart => exact ⟨rfl, drawnN _⟩
      case round =>
        obtain ⟨rfl, HD⟩ := hrel
        go_wp2
        go_ret
        exact HZ.out _ HD _ rfl
    · rw [h2] at hA HZ
      rw [← hg0] at hA
      have hb1 : decide ((s.size : Int) < 1) = false := by simp; omega
      clear hz hg0 h1 h2 hlen
      go_enter Tryz.func115, Tryz.ntmps115
      go_wp2_with (go_at_call 118; refine (hA _).mono ?_; rintro e w' ⟨rfl, hw'⟩; subst w')
      go_quiet (fail)
      go_wp2
      go_loopw [4] (fun v4 w' => v4 = .int .i64 2 ∧ Drawn0 w w') (fun _ _ => 0)
      case atStart => exact ⟨rfl, drawnN _⟩
      case round =>
        obtain ⟨rfl, HD⟩ := hrel
        go_wp2
        go_ret
        exact HZ.out _ HD _ rfl
  · obtain ⟨n, hn⟩ : ∃ n, szc ((bs s).getD 0 0) = n := ⟨_, rfl⟩
    rw [hn] at hA
    rw [← hg0] at hA
    have hn2 : 2 ≤ n := by omega
    have hn4 : n ≤ 4 := by rw [← hn]; exact szc_le _
    have hb2 : decide ((1 : Int) < (n : Int)) = true := by simp; omega
    have hn1 : (1 : Int) < (n : Int) := by omega
    by_cases h3 : s.size < n
    · have HZ := Aside0.mk (hz 0 (sgn_short _ (by omega)))
      have hb1 : decide ((s.size : Int) < (n : Int)) = true := by simp; omega
      have hb3 : (s.size : Int) < (n : Int) := by omega
      clear hz hg0 h1 hlen hn
      go_enter Tryz.func115, Tryz.ntmps115
      go_wp2_with (go_at_call 118; refine (hA _).mono ?_; rintro e w' ⟨rfl, hw'⟩; subst w')
      go_quiet (fail)
      go_wp2
      go_ret
      exact HZ.out _ (drawnN _) _ rfl
    · have hb1 : decide ((s.size : Int) < (n : Int)) = false := by simp; omega
      have hb3 : ¬ (s.size : Int) < (n : Int) := by omega
      have hs1 : 1 < s.size := by omega
      have hS := second_any s[0].toNat s[1].toNat
      unfold secV at hS
      have hg1 := get_bs s 1 hs1
      have hq1 : ((1 : Int) < (s.size : Int)) = True := eq_true (by omega)
      have hq2 : (1 < s.size) = True := eq_true (by omega)
      by_cases h4 : sec s[0].toNat s[1].toNat = true
      · rw [h4] at hS
        have HN := Aside0.mk hn
        have HS := Aside0.mk (show sec ((bs s).getD 0 0) ((bs s).getD 1 0) = true by rw [← hg0, ← hg1]; exact h4)
        have HZ := Aside0.mk hz
        clear hz hg0 h1 hlen hn h4 hg1
        go_enter Tryz.func115, Tryz.ntmps115
        go_wp2_with (go_at_call 118; refine (hA _).mono ?_; rintro e w' ⟨rfl, hw'⟩; subst w')
        go_quiet (first | (go_at_call 119; refine Calls.quiet_of_same (hS _)))
        go_wp2
        go_loopw [4] (fun v4 w' => ∃ j : Nat, v4 = .int .i64 (j : Int) ∧ 2 ≤ j ∧ j ≤ n ∧ Aside0 (∀ i, 2 ≤ i → i < j → fol ((bs s).getD i 0) = true) ∧ Drawn0 w w') (fun v4 _ => n - (intOf v4).toNat)
        case atStart => exact ⟨2, rfl, by omega, by omega, ⟨fun i h1 h2 => by omega⟩, drawnN _⟩
        case round =>
          obtain ⟨j, rfl, hj, hjn, HF, HD⟩ := hrel
          by_cases hlt : j < n
          · have hjs : j < s.size := by omega
            have hF := follows_any s[j].toNat
            have hgj := get_bs s j hjs
            have hlt2 : (j : Int) < (n : Int) := by omega
            by_cases h5 : fol s[j].toNat = true
            · rw [h5] at hF
              have HF2 : Aside0 (∀ i, 2 ≤ i → i < j + 1 → fol ((bs s).getD i 0) = true) := ⟨by
                intro i hi hi2
                by_cases e : i = j
                · subst e; rw [← hgj]; exact h5
                · exact HF.out i hi (by omega)⟩
              clear h5 hgj
              go_wp2_with (go_at_call 120; refine (hF _).mono ?_; rintro e w' ⟨rfl, hw'⟩; subst w')
              go_roundw
              case rel => exact ⟨j + 1, by go_num, by omega, by omega, HF2, HD⟩
              case measure => simp [intOf]; omega
            · rw [Bool.not_eq_true] at h5
              rw [h5] at hF
              have HZ2 := Aside0.mk (HZ.out 0 (sgn_fol _ j hj (by rw [HN.out]; exact hlt) (by rw [← hgj]; exact h5)))
              clear h5 hgj
              go_wp2_with (go_at_call 120; refine (hF _).mono ?_; rintro e w' ⟨rfl, hw'⟩; subst w')
              go_ret
              exact HZ2.out _ HD _ rfl
          · have hge : ¬ (j : Int) < (n : Int) := by omega
            have HZ2 := Aside0.mk (HZ.out n (by rw [← HN.out]; exact sgn_all _ (by rw [HN.out]; exact hn2) (by rw [HN.out, bs_length]; omega) HS.out (fun i h1 h2 => HF.out i h1 (by rw [HN.out] at h2; omega))))
            go_wp2
            go_ret
            exact HZ2.out _ HD _ rfl
      · rw [Bool.not_eq_true] at h4
        rw [h4] at hS
        have HZ := Aside0.mk (hz 0 (sgn_sec _ (by omega) (by rw [← hg0, ← hg1]; exact h4)))
        clear hz hg0 h1 hlen hn h4 hg1
        go_enter Tryz.func115, Tryz.ntmps115
        go_wp2_with (go_at_call 118; refine (hA _).mono ?_; rintro e w' ⟨rfl, hw'⟩; subst w')
        go_quiet (first | (go_at_call 119; refine Calls.quiet_of_same (hS _)))
        go_wp2
        go_ret
        exact HZ.out _ (drawnN _) _ rfl
end Go.Proofs.YtnghlkbmfhkmoaaGreatDoor
namespace Go.Proofs.YtnghlkbmfhkmoaaGreatDoor
open Go.RowKit Go.Proofs.YtnghlkbmfhkmoaaGreatDoorW.PrintWords Hy
theorem drawn_trans {w w1 w2 : World} (h : Drawn0 w w1) (h' : Drawn0 w1 w2) : Drawn0 w w2 := by
  obtain ⟨n, rfl⟩ := h; obtain ⟨m, rfl⟩ := h'; exact ⟨n + m, by rw [World.drewN_drewN]⟩
def whlV (s : ByteArray) (m : Int) (w : World) (e : Ending) (w' : World) : Prop := e = .returned (.int .i64 ((whl (bs s) m : Nat) : Int)) ∧ Drawn0 w w'
set_option maxHeartbeats 4000000 in
theorem whole_any (s : ByteArray) (m : Int) (w : World) (hs : s.size ≤ 140737488351232) (hm : 0 ≤ m) (hm2 : m < 9223372036854775808) :
    Calls Tryz.prog 106 #[.string s, .int .i64 m] w (whlV s m w) := by
  have hz : ∀ n, whl (bs s) m = n → ∀ W, Drawn0 w W → ∀ e, e = .returned (.int .i64 (n : Int)) → whlV s m w e W := by
    intro n hn W hW e he; subst hn; exact ⟨he, hW⟩
  have HZ := Aside0.mk hz
  clear hz
  go_enter Tryz.func106, Tryz.ntmps106
  go_wp2
  go_loopw [5] (fun v5 w' => ∃ a : Nat, v5 = .int .i64 (a : Int) ∧ a ≤ s.size ∧ Aside0 (whl (bs s) m = a + whl ((bs s).drop a) (m - a)) ∧ Drawn0 w w') (fun v5 _ => s.size - (intOf v5).toNat)
  case atStart => exact ⟨0, rfl, by omega, ⟨by simp⟩, Drawn0.refl _⟩
  case round =>
    obtain ⟨a, rfl, ha, HE, HD⟩ := hrel
    by_cases hlt : a < s.size
    · have hlt2 : (a : Int) < (s.size : Int) := by omega
      have hez : (s.extract a s.size).size = s.size - a := by rw [ByteArray.size_extract]; omega
      have hA := fun w => sign_any (s.extract a s.size) w (by omega) (by omega)
      unfold sgnV at hA
      rw [bs_extract, ← bs_length, List.take_length] at hA
      rw [bs_length] at hA
      obtain ⟨n, hn⟩ : ∃ n, sgn ((bs s).drop a) = n := ⟨_, rfl⟩
      have hle := sgn_le ((bs s).drop a)
      rw [List.length_drop, bs_length] at hle
      rw [hn] at hA hle
      have hwr : ∀ w1, Drawn0 wr w1 → Drawn0 w w1 := fun w1 h => drawn_trans HD h
      by_cases h0 : n = 0
      · have HZ2 := Aside0.mk (HZ.out a (by rw [HE.out, whl_stop _ _ (.inl (by rw [hn]; exact h0))]; rfl))
        have hb : ((n : Int) == 0) = true := by simp; omega
        subst h0
        clear HZ HE hn hle hez
        go_wp2_with (go_at_call 115; refine (hA _).mono ?_; rintro e w1 ⟨rfl, hw1⟩; have HD1 := hwr _ hw1; clear hw1 HD)
        go_ret
        exact HZ2.out _ HD1 _ rfl
      · have hb : ((n : Int) == 0) = false := by simp; omega
        by_cases h1 : m - a < n
        · have HZ2 := Aside0.mk (HZ.out a (by rw [HE.out, whl_stop _ _ (.inr (by rw [hn]; exact h1))]; rfl))
          have hb2 : decide (m - (a : Int) < (n : Int)) = true := decide_eq_true h1
          clear HZ HE hn hle hez h0
          go_wp2_with (go_at_call 115; refine (hA _).mono ?_; rintro e w1 ⟨rfl, hw1⟩; have HD1 := hwr _ hw1; clear hw1 HD)
          go_ret
          exact HZ2.out _ HD1 _ rfl
        · have HE2 : Aside0 (whl (bs s) m = (a + n : Nat) + whl ((bs s).drop (a + n)) (m - (a + n : Nat))) := ⟨by
            rw [HE.out, whl_go _ _ (by rw [hn]; exact h0) (by rw [hn]; omega), hn, List.drop_drop]
            rw [show m - (a : Int) - (n : Int) = m - ((a + n : Nat) : Int) by omega]; omega⟩
          have hb2 : decide (m - (a : Int) < (n : Int)) = false := decide_eq_false h1
          have han : a + n ≤ s.size := by omega
          clear HZ HE hn hle hez
          go_wp2_with (go_at_call 115; refine (hA _).mono ?_; rintro e w1 ⟨rfl, hw1⟩; have HD1 := hwr _ hw1; clear hw1 HD)
          go_roundw
          case rel => exact ⟨a + n, by go_num, han, HE2, HD1⟩
          case measure => simp [intOf]; omega
    · obtain rfl : a = s.size := by omega
      have HZ2 := Aside0.mk (HZ.out s.size (by rw [HE.out, ← bs_length, List.drop_length, whl_stop _ _ (.inl rfl)]; rfl))
      clear HZ HE hlt ha
      go_wp2
      go_ret
      exact HZ2.out _ HD _ rfl
/-- Where the first sign is none; -1: all are right. -/
def badI (s : List Nat) : Int := if whl s s.length = s.length then -1 else (whl s s.length : Int)
def badV (s : ByteArray) (w : World) (e : Ending) (w' : World) : Prop := e = .returned (.int .i64 (badI (bs s))) ∧ Drawn0 w w'
theorem bad_any (s : ByteArray) (w : World) (hs : s.size ≤ 140737488351232) : Calls Tryz.prog 89 #[.string s] w (badV s w) := by
  have hA := fun w => whole_any s s.size w hs (by omega) (by omega)
  unfold whlV at hA
  obtain ⟨n, hn⟩ : ∃ n, whl (bs s) s.size = n := ⟨_, rfl⟩
  rw [hn] at hA
  have hl := bs_length s
  have hle := (whl_says _ (bs s) s.size (Nat.le_refl _) (by omega)).2.1
  rw [hn, hl] at hle
  by_cases h : n = s.size
  · have HZ : Aside0 (badI (bs s) = -1) := ⟨by unfold badI; rw [hl, hn, if_pos h]⟩
    subst h
    clear hn hl hle
    go_enter Tryz.func89, Tryz.ntmps89
    go_wp2_with (go_at_call 106; refine (hA _).mono ?_; rintro e w1 ⟨rfl, hw1⟩)
    go_ret
    exact ⟨by rw [HZ.out]; rfl, hw1⟩
  · have HZ : Aside0 (badI (bs s) = n) := ⟨by unfold badI; rw [hl, hn, if_neg h]⟩
    have hb : ((n : Int) == (s.size : Int)) = false := by rw [beq_eq_false_iff_ne]; omega
    clear hn hl hle h
    go_enter Tryz.func89, Tryz.ntmps89
    go_wp2_with (go_at_call 106; refine (hA _).mono ?_; rintro e w1 ⟨rfl, hw1⟩)
    go_ret
    exact ⟨by rw [HZ.out]; rfl, hw1⟩
theorem badI_neg (s : List Nat) : decide (badI s < 0) = vld s := by
  unfold badI vld
  by_cases h : whl s s.length = s.length
  · rw [if_pos h, decide_eq_true h]; rfl
  · rw [if_neg h, decide_eq_false h, decide_eq_false (by omega)]
def vldV (s : ByteArray) (w : World) (e : Ending) (w' : World) : Prop := e = .returned (.bool (vld (bs s))) ∧ Drawn0 w w'
theorem valid_any (s : ByteArray) (w : World) (hs : s.size ≤ 140737488351232) : Calls Tryz.prog 70 #[.string s] w (vldV s w) := by
  have hA := fun w => bad_any s w hs
  have HZ := Aside0.mk (badI_neg (bs s))
  unfold badV at hA
  go_enter Tryz.func70, Tryz.ntmps70
  go_wp2_with (go_at_call 89; refine (hA _).mono ?_; rintro e w1 ⟨rfl, hw1⟩)
  go_ret
  exact ⟨by rw [← HZ.out]; rfl, hw1⟩
end Go.Proofs.YtnghlkbmfhkmoaaGreatDoor
