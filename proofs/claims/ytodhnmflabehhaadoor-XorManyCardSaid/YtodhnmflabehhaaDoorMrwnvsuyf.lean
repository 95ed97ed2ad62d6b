import Derived.Test.YtodhnmflabehhaaDoorMmiwohxyu
import Derived.Test.YtodhnmflabehhaaDoorRows
import Derived.LaidLaws
import Derived.LaidHandle
import Derived.Stop.Joined
namespace Go.Proofs.YtodhnmflabehhaaDoor
open Go.RowKit Go.Proofs.YtodhnmflabehhaaDoorW.PrintWords Go.Extern.Stop Go.Stop Go.Extern

/-- The code that an error has within; its outermost place. -/
def codeIn : Err → Option Int
  | .code c => some c
  | .at_ _ e => codeIn e
  | .fld _ e => codeIn e
  | _ => none
def placeIn : Err → Option Int
  | .at_ n _ => some n
  | .fld _ e => placeIn e
  | _ => none
def codeOf : Err → Int
  | .nil => 0
  | e => (codeIn e).getD 14
def deep : Err → Nat
  | .at_ _ e => deep e + 1
  | .fld _ e => deep e + 1
  | _ => 0
/-- The variable errors.errorType as it is laid. -/
def Laid (w : World) : Prop := w.cell? ⟨0, 0, none⟩ = some (.iface 106 (.agg #[.pointer (some ⟨1, 32, none⟩)]))
theorem cell_lt {w : World} {a : Addr} {v : Value} (h : w.cell? a = some v) : a.block < w.heap.size := by
  rcases Nat.lt_or_ge a.block w.heap.size with hl | hl
  · exact hl
  · simp [World.cell?, Array.getElem?_eq_none hl] at h
theorem Laid.below {w w' : World} (h : Laid w) (hb : Below w.heap.size w w') : Laid w' := by
  unfold Laid at *
  rw [hb.cell (cell_lt h)]; exact h
theorem unwrapW_any (a : Nat) (n : Int) (u : Value) (w : World) (h : w.heap[a]? = some (.cells #[.int .i64 n, u] 82 (0, 0))) :
    Calls Tryd.prog 67 #[.pointer (some ⟨a, 0, none⟩)] w fun e w' => e = .returned u ∧ w' = w := by
  have c1 : w.cell? ⟨a, 1, none⟩ = some u := by rw [blk_cell h]; rfl
  clear h
  go_enter Tryd.func67, Tryd.ntmps67
  go_wp2
  go_ret
  exact ⟨rfl, rfl⟩

/-! ### the target Code -/
def AsCode (e0 : Err) (t : Addr) (w0 w : World) (e : Ending) (w' : World) : Prop :=
  (codeIn e0 = none ∧ e = .returned (.bool false) ∧ Below w.heap.size w w') ∨ (∃ c, codeIn e0 = some c ∧ e = .returned (.bool true) ∧ w'.cell? t = some (.int .i64 c) ∧ w'.frozen? t = false ∧ Kp (· = t.block) w w')
/-- What the setting of the target leaves. -/
theorem asCode_done (t b : Addr) (old x : Value) (y : Value) (w : World) (ht0 : w.cell? t = some old) (hf0 : w.frozen? t = false) (hx : x.oneCell' = true) :
    ((((w.alloc (.cells #[.pointer (some ⟨1, 76, none⟩), .pointer (some b), .int .u64 150] 95)).alloc (.cells #[y] 37)).setCell t x).cell? t = some x) ∧ ((((w.alloc (.cells #[.pointer (some ⟨1, 76, none⟩), .pointer (some b), .int .u64 150] 95)).alloc (.cells #[y] 37)).setCell t x).frozen? t = false) ∧ Kp (· = t.block) w (((w.alloc (.cells #[.pointer (some ⟨1, 76, none⟩), .pointer (some b), .int .u64 150] 95)).alloc (.cells #[y] 37)).setCell t x) := by
  have hl := cell_lt ht0
  have h1 : ((w.alloc (.cells #[.pointer (some ⟨1, 76, none⟩), .pointer (some b), .int .u64 150] 95)).alloc (.cells #[y] 37)).cell? t = some old := by
    rw [World.cell?_alloc_lt _ _ t (by simp; omega), World.cell?_alloc_lt _ _ t hl]; exact ht0
  have h2 : ((w.alloc (.cells #[.pointer (some ⟨1, 76, none⟩), .pointer (some b), .int .u64 150] 95)).alloc (.cells #[y] 37)).frozen? t = false := by
    rw [World.frozen?_alloc_old _ _ t (by simp; omega), World.frozen?_alloc_old _ _ t (Nat.ne_of_lt hl)]; exact hf0
  exact ⟨by exact World.cell?_setCell_same _ _ _ h1, by rw [World.frozen?_setCell]; exact h2, Kp.set (M := fun k => k = t.block) (((Kp.refl _ w).alloc _).alloc _) (show t.block = t.block from rfl) x⟩

set_option maxHeartbeats 4000000 in
theorem asCode_any (e0 : Err) (u : Value) (t b : Addr) (old : Value) (w0 w : World) (h0 : Below w0.heap.size w0 w) (hu : IsE w0 e0 u) (hne : e0 ≠ .nil) (ht0 : w.cell? t = some old) (hf0 : w.frozen? t = false) (hb : w.cell? b = some (.pointer (some t))) :
    Calls Tryd.prog 44 #[u, .iface 76 (.pointer (some t)), .agg #[.pointer (some ⟨1, 76, none⟩), .pointer (some b), .int .u64 150], .iface 106 (.agg #[.pointer (some ⟨1, 37, none⟩)])] w (AsCode e0 t w0 w) := by
  obtain ⟨uT, ux, rfl⟩ := hu.iface hne
  have HU := Aside0.mk hu
  have HT := Aside0.mk (And.intro ht0 (And.intro hf0 hb))
  have HN := Aside0.mk hne
  have H0 := Aside0.mk h0
  clear hu ht0 hf0 hb hne h0
  have hT := @run_callFunc_extern Tryd.prog 45 _ (ReflectliteType.typeOf) Tryd.func45 (by kernel_rfl) (by kernel_rfl) (by kernel_rfl) (by kernel_rfl)
  have hA := @run_callFunc_extern Tryd.prog 72 _ (ReflectliteType.relation "AssignableTo" ReflectliteType.assignableTo) Tryd.func72 (by kernel_rfl) (by kernel_rfl) (by kernel_rfl) (by kernel_rfl)
  have hE := @run_callFunc_extern Tryd.prog 46 _ (ReflectliteValue.method (ReflectliteValue.valueError "reflectlite.Value.Elem" 0) ReflectliteValue.elem) Tryd.func46 (by kernel_rfl) (by kernel_rfl) (by kernel_rfl) (by kernel_rfl)
  have hV := @run_callFunc_extern Tryd.prog 41 _ (fun args => ReflectliteValue.unpack (args.getD 0 (.tuple #[]))) Tryd.func41 (by kernel_rfl) (by kernel_rfl) (by kernel_rfl) (by kernel_rfl)
  have hS := @run_callFunc_extern Tryd.prog 47 _ (ReflectliteValue.set) Tryd.func47 (by kernel_rfl) (by kernel_rfl) (by kernel_rfl) (by kernel_rfl)
  have mA := asMethod_AssignableTo
  go_enter Tryd.func44, Tryd.ntmps44
  go_wp2_with fail
  go_loopg [0] (deep e0) (fun k v wr => wr = w.alloc (.cells #[.pointer (some ⟨1, 76, none⟩), .pointer (some b), .int .u64 150] 95) ∧ ∃ e1 : Err, e1 ≠ .nil ∧ deep e1 ≤ k ∧ Aside0 (codeIn e1 = codeIn e0) ∧ Aside0 (IsE w0 e1 v))
  case atStart => exact ⟨rfl, e0, HN.out, Nat.le_refl _, ⟨rfl⟩, HU⟩
  case round =>
    clear HU HN
    obtain ⟨rfl, e1, hn1, hk, HF, HU⟩ := hrel
    cases e1 with
    | nil => exact absurd rfl hn1
    | oth => exact HU.out.elim
    | fld n e1 => exact HU.out.elim
    | code c =>
      clear hn1 hk
      obtain rfl := HU.out
      clear HU
      have el := asCode_elemV b t (w.alloc (.cells #[.pointer (some ⟨1, 76, none⟩), .pointer (some b), .int .u64 150] 95)) (by rw [World.cell?_alloc_lt _ _ b (cell_lt HT.out.2.2)]; exact HT.out.2.2)
      have st := asCode_set t ⟨w.heap.size + 1, 0, none⟩ (c) old ((w.alloc (.cells #[.pointer (some ⟨1, 76, none⟩), .pointer (some b), .int .u64 150] 95)).alloc (.cells #[.int .i64 c] 37))
        (by rw [World.cell?_alloc_at _ _ _ _ (by simp)]; rfl)
        (by rw [World.cell?_alloc_lt _ _ t (by have := cell_lt HT.out.1; simp; omega), World.cell?_alloc_lt _ _ t (cell_lt HT.out.1)]; exact HT.out.1)
        (by rw [World.frozen?_alloc_old _ _ t (by have := cell_lt HT.out.1; simp; omega), World.frozen?_alloc_old _ _ t (Nat.ne_of_lt (cell_lt HT.out.1))]; exact HT.out.2.1)
      have aX := asCode_fromCode
      have vO := asCode_valueOf
      have tO := asCode_typeOf
      go_wp2
      go_ret
      obtain ⟨r1, r2, r3⟩ := asCode_done t b old (.int .i64 c) (.int .i64 c) w HT.out.1 HT.out.2.1 rfl
      exact .inr ⟨c, by rw [← HF.out]; rfl, rfl, r1, r2, r3⟩
    | at_ m e' =>
      clear hn1
      obtain ⟨a, u, rfl, ha, hu⟩ := HU.out
      have HA := Aside0.mk ha
      clear HU ha
      have aX := asCode_fromWhere
      have tO := asWhere_typeOf
      have q1 := asWhere_noAs
      have q2 := asWhere_hasUnwrap
      have q3 := asWhere_unwrapM
      have HU2 := Aside0.mk (hu.below (w' := w0) (Below.refl _ _))
      clear hu
      by_cases he : e' = .nil
      · subst he
        obtain rfl : u = .nilIface := HU2.out
        go_wp2_with (go_at_call 67; refine (unwrapW_any a m _ _ (blk_below (blk_below HA.out H0.out) ((Below.refl _ _).alloc (Nat.le_refl _) _))).mono ?_; rintro e w' ⟨rfl, rfl⟩)
        go_ret
        exact .inl ⟨by rw [← HF.out]; rfl, rfl, (Below.refl _ _).alloc (Nat.le_refl _) _⟩
      · obtain ⟨vT, vx, rfl⟩ := HU2.out.iface he
        have HN := Aside0.mk he
        clear he
        go_wp2_with (go_at_call 67; refine (unwrapW_any a m _ _ (blk_below (blk_below HA.out H0.out) ((Below.refl _ _).alloc (Nat.le_refl _) _))).mono ?_; rintro e w' ⟨rfl, rfl⟩)
        go_roundg (deep e')
        case rel => exact ⟨rfl, e', HN.out, Nat.le_refl _, HF, HU2⟩
        case measure => simp [deep] at hk; omega

/-! ### the target Where -/
def AsWhere (e0 : Err) (t : Addr) (w0 w : World) (e : Ending) (w' : World) : Prop :=
  (placeIn e0 = none ∧ e = .returned (.bool false) ∧ Below w.heap.size w w') ∨ (∃ n a u, placeIn e0 = some n ∧ e = .returned (.bool true) ∧ w0.heap[a]? = some (.cells #[.int .i64 n, u] 82 (0, 0)) ∧ w'.cell? t = some (.pointer (some ⟨a, 0, none⟩)) ∧ w'.frozen? t = false ∧ Kp (· = t.block) w w')
/-- What the setting of the target leaves. -/
theorem asWhere_done (t b : Addr) (old x : Value) (y : Value) (w : World) (ht0 : w.cell? t = some old) (hf0 : w.frozen? t = false) (hx : x.oneCell' = true) :
    ((((w.alloc (.cells #[.pointer (some ⟨1, 80, none⟩), .pointer (some b), .int .u64 150] 95)).alloc (.cells #[y] 79)).setCell t x).cell? t = some x) ∧ ((((w.alloc (.cells #[.pointer (some ⟨1, 80, none⟩), .pointer (some b), .int .u64 150] 95)).alloc (.cells #[y] 79)).setCell t x).frozen? t = false) ∧ Kp (· = t.block) w (((w.alloc (.cells #[.pointer (some ⟨1, 80, none⟩), .pointer (some b), .int .u64 150] 95)).alloc (.cells #[y] 79)).setCell t x) := by
  have hl := cell_lt ht0
  have h1 : ((w.alloc (.cells #[.pointer (some ⟨1, 80, none⟩), .pointer (some b), .int .u64 150] 95)).alloc (.cells #[y] 79)).cell? t = some old := by
    rw [World.cell?_alloc_lt _ _ t (by simp; omega), World.cell?_alloc_lt _ _ t hl]; exact ht0
  have h2 : ((w.alloc (.cells #[.pointer (some ⟨1, 80, none⟩), .pointer (some b), .int .u64 150] 95)).alloc (.cells #[y] 79)).frozen? t = false := by
    rw [World.frozen?_alloc_old _ _ t (by simp; omega), World.frozen?_alloc_old _ _ t (Nat.ne_of_lt hl)]; exact hf0
  exact ⟨by exact World.cell?_setCell_same _ _ _ h1, by rw [World.frozen?_setCell]; exact h2, Kp.set (M := fun k => k = t.block) (((Kp.refl _ w).alloc _).alloc _) (show t.block = t.block from rfl) x⟩

set_option maxHeartbeats 4000000 in
theorem asWhere_any (e0 : Err) (u : Value) (t b : Addr) (old : Value) (w0 w : World) (h0 : Below w0.heap.size w0 w) (hu : IsE w0 e0 u) (hne : e0 ≠ .nil) (ht0 : w.cell? t = some old) (hf0 : w.frozen? t = false) (hb : w.cell? b = some (.pointer (some t))) :
    Calls Tryd.prog 44 #[u, .iface 80 (.pointer (some t)), .agg #[.pointer (some ⟨1, 80, none⟩), .pointer (some b), .int .u64 150], .iface 106 (.agg #[.pointer (some ⟨1, 79, none⟩)])] w (AsWhere e0 t w0 w) := by
  obtain ⟨uT, ux, rfl⟩ := hu.iface hne
  have HU := Aside0.mk hu
  have HT := Aside0.mk (And.intro ht0 (And.intro hf0 hb))
  have HN := Aside0.mk hne
  have H0 := Aside0.mk h0
  clear hu ht0 hf0 hb hne h0
  have hT := @run_callFunc_extern Tryd.prog 45 _ (ReflectliteType.typeOf) Tryd.func45 (by kernel_rfl) (by kernel_rfl) (by kernel_rfl) (by kernel_rfl)
  have hA := @run_callFunc_extern Tryd.prog 72 _ (ReflectliteType.relation "AssignableTo" ReflectliteType.assignableTo) Tryd.func72 (by kernel_rfl) (by kernel_rfl) (by kernel_rfl) (by kernel_rfl)
  have hE := @run_callFunc_extern Tryd.prog 46 _ (ReflectliteValue.method (ReflectliteValue.valueError "reflectlite.Value.Elem" 0) ReflectliteValue.elem) Tryd.func46 (by kernel_rfl) (by kernel_rfl) (by kernel_rfl) (by kernel_rfl)
  have hV := @run_callFunc_extern Tryd.prog 41 _ (fun args => ReflectliteValue.unpack (args.getD 0 (.tuple #[]))) Tryd.func41 (by kernel_rfl) (by kernel_rfl) (by kernel_rfl) (by kernel_rfl)
  have hS := @run_callFunc_extern Tryd.prog 47 _ (ReflectliteValue.set) Tryd.func47 (by kernel_rfl) (by kernel_rfl) (by kernel_rfl) (by kernel_rfl)
  have mA := asMethod_AssignableTo
  go_enter Tryd.func44, Tryd.ntmps44
  go_wp2_with fail
  go_loopg [0] (deep e0) (fun k v wr => wr = w.alloc (.cells #[.pointer (some ⟨1, 80, none⟩), .pointer (some b), .int .u64 150] 95) ∧ ∃ e1 : Err, e1 ≠ .nil ∧ deep e1 ≤ k ∧ Aside0 (placeIn e1 = placeIn e0) ∧ Aside0 (IsE w0 e1 v))
  case atStart => exact ⟨rfl, e0, HN.out, Nat.le_refl _, ⟨rfl⟩, HU⟩
  case round =>
    clear HU HN
    obtain ⟨rfl, e1, hn1, hk, HF, HU⟩ := hrel
    cases e1 with
    | nil => exact absurd rfl hn1
    | oth => exact HU.out.elim
    | fld n e1 => exact HU.out.elim
    | code c =>
      clear hn1 hk
      obtain rfl := HU.out
      clear HU
      have aX := asWhere_fromCode
      have tO := asCode_typeOf
      have q1 := asCode_noAs
      have q2 := asCode_noUnwrap
      have q3 := asCode_noUnwraps
      go_wp2
      go_ret
      exact .inl ⟨by rw [← HF.out]; rfl, rfl, (Below.refl _ _).alloc (Nat.le_refl _) _⟩
    | at_ m e' =>
      clear hn1
      obtain ⟨a, u, rfl, ha, hu⟩ := HU.out
      have HA := Aside0.mk ha
      clear HU ha
      clear hu
      have el := asWhere_elemV b t (w.alloc (.cells #[.pointer (some ⟨1, 80, none⟩), .pointer (some b), .int .u64 150] 95)) (by rw [World.cell?_alloc_lt _ _ b (cell_lt HT.out.2.2)]; exact HT.out.2.2)
      have st := asWhere_set t ⟨w.heap.size + 1, 0, none⟩ (⟨a, 0, none⟩) old ((w.alloc (.cells #[.pointer (some ⟨1, 80, none⟩), .pointer (some b), .int .u64 150] 95)).alloc (.cells #[.pointer (some ⟨a, 0, none⟩)] 79))
        (by rw [World.cell?_alloc_at _ _ _ _ (by simp)]; rfl)
        (by rw [World.cell?_alloc_lt _ _ t (by have := cell_lt HT.out.1; simp; omega), World.cell?_alloc_lt _ _ t (cell_lt HT.out.1)]; exact HT.out.1)
        (by rw [World.frozen?_alloc_old _ _ t (by have := cell_lt HT.out.1; simp; omega), World.frozen?_alloc_old _ _ t (Nat.ne_of_lt (cell_lt HT.out.1))]; exact HT.out.2.1)
      have aX := asWhere_fromWhere
      have vO := asWhere_valueOf
      have tO := asWhere_typeOf
      go_wp2
      go_ret
      obtain ⟨r1, r2, r3⟩ := asWhere_done t b old (.pointer (some ⟨a, 0, none⟩)) (.pointer (some ⟨a, 0, none⟩)) w HT.out.1 HT.out.2.1 rfl
      exact .inr ⟨m, a, u, by rw [← HF.out]; rfl, rfl, HA.out, r1, r2, r3⟩
set_option maxHeartbeats 4000000 in
theorem errCode_any (e0 : Err) (u : Value) (t : Addr) (old : Value) (w0 w : World) (h0 : Below w0.heap.size w0 w) (hg : Laid w) (hu : IsE w0 e0 u) (hne : e0 ≠ .nil) (ht0 : w.cell? t = some old) (hf0 : w.frozen? t = false) :
    Calls Tryd.prog 35 #[u, .iface 76 (.pointer (some t))] w (AsCode e0 t w0 w) := by
  have hlt := cell_lt ht0
  have hW : Below w.heap.size w ((w.alloc (.cells #[.pointer (some t)] 76)).alloc (.cells #[.pointer (some ⟨1, 76, none⟩), .pointer (some ⟨w.heap.size, 0, none⟩), .int .u64 150] 95)) := ((Below.refl _ _).alloc (Nat.le_refl _) _).alloc (by simp) _
  have hg2 := hg.below hW
  unfold Laid at hg2
  have ht2 : ((w.alloc (.cells #[.pointer (some t)] 76)).alloc (.cells #[.pointer (some ⟨1, 76, none⟩), .pointer (some ⟨w.heap.size, 0, none⟩), .int .u64 150] 95)).cell? t = some old := by rw [hW.cell hlt]; exact ht0
  have hf2 : ((w.alloc (.cells #[.pointer (some t)] 76)).alloc (.cells #[.pointer (some ⟨1, 76, none⟩), .pointer (some ⟨w.heap.size, 0, none⟩), .int .u64 150] 95)).frozen? t = false := by rw [hW.frozen hlt]; exact hf0
  have hc2 : ((w.alloc (.cells #[.pointer (some t)] 76)).alloc (.cells #[.pointer (some ⟨1, 76, none⟩), .pointer (some ⟨w.heap.size, 0, none⟩), .int .u64 150] 95)).cell? ⟨w.heap.size, 0, none⟩ = some (.pointer (some t)) := by simp
  have HC := asCode_any e0 u t ⟨w.heap.size, 0, none⟩ old w0 ((w.alloc (.cells #[.pointer (some t)] 76)).alloc (.cells #[.pointer (some ⟨1, 76, none⟩), .pointer (some ⟨w.heap.size, 0, none⟩), .int .u64 150] 95)) (h0.trans (hW.mono h0.size)) hu hne ht2 hf2 hc2
  obtain ⟨uT, ux, rfl⟩ := hu.iface hne
  have HW := Aside0.mk hW
  have n8 := asCode_isNil ⟨w.heap.size, 0, none⟩ t ((w.alloc (.cells #[.pointer (some t)] 76)).alloc (.cells #[.pointer (some ⟨1, 76, none⟩), .pointer (some ⟨w.heap.size, 0, none⟩), .int .u64 150] 95)) hc2
  clear h0 hg hu hne ht0 hf0 hlt hW ht2 hf2 hc2
  have hV := @run_callFunc_extern Tryd.prog 41 _ (fun args => ReflectliteValue.unpack (args.getD 0 (.tuple #[]))) Tryd.func41 (by kernel_rfl) (by kernel_rfl) (by kernel_rfl) (by kernel_rfl)
  have hTy := @run_callFunc_extern Tryd.prog 42 _ (ReflectliteValue.methodAny (ReflectliteValue.valueError "reflectlite.Value.Type" 0) (fun t _ _ _ => ReflectliteType.toType t)) Tryd.func42 (by kernel_rfl) (by kernel_rfl) (by kernel_rfl) (by kernel_rfl)
  have hN := @run_callFunc_extern Tryd.prog 43 _ (ReflectliteValue.method (ReflectliteValue.valueError "reflectlite.Value.IsNil" 0) ReflectliteValue.isNil) Tryd.func43 (by kernel_rfl) (by kernel_rfl) (by kernel_rfl) (by kernel_rfl)
  have hK := @run_callFunc_extern Tryd.prog 62 _ (ReflectliteType.abiMethod fun t => do pure (.int .u8 (← Rtype.kind t))) Tryd.func62 (by kernel_rfl) (by kernel_rfl) (by kernel_rfl) (by kernel_rfl)
  have hEl := @run_callFunc_extern Tryd.prog 74 _ (ReflectliteType.method ReflectliteType.elem) Tryd.func74 (by kernel_rfl) (by kernel_rfl) (by kernel_rfl) (by kernel_rfl)
  have hI := @run_callFunc_extern Tryd.prog 75 _ (ReflectliteType.relation "Implements" ReflectliteType.implements_) Tryd.func75 (by kernel_rfl) (by kernel_rfl) (by kernel_rfl) (by kernel_rfl)
  have f6 := asCode_valueOfP
  have f7 := asCode_type
  have mK := asMethod_Kind
  have mE := asMethod_Elem
  have mI := asMethod_Implements
  have kP := asCode_kindP
  have kD := asCode_kind
  have eD := asCode_elem
  have iD := asCode_implements
  go_enter Tryd.func35, Tryd.ntmps35
  go_wp2_with (go_at_call 44; refine HC.mono ?_; rintro e w' (⟨h1, rfl, h3⟩ | ⟨c, h1, rfl, h3, h4, h5⟩))
  · go_ret
    exact .inl ⟨h1, rfl, HW.out.trans (h3.mono HW.out.size)⟩
  · go_ret
    exact .inr ⟨c, h1, rfl, h3, h4, (Kp.ofBelow HW.out).trans h5⟩
set_option maxHeartbeats 4000000 in
theorem errWhere_any (e0 : Err) (u : Value) (t : Addr) (old : Value) (w0 w : World) (h0 : Below w0.heap.size w0 w) (hg : Laid w) (hu : IsE w0 e0 u) (hne : e0 ≠ .nil) (ht0 : w.cell? t = some old) (hf0 : w.frozen? t = false) :
    Calls Tryd.prog 35 #[u, .iface 80 (.pointer (some t))] w (AsWhere e0 t w0 w) := by
  have hlt := cell_lt ht0
  have hW : Below w.heap.size w ((w.alloc (.cells #[.pointer (some t)] 80)).alloc (.cells #[.pointer (some ⟨1, 80, none⟩), .pointer (some ⟨w.heap.size, 0, none⟩), .int .u64 150] 95)) := ((Below.refl _ _).alloc (Nat.le_refl _) _).alloc (by simp) _
  have hg2 := hg.below hW
  unfold Laid at hg2
  have ht2 : ((w.alloc (.cells #[.pointer (some t)] 80)).alloc (.cells #[.pointer (some ⟨1, 80, none⟩), .pointer (some ⟨w.heap.size, 0, none⟩), .int .u64 150] 95)).cell? t = some old := by rw [hW.cell hlt]; exact ht0
  have hf2 : ((w.alloc (.cells #[.pointer (some t)] 80)).alloc (.cells #[.pointer (some ⟨1, 80, none⟩), .pointer (some ⟨w.heap.size, 0, none⟩), .int .u64 150] 95)).frozen? t = false := by rw [hW.frozen hlt]; exact hf0
  have hc2 : ((w.alloc (.cells #[.pointer (some t)] 80)).alloc (.cells #[.pointer (some ⟨1, 80, none⟩), .pointer (some ⟨w.heap.size, 0, none⟩), .int .u64 150] 95)).cell? ⟨w.heap.size, 0, none⟩ = some (.pointer (some t)) := by simp
  have HC := asWhere_any e0 u t ⟨w.heap.size, 0, none⟩ old w0 ((w.alloc (.cells #[.pointer (some t)] 80)).alloc (.cells #[.pointer (some ⟨1, 80, none⟩), .pointer (some ⟨w.heap.size, 0, none⟩), .int .u64 150] 95)) (h0.trans (hW.mono h0.size)) hu hne ht2 hf2 hc2
  obtain ⟨uT, ux, rfl⟩ := hu.iface hne
  have HW := Aside0.mk hW
  have n8 := asWhere_isNil ⟨w.heap.size, 0, none⟩ t ((w.alloc (.cells #[.pointer (some t)] 80)).alloc (.cells #[.pointer (some ⟨1, 80, none⟩), .pointer (some ⟨w.heap.size, 0, none⟩), .int .u64 150] 95)) hc2
  clear h0 hg hu hne ht0 hf0 hlt hW ht2 hf2 hc2
  have hV := @run_callFunc_extern Tryd.prog 41 _ (fun args => ReflectliteValue.unpack (args.getD 0 (.tuple #[]))) Tryd.func41 (by kernel_rfl) (by kernel_rfl) (by kernel_rfl) (by kernel_rfl)
  have hTy := @run_callFunc_extern Tryd.prog 42 _ (ReflectliteValue.methodAny (ReflectliteValue.valueError "reflectlite.Value.Type" 0) (fun t _ _ _ => ReflectliteType.toType t)) Tryd.func42 (by kernel_rfl) (by kernel_rfl) (by kernel_rfl) (by kernel_rfl)
  have hN := @run_callFunc_extern Tryd.prog 43 _ (ReflectliteValue.method (ReflectliteValue.valueError "reflectlite.Value.IsNil" 0) ReflectliteValue.isNil) Tryd.func43 (by kernel_rfl) (by kernel_rfl) (by kernel_rfl) (by kernel_rfl)
  have hK := @run_callFunc_extern Tryd.prog 62 _ (ReflectliteType.abiMethod fun t => do pure (.int .u8 (← Rtype.kind t))) Tryd.func62 (by kernel_rfl) (by kernel_rfl) (by kernel_rfl) (by kernel_rfl)
  have hEl := @run_callFunc_extern Tryd.prog 74 _ (ReflectliteType.method ReflectliteType.elem) Tryd.func74 (by kernel_rfl) (by kernel_rfl) (by kernel_rfl) (by kernel_rfl)
  have hI := @run_callFunc_extern Tryd.prog 75 _ (ReflectliteType.relation "Implements" ReflectliteType.implements_) Tryd.func75 (by kernel_rfl) (by kernel_rfl) (by kernel_rfl) (by kernel_rfl)
  have f6 := asWhere_valueOfP
  have f7 := asWhere_type
  have mK := asMethod_Kind
  have mE := asMethod_Elem
  have mI := asMethod_Implements
  have kP := asWhere_kindP
  have kD := asWhere_kind
  have eD := asWhere_elem
  have iD := asWhere_implements
  go_enter Tryd.func35, Tryd.ntmps35
  go_wp2_with (go_at_call 44; refine HC.mono ?_; rintro e w' (⟨h1, rfl, h3⟩ | ⟨m, a, u', h1, rfl, h2, h3, h4, h5⟩))
  · go_ret
    exact .inl ⟨h1, rfl, HW.out.trans (h3.mono HW.out.size)⟩
  · go_ret
    exact .inr ⟨m, a, u', h1, rfl, h2, h3, h4, (Kp.ofBelow HW.out).trans h5⟩
/-! ### blame.Code, blame.Place -/
theorem errAs_nil (v : Value) (w : World) : Calls Tryd.prog 35 #[.nilIface, v] w fun e w' => e = .returned (.bool false) ∧ w' = w := by
  go_enter Tryd.func35, Tryd.ntmps35
  go_wp2
  go_ret
  exact ⟨rfl, rfl⟩
set_option maxHeartbeats 1000000 in
theorem code_any (e0 : Err) (u : Value) (w : World) (hg : Laid w) (hu : IsE w e0 u) :
    Calls Tryd.prog 12 #[u] w fun e w' => e = .returned (.int .i64 (codeOf e0)) ∧ Below w.heap.size w w' := by
  by_cases hne : e0 = .nil
  · subst hne
    obtain rfl : u = .nilIface := hu
    go_enter Tryd.func12, Tryd.ntmps12
    go_wp2_with fail
    go_ret
    exact ⟨rfl, Below.refl _ _⟩
  · have hW : Below w.heap.size w (w.alloc (.cells #[.int .i64 0] 37)) := (Below.refl _ _).alloc (Nat.le_refl _) _
    have HC := errCode_any e0 u ⟨w.heap.size, 0, none⟩ (.int .i64 0) w (w.alloc (.cells #[.int .i64 0] 37)) hW (hg.below hW) hu hne (by simp) (by simp)
    obtain ⟨uT, ux, rfl⟩ := hu.iface hne
    have HW := Aside0.mk hW
    have HE : Aside0 (codeOf e0 = (codeIn e0).getD 14) := ⟨by cases e0 <;> first | rfl | exact absurd rfl hne⟩
    clear hW hg hu hne
    go_enter Tryd.func12, Tryd.ntmps12
    go_wp2_with (go_at_call 35; refine HC.mono ?_; rintro e w' (⟨h1, rfl, h3⟩ | ⟨c, h1, rfl, h3, h4, h5⟩))
    · have H3 := Aside0.mk h3
      have H1 := Aside0.mk h1
      clear h3 h1
      go_wp2_with fail
      go_ret
      exact ⟨by rw [HE.out, H1.out]; rfl, HW.out.trans (H3.out.mono HW.out.size)⟩
    · have H1 := Aside0.mk h1
      have H5 := Aside0.mk h5
      clear h5 h1
      go_wp2_with fail
      go_ret
      exact ⟨by rw [HE.out, H1.out]; rfl, HW.out.trans (H5.out.toBelow HW.out.size (fun k hk => by subst hk; exact Nat.le_refl _))⟩
/-- What Place tells. -/
def placeN (e : Err) : Int := (placeIn e).getD 0
def placeB (e : Err) : Bool := (placeIn e).isSome
set_option maxHeartbeats 1000000 in
theorem place_any (e0 : Err) (u : Value) (w : World) (hg : Laid w) (hu : IsE w e0 u) :
    Calls Tryd.prog 25 #[u] w fun e w' => e = .returned (.tuple #[.int .i64 (placeN e0), .bool (placeB e0)]) ∧ Below w.heap.size w w' := by
  by_cases hne : e0 = .nil
  · subst hne
    obtain rfl : u = .nilIface := hu
    go_enter Tryd.func25, Tryd.ntmps25
    go_wp2_with (go_at_call 35; refine (errAs_nil _ _).mono ?_; rintro e w' ⟨rfl, rfl⟩)
    go_ret2
    exact ⟨rfl, (Below.refl _ _).alloc (Nat.le_refl _) _⟩
  · have hW : Below w.heap.size w (w.alloc (.cells #[.pointer none] 79)) := (Below.refl _ _).alloc (Nat.le_refl _) _
    have HC := errWhere_any e0 u ⟨w.heap.size, 0, none⟩ (.pointer none) w (w.alloc (.cells #[.pointer none] 79)) hW (hg.below hW) hu hne (by simp) (by simp)
    obtain ⟨uT, ux, rfl⟩ := hu.iface hne
    have HD : Calls Tryd.prog 35 #[.iface uT ux, .iface 80 (.pointer (some ⟨w.heap.size, 0, none⟩))] (w.alloc (.cells #[.pointer none] 79)) (fun e w' =>
        (placeIn e0 = none ∧ e = .returned (.bool false) ∧ Below w.heap.size w w') ∨ (∃ m a, placeIn e0 = some m ∧ e = .returned (.bool true) ∧ w'.cell? ⟨w.heap.size, 0, none⟩ = some (.pointer (some ⟨a, 0, none⟩)) ∧ w'.cell? ⟨a, 0, none⟩ = some (.int .i64 m) ∧ Below w.heap.size w w')) := by
      refine HC.mono ?_
      rintro e w' (⟨h1, h2, h3⟩ | ⟨m, a, u', h1, h2, h3, h4, h5, h6⟩)
      · exact .inl ⟨h1, h2, hW.trans (h3.mono hW.size)⟩
      · have hB := hW.trans (h6.toBelow hW.size (fun k hk => by subst hk; exact Nat.le_refl _))
        exact .inr ⟨m, a, h1, h2, h4, by rw [blk_cell (blk_below h3 hB)]; rfl, hB⟩
    clear HC hW hg hu hne
    go_enter Tryd.func25, Tryd.ntmps25
    go_wp2_with (go_at_call 35; refine HD.mono ?_; rintro e w' (⟨h1, rfl, h3⟩ | ⟨m, a, h1, rfl, h2, h3, h4⟩))
    · go_ret2
      exact ⟨by unfold placeN placeB; rw [h1]; rfl, h3⟩
    · go_ret2
      exact ⟨by unfold placeN placeB; rw [h1]; rfl, h4⟩
end Go.Proofs.YtodhnmflabehhaaDoor
namespace Go.Proofs.YtodhnmflabehhaaDoor
open Go.RowKit Go.Proofs.YtodhnmflabehhaaDoorW.PrintWords Go.Proofs.YtodhnmflabehhaaDoorW.PrintLast Go.Proofs.YtodhnmflabehhaaDoorW.PrintMore Hy

/-- One more of the row is set. -/
theorem set_fill (i L : Nat) (n : Int) (h : i < L) : (List.replicate i n ++ List.replicate (L - i) (0 : Int)).set i n = List.replicate (i + 1) n ++ List.replicate (L - (i + 1)) (0 : Int) := by
  rw [List.set_append_right _ _ (by simp), List.length_replicate, Nat.sub_self]
  obtain ⟨m, hm⟩ : ∃ m, L - i = m + 1 := ⟨L - i - 1, by omega⟩
  rw [hm, show L - (i + 1) = m by omega, List.replicate_succ, List.set_cons_zero, List.replicate_succ' (n := i), List.append_assoc]
  rfl
theorem fill_len (i L : Nat) (n : Int) (h : i ≤ L) : (List.replicate i n ++ List.replicate (L - i) (0 : Int)).length = L := by simp; omega
end Go.Proofs.YtodhnmflabehhaaDoor
namespace Go.Proofs.YtodhnmflabehhaaDoor
open Go.RowKit Go.Proofs.YtodhnmflabehhaaDoorW.PrintWords Go.Proofs.YtodhnmflabehhaaDoorW.PrintLast Go.Proofs.YtodhnmflabehhaaDoorW.PrintMore Hy

theorem xorPut_range (A : Option Addr) (c : Nat) (l : List Int) (w : World) (hl : 20000 < l.length) :
    Calls Tryd.prog 29 #[.slice A l.length c] w fun e w' => e = .returned (.tuple #[.string ⟨#[]⟩, .iface 37 (.int .i64 9)]) ∧ w' = w := by
  go_enter Tryd.func29, Tryd.ntmps29
  go_wp2_with fail
  go_ret2
  exact ⟨rfl, rfl⟩
theorem code9 (w : World) (hg : Laid w) : Calls Tryd.prog 12 #[.iface 37 (.int .i64 9)] w fun e w' => e = .returned (.int .i64 9) ∧ Below w.heap.size w w' := code_any (.code 9) _ w hg rfl
set_option maxHeartbeats 2000000 in
theorem xorMany_walk (more n : Int) (w : World) (hm0 : -9223372036854775808 ≤ more) (hm1 : more < 9223372036854775808) (hn0 : 0 ≤ n) (hn1 : n < 18446744073709551616) (hg : Laid w) :
    Calls Tryd.prog 8 #[.int .i64 more, .int .u64 n] w fun e w' => e = .returned (.bool true) ∧ Below w.heap.size w w' := by
  have HB := Aside0.mk (Below.refl w.heap.size w)
  have HG := Aside0.mk hg
  have HN := Aside0.mk (And.intro hn0 hn1)
  clear hg hn1
  by_cases hr : more < -1 ∨ 1 < more
  · by_cases hr2 : more < -1
    all_goals
      go_enter Tryd.func8, Tryd.ntmps8
      go_wp2_with (first
        | (go_at_call 27; refine (xor_first _).mono ?_; rintro e wb ⟨rfl, hb⟩; have HBn : Aside0 (Below w.heap.size w wb) := ⟨below_next (by repeat (first | (with_reducible exact HB.out) | apply below_alloc | apply pw_below_drewN | apply below_drew1)) hb⟩; clear HB hb; have HB := HBn; clear HBn))
      go_ret
      exact ⟨rfl, (by repeat (first | (with_reducible exact HB.out) | apply below_alloc | apply pw_below_drewN | apply below_drew1))⟩
  · have hr1 : ¬ more < -1 := by omega
    have hr2 : ¬ 1 < more := by omega
    obtain ⟨L, hL⟩ : ∃ L : Nat, 20000 + more = (L : Int) := ⟨(20000 + more).toNat, by omega⟩
    have hL0 : 19999 ≤ L := by omega
    have hL1 : L ≤ 20001 := by omega
    have HL := Aside0.mk hL
    clear hr
    go_enter Tryd.func8, Tryd.ntmps8
    go_wp2_with (first
      | (go_at_call 27; refine (xor_first _).mono ?_; rintro e wb ⟨rfl, hb⟩; have HBn : Aside0 (Below w.heap.size w wb) := ⟨below_next (by repeat (first | (with_reducible exact HB.out) | apply below_alloc | apply pw_below_drewN | apply below_drew1)) hb⟩; clear HB hb; have HB := HBn; clear HBn)
      | (refine Kd.R_make (Kd.int .u64) (w0 := w) w.heap.size 34 rfl (N := 22) rfl 60 (.tmp 21) (.tmp 21) rfl (L : Int) rfl rfl Tryd.underlying60 (.int .u64 0) 8 info_u64 rfl (by decide) (by omega) (0 : Int) (ok := fun _ => True) (okp := fun _ => False) rfl (fun _ hk => hk.elim) trivial (by omega) (by omega) (by repeat (first | (with_reducible exact HB.out) | apply below_alloc | apply pw_below_drewN | apply below_drew1)) (below_size (by repeat (first | (with_reducible exact HB.out) | apply below_alloc | apply pw_below_drewN | apply below_drew1))) ?_; intro va wa ho hb _ _; have HO := Aside0.mk ho; clear HB; have HB := Aside0.mk hb; clear ho hb))
    have ho := HO.out
    rw [Int.toNat_natCast] at ho
    obtain ⟨g, cap, hva, hg1, hg2, _⟩ := Kd.R_form ho (by rw [List.length_replicate]; omega)
    rw [List.length_replicate] at hva
    subst hva
    have HO2 : Aside0 (Kd.R (Kd.int .u64) 34 wa w.heap.size (fun _ => True) (.slice (some ⟨g, 0, none⟩) L cap) (List.replicate 0 n ++ List.replicate (L - 0) 0)) := ⟨ho⟩
    clear HO ho hg2
    go_loopw [6] (fun v6 w' => ∃ i : Nat, i ≤ L ∧ v6 = .int .i64 (i : Int) ∧ Aside0 (Kd.R (Kd.int .u64) 34 w' w.heap.size (fun _ => True) (.slice (some ⟨g, 0, none⟩) L cap) (List.replicate i n ++ List.replicate (L - i) 0)) ∧ Aside0 (Below w.heap.size w w')) (fun v6 _ => L - (intOf v6).toNat)
    case atStart => exact ⟨0, by omega, rfl, HO2, HB⟩
    case round =>
      clear HO2 HB
      obtain ⟨i, hi, rfl, HO, HB⟩ := hrel
      by_cases hlt : i < L
      · have hlen := fill_len i L n hi
        have ho := HO.out
        rw [show Value.slice (some ⟨g, 0, none⟩) L cap = .slice (some ⟨g, 0, none⟩) (List.replicate i n ++ List.replicate (L - i) (0 : Int)).length cap by rw [hlen]] at ho
        obtain ⟨hc, hf⟩ := Kd.R_cell (0 : Int) ho (i : Int) (by omega) (by rw [hlen]; omega)
        have hput := (Kd.R_put ho (i : Int) n).1
        rw [Int.toNat_natCast] at hc hf hput
        rw [set_fill i L n hlt, hlen] at hput
        have HP := Aside0.mk hput
        have HB2 := Aside0.mk (HB.out.setCell (p := ⟨g, i, none⟩) hg1 (.int .u64 n))
        clear hput ho hlen
        go_wp2_with fail
        go_roundw
        case rel => exact ⟨i + 1, by omega, by go_num, HP, HB2⟩
        case measure => simp [intOf]; omega
      · obtain rfl : i = L := by omega
        have ho := HO.out
        rw [Nat.sub_self, List.replicate_zero, List.append_nil] at ho
        obtain ⟨r1, r2, r3⟩ := R_C ho
        have hll : (List.replicate i n).length = i := List.length_replicate
        have hxs : ∀ x ∈ List.replicate i n, 0 ≤ x ∧ x < 18446744073709551616 := by intro x hx; rw [List.eq_of_mem_replicate hx]; exact HN.out
        have HC := Aside0.mk r1
        have HX := Aside0.mk hxs
        rw [hll] at r3
        clear ho HO hll hxs r1 r2
        by_cases hm : 0 < more
        · have HP : ∀ w', Calls Tryd.prog 29 #[.slice (some ⟨g, 0, none⟩) i cap] w' fun e w'' => e = .returned (.tuple #[.string ⟨#[]⟩, .iface 37 (.int .i64 9)]) ∧ w'' = w' := by
            intro w'
            have := xorPut_range (some ⟨g, 0, none⟩) cap (List.replicate i n) w' (by rw [List.length_replicate]; have := HL.out; omega)
            rw [List.length_replicate] at this
            exact this
          go_wp2_with (first
            | (go_at_call 29; refine (HP _).mono ?_; rintro e w' ⟨rfl, hw⟩; subst w')
            | (go_at_call 27; refine (xor_first _).mono ?_; rintro e wb ⟨rfl, hb⟩; have HBn : Aside0 (Below w.heap.size w wb) := ⟨below_next (by repeat (first | (with_reducible exact HB.out) | apply below_alloc | apply pw_below_drewN | apply below_drew1)) hb⟩; clear HB hb; have HB := HBn; clear HBn)
            | (go_at_call 12; refine (code9 _ (HG.out.below HB.out)).mono ?_; rintro e wb ⟨rfl, hb⟩; have HBn : Aside0 (Below w.heap.size w wb) := ⟨below_next (by repeat (first | (with_reducible exact HB.out) | apply below_alloc | apply pw_below_drewN | apply below_drew1)) hb⟩; clear HB hb; have HB := HBn; clear HBn))
          go_ret
          exact ⟨rfl, (by repeat (first | (with_reducible exact HB.out) | apply below_alloc | apply pw_below_drewN | apply below_drew1))⟩
        · have hi20 : i ≤ 20000 := by have := HL.out; omega
          have HP := fun w' h => xorPut_ok (some ⟨g, 0, none⟩) cap (List.replicate i n) w' h (by rw [List.length_replicate]; exact r3) (by rw [List.length_replicate]; exact hi20) HX.out
          rw [List.length_replicate] at HP
          have HK : Aside0 (ColX (colT (nat (List.replicate i n))) i (nat (List.replicate i n))) := ⟨by have := col_back _ (nat_u64 _ HX.out); rw [nat_length, List.length_replicate] at this; exact this⟩
          have hszT : (colT (nat (List.replicate i n))).size ≤ 200000 := by rw [colT_size]; have := encL_len (nat (List.replicate i n)); rw [nat_length, List.length_replicate] at this; omega
          have HCC := HC.out
          rw [List.length_replicate] at HCC
          have HC2 := Aside0.mk HCC
          clear HCC HC
          have HGet := fun w' => xorGet_ok (colT (nat (List.replicate i n))) (i : Int) (List.replicate i n) w' (by omega) (by omega) (by omega) HX.out (by rw [Int.toNat_natCast]; exact HK.out)
          rw [List.length_replicate] at HGet
          have HNums : ∀ w' A2 c2, Kd.C (Kd.int .u64) w' (some ⟨g, 0, none⟩) i (List.replicate i n) → Kd.C (Kd.int .u64) w' A2 i (List.replicate i n) → i ≤ c2 → Calls Tryd.prog 31 #[.slice (some ⟨g, 0, none⟩) i cap, .slice A2 i c2] w' fun e w'' => e = .returned (.bool true) ∧ Drawn0 w' w'' := by
            intro w' A2 c2 h1 h2 h3
            have := nums_any (some ⟨g, 0, none⟩) cap (List.replicate i n) A2 c2 (List.replicate i n) w' (by rw [List.length_replicate]; exact h1) (by rw [List.length_replicate]; exact r3) (by rw [List.length_replicate]; exact h2) (by rw [List.length_replicate]; exact h3) (by rw [List.length_replicate]; omega)
            rw [List.length_replicate, decide_eq_true rfl] at this
            exact this
          generalize colT (nat (List.replicate i n)) = T at *
          go_wp2_with (first
            | (go_at_call 29; refine (HP _ HC2.out).mono ?_; rintro e wb ⟨rfl, hb⟩; have HC3 := Aside0.mk (Kd.C_below HC2.out hb); have HBn : Aside0 (Below w.heap.size w wb) := ⟨below_next (by repeat (first | (with_reducible exact HB.out) | apply below_alloc | apply pw_below_drewN | apply below_drew1)) hb⟩; clear HB hb; have HB := HBn; clear HBn))
          refine (HGet _).mono ?_
          rintro e wc ⟨A2, c2, rfl, hC4, hc2, hb⟩
          have HC4 := Aside0.mk (Kd.C_below HC3.out hb)
          have HC5 := Aside0.mk hC4
          have HBn : Aside0 (Below w.heap.size w wc) := ⟨below_next HB.out hb⟩
          clear HB hb hC4
          have HB := HBn
          clear HBn
          go_wp2_with (first
            | (go_at_call 27; refine (xor_first _).mono ?_; rintro e wb ⟨rfl, hb⟩; have HC6 := Aside0.mk (Kd.C_below HC4.out hb); have HC7 := Aside0.mk (Kd.C_below HC5.out hb); have HBn : Aside0 (Below w.heap.size w wb) := ⟨below_next (by repeat (first | (with_reducible exact HB.out) | apply below_alloc | apply pw_below_drewN | apply below_drew1)) hb⟩; clear HB hb; have HB := HBn; clear HBn)
            | (go_at_call 31; refine (HNums _ _ _ HC6.out HC7.out hc2).mono ?_; rintro e wd ⟨rfl, ⟨nd, rfl⟩⟩))
          go_ret
          exact ⟨rfl, (by repeat (first | (with_reducible exact HB.out) | apply below_alloc | apply pw_below_drewN | apply below_drew1))⟩
end Go.Proofs.YtodhnmflabehhaaDoor
namespace Go.Proofs.YtodhnmflabehhaaDoor
open Go.RowKit

theorem seat_et : Tryd.prog.globalNamed "errors.errorType" = some 0 := by kernel_rfl
theorem seat_rt : (Tryd.prog.cutTypes.find? (·.1 == "internal/reflectlite.rtype")).map (·.2) = some 106 := by kernel_rfl
theorem seat_oneRow : ((List.range 146).filter fun t => Tryd.prog.rowNamed t [101, 114, 114, 111, 114]) = [32] := by kernel_rfl
theorem seat_size : Tryd.prog.types.size = 146 := by kernel_rfl
/-- What the condition gives a walk: the variable's one cell. -/
theorem laid_of {W : World} (h : laidMetH Tryd.prog [("errors.errorType", Rows.laid_errors_errorType)] W) : Laid W := by
  have h' : laidMet Tryd.prog [] W ∧ handlesMet Tryd.prog [("errors.errorType", Rows.laid_errors_errorType)] W := h
  obtain ⟨name, u, ty, e1, e2, e3, e4, e5⟩ := h'.2 _ (List.mem_singleton.2 rfl)
  have en : name = [101, 114, 114, 111, 114] := (Option.some.inj e1).symm
  subst en
  obtain rfl := Option.some.inj (seat_rt.symm.trans e2)
  have hm : ty ∈ (List.range 146).filter fun t => Tryd.prog.rowNamed t [101, 114, 114, 111, 114] := List.mem_filter.2 ⟨List.mem_range.2 (by rw [← seat_size]; exact e3), e4⟩
  rw [seat_oneRow] at hm
  obtain rfl := List.mem_singleton.1 hm
  have hh : typeHandle Tryd.prog 32 = .pointer (some ⟨1, 32, none⟩) := by kernel_rfl
  rw [hh] at e5
  unfold Laid
  simpa using World.var?_cell seat_et e5 0
/-- A world that meets the condition. -/
noncomputable def laidWorld (os : Os) : World :=
  let w0 := World.holding Tryd.prog os ⟨#[], #[], []⟩
  { w0 with heap := w0.heap.modify 0 fun
      | .cells _ t frozen => .cells #[.iface 106 (.agg #[.pointer (some ⟨1, 32, none⟩)])] t frozen
      | o => o }
theorem laidWorld_met (os : Os) (args : Array Value) : laidMetH Tryd.prog [("errors.errorType", Rows.laid_errors_errorType)] ((laidWorld os).forCall (fun _ _ => 0) ⟨#[], args, []⟩).memory :=
  laidMetH_of_parts (laidMet_nil _ _) (by kernel_rfl)
end Go.Proofs.YtodhnmflabehhaaDoor
