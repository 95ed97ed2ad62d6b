import Derived.Test.YtipgdjjmmfkfiaaDoorMonejfksd
import Derived.Test.YtipgdjjmmfkfiaaDoorRows
import Derived.LaidLaws
import Derived.LaidHandle
import Derived.Stop.Joined
namespace Go.Proofs.YtipgdjjmmfkfiaaDoor
open Go.RowKit Go.Proofs.YtipgdjjmmfkfiaaDoorW.PrintWords Go.Extern.Stop Go.Stop Go.Extern

def deep : Err → Nat
  | .at_ _ e => deep e + 1
  | .fld _ e => deep e + 1
  | _ => 0
/-- The code that an error has within; its outermost place. -/
def codeIn : Err → Option Int
  | .code c => some c
  | .at_ _ e => codeIn e
  | .fld _ e => codeIn e
  | _ => none
def placeIn : Err → Option Int
  | .at_ n _ => some n
  | .fld _ e => placeIn e
  | _ => none
def fldIn : Err → Option (Int × Err)
  | .at_ _ e => fldIn e
  | .fld n e => some (n, e)
  | _ => none
/-- The fields' numbers, the outermost first. -/
def fnums : Err → List Int
  | .at_ _ e => fnums e
  | .fld n e => n :: fnums e
  | _ => []
theorem fnums_of (e : Err) : fnums e = match fldIn e with
    | none => []
    | some (n, e') => n :: fnums e' := by
  induction e with
  | nil => rfl
  | code _ => rfl
  | at_ _ e ih => exact ih
  | fld _ _ _ => rfl
  | oth => rfl
theorem fldIn_deep {e e' : Err} {n : Int} (h : fldIn e = some (n, e')) : deep e' < deep e := by
  induction e with
  | nil => cases h
  | code _ => cases h
  | at_ _ e ih => have := ih h; simp only [deep]; omega
  | fld _ e _ => simp only [fldIn, Option.some.injEq, Prod.mk.injEq] at h; rw [h.2]; simp only [deep]; omega
  | oth => cases h
def codeOf : Err → Int
  | .nil => 0
  | e => (codeIn e).getD 14
/-- The variable errors.errorType as it is laid. -/
def Laid (w : World) : Prop := w.cell? ⟨0, 0, none⟩ = some (.iface 80 (.agg #[.pointer (some ⟨1, 26, none⟩)]))
theorem cell_lt {w : World} {a : Addr} {v : Value} (h : w.cell? a = some v) : a.block < w.heap.size := by
  rcases Nat.lt_or_ge a.block w.heap.size with hl | hl
  · exact hl
  · simp [World.cell?, Array.getElem?_eq_none hl] at h
theorem Laid.below {w w' : World} (h : Laid w) (hb : Below w.heap.size w w') : Laid w' := by
  unfold Laid at *
  rw [hb.cell (cell_lt h)]; exact h
theorem unwrapWhere_any (a : Nat) (n : Int) (u : Value) (w : World) (h : w.heap[a]? = some (.cells #[.int .i64 n, u] 46 (0, 0))) :
    Calls Tryd.prog 60 #[.pointer (some ⟨a, 0, none⟩)] w fun e w' => e = .returned u ∧ w' = w := by
  have c1 : w.cell? ⟨a, 1, none⟩ = some u := by rw [blk_cell h]; rfl
  clear h
  go_enter Tryd.func60, Tryd.ntmps60
  go_wp2
  go_ret
  exact ⟨rfl, rfl⟩
theorem unwrapField_any (a : Nat) (n : Int) (u : Value) (w : World) (h : w.heap[a]? = some (.cells #[.int .i64 n, u] 48 (0, 0))) :
    Calls Tryd.prog 62 #[.pointer (some ⟨a, 0, none⟩)] w fun e w' => e = .returned u ∧ w' = w := by
  have c1 : w.cell? ⟨a, 1, none⟩ = some u := by rw [blk_cell h]; rfl
  clear h
  go_enter Tryd.func62, Tryd.ntmps62
  go_wp2
  go_ret
  exact ⟨rfl, rfl⟩

/-! ### the target Code -/
def AsCode (e0 : Err) (t : Addr) (_w0 w : World) (e : Ending) (w' : World) : Prop :=
  (codeIn e0 = none ∧ e = .returned (.bool false) ∧ Below w.heap.size w w') ∨ (∃ c, codeIn e0 = some c ∧ e = .returned (.bool true) ∧ w'.cell? t = some (.int .i64 c) ∧ w'.frozen? t = false ∧ Kp (· = t.block) w w')
/-- What the setting of the target leaves. -/
theorem asCode_done (t b : Addr) (old x : Value) (y : Value) (w : World) (ht0 : w.cell? t = some old) (hf0 : w.frozen? t = false) (_hx : x.oneCell' = true) :
    ((((w.alloc (.cells #[.pointer (some ⟨1, 57, none⟩), .pointer (some b), .int .u64 150] 68)).alloc (.cells #[y] 22)).setCell t x).cell? t = some x) ∧ ((((w.alloc (.cells #[.pointer (some ⟨1, 57, none⟩), .pointer (some b), .int .u64 150] 68)).alloc (.cells #[y] 22)).setCell t x).frozen? t = false) ∧ Kp (· = t.block) w (((w.alloc (.cells #[.pointer (some ⟨1, 57, none⟩), .pointer (some b), .int .u64 150] 68)).alloc (.cells #[y] 22)).setCell t x) := by
  have hl := cell_lt ht0
  have h1 : ((w.alloc (.cells #[.pointer (some ⟨1, 57, none⟩), .pointer (some b), .int .u64 150] 68)).alloc (.cells #[y] 22)).cell? t = some old := by
    rw [World.cell?_alloc_lt _ _ t (by simp; omega), World.cell?_alloc_lt _ _ t hl]; exact ht0
  have h2 : ((w.alloc (.cells #[.pointer (some ⟨1, 57, none⟩), .pointer (some b), .int .u64 150] 68)).alloc (.cells #[y] 22)).frozen? t = false := by
    rw [World.frozen?_alloc_old _ _ t (by simp; omega), World.frozen?_alloc_old _ _ t (Nat.ne_of_lt hl)]; exact hf0
  exact ⟨by exact World.cell?_setCell_same _ _ _ h1, by rw [World.frozen?_setCell]; exact h2, Kp.set (M := fun k => k = t.block) (((Kp.refl _ w).alloc _).alloc _) (show t.block = t.block from rfl) x⟩

set_option maxHeartbeats 8000000 in
theorem asCode_any (e0 : Err) (u : Value) (t b : Addr) (old : Value) (w0 w : World) (h0 : Below w0.heap.size w0 w) (hu : IsE w0 e0 u) (hne : e0 ≠ .nil) (ht0 : w.cell? t = some old) (hf0 : w.frozen? t = false) (hb : w.cell? b = some (.pointer (some t))) :
    Calls Tryd.prog 32 #[u, .iface 57 (.pointer (some t)), .agg #[.pointer (some ⟨1, 57, none⟩), .pointer (some b), .int .u64 150], .iface 80 (.agg #[.pointer (some ⟨1, 22, none⟩)])] w (AsCode e0 t w0 w) := by
  obtain ⟨uT, ux, rfl⟩ := hu.iface hne
  have HU := Aside0.mk hu
  have HT := Aside0.mk (And.intro ht0 (And.intro hf0 hb))
  have HN := Aside0.mk hne
  have H0 := Aside0.mk h0
  clear hu ht0 hf0 hb hne h0
  have hT := @run_callFunc_extern Tryd.prog 27 _ (ReflectliteType.typeOf) Tryd.func27 (by kernel_rfl) (by kernel_rfl) (by kernel_rfl) (by kernel_rfl)
  have hA := @run_callFunc_extern Tryd.prog 68 _ (ReflectliteType.relation "AssignableTo" ReflectliteType.assignableTo) Tryd.func68 (by kernel_rfl) (by kernel_rfl) (by kernel_rfl) (by kernel_rfl)
  have hE := @run_callFunc_extern Tryd.prog 35 _ (ReflectliteValue.method (ReflectliteValue.valueError "reflectlite.Value.Elem" 0) ReflectliteValue.elem) Tryd.func35 (by kernel_rfl) (by kernel_rfl) (by kernel_rfl) (by kernel_rfl)
  have hV := @run_callFunc_extern Tryd.prog 29 _ (fun args => ReflectliteValue.unpack (args.getD 0 (.tuple #[]))) Tryd.func29 (by kernel_rfl) (by kernel_rfl) (by kernel_rfl) (by kernel_rfl)
  have hS := @run_callFunc_extern Tryd.prog 36 _ (ReflectliteValue.set) Tryd.func36 (by kernel_rfl) (by kernel_rfl) (by kernel_rfl) (by kernel_rfl)
  have mA := asMethod_AssignableTo
  go_enter Tryd.func32, Tryd.ntmps32
  go_wp2_with fail
  go_loopg [0] (deep e0) (fun k v wr => wr = w.alloc (.cells #[.pointer (some ⟨1, 57, none⟩), .pointer (some b), .int .u64 150] 68) ∧ ∃ e1 : Err, e1 ≠ .nil ∧ deep e1 ≤ k ∧ Aside0 (codeIn e1 = codeIn e0) ∧ Aside0 (IsE w0 e1 v))
  case atStart => exact ⟨rfl, e0, HN.out, Nat.le_refl _, ⟨rfl⟩, HU⟩
  case round =>
    clear HU HN
    obtain ⟨rfl, e1, hn1, hk, HF, HU⟩ := hrel
    cases e1 with
    | nil => exact absurd rfl hn1
    | oth =>
      clear hn1 hk
      obtain ⟨a, s, rfl, ha⟩ := HU.out
      clear HU ha
      have aX := asCode_fromOth
      have tO := asOth_typeOf
      have q1 := asOth_noAs
      have q2 := asOth_noUnwrap
      have q3 := asOth_noUnwraps
      go_wp2
      go_ret
      exact .inl ⟨by rw [← HF.out]; rfl, rfl, (Below.refl _ _).alloc (Nat.le_refl _) _⟩
    | fld m e' =>
      clear hn1
      obtain ⟨a, u, rfl, ha, hu⟩ := HU.out
      have HA := Aside0.mk ha
      clear HU ha
      have aX := asCode_fromField
      have tO := asField_typeOf
      have q1 := asField_noAs
      have q2 := asField_hasUnwrap
      have q3 := asField_unwrapM
      have HU2 := Aside0.mk hu
      clear hu
      by_cases he : e' = .nil
      · subst he
        obtain rfl : u = .nilIface := HU2.out
        go_wp2_with (go_at_call 62; refine (unwrapField_any a m _ _ (blk_below (blk_below HA.out H0.out) ((Below.refl _ _).alloc (Nat.le_refl _) _))).mono ?_; rintro e w' ⟨rfl, rfl⟩)
        go_ret
        exact .inl ⟨by rw [← HF.out]; rfl, rfl, (Below.refl _ _).alloc (Nat.le_refl _) _⟩
      · obtain ⟨vT, vx, rfl⟩ := HU2.out.iface he
        have HN := Aside0.mk he
        clear he
        go_wp2_with (go_at_call 62; refine (unwrapField_any a m _ _ (blk_below (blk_below HA.out H0.out) ((Below.refl _ _).alloc (Nat.le_refl _) _))).mono ?_; rintro e w' ⟨rfl, rfl⟩)
        go_roundg (deep e')
        case rel => exact ⟨rfl, e', HN.out, Nat.le_refl _, HF, HU2⟩
        case measure => simp [deep] at hk; omega
    | code c =>
      clear hn1 hk
      obtain rfl := HU.out
      clear HU
      have el := asCode_elemV b t (w.alloc (.cells #[.pointer (some ⟨1, 57, none⟩), .pointer (some b), .int .u64 150] 68)) (by rw [World.cell?_alloc_lt _ _ b (cell_lt HT.out.2.2)]; exact HT.out.2.2)
      have st := asCode_set t ⟨w.heap.size + 1, 0, none⟩ (c) old ((w.alloc (.cells #[.pointer (some ⟨1, 57, none⟩), .pointer (some b), .int .u64 150] 68)).alloc (.cells #[.int .i64 c] 22))
        (by rw [World.cell?_alloc_at _ _ _ _ (by simp)]; rfl)
        (by rw [World.cell?_alloc_lt _ _ t (by have := cell_lt HT.out.1; simp; omega), World.cell?_alloc_lt _ _ t (cell_lt HT.out.1)]; exact HT.out.1)
        (by rw [World.frozen?_alloc_old _ _ t (by have := cell_lt HT.out.1; simp; omega), World.frozen?_alloc_old _ _ t (Nat.ne_of_lt (cell_lt HT.out.1))]; exact HT.out.2.1)
      have aX := asCode_fromCode
      have vO := asCode_valueOf
      have tO := asCode_typeOf
      go_wp2
      go_ret
      obtain ⟨r1, r2, r3⟩ := asCode_done t b old (.int .i64 c) (.int .i64 c) w HT.out.1 HT.out.2.1 rfl
      exact .inr ⟨c, by rw [← HF.out]; rfl, rfl, r1, r2, r3⟩
    | at_ m e' =>
      clear hn1
      obtain ⟨a, u, rfl, ha, hu⟩ := HU.out
      have HA := Aside0.mk ha
      clear HU ha
      have aX := asCode_fromWhere
      have tO := asWhere_typeOf
      have q1 := asWhere_noAs
      have q2 := asWhere_hasUnwrap
      have q3 := asWhere_unwrapM
      have HU2 := Aside0.mk hu
      clear hu
      by_cases he : e' = .nil
      · subst he
        obtain rfl : u = .nilIface := HU2.out
        go_wp2_with (go_at_call 60; refine (unwrapWhere_any a m _ _ (blk_below (blk_below HA.out H0.out) ((Below.refl _ _).alloc (Nat.le_refl _) _))).mono ?_; rintro e w' ⟨rfl, rfl⟩)
        go_ret
        exact .inl ⟨by rw [← HF.out]; rfl, rfl, (Below.refl _ _).alloc (Nat.le_refl _) _⟩
      · obtain ⟨vT, vx, rfl⟩ := HU2.out.iface he
        have HN := Aside0.mk he
        clear he
        go_wp2_with (go_at_call 60; refine (unwrapWhere_any a m _ _ (blk_below (blk_below HA.out H0.out) ((Below.refl _ _).alloc (Nat.le_refl _) _))).mono ?_; rintro e w' ⟨rfl, rfl⟩)
        go_roundg (deep e')
        case rel => exact ⟨rfl, e', HN.out, Nat.le_refl _, HF, HU2⟩
        case measure => simp [deep] at hk; omega

/-! ### the target Where -/
def AsWhere (e0 : Err) (t : Addr) (w0 w : World) (e : Ending) (w' : World) : Prop :=
  (placeIn e0 = none ∧ e = .returned (.bool false) ∧ Below w.heap.size w w') ∨ (∃ n a u, placeIn e0 = some n ∧ e = .returned (.bool true) ∧ w0.heap[a]? = some (.cells #[.int .i64 n, u] 46 (0, 0)) ∧ w'.cell? t = some (.pointer (some ⟨a, 0, none⟩)) ∧ w'.frozen? t = false ∧ Kp (· = t.block) w w')
/-- What the setting of the target leaves. -/
theorem asWhere_done (t b : Addr) (old x : Value) (y : Value) (w : World) (ht0 : w.cell? t = some old) (hf0 : w.frozen? t = false) (_hx : x.oneCell' = true) :
    ((((w.alloc (.cells #[.pointer (some ⟨1, 43, none⟩), .pointer (some b), .int .u64 150] 68)).alloc (.cells #[y] 40)).setCell t x).cell? t = some x) ∧ ((((w.alloc (.cells #[.pointer (some ⟨1, 43, none⟩), .pointer (some b), .int .u64 150] 68)).alloc (.cells #[y] 40)).setCell t x).frozen? t = false) ∧ Kp (· = t.block) w (((w.alloc (.cells #[.pointer (some ⟨1, 43, none⟩), .pointer (some b), .int .u64 150] 68)).alloc (.cells #[y] 40)).setCell t x) := by
  have hl := cell_lt ht0
  have h1 : ((w.alloc (.cells #[.pointer (some ⟨1, 43, none⟩), .pointer (some b), .int .u64 150] 68)).alloc (.cells #[y] 40)).cell? t = some old := by
    rw [World.cell?_alloc_lt _ _ t (by simp; omega), World.cell?_alloc_lt _ _ t hl]; exact ht0
  have h2 : ((w.alloc (.cells #[.pointer (some ⟨1, 43, none⟩), .pointer (some b), .int .u64 150] 68)).alloc (.cells #[y] 40)).frozen? t = false := by
    rw [World.frozen?_alloc_old _ _ t (by simp; omega), World.frozen?_alloc_old _ _ t (Nat.ne_of_lt hl)]; exact hf0
  exact ⟨by exact World.cell?_setCell_same _ _ _ h1, by rw [World.frozen?_setCell]; exact h2, Kp.set (M := fun k => k = t.block) (((Kp.refl _ w).alloc _).alloc _) (show t.block = t.block from rfl) x⟩

set_option maxHeartbeats 8000000 in
theorem asWhere_any (e0 : Err) (u : Value) (t b : Addr) (old : Value) (w0 w : World) (h0 : Below w0.heap.size w0 w) (hu : IsE w0 e0 u) (hne : e0 ≠ .nil) (ht0 : w.cell? t = some old) (hf0 : w.frozen? t = false) (hb : w.cell? b = some (.pointer (some t))) :
    Calls Tryd.prog 32 #[u, .iface 43 (.pointer (some t)), .agg #[.pointer (some ⟨1, 43, none⟩), .pointer (some b), .int .u64 150], .iface 80 (.agg #[.pointer (some ⟨1, 40, none⟩)])] w (AsWhere e0 t w0 w) := by
  obtain ⟨uT, ux, rfl⟩ := hu.iface hne
  have HU := Aside0.mk hu
  have HT := Aside0.mk (And.intro ht0 (And.intro hf0 hb))
  have HN := Aside0.mk hne
  have H0 := Aside0.mk h0
  clear hu ht0 hf0 hb hne h0
  have hT := @run_callFunc_extern Tryd.prog 27 _ (ReflectliteType.typeOf) Tryd.func27 (by kernel_rfl) (by kernel_rfl) (by kernel_rfl) (by kernel_rfl)
  have hA := @run_callFunc_extern Tryd.prog 68 _ (ReflectliteType.relation "AssignableTo" ReflectliteType.assignableTo) Tryd.func68 (by kernel_rfl) (by kernel_rfl) (by kernel_rfl) (by kernel_rfl)
  have hE := @run_callFunc_extern Tryd.prog 35 _ (ReflectliteValue.method (ReflectliteValue.valueError "reflectlite.Value.Elem" 0) ReflectliteValue.elem) Tryd.func35 (by kernel_rfl) (by kernel_rfl) (by kernel_rfl) (by kernel_rfl)
  have hV := @run_callFunc_extern Tryd.prog 29 _ (fun args => ReflectliteValue.unpack (args.getD 0 (.tuple #[]))) Tryd.func29 (by kernel_rfl) (by kernel_rfl) (by kernel_rfl) (by kernel_rfl)
  have hS := @run_callFunc_extern Tryd.prog 36 _ (ReflectliteValue.set) Tryd.func36 (by kernel_rfl) (by kernel_rfl) (by kernel_rfl) (by kernel_rfl)
  have mA := asMethod_AssignableTo
  go_enter Tryd.func32, Tryd.ntmps32
  go_wp2_with fail
  go_loopg [0] (deep e0) (fun k v wr => wr = w.alloc (.cells #[.pointer (some ⟨1, 43, none⟩), .pointer (some b), .int .u64 150] 68) ∧ ∃ e1 : Err, e1 ≠ .nil ∧ deep e1 ≤ k ∧ Aside0 (placeIn e1 = placeIn e0) ∧ Aside0 (IsE w0 e1 v))
  case atStart => exact ⟨rfl, e0, HN.out, Nat.le_refl _, ⟨rfl⟩, HU⟩
  case round =>
    clear HU HN
    obtain ⟨rfl, e1, hn1, hk, HF, HU⟩ := hrel
    cases e1 with
    | nil => exact absurd rfl hn1
    | oth =>
      clear hn1 hk
      obtain ⟨a, s, rfl, ha⟩ := HU.out
      clear HU ha
      have aX := asWhere_fromOth
      have tO := asOth_typeOf
      have q1 := asOth_noAs
      have q2 := asOth_noUnwrap
      have q3 := asOth_noUnwraps
      go_wp2
      go_ret
      exact .inl ⟨by rw [← HF.out]; rfl, rfl, (Below.refl _ _).alloc (Nat.le_refl _) _⟩
    | fld m e' =>
      clear hn1
      obtain ⟨a, u, rfl, ha, hu⟩ := HU.out
      have HA := Aside0.mk ha
      clear HU ha
      have aX := asWhere_fromField
      have tO := asField_typeOf
      have q1 := asField_noAs
      have q2 := asField_hasUnwrap
      have q3 := asField_unwrapM
      have HU2 := Aside0.mk hu
      clear hu
      by_cases he : e' = .nil
      · subst he
        obtain rfl : u = .nilIface := HU2.out
        go_wp2_with (go_at_call 62; refine (unwrapField_any a m _ _ (blk_below (blk_below HA.out H0.out) ((Below.refl _ _).alloc (Nat.le_refl _) _))).mono ?_; rintro e w' ⟨rfl, rfl⟩)
        go_ret
        exact .inl ⟨by rw [← HF.out]; rfl, rfl, (Below.refl _ _).alloc (Nat.le_refl _) _⟩
      · obtain ⟨vT, vx, rfl⟩ := HU2.out.iface he
        have HN := Aside0.mk he
        clear he
        go_wp2_with (go_at_call 62; refine (unwrapField_any a m _ _ (blk_below (blk_below HA.out H0.out) ((Below.refl _ _).alloc (Nat.le_refl _) _))).mono ?_; rintro e w' ⟨rfl, rfl⟩)
        go_roundg (deep e')
        case rel => exact ⟨rfl, e', HN.out, Nat.le_refl _, HF, HU2⟩
        case measure => simp [deep] at hk; omega
    | code c =>
      clear hn1 hk
      obtain rfl := HU.out
      clear HU
      have aX := asWhere_fromCode
      have tO := asCode_typeOf
      have q1 := asCode_noAs
      have q2 := asCode_noUnwrap
      have q3 := asCode_noUnwraps
      go_wp2
      go_ret
      exact .inl ⟨by rw [← HF.out]; rfl, rfl, (Below.refl _ _).alloc (Nat.le_refl _) _⟩
    | at_ m e' =>
      clear hn1
      obtain ⟨a, u, rfl, ha, hu⟩ := HU.out
      have HA := Aside0.mk ha
      clear HU ha
      clear hu
      have el := asWhere_elemV b t (w.alloc (.cells #[.pointer (some ⟨1, 43, none⟩), .pointer (some b), .int .u64 150] 68)) (by rw [World.cell?_alloc_lt _ _ b (cell_lt HT.out.2.2)]; exact HT.out.2.2)
      have st := asWhere_set t ⟨w.heap.size + 1, 0, none⟩ (⟨a, 0, none⟩) old ((w.alloc (.cells #[.pointer (some ⟨1, 43, none⟩), .pointer (some b), .int .u64 150] 68)).alloc (.cells #[.pointer (some ⟨a, 0, none⟩)] 40))
        (by rw [World.cell?_alloc_at _ _ _ _ (by simp)]; rfl)
        (by rw [World.cell?_alloc_lt _ _ t (by have := cell_lt HT.out.1; simp; omega), World.cell?_alloc_lt _ _ t (cell_lt HT.out.1)]; exact HT.out.1)
        (by rw [World.frozen?_alloc_old _ _ t (by have := cell_lt HT.out.1; simp; omega), World.frozen?_alloc_old _ _ t (Nat.ne_of_lt (cell_lt HT.out.1))]; exact HT.out.2.1)
      have aX := asWhere_fromWhere
      have vO := asWhere_valueOf
      have tO := asWhere_typeOf
      go_wp2
      go_ret
      obtain ⟨r1, r2, r3⟩ := asWhere_done t b old (.pointer (some ⟨a, 0, none⟩)) (.pointer (some ⟨a, 0, none⟩)) w HT.out.1 HT.out.2.1 rfl
      exact .inr ⟨m, a, u, by rw [← HF.out]; rfl, rfl, HA.out, r1, r2, r3⟩

/-! ### the target Field -/
def AsField (e0 : Err) (t : Addr) (w0 w : World) (e : Ending) (w' : World) : Prop :=
  (fldIn e0 = none ∧ e = .returned (.bool false) ∧ Below w.heap.size w w') ∨ (∃ n e' a u, fldIn e0 = some (n, e') ∧ e = .returned (.bool true) ∧ w0.heap[a]? = some (.cells #[.int .i64 n, u] 48 (0, 0)) ∧ IsE w0 e' u ∧ w'.cell? t = some (.pointer (some ⟨a, 0, none⟩)) ∧ w'.frozen? t = false ∧ Kp (· = t.block) w w')
/-- What the setting of the target leaves. -/
theorem asField_done (t b : Addr) (old x : Value) (y : Value) (w : World) (ht0 : w.cell? t = some old) (hf0 : w.frozen? t = false) (_hx : x.oneCell' = true) :
    ((((w.alloc (.cells #[.pointer (some ⟨1, 44, none⟩), .pointer (some b), .int .u64 150] 68)).alloc (.cells #[y] 41)).setCell t x).cell? t = some x) ∧ ((((w.alloc (.cells #[.pointer (some ⟨1, 44, none⟩), .pointer (some b), .int .u64 150] 68)).alloc (.cells #[y] 41)).setCell t x).frozen? t = false) ∧ Kp (· = t.block) w (((w.alloc (.cells #[.pointer (some ⟨1, 44, none⟩), .pointer (some b), .int .u64 150] 68)).alloc (.cells #[y] 41)).setCell t x) := by
  have hl := cell_lt ht0
  have h1 : ((w.alloc (.cells #[.pointer (some ⟨1, 44, none⟩), .pointer (some b), .int .u64 150] 68)).alloc (.cells #[y] 41)).cell? t = some old := by
    rw [World.cell?_alloc_lt _ _ t (by simp; omega), World.cell?_alloc_lt _ _ t hl]; exact ht0
  have h2 : ((w.alloc (.cells #[.pointer (some ⟨1, 44, none⟩), .pointer (some b), .int .u64 150] 68)).alloc (.cells #[y] 41)).frozen? t = false := by
    rw [World.frozen?_alloc_old _ _ t (by simp; omega), World.frozen?_alloc_old _ _ t (Nat.ne_of_lt hl)]; exact hf0
  exact ⟨by exact World.cell?_setCell_same _ _ _ h1, by rw [World.frozen?_setCell]; exact h2, Kp.set (M := fun k => k = t.block) (((Kp.refl _ w).alloc _).alloc _) (show t.block = t.block from rfl) x⟩

set_option maxHeartbeats 8000000 in
theorem asField_any (e0 : Err) (u : Value) (t b : Addr) (old : Value) (w0 w : World) (h0 : Below w0.heap.size w0 w) (hu : IsE w0 e0 u) (hne : e0 ≠ .nil) (ht0 : w.cell? t = some old) (hf0 : w.frozen? t = false) (hb : w.cell? b = some (.pointer (some t))) :
    Calls Tryd.prog 32 #[u, .iface 44 (.pointer (some t)), .agg #[.pointer (some ⟨1, 44, none⟩), .pointer (some b), .int .u64 150], .iface 80 (.agg #[.pointer (some ⟨1, 41, none⟩)])] w (AsField e0 t w0 w) := by
  obtain ⟨uT, ux, rfl⟩ := hu.iface hne
  have HU := Aside0.mk hu
  have HT := Aside0.mk (And.intro ht0 (And.intro hf0 hb))
  have HN := Aside0.mk hne
  have H0 := Aside0.mk h0
  clear hu ht0 hf0 hb hne h0
  have hT := @run_callFunc_extern Tryd.prog 27 _ (ReflectliteType.typeOf) Tryd.func27 (by kernel_rfl) (by kernel_rfl) (by kernel_rfl) (by kernel_rfl)
  have hA := @run_callFunc_extern Tryd.prog 68 _ (ReflectliteType.relation "AssignableTo" ReflectliteType.assignableTo) Tryd.func68 (by kernel_rfl) (by kernel_rfl) (by kernel_rfl) (by kernel_rfl)
  have hE := @run_callFunc_extern Tryd.prog 35 _ (ReflectliteValue.method (ReflectliteValue.valueError "reflectlite.Value.Elem" 0) ReflectliteValue.elem) Tryd.func35 (by kernel_rfl) (by kernel_rfl) (by kernel_rfl) (by kernel_rfl)
  have hV := @run_callFunc_extern Tryd.prog 29 _ (fun args => ReflectliteValue.unpack (args.getD 0 (.tuple #[]))) Tryd.func29 (by kernel_rfl) (by kernel_rfl) (by kernel_rfl) (by kernel_rfl)
  have hS := @run_callFunc_extern Tryd.prog 36 _ (ReflectliteValue.set) Tryd.func36 (by kernel_rfl) (by kernel_rfl) (by kernel_rfl) (by kernel_rfl)
  have mA := asMethod_AssignableTo
  go_enter Tryd.func32, Tryd.ntmps32
  go_wp2_with fail
  go_loopg [0] (deep e0) (fun k v wr => wr = w.alloc (.cells #[.pointer (some ⟨1, 44, none⟩), .pointer (some b), .int .u64 150] 68) ∧ ∃ e1 : Err, e1 ≠ .nil ∧ deep e1 ≤ k ∧ Aside0 (fldIn e1 = fldIn e0) ∧ Aside0 (IsE w0 e1 v))
  case atStart => exact ⟨rfl, e0, HN.out, Nat.le_refl _, ⟨rfl⟩, HU⟩
  case round =>
    clear HU HN
    obtain ⟨rfl, e1, hn1, hk, HF, HU⟩ := hrel
    cases e1 with
    | nil => exact absurd rfl hn1
    | oth =>
      clear hn1 hk
      obtain ⟨a, s, rfl, ha⟩ := HU.out
      clear HU ha
      have aX := asField_fromOth
      have tO := asOth_typeOf
      have q1 := asOth_noAs
      have q2 := asOth_noUnwrap
      have q3 := asOth_noUnwraps
      go_wp2
      go_ret
      exact .inl ⟨by rw [← HF.out]; rfl, rfl, (Below.refl _ _).alloc (Nat.le_refl _) _⟩
    | fld m e' =>
      clear hn1
      obtain ⟨a, u, rfl, ha, hu⟩ := HU.out
      have HA := Aside0.mk ha
      clear HU ha
      have HU2 := Aside0.mk hu
      clear hu
      have el := asField_elemV b t (w.alloc (.cells #[.pointer (some ⟨1, 44, none⟩), .pointer (some b), .int .u64 150] 68)) (by rw [World.cell?_alloc_lt _ _ b (cell_lt HT.out.2.2)]; exact HT.out.2.2)
      have st := asField_set t ⟨w.heap.size + 1, 0, none⟩ (⟨a, 0, none⟩) old ((w.alloc (.cells #[.pointer (some ⟨1, 44, none⟩), .pointer (some b), .int .u64 150] 68)).alloc (.cells #[.pointer (some ⟨a, 0, none⟩)] 41))
        (by rw [World.cell?_alloc_at _ _ _ _ (by simp)]; rfl)
        (by rw [World.cell?_alloc_lt _ _ t (by have := cell_lt HT.out.1; simp; omega), World.cell?_alloc_lt _ _ t (cell_lt HT.out.1)]; exact HT.out.1)
        (by rw [World.frozen?_alloc_old _ _ t (by have := cell_lt HT.out.1; simp; omega), World.frozen?_alloc_old _ _ t (Nat.ne_of_lt (cell_lt HT.out.1))]; exact HT.out.2.1)
      have aX := asField_fromField
      have vO := asField_valueOf
      have tO := asField_typeOf
      go_wp2
      go_ret
      obtain ⟨r1, r2, r3⟩ := asField_done t b old (.pointer (some ⟨a, 0, none⟩)) (.pointer (some ⟨a, 0, none⟩)) w HT.out.1 HT.out.2.1 rfl
      exact .inr ⟨m, e', a, u, by rw [← HF.out]; rfl, rfl, HA.out, HU2.out, r1, r2, r3⟩
    | code c =>
      clear hn1 hk
      obtain rfl := HU.out
      clear HU
      have aX := asField_fromCode
      have tO := asCode_typeOf
      have q1 := asCode_noAs
      have q2 := asCode_noUnwrap
      have q3 := asCode_noUnwraps
      go_wp2
      go_ret
      exact .inl ⟨by rw [← HF.out]; rfl, rfl, (Below.refl _ _).alloc (Nat.le_refl _) _⟩
    | at_ m e' =>
      clear hn1
      obtain ⟨a, u, rfl, ha, hu⟩ := HU.out
      have HA := Aside0.mk ha
      clear HU ha
      have aX := asField_fromWhere
      have tO := asWhere_typeOf
      have q1 := asWhere_noAs
      have q2 := asWhere_hasUnwrap
      have q3 := asWhere_unwrapM
      have HU2 := Aside0.mk hu
      clear hu
      by_cases he : e' = .nil
      · subst he
        obtain rfl : u = .nilIface := HU2.out
        go_wp2_with (go_at_call 60; refine (unwrapWhere_any a m _ _ (blk_below (blk_below HA.out H0.out) ((Below.refl _ _).alloc (Nat.le_refl _) _))).mono ?_; rintro e w' ⟨rfl, rfl⟩)
        go_ret
        exact .inl ⟨by rw [← HF.out]; rfl, rfl, (Below.refl _ _).alloc (Nat.le_refl _) _⟩
      · obtain ⟨vT, vx, rfl⟩ := HU2.out.iface he
        have HN := Aside0.mk he
        clear he
        go_wp2_with (go_at_call 60; refine (unwrapWhere_any a m _ _ (blk_below (blk_below HA.out H0.out) ((Below.refl _ _).alloc (Nat.le_refl _) _))).mono ?_; rintro e w' ⟨rfl, rfl⟩)
        go_roundg (deep e')
        case rel => exact ⟨rfl, e', HN.out, Nat.le_refl _, HF, HU2⟩
        case measure => simp [deep] at hk; omega
set_option maxHeartbeats 4000000 in
theorem errCode_any (e0 : Err) (u : Value) (t : Addr) (old : Value) (w0 w : World) (h0 : Below w0.heap.size w0 w) (hg : Laid w) (hu : IsE w0 e0 u) (hne : e0 ≠ .nil) (ht0 : w.cell? t = some old) (hf0 : w.frozen? t = false) :
    Calls Tryd.prog 18 #[u, .iface 57 (.pointer (some t))] w (AsCode e0 t w0 w) := by
  have hlt := cell_lt ht0
  have hW : Below w.heap.size w ((w.alloc (.cells #[.pointer (some t)] 57)).alloc (.cells #[.pointer (some ⟨1, 57, none⟩), .pointer (some ⟨w.heap.size, 0, none⟩), .int .u64 150] 68)) := ((Below.refl _ _).alloc (Nat.le_refl _) _).alloc (by simp) _
  have hg2 := hg.below hW
  unfold Laid at hg2
  have ht2 : ((w.alloc (.cells #[.pointer (some t)] 57)).alloc (.cells #[.pointer (some ⟨1, 57, none⟩), .pointer (some ⟨w.heap.size, 0, none⟩), .int .u64 150] 68)).cell? t = some old := by rw [hW.cell hlt]; exact ht0
  have hf2 : ((w.alloc (.cells #[.pointer (some t)] 57)).alloc (.cells #[.pointer (some ⟨1, 57, none⟩), .pointer (some ⟨w.heap.size, 0, none⟩), .int .u64 150] 68)).frozen? t = false := by rw [hW.frozen hlt]; exact hf0
  have hc2 : ((w.alloc (.cells #[.pointer (some t)] 57)).alloc (.cells #[.pointer (some ⟨1, 57, none⟩), .pointer (some ⟨w.heap.size, 0, none⟩), .int .u64 150] 68)).cell? ⟨w.heap.size, 0, none⟩ = some (.pointer (some t)) := by simp
  have HC := asCode_any e0 u t ⟨w.heap.size, 0, none⟩ old w0 ((w.alloc (.cells #[.pointer (some t)] 57)).alloc (.cells #[.pointer (some ⟨1, 57, none⟩), .pointer (some ⟨w.heap.size, 0, none⟩), .int .u64 150] 68)) (h0.trans (hW.mono h0.size)) hu hne ht2 hf2 hc2
  obtain ⟨uT, ux, rfl⟩ := hu.iface hne
  have HW := Aside0.mk hW
  have n8 := asCode_isNil ⟨w.heap.size, 0, none⟩ t ((w.alloc (.cells #[.pointer (some t)] 57)).alloc (.cells #[.pointer (some ⟨1, 57, none⟩), .pointer (some ⟨w.heap.size, 0, none⟩), .int .u64 150] 68)) hc2
  clear h0 hg hu hne ht0 hf0 hlt hW ht2 hf2 hc2
  have hV := @run_callFunc_extern Tryd.prog 29 _ (fun args => ReflectliteValue.unpack (args.getD 0 (.tuple #[]))) Tryd.func29 (by kernel_rfl) (by kernel_rfl) (by kernel_rfl) (by kernel_rfl)
  have hTy := @run_callFunc_extern Tryd.prog 30 _ (ReflectliteValue.methodAny (ReflectliteValue.valueError "reflectlite.Value.Type" 0) (fun t _ _ _ => ReflectliteType.toType t)) Tryd.func30 (by kernel_rfl) (by kernel_rfl) (by kernel_rfl) (by kernel_rfl)
  have hN := @run_callFunc_extern Tryd.prog 31 _ (ReflectliteValue.method (ReflectliteValue.valueError "reflectlite.Value.IsNil" 0) ReflectliteValue.isNil) Tryd.func31 (by kernel_rfl) (by kernel_rfl) (by kernel_rfl) (by kernel_rfl)
  have hK := @run_callFunc_extern Tryd.prog 55 _ (ReflectliteType.abiMethod fun t => do pure (.int .u8 (← Rtype.kind t))) Tryd.func55 (by kernel_rfl) (by kernel_rfl) (by kernel_rfl) (by kernel_rfl)
  have hEl := @run_callFunc_extern Tryd.prog 70 _ (ReflectliteType.method ReflectliteType.elem) Tryd.func70 (by kernel_rfl) (by kernel_rfl) (by kernel_rfl) (by kernel_rfl)
  have hI := @run_callFunc_extern Tryd.prog 71 _ (ReflectliteType.relation "Implements" ReflectliteType.implements_) Tryd.func71 (by kernel_rfl) (by kernel_rfl) (by kernel_rfl) (by kernel_rfl)
  have f6 := asCode_valueOfP
  have f7 := asCode_type
  have mK := asMethod_Kind
  have mE := asMethod_Elem
  have mI := asMethod_Implements
  have kP := asCode_kindP
  have kD := asCode_kind
  have eD := asCode_elem
  have iD := asCode_implements
  go_enter Tryd.func18, Tryd.ntmps18
  go_wp2_with (go_at_call 32; refine HC.mono ?_; rintro e w' (⟨h1, rfl, h3⟩ | ⟨c, h1, rfl, h3, h4, h5⟩))
  · go_ret
    exact .inl ⟨h1, rfl, HW.out.trans (h3.mono HW.out.size)⟩
  · go_ret
    exact .inr ⟨c, h1, rfl, h3, h4, (Kp.ofBelow HW.out).trans h5⟩
set_option maxHeartbeats 4000000 in
theorem errWhere_any (e0 : Err) (u : Value) (t : Addr) (old : Value) (w0 w : World) (h0 : Below w0.heap.size w0 w) (hg : Laid w) (hu : IsE w0 e0 u) (hne : e0 ≠ .nil) (ht0 : w.cell? t = some old) (hf0 : w.frozen? t = false) :
    Calls Tryd.prog 18 #[u, .iface 43 (.pointer (some t))] w (AsWhere e0 t w0 w) := by
  have hlt := cell_lt ht0
  have hW : Below w.heap.size w ((w.alloc (.cells #[.pointer (some t)] 43)).alloc (.cells #[.pointer (some ⟨1, 43, none⟩), .pointer (some ⟨w.heap.size, 0, none⟩), .int .u64 150] 68)) := ((Below.refl _ _).alloc (Nat.le_refl _) _).alloc (by simp) _
  have hg2 := hg.below hW
  unfold Laid at hg2
  have ht2 : ((w.alloc (.cells #[.pointer (some t)] 43)).alloc (.cells #[.pointer (some ⟨1, 43, none⟩), .pointer (some ⟨w.heap.size, 0, none⟩), .int .u64 150] 68)).cell? t = some old := by rw [hW.cell hlt]; exact ht0
  have hf2 : ((w.alloc (.cells #[.pointer (some t)] 43)).alloc (.cells #[.pointer (some ⟨1, 43, none⟩), .pointer (some ⟨w.heap.size, 0, none⟩), .int .u64 150] 68)).frozen? t = false := by rw [hW.frozen hlt]; exact hf0
  have hc2 : ((w.alloc (.cells #[.pointer (some t)] 43)).alloc (.cells #[.pointer (some ⟨1, 43, none⟩), .pointer (some ⟨w.heap.size, 0, none⟩), .int .u64 150] 68)).cell? ⟨w.heap.size, 0, none⟩ = some (.pointer (some t)) := by simp
  have HC := asWhere_any e0 u t ⟨w.heap.size, 0, none⟩ old w0 ((w.alloc (.cells #[.pointer (some t)] 43)).alloc (.cells #[.pointer (some ⟨1, 43, none⟩), .pointer (some ⟨w.heap.size, 0, none⟩), .int .u64 150] 68)) (h0.trans (hW.mono h0.size)) hu hne ht2 hf2 hc2
  obtain ⟨uT, ux, rfl⟩ := hu.iface hne
  have HW := Aside0.mk hW
  have n8 := asWhere_isNil ⟨w.heap.size, 0, none⟩ t ((w.alloc (.cells #[.pointer (some t)] 43)).alloc (.cells #[.pointer (some ⟨1, 43, none⟩), .pointer (some ⟨w.heap.size, 0, none⟩), .int .u64 150] 68)) hc2
  clear h0 hg hu hne ht0 hf0 hlt hW ht2 hf2 hc2
  have hV := @run_callFunc_extern Tryd.prog 29 _ (fun args => ReflectliteValue.unpack (args.getD 0 (.tuple #[]))) Tryd.func29 (by kernel_rfl) (by kernel_rfl) (by kernel_rfl) (by kernel_rfl)
  have hTy := @run_callFunc_extern Tryd.prog 30 _ (ReflectliteValue.methodAny (ReflectliteValue.valueError "reflectlite.Value.Type" 0) (fun t _ _ _ => ReflectliteType.toType t)) Tryd.func30 (by kernel_rfl) (by kernel_rfl) (by kernel_rfl) (by kernel_rfl)
  have hN := @run_callFunc_extern Tryd.prog 31 _ (ReflectliteValue.method (ReflectliteValue.valueError "reflectlite.Value.IsNil" 0) ReflectliteValue.isNil) Tryd.func31 (by kernel_rfl) (by kernel_rfl) (by kernel_rfl) (by kernel_rfl)
  have hK := @run_callFunc_extern Tryd.prog 55 _ (ReflectliteType.abiMethod fun t => do pure (.int .u8 (← Rtype.kind t))) Tryd.func55 (by kernel_rfl) (by kernel_rfl) (by kernel_rfl) (by kernel_rfl)
  have hEl := @run_callFunc_extern Tryd.prog 70 _ (ReflectliteType.method ReflectliteType.elem) Tryd.func70 (by kernel_rfl) (by kernel_rfl) (by kernel_rfl) (by kernel_rfl)
  have hI := @run_callFunc_extern Tryd.prog 71 _ (ReflectliteType.relation "Implements" ReflectliteType.implements_) Tryd.func71 (by kernel_rfl) (by kernel_rfl) (by kernel_rfl) (by kernel_rfl)
  have f6 := asWhere_valueOfP
  have f7 := asWhere_type
  have mK := asMethod_Kind
  have mE := asMethod_Elem
  have mI := asMethod_Implements
  have kP := asWhere_kindP
  have kD := asWhere_kind
  have eD := asWhere_elem
  have iD := asWhere_implements
  go_enter Tryd.func18, Tryd.ntmps18
  go_wp2_with (go_at_call 32; refine HC.mono ?_; rintro e w' (⟨h1, rfl, h3⟩ | ⟨m, a, u', h1, rfl, h2, h3, h4, h5⟩))
  · go_ret
    exact .inl ⟨h1, rfl, HW.out.trans (h3.mono HW.out.size)⟩
  · go_ret
    exact .inr ⟨m, a, u', h1, rfl, h2, h3, h4, (Kp.ofBelow HW.out).trans h5⟩
set_option maxHeartbeats 4000000 in
theorem errField_any (e0 : Err) (u : Value) (t : Addr) (old : Value) (w0 w : World) (h0 : Below w0.heap.size w0 w) (hg : Laid w) (hu : IsE w0 e0 u) (hne : e0 ≠ .nil) (ht0 : w.cell? t = some old) (hf0 : w.frozen? t = false) :
    Calls Tryd.prog 18 #[u, .iface 44 (.pointer (some t))] w (AsField e0 t w0 w) := by
  have hlt := cell_lt ht0
  have hW : Below w.heap.size w ((w.alloc (.cells #[.pointer (some t)] 44)).alloc (.cells #[.pointer (some ⟨1, 44, none⟩), .pointer (some ⟨w.heap.size, 0, none⟩), .int .u64 150] 68)) := ((Below.refl _ _).alloc (Nat.le_refl _) _).alloc (by simp) _
  have hg2 := hg.below hW
  unfold Laid at hg2
  have ht2 : ((w.alloc (.cells #[.pointer (some t)] 44)).alloc (.cells #[.pointer (some ⟨1, 44, none⟩), .pointer (some ⟨w.heap.size, 0, none⟩), .int .u64 150] 68)).cell? t = some old := by rw [hW.cell hlt]; exact ht0
  have hf2 : ((w.alloc (.cells #[.pointer (some t)] 44)).alloc (.cells #[.pointer (some ⟨1, 44, none⟩), .pointer (some ⟨w.heap.size, 0, none⟩), .int .u64 150] 68)).frozen? t = false := by rw [hW.frozen hlt]; exact hf0
  have hc2 : ((w.alloc (.cells #[.pointer (some t)] 44)).alloc (.cells #[.pointer (some ⟨1, 44, none⟩), .pointer (some ⟨w.heap.size, 0, none⟩), .int .u64 150] 68)).cell? ⟨w.heap.size, 0, none⟩ = some (.pointer (some t)) := by simp
  have HC := asField_any e0 u t ⟨w.heap.size, 0, none⟩ old w0 ((w.alloc (.cells #[.pointer (some t)] 44)).alloc (.cells #[.pointer (some ⟨1, 44, none⟩), .pointer (some ⟨w.heap.size, 0, none⟩), .int .u64 150] 68)) (h0.trans (hW.mono h0.size)) hu hne ht2 hf2 hc2
  obtain ⟨uT, ux, rfl⟩ := hu.iface hne
  have HW := Aside0.mk hW
  have n8 := asField_isNil ⟨w.heap.size, 0, none⟩ t ((w.alloc (.cells #[.pointer (some t)] 44)).alloc (.cells #[.pointer (some ⟨1, 44, none⟩), .pointer (some ⟨w.heap.size, 0, none⟩), .int .u64 150] 68)) hc2
  clear h0 hg hu hne ht0 hf0 hlt hW ht2 hf2 hc2
  have hV := @run_callFunc_extern Tryd.prog 29 _ (fun args => ReflectliteValue.unpack (args.getD 0 (.tuple #[]))) Tryd.func29 (by kernel_rfl) (by kernel_rfl) (by kernel_rfl) (by kernel_rfl)
  have hTy := @run_callFunc_extern Tryd.prog 30 _ (ReflectliteValue.methodAny (ReflectliteValue.valueError "reflectlite.Value.Type" 0) (fun t _ _ _ => ReflectliteType.toType t)) Tryd.func30 (by kernel_rfl) (by kernel_rfl) (by kernel_rfl) (by kernel_rfl)
  have hN := @run_callFunc_extern Tryd.prog 31 _ (ReflectliteValue.method (ReflectliteValue.valueError "reflectlite.Value.IsNil" 0) ReflectliteValue.isNil) Tryd.func31 (by kernel_rfl) (by kernel_rfl) (by kernel_rfl) (by kernel_rfl)
  have hK := @run_callFunc_extern Tryd.prog 55 _ (ReflectliteType.abiMethod fun t => do pure (.int .u8 (← Rtype.kind t))) Tryd.func55 (by kernel_rfl) (by kernel_rfl) (by kernel_rfl) (by kernel_rfl)
  have hEl := @run_callFunc_extern Tryd.prog 70 _ (ReflectliteType.method ReflectliteType.elem) Tryd.func70 (by kernel_rfl) (by kernel_rfl) (by kernel_rfl) (by kernel_rfl)
  have hI := @run_callFunc_extern Tryd.prog 71 _ (ReflectliteType.relation "Implements" ReflectliteType.implements_) Tryd.func71 (by kernel_rfl) (by kernel_rfl) (by kernel_rfl) (by kernel_rfl)
  have f6 := asField_valueOfP
  have f7 := asField_type
  have mK := asMethod_Kind
  have mE := asMethod_Elem
  have mI := asMethod_Implements
  have kP := asField_kindP
  have kD := asField_kind
  have eD := asField_elem
  have iD := asField_implements
  go_enter Tryd.func18, Tryd.ntmps18
  go_wp2_with (go_at_call 32; refine HC.mono ?_; rintro e w' (⟨h1, rfl, h3⟩ | ⟨m, e2, a, u', h1, rfl, h2, h7, h3, h4, h5⟩))
  · go_ret
    exact .inl ⟨h1, rfl, HW.out.trans (h3.mono HW.out.size)⟩
  · go_ret
    exact .inr ⟨m, e2, a, u', h1, rfl, h2, h7, h3, h4, (Kp.ofBelow HW.out).trans h5⟩
/-! ### blame.Code, blame.Place -/
theorem errAs_nil (v : Value) (w : World) : Calls Tryd.prog 18 #[.nilIface, v] w fun e w' => e = .returned (.bool false) ∧ w' = w := by
  go_enter Tryd.func18, Tryd.ntmps18
  go_wp2
  go_ret
  exact ⟨rfl, rfl⟩
set_option maxHeartbeats 1000000 in
theorem code_any (e0 : Err) (u : Value) (w : World) (hg : Laid w) (hu : IsE w e0 u) :
    Calls Tryd.prog 10 #[u] w fun e w' => e = .returned (.int .i64 (codeOf e0)) ∧ Below w.heap.size w w' := by
  by_cases hne : e0 = .nil
  · subst hne
    obtain rfl : u = .nilIface := hu
    go_enter Tryd.func10, Tryd.ntmps10
    go_wp2_with fail
    go_ret
    exact ⟨rfl, Below.refl _ _⟩
  · have hW : Below w.heap.size w (w.alloc (.cells #[.int .i64 0] 22)) := (Below.refl _ _).alloc (Nat.le_refl _) _
    have HC := errCode_any e0 u ⟨w.heap.size, 0, none⟩ (.int .i64 0) w (w.alloc (.cells #[.int .i64 0] 22)) hW (hg.below hW) hu hne (by simp) (by simp)
    obtain ⟨uT, ux, rfl⟩ := hu.iface hne
    have HW := Aside0.mk hW
    have HE : Aside0 (codeOf e0 = (codeIn e0).getD 14) := ⟨by cases e0 <;> first | rfl | exact absurd rfl hne⟩
    clear hW hg hu hne
    go_enter Tryd.func10, Tryd.ntmps10
    go_wp2_with (go_at_call 18; refine HC.mono ?_; rintro e w' (⟨h1, rfl, h3⟩ | ⟨c, h1, rfl, h3, h4, h5⟩))
    · have H3 := Aside0.mk h3
      have H1 := Aside0.mk h1
      clear h3 h1
      go_wp2_with fail
      go_ret
      exact ⟨by rw [HE.out, H1.out]; rfl, HW.out.trans (H3.out.mono HW.out.size)⟩
    · have H1 := Aside0.mk h1
      have H5 := Aside0.mk h5
      clear h5 h1
      go_wp2_with fail
      go_ret
      exact ⟨by rw [HE.out, H1.out]; rfl, HW.out.trans (H5.out.toBelow HW.out.size (fun k hk => by subst hk; exact Nat.le_refl _))⟩
/-- What Place tells. -/
def placeN (e : Err) : Int := (placeIn e).getD 0
def placeB (e : Err) : Bool := (placeIn e).isSome
set_option maxHeartbeats 1000000 in
theorem place_any (e0 : Err) (u : Value) (w : World) (hg : Laid w) (hu : IsE w e0 u) :
    Calls Tryd.prog 9 #[u] w fun e w' => e = .returned (.tuple #[.int .i64 (placeN e0), .bool (placeB e0)]) ∧ Below w.heap.size w w' := by
  by_cases hne : e0 = .nil
  · subst hne
    obtain rfl : u = .nilIface := hu
    go_enter Tryd.func9, Tryd.ntmps9
    go_wp2_with (go_at_call 18; refine (errAs_nil _ _).mono ?_; rintro e w' ⟨rfl, rfl⟩)
    go_ret2
    exact ⟨rfl, (Below.refl _ _).alloc (Nat.le_refl _) _⟩
  · have hW : Below w.heap.size w (w.alloc (.cells #[.pointer none] 40)) := (Below.refl _ _).alloc (Nat.le_refl _) _
    have HC := errWhere_any e0 u ⟨w.heap.size, 0, none⟩ (.pointer none) w (w.alloc (.cells #[.pointer none] 40)) hW (hg.below hW) hu hne (by simp) (by simp)
    obtain ⟨uT, ux, rfl⟩ := hu.iface hne
    have HD : Calls Tryd.prog 18 #[.iface uT ux, .iface 43 (.pointer (some ⟨w.heap.size, 0, none⟩))] (w.alloc (.cells #[.pointer none] 40)) (fun e w' =>
        (placeIn e0 = none ∧ e = .returned (.bool false) ∧ Below w.heap.size w w') ∨ (∃ m a, placeIn e0 = some m ∧ e = .returned (.bool true) ∧ w'.cell? ⟨w.heap.size, 0, none⟩ = some (.pointer (some ⟨a, 0, none⟩)) ∧ w'.cell? ⟨a, 0, none⟩ = some (.int .i64 m) ∧ Below w.heap.size w w')) := by
      refine HC.mono ?_
      rintro e w' (⟨h1, h2, h3⟩ | ⟨m, a, u', h1, h2, h3, h4, h5, h6⟩)
      · exact .inl ⟨h1, h2, hW.trans (h3.mono hW.size)⟩
      · have hB := hW.trans (h6.toBelow hW.size (fun k hk => by subst hk; exact Nat.le_refl _))
        exact .inr ⟨m, a, h1, h2, h4, by rw [blk_cell (blk_below h3 hB)]; rfl, hB⟩
    clear HC hW hg hu hne
    go_enter Tryd.func9, Tryd.ntmps9
    go_wp2_with (go_at_call 18; refine HD.mono ?_; rintro e w' (⟨h1, rfl, h3⟩ | ⟨m, a, h1, rfl, h2, h3, h4⟩))
    · go_ret2
      exact ⟨by unfold placeN placeB; rw [h1]; rfl, h3⟩
    · go_ret2
      exact ⟨by unfold placeN placeB; rw [h1]; rfl, h4⟩
end Go.Proofs.YtipgdjjmmfkfiaaDoor
namespace Go.Proofs.YtipgdjjmmfkfiaaDoor
open Go.RowKit

theorem seat_et : Tryd.prog.globalNamed "errors.errorType" = some 0 := by kernel_rfl
theorem seat_rt : (Tryd.prog.cutTypes.find? (·.1 == "internal/reflectlite.rtype")).map (·.2) = some 80 := by kernel_rfl
theorem seat_oneRow : ((List.range 126).filter fun t => Tryd.prog.rowNamed t [101, 114, 114, 111, 114]) = [26] := by kernel_rfl
theorem seat_size : Tryd.prog.types.size = 126 := by kernel_rfl
/-- What the condition gives a walk: the variable's one cell. -/
theorem laid_of {W : World} (h : laidMetH Tryd.prog [("errors.errorType", Rows.laid_errors_errorType)] W) : Laid W := by
  have h' : laidMet Tryd.prog [] W ∧ handlesMet Tryd.prog [("errors.errorType", Rows.laid_errors_errorType)] W := h
  obtain ⟨name, u, ty, e1, e2, e3, e4, e5⟩ := h'.2 _ (List.mem_singleton.2 rfl)
  have en : name = [101, 114, 114, 111, 114] := (Option.some.inj e1).symm
  subst en
  obtain rfl := Option.some.inj (seat_rt.symm.trans e2)
  have hm : ty ∈ (List.range 126).filter fun t => Tryd.prog.rowNamed t [101, 114, 114, 111, 114] := List.mem_filter.2 ⟨List.mem_range.2 (by rw [← seat_size]; exact e3), e4⟩
  rw [seat_oneRow] at hm
  obtain rfl := List.mem_singleton.1 hm
  have hh : typeHandle Tryd.prog 26 = .pointer (some ⟨1, 26, none⟩) := by kernel_rfl
  rw [hh] at e5
  unfold Laid
  simpa using World.var?_cell seat_et e5 0
/-- A world that meets the condition. -/
noncomputable def laidWorld (os : Os) : World :=
  let w0 := World.holding Tryd.prog os ⟨#[], #[], []⟩
  { w0 with heap := w0.heap.modify 0 fun
      | .cells _ t frozen => .cells #[.iface 80 (.agg #[.pointer (some ⟨1, 26, none⟩)])] t frozen
      | o => o }
theorem laidWorld_met (os : Os) (args : Array Value) : laidMetH Tryd.prog [("errors.errorType", Rows.laid_errors_errorType)] ((laidWorld os).forCall (fun _ _ => 0) ⟨#[], args, []⟩).memory :=
  laidMetH_of_parts (laidMet_nil _ _) (by kernel_rfl)
end Go.Proofs.YtipgdjjmmfkfiaaDoor
