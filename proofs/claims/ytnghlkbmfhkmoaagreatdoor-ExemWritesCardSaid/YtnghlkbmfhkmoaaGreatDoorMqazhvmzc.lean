import Derived.Test.YtnghlkbmfhkmoaaGreatDoorMmmsfdqrm
import Derived.Test.YtnghlkbmfhkmoaaGreatDoorMawrohoxn
import Derived.Test.YtnghlkbmfhkmoaaGreatDoorMbhwgezqr
namespace Go.Proofs.YtnghlkbmfhkmoaaGreatDoor
open Go.RowKit Go.Proofs.YtnghlkbmfhkmoaaGreatDoorW.PrintWords Go.Extern.Stop Go.Stop Go.Extern
/-- The code that an error has within; its outermost place. -/
def codeIn : Err → Option Int
  | .code c => some c
  | .at_ _ e => codeIn e
  | .fld _ e => codeIn e
  | _ => none
def codeOf : Err → Int
  | .nil => 0
  | e => (codeIn e).getD 14
def deep : Err → Nat
  | .at_ _ e => deep e + 1
  | .fld _ e => deep e + 1
  | _ => 0
/-- The variable errors.errorType as it is laid. -/
def Laid (w : World) : Prop := w.cell? ⟨0, 0, none⟩ = some (.iface 118 (.agg #[.pointer (some ⟨1, 31, none⟩)]))
theorem cell_lt {w : World} {a : Addr} {v : Value} (h : w.cell? a = some v) : a.block < w.heap.size := by
  rcases Nat.lt_or_ge a.block w.heap.size with hl | hl
  · exact hl
  · simp [World.cell?, Array.getElem?_eq_none hl] at h
theorem Laid.below {w w' : World} (h : Laid w) (hb : Below w.heap.size w w') : Laid w' := by
  unfold Laid at *
  rw [hb.cell (cell_lt h)]; exact h
theorem unwrapW_any (a : Nat) (n : Int) (u : Value) (w : World) (h : w.heap[a]? = some (.cells #[.int .i64 n, u] 164 (0, 0))) :
    Calls Tryz.prog 156 #[.pointer (some ⟨a, 0, none⟩)] w fun e w' => e = .returned u ∧ w' = w := by
  have c1 : w.cell? ⟨a, 1, none⟩ = some u := by rw [blk_cell h]; rfl
  clear h
  go_enter Tryz.func156, Tryz.ntmps156
  go_wp2
  go_ret
  exact ⟨rfl, rfl⟩
/-! ### the target Code -/
def AsCode (e0 : Err) (t : Addr) (_w0 w : World) (e : Ending) (w' : World) : Prop :=
  (codeIn e0 = none ∧ e = .returned (.bool false) ∧ Below w.heap.size w w') ∨ (∃ c, codeIn e0 = some c ∧ e = .returned (.bool true) ∧ w'.cell? t = some (.int .i64 c) ∧ w'.frozen? t = false ∧ Kp (· = t.block) w w')
/-- What the setting of the target leaves. -/
theorem asCode_done (t b : Addr) (old x : Value) (y : Value) (w : World) (ht0 : w.cell? t = some old) (hf0 : w.frozen? t = false) (_hx : x.oneCell' = true) :
    ((((w.alloc (.cells #[.pointer (some ⟨1, 72, none⟩), .pointer (some b), .int .u64 150] 97)).alloc (.cells #[y] 36)).setCell t x).cell? t = some x) ∧ ((((w.alloc (.cells #[.pointer (some ⟨1, 72, none⟩), .pointer (some b), .int .u64 150] 97)).alloc (.cells #[y] 36)).setCell t x).frozen? t = false) ∧ Kp (· = t.block) w (((w.alloc (.cells #[.pointer (some ⟨1, 72, none⟩), .pointer (some b), .int .u64 150] 97)).alloc (.cells #[y] 36)).setCell t x) := by
  have hl := cell_lt ht0
  have h1 : ((w.alloc (.cells #[.pointer (some ⟨1, 72, none⟩), .pointer (some b), .int .u64 150] 97)).alloc (.cells #[y] 36)).cell? t = some old := by
    rw [World.cell?_alloc_lt _ _ t (by simp; omega), World.cell?_alloc_lt _ _ t hl]; exact ht0
  have h2 : ((w.alloc (.cells #[.pointer (some ⟨1, 72, none⟩), .pointer (some b), .int .u64 150] 97)).alloc (.cells #[y] 36)).frozen? t = false := by
    rw [World.frozen?_alloc_old _ _ t (by simp; omega), World.frozen?_alloc_old _ _ t (Nat.ne_of_lt hl)]; exact hf0
  exact ⟨by exact World.cell?_setCell_same _ _ _ h1, by rw [World.frozen?_setCell]; exact h2, Kp.set (M := fun k => k = t.block) (((Kp.refl _ w).alloc _).alloc _) (show t.block = t.block from rfl) x⟩
set_option maxHeartbeats 4000000 in
theorem asCode_any (e0 : Err) (u : Value) (t b : Addr) (old : Value) (w0 w : World) (h0 : Below w0.heap.size w0 w) (hu : IsE w0 e0 u) (hne : e0 ≠ .nil) (ht0 : w.cell? t = some old) (hf0 : w.frozen? t = false) (hb : w.cell? b = some (.pointer (some t))) :
    Calls Tryz.prog 60 #[u, .iface 72 (.pointer (some t)), .agg #[.pointer (some ⟨1, 72, none⟩), .pointer (some b), .int .u64 150], .iface 118 (.agg #[.pointer (some ⟨1, 36, none⟩)])] w (AsCode e0 t w0 w) := by
  obtain ⟨uT, ux, rfl⟩ := hu.iface hne
  have HU := Aside0.mk hu
  have HT := Aside0.mk (And.intro ht0 (And.intro hf0 hb))
  have HN := Aside0.mk hne
  have H0 := Aside0.mk h0
  clear hu ht0 hf0 hb hne h0
  have hT := @run_callFunc_extern Tryz.prog 78 _ (ReflectliteType.typeOf) Tryz.func78 (by kernel_rfl) (by kernel_rfl) (by kernel_rfl) (by kernel_rfl)
  have hA := @run_callFunc_extern Tryz.prog 145 _ (ReflectliteType.relation "AssignableTo" ReflectliteType.assignableTo) Tryz.func145 (by kernel_rfl) (by kernel_rfl) (by kernel_rfl) (by kernel_rfl)
  have hE := @run_callFunc_extern Tryz.prog 79 _ (ReflectliteValue.method (ReflectliteValue.valueError "reflectlite.Value.Elem" 0) ReflectliteValue.elem) Tryz.func79 (by kernel_rfl) (by kernel_rfl) (by kernel_rfl) (by kernel_rfl)
  have hV := @run_callFunc_extern Tryz.prog 57 _ (fun args => ReflectliteValue.unpack (args.getD 0 (.tuple #[]))) Tryz.func57 (by kernel_rfl) (by kernel_rfl) (by kernel_rfl) (by kernel_rfl)
  have hS := @run_callFunc_extern Tryz.prog 80 _ (ReflectliteValue.set) Tryz.func80 (by kernel_rfl) (by kernel_rfl) (by kernel_rfl) (by kernel_rfl)
  have mA := asMethod_AssignableTo
  go_enter Tryz.func60, Tryz.ntmps60
  go_wp2_with fail
  go_loopg [0] (deep e0) (fun k v wr => wr = w.alloc (.cells #[.pointer (some ⟨1, 72, none⟩), .pointer (some b), .int .u64 150] 97) ∧ ∃ e1 : Err, e1 ≠ .nil ∧ deep e1 ≤ k ∧ Aside0 (codeIn e1 = codeIn e0) ∧ Aside0 (IsE w0 e1 v))
  case atStart => exact ⟨rfl, e0, HN.out, Nat.le_refl _, ⟨rfl⟩, HU⟩
  case round =>
    clear HU HN
    obtain ⟨rfl, e1, hn1, hk, HF, HU⟩ := hrel
    cases e1 with
    | nil => exact absurd rfl hn1
    | oth => exact HU.out.elim
    | fld n e1 => exact HU.out.elim
    | code c =>
      clear hn1 hk
      obtain rfl := HU.out
      clear HU
      have el := asCode_elemV b t (w.alloc (.cells #[.pointer (some ⟨1, 72, none⟩), .pointer (some b), .int .u64 150] 97)) (by rw [World.cell?_alloc_lt _ _ b (cell_lt HT.out.2.2)]; exact HT.out.2.2)
      have st := asCode_set t ⟨w.heap.size + 1, 0, none⟩ (c) old ((w.alloc (.cells #[.pointer (some ⟨1, 72, none⟩), .pointer (some b), .int .u64 150] 97)).alloc (.cells #[.int .i64 c] 36))
        (by rw [World.cell?_alloc_at _ _ _ _ (by simp)]; rfl)
        (by rw [World.cell?_alloc_lt _ _ t (by have := cell_lt HT.out.1; simp; omega), World.cell?_alloc_lt _ _ t (cell_lt HT.out.1)]; exact HT.out.1)
        (by rw [World.frozen?_alloc_old _ _ t (by have := cell_lt HT.out.1; simp; omega), World.frozen?_alloc_old _ _ t (Nat.ne_of_lt (cell_lt HT.out.1))]; exact HT.out.2.1)
      have aX := asCode_fromCode
      have vO := asCode_valueOf
      have tO := asCode_typeOf
      go_wp2
      go_ret
      obtain ⟨r1, r2, r3⟩ := asCode_done t b old (.int .i64 c) (.int .i64 c) w HT.out.1 HT.out.2.1 rfl
      exact .inr ⟨c, by rw [← HF.out]; rfl, rfl, r1, r2, r3⟩
    | at_ m e' =>
      clear hn1
      obtain ⟨a, u, rfl, ha, hu⟩ := HU.out
      have HA := Aside0.mk ha
      clear HU ha
      have aX := asCode_fromWhere
      have tO := asWhere_typeOf
      have q1 := asWhere_noAs
      have q2 := asWhere_hasUnwrap
      have q3 := asWhere_unwrapM
      have HU2 := Aside0.mk (hu.below (w' := w0) (Below.refl _ _))
      clear hu
      by_cases he : e' = .nil
      · subst he
        obtain rfl : u = .nilIface := HU2.out
        go_wp2_with (go_at_call 156; refine (unwrapW_any a m _ _ (blk_below (blk_below HA.out H0.out) ((Below.refl _ _).alloc (Nat.le_refl _) _))).mono ?_; rintro e w' ⟨rfl, rfl⟩)
        go_ret
        exact .inl ⟨by rw [← HF.out]; rfl, rfl, (Below.refl _ _).alloc (Nat.le_refl _) _⟩
      · obtain ⟨vT, vx, rfl⟩ := HU2.out.iface he
        have HN := Aside0.mk he
        clear he
        go_wp2_with (go_at_call 156; refine (unwrapW_any a m _ _ (blk_below (blk_below HA.out H0.out) ((Below.refl _ _).alloc (Nat.le_refl _) _))).mono ?_; rintro e w' ⟨rfl, rfl⟩)
        go_roundg (deep e')
        case rel => exact ⟨rfl, e', HN.out, Nat.le_refl _, HF, HU2⟩
        case measure => simp [deep] at hk; omega
set_option maxHeartbeats 4000000 in
theorem errCode_any (e0 : Err) (u : Value) (t : Addr) (old : Value) (w0 w : World) (h0 : Below w0.heap.size w0 w) (hg : Laid w) (hu : IsE w0 e0 u) (hne : e0 ≠ .nil) (ht0 : w.cell? t = some old) (hf0 : w.frozen? t = false) :
    Calls Tryz.prog 37 #[u, .iface 72 (.pointer (some t))] w (AsCode e0 t w0 w) := by
  have hlt := cell_lt ht0
  have hW : Below w.heap.size w ((w.alloc (.cells #[.pointer (some t)] 72)).alloc (.cells #[.pointer (some ⟨1, 72, none⟩), .pointer (some ⟨w.heap.size, 0, none⟩), .int .u64 150] 97)) := ((Below.refl _ _).alloc (Nat.le_refl _) _).alloc (by simp) _
  have hg2 := hg.below hW
  unfold Laid at hg2
  have ht2 : ((w.alloc (.cells #[.pointer (some t)] 72)).alloc (.cells #[.pointer (some ⟨1, 72, none⟩), .pointer (some ⟨w.heap.size, 0, none⟩), .int .u64 150] 97)).cell? t = some old := by rw [hW.cell hlt]; exact ht0
  have hf2 : ((w.alloc (.cells #[.pointer (some t)] 72)).alloc (.cells #[.pointer (some ⟨1, 72, none⟩), .pointer (some ⟨w.heap.size, 0, none⟩), .int .u64 150] 97)).frozen? t = false := by rw [hW.frozen hlt]; exact hf0
  have hc2 : ((w.alloc (.cells #[.pointer (some t)] 72)).alloc (.cells #[.pointer (some ⟨1, 72, none⟩), .pointer (some ⟨w.heap.size, 0, none⟩), .int .u64 150] 97)).cell? ⟨w.heap.size, 0, none⟩ = some (.pointer (some t)) := by simp
  have HC := asCode_any e0 u t ⟨w.heap.size, 0, none⟩ old w0 ((w.alloc (.cells #[.pointer (some t)] 72)).alloc (.cells #[.pointer (some ⟨1, 72, none⟩), .pointer (some ⟨w.heap.size, 0, none⟩), .int .u64 150] 97)) (h0.trans (hW.mono h0.size)) hu hne ht2 hf2 hc2
  obtain ⟨uT, ux, rfl⟩ := hu.iface hne
  have HW := Aside0.mk hW
  have n8 := asCode_isNil ⟨w.heap.size, 0, none⟩ t ((w.alloc (.cells #[.pointer (some t)] 72)).alloc (.cells #[.pointer (some ⟨1, 72, none⟩), .pointer (some ⟨w.heap.size, 0, none⟩), .int .u64 150] 97)) hc2
  clear h0 hg hu hne ht0 hf0 hlt hW ht2 hf2 hc2
  have hV := @run_callFunc_extern Tryz.prog 57 _ (fun args => ReflectliteValue.unpack (args.getD 0 (.tuple #[]))) Tryz.func57 (by kernel_rfl) (by kernel_rfl) (by kernel_rfl) (by kernel_rfl)
  have hTy := @run_callFunc_extern Tryz.prog 58 _ (ReflectliteValue.methodAny (ReflectliteValue.valueError "reflectlite.Value.Type" 0) (fun t _ _ _ => ReflectliteType.toType t)) Tryz.func58 (by kernel_rfl) (by kernel_rfl) (by kernel_rfl) (by kernel_rfl)
  have hN := @run_callFunc_extern Tryz.prog 59 _ (ReflectliteValue.method (ReflectliteValue.valueError "reflectlite.Value.IsNil" 0) ReflectliteValue.isNil) Tryz.func59 (by kernel_rfl) (by kernel_rfl) (by kernel_rfl) (by kernel_rfl)
  have hK := @run_callFunc_extern Tryz.prog 136 _ (ReflectliteType.abiMethod fun t => do pure (.int .u8 (← Rtype.kind t))) Tryz.func136 (by kernel_rfl) (by kernel_rfl) (by kernel_rfl) (by kernel_rfl)
  have hEl := @run_callFunc_extern Tryz.prog 147 _ (ReflectliteType.method ReflectliteType.elem) Tryz.func147 (by kernel_rfl) (by kernel_rfl) (by kernel_rfl) (by kernel_rfl)
  have hI := @run_callFunc_extern Tryz.prog 148 _ (ReflectliteType.relation "Implements" ReflectliteType.implements_) Tryz.func148 (by kernel_rfl) (by kernel_rfl) (by kernel_rfl) (by kernel_rfl)
  have f6 := asCode_valueOfP
  have f7 := asCode_type
  have mK := asMethod_Kind
  have mE := asMethod_Elem
  have mI := asMethod_Implements
  have kP := asCode_kindP
  have kD := asCode_kind
  have eD := asCode_elem
  have iD := asCode_implements
  go_enter Tryz.func37, Tryz.ntmps37
  go_wp2_with (go_at_call 60; refine HC.mono ?_; rintro e w' (⟨h1, rfl, h3⟩ | ⟨c, h1, rfl, h3, h4, h5⟩))
  · go_ret
    exact .inl ⟨h1, rfl, HW.out.trans (h3.mono HW.out.size)⟩
  · go_ret
    exact .inr ⟨c, h1, rfl, h3, h4, (Kp.ofBelow HW.out).trans h5⟩
/-! ### blame.Code, blame.Place -/
set_option maxHeartbeats 1000000 in
theorem code_any (e0 : Err) (u : Value) (w : World) (hg : Laid w) (hu : IsE w e0 u) :
    Calls Tryz.prog 14 #[u] w fun e w' => e = .returned (.int .i64 (codeOf e0)) ∧ Below w.heap.size w w' := by
  by_cases hne : e0 = .nil
  · subst hne
    obtain rfl : u = .nilIface := hu
    go_enter Tryz.func14, Tryz.ntmps14
    go_wp2_with fail
    go_ret
    exact ⟨rfl, Below.refl _ _⟩
  · have hW : Below w.heap.size w (w.alloc (.cells #[.int .i64 0] 36)) := (Below.refl _ _).alloc (Nat.le_refl _) _
    have HC := errCode_any e0 u ⟨w.heap.size, 0, none⟩ (.int .i64 0) w (w.alloc (.cells #[.int .i64 0] 36)) hW (hg.below hW) hu hne (by simp) (by simp)
    obtain ⟨uT, ux, rfl⟩ := hu.iface hne
    have HW := Aside0.mk hW
    have HE : Aside0 (codeOf e0 = (codeIn e0).getD 14) := ⟨by cases e0 <;> first | rfl | exact absurd rfl hne⟩
    clear hW hg hu hne
    go_enter Tryz.func14, Tryz.ntmps14
    go_wp2_with (go_at_call 37; refine HC.mono ?_; rintro e w' (⟨h1, rfl, h3⟩ | ⟨c, h1, rfl, h3, h4, h5⟩))
    · have H3 := Aside0.mk h3
      have H1 := Aside0.mk h1
      clear h3 h1
      go_wp2_with fail
      go_ret
      exact ⟨by rw [HE.out, H1.out]; rfl, HW.out.trans (H3.out.mono HW.out.size)⟩
    · have H1 := Aside0.mk h1
      have H5 := Aside0.mk h5
      clear h5 h1
      go_wp2_with fail
      go_ret
      exact ⟨by rw [HE.out, H1.out]; rfl, HW.out.trans (H5.out.toBelow HW.out.size (fun k hk => by subst hk; exact Nat.le_refl _))⟩
end Go.Proofs.YtnghlkbmfhkmoaaGreatDoor
namespace Go.Proofs.YtnghlkbmfhkmoaaGreatDoor
open Go.RowKit Go.Proofs.YtnghlkbmfhkmoaaGreatDoorW.PrintWords Go.Proofs.YtnghlkbmfhkmoaaGreatDoorW.PrintLast Go.Proofs.YtnghlkbmfhkmoaaGreatDoorW.PrintMore Hy
open CExw
/-! ### exem.Marshal at the two exemplars of first() -/
set_option maxRecDepth 100000 in
theorem maykeys_none (d : Int) (w : World) : Calls Tryz.prog 29 #[.slice none 0 0, .int .i64 d] w fun e w' => e = .returned (.bool true) ∧ Below w.heap.size w w' := by
  go_enter Tryz.func29, Tryz.ntmps29
  go_wp2_with fail
  go_loopw [9] (fun v9 w' => v9 = .int .i64 0 ∧ Aside0 (Below w.heap.size w w')) (fun _ _ => 0)
  case atStart => exact ⟨rfl, ⟨Below.refl _ _⟩⟩
  case round =>
    obtain ⟨rfl, HB⟩ := hrel
    go_wp2_with fail
    go_ret
    exact ⟨rfl, HB.out⟩
set_option maxRecDepth 100000 in
theorem wall_none (d : Int) (w : World) : Calls Tryz.prog 52 #[.string ⟨#[]⟩, .int .i64 d] w fun e w' => e = .returned (.tuple #[.slice none 0 0, .nilIface]) ∧ Below w.heap.size w w' := by
  go_enter Tryz.func52, Tryz.ntmps52
  go_wp2_with fail
  have HR1 := Aside0.mk (heap_alloc_new w (.cells #[.string ⟨#[]⟩, .int .i64 0, .nilIface, .int .i64 d] 114 (0, 0)))
  have HB1 := Aside0.mk ((Below.refl w.heap.size w).alloc (Nat.le_refl _) (.cells #[.string ⟨#[]⟩, .int .i64 0, .nilIface, .int .i64 d] 114))
  generalize w.alloc (.cells #[.string ⟨#[]⟩, .int .i64 0, .nilIface, .int .i64 d] 114) = W1 at *
  generalize hrr : w.heap.size = r at HR1 ⊢
  clear hrr
  go_loopw [6] (fun v6 w' => v6 = .slice none 0 0 ∧ w' = W1) (fun _ _ => 0)
  case atStart => exact ⟨rfl, rfl⟩
  case round =>
    obtain ⟨rfl, rfl⟩ := hrel
    have c1 : wr.cell? ⟨r, 1, none⟩ = some (.int .i64 0) := by rw [blk_cell HR1.out]; rfl
    go_wp2_with fail
    go_ret2
    exact ⟨rfl, HB1.out⟩
set_option maxRecDepth 100000 in
theorem rest_none (d : Int) (f : Value) (w : World) : Calls Tryz.prog 30 #[.string ⟨#[]⟩, .int .i64 d, f] w fun e w' => e = .returned (.bool true) ∧ Below w.heap.size w w' := by
  have H := Aside0.mk (wall_none d w)
  go_enter Tryz.func30, Tryz.ntmps30
  go_wp2_with (go_at_call 52; with_reducible refine H.out.mono ?_; rintro e w2 ⟨rfl, hb⟩; have HB := Aside0.mk hb; clear hb)
  go_loopw [19] (fun v19 w' => v19 = .int .i64 0 ∧ Aside0 (Below w.heap.size w w')) (fun _ _ => 0)
  case atStart => exact ⟨rfl, HB⟩
  case round =>
    clear HB
    obtain ⟨rfl, HB⟩ := hrel
    go_wp2_with fail
    go_ret
    exact ⟨rfl, HB.out⟩
def exmZ (k n : Int) : Value := .agg #[.slice none 0 0, .int .u64 0, .int .i64 k, .int .u64 n, .string ⟨#[]⟩, .string ⟨#[]⟩, .string ⟨#[]⟩]
set_option maxRecDepth 100000 in
set_option maxHeartbeats 1000000 in
theorem may_at (k n : Int) (r : Bool) (w : World) (h : msg_MayNumber.f k n = some r) : Calls Tryz.prog 11 #[exmZ k n, .int .i64 0] w fun e w' => e = .returned (.bool r) ∧ Below w.heap.size w w' := by
  have A1 := fun w => Calls.mono (msg_MayNumber.calls k n r w h) (R' := fun e w' => e = .returned (.bool r) ∧ Below w.heap.size w w') (by rintro e w' ⟨he, nd, rfl⟩; exact ⟨he, pw_below_drewN (Below.refl _ _) nd⟩)
  have A2 := fun w => maykeys_none (-1) w
  have A3 := fun w => rest_none 0 (.func (.func 31) #[] #[]) w
  have A1 := Aside0.mk A1
  have A2 := Aside0.mk A2
  have A3 := Aside0.mk A3
  clear h
  unfold exmZ
  go_enter Tryz.func11, Tryz.ntmps11
  go_upto_region 1 with fail
  have HX : Aside0 (XEm (w.alloc (.cells #[.slice none 0 0, .int .u64 0, .int .i64 k, .int .u64 n, .string ⟨#[]⟩, .string ⟨#[]⟩, .string ⟨#[]⟩] 25)) w.heap.size ⟨⟨none, 0, 0⟩, 0, k, n, ⟨#[]⟩, ⟨#[]⟩, ⟨#[]⟩⟩) := ⟨⟨heap_alloc_new w _⟩⟩
  have HB : Aside0 (Below w.heap.size w (w.alloc (.cells #[.slice none 0 0, .int .u64 0, .int .i64 k, .int .u64 n, .string ⟨#[]⟩, .string ⟨#[]⟩, .string ⟨#[]⟩] 25))) := ⟨(Below.refl _ _).alloc (Nat.le_refl _) _⟩
  generalize w.alloc (.cells #[.slice none 0 0, .int .u64 0, .int .i64 k, .int .u64 n, .string ⟨#[]⟩, .string ⟨#[]⟩, .string ⟨#[]⟩] 25) = w1 at *
  generalize w.heap.size = g at HX ⊢
  have x0 := HX.out.c0
  have x2 := HX.out.c2
  have x3 := HX.out.c3
  have x6 := HX.out.c6
  cases r
  all_goals
    go_wp2_with (first
      | (go_at_call 28; with_reducible refine (A1.out _).mono ?_; rintro e w2 ⟨rfl, hb2⟩; have n0_ := Aside0.mk (below_next HB.out hb2); have n1_ := Aside0.mk (HX.out.below hb2); clear HB HX hb2 x0 x2 x3 x6; have HB := n0_; have HX := n1_; clear n0_ n1_; have x0 := HX.out.c0; have x2 := HX.out.c2; have x3 := HX.out.c3; have x6 := HX.out.c6)
      | (go_at_call 29; with_reducible refine (A2.out _).mono ?_; rintro e w2 ⟨rfl, hb2⟩; have n0_ := Aside0.mk (below_next HB.out hb2); have n1_ := Aside0.mk (HX.out.below hb2); clear HB HX hb2 x0 x2 x3 x6; have HB := n0_; have HX := n1_; clear n0_ n1_; have x0 := HX.out.c0; have x2 := HX.out.c2; have x3 := HX.out.c3; have x6 := HX.out.c6)
      | (go_at_call 30; with_reducible refine (A3.out _).mono ?_; rintro e w2 ⟨rfl, hb2⟩; have n0_ := Aside0.mk (below_next HB.out hb2); have n1_ := Aside0.mk (HX.out.below hb2); clear HB HX hb2 x0 x2 x3 x6; have HB := n0_; have HX := n1_; clear n0_ n1_; have x0 := HX.out.c0; have x2 := HX.out.c2; have x3 := HX.out.c3; have x6 := HX.out.c6))
    go_ret
    exact ⟨rfl, HB.out⟩
end Go.Proofs.YtnghlkbmfhkmoaaGreatDoor
namespace Go.Proofs.YtnghlkbmfhkmoaaGreatDoor
open Go.RowKit Go.Proofs.YtnghlkbmfhkmoaaGreatDoorW.PrintWords Go.Proofs.YtnghlkbmfhkmoaaGreatDoorW.PrintLast Go.Proofs.YtnghlkbmfhkmoaaGreatDoorW.PrintMore Hy
open CExw
/-! ### exem.Marshal -/
theorem XEm.kept {w w' : World} {g B : Nat} {x : Exm} (h : XEm w g x) (hb : Below B w w') (hg : g < B) : XEm w' g x := ⟨by rw [hb.block g hg]; exact h.blk⟩
theorem recB_size (n k : Int) (s : ByteArray) : (recB n k s).size ≤ s.size + 10 := by
  unfold recB
  split
  · exact Nat.zero_le _
  · rename_i h
    rw [ByteArray.size_append, put_size]
    have := putL_len10 (n * 8 + k).toNat (by omega)
    omega
theorem whenB_size (b : Bool) (s : ByteArray) : (whenB b s).size ≤ s.size := by
  cases b
  · exact Nat.zero_le _
  · exact Nat.le_refl _
/-- An exemplar's bytes, its attributes' being P. -/
def exmB (tm nn : Nat) (kd : Int) (sp tr uk P : ByteArray) : ByteArray := (((((((⟨#[]⟩ ++ whenB (decide (0 < tm)) (recB 2 1 (st (leL 8 tm)))) ++ whenB (kd == 1) (recB 3 1 (st (leL 8 nn)))) ++ whenB (!(sp.toList == [])) (recB 4 2 (put (sp.size : Int) ++ sp))) ++ whenB (!(tr.toList == [])) (recB 5 2 (put (tr.size : Int) ++ tr))) ++ whenB (kd == 2) (recB 6 1 (st (leL 8 nn)))) ++ P) ++ uk)
set_option maxHeartbeats 4000000 in
set_option maxRecDepth 100000 in
theorem marsh_ok (w : World) (at_ : Sl) (tm nn : Nat) (kd d : Int) (sp tr uk P : ByteArray) (htm : tm < 18446744073709551616) (hnn : nn < 18446744073709551616) (hsp : sp.size ≤ 100000000) (htr : tr.size ≤ 100000000) (huk : uk.size ≤ 100000000) (hP : P.size ≤ 1000000000)
    (HM : CB w 11 #[.agg (exmC ⟨at_, (tm : Int), kd, (nn : Int), sp, tr, uk⟩).toArray, .int .i64 d] true)
    (HP : ∀ (b : Nat) (s : ByteArray) (w2 : World), Below w.heap.size w w2 → b ≤ w2.heap.size → w.heap.size ≤ b → s.size ≤ 1000000000 → WB b b s w2 → WAdds 24 b b s P [.int .i64 7, at_.v, .int .i64 d, .func (.func 25) #[] #[]] w2) :
    Calls Tryz.prog 10 #[.agg (exmC ⟨at_, (tm : Int), kd, (nn : Int), sp, tr, uk⟩).toArray, .int .i64 d] w fun e w' => e = .returned (.tuple #[.string (exmB tm nn kd sp tr uk P), .nilIface]) ∧ Below w.heap.size w w' := by
  have z0 : (⟨#[]⟩ : ByteArray).size = 0 := rfl
  obtain ⟨a0, ha0⟩ : ∃ a : ByteArray, a = ⟨#[]⟩ := ⟨_, rfl⟩
  obtain ⟨a1, ha1⟩ : ∃ a : ByteArray, a = (⟨#[]⟩ ++ whenB (decide (0 < tm)) (recB 2 1 (st (leL 8 tm)))) := ⟨_, rfl⟩
  obtain ⟨a2, ha2⟩ : ∃ a : ByteArray, a = ((⟨#[]⟩ ++ whenB (decide (0 < tm)) (recB 2 1 (st (leL 8 tm)))) ++ whenB (kd == 1) (recB 3 1 (st (leL 8 nn)))) := ⟨_, rfl⟩
  obtain ⟨a3, ha3⟩ : ∃ a : ByteArray, a = (((⟨#[]⟩ ++ whenB (decide (0 < tm)) (recB 2 1 (st (leL 8 tm)))) ++ whenB (kd == 1) (recB 3 1 (st (leL 8 nn)))) ++ whenB (!(sp.toList == [])) (recB 4 2 (put (sp.size : Int) ++ sp))) := ⟨_, rfl⟩
  obtain ⟨a4, ha4⟩ : ∃ a : ByteArray, a = ((((⟨#[]⟩ ++ whenB (decide (0 < tm)) (recB 2 1 (st (leL 8 tm)))) ++ whenB (kd == 1) (recB 3 1 (st (leL 8 nn)))) ++ whenB (!(sp.toList == [])) (recB 4 2 (put (sp.size : Int) ++ sp))) ++ whenB (!(tr.toList == [])) (recB 5 2 (put (tr.size : Int) ++ tr))) := ⟨_, rfl⟩
  obtain ⟨a5, ha5⟩ : ∃ a : ByteArray, a = (((((⟨#[]⟩ ++ whenB (decide (0 < tm)) (recB 2 1 (st (leL 8 tm)))) ++ whenB (kd == 1) (recB 3 1 (st (leL 8 nn)))) ++ whenB (!(sp.toList == [])) (recB 4 2 (put (sp.size : Int) ++ sp))) ++ whenB (!(tr.toList == [])) (recB 5 2 (put (tr.size : Int) ++ tr))) ++ whenB (kd == 2) (recB 6 1 (st (leL 8 nn)))) := ⟨_, rfl⟩
  obtain ⟨a6, ha6⟩ : ∃ a : ByteArray, a = ((((((⟨#[]⟩ ++ whenB (decide (0 < tm)) (recB 2 1 (st (leL 8 tm)))) ++ whenB (kd == 1) (recB 3 1 (st (leL 8 nn)))) ++ whenB (!(sp.toList == [])) (recB 4 2 (put (sp.size : Int) ++ sp))) ++ whenB (!(tr.toList == [])) (recB 5 2 (put (tr.size : Int) ++ tr))) ++ whenB (kd == 2) (recB 6 1 (st (leL 8 nn)))) ++ P) := ⟨_, rfl⟩
  have l8 : ∀ n k v, (recB n k (st (leL 8 v))).size ≤ 18 := fun n k v => Nat.le_trans (recB_size _ _ _) (by rw [st_size, leL_length]; decide)
  have lt : ∀ n k (s : ByteArray), s.size ≤ 100000000 → (recB n k (put (s.size : Int) ++ s)).size ≤ s.size + 20 := fun n k s hs => Nat.le_trans (recB_size _ _ _) (by rw [ByteArray.size_append, put_size]; have := putL_len10 (s.size : Int).toNat (by omega); omega)
  have s0 : a0.size ≤ 0 := by rw [ha0]; exact Nat.le_refl _
  have s1 : a1.size ≤ 18 := by rw [ha1, ByteArray.size_append, ← ha0]; have h1 : _ ≤ 18 := l8 2 1 tm; have h2 := whenB_size (decide (0 < tm)) (recB 2 1 (st (leL 8 tm))); omega
  have s2 : a2.size ≤ 36 := by rw [ha2, ByteArray.size_append, ← ha1]; have h1 : _ ≤ 18 := l8 3 1 nn; have h2 := whenB_size (kd == 1) (recB 3 1 (st (leL 8 nn))); omega
  have s3 : a3.size ≤ 100000056 := by rw [ha3, ByteArray.size_append, ← ha2]; have h1 : _ ≤ 100000020 := Nat.le_trans (lt 4 2 sp hsp) (by omega); have h2 := whenB_size (!(sp.toList == [])) (recB 4 2 (put (sp.size : Int) ++ sp)); omega
  have s4 : a4.size ≤ 200000076 := by rw [ha4, ByteArray.size_append, ← ha3]; have h1 : _ ≤ 100000020 := Nat.le_trans (lt 5 2 tr htr) (by omega); have h2 := whenB_size (!(tr.toList == [])) (recB 5 2 (put (tr.size : Int) ++ tr)); omega
  have s5 : a5.size ≤ 200000094 := by rw [ha5, ByteArray.size_append, ← ha4]; have h1 : _ ≤ 18 := l8 6 1 nn; have h2 := whenB_size (kd == 2) (recB 6 1 (st (leL 8 nn))); omega
  have s6 : a6.size ≤ 1200000094 := by rw [ha6, ByteArray.size_append, ← ha5]; omega
  have hE : exmB tm nn kd sp tr uk P = a6 ++ uk := by unfold exmB; rw [ha6]
  rw [hE]
  have E0 := Aside0.mk ha0
  have W0 : Aside0 (∀ (b : Nat) (w2 : World), WB b b a0 w2 → b ≤ w2.heap.size → Calls Tryz.prog 21 #[.pointer (some ⟨b, 0, none⟩), .int .i64 2, .int .u64 (tm : Int)] w2 fun e w' => e = .returned (.tuple #[]) ∧ WB b b a1 w' ∧ Below b w2 w') := ⟨fun b w2 hw hb => by rw [ha1, ← ha0]; exact wfixedw_any b b a0 2 tm htm w2 hw (by have := l8 2 1 tm; omega) hb⟩
  have W1 : Aside0 (∀ (b : Nat) (w2 : World), WB b b a1 w2 → b ≤ w2.heap.size → Calls Tryz.prog 22 #[.pointer (some ⟨b, 0, none⟩), .bool (kd == 1), .int .i64 3, .int .u64 (nn : Int)] w2 fun e w' => e = .returned (.tuple #[]) ∧ WB b b a2 w' ∧ Below b w2 w') := ⟨fun b w2 hw hb => by rw [ha2, ← ha1]; exact weither_any b b a1 (kd == 1) 3 nn hnn w2 hw (by have := l8 3 1 nn; omega) hb⟩
  have W2 : Aside0 (∀ (b : Nat) (w2 : World), WB b b a2 w2 → b ≤ w2.heap.size → Calls Tryz.prog 23 #[.pointer (some ⟨b, 0, none⟩), .int .i64 4, .string sp] w2 fun e w' => e = .returned (.tuple #[]) ∧ WB b b a3 w' ∧ Below b w2 w') := ⟨fun b w2 hw hb => by rw [ha3, ← ha2]; exact wtext_any b b a2 4 sp hsp w2 hw (by have := lt 4 2 sp hsp; omega) hb⟩
  have W3 : Aside0 (∀ (b : Nat) (w2 : World), WB b b a3 w2 → b ≤ w2.heap.size → Calls Tryz.prog 23 #[.pointer (some ⟨b, 0, none⟩), .int .i64 5, .string tr] w2 fun e w' => e = .returned (.tuple #[]) ∧ WB b b a4 w' ∧ Below b w2 w') := ⟨fun b w2 hw hb => by rw [ha4, ← ha3]; exact wtext_any b b a3 5 tr htr w2 hw (by have := lt 5 2 tr htr; omega) hb⟩
  have W4 : Aside0 (∀ (b : Nat) (w2 : World), WB b b a4 w2 → b ≤ w2.heap.size → Calls Tryz.prog 22 #[.pointer (some ⟨b, 0, none⟩), .bool (kd == 2), .int .i64 6, .int .u64 (nn : Int)] w2 fun e w' => e = .returned (.tuple #[]) ∧ WB b b a5 w' ∧ Below b w2 w') := ⟨fun b w2 hw hb => by rw [ha5, ← ha4]; exact weither_any b b a4 (kd == 2) 6 nn hnn w2 hw (by have := l8 6 1 nn; omega) hb⟩
  have W5 : Aside0 (∀ (b : Nat) (w2 : World), Below w.heap.size w w2 → w.heap.size ≤ b → WB b b a5 w2 → b ≤ w2.heap.size → Calls Tryz.prog 24 #[.pointer (some ⟨b, 0, none⟩), .int .i64 7, at_.v, .int .i64 d, .func (.func 25) #[] #[]] w2 fun e w' => e = .returned (.tuple #[]) ∧ WB b b a6 w' ∧ Below b w2 w') := ⟨fun b w2 hB hwb hw hb => by rw [ha6, ← ha5]; exact HP b a5 w2 hB hb hwb (by omega) hw⟩
  have W6 : Aside0 (∀ (b : Nat) (w2 : World), WB b b a6 w2 → b ≤ w2.heap.size → Calls Tryz.prog 26 #[.pointer (some ⟨b, 0, none⟩), .string uk] w2 fun e w' => e = .returned (.tuple #[]) ∧ WB b b (a6 ++ uk) w' ∧ Below b w2 w') := ⟨fun b w2 hw hb => wraw_any b b a6 uk w2 hw (by omega) hb⟩
  unfold CB at HM
  unfold Sl.v at W5
  have HMM := Aside0.mk HM
  clear HM HP ha0 s0 ha1 s1 ha2 s2 ha3 s3 ha4 s4 ha5 s5 ha6 s6 hE l8 lt htm hnn hsp htr huk hP z0
  go_enter Tryz.func10, Tryz.ntmps10
  go_upto_region 1 with (with_reducible refine gate_dst (N := 2) rfl ?_; refine Great.wpList_boxTo rfl 25 _ rfl _ rfl w.heap.size rfl (exmC ⟨at_, (tm : Int), kd, (nn : Int), sp, tr, uk⟩).toArray rfl ?_)
  have HX : Aside0 (XEm (w.alloc (.cells (exmC ⟨at_, (tm : Int), kd, (nn : Int), sp, tr, uk⟩).toArray 25)) w.heap.size ⟨at_, (tm : Int), kd, (nn : Int), sp, tr, uk⟩) := ⟨⟨heap_alloc_new w _⟩⟩
  have HB0 : Aside0 (Below w.heap.size w (w.alloc (.cells (exmC ⟨at_, (tm : Int), kd, (nn : Int), sp, tr, uk⟩).toArray 25))) := ⟨(Below.refl _ _).alloc (Nat.le_refl _) _⟩
  have HG0 : Aside0 (w.heap.size < (w.alloc (.cells (exmC ⟨at_, (tm : Int), kd, (nn : Int), sp, tr, uk⟩).toArray 25)).heap.size) := ⟨by rw [World.size_alloc]; omega⟩
  generalize (w.alloc (.cells (exmC ⟨at_, (tm : Int), kd, (nn : Int), sp, tr, uk⟩).toArray 25)) = w1 at *
  generalize hg : w.heap.size = g at HX HG0 ⊢
  have HGG := Aside0.mk hg
  clear hg
  go_upto_region 3 with (first
    | (refine wpList_load_row rfl 25 _ rfl g rfl 25 (exmC ⟨at_, (tm : Int), kd, (nn : Int), sp, tr, uk⟩).toArray (0, 0) _ HX.out.blk Tryz.underlying25 rfl (by kernel_rfl) ?_)
    | (go_at_call 11; with_reducible refine (HMM.out _ HB0.out).mono ?_; rintro e w2 ⟨rfl, hb2⟩; have n0_ := Aside0.mk (below_next HB0.out hb2); have n1_ := Aside0.mk (HX.out.below hb2); have n2_ := Aside0.mk (Nat.lt_of_lt_of_le HG0.out hb2.size); clear HB0 HX HG0 hb2; have HB0 := n0_; have HX := n1_; have HG0 := n2_; clear n0_ n1_ n2_))
  go_upto_region 4 with fail
  have HB : Aside0 (Below w.heap.size w (w2.alloc (.cells #[.pointer none, .slice none 0 0] 50))) := ⟨HB0.out.alloc HB0.out.size _⟩
  have HX1 : Aside0 (XEm (w2.alloc (.cells #[.pointer none, .slice none 0 0] 50)) g ⟨at_, (tm : Int), kd, (nn : Int), sp, tr, uk⟩) := ⟨HX.out.below ((Below.refl _ _).alloc (Nat.le_refl _) _)⟩
  have HWB : Aside0 (WB w2.heap.size w2.heap.size a0 (w2.alloc (.cells #[.pointer none, .slice none 0 0] 50))) := ⟨by rw [E0.out]; exact WB.new w2⟩
  have HWS : Aside0 (w2.heap.size ≤ (w2.alloc (.cells #[.pointer none, .slice none 0 0] 50)).heap.size) := ⟨by rw [World.size_alloc]; omega⟩
  have HWb : Aside0 (w.heap.size ≤ w2.heap.size) := ⟨HB0.out.size⟩
  clear HX HB0 E0 HMM
  have HX := HX1
  clear HX1
  generalize (w2.alloc (.cells #[.pointer none, .slice none 0 0] 50)) = w3 at *
  generalize w2.heap.size = b at *
  have x0 : w3.cell? ⟨g, 0, none⟩ = some (.slice at_.a at_.len at_.cap) := HX.out.c0
  have x1 : w3.cell? ⟨g, 1, none⟩ = some (.int .u64 (tm : Int)) := HX.out.c1
  have x2 : w3.cell? ⟨g, 2, none⟩ = some (.int .i64 kd) := HX.out.c2
  have x3 : w3.cell? ⟨g, 3, none⟩ = some (.int .u64 (nn : Int)) := HX.out.c3
  have x4 : w3.cell? ⟨g, 4, none⟩ = some (.string sp) := HX.out.c4
  have x5 : w3.cell? ⟨g, 5, none⟩ = some (.string tr) := HX.out.c5
  have x6 : w3.cell? ⟨g, 6, none⟩ = some (.string uk) := HX.out.c6
  go_wp2_with (first
    | (go_at_call 21; with_reducible refine (W0.out b _ HWB.out HWS.out).mono ?_; rintro e wn ⟨rfl, hw2, hb2⟩; have n0_ := Aside0.mk (HB.out.trans (hb2.mono HWb.out)); have n1_ := Aside0.mk (HX.out.kept hb2 HG0.out); have n2_ := Aside0.mk hw2; have n3_ := Aside0.mk (Nat.le_trans HWS.out hb2.size); clear HB HX HWB HWS hb2 hw2 x0 x1 x2 x3 x4 x5 x6; have HB := n0_; have HX := n1_; have HWB := n2_; have HWS := n3_; clear n0_ n1_ n2_ n3_; have x0 : wn.cell? ⟨g, 0, none⟩ = some (.slice at_.a at_.len at_.cap) := HX.out.c0; have x1 : wn.cell? ⟨g, 1, none⟩ = some (.int .u64 (tm : Int)) := HX.out.c1; have x2 : wn.cell? ⟨g, 2, none⟩ = some (.int .i64 kd) := HX.out.c2; have x3 : wn.cell? ⟨g, 3, none⟩ = some (.int .u64 (nn : Int)) := HX.out.c3; have x4 : wn.cell? ⟨g, 4, none⟩ = some (.string sp) := HX.out.c4; have x5 : wn.cell? ⟨g, 5, none⟩ = some (.string tr) := HX.out.c5; have x6 : wn.cell? ⟨g, 6, none⟩ = some (.string uk) := HX.out.c6)
    | (go_at_call 22; with_reducible refine (W1.out b _ HWB.out HWS.out).mono ?_; rintro e wn ⟨rfl, hw2, hb2⟩; have n0_ := Aside0.mk (HB.out.trans (hb2.mono HWb.out)); have n1_ := Aside0.mk (HX.out.kept hb2 HG0.out); have n2_ := Aside0.mk hw2; have n3_ := Aside0.mk (Nat.le_trans HWS.out hb2.size); clear HB HX HWB HWS hb2 hw2 x0 x1 x2 x3 x4 x5 x6; have HB := n0_; have HX := n1_; have HWB := n2_; have HWS := n3_; clear n0_ n1_ n2_ n3_; have x0 : wn.cell? ⟨g, 0, none⟩ = some (.slice at_.a at_.len at_.cap) := HX.out.c0; have x1 : wn.cell? ⟨g, 1, none⟩ = some (.int .u64 (tm : Int)) := HX.out.c1; have x2 : wn.cell? ⟨g, 2, none⟩ = some (.int .i64 kd) := HX.out.c2; have x3 : wn.cell? ⟨g, 3, none⟩ = some (.int .u64 (nn : Int)) := HX.out.c3; have x4 : wn.cell? ⟨g, 4, none⟩ = some (.string sp) := HX.out.c4; have x5 : wn.cell? ⟨g, 5, none⟩ = some (.string tr) := HX.out.c5; have x6 : wn.cell? ⟨g, 6, none⟩ = some (.string uk) := HX.out.c6)
    | (go_at_call 23; with_reducible refine (W2.out b _ HWB.out HWS.out).mono ?_; rintro e wn ⟨rfl, hw2, hb2⟩; have n0_ := Aside0.mk (HB.out.trans (hb2.mono HWb.out)); have n1_ := Aside0.mk (HX.out.kept hb2 HG0.out); have n2_ := Aside0.mk hw2; have n3_ := Aside0.mk (Nat.le_trans HWS.out hb2.size); clear HB HX HWB HWS hb2 hw2 x0 x1 x2 x3 x4 x5 x6; have HB := n0_; have HX := n1_; have HWB := n2_; have HWS := n3_; clear n0_ n1_ n2_ n3_; have x0 : wn.cell? ⟨g, 0, none⟩ = some (.slice at_.a at_.len at_.cap) := HX.out.c0; have x1 : wn.cell? ⟨g, 1, none⟩ = some (.int .u64 (tm : Int)) := HX.out.c1; have x2 : wn.cell? ⟨g, 2, none⟩ = some (.int .i64 kd) := HX.out.c2; have x3 : wn.cell? ⟨g, 3, none⟩ = some (.int .u64 (nn : Int)) := HX.out.c3; have x4 : wn.cell? ⟨g, 4, none⟩ = some (.string sp) := HX.out.c4; have x5 : wn.cell? ⟨g, 5, none⟩ = some (.string tr) := HX.out.c5; have x6 : wn.cell? ⟨g, 6, none⟩ = some (.string uk) := HX.out.c6)
    | (go_at_call 23; with_reducible refine (W3.out b _ HWB.out HWS.out).mono ?_; rintro e wn ⟨rfl, hw2, hb2⟩; have n0_ := Aside0.mk (HB.out.trans (hb2.mono HWb.out)); have n1_ := Aside0.mk (HX.out.kept hb2 HG0.out); have n2_ := Aside0.mk hw2; have n3_ := Aside0.mk (Nat.le_trans HWS.out hb2.size); clear HB HX HWB HWS hb2 hw2 x0 x1 x2 x3 x4 x5 x6; have HB := n0_; have HX := n1_; have HWB := n2_; have HWS := n3_; clear n0_ n1_ n2_ n3_; have x0 : wn.cell? ⟨g, 0, none⟩ = some (.slice at_.a at_.len at_.cap) := HX.out.c0; have x1 : wn.cell? ⟨g, 1, none⟩ = some (.int .u64 (tm : Int)) := HX.out.c1; have x2 : wn.cell? ⟨g, 2, none⟩ = some (.int .i64 kd) := HX.out.c2; have x3 : wn.cell? ⟨g, 3, none⟩ = some (.int .u64 (nn : Int)) := HX.out.c3; have x4 : wn.cell? ⟨g, 4, none⟩ = some (.string sp) := HX.out.c4; have x5 : wn.cell? ⟨g, 5, none⟩ = some (.string tr) := HX.out.c5; have x6 : wn.cell? ⟨g, 6, none⟩ = some (.string uk) := HX.out.c6)
    | (go_at_call 22; with_reducible refine (W4.out b _ HWB.out HWS.out).mono ?_; rintro e wn ⟨rfl, hw2, hb2⟩; have n0_ := Aside0.mk (HB.out.trans (hb2.mono HWb.out)); have n1_ := Aside0.mk (HX.out.kept hb2 HG0.out); have n2_ := Aside0.mk hw2; have n3_ := Aside0.mk (Nat.le_trans HWS.out hb2.size); clear HB HX HWB HWS hb2 hw2 x0 x1 x2 x3 x4 x5 x6; have HB := n0_; have HX := n1_; have HWB := n2_; have HWS := n3_; clear n0_ n1_ n2_ n3_; have x0 : wn.cell? ⟨g, 0, none⟩ = some (.slice at_.a at_.len at_.cap) := HX.out.c0; have x1 : wn.cell? ⟨g, 1, none⟩ = some (.int .u64 (tm : Int)) := HX.out.c1; have x2 : wn.cell? ⟨g, 2, none⟩ = some (.int .i64 kd) := HX.out.c2; have x3 : wn.cell? ⟨g, 3, none⟩ = some (.int .u64 (nn : Int)) := HX.out.c3; have x4 : wn.cell? ⟨g, 4, none⟩ = some (.string sp) := HX.out.c4; have x5 : wn.cell? ⟨g, 5, none⟩ = some (.string tr) := HX.out.c5; have x6 : wn.cell? ⟨g, 6, none⟩ = some (.string uk) := HX.out.c6)
    | (go_at_call 24; with_reducible refine (W5.out b _ HB.out HWb.out HWB.out HWS.out).mono ?_; rintro e wn ⟨rfl, hw2, hb2⟩; have n0_ := Aside0.mk (HB.out.trans (hb2.mono HWb.out)); have n1_ := Aside0.mk (HX.out.kept hb2 HG0.out); have n2_ := Aside0.mk hw2; have n3_ := Aside0.mk (Nat.le_trans HWS.out hb2.size); clear HB HX HWB HWS hb2 hw2 x0 x1 x2 x3 x4 x5 x6; have HB := n0_; have HX := n1_; have HWB := n2_; have HWS := n3_; clear n0_ n1_ n2_ n3_; have x0 : wn.cell? ⟨g, 0, none⟩ = some (.slice at_.a at_.len at_.cap) := HX.out.c0; have x1 : wn.cell? ⟨g, 1, none⟩ = some (.int .u64 (tm : Int)) := HX.out.c1; have x2 : wn.cell? ⟨g, 2, none⟩ = some (.int .i64 kd) := HX.out.c2; have x3 : wn.cell? ⟨g, 3, none⟩ = some (.int .u64 (nn : Int)) := HX.out.c3; have x4 : wn.cell? ⟨g, 4, none⟩ = some (.string sp) := HX.out.c4; have x5 : wn.cell? ⟨g, 5, none⟩ = some (.string tr) := HX.out.c5; have x6 : wn.cell? ⟨g, 6, none⟩ = some (.string uk) := HX.out.c6)
    | (go_at_call 26; with_reducible refine (W6.out b _ HWB.out HWS.out).mono ?_; rintro e wn ⟨rfl, hw2, hb2⟩; have n0_ := Aside0.mk (HB.out.trans (hb2.mono HWb.out)); have n1_ := Aside0.mk (HX.out.kept hb2 HG0.out); have n2_ := Aside0.mk hw2; have n3_ := Aside0.mk (Nat.le_trans HWS.out hb2.size); clear HB HX HWB HWS hb2 hw2 x0 x1 x2 x3 x4 x5 x6; have HB := n0_; have HX := n1_; have HWB := n2_; have HWS := n3_; clear n0_ n1_ n2_ n3_; have x0 : wn.cell? ⟨g, 0, none⟩ = some (.slice at_.a at_.len at_.cap) := HX.out.c0; have x1 : wn.cell? ⟨g, 1, none⟩ = some (.int .u64 (tm : Int)) := HX.out.c1; have x2 : wn.cell? ⟨g, 2, none⟩ = some (.int .i64 kd) := HX.out.c2; have x3 : wn.cell? ⟨g, 3, none⟩ = some (.int .u64 (nn : Int)) := HX.out.c3; have x4 : wn.cell? ⟨g, 4, none⟩ = some (.string sp) := HX.out.c4; have x5 : wn.cell? ⟨g, 5, none⟩ = some (.string tr) := HX.out.c5; have x6 : wn.cell? ⟨g, 6, none⟩ = some (.string uk) := HX.out.c6)
    | (go_at_call 27; with_reducible refine (wstring_any b b _ _ HWB.out HWS.out).mono ?_; rintro e wn ⟨rfl, hb2⟩; have n0_ := Aside0.mk (HB.out.trans (hb2.mono HWb.out)); clear HB hb2; have HB := n0_; clear n0_))
  go_ret2
  exact ⟨rfl, HB.out⟩
set_option maxHeartbeats 1000000 in
set_option maxRecDepth 100000 in
theorem marsh_bad (w : World) (x : Exm) (d : Int) (HM : CB w 11 #[.agg (exmC x).toArray, .int .i64 d] false) : Calls Tryz.prog 10 #[.agg (exmC x).toArray, .int .i64 d] w fun e w' => e = .returned (.tuple #[.string ⟨#[]⟩, .iface 36 (.int .i64 8)]) ∧ Below w.heap.size w w' := by
  unfold CB at HM
  have HMM := Aside0.mk HM
  clear HM
  go_enter Tryz.func10, Tryz.ntmps10
  go_upto_region 1 with (with_reducible refine gate_dst (N := 2) rfl ?_; refine Great.wpList_boxTo rfl 25 _ rfl _ rfl w.heap.size rfl (exmC x).toArray rfl ?_)
  have HX : Aside0 (XEm (w.alloc (.cells (exmC x).toArray 25)) w.heap.size x) := ⟨⟨heap_alloc_new w _⟩⟩
  have HB0 : Aside0 (Below w.heap.size w (w.alloc (.cells (exmC x).toArray 25))) := ⟨(Below.refl _ _).alloc (Nat.le_refl _) _⟩
  generalize (w.alloc (.cells (exmC x).toArray 25)) = w1 at *
  generalize hg : w.heap.size = g at HX ⊢
  have HGG := Aside0.mk hg
  clear hg
  go_wp2_with (first
    | (refine wpList_load_row rfl 25 _ rfl g rfl 25 (exmC x).toArray (0, 0) _ HX.out.blk Tryz.underlying25 rfl (by kernel_rfl) ?_)
    | (go_at_call 11; with_reducible refine (HMM.out _ HB0.out).mono ?_; rintro e w2 ⟨rfl, hb2⟩; have n0_ := Aside0.mk (below_next HB0.out hb2); clear HB0 HX hb2; have HB0 := n0_; clear n0_))
  go_ret2
  exact ⟨rfl, HB0.out⟩
set_option maxRecDepth 100000 in
theorem parts_none (b : Nat) (s : ByteArray) (num d : Int) (f : Value) (w : World) (h : WB b b s w) (_hb : b ≤ w.heap.size) : WAdds 24 b b s ⟨#[]⟩ [.int .i64 num, .slice none 0 0, .int .i64 d, f] w := by
  have HH := Aside0.mk h
  clear h _hb
  unfold WAdds
  show Calls _ _ #[.pointer (some ⟨b, 0, none⟩), .int .i64 num, .slice none 0 0, .int .i64 d, f] _ _
  go_enter Tryz.func24, Tryz.ntmps24
  go_wp2_with fail
  go_loopw [16] (fun v16 w' => v16 = .int .i64 0 ∧ w' = w) (fun _ _ => 0)
  case atStart => exact ⟨rfl, rfl⟩
  case round =>
    obtain ⟨rfl, rfl⟩ := hrel
    go_wp2_with fail
    go_end0
    exact ⟨rfl, by rw [app_none]; exact HH.out, Below.refl _ _⟩
/-! ### first() -/
def e21 : ByteArray := ⟨#[49, 1, 0, 0, 0, 0, 0, 0, 0]⟩
theorem exmB_21 : exmB 0 1 2 ⟨#[]⟩ ⟨#[]⟩ ⟨#[]⟩ ⟨#[]⟩ = e21 := by
  have h2 : (decide (0 < 0)) = false := rfl
  have h3 : ((⟨#[]⟩ : ByteArray).toList == ([] : List UInt8)) = true := by rw [ByteArray.toList_eq]; rfl
  unfold exmB
  rw [h3]
  have h4 : recB 6 1 (st (leL 8 1)) = e21 := by
    unfold recB
    rw [if_neg (by decide)]
    have e0 : put (6 * 8 + 1) = ⟨#[49]⟩ := by
      unfold put
      rw [show (6 * 8 + 1 : Int).toNat = 49 from rfl]
      unfold putL
      rfl
    rw [e0]
    rfl
  rw [h4]
  rfl
theorem marsh_21 (w : World) : Calls Tryz.prog 10 #[exmZ 2 1, .int .i64 0] w fun e w' => e = .returned (.tuple #[.string e21, .nilIface]) ∧ Below w.heap.size w w' := by
  have h := marsh_ok w ⟨none, 0, 0⟩ 0 1 2 0 ⟨#[]⟩ ⟨#[]⟩ ⟨#[]⟩ ⟨#[]⟩ (by decide) (by decide) (by decide) (by decide) (by decide) (by decide) (fun w2 _ => may_at 2 1 true w2 rfl) (fun b s w2 _ hb _ _ hw => parts_none b s 7 0 _ w2 hw hb)
  rw [exmB_21] at h
  exact h
theorem marsh_01 (w : World) : Calls Tryz.prog 10 #[exmZ 0 1, .int .i64 0] w fun e w' => e = .returned (.tuple #[.string ⟨#[]⟩, .iface 36 (.int .i64 8)]) ∧ Below w.heap.size w w' := marsh_bad w ⟨⟨none, 0, 0⟩, 0, 0, 1, ⟨#[]⟩, ⟨#[]⟩, ⟨#[]⟩⟩ 0 (fun w2 _ => may_at 0 1 false w2 rfl)
set_option maxRecDepth 100000 in
theorem exfirst_any (w : World) (hg : Laid w) : Calls Tryz.prog 5 #[] w fun e w' => e = .returned (.bool true) ∧ Below w.heap.size w w' := by
  have HG := Aside0.mk hg
  clear hg
  have M1 := Aside0.mk (marsh_21 w)
  have M2 := Aside0.mk marsh_01
  have HC := Aside0.mk (fun w2 (hb : Below w.heap.size w w2) => code_any (.code 8) (.iface 36 (.int .i64 8)) w2 (HG.out.below hb) rfl)
  have hs : (e21.toList == [49, 1, 0, 0, 0, 0, 0, 0, 0]) = true := by rw [ByteArray.toList_eq]; rfl
  unfold exmZ at M1 M2
  generalize e21 = E at *
  go_enter Tryz.func5, Tryz.ntmps5
  go_wp2_with (first
    | (go_at_call 10; with_reducible refine M1.out.mono ?_; rintro e w2 ⟨rfl, hb⟩; have HB := Aside0.mk hb; clear hb)
    | (go_at_call 10; with_reducible refine (M2.out _).mono ?_; rintro e w3 ⟨rfl, hb⟩; have n0_ := Aside0.mk (below_next HB.out hb); clear HB hb; have HB := n0_; clear n0_)
    | (go_at_call 14; with_reducible refine (HC.out _ HB.out).mono ?_; rintro e w4 ⟨rfl, hb⟩; have n0_ := Aside0.mk (below_next HB.out hb); clear HB hb; have HB := n0_; clear n0_))
  go_ret
  exact ⟨rfl, HB.out⟩
end Go.Proofs.YtnghlkbmfhkmoaaGreatDoor
namespace Go.Proofs.YtnghlkbmfhkmoaaGreatDoor
open Go.RowKit Go.Proofs.YtnghlkbmfhkmoaaGreatDoorW.PrintWords Go.Proofs.YtnghlkbmfhkmoaaGreatDoorW.PrintLast Go.Proofs.YtnghlkbmfhkmoaaGreatDoorW.PrintMore
/-- How much of a room a value takes. -/
noncomputable def wtV (W : World) : Nat → Vl → Nat
  | 0, _ => 0
  | d + 1, x => 60 + x.s.size + x.inner.size + x.unk.size + ((vls W x.l).map (wtV W d)).sum + ((kvs W x.m).map fun y => 40 + y.key.size + y.unk.size + wtV W d y.v).sum
noncomputable def kw (W : World) (d : Nat) (y : Kv) : Nat := 40 + y.key.size + y.unk.size + wtV W d y.v
theorem kw_mk (W : World) (d : Nat) (key : ByteArray) (has : Bool) (v : Vl) (unk : ByteArray) : kw W d ⟨key, has, v, unk⟩ = 40 + key.size + unk.size + wtV W d v := rfl
theorem wtV_succ (W : World) (d : Nat) (x : Vl) : wtV W (d + 1) x = 60 + x.s.size + x.inner.size + x.unk.size + ((vls W x.l).map (wtV W d)).sum + ((kvs W x.m).map (kw W d)).sum := rfl
/-- The first i of a list. -/
def wS {α : Type} (f : α → Nat) (l : List α) (i : Nat) : Nat := ((l.take i).map f).sum
theorem wS_next {α : Type} {f : α → Nat} {l : List α} {i : Nat} {x : α} (h : l[i]? = some x) : wS f l (i + 1) = wS f l i + f x := by
  unfold wS
  rw [List.take_add_one, h]
  simp
theorem wS_all {α : Type} {f : α → Nat} {l : List α} {i : Nat} (h : l.length ≤ i) : wS f l i = (l.map f).sum := by
  unfold wS
  rw [List.take_of_length_le h]
theorem wS_zero {α : Type} {f : α → Nat} {l : List α} : wS f l 0 = 0 := rfl
theorem tk_eq (r n : Int) (h1 : -1 ≤ r) (h2 : r ≤ 12000) (hn : 0 ≤ n) (h : 0 ≤ tk r n) : tk r n + n + 20 = r := by
  unfold tk at h ⊢
  by_cases h3 : r < 0
  · rw [if_pos h3] at h; omega
  · rw [if_neg h3] at h ⊢
    have e1 : wrap64 (r - 20) = r - 20 := by unfold wrap64; omega
    rw [e1] at h ⊢
    by_cases h4 : n > r - 20
    · rw [if_pos h4] at h; omega
    · rw [if_neg h4]
      have e2 : wrap64 (r - n) = r - n := by unfold wrap64; omega
      rw [e2]
      have e3 : wrap64 (r - n - 20) = r - n - 20 := by unfold wrap64; omega
      rw [e3]
      omega
theorem tk2w (r : Int) (a b : Nat) (h1 : -1 ≤ r) (h2 : r ≤ 12000) (h : 0 ≤ tk (tk r (a : Int)) (b : Int)) : tk (tk r (a : Int)) (b : Int) + a + b + 40 = r := by
  have q1 := tk_rp r a h1 h2 (by omega)
  have q2 := tk_rp (tk r a) b q1.1 (by have := q1.2.1; omega) (by omega)
  have e2 := tk_eq (tk r a) b q1.1 (by have := q1.2.1; omega) (by omega) h
  have e1 := tk_eq r a h1 h2 (by omega) (by have := q2.2.1; omega)
  omega
theorem tk3w (r : Int) (a b c : Nat) (h1 : -1 ≤ r) (h2 : r ≤ 12000) (h : 0 ≤ tk (tk (tk r (a : Int)) (b : Int)) (c : Int)) : tk (tk (tk r (a : Int)) (b : Int)) (c : Int) + a + b + c + 60 = r := by
  have q2 := tk2 r a b h1 h2
  have q3 := tk_rp (tk (tk r a) b) c q2.1 (by have := q2.2.1; omega) (by omega)
  have e3 := tk_eq (tk (tk r a) b) c q2.1 (by have := q2.2.1; omega) (by omega) h
  have e2 := tk2w r a b h1 h2 (by have := q3.2.1; omega)
  omega
def RResW (room : Int) (k : Nat) (F : Int → Prop) (w : World) (e : Ending) (w' : World) : Prop := ∃ r : Int, e = .returned (.int .i64 r) ∧ (RP room k r ∧ (0 ≤ r → F r)) ∧ Below w.heap.size w w'
def RVWt (m : Nat) : Prop := ∀ (W w : World) (v : Vl) (room : Int), Below W.heap.size W w → VlOk W v → -1 ≤ room → room ≤ 12000 →
  Calls Tryz.prog 61 #[vlA v, .int .i64 ((m : Int) - 1), .int .i64 room] w (RResW room 0 (fun r => FinV W m v ∧ r + (wtV W m v : Int) ≤ room) w)
def RKWt (m : Nat) : Prop := ∀ (W w : World) (s : Sl) (l : List Kv) (room : Int), Below W.heap.size W w → SlAt 11 kvC KvOk W s l → -1 ≤ room → room ≤ 12000 →
  Calls Tryz.prog 39 #[s.v, .int .i64 ((m : Int) - 1), .int .i64 room] w (RResW room l.length (fun r => (∀ y ∈ l, FinV W m y.v) ∧ r + ((l.map (kw W m)).sum : Int) ≤ room) w)
theorem rvw_neg : RVWt 0 := by
  intro W w v room _ _ h1 _
  unfold vlA Sl.v
  go_enter Tryz.func61, Tryz.ntmps61
  go_wp2_with fail
  go_ret
  exact ⟨-1, rfl, ⟨⟨by omega, by omega, fun h => by omega⟩, fun h => by omega⟩, (Below.refl _ _).alloc (Nat.le_refl _) _⟩
set_option maxHeartbeats 2000000 in
set_option maxRecDepth 100000 in
theorem rvw_next (m : Nat) (hm : m ≤ 100) (HV : RVWt m) (HK : RKWt m) : RVWt (m + 1) := by
  intro W w v room hW hv h1 h2
  have hls := vls_at hv.l
  have hms := kvs_at hv.m
  have HFIN : Aside0 (((∀ y ∈ vls W v.l, FinV W m y) → (∀ y ∈ kvs W v.m, FinV W m y.v) → FinV W (m + 1) v) ∧ wtV W (m + 1) v = 60 + v.s.size + v.inner.size + v.unk.size + ((vls W v.l).map (wtV W m)).sum + ((kvs W v.m).map (kw W m)).sum) := ⟨fun h1 h2 => ⟨h1, h2⟩, wtV_succ W m v⟩
  generalize hlE : vls W v.l = ls at *
  generalize hmE : kvs W v.m = ms at *
  clear hlE hmE
  obtain ⟨kind, s, b, n, ⟨la, ln, lc⟩, ⟨ma, mn, mc⟩, inner, unk⟩ := v
  obtain rfl : ln = ls.length := hls.1
  have HVV := Aside0.mk HV
  have HKK := Aside0.mk HK
  have HW := Aside0.mk hW
  have HO := Aside0.mk hv
  have HB0 := Aside0.mk (Below.refl w.heap.size w)
  have HLS := Aside0.mk hls
  have HMS := Aside0.mk hms
  have e1 : ((m + 1 : Nat) : Int) - 1 = (m : Int) := by omega
  have T3 := Aside0.mk (tk3 room s.size inner.size unk.size h1 h2)
  have T3w := Aside0.mk (tk3w room s.size inner.size unk.size h1 h2)
  have H12 := Aside0.mk h2
  rw [e1]
  clear HV HK hW hv hls hms e1 h1 h2
  unfold vlA Sl.v
  go_enter Tryz.func61, Tryz.ntmps61
  go_upto_region 3 with fail
  have hx1 : XV (w.alloc (.cells #[.int .i64 kind, .string s, .bool b, .int .u64 n, .slice la ls.length lc, .slice ma mn mc, .string inner, .string unk] 57)) w.heap.size ⟨kind, s, b, n, ⟨la, ls.length, lc⟩, ⟨ma, mn, mc⟩, inner, unk⟩ := heap_alloc_new w _
  have HX := Aside0.mk hx1
  have HB := Aside0.mk ((Below.refl w.heap.size w).alloc (Nat.le_refl _) (.cells #[.int .i64 kind, .string s, .bool b, .int .u64 n, .slice la ls.length lc, .slice ma mn mc, .string inner, .string unk] 57))
  clear hx1 HB0
  generalize w.alloc (.cells #[.int .i64 kind, .string s, .bool b, .int .u64 n, .slice la ls.length lc, .slice ma mn mc, .string inner, .string unk] 57) = w1 at *
  generalize hgg : w.heap.size = g at HX ⊢
  have HGG := Aside0.mk hgg
  clear hgg
  have q1 := HX.out.c1
  have q6 := HX.out.c6
  have q7 := HX.out.c7
  have q4 := HX.out.c4
  go_quiet ((go_at_call 38; exact Calls.quiet_of (take_qq _ _ _)))
  have HXn : Aside0 (XV (w1.drewN nq) g ⟨kind, s, b, n, ⟨la, ls.length, lc⟩, ⟨ma, mn, mc⟩, inner, unk⟩) := ⟨HX.out⟩
  have HBn : Aside0 (Below w.heap.size w (w1.drewN nq)) := ⟨pw_below_drewN HB.out _⟩
  clear HX HB q1 q6 q7 q4
  have HX := HXn
  have HB := HBn
  clear HXn HBn
  generalize w1.drewN nq = w2 at *
  generalize tk (tk (tk room (s.size : Int)) (inner.size : Int)) (unk.size : Int) = r0 at *
  have hgw := blk_lt HX.out
  have HGW := Aside0.mk hgw
  clear hgw
  go_wp2_with fail
  have HQ0 := Aside0.mk (T3.out.less (Nat.zero_le _))
  go_loopw [2, 7] (fun v2 v7 w' => ∃ (i : Nat) (r : Int), v2 = .int .i64 r ∧ v7 = .int .i64 (i : Int) ∧ i ≤ ls.length ∧ Aside0 (RP room 0 r) ∧ Aside0 (0 ≤ r → (∀ j y, j < i → ls[j]? = some y → FinV W m y) ∧ r + (wS (wtV W m) ls i : Int) ≤ r0) ∧ Aside0 (XV w' g ⟨kind, s, b, n, ⟨la, ls.length, lc⟩, ⟨ma, mn, mc⟩, inner, unk⟩) ∧ Aside0 (Below w.heap.size w w')) (fun _ v7 _ => ls.length - (intOf v7).toNat)
  case atStart => exact ⟨0, r0, rfl, rfl, Nat.zero_le _, HQ0, ⟨fun _ => ⟨fun j y hj => absurd hj (Nat.not_lt_zero j), by rw [wS_zero]; omega⟩⟩, HX, HB⟩
  case round =>
    clear HQ0 T3 HX HB HGW
    obtain ⟨i, r, rfl, rfl, hi, HQ, HFI, HX, HB⟩ := hrel
    have q4 := HX.out.c4
    have q5 := HX.out.c5
    have hWr : Below W.heap.size W wr := HW.out.trans (HB.out.mono HW.out.size)
    have HWr := Aside0.mk hWr
    have hgr := blk_lt HX.out
    have HGR := Aside0.mk hgr
    clear hWr hgr
    by_cases hgo : i < ls.length ∧ 0 ≤ r
    · obtain ⟨hlt, hr0⟩ := hgo
      obtain ⟨a, rfl, hel⟩ := HLS.out.2.2.2 (by omega)
      obtain ⟨he1, he2⟩ := hel i hlt
      have hxa := (vl_at he1).below HWr.out
      have HN := Aside0.mk he2
      have HGX := Aside0.mk (List.getElem?_eq_getElem hlt)
      generalize ls[i] = x at *
      obtain ⟨kx, sx, bx, nx, ⟨lax, lnx, lcx⟩, ⟨max, mnx, mcx⟩, ix, ux⟩ := x
      have p0 := hxa.c0
      have p1 := hxa.c1
      have p2 := hxa.c2
      have p3 := hxa.c3
      have p4 := hxa.c4
      have p5 := hxa.c5
      have p6 := hxa.c6
      have p7 := hxa.c7
      have H := HVV.out W wr _ r HWr.out HN.out HQ.out.1 (by have := HQ.out.2.1; have := H12.out; omega)
      unfold vlA Sl.v at H
      unfold Sl.v at p4 p5
      have hlm : ls.length ≤ 9223372036854775807 := by have h := HLS.out.2.1; have h2 := HLS.out.2.2.1; unfold maxLen at h2; simp only at h h2; omega
      clear he1 he2 hel hxa
      go_wp2_with fail
      refine H.mono ?_
      rintro e w3 ⟨r2, rfl, hr2, hb⟩
      have HQn := Aside0.mk (HQ.out.trans hr2.1)
      have HFn := Aside0.mk (show 0 ≤ r2 → (∀ j y, j < i + 1 → ls[j]? = some y → FinV W m y) ∧ r2 + (wS (wtV W m) ls (i + 1) : Int) ≤ r0 from fun h0 => ⟨get_next (HFI.out hr0).1 HGX.out (hr2.2 h0).1, by have h_1 := (HFI.out hr0).2; have h_2 := (hr2.2 h0).2; rw [wS_next HGX.out]; omega⟩)
      have HXn : Aside0 (XV w3 g _) := ⟨blk_below HX.out hb⟩
      have HBn := Aside0.mk (below_next HB.out hb)
      clear hb hr2 p0 p1 p2 p3 p4 p5 p6 p7 q4 q5 HX HB HQ H
      go_wp2_with fail
      go_roundw
      case rel => exact ⟨i + 1, r2, rfl, by go_num, by omega, HQn, HFn, HXn, HBn⟩
      case measure => simp [intOf]; omega
    · have H := HKK.out W wr _ ms r HWr.out HMS.out HQ.out.1 (by have := HQ.out.2.1; have := H12.out; omega)
      unfold Sl.v at H
      have hor : ¬ i < ls.length ∨ (i < ls.length ∧ r < 0) := by
        by_cases h1 : i < ls.length
        · exact .inr ⟨h1, by by_cases h : 0 ≤ r; exact absurd ⟨h1, h⟩ hgo; omega⟩
        · exact .inl h1
      clear hgo
      rcases hor with d1 | ⟨d1, d2⟩
      all_goals
        go_wp2_with fail
        all_goals first
          | (exfalso; omega)
          | (refine H.mono ?_
             rintro e w3 ⟨r2, rfl, hr2, hb⟩
             have HQn := Aside0.mk ((HQ.out.trans hr2.1).less (Nat.zero_le _))
             have HFn := Aside0.mk (show 0 ≤ r2 → FinV W (m + 1) ⟨kind, s, b, n, ⟨la, ls.length, lc⟩, ⟨ma, mn, mc⟩, inner, unk⟩ ∧ r2 + (wtV W (m + 1) ⟨kind, s, b, n, ⟨la, ls.length, lc⟩, ⟨ma, mn, mc⟩, inner, unk⟩ : Int) ≤ room from fun h0 => ⟨HFIN.out.1 (all_of_get (fun j y hj hy => (HFI.out (by have := hr2.1.2.1; omega)).1 j y (by have := hr2.1.2.1; omega) hy)) (hr2.2 h0).1, by
               have h_1 := hr2.1.2.1
               have h_2 := (HFI.out (by omega)).2
               rw [wS_all (by omega)] at h_2
               have h_3 := (hr2.2 h0).2
               have h_4 := T3w.out (by omega)
               have h_5 := HFIN.out.2
               omega⟩)
             have HBn := Aside0.mk (below_next HB.out hb)
             clear hb hr2 q4 q5 HX HB HQ H
             go_wp2_with fail
             go_ret
             exact ⟨r2, rfl, ⟨HQn.out, HFn.out⟩, HBn.out⟩)
set_option maxHeartbeats 2000000 in
set_option maxRecDepth 100000 in
theorem rkw_any (m : Nat) (hm : m ≤ 100) (HV : RVWt m) : RKWt m := by
  intro W w s l room hW hs h1 h2
  obtain ⟨sa, sn, sc⟩ := s
  obtain rfl : sn = l.length := hs.1
  have HVV := Aside0.mk HV
  have HW := Aside0.mk hW
  have HS := Aside0.mk hs
  have HB := Aside0.mk (Below.refl w.heap.size w)
  have H12 := Aside0.mk h2
  have HQ := Aside0.mk (RP.refl h1)
  obtain ⟨dp, hdp⟩ : ∃ dp : Int, (m : Int) - 1 = dp := ⟨_, rfl⟩
  have HDP := Aside0.mk hdp
  rw [hdp]
  have hdp1 : dp ≤ 99 := by omega
  have hdp2 : -1 ≤ dp := by omega
  have hlm : l.length ≤ 9223372036854775807 := by have h := hs.2.1; have h2 := hs.2.2.1; unfold maxLen at h2; simp only at h h2; omega
  unfold Sl.v
  clear HV hW hs h2 hdp hm
  by_cases hneg : dp < 0 ∧ 0 < l.length
  · obtain ⟨n1, n2⟩ := hneg
    go_enter Tryz.func39, Tryz.ntmps39
    go_wp2_with fail
    all_goals first
      | (exfalso; omega)
      | (go_ret
         exact ⟨-1, rfl, ⟨⟨by omega, by omega, fun h => by omega⟩, fun h => by omega⟩, HB.out⟩)
  · have hor : ¬ dp < 0 ∨ (dp < 0 ∧ ¬ 0 < l.length) := by
      by_cases h : dp < 0
      · exact .inr ⟨h, fun h' => hneg ⟨h, h'⟩⟩
      · exact .inl h
    clear hneg
    rcases hor with n1 | ⟨n1, n2⟩
    · skip
      go_enter Tryz.func39, Tryz.ntmps39
      go_wp2_with fail
      go_loopw [2, 7] (fun v2 v7 w' => ∃ (i : Nat) (r : Int), v2 = .int .i64 r ∧ v7 = .int .i64 (i : Int) ∧ i ≤ l.length ∧ Aside0 (RP room i r) ∧ Aside0 (0 ≤ r → (∀ j y, j < i → l[j]? = some y → FinV W m y.v) ∧ r + (wS (kw W m) l i : Int) ≤ room) ∧ Aside0 (Below w.heap.size w w')) (fun _ v7 _ => l.length - (intOf v7).toNat)
      case atStart => exact ⟨0, room, rfl, rfl, Nat.zero_le _, HQ, ⟨fun _ => ⟨fun j y hj => absurd hj (Nat.not_lt_zero j), by rw [wS_zero]; omega⟩⟩, HB⟩
      case round =>
        clear HQ HB
        obtain ⟨i, r, rfl, rfl, hi, HQ, HFI, HB⟩ := hrel
        by_cases hgo : i < l.length ∧ 0 ≤ r
        · obtain ⟨hlt, hr0⟩ := hgo
          obtain ⟨ad, rfl, hel⟩ := HS.out.2.2.2 (by omega)
          obtain ⟨he1, he2⟩ := hel i hlt
          have hWr : Below W.heap.size W wr := HW.out.trans (HB.out.mono HW.out.size)
          have hxa := (kv_at he1).below hWr
          have HXA := Aside0.mk hxa
          have HWr := Aside0.mk hWr
          have HN := Aside0.mk he2
          have HGX := Aside0.mk (List.getElem?_eq_getElem hlt)
          generalize l[i] = x at *
          obtain ⟨key, has, ⟨kx, sx, bx, nx, ⟨lax, lnx, lcx⟩, ⟨max, mnx, mcx⟩, ix, ux⟩, unk⟩ := x
          have p0 := hxa.c0
          have p10 := hxa.c10
          have T2w := Aside0.mk (tk2w r key.size unk.size (by omega) (by have := HQ.out.2.1; have := H12.out; omega))
          have T2 := Aside0.mk (tk2 r key.size unk.size (by omega) (by have := HQ.out.2.1; have := H12.out; omega))
          clear he1 he2 hel hxa hWr
          go_wp2_with fail
          go_quiet ((go_at_call 38; exact Calls.quiet_of (take_qq _ _ _)))
          generalize tk (tk r (key.size : Int)) (unk.size : Int) = r1 at *
          have HBd : Aside0 (Below w.heap.size w (wr.drewN nq)) := ⟨pw_below_drewN HB.out _⟩
          have HWd : Aside0 (Below W.heap.size W (wr.drewN nq)) := ⟨pw_below_drewN HWr.out _⟩
          have hxd := HXA.out.below (pw_below_drewN (Below.refl wr.heap.size wr) nq)
          generalize wr.drewN nq = w2 at *
          have H := HVV.out W w2 _ r1 HWd.out HN.out.v T2.out.1 (by have := T2.out.2.1; have := HQ.out.2.1; have := H12.out; omega)
          unfold vlA Sl.v at H
          rw [HDP.out] at H
          have p2 := hxd.c2
          have p3 := hxd.c3
          have p4 := hxd.c4
          have p5 := hxd.c5
          have p6 := hxd.c6
          have p7 := hxd.c7
          have p8 := hxd.c8
          have p9 := hxd.c9
          unfold Sl.v at p6 p7
          have z42 := Tryz.sizeOf57
          clear p0 p10 hxd HB HWr HXA
          go_wp2_with fail
          refine H.mono ?_
          rintro e w3 ⟨r2, rfl, hr2, hb⟩
          have HQn := Aside0.mk (((HQ.out.trans T2.out).trans hr2.1).less (show i + 1 ≤ i + 2 + 0 by omega))
          have HFn := Aside0.mk (show 0 ≤ r2 → (∀ j y, j < i + 1 → l[j]? = some y → FinV W m y.v) ∧ r2 + (wS (kw W m) l (i + 1) : Int) ≤ room from fun h0 => ⟨get_next (p := fun y : Kv => FinV W m y.v) (HFI.out hr0).1 HGX.out (hr2.2 h0).1, by
            have h_1 := (HFI.out hr0).2
            have h_2 := (hr2.2 h0).2
            have h_3 := hr2.1.2.1
            have h_4 := T2w.out (by omega)
            rw [wS_next HGX.out, kw_mk]
            omega⟩)
          have HBn := Aside0.mk (below_next HBd.out hb)
          clear hb hr2 p2 p3 p4 p5 p6 p7 p8 p9 H HBd HWd HQ T2
          go_wp2_with fail
          go_roundw
          case rel => exact ⟨i + 1, r2, rfl, by go_num, by omega, HQn, HFn, HBn⟩
          case measure => simp [intOf]; omega
        · have hor : ¬ i < l.length ∨ (i < l.length ∧ r < 0) := by
            by_cases h1 : i < l.length
            · exact .inr ⟨h1, by by_cases h : 0 ≤ r; exact absurd ⟨h1, h⟩ hgo; omega⟩
            · exact .inl h1
          have HQn : Aside0 (RP room l.length r) := ⟨by
            rcases hor with h | ⟨_, h⟩
            · exact HQ.out.less (by omega)
            · exact HQ.out.neg _ h⟩
          clear hgo
          rcases hor with d1 | ⟨d1, d2⟩
          all_goals
            go_wp2_with fail
            all_goals first
              | (exfalso; omega)
              | (go_ret
                 exact ⟨r, rfl, ⟨HQn.out, fun h0 => ⟨all_of_get (p := fun y : Kv => FinV W m y.v) (fun j y hj hy => (HFI.out h0).1 j y (by omega) hy), by have h_1 := (HFI.out h0).2; rw [wS_all (by omega)] at h_1; exact h_1⟩⟩, HB.out⟩)
    · go_enter Tryz.func39, Tryz.ntmps39
      go_wp2_with fail
      go_loopw [2, 7] (fun v2 v7 w' => v2 = .int .i64 room ∧ v7 = .int .i64 0 ∧ Aside0 (Below w.heap.size w w')) (fun _ _ _ => 0)
      case atStart => exact ⟨rfl, rfl, HB⟩
      case round =>
        clear HB
        obtain ⟨rfl, rfl, HB⟩ := hrel
        go_wp2_with fail
        go_ret
        exact ⟨room, rfl, ⟨⟨h1, Int.le_refl _, fun _ => by omega⟩, fun _ => ⟨fun y hy => by obtain ⟨j, hj, _⟩ := List.mem_iff_getElem.1 hy; omega, by rw [List.length_eq_zero_iff.1 (by omega : l.length = 0)]; simp⟩⟩, HB.out⟩
theorem roomw_both : ∀ m : Nat, m ≤ 90 → RVWt m ∧ RKWt m := by
  intro m
  induction m with
  | zero => intro _; exact ⟨rvw_neg, rkw_any 0 (by omega) rvw_neg⟩
  | succ m ih =>
    intro hm
    obtain ⟨h1, h2⟩ := ih (by omega)
    have h := rvw_next m (by omega) h1 h2
    exact ⟨h, rkw_any (m + 1) (by omega) h⟩
end Go.Proofs.YtnghlkbmfhkmoaaGreatDoor
namespace Go.Proofs.YtnghlkbmfhkmoaaGreatDoor.Hy
open Go.RowKit
/-! ### signs of UTF-8 -/
def szc (c : Nat) : Nat := if c > 244 then 0 else if 128 ≤ c ∧ c < 194 then 0 else if c ≥ 240 then 4 else if c ≥ 224 then 3 else if c ≥ 194 then 2 else 1
def fol (c : Nat) : Bool := decide (128 ≤ c) && decide (c ≤ 191)
def sec (f c : Nat) : Bool := if f = 224 then decide (160 ≤ c) && fol c else if f = 237 then decide (c ≤ 159) && fol c else if f = 240 then decide (144 ≤ c) && fol c else if f = 244 then decide (c ≤ 143) && fol c else fol c
def sgn : List Nat → Nat
  | [] => 0
  | c :: r => if szc c = 0 then 0 else if r.length + 1 < szc c then 0 else if szc c = 1 then 1 else
      if sec c (r.getD 0 0) && ((r.take (szc c - 1)).drop 1).all fol then szc c else 0
theorem szc_le (c : Nat) : szc c ≤ 4 := by unfold szc; (repeat' split) <;> omega
theorem sgn_cons (c : Nat) (r : List Nat) (h : sgn (c :: r) ≠ 0) : sgn (c :: r) = szc c ∧ szc c ≤ r.length + 1 ∧ 1 ≤ szc c := by
  simp only [sgn] at h ⊢
  by_cases h0 : szc c = 0
  · rw [if_pos h0] at h; exact absurd rfl h
  · rw [if_neg h0] at h ⊢
    by_cases h1 : r.length + 1 < szc c
    · rw [if_pos h1] at h; exact absurd rfl h
    · rw [if_neg h1] at h ⊢
      by_cases h2 : szc c = 1
      · rw [if_pos h2] at h ⊢; omega
      · rw [if_neg h2] at h ⊢
        split at h
        · rename_i h3; rw [if_pos h3]; omega
        · exact absurd rfl h
theorem sgn_le (s : List Nat) : sgn s ≤ s.length ∧ sgn s ≤ 4 := by
  cases s with
  | nil => simp [sgn]
  | cons c r =>
    by_cases h : sgn (c :: r) = 0
    · rw [h]; omega
    · have := sgn_cons c r h
      have := szc_le c
      simp only [List.length_cons]; omega
theorem sgn_take (s : List Nat) (m : Nat) (h : sgn s ≠ 0) (hm : sgn s ≤ m) : sgn (s.take m) = sgn s := by
  cases s with
  | nil => exact absurd rfl h
  | cons c r =>
    obtain ⟨h1, h2, h3⟩ := sgn_cons c r h
    rw [h1] at hm
    obtain ⟨m, rfl⟩ : ∃ n, m = n + 1 := ⟨m - 1, by omega⟩
    rw [List.take_succ_cons]
    have e1 : (r.take m).take (szc c - 1) = r.take (szc c - 1) := by rw [List.take_take, Nat.min_eq_left (by omega)]
    simp only [sgn]
    rw [e1, if_neg (show ¬ szc c = 0 by omega), if_neg (by rw [List.length_take]; omega), if_neg (show ¬ szc c = 0 by omega), if_neg (show ¬ r.length + 1 < szc c by omega)]
    by_cases h4 : szc c = 1
    · rw [if_pos h4, if_pos h4]
    · have e2 : (r.take m).getD 0 0 = r.getD 0 0 := by
        cases r with
        | nil => simp
        | cons a t =>
          obtain ⟨m, rfl⟩ : ∃ n, m = n + 1 := ⟨m - 1, by omega⟩
          rfl
      rw [if_neg h4, if_neg h4, e2]
/-- How many bytes the whole signs in front have that have so many at most. -/
def whl (s : List Nat) (m : Int) : Nat := if _h : sgn s = 0 ∨ m < sgn s then 0 else sgn s + whl (s.drop (sgn s)) (m - sgn s)
termination_by s.length
decreasing_by
  have := (sgn_le s).1
  rw [List.length_drop]; omega
theorem whl_stop (s : List Nat) (m : Int) (h : sgn s = 0 ∨ m < sgn s) : whl s m = 0 := by rw [whl]; simp [h]
theorem whl_go (s : List Nat) (m : Int) (h0 : sgn s ≠ 0) (h1 : (sgn s : Int) ≤ m) : whl s m = sgn s + whl (s.drop (sgn s)) (m - sgn s) := by
  rw [whl, dif_neg (by omega)]
/-- All that is to be told of whole signs: how far, why no further. -/
theorem whl_says : ∀ (n : Nat) (s : List Nat) (m : Int), s.length ≤ n → 0 ≤ m → (whl s m : Int) ≤ m ∧ whl s m ≤ s.length ∧ (sgn (s.drop (whl s m)) = 0 ∨ m - whl s m < sgn (s.drop (whl s m))) ∧ (∀ m' : Int, (whl s m : Int) ≤ m' → whl (s.take (whl s m)) m' = whl s m) := by
  intro n
  induction n with
  | zero =>
    intro s m hn hm
    obtain rfl : s = [] := List.eq_nil_of_length_eq_zero (by omega)
    have e : ∀ x, whl [] x = 0 := fun x => whl_stop _ _ (.inl rfl)
    rw [e]
    exact ⟨hm, by simp, .inl rfl, fun m' _ => by rw [List.take_nil]; exact e m'⟩
  | succ n ih =>
    intro s m hn hm
    by_cases hs : sgn s = 0 ∨ m < sgn s
    · rw [whl_stop s m hs]
      refine ⟨hm, by omega, by simpa using hs, fun m' _ => ?_⟩
      rw [List.take_zero]; exact whl_stop _ _ (.inl rfl)
    · have h0 : sgn s ≠ 0 := fun e => hs (.inl e)
      have h1 : (sgn s : Int) ≤ m := by
        rcases Int.lt_or_le m (sgn s) with h | h
        · exact absurd (.inr h) hs
        · exact h
      have hle := sgn_le s
      obtain ⟨i1, i2, i3, i4⟩ := ih (s.drop (sgn s)) (m - sgn s) (by rw [List.length_drop]; omega) (by omega)
      rw [whl_go s m h0 h1]
      rw [List.drop_drop] at i3
      rw [List.length_drop] at i2
      refine ⟨by omega, by omega, ?_, fun m' hm' => ?_⟩
      · rcases i3 with i3 | i3
        · exact .inl i3
        · exact .inr (by omega)
      · have e := sgn_take s (sgn s + whl (s.drop (sgn s)) (m - sgn s)) h0 (by omega)
        rw [whl_go _ m' (by rw [e]; exact h0) (by rw [e]; omega), e, List.drop_take]
        rw [show sgn s + whl (s.drop (sgn s)) (m - sgn s) - sgn s = whl (s.drop (sgn s)) (m - sgn s) by omega, i4 (m' - sgn s) (by omega)]
/-- Are all signs right? -/
def vld (s : List Nat) : Bool := decide (whl s s.length = s.length)
theorem get_bs (s : ByteArray) (i : Nat) (h : i < s.size) : s[i].toNat = (bs s).getD i 0 := by
  have hl : i < (bs s).length := by rw [bs_length]; exact h
  rw [List.getD_eq_getElem?_getD, List.getElem?_eq_getElem hl]
  simp [bs]
  rfl
theorem sgn_small (l : List Nat) (hl : 0 < l.length) (h : szc (l.getD 0 0) ≤ 1) : sgn l = szc (l.getD 0 0) := by
  cases l with
  | nil => simp at hl
  | cons c r =>
    simp only [List.getD_cons_zero] at h ⊢
    simp only [sgn]
    by_cases h0 : szc c = 0
    · rw [if_pos h0, h0]
    · rw [if_neg h0, if_neg (by omega), if_pos (by omega)]; omega
theorem sgn_short (l : List Nat) (h : l.length < szc (l.getD 0 0)) : sgn l = 0 := by
  cases l with
  | nil => rfl
  | cons c r =>
    simp only [List.getD_cons_zero, List.length_cons] at h ⊢
    simp only [sgn]
    rw [if_neg (by omega), if_pos h]
theorem sgn_sec (l : List Nat) (h2 : 2 ≤ szc (l.getD 0 0)) (h : sec (l.getD 0 0) (l.getD 1 0) = false) : sgn l = 0 := by
  cases l with
  | nil => rfl
  | cons c r =>
    simp only [List.getD_cons_zero, List.getD_cons_succ] at h h2 ⊢
    simp only [sgn]
    split
    · rfl
    · split
      · rfl
      · rw [if_neg (by omega), if_neg (by rw [h]; simp)]
theorem sgn_fol (l : List Nat) (j : Nat) (h2 : 2 ≤ j) (hj : j < szc (l.getD 0 0)) (h : fol (l.getD j 0) = false) : sgn l = 0 := by
  cases l with
  | nil => rfl
  | cons c r =>
    simp only [List.getD_cons_zero] at hj
    simp only [sgn]
    rw [if_neg (by omega)]
    by_cases h1 : r.length + 1 < szc c
    · rw [if_pos h1]
    · rw [if_neg h1, if_neg (by omega), if_neg]
      obtain ⟨k, rfl⟩ : ∃ k, j = k + 2 := ⟨j - 2, by omega⟩
      intro hc
      rw [Bool.and_eq_true, List.all_eq_true] at hc
      have hk : k + 1 < r.length := by omega
      have hm : r[k + 1] ∈ (r.take (szc c - 1)).drop 1 := by
        rw [List.mem_drop_iff_getElem]
        exact ⟨k, by rw [List.length_take]; omega, by rw [List.getElem_take]; congr 1; omega⟩
      have := hc.2 _ hm
      rw [List.getD_cons_succ, List.getD_eq_getElem?_getD, List.getElem?_eq_getElem hk] at h
      simp at h
      rw [h] at this
      exact Bool.noConfusion this
theorem sgn_all (l : List Nat) (h2 : 2 ≤ szc (l.getD 0 0)) (hl : szc (l.getD 0 0) ≤ l.length) (h : sec (l.getD 0 0) (l.getD 1 0) = true) (hf : ∀ j, 2 ≤ j → j < szc (l.getD 0 0) → fol (l.getD j 0) = true) : sgn l = szc (l.getD 0 0) := by
  cases l with
  | nil => rw [List.length_nil] at hl; omega
  | cons c r =>
    simp only [List.getD_cons_zero, List.length_cons] at h2 hl hf ⊢
    rw [List.getD_cons_zero, List.getD_cons_succ] at h
    simp only [sgn]
    rw [if_neg (by omega), if_neg (by omega), if_neg (by omega), if_pos]
    rw [h, Bool.true_and, List.all_eq_true]
    intro x hx
    rw [List.mem_drop_iff_getElem] at hx
    obtain ⟨i, hi, rfl⟩ := hx
    rw [List.length_take] at hi
    have := hf (i + 2) (by omega) (by omega)
    rw [List.getD_cons_succ, List.getD_eq_getElem?_getD, List.getElem?_eq_getElem (by omega)] at this
    rw [List.getElem_take]
    simpa [Nat.add_comm] using this
end Go.Proofs.YtnghlkbmfhkmoaaGreatDoor.Hy
