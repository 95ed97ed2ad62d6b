import Derived.Test.YtnghlkbmfhkmoaaGreatDoorMghunbpcr
import Derived.Test.YtnghlkbmfhkmoaaGreatDoorRows
import Derived.LaidLaws
import Derived.LaidHandle
import Derived.Stop.Joined
namespace Go.Proofs.YtnghlkbmfhkmoaaGreatDoor
open Go.RowKit Go.Proofs.YtnghlkbmfhkmoaaGreatDoorW.PrintWords Go.Extern.Stop Go.Stop Go.Extern

/-- The code that an error has within; its outermost place. -/
def codeIn : Err → Option Int
  | .code c => some c
  | .at_ _ e => codeIn e
  | .fld _ e => codeIn e
  | _ => none
def placeIn : Err → Option Int
  | .at_ n _ => some n
  | .fld _ e => placeIn e
  | _ => none
def codeOf : Err → Int
  | .nil => 0
  | e => (codeIn e).getD 14
def deep : Err → Nat
  | .at_ _ e => deep e + 1
  | .fld _ e => deep e + 1
  | _ => 0
/-- The variable errors.errorType as it is laid. -/
def Laid (w : World) : Prop := w.cell? ⟨0, 0, none⟩ = some (.iface 118 (.agg #[.pointer (some ⟨1, 31, none⟩)]))
theorem cell_lt {w : World} {a : Addr} {v : Value} (h : w.cell? a = some v) : a.block < w.heap.size := by
  rcases Nat.lt_or_ge a.block w.heap.size with hl | hl
  · exact hl
  · simp [World.cell?, Array.getElem?_eq_none hl] at h
theorem Laid.below {w w' : World} (h : Laid w) (hb : Below w.heap.size w w') : Laid w' := by
  unfold Laid at *
  rw [hb.cell (cell_lt h)]; exact h
theorem unwrapW_any (a : Nat) (n : Int) (u : Value) (w : World) (h : w.heap[a]? = some (.cells #[.int .i64 n, u] 164 (0, 0))) :
    Calls Tryz.prog 156 #[.pointer (some ⟨a, 0, none⟩)] w fun e w' => e = .returned u ∧ w' = w := by
  have c1 : w.cell? ⟨a, 1, none⟩ = some u := by rw [blk_cell h]; rfl
  clear h
  go_enter Tryz.func156, Tryz.ntmps156
  go_wp2
  go_ret
  exact ⟨rfl, rfl⟩

/-! ### the target Code -/
def AsCode (e0 : Err) (t : Addr) (_w0 w : World) (e : Ending) (w' : World) : Prop :=
  (codeIn e0 = none ∧ e = .returned (.bool false) ∧ Below w.heap.size w w') ∨ (∃ c, codeIn e0 = some c ∧ e = .returned (.bool true) ∧ w'.cell? t = some (.int .i64 c) ∧ w'.frozen? t = false ∧ Kp (· = t.block) w w')
/-- What the setting of the target leaves. -/
theorem asCode_done (t b : Addr) (old x : Value) (y : Value) (w : World) (ht0 : w.cell? t = some old) (hf0 : w.frozen? t = false) (_hx : x.oneCell' = true) :
    ((((w.alloc (.cells #[.pointer (some ⟨1, 72, none⟩), .pointer (some b), .int .u64 150] 97)).alloc (.cells #[y] 36)).setCell t x).cell? t = some x) ∧ ((((w.alloc (.cells #[.pointer (some ⟨1, 72, none⟩), .pointer (some b), .int .u64 150] 97)).alloc (.cells #[y] 36)).setCell t x).frozen? t = false) ∧ Kp (· = t.block) w (((w.alloc (.cells #[.pointer (some ⟨1, 72, none⟩), .pointer (some b), .int .u64 150] 97)).alloc (.cells #[y] 36)).setCell t x) := by
  have hl := cell_lt ht0
  have h1 : ((w.alloc (.cells #[.pointer (some ⟨1, 72, none⟩), .pointer (some b), .int .u64 150] 97)).alloc (.cells #[y] 36)).cell? t = some old := by
    rw [World.cell?_alloc_lt _ _ t (by simp; omega), World.cell?_alloc_lt _ _ t hl]; exact ht0
  have h2 : ((w.alloc (.cells #[.pointer (some ⟨1, 72, none⟩), .pointer (some b), .int .u64 150] 97)).alloc (.cells #[y] 36)).frozen? t = false := by
    rw [World.frozen?_alloc_old _ _ t (by simp; omega), World.frozen?_alloc_old _ _ t (Nat.ne_of_lt hl)]; exact hf0
  exact ⟨by exact World.cell?_setCell_same _ _ _ h1, by rw [World.frozen?_setCell]; exact h2, Kp.set (M := fun k => k = t.block) (((Kp.refl _ w).alloc _).alloc _) (show t.block = t.block from rfl) x⟩

set_option maxHeartbeats 4000000 in
theorem asCode_any (e0 : Err) (u : Value) (t b : Addr) (old : Value) (w0 w : World) (h0 : Below w0.heap.size w0 w) (hu : IsE w0 e0 u) (hne : e0 ≠ .nil) (ht0 : w.cell? t = some old) (hf0 : w.frozen? t = false) (hb : w.cell? b = some (.pointer (some t))) :
    Calls Tryz.prog 60 #[u, .iface 72 (.pointer (some t)), .agg #[.pointer (some ⟨1, 72, none⟩), .pointer (some b), .int .u64 150], .iface 118 (.agg #[.pointer (some ⟨1, 36, none⟩)])] w (AsCode e0 t w0 w) := by
  obtain ⟨uT, ux, rfl⟩ := hu.iface hne
  have HU := Aside0.mk hu
  have HT := Aside0.mk (And.intro ht0 (And.intro hf0 hb))
  have HN := Aside0.mk hne
  have H0 := Aside0.mk h0
  clear hu ht0 hf0 hb hne h0
  have hT := @run_callFunc_extern Tryz.prog 78 _ (ReflectliteType.typeOf) Tryz.func78 (by kernel_rfl) (by kernel_rfl) (by kernel_rfl) (by kernel_rfl)
  have hA := @run_callFunc_extern Tryz.prog 145 _ (ReflectliteType.relation "AssignableTo" ReflectliteType.assignableTo) Tryz.func145 (by kernel_rfl) (by kernel_rfl) (by kernel_rfl) (by kernel_rfl)
  have hE := @run_callFunc_extern Tryz.prog 79 _ (ReflectliteValue.method (ReflectliteValue.valueError "reflectlite.Value.Elem" 0) ReflectliteValue.elem) Tryz.func79 (by kernel_rfl) (by kernel_rfl) (by kernel_rfl) (by kernel_rfl)
  have hV := @run_callFunc_extern Tryz.prog 57 _ (fun args => ReflectliteValue.unpack (args.getD 0 (.tuple #[]))) Tryz.func57 (by kernel_rfl) (by kernel_rfl) (by kernel_rfl) (by kernel_rfl)
  have hS := @run_callFunc_extern Tryz.prog 80 _ (ReflectliteValue.set) Tryz.func80 (by kernel_rfl) (by kernel_rfl) (by kernel_rfl) (by kernel_rfl)
  have mA := asMethod_AssignableTo
  go_enter Tryz.func60, Tryz.ntmps60
  go_wp2_with fail
  go_loopg [0] (deep e0) (fun k v wr => wr = w.alloc (.cells #[.pointer (some ⟨1, 72, none⟩), .pointer (some b), .int .u64 150] 97) ∧ ∃ e1 : Err, e1 ≠ .nil ∧ deep e1 ≤ k ∧ Aside0 (codeIn e1 = codeIn e0) ∧ Aside0 (IsE w0 e1 v))
  case atStart => exact ⟨rfl, e0, HN.out, Nat.le_refl _, ⟨rfl⟩, HU⟩
  case round =>
    clear HU HN
    obtain ⟨rfl, e1, hn1, hk, HF, HU⟩ := hrel
    cases e1 with
    | nil => exact absurd rfl hn1
    | oth => exact HU.out.elim
    | fld n e1 => exact HU.out.elim
    | code c =>
      clear hn1 hk
      obtain rfl := HU.out
      clear HU
      have el := asCode_elemV b t (w.alloc (.cells #[.pointer (some ⟨1, 72, none⟩), .pointer (some b), .int .u64 150] 97)) (by rw [World.cell?_alloc_lt _ _ b (cell_lt HT.out.2.2)]; exact HT.out.2.2)
      have st := asCode_set t ⟨w.heap.size + 1, 0, none⟩ (c) old ((w.alloc (.cells #[.pointer (some ⟨1, 72, none⟩), .pointer (some b), .int .u64 150] 97)).alloc (.cells #[.int .i64 c] 36))
        (by rw [World.cell?_alloc_at _ _ _ _ (by simp)]; rfl)
        (by rw [World.cell?_alloc_lt _ _ t (by have := cell_lt HT.out.1; simp; omega), World.cell?_alloc_lt _ _ t (cell_lt HT.out.1)]; exact HT.out.1)
        (by rw [World.frozen?_alloc_old _ _ t (by have := cell_lt HT.out.1; simp; omega), World.frozen?_alloc_old _ _ t (Nat.ne_of_lt (cell_lt HT.out.1))]; exact HT.out.2.1)
      have aX := asCode_fromCode
      have vO := asCode_valueOf
      have tO := asCode_typeOf
      go_wp2
      go_ret
      obtain ⟨r1, r2, r3⟩ := asCode_done t b old (.int .i64 c) (.int .i64 c) w HT.out.1 HT.out.2.1 rfl
      exact .inr ⟨c, by rw [← HF.out]; rfl, rfl, r1, r2, r3⟩
    | at_ m e' =>
      clear hn1
      obtain ⟨a, u, rfl, ha, hu⟩ := HU.out
      have HA := Aside0.mk ha
      clear HU ha
      have aX := asCode_fromWhere
      have tO := asWhere_typeOf
      have q1 := asWhere_noAs
      have q2 := asWhere_hasUnwrap
      have q3 := asWhere_unwrapM
      have HU2 := Aside0.mk (hu.below (w' := w0) (Below.refl _ _))
      clear hu
      by_cases he : e' = .nil
      · subst he
        obtain rfl : u = .nilIface := HU2.out
        go_wp2_with (go_at_call 156; refine (unwrapW_any a m _ _ (blk_below (blk_below HA.out H0.out) ((Below.refl _ _).alloc (Nat.le_refl _) _))).mono ?_; rintro e w' ⟨rfl, rfl⟩)
        go_ret
        exact .inl ⟨by rw [← HF.out]; rfl, rfl, (Below.refl _ _).alloc (Nat.le_refl _) _⟩
      · obtain ⟨vT, vx, rfl⟩ := HU2.out.iface he
        have HN := Aside0.mk he
        clear he
        go_wp2_with (go_at_call 156; refine (unwrapW_any a m _ _ (blk_below (blk_below HA.out H0.out) ((Below.refl _ _).alloc (Nat.le_refl _) _))).mono ?_; rintro e w' ⟨rfl, rfl⟩)
        go_roundg (deep e')
        case rel => exact ⟨rfl, e', HN.out, Nat.le_refl _, HF, HU2⟩
        case measure => simp [deep] at hk; omega


set_option maxHeartbeats 4000000 in
theorem errCode_any (e0 : Err) (u : Value) (t : Addr) (old : Value) (w0 w : World) (h0 : Below w0.heap.size w0 w) (hg : Laid w) (hu : IsE w0 e0 u) (hne : e0 ≠ .nil) (ht0 : w.cell? t = some old) (hf0 : w.frozen? t = false) :
    Calls Tryz.prog 37 #[u, .iface 72 (.pointer (some t))] w (AsCode e0 t w0 w) := by
  have hlt := cell_lt ht0
  have hW : Below w.heap.size w ((w.alloc (.cells #[.pointer (some t)] 72)).alloc (.cells #[.pointer (some ⟨1, 72, none⟩), .pointer (some ⟨w.heap.size, 0, none⟩), .int .u64 150] 97)) := ((Below.refl _ _).alloc (Nat.le_refl _) _).alloc (by simp) _
  have hg2 := hg.below hW
  unfold Laid at hg2
  have ht2 : ((w.alloc (.cells #[.pointer (some t)] 72)).alloc (.cells #[.pointer (some ⟨1, 72, none⟩), .pointer (some ⟨w.heap.size, 0, none⟩), .int .u64 150] 97)).cell? t = some old := by rw [hW.cell hlt]; exact ht0
  have hf2 : ((w.alloc (.cells #[.pointer (some t)] 72)).alloc (.cells #[.pointer (some ⟨1, 72, none⟩), .pointer (some ⟨w.heap.size, 0, none⟩), .int .u64 150] 97)).frozen? t = false := by rw [hW.frozen hlt]; exact hf0
  have hc2 : ((w.alloc (.cells #[.pointer (some t)] 72)).alloc (.cells #[.pointer (some ⟨1, 72, none⟩), .pointer (some ⟨w.heap.size, 0, none⟩), .int .u64 150] 97)).cell? ⟨w.heap.size, 0, none⟩ = some (.pointer (some t)) := by simp
  have HC := asCode_any e0 u t ⟨w.heap.size, 0, none⟩ old w0 ((w.alloc (.cells #[.pointer (some t)] 72)).alloc (.cells #[.pointer (some ⟨1, 72, none⟩), .pointer (some ⟨w.heap.size, 0, none⟩), .int .u64 150] 97)) (h0.trans (hW.mono h0.size)) hu hne ht2 hf2 hc2
  obtain ⟨uT, ux, rfl⟩ := hu.iface hne
  have HW := Aside0.mk hW
  have n8 := asCode_isNil ⟨w.heap.size, 0, none⟩ t ((w.alloc (.cells #[.pointer (some t)] 72)).alloc (.cells #[.pointer (some ⟨1, 72, none⟩), .pointer (some ⟨w.heap.size, 0, none⟩), .int .u64 150] 97)) hc2
  clear h0 hg hu hne ht0 hf0 hlt hW ht2 hf2 hc2
  have hV := @run_callFunc_extern Tryz.prog 57 _ (fun args => ReflectliteValue.unpack (args.getD 0 (.tuple #[]))) Tryz.func57 (by kernel_rfl) (by kernel_rfl) (by kernel_rfl) (by kernel_rfl)
  have hTy := @run_callFunc_extern Tryz.prog 58 _ (ReflectliteValue.methodAny (ReflectliteValue.valueError "reflectlite.Value.Type" 0) (fun t _ _ _ => ReflectliteType.toType t)) Tryz.func58 (by kernel_rfl) (by kernel_rfl) (by kernel_rfl) (by kernel_rfl)
  have hN := @run_callFunc_extern Tryz.prog 59 _ (ReflectliteValue.method (ReflectliteValue.valueError "reflectlite.Value.IsNil" 0) ReflectliteValue.isNil) Tryz.func59 (by kernel_rfl) (by kernel_rfl) (by kernel_rfl) (by kernel_rfl)
  have hK := @run_callFunc_extern Tryz.prog 136 _ (ReflectliteType.abiMethod fun t => do pure (.int .u8 (← Rtype.kind t))) Tryz.func136 (by kernel_rfl) (by kernel_rfl) (by kernel_rfl) (by kernel_rfl)
  have hEl := @run_callFunc_extern Tryz.prog 147 _ (ReflectliteType.method ReflectliteType.elem) Tryz.func147 (by kernel_rfl) (by kernel_rfl) (by kernel_rfl) (by kernel_rfl)
  have hI := @run_callFunc_extern Tryz.prog 148 _ (ReflectliteType.relation "Implements" ReflectliteType.implements_) Tryz.func148 (by kernel_rfl) (by kernel_rfl) (by kernel_rfl) (by kernel_rfl)
  have f6 := asCode_valueOfP
  have f7 := asCode_type
  have mK := asMethod_Kind
  have mE := asMethod_Elem
  have mI := asMethod_Implements
  have kP := asCode_kindP
  have kD := asCode_kind
  have eD := asCode_elem
  have iD := asCode_implements
  go_enter Tryz.func37, Tryz.ntmps37
  go_wp2_with (go_at_call 60; refine HC.mono ?_; rintro e w' (⟨h1, rfl, h3⟩ | ⟨c, h1, rfl, h3, h4, h5⟩))
  · go_ret
    exact .inl ⟨h1, rfl, HW.out.trans (h3.mono HW.out.size)⟩
  · go_ret
    exact .inr ⟨c, h1, rfl, h3, h4, (Kp.ofBelow HW.out).trans h5⟩
/-! ### blame.Code, blame.Place -/
theorem errAs_nil (v : Value) (w : World) : Calls Tryz.prog 37 #[.nilIface, v] w fun e w' => e = .returned (.bool false) ∧ w' = w := by
  go_enter Tryz.func37, Tryz.ntmps37
  go_wp2
  go_ret
  exact ⟨rfl, rfl⟩
set_option maxHeartbeats 1000000 in
theorem code_any (e0 : Err) (u : Value) (w : World) (hg : Laid w) (hu : IsE w e0 u) :
    Calls Tryz.prog 14 #[u] w fun e w' => e = .returned (.int .i64 (codeOf e0)) ∧ Below w.heap.size w w' := by
  by_cases hne : e0 = .nil
  · subst hne
    obtain rfl : u = .nilIface := hu
    go_enter Tryz.func14, Tryz.ntmps14
    go_wp2_with fail
    go_ret
    exact ⟨rfl, Below.refl _ _⟩
  · have hW : Below w.heap.size w (w.alloc (.cells #[.int .i64 0] 36)) := (Below.refl _ _).alloc (Nat.le_refl _) _
    have HC := errCode_any e0 u ⟨w.heap.size, 0, none⟩ (.int .i64 0) w (w.alloc (.cells #[.int .i64 0] 36)) hW (hg.below hW) hu hne (by simp) (by simp)
    obtain ⟨uT, ux, rfl⟩ := hu.iface hne
    have HW := Aside0.mk hW
    have HE : Aside0 (codeOf e0 = (codeIn e0).getD 14) := ⟨by cases e0 <;> first | rfl | exact absurd rfl hne⟩
    clear hW hg hu hne
    go_enter Tryz.func14, Tryz.ntmps14
    go_wp2_with (go_at_call 37; refine HC.mono ?_; rintro e w' (⟨h1, rfl, h3⟩ | ⟨c, h1, rfl, h3, h4, h5⟩))
    · have H3 := Aside0.mk h3
      have H1 := Aside0.mk h1
      clear h3 h1
      go_wp2_with fail
      go_ret
      exact ⟨by rw [HE.out, H1.out]; rfl, HW.out.trans (H3.out.mono HW.out.size)⟩
    · have H1 := Aside0.mk h1
      have H5 := Aside0.mk h5
      clear h5 h1
      go_wp2_with fail
      go_ret
      exact ⟨by rw [HE.out, H1.out]; rfl, HW.out.trans (H5.out.toBelow HW.out.size (fun k hk => by subst hk; exact Nat.le_refl _))⟩
end Go.Proofs.YtnghlkbmfhkmoaaGreatDoor
namespace Go.Proofs.YtnghlkbmfhkmoaaGreatDoor
open Go.RowKit

theorem seat_et : Tryz.prog.globalNamed "errors.errorType" = some 0 := by kernel_rfl
theorem seat_rt : (Tryz.prog.cutTypes.find? (·.1 == "internal/reflectlite.rtype")).map (·.2) = some 118 := by kernel_rfl
theorem seat_oneRow : ((List.range 193).filter fun t => Tryz.prog.rowNamed t [101, 114, 114, 111, 114]) = [31] := by kernel_rfl
theorem seat_size : Tryz.prog.types.size = 193 := by kernel_rfl
/-- What the condition gives a walk: the variable's one cell. -/
theorem laid_of {W : World} (h : laidMetH Tryz.prog [("errors.errorType", Rows.laid_errors_errorType)] W) : Laid W := by
  have h' : laidMet Tryz.prog [] W ∧ handlesMet Tryz.prog [("errors.errorType", Rows.laid_errors_errorType)] W := h
  obtain ⟨name, u, ty, e1, e2, e3, e4, e5⟩ := h'.2 _ (List.mem_singleton.2 rfl)
  have en : name = [101, 114, 114, 111, 114] := (Option.some.inj e1).symm
  subst en
  obtain rfl := Option.some.inj (seat_rt.symm.trans e2)
  have hm : ty ∈ (List.range 193).filter fun t => Tryz.prog.rowNamed t [101, 114, 114, 111, 114] := List.mem_filter.2 ⟨List.mem_range.2 (by rw [← seat_size]; exact e3), e4⟩
  rw [seat_oneRow] at hm
  obtain rfl := List.mem_singleton.1 hm
  have hh : typeHandle Tryz.prog 31 = .pointer (some ⟨1, 31, none⟩) := by kernel_rfl
  rw [hh] at e5
  unfold Laid
  simpa using World.var?_cell seat_et e5 0
/-- A world that meets the condition. -/
noncomputable def laidWorld (os : Os) : World :=
  let w0 := World.holding Tryz.prog os ⟨#[], #[], []⟩
  { w0 with heap := w0.heap.modify 0 fun
      | .cells _ t frozen => .cells #[.iface 118 (.agg #[.pointer (some ⟨1, 31, none⟩)])] t frozen
      | o => o }
theorem laidWorld_met (os : Os) (args : Array Value) : laidMetH Tryz.prog [("errors.errorType", Rows.laid_errors_errorType)] ((laidWorld os).forCall (fun _ _ => 0) ⟨#[], args, []⟩).memory :=
  laidMetH_of_parts (laidMet_nil _ _) (by kernel_rfl)
end Go.Proofs.YtnghlkbmfhkmoaaGreatDoor
