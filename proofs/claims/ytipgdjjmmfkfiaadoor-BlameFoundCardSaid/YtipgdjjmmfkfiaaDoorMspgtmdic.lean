import Derived.Test.YtipgdjjmmfkfiaaDoorMryiqqddq
import Derived.Test.YtipgdjjmmfkfiaaDoorMboafwkae
import Derived.Test.YtipgdjjmmfkfiaaDoorWLast
import Derived.Test.YtipgdjjmmfkfiaaDoorWMore
import Derived.WalkKit
import Derived.Below
import Derived.Test.YtipgdjjmmfkfiaaDoorPBlameMadex
import Derived.Test.YtipgdjjmmfkfiaaDoorWWords
import Derived.Deep.SlicePairs
import Derived.ChangeSame
namespace Go.Proofs.YtipgdjjmmfkfiaaDoor
open Go.RowKit Go.Proofs.YtipgdjjmmfkfiaaDoorW.PrintWords Go.Extern.Stop Go.Stop Go.Extern

theorem isCode_comparable0 (w : World) : ((ReflectliteType.method fun t => do Rtype.noPackHeld "Comparable" t; pure (.bool (← typeInfo t).comparable)) #[.agg #[.pointer (some ⟨1, 22, none⟩)]]).run Tryd.prog w = .ok (.bool true) w := by kernel_rfl
theorem isCode_comparable (w : World) : (callFunc 69 #[.agg #[.pointer (some ⟨1, 22, none⟩)]]).run Tryd.prog w = .ok (.value (.bool true)) w := by
  have hC := @run_callFunc_extern Tryd.prog 69 _ (ReflectliteType.method fun t => do Rtype.noPackHeld "Comparable" t; pure (.bool (← typeInfo t).comparable)) Tryd.func69 (by kernel_rfl) (by kernel_rfl) (by kernel_rfl) (by kernel_rfl)
  rw [hC, isCode_comparable0]; rfl
theorem isCode_comp : (Tryd.prog.info? 22).map (·.comparable) = some true := by kernel_rfl
theorem isOth_comparable0 (w : World) : ((ReflectliteType.method fun t => do Rtype.noPackHeld "Comparable" t; pure (.bool (← typeInfo t).comparable)) #[.agg #[.pointer (some ⟨1, 58, none⟩)]]).run Tryd.prog w = .ok (.bool true) w := by kernel_rfl
theorem isOth_comparable (w : World) : (callFunc 69 #[.agg #[.pointer (some ⟨1, 58, none⟩)]]).run Tryd.prog w = .ok (.value (.bool true)) w := by
  have hC := @run_callFunc_extern Tryd.prog 69 _ (ReflectliteType.method fun t => do Rtype.noPackHeld "Comparable" t; pure (.bool (← typeInfo t).comparable)) Tryd.func69 (by kernel_rfl) (by kernel_rfl) (by kernel_rfl) (by kernel_rfl)
  rw [hC, isOth_comparable0]; rfl
theorem isOth_comp : (Tryd.prog.info? 58).map (·.comparable) = some true := by kernel_rfl
theorem isOth_size : (Tryd.prog.info? 60).map (·.size) = some 1 := by kernel_rfl

/-! ### errors.Is, errors.Unwrap -/
def hasC (c : Int) : Err → Bool
  | .code d => d == c
  | .at_ _ e => hasC c e
  | .fld _ e => hasC c e
  | _ => false
theorem run_equalIn_code (w : World) (d : Nat) (i : TypeInfo) (a b : Int) (hinfo : Tryd.prog.info? 22 = some i) (hcomp : i.comparable = true) :
    (Op.equalIn (d + 2) 26 (.iface 22 (.int .i64 a)) (.iface 22 (.int .i64 b))).run Tryd.prog w = .ok (a == b) w := by
  simp [Op.equalIn, run_underlying Tryd.underlying26, run_underlying Tryd.underlying22, typeInfo, hinfo, hcomp]
theorem run_eql_code (w : World) (a b : Int) : (binOp .eql 26 (.iface 22 (.int .i64 a)) (.iface 22 (.int .i64 b))).run Tryd.prog w = .ok (.bool (a == b)) w := by
  obtain ⟨i, hi, hc⟩ := Option.map_eq_some_iff.1 isCode_comp
  simp only [binOp]
  simp [Op.equal, Op.maxDepth, run_equalIn_code w 9998 i a b hi hc]

set_option maxHeartbeats 4000000 in
theorem isCode_any (e0 : Err) (u : Value) (c : Int) (w : World) (hu : IsE w e0 u) (hne : e0 ≠ .nil) :
    Calls Tryd.prog 28 #[u, .iface 22 (.int .i64 c), .bool true] w fun e w' => e = .returned (.bool (hasC c e0)) ∧ w' = w := by
  obtain ⟨uT, ux, rfl⟩ := hu.iface hne
  have HU := Aside0.mk hu
  have HN := Aside0.mk hne
  clear hu hne
  go_enter Tryd.func28, Tryd.ntmps28
  go_wp2_with fail
  go_loopg [0] (deep e0) (fun k v wr => wr = w ∧ ∃ e1 : Err, e1 ≠ .nil ∧ deep e1 ≤ k ∧ Aside0 (hasC c e1 = hasC c e0) ∧ Aside0 (IsE w e1 v))
  case atStart => exact ⟨rfl, e0, HN.out, Nat.le_refl _, ⟨rfl⟩, HU⟩
  case round =>
    clear HU HN
    obtain ⟨rfl, e1, hn1, hk, HF, HU⟩ := hrel
    cases e1 with
    | nil => exact absurd rfl hn1
    | oth =>
      obtain ⟨a, s, rfl, ha⟩ := HU.out
      clear HU ha hn1 hk
      have hty := run_eql_iface_types (P := Tryd.prog) 58 22 (.pointer (some ⟨a, 0, none⟩)) (.int .i64 c) Tryd.underlying26 (by decide) wr
      have q1 := asOth_noIs
      have q2 := asOth_noUnwrap
      have q3 := asOth_noUnwraps
      go_wp2
      go_ret
      exact ⟨by rw [← HF.out]; rfl, rfl⟩
    | code d =>
      obtain rfl := HU.out
      clear HU hn1 hk
      have heq := run_eql_code wr d c
      have q1 := asCode_noIs
      have q2 := asCode_noUnwrap
      have q3 := asCode_noUnwraps
      by_cases hdc : d = c
      · subst hdc
        have hb : (d == d) = true := by simp
        rw [hb] at heq
        go_wp2
        go_ret
        exact ⟨by rw [← HF.out]; simp [hasC], rfl⟩
      · have hb : (d == c) = false := by simpa using hdc
        rw [hb] at heq
        have HD := Aside0.mk hb
        clear hb hdc
        go_wp2
        go_ret
        exact ⟨by rw [← HF.out]; simp only [hasC]; rw [HD.out]; rfl, rfl⟩
    | at_ m e' =>
      obtain ⟨a, u, rfl, ha, hu⟩ := HU.out
      have HA := Aside0.mk ha
      clear HU ha hn1
      have hty := run_eql_iface_types (P := Tryd.prog) 40 22 (.pointer (some ⟨a, 0, none⟩)) (.int .i64 c) Tryd.underlying26 (by decide) wr
      have q1 := asWhere_noIs
      have q2 := asWhere_hasUnwrap
      have q3 := asWhere_unwrapM
      have HU2 := Aside0.mk hu
      clear hu
      by_cases he : e' = .nil
      · subst he
        obtain rfl : u = .nilIface := HU2.out
        go_wp2_with (go_at_call 60; refine (unwrapWhere_any a m _ _ HA.out).mono ?_; rintro e w' ⟨rfl, rfl⟩)
        go_ret
        exact ⟨by rw [← HF.out]; rfl, rfl⟩
      · obtain ⟨vT, vx, rfl⟩ := HU2.out.iface he
        have HN := Aside0.mk he
        clear he
        go_wp2_with (go_at_call 60; refine (unwrapWhere_any a m _ _ HA.out).mono ?_; rintro e w' ⟨rfl, rfl⟩)
        go_roundg (deep e')
        case rel => exact ⟨rfl, e', HN.out, Nat.le_refl _, HF, HU2⟩
        case measure => simp [deep] at hk; omega
    | fld m e' =>
      obtain ⟨a, u, rfl, ha, hu⟩ := HU.out
      have HA := Aside0.mk ha
      clear HU ha hn1
      have hty := run_eql_iface_types (P := Tryd.prog) 41 22 (.pointer (some ⟨a, 0, none⟩)) (.int .i64 c) Tryd.underlying26 (by decide) wr
      have q1 := asField_noIs
      have q2 := asField_hasUnwrap
      have q3 := asField_unwrapM
      have HU2 := Aside0.mk hu
      clear hu
      by_cases he : e' = .nil
      · subst he
        obtain rfl : u = .nilIface := HU2.out
        go_wp2_with (go_at_call 62; refine (unwrapField_any a m _ _ HA.out).mono ?_; rintro e w' ⟨rfl, rfl⟩)
        go_ret
        exact ⟨by rw [← HF.out]; rfl, rfl⟩
      · obtain ⟨vT, vx, rfl⟩ := HU2.out.iface he
        have HN := Aside0.mk he
        clear he
        go_wp2_with (go_at_call 62; refine (unwrapField_any a m _ _ HA.out).mono ?_; rintro e w' ⟨rfl, rfl⟩)
        go_roundg (deep e')
        case rel => exact ⟨rfl, e', HN.out, Nat.le_refl _, HF, HU2⟩
        case measure => simp [deep] at hk; omega
set_option maxHeartbeats 1000000 in
theorem errIs_any (e0 : Err) (u : Value) (c : Int) (w : World) (hu : IsE w e0 u) (hne : e0 ≠ .nil) :
    Calls Tryd.prog 16 #[u, .iface 22 (.int .i64 c)] w fun e w' => e = .returned (.bool (hasC c e0)) ∧ w' = w := by
  have HC := isCode_any e0 u c w hu hne
  obtain ⟨uT, ux, rfl⟩ := hu.iface hne
  clear hu hne
  have hT := @run_callFunc_extern Tryd.prog 27 _ (ReflectliteType.typeOf) Tryd.func27 (by kernel_rfl) (by kernel_rfl) (by kernel_rfl) (by kernel_rfl)
  have tT := asCode_typeOf
  have cT := isCode_comparable
  have mR := asMethod_Comparable
  go_enter Tryd.func16, Tryd.ntmps16
  go_wp2_with (go_at_call 28; refine HC.mono ?_; rintro e w' ⟨rfl, rfl⟩)
  go_ret
  exact ⟨rfl, rfl⟩
theorem errUnwrapWhere_any (a : Nat) (n : Int) (u : Value) (w : World) (h : w.heap[a]? = some (.cells #[.int .i64 n, u] 46 (0, 0))) :
    Calls Tryd.prog 19 #[.iface 40 (.pointer (some ⟨a, 0, none⟩))] w fun e w' => e = .returned u ∧ w' = w := by
  have q2 := asWhere_hasUnwrap
  have q3 := asWhere_unwrapM
  have HA := Aside0.mk h
  clear h
  go_enter Tryd.func19, Tryd.ntmps19
  go_wp2_with (go_at_call 60; refine (unwrapWhere_any a n _ _ HA.out).mono ?_; rintro e w' ⟨rfl, rfl⟩)
  go_ret
  exact ⟨rfl, rfl⟩
theorem errUnwrapField_any (a : Nat) (n : Int) (u : Value) (w : World) (h : w.heap[a]? = some (.cells #[.int .i64 n, u] 48 (0, 0))) :
    Calls Tryd.prog 19 #[.iface 41 (.pointer (some ⟨a, 0, none⟩))] w fun e w' => e = .returned u ∧ w' = w := by
  have q2 := asField_hasUnwrap
  have q3 := asField_unwrapM
  have HA := Aside0.mk h
  clear h
  go_enter Tryd.func19, Tryd.ntmps19
  go_wp2_with (go_at_call 62; refine (unwrapField_any a n _ _ HA.out).mono ?_; rintro e w' ⟨rfl, rfl⟩)
  go_ret
  exact ⟨rfl, rfl⟩
theorem errUnwrapCode_any (c : Int) (w : World) :
    Calls Tryd.prog 19 #[.iface 22 (.int .i64 c)] w fun e w' => e = .returned .nilIface ∧ w' = w := by
  have q2 := asCode_noUnwrap
  go_enter Tryd.func19, Tryd.ntmps19
  go_wp2
  go_ret
  exact ⟨rfl, rfl⟩
end Go.Proofs.YtipgdjjmmfkfiaaDoor
namespace Go.Proofs.YtipgdjjmmfkfiaaDoor
open Go.RowKit

/-- A code that is wrapped, the last wrap outermost; of 0 nothing. -/
def mkE (c : Int) (l : List (Bool × Int)) : Err := l.foldl wrapE (if c = 0 then .nil else .code c)
theorem mkE_nil (c : Int) : mkE c [] = if c = 0 then .nil else .code c := rfl
theorem mkE_snoc (c : Int) (l : List (Bool × Int)) (i : Nat) (h : i < l.length) : mkE c (l.take (i + 1)) = wrapE (mkE c (l.take i)) l[i] := by
  unfold mkE; rw [List.take_succ_eq_append_getElem h, List.foldl_append]; rfl
theorem wrapE_nil (x : Bool × Int) : wrapE .nil x = .nil := rfl
theorem wrapE_at (e : Err) (n : Int) (h : e ≠ .nil) : wrapE e (true, n) = .at_ n e := by cases e <;> first | exact absurd rfl h | rfl
theorem wrapE_in (e : Err) (n : Int) (h : e ≠ .nil) : wrapE e (false, n) = .fld n e := by cases e <;> first | exact absurd rfl h | rfl
theorem wrapE_ne (e : Err) (x : Bool × Int) (h : e ≠ .nil) : wrapE e x ≠ .nil := by
  obtain ⟨b, n⟩ := x
  cases b
  · rw [wrapE_in e n h]; simp
  · rw [wrapE_at e n h]; simp
theorem mkE_zero (l : List (Bool × Int)) : mkE 0 l = .nil := by
  unfold mkE
  rw [if_pos rfl]
  induction l with
  | nil => rfl
  | cons x l ih => rw [List.foldl_cons, wrapE_nil]; exact ih
theorem fold_ne (l : List (Bool × Int)) : ∀ e : Err, e ≠ .nil → l.foldl wrapE e ≠ .nil := by
  induction l with
  | nil => intro e h; exact h
  | cons x l ih => intro e h; rw [List.foldl_cons]; exact ih _ (wrapE_ne e x h)
theorem mkE_ne (c : Int) (l : List (Bool × Int)) (hc : c ≠ 0) : mkE c l ≠ .nil := fold_ne l _ (by rw [if_neg hc]; simp)
theorem wrapE_code (e : Err) (x : Bool × Int) (h : e ≠ .nil) : codeIn (wrapE e x) = codeIn e := by
  obtain ⟨b, n⟩ := x
  cases b
  · rw [wrapE_in e n h]; rfl
  · rw [wrapE_at e n h]; rfl
theorem fold_code (l : List (Bool × Int)) : ∀ e : Err, e ≠ .nil → codeIn (l.foldl wrapE e) = codeIn e := by
  induction l with
  | nil => intro e _; rfl
  | cons x l ih => intro e h; rw [List.foldl_cons, ih _ (wrapE_ne e x h), wrapE_code e x h]
theorem mkE_code (c : Int) (l : List (Bool × Int)) (hc : c ≠ 0) : codeIn (mkE c l) = some c := by
  unfold mkE; rw [if_neg hc, fold_code l _ (by simp)]; rfl
theorem codeOf_ne (e : Err) (h : e ≠ .nil) : codeOf e = (codeIn e).getD 14 := by cases e <;> first | exact absurd rfl h | rfl
theorem mkE_codeOf (c : Int) (l : List (Bool × Int)) (hc : c ≠ 0) : codeOf (mkE c l) = c := by rw [codeOf_ne _ (mkE_ne c l hc), mkE_code c l hc]; rfl
theorem wrapE_has (d : Int) (e : Err) (x : Bool × Int) (h : e ≠ .nil) : hasC d (wrapE e x) = hasC d e := by
  obtain ⟨b, n⟩ := x
  cases b
  · rw [wrapE_in e n h]; rfl
  · rw [wrapE_at e n h]; rfl
theorem fold_has (d : Int) (l : List (Bool × Int)) : ∀ e : Err, e ≠ .nil → hasC d (l.foldl wrapE e) = hasC d e := by
  induction l with
  | nil => intro e _; rfl
  | cons x l ih => intro e h; rw [List.foldl_cons, ih _ (wrapE_ne e x h), wrapE_has d e x h]
theorem mkE_has (c d : Int) (l : List (Bool × Int)) (hc : c ≠ 0) : hasC d (mkE c l) = (c == d) := by
  unfold mkE; rw [if_neg hc, fold_has d l _ (by simp)]; rfl
theorem wrapE_deep (e : Err) (x : Bool × Int) : deep (wrapE e x) ≤ deep e + 1 := by
  by_cases h : e = .nil
  · subst h; rw [wrapE_nil]; simp [deep]
  · obtain ⟨b, n⟩ := x
    cases b
    · rw [wrapE_in e n h]; simp [deep]
    · rw [wrapE_at e n h]; simp [deep]
theorem fold_deep (l : List (Bool × Int)) : ∀ e : Err, deep (l.foldl wrapE e) ≤ deep e + l.length := by
  induction l with
  | nil => intro e; simp
  | cons x l ih => intro e; rw [List.foldl_cons, List.length_cons]; have := ih (wrapE e x); have := wrapE_deep e x; omega
theorem mkE_deep (c : Int) (l : List (Bool × Int)) : deep (mkE c l) ≤ l.length := by
  have h := fold_deep l (if c = 0 then .nil else .code c)
  have : deep (if c = 0 then .nil else .code c) = 0 := by split <;> rfl
  unfold mkE; omega
theorem fnums_deep (e : Err) : (fnums e).length ≤ deep e := by
  induction e with
  | nil => simp [fnums]
  | code _ => simp [fnums]
  | at_ _ e ih => simp only [fnums, deep]; omega
  | fld _ e ih => simp only [fnums, deep, List.length_cons]; omega
  | oth => simp [fnums]
/-- What a wrap changes of what is told. -/
theorem tell_at (e : Err) (n : Int) (h : e ≠ .nil) : placeN (wrapE e (true, n)) = n ∧ placeB (wrapE e (true, n)) = true ∧ fnums (wrapE e (true, n)) = fnums e := by
  rw [wrapE_at e n h]; exact ⟨rfl, rfl, rfl⟩
theorem tell_in (e : Err) (n : Int) (h : e ≠ .nil) : placeN (wrapE e (false, n)) = placeN e ∧ placeB (wrapE e (false, n)) = placeB e ∧ fnums (wrapE e (false, n)) = n :: fnums e := by
  rw [wrapE_in e n h]; exact ⟨rfl, rfl, rfl⟩
end Go.Proofs.YtipgdjjmmfkfiaaDoor
namespace Go.Proofs.YtipgdjjmmfkfiaaDoor
open Go.RowKit Go.Proofs.YtipgdjjmmfkfiaaDoorW.PrintWords Go.Proofs.YtipgdjjmmfkfiaaDoorW.PrintLast Go.Proofs.YtipgdjjmmfkfiaaDoorW.PrintMore Hy

theorem cellAt {w : World} {A : Option Addr} {l : List Int} {ik : IntKind} (h : Kd.C (Kd.int ik) w A l.length l) (k : Nat) (hk : k < l.length) : ∃ ad, A = some ad ∧ w.cell? (ad.add k) = some (.int ik (l[k])) := by
  obtain ⟨ad, e, hx⟩ := Kd.at_int h (k : Int) (by omega) (by omega)
  refine ⟨ad, e, ?_⟩
  simpa [rd, List.getD_eq_getElem?_getD, hk] using hx

theorem R_C {α : Type} {d : Kd α} {e : Nat} {w : World} {base : Nat} {ok : Nat → Prop} {A : Option Addr} {n c : Nat} {xs : List α} (h : d.R e w base ok (.slice A n c) xs) : d.C w A xs.length xs ∧ n = xs.length ∧ xs.length ≤ c := by
  obtain ⟨A', c', e, hl, hc⟩ := Kd.R_reads h
  injection e with e1 e2 e3
  subst e1; subst e3
  exact ⟨hc, e2, hl⟩
theorem info_i64 : (Tryd.prog.info? 3).map (fun i => (i.zero, i.size, i.bytes)) = some (some (.int .i64 0), 1, 8) := by kernel_rfl

theorem C_lit (W : World) (k : IntKind) (xs : List Int) (e : TypeId) (hm : xs.length ≤ 9223372036854775807) : Kd.C (Kd.int k) (W.alloc (.cells (nums k xs).toArray e)) (some ⟨W.heap.size, 0, none⟩) xs.length xs := by
  have h := own_lit W 0 e k xs (by omega) hm
  obtain ⟨A, c, e1, h2⟩ := own_reads h
  injection e1 with e1 e2 e3
  subst e1
  exact Kd.C_of_reads (d := (0 : Int)) (h1 := fun _ => rfl) h2

theorem ints_l0 (a b : List Int) (h : a.length = b.length) (hb : a.length ≤ 140737488355328) : ∀ (d i k : Nat), i + d = a.length → d < k → PBlameMade.hygref_Ints.l0 k a b (i : Int) = some (decide (a.drop i = b.drop i)) := by
  intro d
  induction d with
  | zero =>
    intro i k hi hk
    obtain ⟨k, rfl⟩ : ∃ m, k = m + 1 := ⟨k - 1, by omega⟩
    simp only [PBlameMade.hygref_Ints.l0]
    rw [if_neg (by omega), List.drop_of_length_le (by omega), List.drop_of_length_le (by omega)]
    simp
  | succ d ih =>
    intro i k hi hk
    obtain ⟨k, rfl⟩ : ∃ m, k = m + 1 := ⟨k - 1, by omega⟩
    have hi1 : i < a.length := by omega
    have hi2 : i < b.length := by omega
    have ra : rd a (i : Int) = a[i] := by simp [rd, List.getD_eq_getElem?_getD, hi1]
    have rb : rd b (i : Int) = b[i] := by simp [rd, List.getD_eq_getElem?_getD, hi2]
    simp only [PBlameMade.hygref_Ints.l0]
    rw [if_pos (by omega), if_pos (by omega), if_pos (by omega), ra, rb]
    have hd : (a.drop i = b.drop i) ↔ (a[i] = b[i] ∧ a.drop (i + 1) = b.drop (i + 1)) := by
      rw [List.drop_eq_getElem_cons hi1, List.drop_eq_getElem_cons hi2, List.cons.injEq]
    by_cases he : a[i] = b[i]
    · rw [if_pos he, show wrap64 ((i : Int) + 1) = ((i + 1 : Nat) : Int) by unfold wrap64; omega, ih (i + 1) k (by omega) (by omega)]
      rw [show decide (a.drop i = b.drop i) = decide (a.drop (i + 1) = b.drop (i + 1)) from decide_eq_decide.2 (hd.trans ⟨fun h => h.2, fun h => ⟨he, h⟩⟩)]
    · rw [if_neg he, decide_eq_false (fun e => he (hd.1 e).1)]
theorem ints_f (a b : List Int) (hb : a.length ≤ 140737488355328) : PBlameMade.hygref_Ints.f (a.length + 1) a b = some (decide (a = b)) := by
  unfold PBlameMade.hygref_Ints.f
  by_cases h : a.length = b.length
  · rw [if_pos (by omega)]
    have := ints_l0 a b h hb a.length 0 (a.length + 1) (by omega) (by omega)
    simpa using this
  · rw [if_neg (by omega)]
    simp
    intro e; exact h (by rw [e])
theorem ints_any (A : Option Addr) (c : Nat) (l : List Int) (A' : Option Addr) (c' : Nat) (l' : List Int) (w : World) (hr : Kd.C (Kd.int .i64) w A l.length l) (hc : l.length ≤ c) (hr' : Kd.C (Kd.int .i64) w A' l'.length l') (hc' : l'.length ≤ c') (hl : l.length ≤ 140737488355328) :
    Calls Tryd.prog 17 #[.slice A l.length c, .slice A' l'.length c'] w fun e w' => e = .returned (.bool (decide (l = l'))) ∧ Drawn0 w w' :=
  PBlameMade.hygref_Ints.calls (l.length + 1) A c l A' c' l' _ w hr hc hr' hc' (ints_f l l' hl)
/-- A row is none of a block of another type. -/
theorem R_apartBlk {k : IntKind} {e t : TypeId} {w : World} {base f : Nat} {ok : Nat → Prop} {v : Value} {xs : List Int} {cs : Array Value} (h : (Kd.int k).R e w base ok v xs) (hf : w.heap[f]? = some (.cells cs t (0, 0))) (hne : e ≠ t) : (Kd.int k).R e w base (fun b => ¬ (b = f)) v xs :=
  Kd.R_of_own (Kd.own_of_R h) (fun b hb hbf => own_ne (Kd.own_of_R h) hf hne (by rw [hb, hbf]))
end Go.Proofs.YtipgdjjmmfkfiaaDoor
namespace Go.Proofs.YtipgdjjmmfkfiaaDoor
open Go.RowKit Go.Deep Go.ChangeShapes Go.WideShapes Go.Proofs.YtipgdjjmmfkfiaaDoorW.PrintWords

/-- A row of structs of two one-cell fields, as it lies. -/
def Prs {α : Type} (f g : α → Value) (w : World) (A : Option Addr) (l : List α) : Prop :=
  ∀ i (h : i < l.length), ∃ ad, A = some ad ∧ w.cell? (ad.add (i * 2)) = some (f l[i]) ∧ w.cell? (ad.add (i * 2 + 1)) = some (g l[i])
theorem Prs.below {α : Type} {f g : α → Value} {w w' : World} {A : Option Addr} {l : List α} (h : Prs f g w A l) (hb : Below w.heap.size w w') : Prs f g w' A l := by
  intro i hi
  obtain ⟨ad, e, h0, h1⟩ := h i hi
  exact ⟨ad, e, pw_cell_below hb h0, pw_cell_below hb h1⟩
theorem list_of {α : Type} : ∀ {n : Nat} {p : Nat → α → Prop}, (∀ i, i < n → ∃ x, p i x) → ∃ l : List α, l.length = n ∧ ∀ i (h : i < l.length), p i l[i] := by
  intro n
  induction n with
  | zero => intro p _; exact ⟨[], rfl, fun i h => absurd h (Nat.not_lt_zero i)⟩
  | succ n ih =>
    intro p h
    obtain ⟨l, hl, hp⟩ := ih (p := p) (fun i hi => h i (by omega))
    obtain ⟨x, hx⟩ := h n (by omega)
    refine ⟨l ++ [x], by simp [hl], fun i hi => ?_⟩
    by_cases hlt : i < l.length
    · rw [List.getElem_append_left hlt]; exact hp i hlt
    · have : i = l.length := by simp at hi; omega
      subst this
      rw [List.getElem_concat_length rfl (by simp), hl]; exact hx
theorem pairs_row {H : Type} {enc : TypeId × Value → H} {P : Program} {W : World} {base : Nat} {sp : Nat → Bool} {held : Bool} {t e : TypeId} {f0 f1 : Field} {α : Type} {f g : α → Value} {ok : α → Prop} {a : Option Addr} {len cap : Nat} {d : DataW H} {p : List MemPlace}
    (ht : P.underlying t = some (.slice e)) (he : P.underlying e = some (.struct #[f0, f1])) (ce : P.cellsOf e = 2) (o0 : f0.offset = 0) (o1 : f1.offset = 1) (c0 : P.cellsOf f0.type = 1) (c1 : P.cellsOf f1.type = 1)
    (hread : ∀ n v0 v1 x0 x1, DataW.trod enc P W base sp held n f0.type [v0] = some x0 → DataW.trod enc P W base sp held n f1.type [v1] = some x1 → ∃ x : α, v0 = f x ∧ v1 = g x ∧ ok x)
    (h : DataW.Trod enc P W base sp held t (.slice a len cap) d p) : ∃ l : List α, len = l.length ∧ Prs f g W a l ∧ l.length ≤ cap ∧ cap ≤ maxLen ∧ ∀ x ∈ l, ok x := by
  obtain ⟨fuel, hf⟩ := h
  rcases open_slice_pairs ht he ce o0 o1 c0 c1 hf with ⟨hcs, _⟩ | ⟨x, l, c, m, n, V0, V1, D0, D1, P0, P1, hcs, _, hl, hm, hmm, _, hx⟩
  · simp [Value.cells] at hcs
    obtain ⟨rfl, rfl, rfl⟩ := hcs
    exact ⟨[], rfl, fun i h => absurd h (Nat.not_lt_zero i), by simp, by simp, by simp⟩
  · simp [Value.cells] at hcs
    obtain ⟨rfl, rfl, rfl⟩ := hcs
    have hlm : len ≤ m := by rw [hmm]; split <;> omega
    obtain ⟨L, hL, hp⟩ := list_of (n := len) (p := fun i y => V0 i = f y ∧ V1 i = g y ∧ ok y) (fun i hi => by
      obtain ⟨_, _, h2, h3⟩ := hx i (by omega)
      exact hread n _ _ _ _ h2 h3)
    refine ⟨L, hL.symm, fun i hi => ?_, by omega, hm, fun y hy => ?_⟩
    · obtain ⟨h0, h1, _, _⟩ := hx i (by omega)
      obtain ⟨e0, e1, _⟩ := hp i hi
      exact ⟨x, rfl, by rw [h0, e0], by rw [h1, e1]⟩
    · obtain ⟨i, hi, rfl⟩ := List.getElem_of_mem hy
      exact (hp i hi).2.2
end Go.Proofs.YtipgdjjmmfkfiaaDoor
