import Derived.Test.YtipgdjjmmfkfiaaDoorMsvaxuqhm
namespace Go.Proofs.YtipgdjjmmfkfiaaDoor
open Go.RowKit Go.Proofs.YtipgdjjmmfkfiaaDoorW.PrintWords Go.Proofs.YtipgdjjmmfkfiaaDoorW.PrintLast Go.Proofs.YtipgdjjmmfkfiaaDoorW.PrintMore Hy

theorem IsE.drewN {w : World} {e : Err} {v : Value} (h : IsE w e v) (m : Nat) : IsE (w.drewN m) e v := h.below (pw_below_drewN (Below.refl _ _) m)
theorem codeNil (w : World) (hg : Laid w) : Calls Tryd.prog 10 #[.nilIface] w fun e w' => e = .returned (.int .i64 0) ∧ Below w.heap.size w w' := code_any .nil _ w hg rfl
theorem placeNil (w : World) (hg : Laid w) : Calls Tryd.prog 9 #[.nilIface] w fun e w' => e = .returned (.tuple #[.int .i64 0, .bool false]) ∧ Below w.heap.size w w' := place_any .nil _ w hg rfl
theorem firstPlace (u : Value) (w : World) (hg : Laid w) (hu : IsE w (.at_ 3 (.fld 2 (.code 1))) u) : Calls Tryd.prog 9 #[u] w fun e w' => e = .returned (.tuple #[.int .i64 3, .bool true]) ∧ Below w.heap.size w w' := place_any _ u w hg hu
theorem firstCode (u : Value) (w : World) (hg : Laid w) (hu : IsE w (.at_ 3 (.fld 2 (.code 1))) u) : Calls Tryd.prog 10 #[u] w fun e w' => e = .returned (.int .i64 1) ∧ Below w.heap.size w w' := code_any _ u w hg hu
theorem numsOf1 (e0 : Err) (n : Int) (h : fnums e0 = [n]) (hd : deep e0 ≤ 1000) (u : Value) (w : World) (hg : Laid w) (hu : IsE w e0 u) : Calls Tryd.prog 11 #[u] w fun e w' => ∃ A c, e = .returned (.slice A 1 c) ∧ Kd.C (Kd.int .i64) w' A 1 [n] ∧ 1 ≤ c ∧ Below w.heap.size w w' := by
  have := blNums_any e0 u w hg hu hd
  rw [h] at this
  exact this
theorem intsLit (A : Option Addr) (c : Nat) (n : Int) (W : World) (h : Kd.C (Kd.int .i64) W A 1 [n]) (hc : 1 ≤ c) :
    Calls Tryd.prog 17 #[.slice A 1 c, .slice (some ⟨W.heap.size, 0, none⟩) 1 1] (W.alloc (.cells #[.int .i64 n] 3)) fun e w' => e = .returned (.bool true) ∧ Drawn0 (W.alloc (.cells #[.int .i64 n] 3)) w' := by
  have h := ints_same A c [n] (some ⟨W.heap.size, 0, none⟩) 1 (W.alloc (.cells (nums .i64 [n]).toArray 3)) (Kd.C_alloc h _) hc (C_lit W .i64 [n] _ (by simp)) (by simp) (by simp)
  exact h
set_option maxHeartbeats 400000 in
theorem bl_first (w : World) (hg : Laid w) : Calls Tryd.prog 7 #[] w fun e w' => e = .returned (.bool true) ∧ Below w.heap.size w w' := by
  have HB := Aside0.mk (Below.refl w.heap.size w)
  have HG := Aside0.mk hg
  have hU := IsE.new (n := 3) (IsE.newF (w := w) (n := 2) (show IsE w (.code 1) (.iface 22 (.int .i64 1)) from rfl))
  rw [World.size_alloc] at hU
  have HU := Aside0.mk hU
  clear hU
  clear hg
  go_enter Tryd.func7, Tryd.ntmps7
  go_wp2_with (first
    | (go_at_call 15; refine (in_any _ _ _ ⟨_, _, rfl⟩).mono ?_; rintro e wx ⟨rfl, rfl⟩)
    | (go_at_call 14; refine (at_any _ _ _ ⟨_, _, rfl⟩).mono ?_; rintro e wx ⟨rfl, rfl⟩))
  refine (firstPlace _ _ (HG.out.below (by repeat (first | (with_reducible exact HB.out) | apply below_alloc | apply pw_below_drewN | apply below_drew1))) HU.out).mono ?_
  rintro e wb ⟨rfl, hb⟩
  have HU2 := Aside0.mk (HU.out.below hb)
  have HBn : Aside0 (Below w.heap.size w wb) := ⟨below_next (by repeat (first | (with_reducible exact HB.out) | apply below_alloc | apply pw_below_drewN | apply below_drew1)) hb⟩
  clear HB HU hb
  have HB := HBn
  clear HBn
  go_wp2_with fail
  refine (firstCode _ _ (HG.out.below (by repeat (first | (with_reducible exact HB.out) | apply below_alloc | apply pw_below_drewN | apply below_drew1))) HU2.out).mono ?_
  rintro e wc ⟨rfl, hb⟩
  have HU3 := Aside0.mk (HU2.out.below hb)
  have HBn : Aside0 (Below w.heap.size w wc) := ⟨below_next (by repeat (first | (with_reducible exact HB.out) | apply below_alloc | apply pw_below_drewN | apply below_drew1)) hb⟩
  clear HB HU2 hb
  have HB := HBn
  clear HBn
  go_wp2_with (first
    | (go_at_call 11; refine (numsOf1 (.at_ 3 (.fld 2 (.code 1))) 2 rfl (by decide) _ _ (HG.out.below (by repeat (first | (with_reducible exact HB.out) | apply below_alloc | apply pw_below_drewN | apply below_drew1))) HU3.out).mono ?_; rintro e wb3 ⟨A3, c3, rfl, hC3, hc3, hb⟩; have HBn : Aside0 (Below w.heap.size w wb3) := ⟨below_next (by repeat (first | (with_reducible exact HB.out) | apply below_alloc | apply pw_below_drewN | apply below_drew1)) hb⟩; clear HB; have HB := HBn; clear HBn; have HC3 := Aside0.mk hC3; clear hb hC3)
    | (go_at_call 17; refine (intsLit _ _ _ _ HC3.out hc3).mono ?_; rintro e wd ⟨rfl, ⟨nd, rfl⟩⟩)
    | (go_at_call 10; refine (codeNil _ (HG.out.below (by repeat (first | (with_reducible exact HB.out) | apply below_alloc | apply pw_below_drewN | apply below_drew1)))).mono ?_; rintro e wb ⟨rfl, hb⟩; have HBn : Aside0 (Below w.heap.size w wb) := ⟨below_next (by repeat (first | (with_reducible exact HB.out) | apply below_alloc | apply pw_below_drewN | apply below_drew1)) hb⟩; clear HB hb; have HB := HBn; clear HBn))
  go_ret
  exact ⟨rfl, (by repeat (first | (with_reducible exact HB.out) | apply below_alloc | apply pw_below_drewN | apply below_drew1))⟩
set_option maxHeartbeats 4000000 in
theorem blameMade_walk (c : Int) (A : Option Addr) (cp : Nat) (l : List (Bool × Int)) (w : World) (_hc0 : -9223372036854775808 ≤ c) (_hc1 : c < 9223372036854775808)
    (hr : Prs (fun x : Bool × Int => Value.bool x.1) (fun x : Bool × Int => Value.int .i64 x.2) w A l) (_hcp : l.length ≤ cp) (hl : l.length ≤ 9223372036854775807) (_hx : ∀ x ∈ l, -9223372036854775808 ≤ x.2 ∧ x.2 < 9223372036854775808) (hg : Laid w) :
    Calls Tryd.prog 3 #[.int .i64 c, .slice A l.length cp] w fun e w' => e = .returned (.bool true) ∧ Below w.heap.size w w' := by
  have HB := Aside0.mk (Below.refl w.heap.size w)
  have HG := Aside0.mk hg
  have HP : Aside0 (Wrs w A l) := ⟨hr⟩
  clear hr _hx hg _hc0 _hc1 _hcp
  by_cases hlen : 200 < l.length
  · go_enter Tryd.func3, Tryd.ntmps3
    go_wp2_with (first
      | (go_at_call 7; refine (bl_first _ (HG.out.below (by repeat (first | (with_reducible exact HB.out) | apply below_alloc | apply pw_below_drewN | apply below_drew1)))).mono ?_; rintro e wb ⟨rfl, hb⟩; have HBn : Aside0 (Below w.heap.size w wb) := ⟨below_next (by repeat (first | (with_reducible exact HB.out) | apply below_alloc | apply pw_below_drewN | apply below_drew1)) hb⟩; clear HB hb; have HB := HBn; clear HBn))
    go_ret
    exact ⟨rfl, (by repeat (first | (with_reducible exact HB.out) | apply below_alloc | apply pw_below_drewN | apply below_drew1))⟩
  · by_cases hc : c = 0
    · subst hc
      have M := fun w' (h : Wrs w' A l) => made_any 0 A cp l w' h (by omega)
      simp only [mkE_zero] at M
      go_enter Tryd.func3, Tryd.ntmps3
      go_wp2_with (first
        | (go_at_call 7; refine (bl_first _ (HG.out.below (by repeat (first | (with_reducible exact HB.out) | apply below_alloc | apply pw_below_drewN | apply below_drew1)))).mono ?_; rintro e wb ⟨rfl, hb⟩; have HBn : Aside0 (Below w.heap.size w wb) := ⟨below_next (by repeat (first | (with_reducible exact HB.out) | apply below_alloc | apply pw_below_drewN | apply below_drew1)) hb⟩; clear HB hb; have HB := HBn; clear HBn)
        | (go_at_call 8; refine (M _ (HP.out.below (by repeat (first | (with_reducible exact HB.out) | apply below_alloc | apply pw_below_drewN | apply below_drew1)))).mono ?_; rintro e wb ⟨v, rfl, hv, hb⟩; obtain rfl : v = .nilIface := hv; have HBn : Aside0 (Below w.heap.size w wb) := ⟨below_next (by repeat (first | (with_reducible exact HB.out) | apply below_alloc | apply pw_below_drewN | apply below_drew1)) hb⟩; clear HB; have HB := HBn; clear HBn hb)
        | (go_at_call 9; refine (placeNil _ (HG.out.below (by repeat (first | (with_reducible exact HB.out) | apply below_alloc | apply pw_below_drewN | apply below_drew1)))).mono ?_; rintro e wb ⟨rfl, hb⟩; have HBn : Aside0 (Below w.heap.size w wb) := ⟨below_next (by repeat (first | (with_reducible exact HB.out) | apply below_alloc | apply pw_below_drewN | apply below_drew1)) hb⟩; clear HB hb; have HB := HBn; clear HBn)
        | (go_at_call 10; refine (codeNil _ (HG.out.below (by repeat (first | (with_reducible exact HB.out) | apply below_alloc | apply pw_below_drewN | apply below_drew1)))).mono ?_; rintro e wb ⟨rfl, hb⟩; have HBn : Aside0 (Below w.heap.size w wb) := ⟨below_next (by repeat (first | (with_reducible exact HB.out) | apply below_alloc | apply pw_below_drewN | apply below_drew1)) hb⟩; clear HB hb; have HB := HBn; clear HBn)
        | (go_at_call 11; refine (blNums_any .nil _ _ (HG.out.below (by repeat (first | (with_reducible exact HB.out) | apply below_alloc | apply pw_below_drewN | apply below_drew1))) rfl (by decide)).mono ?_; rintro e wb3 ⟨A3, c3, rfl, hC3, hc3, hb⟩; have HBn : Aside0 (Below w.heap.size w wb3) := ⟨below_next (by repeat (first | (with_reducible exact HB.out) | apply below_alloc | apply pw_below_drewN | apply below_drew1)) hb⟩; clear HB; have HB := HBn; clear HBn; clear hb hC3 hc3))
      go_ret
      exact ⟨rfl, (by repeat (first | (with_reducible exact HB.out) | apply below_alloc | apply pw_below_drewN | apply below_drew1))⟩
    · have HC := Aside0.mk hc
      have hc2 : (c == 0) = false := by simpa using hc
      have M := fun w' (h : Wrs w' A l) => made_any c A cp l w' h (by omega)
      have T := fun u w' (h1 : Laid w') (h2 : IsE w' (mkE c l) u) (h : Wrs w' A l) => tells_any c A cp l u w' h1 HC.out h2 h (by omega)
      clear hc
      go_enter Tryd.func3, Tryd.ntmps3
      go_wp2_with (first
        | (go_at_call 8; refine (M _ (HP.out.below (by repeat (first | (with_reducible exact HB.out) | apply below_alloc | apply pw_below_drewN | apply below_drew1)))).mono ?_; rintro e wb ⟨v, rfl, hv, hb⟩; obtain ⟨vT, vx, rfl⟩ := hv.iface (mkE_ne c l HC.out); have HBn : Aside0 (Below w.heap.size w wb) := ⟨below_next (by repeat (first | (with_reducible exact HB.out) | apply below_alloc | apply pw_below_drewN | apply below_drew1)) hb⟩; clear HB; have HB := HBn; clear HBn hb; have HU := Aside0.mk hv; clear hv)
        | (go_at_call 12; refine (T _ _ (HG.out.below (by repeat (first | (with_reducible exact HB.out) | apply below_alloc | apply pw_below_drewN | apply below_drew1))) (by first | exact HU2.out | exact HU.out) (HP.out.below (by repeat (first | (with_reducible exact HB.out) | apply below_alloc | apply pw_below_drewN | apply below_drew1)))).mono ?_; rintro e wb ⟨rfl, hb⟩; have HBn : Aside0 (Below w.heap.size w wb) := ⟨below_next (by repeat (first | (with_reducible exact HB.out) | apply below_alloc | apply pw_below_drewN | apply below_drew1)) hb⟩; clear HB hb; have HB := HBn; clear HBn)
        | (go_at_call 7; refine (bl_first _ (HG.out.below (by repeat (first | (with_reducible exact HB.out) | apply below_alloc | apply pw_below_drewN | apply below_drew1)))).mono ?_; rintro e wb ⟨rfl, hb⟩; have HU2 := Aside0.mk (HU.out.below hb); have HBn : Aside0 (Below w.heap.size w wb) := ⟨below_next (by repeat (first | (with_reducible exact HB.out) | apply below_alloc | apply pw_below_drewN | apply below_drew1)) hb⟩; clear HB hb; have HB := HBn; clear HBn)
        | (go_at_call 7; refine (bl_first _ (HG.out.below (by repeat (first | (with_reducible exact HB.out) | apply below_alloc | apply pw_below_drewN | apply below_drew1)))).mono ?_; rintro e wb ⟨rfl, hb⟩; have HBn : Aside0 (Below w.heap.size w wb) := ⟨below_next (by repeat (first | (with_reducible exact HB.out) | apply below_alloc | apply pw_below_drewN | apply below_drew1)) hb⟩; clear HB hb; have HB := HBn; clear HBn))
      go_ret
      exact ⟨rfl, (by repeat (first | (with_reducible exact HB.out) | apply below_alloc | apply pw_below_drewN | apply below_drew1))⟩
end Go.Proofs.YtipgdjjmmfkfiaaDoor
namespace Go.Proofs.YtipgdjjmmfkfiaaDoor
open Go.RowKit Go.Proofs.YtipgdjjmmfkfiaaDoorW.PrintWords Go.Proofs.YtipgdjjmmfkfiaaDoorW.PrintLast Go.Proofs.YtipgdjjmmfkfiaaDoorW.PrintMore Hy Go.Extern.Stop Go.Stop Go.Extern

theorem errNew_at (s : ByteArray) (w : World) : Calls Tryd.prog 13 #[.string s] w fun e w' => ∃ a, e = .returned (.iface 58 (.pointer (some ⟨a, 0, none⟩))) ∧ w'.heap[a]? = some (.cells #[.string s] 60 (0, 0)) ∧ Below w.heap.size w w' := by
  refine (errNew_any s w).mono ?_
  rintro e w' ⟨rfl, rfl⟩
  exact ⟨_, rfl, heap_alloc_new _ _, (Below.refl _ _).alloc (Nat.le_refl _) _⟩
theorem in_at (n : Int) (T : TypeId) (x : Value) (w : World) : Calls Tryd.prog 15 #[.int .i64 n, .iface T x] w fun e w' => ∃ a, e = .returned (.iface 41 (.pointer (some ⟨a, 0, none⟩))) ∧ w'.heap[a]? = some (.cells #[.int .i64 n, .iface T x] 48 (0, 0)) ∧ Below w.heap.size w w' := by
  refine (in_any n (.iface T x) w ⟨_, _, rfl⟩).mono ?_
  rintro e w' ⟨rfl, rfl⟩
  exact ⟨_, rfl, heap_alloc_new _ _, (Below.refl _ _).alloc (Nat.le_refl _) _⟩
theorem at_at (n : Int) (T : TypeId) (x : Value) (w : World) : Calls Tryd.prog 14 #[.int .i64 n, .iface T x] w fun e w' => ∃ a, e = .returned (.iface 40 (.pointer (some ⟨a, 0, none⟩))) ∧ w'.heap[a]? = some (.cells #[.int .i64 n, .iface T x] 46 (0, 0)) ∧ Below w.heap.size w w' := by
  refine (at_any n (.iface T x) w ⟨_, _, rfl⟩).mono ?_
  rintro e w' ⟨rfl, rfl⟩
  exact ⟨_, rfl, heap_alloc_new _ _, (Below.refl _ _).alloc (Nat.le_refl _) _⟩
set_option maxHeartbeats 2000000 in
theorem isOth_walk (a2 a1 b : Nat) (n m : Int) (w : World) (h2 : w.heap[a2]? = some (.cells #[.int .i64 n, .iface 41 (.pointer (some ⟨a1, 0, none⟩))] 46 (0, 0))) (h1 : w.heap[a1]? = some (.cells #[.int .i64 m, .iface 58 (.pointer (some ⟨b, 0, none⟩))] 48 (0, 0))) :
    Calls Tryd.prog 28 #[.iface 40 (.pointer (some ⟨a2, 0, none⟩)), .iface 58 (.pointer (some ⟨b, 0, none⟩)), .bool true] w fun e w' => e = .returned (.bool true) ∧ w' = w := by
  obtain ⟨i, hi, hcmp⟩ := Option.map_eq_some_iff.1 isOth_comp
  obtain ⟨j, hj, hjs⟩ := Option.map_eq_some_iff.1 isOth_size
  have heq := run_eql_iface_ptr_same (P := Tryd.prog) w ⟨b, 0, none⟩ Tryd.underlying26 Tryd.underlying58 hi hcmp hj
  have hty1 := run_eql_iface_types (P := Tryd.prog) 40 58 (.pointer (some ⟨a2, 0, none⟩)) (.pointer (some ⟨b, 0, none⟩)) Tryd.underlying26 (by decide) w
  have hty2 := run_eql_iface_types (P := Tryd.prog) 41 58 (.pointer (some ⟨a1, 0, none⟩)) (.pointer (some ⟨b, 0, none⟩)) Tryd.underlying26 (by decide) w
  have q1 := asWhere_noIs
  have q2 := asWhere_hasUnwrap
  have q3 := asWhere_unwrapM
  have q4 := asField_noIs
  have q5 := asField_hasUnwrap
  have q6 := asField_unwrapM
  have H1 := Aside0.mk h1
  have H2 := Aside0.mk h2
  clear h1 h2 hi hcmp hj hjs
  go_enter Tryd.func28, Tryd.ntmps28
  go_wp2_with fail
  refine wp_loop_rounds 3 ?_
  rw [rounds_succ]
  go_wp2_with (go_at_call 60; refine (unwrapWhere_any a2 n _ _ H2.out).mono ?_; rintro e w' ⟨rfl, rfl⟩)
  rw [rounds_succ]
  go_wp2_with (go_at_call 62; refine (unwrapField_any a1 m _ _ H1.out).mono ?_; rintro e w' ⟨rfl, rfl⟩)
  rw [rounds_succ]
  go_wp2_with fail
  go_ret
  exact ⟨rfl, rfl⟩
theorem errIsOth_any (a2 a1 b : Nat) (n m : Int) (w : World) (h2 : w.heap[a2]? = some (.cells #[.int .i64 n, .iface 41 (.pointer (some ⟨a1, 0, none⟩))] 46 (0, 0))) (h1 : w.heap[a1]? = some (.cells #[.int .i64 m, .iface 58 (.pointer (some ⟨b, 0, none⟩))] 48 (0, 0))) :
    Calls Tryd.prog 16 #[.iface 40 (.pointer (some ⟨a2, 0, none⟩)), .iface 58 (.pointer (some ⟨b, 0, none⟩))] w fun e w' => e = .returned (.bool true) ∧ w' = w := by
  have HC := isOth_walk a2 a1 b n m w h2 h1
  clear h1 h2
  have hT := @run_callFunc_extern Tryd.prog 27 _ (ReflectliteType.typeOf) Tryd.func27 (by kernel_rfl) (by kernel_rfl) (by kernel_rfl) (by kernel_rfl)
  have tT := asOth_typeOf
  have cT := isOth_comparable
  have mR := asMethod_Comparable
  go_enter Tryd.func16, Tryd.ntmps16
  go_wp2_with (go_at_call 28; refine HC.mono ?_; rintro e w' ⟨rfl, rfl⟩)
  go_ret
  exact ⟨rfl, rfl⟩
theorem othCode (u : Value) (w : World) (hg : Laid w) (hu : IsE w .oth u) : Calls Tryd.prog 10 #[u] w fun e w' => e = .returned (.int .i64 14) ∧ Below w.heap.size w w' := code_any .oth u w hg hu
theorem xCode (a n : Int) (u : Value) (w : World) (hg : Laid w) (hu : IsE w (.at_ a (.fld n .oth)) u) : Calls Tryd.prog 10 #[u] w fun e w' => e = .returned (.int .i64 14) ∧ Below w.heap.size w w' := code_any _ u w hg hu
theorem xPlace (a n : Int) (u : Value) (w : World) (hg : Laid w) (hu : IsE w (.at_ a (.fld n .oth)) u) : Calls Tryd.prog 9 #[u] w fun e w' => e = .returned (.tuple #[.int .i64 a, .bool true]) ∧ Below w.heap.size w w' := place_any _ u w hg hu
/-- What BlameOther makes, in a world. -/
def Made (s : ByteArray) (n m : Int) (a2 a1 b : Nat) (w : World) : Prop :=
  w.heap[a2]? = some (.cells #[.int .i64 n, .iface 41 (.pointer (some ⟨a1, 0, none⟩))] 46 (0, 0)) ∧ w.heap[a1]? = some (.cells #[.int .i64 m, .iface 58 (.pointer (some ⟨b, 0, none⟩))] 48 (0, 0)) ∧ w.heap[b]? = some (.cells #[.string s] 60 (0, 0))
theorem Made.below {s n m a2 a1 b} {w w' : World} (h : Made s n m a2 a1 b w) (hb : Below w.heap.size w w') : Made s n m a2 a1 b w' := ⟨blk_below h.1 hb, blk_below h.2.1 hb, blk_below h.2.2 hb⟩
theorem Made.x {s n m a2 a1 b} {w : World} (h : Made s n m a2 a1 b w) : IsE w (.at_ n (.fld m .oth)) (.iface 40 (.pointer (some ⟨a2, 0, none⟩))) := ⟨a2, _, rfl, h.1, a1, _, rfl, h.2.1, b, s, rfl, h.2.2⟩
theorem Made.e {s n m a2 a1 b} {w : World} (h : Made s n m a2 a1 b w) : IsE w .oth (.iface 58 (.pointer (some ⟨b, 0, none⟩))) := ⟨b, s, rfl, h.2.2⟩
set_option maxHeartbeats 4000000 in
theorem blameOther_walk (s : ByteArray) (a n : Int) (w : World) (hs : s.size ≤ 140737488351232) (_ha0 : -9223372036854775808 ≤ a) (_ha1 : a < 9223372036854775808) (_hn0 : -9223372036854775808 ≤ n) (_hn1 : n < 9223372036854775808) (hg : Laid w) :
    Calls Tryd.prog 4 #[.string s, .int .i64 a, .int .i64 n] w fun e w' => e = .returned (.bool true) ∧ Below w.heap.size w w' := by
  have HB := Aside0.mk (Below.refl w.heap.size w)
  have HG := Aside0.mk hg
  clear hg _ha0 _ha1 _hn0 _hn1
  by_cases hlen : 1000 < s.size
  · go_enter Tryd.func4, Tryd.ntmps4
    go_wp2_with (first
      | (go_at_call 7; refine (bl_first _ (HG.out.below (by repeat (first | (with_reducible exact HB.out) | apply below_alloc | apply pw_below_drewN | apply below_drew1)))).mono ?_; rintro e wb ⟨rfl, hb⟩; have HBn : Aside0 (Below w.heap.size w wb) := ⟨below_next (by repeat (first | (with_reducible exact HB.out) | apply below_alloc | apply pw_below_drewN | apply below_drew1)) hb⟩; clear HB hb; have HB := HBn; clear HBn))
    go_ret
    exact ⟨rfl, (by repeat (first | (with_reducible exact HB.out) | apply below_alloc | apply pw_below_drewN | apply below_drew1))⟩
  · go_enter Tryd.func4, Tryd.ntmps4
    go_wp2_with (first
      | (go_at_call 7; refine (bl_first _ (HG.out.below (by repeat (first | (with_reducible exact HB.out) | apply below_alloc | apply pw_below_drewN | apply below_drew1)))).mono ?_; rintro e wb ⟨rfl, hb⟩; have HBn : Aside0 (Below w.heap.size w wb) := ⟨below_next (by repeat (first | (with_reducible exact HB.out) | apply below_alloc | apply pw_below_drewN | apply below_drew1)) hb⟩; clear HB hb; have HB := HBn; clear HBn))
    refine (errNew_at s _).mono ?_
    rintro e w1 ⟨b, rfl, hh, hb⟩
    have HBn : Aside0 (Below w.heap.size w w1) := ⟨below_next (by repeat (first | (with_reducible exact HB.out) | apply below_alloc | apply pw_below_drewN | apply below_drew1)) hb⟩
    have HH := Aside0.mk hh
    clear HB hh hb
    have HB := HBn
    clear HBn
    go_wp2_with fail
    refine (in_at n _ _ _).mono ?_
    rintro e w2 ⟨a1, rfl, hh, hb⟩
    have HBn : Aside0 (Below w.heap.size w w2) := ⟨below_next (by repeat (first | (with_reducible exact HB.out) | apply below_alloc | apply pw_below_drewN | apply below_drew1)) hb⟩
    have HH1 := Aside0.mk hh
    have HH2 := Aside0.mk (blk_below HH.out hb)
    clear HB hh hb HH
    have HB := HBn
    clear HBn
    go_wp2_with fail
    refine (at_at a _ _ _).mono ?_
    rintro e w3 ⟨a2, rfl, hh, hb⟩
    have HBn : Aside0 (Below w.heap.size w w3) := ⟨below_next (by repeat (first | (with_reducible exact HB.out) | apply below_alloc | apply pw_below_drewN | apply below_drew1)) hb⟩
    have HM : Aside0 (Made s a n a2 a1 b w3) := ⟨hh, blk_below HH1.out hb, blk_below HH2.out hb⟩
    clear HB hh hb HH1 HH2
    have HB := HBn
    clear HBn
    go_wp2_with fail
    refine (xPlace a n _ _ (HG.out.below (by repeat (first | (with_reducible exact HB.out) | apply below_alloc | apply pw_below_drewN | apply below_drew1))) HM.out.x).mono ?_
    rintro e w4 ⟨rfl, hb⟩
    have HM2 := Aside0.mk (HM.out.below hb)
    have HBn : Aside0 (Below w.heap.size w w4) := ⟨below_next (by repeat (first | (with_reducible exact HB.out) | apply below_alloc | apply pw_below_drewN | apply below_drew1)) hb⟩
    clear HB hb HM
    have HB := HBn
    clear HBn
    go_wp2_with (first
      | (go_at_call 7; refine (bl_first _ (HG.out.below (by repeat (first | (with_reducible exact HB.out) | apply below_alloc | apply pw_below_drewN | apply below_drew1)))).mono ?_; rintro e wb ⟨rfl, hb⟩; have HM3 := Aside0.mk (HM2.out.below hb); have HBn : Aside0 (Below w.heap.size w wb) := ⟨below_next (by repeat (first | (with_reducible exact HB.out) | apply below_alloc | apply pw_below_drewN | apply below_drew1)) hb⟩; clear HB hb; have HB := HBn; clear HBn))
    refine (othCode _ _ (HG.out.below (by repeat (first | (with_reducible exact HB.out) | apply below_alloc | apply pw_below_drewN | apply below_drew1))) HM3.out.e).mono ?_
    rintro e w5 ⟨rfl, hb⟩
    have HM4 := Aside0.mk (HM3.out.below hb)
    have HBn : Aside0 (Below w.heap.size w w5) := ⟨below_next (by repeat (first | (with_reducible exact HB.out) | apply below_alloc | apply pw_below_drewN | apply below_drew1)) hb⟩
    clear HB hb HM3
    have HB := HBn
    clear HBn
    go_wp2_with fail
    refine (xCode a n _ _ (HG.out.below (by repeat (first | (with_reducible exact HB.out) | apply below_alloc | apply pw_below_drewN | apply below_drew1))) HM4.out.x).mono ?_
    rintro e w6 ⟨rfl, hb⟩
    have HM5 := Aside0.mk (HM4.out.below hb)
    have HBn : Aside0 (Below w.heap.size w w6) := ⟨below_next (by repeat (first | (with_reducible exact HB.out) | apply below_alloc | apply pw_below_drewN | apply below_drew1)) hb⟩
    clear HB hb HM4
    have HB := HBn
    clear HBn
    go_wp2_with (first
      | (go_at_call 16; refine (errIsOth_any a2 a1 b a n _ HM5.out.1 HM5.out.2.1).mono ?_; rintro e wx ⟨rfl, rfl⟩)
      | (go_at_call 11; refine (numsOf1 (.at_ a (.fld n .oth)) n rfl (show 2 ≤ 1000 by decide) _ _ (HG.out.below (by repeat (first | (with_reducible exact HB.out) | apply below_alloc | apply pw_below_drewN | apply below_drew1))) HM5.out.x).mono ?_; rintro e wb3 ⟨A3, c3, rfl, hC3, hc3, hb⟩; have HBn : Aside0 (Below w.heap.size w wb3) := ⟨below_next (by repeat (first | (with_reducible exact HB.out) | apply below_alloc | apply pw_below_drewN | apply below_drew1)) hb⟩; clear HB; have HB := HBn; clear HBn; have HC3 := Aside0.mk hC3; clear hb hC3)
      | (go_at_call 17; refine (intsLit _ _ _ _ HC3.out hc3).mono ?_; rintro e wd ⟨rfl, ⟨nd, rfl⟩⟩)
      | (go_at_call 14; refine (at_nil _ _).mono ?_; rintro e wx ⟨rfl, rfl⟩)
      | (go_at_call 15; refine (in_nil _ _).mono ?_; rintro e wx ⟨rfl, rfl⟩))
    go_ret
    exact ⟨rfl, (by repeat (first | (with_reducible exact HB.out) | apply below_alloc | apply pw_below_drewN | apply below_drew1))⟩
end Go.Proofs.YtipgdjjmmfkfiaaDoor
