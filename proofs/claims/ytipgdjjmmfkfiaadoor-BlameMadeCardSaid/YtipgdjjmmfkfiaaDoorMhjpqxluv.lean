import Derived.Test.YtipgdjjmmfkfiaaDoorMsvaxuqhm
namespace Go.Proofs.YtipgdjjmmfkfiaaDoor
open Go.RowKit Go.Proofs.YtipgdjjmmfkfiaaDoorW.PrintWords Go.Proofs.YtipgdjjmmfkfiaaDoorW.PrintLast Go.Proofs.YtipgdjjmmfkfiaaDoorW.PrintMore Hy

theorem IsE.drewN {w : World} {e : Err} {v : Value} (h : IsE w e v) (m : Nat) : IsE (w.drewN m) e v := h.below (pw_below_drewN (Below.refl _ _) m)
theorem codeNil (w : World) (hg : Laid w) : Calls Tryd.prog 10 #[.nilIface] w fun e w' => e = .returned (.int .i64 0) ∧ Below w.heap.size w w' := code_any .nil _ w hg rfl
theorem placeNil (w : World) (hg : Laid w) : Calls Tryd.prog 9 #[.nilIface] w fun e w' => e = .returned (.tuple #[.int .i64 0, .bool false]) ∧ Below w.heap.size w w' := place_any .nil _ w hg rfl
theorem firstPlace (u : Value) (w : World) (hg : Laid w) (hu : IsE w (.at_ 3 (.fld 2 (.code 1))) u) : Calls Tryd.prog 9 #[u] w fun e w' => e = .returned (.tuple #[.int .i64 3, .bool true]) ∧ Below w.heap.size w w' := place_any _ u w hg hu
theorem firstCode (u : Value) (w : World) (hg : Laid w) (hu : IsE w (.at_ 3 (.fld 2 (.code 1))) u) : Calls Tryd.prog 10 #[u] w fun e w' => e = .returned (.int .i64 1) ∧ Below w.heap.size w w' := code_any _ u w hg hu
theorem numsOf1 (e0 : Err) (n : Int) (h : fnums e0 = [n]) (hd : deep e0 ≤ 1000) (u : Value) (w : World) (hg : Laid w) (hu : IsE w e0 u) : Calls Tryd.prog 11 #[u] w fun e w' => ∃ A c, e = .returned (.slice A 1 c) ∧ Kd.C (Kd.int .i64) w' A 1 [n] ∧ 1 ≤ c ∧ Below w.heap.size w w' := by
  have := blNums_any e0 u w hg hu hd
  rw [h] at this
  exact this
theorem intsLit (A : Option Addr) (c : Nat) (n : Int) (W : World) (h : Kd.C (Kd.int .i64) W A 1 [n]) (hc : 1 ≤ c) :
    Calls Tryd.prog 17 #[.slice A 1 c, .slice (some ⟨W.heap.size, 0, none⟩) 1 1] (W.alloc (.cells #[.int .i64 n] 3)) fun e w' => e = .returned (.bool true) ∧ Drawn0 (W.alloc (.cells #[.int .i64 n] 3)) w' := by
  have h := ints_same A c [n] (some ⟨W.heap.size, 0, none⟩) 1 (W.alloc (.cells (nums .i64 [n]).toArray 3)) (Kd.C_alloc h _) hc (C_lit W .i64 [n] _ (by simp)) (by simp) (by simp)
  exact h
set_option maxHeartbeats 400000 in
theorem bl_first (w : World) (hg : Laid w) : Calls Tryd.prog 7 #[] w fun e w' => e = .returned (.bool true) ∧ Below w.heap.size w w' := by
  have HB := Aside0.mk (Below.refl w.heap.size w)
  have HG := Aside0.mk hg
  have hU := IsE.new (n := 3) (IsE.newF (w := w) (n := 2) (show IsE w (.code 1) (.iface 22 (.int .i64 1)) from rfl))
  rw [World.size_alloc] at hU
  have HU := Aside0.mk hU
  clear hU
  clear hg
  go_enter Tryd.func7, Tryd.ntmps7
  go_wp2_with (first
    | (go_at_call 15; refine (in_any _ _ _ ⟨_, _, rfl⟩).mono ?_; rintro e wx ⟨rfl, rfl⟩)
    | (go_at_call 14; refine (at_any _ _ _ ⟨_, _, rfl⟩).mono ?_; rintro e wx ⟨rfl, rfl⟩))
  refine (firstPlace _ _ (HG.out.below (by repeat (first | (with_reducible exact HB.out) | apply below_alloc | apply pw_below_drewN | apply below_drew1))) HU.out).mono ?_
  rintro e wb ⟨rfl, hb⟩
  have HU2 := Aside0.mk (HU.out.below hb)
  have HBn : Aside0 (Below w.heap.size w wb) := ⟨below_next (by repeat (first | (with_reducible exact HB.out) | apply below_alloc | apply pw_below_drewN | apply below_drew1)) hb⟩
  clear HB HU hb
  have HB := HBn
  clear HBn
  go_wp2_with fail
  refine (firstCode _ _ (HG.out.below (by repeat (first | (with_reducible exact HB.out) | apply below_alloc | apply pw_below_drewN | apply below_drew1))) HU2.out).mono ?_
  rintro e wc ⟨rfl, hb⟩
  have HU3 := Aside0.mk (HU2.out.below hb)
  have HBn : Aside0 (Below w.heap.size w wc) := ⟨below_next (by repeat (first | (with_reducible exact HB.out) | apply below_alloc | apply pw_below_drewN | apply below_drew1)) hb⟩
  clear HB HU2 hb
  have HB := HBn
  clear HBn
  go_wp2_with (first
    | (go_at_call 11; refine (numsOf1 (.at_ 3 (.fld 2 (.code 1))) 2 rfl (by decide) _ _ (HG.out.below (by repeat (first | (with_reducible exact HB.out) | apply below_alloc | apply pw_below_drewN | apply below_drew1))) HU3.out).mono ?_; rintro e wb3 ⟨A3, c3, rfl, hC3, hc3, hb⟩; have HBn : Aside0 (Below w.heap.size w wb3) := ⟨below_next (by repeat (first | (with_reducible exact HB.out) | apply below_alloc | apply pw_below_drewN | apply below_drew1)) hb⟩; clear HB; have HB := HBn; clear HBn; have HC3 := Aside0.mk hC3; clear hb hC3)
    | (go_at_call 17; refine (intsLit _ _ _ _ HC3.out hc3).mono ?_; rintro e wd ⟨rfl, ⟨nd, rfl⟩⟩)
    | (go_at_call 10; refine (codeNil _ (HG.out.below (by repeat (first | (with_reducible exact HB.out) | apply below_alloc | apply pw_below_drewN | apply below_drew1)))).mono ?_; rintro e wb ⟨rfl, hb⟩; have HBn : Aside0 (Below w.heap.size w wb) := ⟨below_next (by repeat (first | (with_reducible exact HB.out) | apply below_alloc | apply pw_below_drewN | apply below_drew1)) hb⟩; clear HB hb; have HB := HBn; clear HBn))
  go_ret
  exact ⟨rfl, (by repeat (first | (with_reducible exact HB.out) | apply below_alloc | apply pw_below_drewN | apply below_drew1))⟩
set_option maxHeartbeats 4000000 in
theorem blameMade_walk (c : Int) (A : Option Addr) (cp : Nat) (l : List (Bool × Int)) (w : World) (_hc0 : -9223372036854775808 ≤ c) (_hc1 : c < 9223372036854775808)
    (hr : Prs (fun x : Bool × Int => Value.bool x.1) (fun x : Bool × Int => Value.int .i64 x.2) w A l) (_hcp : l.length ≤ cp) (hl : l.length ≤ 9223372036854775807) (_hx : ∀ x ∈ l, -9223372036854775808 ≤ x.2 ∧ x.2 < 9223372036854775808) (hg : Laid w) :
    Calls Tryd.prog 3 #[.int .i64 c, .slice A l.length cp] w fun e w' => e = .returned (.bool true) ∧ Below w.heap.size w w' := by
  have HB := Aside0.mk (Below.refl w.heap.size w)
  have HG := Aside0.mk hg
  have HP : Aside0 (Wrs w A l) := ⟨hr⟩
  clear hr _hx hg _hc0 _hc1 _hcp
  by_cases hlen : 200 < l.length
  · go_enter Tryd.func3, Tryd.ntmps3
    go_wp2_with (first
      | (go_at_call 7; refine (bl_first _ (HG.out.below (by repeat (first | (with_reducible exact HB.out) | apply below_alloc | apply pw_below_drewN | apply below_drew1)))).mono ?_; rintro e wb ⟨rfl, hb⟩; have HBn : Aside0 (Below w.heap.size w wb) := ⟨below_next (by repeat (first | (with_reducible exact HB.out) | apply below_alloc | apply pw_below_drewN | apply below_drew1)) hb⟩; clear HB hb; have HB := HBn; clear HBn))
    go_ret
    exact ⟨rfl, (by repeat (first | (with_reducible exact HB.out) | apply below_alloc | apply pw_below_drewN | apply below_drew1))⟩
  · by_cases hc : c = 0
    · subst hc
      have M := fun w' (h : Wrs w' A l) => made_any 0 A cp l w' h (by omega)
      simp only [mkE_zero] at M
      go_enter Tryd.func3, Tryd.ntmps3
      go_wp2_with (first
        | (go_at_call 7; refine (bl_first _ (HG.out.below (by repeat (first | (with_reducible exact HB.out) | apply below_alloc | apply pw_below_drewN | apply below_drew1)))).mono ?_; rintro e wb ⟨rfl, hb⟩; have HBn : Aside0 (Below w.heap.size w wb) := ⟨below_next (by repeat (first | (with_reducible exact HB.out) | apply below_alloc | apply pw_below_drewN | apply below_drew1)) hb⟩; clear HB hb; have HB := HBn; clear HBn)
        | (go_at_call 8; refine (M _ (HP.out.below (by repeat (first | (with_reducible exact HB.out) | apply below_alloc | apply pw_below_drewN | apply below_drew1)))).mono ?_; rintro e wb ⟨v, rfl, hv, hb⟩; obtain rfl : v = .nilIface := hv; have HBn : Aside0 (Below w.heap.size w wb) := ⟨below_next (by repeat (first | (with_reducible exact HB.out) | apply below_alloc | apply pw_below_drewN | apply below_drew1)) hb⟩; clear HB; have HB := HBn; clear HBn hb)
        | (go_at_call 9; refine (placeNil _ (HG.out.below (by repeat (first | (with_reducible exact HB.out) | apply below_alloc | apply pw_below_drewN | apply below_drew1)))).mono ?_; rintro e wb ⟨rfl, hb⟩; have HBn : Aside0 (Below w.heap.size w wb) := ⟨below_next (by repeat (first | (with_reducible exact HB.out) | apply below_alloc | apply pw_below_drewN | apply below_drew1)) hb⟩; clear HB hb; have HB := HBn; clear HBn)
        | (go_at_call 10; refine (codeNil _ (HG.out.below (by repeat (first | (with_reducible exact HB.out) | apply below_alloc | apply pw_below_drewN | apply below_drew1)))).mono ?_; rintro e wb ⟨rfl, hb⟩; have HBn : Aside0 (Below w.heap.size w wb) := ⟨below_next (by repeat (first | (with_reducible exact HB.out) | apply below_alloc | apply pw_below_drewN | apply below_drew1)) hb⟩; clear HB hb; have HB := HBn; clear HBn)
        | (go_at_call 11; refine (blNums_any .nil _ _ (HG.out.below (by repeat (first | (with_reducible exact HB.out) | apply below_alloc | apply pw_below_drewN | apply below_drew1))) rfl (by decide)).mono ?_; rintro e wb3 ⟨A3, c3, rfl, hC3, hc3, hb⟩; have HBn : Aside0 (Below w.heap.size w wb3) := ⟨below_next (by repeat (first | (with_reducible exact HB.out) | apply below_alloc | apply pw_below_drewN | apply below_drew1)) hb⟩; clear HB; have HB := HBn; clear HBn; clear hb hC3 hc3))
      go_ret
      exact ⟨rfl, (by repeat (first | (with_reducible exact HB.out) | apply below_alloc | apply pw_below_drewN | apply below_drew1))⟩
    · have HC := Aside0.mk hc
      have hc2 : (c == 0) = false := by simpa using hc
      have M := fun w' (h : Wrs w' A l) => made_any c A cp l w' h (by omega)
      have T := fun u w' (h1 : Laid w') (h2 : IsE w' (mkE c l) u) (h : Wrs w' A l) => tells_any c A cp l u w' h1 HC.out h2 h (by omega)
      clear hc
      go_enter Tryd.func3, Tryd.ntmps3
      go_wp2_with (first
        | (go_at_call 8; refine (M _ (HP.out.below (by repeat (first | (with_reducible exact HB.out) | apply below_alloc | apply pw_below_drewN | apply below_drew1)))).mono ?_; rintro e wb ⟨v, rfl, hv, hb⟩; obtain ⟨vT, vx, rfl⟩ := hv.iface (mkE_ne c l HC.out); have HBn : Aside0 (Below w.heap.size w wb) := ⟨below_next (by repeat (first | (with_reducible exact HB.out) | apply below_alloc | apply pw_below_drewN | apply below_drew1)) hb⟩; clear HB; have HB := HBn; clear HBn hb; have HU := Aside0.mk hv; clear hv)
        | (go_at_call 12; refine (T _ _ (HG.out.below (by repeat (first | (with_reducible exact HB.out) | apply below_alloc | apply pw_below_drewN | apply below_drew1))) (by first | exact HU2.out | exact HU.out) (HP.out.below (by repeat (first | (with_reducible exact HB.out) | apply below_alloc | apply pw_below_drewN | apply below_drew1)))).mono ?_; rintro e wb ⟨rfl, hb⟩; have HBn : Aside0 (Below w.heap.size w wb) := ⟨below_next (by repeat (first | (with_reducible exact HB.out) | apply below_alloc | apply pw_below_drewN | apply below_drew1)) hb⟩; clear HB hb; have HB := HBn; clear HBn)
        | (go_at_call 7; refine (bl_first _ (HG.out.below (by repeat (first | (with_reducible exact HB.out) | apply below_alloc | apply pw_below_drewN | apply below_drew1)))).mono ?_; rintro e wb ⟨rfl, hb⟩; have HU2 := Aside0.mk (HU.out.below hb); have HBn : Aside0 (Below w.heap.size w wb) := ⟨below_next (by repeat (first | (with_reducible exact HB.out) | apply below_alloc | apply pw_below_drewN | apply below_drew1)) hb⟩; clear HB hb; have HB := HBn; clear HBn)
        | (go_at_call 7; refine (bl_first _ (HG.out.below (by repeat (first | (with_reducible exact HB.out) | apply below_alloc | apply pw_below_drewN | apply below_drew1)))).mono ?_; rintro e wb ⟨rfl, hb⟩; have HBn : Aside0 (Below w.heap.size w wb) := ⟨below_next (by repeat (first | (with_reducible exact HB.out) | apply below_alloc | apply pw_below_drewN | apply below_drew1)) hb⟩; clear HB hb; have HB := HBn; clear HBn))
      go_ret
      exact ⟨rfl, (by repeat (first | (with_reducible exact HB.out) | apply below_alloc | apply pw_below_drewN | apply below_drew1))⟩
end Go.Proofs.YtipgdjjmmfkfiaaDoor
