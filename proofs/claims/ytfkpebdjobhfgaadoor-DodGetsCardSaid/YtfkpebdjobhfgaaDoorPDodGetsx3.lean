-- PRINTED BY print.sh 35421559b90ae4d0a3588c463048766b98c2df88dd9212a6774a882060cdf62d: not written by this session
import Derived.Test.YtfkpebdjobhfgaaDoorPDodGetsx0
import Derived.Test.YtfkpebdjobhfgaaDoorPDodGetsx2
namespace Go.Proofs.YtfkpebdjobhfgaaDoor.PDodGets
open Go.RowKit Go.Proofs.YtfkpebdjobhfgaaDoorW.PrintWords Go.Proofs.YtfkpebdjobhfgaaDoorW.PrintLast Go.Proofs.YtfkpebdjobhfgaaDoorW.PrintMore
attribute [local go_sem] max2_int min2_int max_two min_two max_three min_three max_four min_four   -- for this text's walks alone
set_option linter.unusedVariables false
set_option linter.unusedSimpArgs false

/-! ### hygref18_GetDod: function 20 -/
mutual
def hygref18_GetDod.j0 : Nat → ByteArray → Int → Bool → Option (List Int × Bool)
  | 0, _, _, _ => none
  | k + 1, x0, x1, x18 => if x18 = true then (some (([] : List Int), false)) else ((hygref2_Varints.f k x0).bind fun bt142 => (if bt142.2 = 0 then (hygref18_GetDod.j1 k x0 x1 bt142.1 ((bt142.1.length : Int) != x1)) else (hygref18_GetDod.j1 k x0 x1 bt142.1 true)))
def hygref18_GetDod.j1 : Nat → ByteArray → Int → List Int → Bool → Option (List Int × Bool)
  | 0, _, _, _, _ => none
  | k + 1, x0, x1, x6, x31 => if x31 = true then (some (([] : List Int), false)) else (hygref18_GetDod.l0 k x0 x1 x6 ([] : List Int) 0 0)
def hygref18_GetDod.l0 : Nat → ByteArray → Int → List Int → List Int → Int → Int → Option (List Int × Bool)
  | 0, _, _, _, _, _, _ => none
  | k + 1, x0, x1, x6, x8, x9, x10 => if x10 < x1 then (if x10 = 0 then (if 0 < (x6.length : Int) then (if x8.length < 17592186044416 then (hygref18_GetDod.l0 k x0 x1 x6 (x8 ++ [rd x6 0]) x9 (wrap64 (x10 + 1))) else (none)) else (none)) else (if x10 = 1 then (if 1 < (x6.length : Int) then ((hygref2_Zag.f (rd x6 1)).bind fun t153 => (if 0 < (x8.length : Int) then (if x8.length < 17592186044416 then (hygref18_GetDod.l0 k x0 x1 x6 (x8 ++ [IntKind.u64.wrap ((rd x8 0) + (IntKind.u64.wrap (t153)))]) (IntKind.u64.wrap (t153)) (wrap64 (x10 + 1))) else (none)) else (none))) else (none)) else (if 0 ≤ x10 then (if x10 < (x6.length : Int) then ((hygref2_Zag.f (rd x6 x10)).bind fun t159 => (if 0 ≤ (wrap64 (x10 - 1)) then (if (wrap64 (x10 - 1)) < (x8.length : Int) then (if x8.length < 17592186044416 then (hygref18_GetDod.l0 k x0 x1 x6 (x8 ++ [IntKind.u64.wrap ((rd x8 (wrap64 (x10 - 1))) + (IntKind.u64.wrap (x9 + (IntKind.u64.wrap (t159)))))]) (IntKind.u64.wrap (x9 + (IntKind.u64.wrap (t159)))) (wrap64 (x10 + 1))) else (none)) else (none)) else (none))) else (none)) else (none)))) else ((hygref18_PutDod.f k x8).bind fun bt146 => (if bt146.1.toList = x0.toList then (some (x8, true)) else (some (([] : List Int), false))))
end
def hygref18_GetDod.f (k : Nat) (a0 : ByteArray) (a1 : Int) : Option (List Int × Bool) := if a1 < 0 then (hygref18_GetDod.j0 k a0 a1 true) else (hygref18_GetDod.j0 k a0 a1 (decide (a1 > 20000)))
theorem hygref18_GetDod.mono_l : ∀ k, (∀ y0 y1 y2, LeO (hygref18_GetDod.j0 k y0 y1 y2) (hygref18_GetDod.j0 (k + 1) y0 y1 y2)) ∧ (∀ y0 y1 y2 y3, LeO (hygref18_GetDod.j1 k y0 y1 y2 y3) (hygref18_GetDod.j1 (k + 1) y0 y1 y2 y3)) ∧ (∀ y0 y1 y2 y3 y4 y5, LeO (hygref18_GetDod.l0 k y0 y1 y2 y3 y4 y5) (hygref18_GetDod.l0 (k + 1) y0 y1 y2 y3 y4 y5))
  | 0 => ⟨fun _ _ _ r h => by simp [hygref18_GetDod.j0] at h, fun _ _ _ _ r h => by simp [hygref18_GetDod.j1] at h, fun _ _ _ _ _ _ r h => by simp [hygref18_GetDod.l0] at h⟩
  | k + 1 => by
    obtain ⟨ih0, ih1, ih2⟩ := hygref18_GetDod.mono_l k
    refine ⟨?_, ?_, ?_⟩
    · intro y0 y1 y2
      unfold hygref18_GetDod.j0
      repeat' first
      | (with_reducible exact ih0 _ _ _)
      | (with_reducible exact ih1 _ _ _ _)
      | (with_reducible exact ih2 _ _ _ _ _ _)
      | (with_reducible exact hygref18_PutDod.mono _ _)
      | (with_reducible exact hygref2_Varints.mono _ _)
      | (with_reducible exact LeO.refl _)
      | (with_reducible exact LeO.none _)
      | (with_reducible refine LeO.ite ?_ ?_)
      | (with_reducible refine LeO.bind ?_ (fun _ => ?_))
      | exact ih0 _ _ _
      | exact ih1 _ _ _ _
      | exact ih2 _ _ _ _ _ _
      | exact hygref18_PutDod.mono _ _
      | exact hygref2_Varints.mono _ _
      | exact LeO.none _
      | refine LeO.ite ?_ ?_
      | refine LeO.bind ?_ (fun _ => ?_)
    · intro y0 y1 y2 y3
      unfold hygref18_GetDod.j1
      repeat' first
      | (with_reducible exact ih0 _ _ _)
      | (with_reducible exact ih1 _ _ _ _)
      | (with_reducible exact ih2 _ _ _ _ _ _)
      | (with_reducible exact hygref18_PutDod.mono _ _)
      | (with_reducible exact hygref2_Varints.mono _ _)
      | (with_reducible exact LeO.refl _)
      | (with_reducible exact LeO.none _)
      | (with_reducible refine LeO.ite ?_ ?_)
      | (with_reducible refine LeO.bind ?_ (fun _ => ?_))
      | exact ih0 _ _ _
      | exact ih1 _ _ _ _
      | exact ih2 _ _ _ _ _ _
      | exact hygref18_PutDod.mono _ _
      | exact hygref2_Varints.mono _ _
      | exact LeO.none _
      | refine LeO.ite ?_ ?_
      | refine LeO.bind ?_ (fun _ => ?_)
    · intro y0 y1 y2 y3 y4 y5
      unfold hygref18_GetDod.l0
      repeat' first
      | (with_reducible exact ih0 _ _ _)
      | (with_reducible exact ih1 _ _ _ _)
      | (with_reducible exact ih2 _ _ _ _ _ _)
      | (with_reducible exact hygref18_PutDod.mono _ _)
      | (with_reducible exact hygref2_Varints.mono _ _)
      | (with_reducible exact LeO.refl _)
      | (with_reducible exact LeO.none _)
      | (with_reducible refine LeO.ite ?_ ?_)
      | (with_reducible refine LeO.bind ?_ (fun _ => ?_))
      | exact ih0 _ _ _
      | exact ih1 _ _ _ _
      | exact ih2 _ _ _ _ _ _
      | exact hygref18_PutDod.mono _ _
      | exact hygref2_Varints.mono _ _
      | exact LeO.none _
      | refine LeO.ite ?_ ?_
      | refine LeO.bind ?_ (fun _ => ?_)
theorem hygref18_GetDod.mono : ∀ a0 a1 k, LeO (hygref18_GetDod.f k a0 a1) (hygref18_GetDod.f (k + 1) a0 a1) := by
  intro a0 a1 k
  obtain ⟨ih0, ih1, ih2⟩ := hygref18_GetDod.mono_l k
  unfold hygref18_GetDod.f
  repeat' first
      | (with_reducible exact ih0 _ _ _)
      | (with_reducible exact ih1 _ _ _ _)
      | (with_reducible exact ih2 _ _ _ _ _ _)
      | (with_reducible exact hygref18_PutDod.mono _ _)
      | (with_reducible exact hygref2_Varints.mono _ _)
      | (with_reducible exact LeO.refl _)
      | (with_reducible exact LeO.none _)
      | (with_reducible refine LeO.ite ?_ ?_)
      | (with_reducible refine LeO.bind ?_ (fun _ => ?_))
      | exact ih0 _ _ _
      | exact ih1 _ _ _ _
      | exact ih2 _ _ _ _ _ _
      | exact hygref18_PutDod.mono _ _
      | exact hygref2_Varints.mono _ _
      | exact LeO.none _
      | refine LeO.ite ?_ ?_
      | refine LeO.bind ?_ (fun _ => ?_)
set_option maxHeartbeats 8000000 in
set_option maxRecDepth 100000 in
theorem hygref18_GetDod.calls (k : Nat) (a0 : ByteArray) (a1 : Int) (r1 : List Int) (r2 : Bool) (w : World) (h : hygref18_GetDod.f k a0 a1 = some (r1, r2)) :
    Calls Tryd.prog 20 #[.string a0, .int .i64 a1] w fun e w' => ∃ v0_ : Value, e = .returned (.tuple #[v0_, .bool r2]) ∧ Kd.R (Kd.int .u64) 22 w' w.heap.size (fun _ => True) v0_ r1 ∧ Below w.heap.size w w' := by
  have HB := Aside0.mk (Below.refl w.heap.size w)
  have H : (if a1 < 0 then (hygref18_GetDod.j0 k a0 a1 true) else (hygref18_GetDod.j0 k a0 a1 (decide (a1 > 20000)))) = some (r1, r2) := h
  clear h
  have HC3 := Aside0.mk H
  clear H
  go_enter Tryd.func20, Tryd.ntmps20
  go_upto_region 1 with (fail)
  go_cut [18] (fun v18 wc => ∃ (kq : Nat) (x18_2 : Bool), v18 = .bool x18_2 ∧ Aside0 (hygref18_GetDod.j0 kq a0 a1 x18_2 = some (r1, r2)) ∧ Aside0 (kq ≤ k) ∧ Aside0 (Below w.heap.size w wc))
  case first =>
    have H := HC3.out
    clear HC3
    by_cases c4 : a1 < 0
    · rw [if_pos c4] at H
      have c4b0 : decide (a1 < 0) = true := decide_eq_true c4
      clear c4
      (first | rw [c4b0] | (simp only [i64_w, i32_w]; rw [c4b0]) | skip)
      have H' := Aside0.mk H
      clear H
      go_wp2
      go_meet
      case rel => exact ⟨_, (true), (by first | rfl | (simp; done) | (simp [*]; done)), H', ⟨by first | omega | exact Nat.le_refl _⟩, ⟨by repeat (first | (with_reducible first | exact HB.out | apply below_alloc | apply pw_below_drewN | apply below_drew1) | exact HB.out)⟩⟩
    · rw [if_neg c4] at H
      have c4b0 : decide (a1 < 0) = false := decide_eq_false c4
      clear c4
      (first | rw [c4b0] | (simp only [i64_w, i32_w]; rw [c4b0]) | skip)
      have H' := Aside0.mk H
      clear H
      go_wp2
      go_meet
      case rel => exact ⟨_, (decide (a1 > 20000)), (by first | rfl | (simp; done) | (simp [*]; done)), H', ⟨by first | omega | exact Nat.le_refl _⟩, ⟨by repeat (first | (with_reducible first | exact HB.out | apply below_alloc | apply pw_below_drewN | apply below_drew1) | exact HB.out)⟩⟩
  case rest =>
    clear HC3
    try clear c2
    try clear p2
    try clear c4
    try clear c4b0
    obtain ⟨kq, x18_2, rfl, HA, HJ2, HB⟩ := hcut
    cases kq with
    | zero => exact absurd HA.out (by simp [hygref18_GetDod.j0])
    | succ kj2 =>
      have H := HA.out
      clear HA
      simp only [hygref18_GetDod.j0] at H
      by_cases c5 : x18_2 = true
      · subst c5
        have H1 : (some (([] : List Int), false)) = some (r1, r2) := by rw [if_pos rfl] at H; exact H
        clear H
        have H := H1
        clear H1
        simp only [Option.some.injEq, Prod.mk.injEq] at H
        obtain ⟨rfl, rfl⟩ := H
        go_wp2
        go_ret2
        exact ⟨_, by first | rfl | (simp [errW_none, errW_some] <;> rfl) | (simp [*, errW_none, errW_some] <;> rfl), by first | exact Kd.R_nil _ _ _ _ _ | exact Kd.N_nil _ _ _ _ _ | exact Kd.V_nil _ _ _ _ _ | exact Kd.Q_nil _ _ _ _ _ | exact Kd.S_nil _ _ _ _ _, by repeat (first | (with_reducible first | exact HB.out | apply below_alloc | apply pw_below_drewN | apply below_drew1) | exact HB.out)⟩
      · replace c5 := Bool.eq_false_iff.mpr c5
        subst c5
        have H1 : ((hygref2_Varints.f kj2 a0).bind fun bt142 => (if bt142.2 = 0 then (hygref18_GetDod.j1 kj2 a0 a1 bt142.1 ((bt142.1.length : Int) != a1)) else (hygref18_GetDod.j1 kj2 a0 a1 bt142.1 true))) = some (r1, r2) := by rw [if_neg (show ¬ (false = true) by decide)] at H; exact H
        clear H
        have H := H1
        clear H1
        replace H := Option.bind_eq_some_iff.mp H
        obtain ⟨⟨t142, t143⟩, A60, H⟩ := H
        replace H : (if t143 = 0 then (hygref18_GetDod.j1 kj2 a0 a1 t142 ((t142.length : Int) != a1)) else (hygref18_GetDod.j1 kj2 a0 a1 t142 true)) = some (r1, r2) := H
        have A6 := Aside0.mk A60
        clear A60
        have HC7 := Aside0.mk H
        clear H
        go_upto_region 4 with (first | ((with_reducible refine gate_callee (f := 32) rfl ?_); refine goesL_ (some 21) rfl rfl Tryd.func32 (by kernel_rfl) rfl #[.string a0] rfl (by (try simp only [List.map_toArray, List.map_cons, List.map_nil]); first | done | rfl | (simp only [List.length_drop, List.length_take]; rfl)) ?_; (with_reducible refine (hygref2_Varints.calls kj2 a0 t142 t143 _ A6.out).mono ?_); rintro e w8 ⟨v144, rfl, ho0, hb⟩; refine ⟨_, rfl, ?_⟩; have n0_ := Aside0.mk (Kd.R_lower ho0 (below_size (by repeat (first | (with_reducible first | exact HB.out | apply below_alloc | apply pw_below_drewN | apply below_drew1) | exact HB.out)))); have n1_ := Aside0.mk (below_step (by repeat (first | (with_reducible first | exact HB.out | apply below_alloc | apply pw_below_drewN | apply below_drew1) | exact HB.out)) hb); clear HB; have HO145 := n0_; have HB := n1_; clear n0_ n1_; (try clear hb); (try clear hb2); (try clear hk); (try clear hi); (try clear ho0)))
        (try simp only [Act.put, List.setIfInBounds_toArray, List.set_cons_zero, List.set_cons_succ])
        go_cut [31] (fun v31 wc => ∃ (kq : Nat) (x31_6 : Bool), v31 = .bool x31_6 ∧ Aside0 (hygref18_GetDod.j1 kq a0 a1 t142 x31_6 = some (r1, r2)) ∧ Aside0 (kq ≤ kj2) ∧ Aside0 (Kd.R (Kd.int .u64) 22 wc w.heap.size (fun _ => True) v144 t142) ∧ Aside0 (Below w.heap.size w wc))
        case first =>
          have H := HC7.out
          clear HC7
          by_cases c9 : t143 = 0
          · rw [if_pos c9] at H
            have c9b0 : (t143 == 0) = true := beq_iff_eq.mpr c9
            have c9b1 : (t143 != 0) = false := bne_eq_false_iff_eq.mpr c9
            clear c9
            (first | rw [c9b0] | (simp only [i64_w, i32_w]; rw [c9b0]) | skip)
            have H' := Aside0.mk H
            clear H
            obtain ⟨Ao10, co10, eo10⟩ := Kd.R_slice HO145.out
            subst eo10
            go_wp2
            go_meet
            case rel => exact ⟨_, (((t142.length : Int) != a1)), (by first | rfl | (simp; done) | (simp [*]; done)), H', ⟨by have := HJ2.out; first | omega | exact Nat.le_refl _⟩, ⟨by (with_reducible repeat (first | apply Kd.R_alloc | apply Kd.R_drewN | apply Kd.R_drew)); exact HO145.out⟩, ⟨by repeat (first | (with_reducible first | exact HB.out | apply below_alloc | apply pw_below_drewN | apply below_drew1) | exact HB.out)⟩⟩
          · rw [if_neg c9] at H
            have c9b0 : (t143 == 0) = false := beq_eq_false_iff_ne.mpr c9
            have c9b1 : (t143 != 0) = true := bne_iff_ne.mpr c9
            (first | rw [c9b0] | (simp only [i64_w, i32_w]; rw [c9b0]) | skip)
            have H' := Aside0.mk H
            clear H
            go_wp2
            go_meet
            case rel => exact ⟨_, (true), (by first | rfl | (simp; done) | (simp [*]; done)), H', ⟨by have := HJ2.out; first | omega | exact Nat.le_refl _⟩, ⟨by (with_reducible repeat (first | apply Kd.R_alloc | apply Kd.R_drewN | apply Kd.R_drew)); exact HO145.out⟩, ⟨by repeat (first | (with_reducible first | exact HB.out | apply below_alloc | apply pw_below_drewN | apply below_drew1) | exact HB.out)⟩⟩
        case rest =>
          clear HC7
          try clear c2
          try clear p2
          try clear c3
          try clear c4
          try clear c4b0
          try clear c5
          try clear c9
          try clear c9b0
          try clear c9b1
          try clear p2
          obtain ⟨kq, x31_6, rfl, HA, HJ6, HO_6, HB⟩ := hcut
          cases kq with
          | zero => exact absurd HA.out (by simp [hygref18_GetDod.j1])
          | succ kj6 =>
            have H := HA.out
            clear HA
            simp only [hygref18_GetDod.j1] at H
            by_cases c11 : x31_6 = true
            · subst c11
              have H1 : (some (([] : List Int), false)) = some (r1, r2) := by rw [if_pos rfl] at H; exact H
              clear H
              have H := H1
              clear H1
              simp only [Option.some.injEq, Prod.mk.injEq] at H
              obtain ⟨rfl, rfl⟩ := H
              go_wp2
              go_ret2
              exact ⟨_, by first | rfl | (simp [errW_none, errW_some] <;> rfl) | (simp [*, errW_none, errW_some] <;> rfl), by first | exact Kd.R_nil _ _ _ _ _ | exact Kd.N_nil _ _ _ _ _ | exact Kd.V_nil _ _ _ _ _ | exact Kd.Q_nil _ _ _ _ _ | exact Kd.S_nil _ _ _ _ _, by repeat (first | (with_reducible first | exact HB.out | apply below_alloc | apply pw_below_drewN | apply below_drew1) | exact HB.out)⟩
            · replace c11 := Bool.eq_false_iff.mpr c11
              subst c11
              have H1 : (hygref18_GetDod.l0 kj6 a0 a1 t142 ([] : List Int) 0 0) = some (r1, r2) := by rw [if_neg (show ¬ (false = true) by decide)] at H; exact H
              clear H
              have H := H1
              clear H1
              have H' := Aside0.mk H
              clear H
              go_wp2
              go_loopg [8, 9, 10] kj6 (fun kq v8 v9 v10 w' => ∃ (x8_3 : List Int) (x9_3 : Int) (x10_3 : Int), v9 = .int .u64 x9_3 ∧ v10 = .int .i64 x10_3 ∧ Aside0 (hygref18_GetDod.l0 kq a0 a1 t142 x8_3 x9_3 x10_3 = some (r1, r2)) ∧ Aside0 (kq ≤ kj6) ∧ Aside0 (Kd.R (Kd.int .u64) 22 w' w.heap.size (fun k_ => some k_ ≠ (v8 : Value).ownBlock) v144 t142) ∧ Aside0 (Kd.R (Kd.int .u64) 22 w' w.heap.size (fun k_ => some k_ ≠ (v144 : Value).ownBlock) v8 x8_3) ∧ Aside0 (Below w.heap.size w w'))
              case atStart => exact ⟨(([] : List Int)), (0), (0), (by first | rfl | (simp; done) | (simp [*]; done)), (by first | rfl | (simp; done) | (simp [*]; done)), H', ⟨Nat.le_refl _⟩, ⟨by (with_reducible repeat (first | apply Kd.R_alloc | apply Kd.R_drewN | apply Kd.R_drew)); exact Kd.R_mono HO_6.out (fun _ hk => (by simp [Value.ownBlock]))⟩, ⟨by first | exact Kd.R_nil _ _ _ _ _ | exact Kd.N_nil _ _ _ _ _ | exact Kd.V_nil _ _ _ _ _ | exact Kd.Q_nil _ _ _ _ _ | exact Kd.S_nil _ _ _ _ _⟩, ⟨by repeat (first | (with_reducible first | exact HB.out | apply below_alloc | apply pw_below_drewN | apply below_drew1) | exact HB.out)⟩⟩
              case round =>
                clear H'
                try clear c1
                try clear c2
                try clear p2
                try clear c3
                try clear c4
                try clear c4b0
                try clear c5
                try clear c9
                try clear c9b0
                try clear c9b1
                try clear c11
                try clear p2
                obtain ⟨x8_3, x9_3, x10_3, rfl, rfl, HA, HK3, HO_6, HO_8, HB⟩ := hrel
                cases gk with
                | zero => exact absurd HA.out (by simp [hygref18_GetDod.l0])
                | succ k3 =>
                  have H := HA.out
                  clear HA
                  simp only [hygref18_GetDod.l0] at H
                  by_cases c12 : x10_3 < a1
                  · rw [if_pos c12] at H
                    have c12b0 : decide (x10_3 < a1) = true := decide_eq_true c12
                    clear c12
                    by_cases c13 : x10_3 = 0
                    · rw [if_pos c13] at H
                      have c13b0 : (x10_3 == 0) = true := beq_iff_eq.mpr c13
                      have c13b1 : (x10_3 != 0) = false := bne_eq_false_iff_eq.mpr c13
                      clear c13
                      by_cases c14 : 0 < (t142.length : Int)
                      · rw [if_pos c14] at H
                        have c14b0 : decide (0 < (t142.length : Int)) = true := decide_eq_true c14
                        have c14b1 : decide (0 < t142.length) = true := decide_eq_true (by omega)
                        clear c14
                        by_cases c15 : x8_3.length < 17592186044416
                        · rw [if_pos c15] at H
                          have LMc15 := Aside0.mk c15
                          clear c15
                          obtain ⟨y149, hy149⟩ : ∃ y_ : List Int, y_ = (x8_3 ++ [rd t142 0]) := ⟨_, rfl⟩
                          replace H : (hygref18_GetDod.l0 k3 a0 a1 t142 y149 x9_3 (wrap64 (x10_3 + 1))) = some (r1, r2) := by first | (rw [hy149]; with_reducible exact H) | (have H2_ := (Option.bind_some _ _).symm.trans H; rw [hy149]; with_reducible exact H2_) | (have H2_ := (Option.bind_some _ _).symm.trans H; with_reducible exact H2_) | with_reducible exact H | (rw [hy149]; exact H) | exact H
                          have Ny149 := Aside0.mk hy149
                          clear hy149
                          have H' := Aside0.mk H
                          clear H
                          obtain ⟨Ao16, co16, eo16⟩ := Kd.R_slice HO_6.out
                          subst eo16
                          have p148 : 0 ≤ (0 : Int) := (by omega)
                          have q148 : 0 < (t142.length : Int) := of_decide_eq_true (by first | (with_reducible assumption) | assumption)
                          obtain ⟨ad148, e148, hx148_0⟩ := Kd.at_int (Kd.R_reads' HO_6.out).2.2 0 p148 q148
                          cases e148
                          have qi148 : (0 < t142.length) = True := eq_true (by omega)
                          (try rw [show ((0 : Int)).toNat = 0 from rfl] at hx148_0)
                          (try rw [Addr.add_zero'] at hx148_0)
                          replace p148 := eq_true p148
                          replace q148 := eq_true q148
                          go_wp2_with (first | ((with_reducible refine gate_builtin (b := .append) (xs := #[.tmp 58, .tmp 62]) rfl ?_); (try (refine gate_guard (by rfl) ?_; dsimp only)); at_builtin; refine Kd.R_append (Kd.int .u64) (w0 := w) w.heap.size rfl (.tmp 58) (.tmp 62) 38 22 (.int .u64 0) 8 rfl Tryd.underlying38 info22 rfl (by decide) (by omega) u8 x8_3 (rd t142 0) [.int .u64 (rd t142 0)] (fun k_ => some k_ ≠ (.slice (some ad148) t142.length co16 : Value).ownBlock) (fun _ => False) rfl rfl ?aP (fun _ hk => hk.elim) ?aF ?aO ?aB ?aS ?aL ?_; (case aP => exact rfl); (case aB => exact (by repeat (first | (with_reducible first | exact HB.out | apply below_alloc | apply pw_below_drewN | apply below_drew1) | exact HB.out))); (case aF => exact (fun k_ hk => Kd.fresh' (Kd.R_lt (by (with_reducible repeat (first | apply Kd.R_alloc | apply Kd.R_drewN | apply Kd.R_drew)); exact HO_6.out)) k_ hk)); (case aO => exact (by (with_reducible repeat (first | apply Kd.R_alloc | apply Kd.R_drewN | apply Kd.R_drew)); exact HO_8.out)); (case aS => exact (below_size (by repeat (first | (with_reducible first | exact HB.out | apply below_alloc | apply pw_below_drewN | apply below_drew1) | exact HB.out)))); (case aL => have := LMc15.out; omega); intro v150 w17 ho hb hg hat; rw [← Ny149.out] at ho; have n0_ := Aside0.mk (Kd.R_after (ok := (fun _ => True)) (by (with_reducible repeat (first | apply Kd.R_alloc | apply Kd.R_drewN | apply Kd.R_drew)); exact Kd.R_mono HO_6.out (fun _ hk => ⟨trivial, hk⟩)) hg hat); have n1_ := Aside0.mk (hb); have n2_ := Aside0.mk (ho); clear HO_6; clear HB; clear HO_8; have HO_6 := n0_; have HB := n1_; have HO151 := n2_; clear n0_ n1_ n2_; clear ho hb hg hat))
                          go_roundg k3
                          case measure => have := HJ2.out; have := HJ6.out; have := HK3.out; omega
                          case rel => exact ⟨(y149), (x9_3), (wrap64 (x10_3 + 1)), (by first | rfl | (simp; done) | (simp [*]; done)), (by first | rfl | (simp; done) | (simp [*]; done)), H', ⟨by have := HJ2.out; have := HJ6.out; have := HK3.out; omega⟩, ⟨by (with_reducible repeat (first | apply Kd.R_alloc | apply Kd.R_drewN | apply Kd.R_drew)); exact Kd.R_mono HO_6.out (fun _ hk => hk.2)⟩, ⟨by (with_reducible repeat (first | apply Kd.R_alloc | apply Kd.R_drewN | apply Kd.R_drew)); exact HO151.out⟩, ⟨by repeat (first | (with_reducible first | exact HB.out | apply below_alloc | apply pw_below_drewN | apply below_drew1) | exact HB.out)⟩⟩
                        · rw [if_neg c15] at H
                          exact absurd H (by simp)
                      · rw [if_neg c14] at H
                        exact absurd H (by simp)
                    · rw [if_neg c13] at H
                      have c13b0 : (x10_3 == 0) = false := beq_eq_false_iff_ne.mpr c13
                      have c13b1 : (x10_3 != 0) = true := bne_iff_ne.mpr c13
                      by_cases c18 : x10_3 = 1
                      · rw [if_pos c18] at H
                        have c18b0 : (x10_3 == 1) = true := beq_iff_eq.mpr c18
                        have c18b1 : (x10_3 != 1) = false := bne_eq_false_iff_eq.mpr c18
                        clear c18
                        by_cases c19 : 1 < (t142.length : Int)
                        · rw [if_pos c19] at H
                          have c19b0 : decide (1 < (t142.length : Int)) = true := decide_eq_true c19
                          have c19b1 : decide (1 < t142.length) = true := decide_eq_true (by omega)
                          clear c19
                          replace H := Option.bind_eq_some_iff.mp H
                          obtain ⟨t153, A200, H⟩ := H
                          replace H : (if 0 < (x8_3.length : Int) then (if x8_3.length < 17592186044416 then (hygref18_GetDod.l0 k3 a0 a1 t142 (x8_3 ++ [IntKind.u64.wrap ((rd x8_3 0) + (IntKind.u64.wrap (t153)))]) (IntKind.u64.wrap (t153)) (wrap64 (x10_3 + 1))) else (none)) else (none)) = some (r1, r2) := H
                          have A20 := Aside0.mk A200
                          clear A200
                          by_cases c21 : 0 < (x8_3.length : Int)
                          · rw [if_pos c21] at H
                            have c21b0 : decide (0 < (x8_3.length : Int)) = true := decide_eq_true c21
                            have c21b1 : decide (0 < x8_3.length) = true := decide_eq_true (by omega)
                            clear c21
                            by_cases c22 : x8_3.length < 17592186044416
                            · rw [if_pos c22] at H
                              have LMc22 := Aside0.mk c22
                              clear c22
                              obtain ⟨y155, hy155⟩ : ∃ y_ : List Int, y_ = (x8_3 ++ [IntKind.u64.wrap ((rd x8_3 0) + (IntKind.u64.wrap (t153)))]) := ⟨_, rfl⟩
                              replace H : (hygref18_GetDod.l0 k3 a0 a1 t142 y155 (IntKind.u64.wrap (t153)) (wrap64 (x10_3 + 1))) = some (r1, r2) := by first | (rw [hy155]; with_reducible exact H) | (have H2_ := (Option.bind_some _ _).symm.trans H; rw [hy155]; with_reducible exact H2_) | (have H2_ := (Option.bind_some _ _).symm.trans H; with_reducible exact H2_) | with_reducible exact H | (rw [hy155]; exact H) | exact H
                              have Ny155 := Aside0.mk hy155
                              clear hy155
                              have H' := Aside0.mk H
                              clear H
                              obtain ⟨Ao23, co23, eo23⟩ := Kd.R_slice HO_6.out
                              subst eo23
                              have p152 : 0 ≤ (1 : Int) := (by omega)
                              have q152 : 1 < (t142.length : Int) := of_decide_eq_true (by first | (with_reducible assumption) | assumption)
                              obtain ⟨ad152, e152, hx152_0⟩ := Kd.at_int (Kd.R_reads' HO_6.out).2.2 1 p152 q152
                              cases e152
                              (try simp only [show (1 : Int).toNat = 1 from rfl, Nat.reduceMul, Nat.reduceEqDiff, Go.Addr.add, ↓reduceIte] at hx152_0)
                              have qi152 : (1 < t142.length) = True := eq_true (by omega)
                              (try rw [show ((1 : Int)).toNat = 1 from rfl] at hx152_0)
                              replace p152 := eq_true p152
                              replace q152 := eq_true q152
                              go_wp2_with (first | ((with_reducible refine gate_callee (f := 33) rfl ?_); refine goesL_ (some 69) rfl rfl Tryd.func33 (by kernel_rfl) rfl #[.int .u64 (rd t142 1)] rfl (by (try simp only [List.map_toArray, List.map_cons, List.map_nil]); first | done | rfl | (simp only [List.length_drop, List.length_take]; rfl)) ?_; (with_reducible refine (hygref2_Zag.calls (rd t142 1) t153 _ A20.out).mono ?_); rintro e w' ⟨rfl, ⟨nd, rfl⟩⟩; refine ⟨_, rfl, ?_⟩; obtain ⟨Ao24, co24, eo24⟩ := Kd.R_slice HO_8.out; subst eo24; have p154 : 0 ≤ (0 : Int) := (by omega); have q154 : 0 < (x8_3.length : Int) := of_decide_eq_true (by first | (with_reducible assumption) | assumption); obtain ⟨ad154, e154, hx154_0⟩ := Kd.at_int (Kd.R_reads' HO_8.out).2.2 0 p154 q154; cases e154; have qi154 : (0 < x8_3.length) = True := eq_true (by omega); (try rw [show ((0 : Int)).toNat = 0 from rfl] at hx154_0); (try rw [Addr.add_zero'] at hx154_0); replace p154 := eq_true p154; replace q154 := eq_true q154) | ((with_reducible refine gate_builtin (b := .append) (xs := #[.tmp 71, .tmp 77]) rfl ?_); (try (refine gate_guard (by rfl) ?_; dsimp only)); at_builtin; refine Kd.R_append (Kd.int .u64) (w0 := w) w.heap.size rfl (.tmp 71) (.tmp 77) 38 22 (.int .u64 0) 8 rfl Tryd.underlying38 info22 rfl (by decide) (by omega) (.slice (some ad154) x8_3.length co24) x8_3 (IntKind.u64.wrap ((rd x8_3 0) + (IntKind.u64.wrap (t153)))) [.int .u64 (IntKind.u64.wrap ((rd x8_3 0) + (IntKind.u64.wrap (t153))))] (fun k_ => some k_ ≠ (.slice (some ad152) t142.length co23 : Value).ownBlock) (fun _ => False) rfl rfl ?aP (fun _ hk => hk.elim) ?aF ?aO ?aB ?aS ?aL ?_; (case aP => exact rfl); (case aB => exact (by repeat (first | (with_reducible first | exact HB.out | apply below_alloc | apply pw_below_drewN | apply below_drew1) | exact HB.out))); (case aF => exact (fun k_ hk => Kd.fresh' (Kd.R_lt (by (with_reducible repeat (first | apply Kd.R_alloc | apply Kd.R_drewN | apply Kd.R_drew)); exact HO_6.out)) k_ hk)); (case aO => exact (by (with_reducible repeat (first | apply Kd.R_alloc | apply Kd.R_drewN | apply Kd.R_drew)); exact HO_8.out)); (case aS => exact (below_size (by repeat (first | (with_reducible first | exact HB.out | apply below_alloc | apply pw_below_drewN | apply below_drew1) | exact HB.out)))); (case aL => have := LMc22.out; omega); intro v156 w25 ho hb hg hat; rw [← Ny155.out] at ho; have n0_ := Aside0.mk (Kd.R_after (ok := (fun _ => True)) (by (with_reducible repeat (first | apply Kd.R_alloc | apply Kd.R_drewN | apply Kd.R_drew)); exact Kd.R_mono HO_6.out (fun _ hk => ⟨trivial, hk⟩)) hg hat); have n1_ := Aside0.mk (hb); have n2_ := Aside0.mk (ho); clear HO_6; clear HB; clear HO_8; have HO_6 := n0_; have HB := n1_; have HO157 := n2_; clear n0_ n1_ n2_; clear ho hb hg hat))
                              go_roundg k3
                              case measure => have := HJ2.out; have := HJ6.out; have := HK3.out; omega
                              case rel => exact ⟨(y155), (IntKind.u64.wrap (t153)), (wrap64 (x10_3 + 1)), (by first | rfl | (simp; done) | (simp [*]; done)), (by first | rfl | (simp; done) | (simp [*]; done)), H', ⟨by have := HJ2.out; have := HJ6.out; have := HK3.out; omega⟩, ⟨by (with_reducible repeat (first | apply Kd.R_alloc | apply Kd.R_drewN | apply Kd.R_drew)); exact Kd.R_mono HO_6.out (fun _ hk => hk.2)⟩, ⟨by (with_reducible repeat (first | apply Kd.R_alloc | apply Kd.R_drewN | apply Kd.R_drew)); exact HO157.out⟩, ⟨by repeat (first | (with_reducible first | exact HB.out | apply below_alloc | apply pw_below_drewN | apply below_drew1) | exact HB.out)⟩⟩
                            · rw [if_neg c22] at H
                              exact absurd H (by simp)
                          · rw [if_neg c21] at H
                            exact absurd H (by simp)
                        · rw [if_neg c19] at H
                          exact absurd H (by simp)
                      · rw [if_neg c18] at H
                        have c18b0 : (x10_3 == 1) = false := beq_eq_false_iff_ne.mpr c18
                        have c18b1 : (x10_3 != 1) = true := bne_iff_ne.mpr c18
                        by_cases c26 : 0 ≤ x10_3
                        · rw [if_pos c26] at H
                          have c26b0 : decide (0 ≤ x10_3) = true := decide_eq_true c26
                          clear c26
                          by_cases c27 : x10_3 < (t142.length : Int)
                          · rw [if_pos c27] at H
                            have c27b0 : decide (x10_3 < (t142.length : Int)) = true := decide_eq_true c27
                            clear c27
                            replace H := Option.bind_eq_some_iff.mp H
                            obtain ⟨t159, A280, H⟩ := H
                            replace H : (if 0 ≤ (wrap64 (x10_3 - 1)) then (if (wrap64 (x10_3 - 1)) < (x8_3.length : Int) then (if x8_3.length < 17592186044416 then (hygref18_GetDod.l0 k3 a0 a1 t142 (x8_3 ++ [IntKind.u64.wrap ((rd x8_3 (wrap64 (x10_3 - 1))) + (IntKind.u64.wrap (x9_3 + (IntKind.u64.wrap (t159)))))]) (IntKind.u64.wrap (x9_3 + (IntKind.u64.wrap (t159)))) (wrap64 (x10_3 + 1))) else (none)) else (none)) else (none)) = some (r1, r2) := H
                            have A28 := Aside0.mk A280
                            clear A280
                            obtain ⟨ji29, hji29⟩ : ∃ j_ : Int, (wrap64 (x10_3 - 1)) = j_ := ⟨_, rfl⟩
                            replace H : (if 0 ≤ (ji29) then (if (ji29) < (x8_3.length : Int) then (if x8_3.length < 17592186044416 then (hygref18_GetDod.l0 k3 a0 a1 t142 (x8_3 ++ [IntKind.u64.wrap ((rd x8_3 (ji29)) + (IntKind.u64.wrap (x9_3 + (IntKind.u64.wrap (t159)))))]) (IntKind.u64.wrap (x9_3 + (IntKind.u64.wrap (t159)))) (wrap64 (x10_3 + 1))) else (none)) else (none)) else (none)) = some (r1, r2) := by first | (rw [hji29] at H; exact H) | (simp only [hji29] at H ⊢; exact H)
                            (try rw [hji29] at A28)
                            have hji29w : (IntKind.i64.wrap (x10_3 - 1)) = ji29 := (i64_w _).trans hji29
                            by_cases c30 : 0 ≤ (ji29)
                            · rw [if_pos c30] at H
                              have c30b0 : decide (0 ≤ (ji29)) = true := decide_eq_true c30
                              clear c30
                              by_cases c31 : (ji29) < (x8_3.length : Int)
                              · rw [if_pos c31] at H
                                have c31b0 : decide ((ji29) < (x8_3.length : Int)) = true := decide_eq_true c31
                                clear c31
                                by_cases c32 : x8_3.length < 17592186044416
                                · rw [if_pos c32] at H
                                  have LMc32 := Aside0.mk c32
                                  clear c32
                                  obtain ⟨y161, hy161⟩ : ∃ y_ : List Int, y_ = (x8_3 ++ [IntKind.u64.wrap ((rd x8_3 (ji29)) + (IntKind.u64.wrap (x9_3 + (IntKind.u64.wrap (t159)))))]) := ⟨_, rfl⟩
                                  replace H : (hygref18_GetDod.l0 k3 a0 a1 t142 y161 (IntKind.u64.wrap (x9_3 + (IntKind.u64.wrap (t159)))) (wrap64 (x10_3 + 1))) = some (r1, r2) := by first | (rw [hy161]; with_reducible exact H) | (have H2_ := (Option.bind_some _ _).symm.trans H; rw [hy161]; with_reducible exact H2_) | (have H2_ := (Option.bind_some _ _).symm.trans H; with_reducible exact H2_) | with_reducible exact H | (rw [hy161]; exact H) | exact H
                                  have Ny161 := Aside0.mk hy161
                                  clear hy161
                                  have H' := Aside0.mk H
                                  clear H
                                  obtain ⟨Ao33, co33, eo33⟩ := Kd.R_slice HO_6.out
                                  subst eo33
                                  have p158 : 0 ≤ (x10_3 : Int) := of_decide_eq_true (by first | (with_reducible assumption) | assumption)
                                  have q158 : x10_3 < (t142.length : Int) := of_decide_eq_true (by first | (with_reducible assumption) | assumption)
                                  obtain ⟨ad158, e158, hx158_0⟩ := Kd.at_int (Kd.R_reads' HO_6.out).2.2 x10_3 p158 q158
                                  cases e158
                                  replace p158 := eq_true p158
                                  replace q158 := eq_true q158
                                  go_wp2_with (first | ((with_reducible refine gate_callee (f := 33) rfl ?_); refine goesL_ (some 43) rfl rfl Tryd.func33 (by kernel_rfl) rfl #[.int .u64 (rd t142 x10_3)] rfl (by (try simp only [List.map_toArray, List.map_cons, List.map_nil]); first | done | rfl | (simp only [List.length_drop, List.length_take]; rfl)) ?_; (with_reducible refine (hygref2_Zag.calls (rd t142 x10_3) t159 _ A28.out).mono ?_); rintro e w' ⟨rfl, ⟨nd, rfl⟩⟩; refine ⟨_, rfl, ?_⟩; obtain ⟨Ao34, co34, eo34⟩ := Kd.R_slice HO_8.out; subst eo34; have p160 : 0 ≤ ((ji29) : Int) := of_decide_eq_true (by first | (with_reducible assumption) | assumption); have q160 : (ji29) < (x8_3.length : Int) := of_decide_eq_true (by first | (with_reducible assumption) | assumption); obtain ⟨ad160, e160, hx160_0⟩ := Kd.at_int (Kd.R_reads' HO_8.out).2.2 (ji29) p160 q160; cases e160; replace p160 := eq_true p160; replace q160 := eq_true q160) | ((with_reducible refine gate_builtin (b := .append) (xs := #[.tmp 46, .tmp 54]) rfl ?_); (try (refine gate_guard (by rfl) ?_; dsimp only)); at_builtin; refine Kd.R_append (Kd.int .u64) (w0 := w) w.heap.size rfl (.tmp 46) (.tmp 54) 38 22 (.int .u64 0) 8 rfl Tryd.underlying38 info22 rfl (by decide) (by omega) (.slice (some ad160) x8_3.length co34) x8_3 (IntKind.u64.wrap ((rd x8_3 (ji29)) + (IntKind.u64.wrap (x9_3 + (IntKind.u64.wrap (t159)))))) [.int .u64 (IntKind.u64.wrap ((rd x8_3 (ji29)) + (IntKind.u64.wrap (x9_3 + (IntKind.u64.wrap (t159))))))] (fun k_ => some k_ ≠ (.slice (some ad158) t142.length co33 : Value).ownBlock) (fun _ => False) rfl rfl ?aP (fun _ hk => hk.elim) ?aF ?aO ?aB ?aS ?aL ?_; (case aP => exact rfl); (case aB => exact (by repeat (first | (with_reducible first | exact HB.out | apply below_alloc | apply pw_below_drewN | apply below_drew1) | exact HB.out))); (case aF => exact (fun k_ hk => Kd.fresh' (Kd.R_lt (by (with_reducible repeat (first | apply Kd.R_alloc | apply Kd.R_drewN | apply Kd.R_drew)); exact HO_6.out)) k_ hk)); (case aO => exact (by (with_reducible repeat (first | apply Kd.R_alloc | apply Kd.R_drewN | apply Kd.R_drew)); exact HO_8.out)); (case aS => exact (below_size (by repeat (first | (with_reducible first | exact HB.out | apply below_alloc | apply pw_below_drewN | apply below_drew1) | exact HB.out)))); (case aL => have := LMc32.out; omega); intro v162 w35 ho hb hg hat; rw [← Ny161.out] at ho; have n0_ := Aside0.mk (Kd.R_after (ok := (fun _ => True)) (by (with_reducible repeat (first | apply Kd.R_alloc | apply Kd.R_drewN | apply Kd.R_drew)); exact Kd.R_mono HO_6.out (fun _ hk => ⟨trivial, hk⟩)) hg hat); have n1_ := Aside0.mk (hb); have n2_ := Aside0.mk (ho); clear HO_6; clear HB; clear HO_8; have HO_6 := n0_; have HB := n1_; have HO163 := n2_; clear n0_ n1_ n2_; clear ho hb hg hat))
                                  go_roundg k3
                                  case measure => have := HJ2.out; have := HJ6.out; have := HK3.out; omega
                                  case rel => exact ⟨(y161), (IntKind.u64.wrap (x9_3 + (IntKind.u64.wrap (t159)))), (wrap64 (x10_3 + 1)), (by first | rfl | (simp; done) | (simp [*]; done)), (by first | rfl | (simp; done) | (simp [*]; done)), H', ⟨by have := HJ2.out; have := HJ6.out; have := HK3.out; omega⟩, ⟨by (with_reducible repeat (first | apply Kd.R_alloc | apply Kd.R_drewN | apply Kd.R_drew)); exact Kd.R_mono HO_6.out (fun _ hk => hk.2)⟩, ⟨by (with_reducible repeat (first | apply Kd.R_alloc | apply Kd.R_drewN | apply Kd.R_drew)); exact HO163.out⟩, ⟨by repeat (first | (with_reducible first | exact HB.out | apply below_alloc | apply pw_below_drewN | apply below_drew1) | exact HB.out)⟩⟩
                                · rw [if_neg c32] at H
                                  exact absurd H (by simp)
                              · rw [if_neg c31] at H
                                exact absurd H (by simp)
                            · rw [if_neg c30] at H
                              exact absurd H (by simp)
                          · rw [if_neg c27] at H
                            exact absurd H (by simp)
                        · rw [if_neg c26] at H
                          exact absurd H (by simp)
                  · rw [if_neg c12] at H
                    have c12b0 : decide (x10_3 < a1) = false := decide_eq_false c12
                    clear c12
                    replace H := Option.bind_eq_some_iff.mp H
                    obtain ⟨⟨t146, t147⟩, A360, H⟩ := H
                    replace H : (if t146.toList = a0.toList then (some (x8_3, true)) else (some (([] : List Int), false))) = some (r1, r2) := H
                    have A36 := Aside0.mk A360
                    clear A360
                    by_cases c37 : t146.toList = a0.toList
                    · rw [if_pos c37] at H
                      have c37b0 : (t146.toList == a0.toList) = true := beq_iff_eq.mpr c37
                      have c37b1 : (t146.toList != a0.toList) = false := bne_eq_false_iff_eq.mpr c37
                      clear c37
                      simp only [Option.some.injEq, Prod.mk.injEq] at H
                      obtain ⟨rfl, rfl⟩ := H
                      obtain ⟨Ao38, co38, eo38⟩ := Kd.R_slice HO_8.out
                      subst eo38
                      go_wp2_with (first | ((with_reducible refine gate_callee (f := 17) rfl ?_); refine goesL_ (some 81) rfl rfl Tryd.func17 (by kernel_rfl) rfl #[.slice Ao38 x8_3.length co38] rfl (by (try simp only [List.map_toArray, List.map_cons, List.map_nil]); first | done | rfl | (simp only [List.length_drop, List.length_take]; rfl)) ?_; (with_reducible refine (hygref18_PutDod.calls k3 _ _ x8_3 t146 t147 _ ?side1 ?side2 A36.out).mono ?_); (case side1 => repeat (first | exact (Kd.R_reads' HO_8.out).2.2 | (with_reducible refine Kd.C_alloc ?_ _) | (with_reducible refine Kd.C_drewN ?_ _) | (with_reducible refine Kd.C_drew ?_))); (case side2 => exact (Kd.R_reads' HO_8.out).2.1); rintro e w39 ⟨rfl, hb⟩; refine ⟨_, rfl, ?_⟩; have n0_ := Aside0.mk (Kd.R_below (by (with_reducible repeat (first | apply Kd.R_alloc | apply Kd.R_drewN | apply Kd.R_drew)); exact HO_6.out) hb); have n1_ := Aside0.mk (Kd.R_below (by (with_reducible repeat (first | apply Kd.R_alloc | apply Kd.R_drewN | apply Kd.R_drew)); exact HO_8.out) hb); have n2_ := Aside0.mk (below_step (by repeat (first | (with_reducible first | exact HB.out | apply below_alloc | apply pw_below_drewN | apply below_drew1) | exact HB.out)) hb); clear HO_6; clear HO_8; clear HB; have HO_6 := n0_; have HO_8 := n1_; have HB := n2_; clear n0_ n1_ n2_; (try clear hb); (try clear hb2); (try clear hk); (try clear hi)))
                      go_ret2
                      exact ⟨_, by first | rfl | (simp [errW_none, errW_some] <;> rfl) | (simp [*, errW_none, errW_some] <;> rfl), by (with_reducible repeat (first | apply Kd.R_alloc | apply Kd.R_drewN | apply Kd.R_drew)); exact Kd.R_mono HO_8.out (fun _ hk => trivial), by repeat (first | (with_reducible first | exact HB.out | apply below_alloc | apply pw_below_drewN | apply below_drew1) | exact HB.out)⟩
                    · rw [if_neg c37] at H
                      have c37b0 : (t146.toList == a0.toList) = false := beq_eq_false_iff_ne.mpr c37
                      have c37b1 : (t146.toList != a0.toList) = true := bne_iff_ne.mpr c37
                      simp only [Option.some.injEq, Prod.mk.injEq] at H
                      obtain ⟨rfl, rfl⟩ := H
                      obtain ⟨Ao40, co40, eo40⟩ := Kd.R_slice HO_8.out
                      subst eo40
                      go_wp2_with (first | ((with_reducible refine gate_callee (f := 17) rfl ?_); refine goesL_ (some 81) rfl rfl Tryd.func17 (by kernel_rfl) rfl #[.slice Ao40 x8_3.length co40] rfl (by (try simp only [List.map_toArray, List.map_cons, List.map_nil]); first | done | rfl | (simp only [List.length_drop, List.length_take]; rfl)) ?_; (with_reducible refine (hygref18_PutDod.calls k3 _ _ x8_3 t146 t147 _ ?side1 ?side2 A36.out).mono ?_); (case side1 => repeat (first | exact (Kd.R_reads' HO_8.out).2.2 | (with_reducible refine Kd.C_alloc ?_ _) | (with_reducible refine Kd.C_drewN ?_ _) | (with_reducible refine Kd.C_drew ?_))); (case side2 => exact (Kd.R_reads' HO_8.out).2.1); rintro e w41 ⟨rfl, hb⟩; refine ⟨_, rfl, ?_⟩; have n0_ := Aside0.mk (Kd.R_below (by (with_reducible repeat (first | apply Kd.R_alloc | apply Kd.R_drewN | apply Kd.R_drew)); exact HO_6.out) hb); have n1_ := Aside0.mk (Kd.R_below (by (with_reducible repeat (first | apply Kd.R_alloc | apply Kd.R_drewN | apply Kd.R_drew)); exact HO_8.out) hb); have n2_ := Aside0.mk (below_step (by repeat (first | (with_reducible first | exact HB.out | apply below_alloc | apply pw_below_drewN | apply below_drew1) | exact HB.out)) hb); clear HO_6; clear HO_8; clear HB; have HO_6 := n0_; have HO_8 := n1_; have HB := n2_; clear n0_ n1_ n2_; (try clear hb); (try clear hb2); (try clear hk); (try clear hi)))
                      go_ret2
                      exact ⟨_, by first | rfl | (simp [errW_none, errW_some] <;> rfl) | (simp [*, errW_none, errW_some] <;> rfl), by first | exact Kd.R_nil _ _ _ _ _ | exact Kd.N_nil _ _ _ _ _ | exact Kd.V_nil _ _ _ _ _ | exact Kd.Q_nil _ _ _ _ _ | exact Kd.S_nil _ _ _ _ _, by repeat (first | (with_reducible first | exact HB.out | apply below_alloc | apply pw_below_drewN | apply below_drew1) | exact HB.out)⟩

-- NOT PRINTED: function 6 (hyglaw20_DodGets)

end Go.Proofs.YtfkpebdjobhfgaaDoor.PDodGets
