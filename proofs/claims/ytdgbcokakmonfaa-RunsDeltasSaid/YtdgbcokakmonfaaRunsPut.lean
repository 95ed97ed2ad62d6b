import Derived.Test.YtdgbcokakmonfaaRuns
import Derived.Deep.QuietTactic
import Derived.BigQuiet
namespace Go.Proofs.Ytdgbcokakmonfaa
open Go.RowKit Go.Proofs.YtdgbcokakmonfaaW.PrintWords Go.Proofs.YtdgbcokakmonfaaW.PrintLast Go.Proofs.YtdgbcokakmonfaaW.PrintMore Hy

theorem runsPut_range (A : Option Addr) (c n : Nat) (w : World) (hn : 20000 < n) (hc : n ≤ c) :
    Calls Try.prog 7 #[.slice A n c] w fun e w' => e = .returned (.tuple #[.string ⟨#[]⟩, .iface 37 (.int .i64 9)]) ∧ w = w' := by
  go_enter Try.func7, Try.ntmps7
  go_wp2
  go_ret2
  exact ⟨rfl, rfl⟩
set_option maxHeartbeats 2000000 in
set_option maxRecDepth 100000 in
theorem runsPut_ok (A : Option Addr) (c : Nat) (L : List Int) (w : World) (hr : Kd.C (Kd.int .u64) w A L.length L) (hc : L.length ≤ c) (hl : L.length ≤ 20000) (hx : u64s L) :
    Calls Try.prog 7 #[.slice A L.length c] w fun e w' => e = .returned (.tuple #[.string (st (putsL (grp L))), .nilIface]) ∧ Below w.heap.size w w' := by
  have HB := Aside0.mk (Below.refl w.heap.size w)
  have HR := Aside0.mk hr
  have HX := Aside0.mk hx
  have HC := Aside0.mk hc
  clear hr hx hc
  go_enter Try.func7, Try.ntmps7
  go_wp2_with fail
  go_loopw [0] (fun v0 w' => ∃ (l l2 : List Int) (A : Option Addr) (c : Nat), Aside0 (L = l ++ l2) ∧ Aside0 (∀ x, l.getLast? = some x → l2.head? ≠ some x) ∧ v0 = .slice A l2.length c ∧ l2.length ≤ c ∧ Aside0 (Kd.C (Kd.int .u64) w A l2.length l2) ∧ Aside0 (Lib.IsBuilder 40 5 w.heap.size w.heap.size (Lib.strCells (st (putsL (grp l)))) w') ∧ Aside0 (Below w.heap.size w w')) (fun v0 _ => (match v0 with | .slice _ n _ => n | _ => 0))
  case atStart => exact ⟨[], L, A, c, ⟨rfl⟩, ⟨fun x hx => by simp at hx⟩, rfl, HC.out, HR, ⟨bld_new _ _ w⟩, ⟨(by repeat (first | (with_reducible exact HB.out) | apply below_alloc | apply pw_below_drewN | apply below_drew1))⟩⟩
  case round =>
    clear HB HR HC
    obtain ⟨l, l2, A, c, hL, hbd, rfl, hc, HR, HD, HB⟩ := hrel
    by_cases h2 : l2 = []
    · subst h2
      rw [List.append_nil] at hL
      obtain rfl := hL.out
      have hS : Aside0 (Lib.IsBuilder 40 5 w.heap.size w.heap.size (Lib.byteCells (st (putsL (grp L))).data.toList) wr) := HD
      clear hbd
      go_wp2_with (first
        | (go_at_call 17; refine (bld_string _ _ _ _ hS.out (below_size HB.out)).mono ?_; rintro e wb ⟨rfl, hb⟩; have HBn : Aside0 (Below w.heap.size w wb) := ⟨Below.trans HB.out hb⟩; clear HB; have HB := HBn; clear HBn hb))
      go_ret2
      exact ⟨by simp, HB.out⟩
    · obtain ⟨vi, n, l3, e2, h3⟩ := split_run l2 h2
      have hl2n : l2.length = n + 1 + l3.length := by rw [e2]; simp
      have hLlen : L.length = l.length + l2.length := by rw [hL.out, List.length_append]
      have hvi := HX.out vi (by rw [hL.out, e2]; simp)
      have hlast : l.getLast? ≠ some vi := by
        intro e
        exact hbd.out _ e (by rw [e2]; simp [List.replicate_succ])
      have hgs := grp_snoc l vi n hlast
      have hcat : ∀ j, j < n + 1 → ∃ ad, A = some ad ∧ w.cell? (ad.add j) = some (.int .u64 vi) := by
        intro j hj
        obtain ⟨ad, e, hcell⟩ := cellAt HR.out j (by omega)
        refine ⟨ad, e, ?_⟩
        rw [hcell]
        congr 2
        have : l2[j]? = some vi := by rw [e2, List.getElem?_append_left (by simp; omega), List.getElem?_replicate, if_pos hj]
        rw [List.getElem?_eq_getElem (by omega)] at this
        exact Option.some.inj this
      obtain ⟨ad, rfl, hc0⟩ := hcat 0 (by omega)
      have HC0 := Aside0.mk hc0
      have HCA := Aside0.mk hcat
      have HE2 := Aside0.mk e2
      have HL2 := Aside0.mk hl2n
      have hpos : (0 : Int) < (l2.length : Int) := by omega
      have hcell0 := pw_cell_below HB.out hc0
      have HW0 := Aside0.mk hcell0
      have hnl2 : n < l2.length := by omega
      have hn20 : n < 20000 := by omega
      clear hc0 hcat e2 h2 hlast hcell0 hl2n hLlen
      go_wp2_with fail
      go_loopw [5] (fun v5 w' => ∃ j : Nat, 1 ≤ j ∧ j ≤ n + 1 ∧ v5 = .int .i64 (j : Int) ∧ Drawn0 wr w') (fun v5 _ => n + 1 - (intOf v5).toNat)
      case atStart => exact ⟨1, by omega, by omega, rfl, Drawn0.refl _⟩
      case round =>
        obtain ⟨j, hj1, hj2, rfl, ⟨m, rfl⟩⟩ := hrel
        have hcell0 := HW0.out
        rw [Addr.add_zero'] at hcell0
        by_cases hlt : j < n + 1
        · obtain ⟨ad', e, hcj⟩ := HCA.out j hlt
          obtain rfl : ad = ad' := Option.some.inj e
          have hcellj := pw_cell_below HB.out hcj
          have hb1 : decide ((j : Int) < (l2.length : Int)) = true := by have := HL2.out; simp; omega
          have hb2 : decide (j < l2.length) = true := by have := HL2.out; simp; omega
          have hq1 : ((j : Int) < (l2.length : Int)) = True := by have := HL2.out; exact eq_true (by omega)
          have hq2 : (j < l2.length) = True := by have := HL2.out; exact eq_true (by omega)
          have hq3 : (0 < l2.length) = True := eq_true (by omega)
          clear hcj e
          go_wp2_with fail
          go_quiet (fail)
          go_wp2_with fail
          go_roundw
          case rel => exact ⟨j + 1, by omega, by omega, by go_num, by repeat (first | exact Drawn0.refl _ | apply Drawn0.step)⟩
          case measure => simp [intOf]; omega
        · have hjn : j = n + 1 := by omega
          have hsz : (Lib.strCells (st (putsL (grp l)))).length ≤ 400000 := by
            rw [Lib.strCells_length, st_size]
            have h1 := grp_len l
            have h2 := putsL_len (grp l) (grp_u64 l (fun x hx => HX.out x (by rw [hL.out]; simp [hx])) (by have := congrArg List.length hL.out; rw [List.length_append] at this; omega)).1
            have := congrArg List.length hL.out
            rw [List.length_append] at this
            omega
          have hp1 : (put vi).size ≤ 10 := by rw [put_size]; exact putL_len10 _ (by omega)
          have hp2 : (put ((j : Int) - 1)).size ≤ 10 := by rw [put_size]; exact putL_len10 _ (by omega)
          have A1 := fun w => put_any vi w hvi.1 hvi.2
          have A2 := fun w => put_any ((j : Int) - 1) w (by omega) (by omega)
          have hx3 : (l3 = [] ∧ decide ((j : Int) < (l2.length : Int)) = false ∧ decide (j < l2.length) = false) ∨ (∃ y, wr.cell? (ad.add j) = some (.int .u64 y) ∧ (y == vi) = false ∧ decide ((j : Int) < (l2.length : Int)) = true ∧ decide (j < l2.length) = true ∧ j < l2.length) := by
            subst hjn
            cases hl3 : l3 with
            | nil =>
              refine .inl ⟨rfl, ?_, ?_⟩ <;> (have := HL2.out; rw [hl3] at this; simp at this ⊢; omega)
            | cons y t =>
              have hlt : n + 1 < l2.length := by have := HL2.out; rw [hl3] at this; simp at this; omega
              obtain ⟨ad', e, hcj⟩ := cellAt HR.out (n + 1) hlt
              obtain rfl : ad = ad' := Option.some.inj e
              refine .inr ⟨l2[n + 1], pw_cell_below HB.out hcj, ?_, by simp; omega, by simp; omega, hlt⟩
              have : l2[n + 1]? = some y := by rw [HE2.out, hl3, List.getElem?_append_right (by simp)]; simp
              rw [List.getElem?_eq_getElem hlt] at this
              rw [Option.some.inj this, beq_eq_false_iff_ne]
              intro e2
              exact h3 (by rw [hl3, e2]; rfl)
          have hHC := HW0.out
          rw [Addr.add_zero'] at hHC
          have HW := Aside0.mk hHC
          have HJ := Aside0.mk hjn
          have hjl : j ≤ l2.length := by have := HL2.out; omega
          have hjc : j ≤ c := by omega
          have hj20 : j ≤ 20000 := by omega
          have hdl : l2.drop j = l3 := by rw [hjn, HE2.out, List.drop_left' (by simp)]
          have hA : Aside0 (Kd.C (Kd.int .u64) w (if c = j then some ad else some (ad.add j)) (l2.drop j).length (l2.drop j)) := ⟨by
            have := Kd.C_drop (m := j) (c := c) HR.out hjl hc
            simpa [show (Kd.int IntKind.u64).sz = 1 from rfl] using this⟩
          have hS : Aside0 (Lib.strCells (st (putsL (grp l))) ++ Lib.strCells (put vi) ++ Lib.strCells (put ((j : Int) - 1)) = Lib.strCells (st (putsL (grp (l ++ List.replicate (n + 1) vi))))) := ⟨by
            rw [hgs, putsL_append, putsL_cons, putsL_cons, putsL_nil, List.append_nil, st_append, st_append, ← strCells_append, ← strCells_append, List.append_assoc, hjn, show (((n + 1 : Nat) : Int) - 1) = (n : Int) by omega]
            rfl⟩
          have hL2 : Aside0 (L = (l ++ List.replicate (n + 1) vi) ++ l2.drop j) := ⟨by rw [hdl, hL.out, HE2.out, List.append_assoc]⟩
          have hb3 : Aside0 (∀ x, (l ++ List.replicate (n + 1) vi).getLast? = some x → (l2.drop j).head? ≠ some x) := ⟨by
            intro x hx
            rw [List.getLast?_append, List.getLast?_replicate] at hx
            simp at hx
            rw [← hx, hdl]; exact h3⟩
          clear hHC hlt hj2 hjn hdl hgs
          rcases hx3 with ⟨_, hb1, hb2⟩ | ⟨y, hcy, hy, hb1, hb2, hjl2⟩
          · go_wp2_with fail
            go_quiet (fail)
            go_wp2_with (first
              | (go_at_call 16; (with_reducible refine (A1 _).mono ?_); rintro e wb ⟨rfl, hb⟩; have HDn := Aside0.mk (bld_below (by repeat (first | (with_reducible exact HD.out) | apply bld_drewN)) hb); clear HD; have HD := HDn; clear HDn; have HBn : Aside0 (Below w.heap.size w wb) := ⟨below_next (by repeat (first | (with_reducible exact HB.out) | apply below_alloc | apply pw_below_drewN | apply below_drew1)) hb⟩; clear HB hb; have HB := HBn; clear HBn)
              | (go_at_call 16; (with_reducible refine (A2 _).mono ?_); rintro e wb ⟨rfl, hb⟩; have HDn := Aside0.mk (bld_below (by repeat (first | (with_reducible exact HD.out) | apply bld_drewN)) hb); clear HD; have HD := HDn; clear HDn; have HBn : Aside0 (Below w.heap.size w wb) := ⟨below_next (by repeat (first | (with_reducible exact HB.out) | apply below_alloc | apply pw_below_drewN | apply below_drew1)) hb⟩; clear HB hb; have HB := HBn; clear HBn)
              | (go_at_call 15; refine (bld_write _ _ _ (_) _ (by repeat (first | (with_reducible exact HD.out) | apply bld_drewN)) (by omega) (below_size (by repeat (first | (with_reducible exact HB.out) | apply below_alloc | apply pw_below_drewN | apply below_drew1)))).mono ?_; rintro e wb ⟨rfl, hd, hb⟩; have HBn : Aside0 (Below w.heap.size w wb) := ⟨Below.trans (by repeat (first | (with_reducible exact HB.out) | apply below_alloc | apply pw_below_drewN | apply below_drew1)) hb⟩; clear HB; have HB := HBn; clear HBn hb; have HDn := Aside0.mk (bld_at hd); clear HD hd; have HD := HDn; clear HDn)
              | (go_at_call 15; refine (bld_write _ _ _ (_) _ (by repeat (first | (with_reducible exact HD.out) | apply bld_drewN)) (by rw [List.length_append, Lib.strCells_length (put vi)]; omega) (below_size (by repeat (first | (with_reducible exact HB.out) | apply below_alloc | apply pw_below_drewN | apply below_drew1)))).mono ?_; rintro e wb ⟨rfl, hd, hb⟩; have HBn : Aside0 (Below w.heap.size w wb) := ⟨Below.trans (by repeat (first | (with_reducible exact HB.out) | apply below_alloc | apply pw_below_drewN | apply below_drew1)) hb⟩; clear HB; have HB := HBn; clear HBn hb; have HDn := Aside0.mk (bld_at hd); clear HD hd; have HD := HDn; clear HDn))
            rw [hS.out] at HD
            go_roundw
            case rel => exact ⟨l ++ List.replicate (n + 1) vi, l2.drop j, _, c - j, hL2, hb3, by rw [List.length_drop], by rw [List.length_drop]; omega, hA, HD, HB⟩
            case measure => simp only []; omega
          · go_wp2_with fail
            go_quiet (fail)
            go_wp2_with (first
              | (go_at_call 16; (with_reducible refine (A1 _).mono ?_); rintro e wb ⟨rfl, hb⟩; have HDn := Aside0.mk (bld_below (by repeat (first | (with_reducible exact HD.out) | apply bld_drewN)) hb); clear HD; have HD := HDn; clear HDn; have HBn : Aside0 (Below w.heap.size w wb) := ⟨below_next (by repeat (first | (with_reducible exact HB.out) | apply below_alloc | apply pw_below_drewN | apply below_drew1)) hb⟩; clear HB hb; have HB := HBn; clear HBn)
              | (go_at_call 16; (with_reducible refine (A2 _).mono ?_); rintro e wb ⟨rfl, hb⟩; have HDn := Aside0.mk (bld_below (by repeat (first | (with_reducible exact HD.out) | apply bld_drewN)) hb); clear HD; have HD := HDn; clear HDn; have HBn : Aside0 (Below w.heap.size w wb) := ⟨below_next (by repeat (first | (with_reducible exact HB.out) | apply below_alloc | apply pw_below_drewN | apply below_drew1)) hb⟩; clear HB hb; have HB := HBn; clear HBn)
              | (go_at_call 15; refine (bld_write _ _ _ (_) _ (by repeat (first | (with_reducible exact HD.out) | apply bld_drewN)) (by omega) (below_size (by repeat (first | (with_reducible exact HB.out) | apply below_alloc | apply pw_below_drewN | apply below_drew1)))).mono ?_; rintro e wb ⟨rfl, hd, hb⟩; have HBn : Aside0 (Below w.heap.size w wb) := ⟨Below.trans (by repeat (first | (with_reducible exact HB.out) | apply below_alloc | apply pw_below_drewN | apply below_drew1)) hb⟩; clear HB; have HB := HBn; clear HBn hb; have HDn := Aside0.mk (bld_at hd); clear HD hd; have HD := HDn; clear HDn)
              | (go_at_call 15; refine (bld_write _ _ _ (_) _ (by repeat (first | (with_reducible exact HD.out) | apply bld_drewN)) (by rw [List.length_append, Lib.strCells_length (put vi)]; omega) (below_size (by repeat (first | (with_reducible exact HB.out) | apply below_alloc | apply pw_below_drewN | apply below_drew1)))).mono ?_; rintro e wb ⟨rfl, hd, hb⟩; have HBn : Aside0 (Below w.heap.size w wb) := ⟨Below.trans (by repeat (first | (with_reducible exact HB.out) | apply below_alloc | apply pw_below_drewN | apply below_drew1)) hb⟩; clear HB; have HB := HBn; clear HBn hb; have HDn := Aside0.mk (bld_at hd); clear HD hd; have HD := HDn; clear HDn))
            rw [hS.out] at HD
            go_roundw
            case rel => exact ⟨l ++ List.replicate (n + 1) vi, l2.drop j, (if c = j then some ad else some (ad.add j)), c - j, hL2, hb3, by rw [List.length_drop, if_neg (by omega)], by rw [List.length_drop]; omega, hA, HD, HB⟩
            case measure => simp only []; omega
end Go.Proofs.Ytdgbcokakmonfaa
