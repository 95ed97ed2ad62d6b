import Derived.Test.YtfkpebdjobhfgaaDod
namespace Go.Proofs.Ytfkpebdjobhfgaa
open Go.RowKit Go.Proofs.YtfkpebdjobhfgaaW.PrintWords Go.Proofs.YtfkpebdjobhfgaaW.PrintLast Go.Proofs.YtfkpebdjobhfgaaW.PrintMore Hy

set_option maxHeartbeats 1000000 in
set_option maxRecDepth 100000 in
theorem dodPut_ok (A : Option Addr) (c : Nat) (l : List Int) (w : World) (hr : Kd.C (Kd.int .u64) w A l.length l) (hc : l.length ≤ c) (hl : l.length ≤ 20000) (hx : u64s l) :
    Calls Try.prog 21 #[.slice A l.length c] w fun e w' => e = .returned (.tuple #[.string (st (putsL (offs [] l))), .nilIface]) ∧ Below w.heap.size w w' := by
  have HB := Aside0.mk (Below.refl w.heap.size w)
  have HR := Aside0.mk hr
  have HX := Aside0.mk hx
  have HC := Aside0.mk hc
  clear hr hx hc
  go_enter Try.func21, Try.ntmps21
  go_wp2_with fail
  go_loopw [14] (fun v14 w' => ∃ j : Nat, j ≤ l.length ∧ v14 = .int .i64 j ∧ Aside0 (Lib.IsBuilder 52 5 w.heap.size w.heap.size (Lib.strCells (st (putsL (offs [] (l.take j))))) w') ∧ Aside0 (Below w.heap.size w w')) (fun v14 _ => l.length - (intOf v14).toNat)
  case atStart => exact ⟨0, by omega, rfl, ⟨bld_new _ _ w⟩, ⟨(by repeat (first | (with_reducible exact HB.out) | apply below_alloc | apply pw_below_drewN | apply below_drew1))⟩⟩
  case round =>
    clear HB
    obtain ⟨j, hj, rfl, HD, HB⟩ := hrel
    by_cases hlt : j < l.length
    · obtain ⟨ad, rfl, hcell⟩ := cellAt (Kd.C_below HR.out HB.out) j hlt
      have hxj := HX.out _ (List.getElem_mem hlt)
      have HC' := HC.out
      have HR' := Aside0.mk (Kd.C_below HR.out HB.out)
      have hlen : (offs [] (l.take j)).length = j := by rw [offs_length]; simp; omega
      have hsz : (Lib.strCells (st (putsL (offs [] (l.take j))))).length ≤ 200000 := by
        rw [Lib.strCells_length, st_size]
        have := putsL_len _ (offs_range [] (l.take j))
        omega
      have hnx : offs [] (l.take (j + 1)) = offs [] (l.take j) ++ [off (l.take j) l[j]] := by
        rw [List.take_succ_eq_append_getElem hlt, offs_snoc]; rfl
      have hnx2 : Aside0 (Lib.strCells (st (putsL (offs [] (l.take (j + 1))))) = Lib.strCells (st (putsL (offs [] (l.take j)))) ++ Lib.strCells (put (off (l.take j) l[j]))) := ⟨by
        rw [hnx, putsL_append, st_append, ← strCells_append, putsL_cons, putsL_nil, List.append_nil]; rfl⟩
      have hor := off_range (l.take j) l[j]
      have hps : (put (off (l.take j) l[j])).size ≤ 10 := by rw [put_size]; exact putL_len10 _ (by omega)
      clear hnx hlen
      by_cases hj0 : j = 0
      · have hj1 : ¬ (0 : Int) < (j : Int) := by omega
        have hv : off (l.take j) l[j] = IntKind.u64.wrap (l[j] - guess (l.take j)) := by
          unfold off; rw [if_pos (by rw [hj0]; rfl), wrap_u64]
        rw [hv] at hnx2 hor hps
        clear hv hj0
        go_wp2_with (first
          | (go_at_call 26; refine (guess_take (some ad) c j l _ (by (with_reducible repeat (first | apply Kd.C_alloc | apply Kd.C_drewN | apply Kd.C_drew)); exact HR'.out) HC.out (by omega) (by omega)).mono ?_; rintro e wd ⟨rfl, ⟨nd, rfl⟩⟩)
          | (go_at_call 8; refine (put_any _ _ hor.1 hor.2).mono ?_; rintro e wb ⟨rfl, hb⟩; have HDn := Aside0.mk (bld_below (by repeat (first | (with_reducible exact HD.out) | apply bld_drewN)) hb); clear HD; have HD := HDn; clear HDn; have HBn : Aside0 (Below w.heap.size w wb) := ⟨below_next (by repeat (first | (with_reducible exact HB.out) | apply below_alloc | apply pw_below_drewN | apply below_drew1)) hb⟩; clear HB hb; have HB := HBn; clear HBn)
          | (go_at_call 27; refine (bld_write _ _ _ (_) _ (by repeat (first | (with_reducible exact HD.out) | apply bld_drewN)) (by omega) (below_size (by repeat (first | (with_reducible exact HB.out) | apply below_alloc | apply pw_below_drewN | apply below_drew1)))).mono ?_; rintro e wb ⟨rfl, hd, hb⟩; have HBn : Aside0 (Below w.heap.size w wb) := ⟨Below.trans (by repeat (first | (with_reducible exact HB.out) | apply below_alloc | apply pw_below_drewN | apply below_drew1)) hb⟩; clear HB; have HB := HBn; clear HBn hb; have HDn := Aside0.mk (bld_at hd); clear HD hd; have HD := HDn; clear HDn))
        rw [← hnx2.out] at HD
        go_roundw
        case rel => exact ⟨j + 1, by omega, by go_num, HD, HB⟩
        case measure => simp [intOf]; omega
      · have hj1 : (0 : Int) < (j : Int) := by omega
        have hv : off (l.take j) l[j] = zig (wrap64 (IntKind.u64.wrap (l[j] - guess (l.take j)))) := by
          unfold off; rw [if_neg (by intro e; have h_ := congrArg List.length e; rw [List.length_take, List.length_nil] at h_; omega), wrap_u64]
        rw [hv] at hnx2 hor hps
        clear hv hj0
        go_wp2_with (first
          | (go_at_call 26; refine (guess_take (some ad) c j l _ (by (with_reducible repeat (first | apply Kd.C_alloc | apply Kd.C_drewN | apply Kd.C_drew)); exact HR'.out) HC.out (by omega) (by omega)).mono ?_; rintro e wd ⟨rfl, ⟨nd, rfl⟩⟩)
          | (go_at_call 11; refine (zig_any _ _ (by unfold wrap64; omega) (by unfold wrap64; omega)).mono ?_; rintro e wd ⟨rfl, ⟨nd, rfl⟩⟩)
          | (go_at_call 8; refine (put_any _ _ hor.1 hor.2).mono ?_; rintro e wb ⟨rfl, hb⟩; have HDn := Aside0.mk (bld_below (by repeat (first | (with_reducible exact HD.out) | apply bld_drewN)) hb); clear HD; have HD := HDn; clear HDn; have HBn : Aside0 (Below w.heap.size w wb) := ⟨below_next (by repeat (first | (with_reducible exact HB.out) | apply below_alloc | apply pw_below_drewN | apply below_drew1)) hb⟩; clear HB hb; have HB := HBn; clear HBn)
          | (go_at_call 27; refine (bld_write _ _ _ (_) _ (by repeat (first | (with_reducible exact HD.out) | apply bld_drewN)) (by omega) (below_size (by repeat (first | (with_reducible exact HB.out) | apply below_alloc | apply pw_below_drewN | apply below_drew1)))).mono ?_; rintro e wb ⟨rfl, hd, hb⟩; have HBn : Aside0 (Below w.heap.size w wb) := ⟨Below.trans (by repeat (first | (with_reducible exact HB.out) | apply below_alloc | apply pw_below_drewN | apply below_drew1)) hb⟩; clear HB; have HB := HBn; clear HBn hb; have HDn := Aside0.mk (bld_at hd); clear HD hd; have HD := HDn; clear HDn))
        rw [← hnx2.out] at HD
        go_roundw
        case rel => exact ⟨j + 1, by omega, by go_num, HD, HB⟩
        case measure => simp [intOf]; omega
    · obtain rfl : j = l.length := by omega
      rw [List.take_length] at HD
      have hS : Aside0 (Lib.IsBuilder 52 5 w.heap.size w.heap.size (Lib.byteCells (st (putsL (offs [] l))).data.toList) wr) := HD
      clear hj hlt
      go_wp2_with (first
        | (go_at_call 28; refine (bld_string _ _ _ _ hS.out (below_size HB.out)).mono ?_; rintro e wb ⟨rfl, hb⟩; have HBn : Aside0 (Below w.heap.size w wb) := ⟨Below.trans HB.out hb⟩; clear HB; have HB := HBn; clear HBn hb))
      go_ret2
      exact ⟨by simp, HB.out⟩
theorem dodPut_range (A : Option Addr) (c n : Nat) (w : World) (hn : 20000 < n) (hc : n ≤ c) :
    Calls Try.prog 21 #[.slice A n c] w fun e w' => e = .returned (.tuple #[.string ⟨#[]⟩, .iface 48 (.int .i64 9)]) ∧ w = w' := by
  go_enter Try.func21, Try.ntmps21
  go_wp2
  go_ret2
  exact ⟨rfl, rfl⟩
end Go.Proofs.Ytfkpebdjobhfgaa
