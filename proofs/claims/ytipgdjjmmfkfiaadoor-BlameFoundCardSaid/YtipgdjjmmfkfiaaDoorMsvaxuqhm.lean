import Derived.Test.YtipgdjjmmfkfiaaDoorMspgtmdic
import Derived.Outline
namespace Go.Proofs.YtipgdjjmmfkfiaaDoor
open Go.RowKit Go.Proofs.YtipgdjjmmfkfiaaDoorW.PrintWords Go.Proofs.YtipgdjjmmfkfiaaDoorW.PrintLast Go.Proofs.YtipgdjjmmfkfiaaDoorW.PrintMore Hy

theorem cell_grow {w : World} {p : Addr} {v : Value} (h : w.cell? p = some v) (o : Obj) : (w.alloc o).cell? p = some v := by rw [World.cell?_alloc_lt _ _ p (cell_lt h)]; exact h
theorem cellG {w w1 : World} {row : Option Nat} {p : Addr} {v : Value} (hg : w.grownBy w1 row) (hn : ¬ (some p.block = row)) (hc : w.cell? p = some v) : w1.cell? p = some v := by
  have := hg.block p.block (cell_lt hc) hn
  unfold World.cell? at *
  rw [this]; exact hc
set_option maxHeartbeats 4000000 in
theorem blNums_any (e0 : Err) (u : Value) (w : World) (hg : Laid w) (hu : IsE w e0 u) (hd : deep e0 ≤ 1000) :
    Calls Tryd.prog 11 #[u] w fun e w' => ∃ A c, e = .returned (.slice A (fnums e0).length c) ∧ Kd.C (Kd.int .i64) w' A (fnums e0).length (fnums e0) ∧ (fnums e0).length ≤ c ∧ Below w.heap.size w w' := by
  have HB := Aside0.mk (Below.refl w.heap.size w)
  have HG := Aside0.mk hg
  have HU := Aside0.mk hu
  have HD := Aside0.mk (Nat.le_trans (fnums_deep e0) hd)
  clear hg hu hd
  go_enter Tryd.func11, Tryd.ntmps11
  go_wp2_with fail
  go_loopg [0, 3, 4] (deep e0) (fun k v0 v3 v4 w' => ∃ (e1 : Err) (l : List Int) (A : Option Addr) (c f : Nat) (old : Value), v3 = .slice A l.length c ∧ v4 = .pointer (some ⟨f, 0, none⟩) ∧ deep e1 ≤ k ∧ Aside0 (l ++ fnums e1 = fnums e0) ∧ Aside0 (IsE w e1 v0) ∧ Aside0 (Kd.R (Kd.int .i64) 3 w' w.heap.size (fun _ => True) (.slice A l.length c) l) ∧ Aside0 (w'.heap[f]? = some (.cells #[old] 41 (0, 0)) ∧ w.heap.size ≤ f) ∧ Aside0 (Below w.heap.size w w'))
  case atStart => exact ⟨e0, [], none, 0, w.heap.size, .pointer none, rfl, rfl, Nat.le_refl _, ⟨rfl⟩, HU, ⟨Kd.R_nil _ _ _ _ _⟩, ⟨heap_alloc_new _ _, Nat.le_refl _⟩, ⟨(Below.refl _ _).alloc (Nat.le_refl _) _⟩⟩
  case round =>
    clear HU HB
    obtain ⟨e1, l, A, c, f, old, rfl, rfl, hk, HE, HU, HO, HF, HB⟩ := hrel
    by_cases hne : e1 = .nil
    · subst hne
      obtain rfl := HU.out
      have hl : fnums e0 = l := by rw [← HE.out]; simp [fnums]
      have HC := Aside0.mk (R_C HO.out)
      clear hk
      go_wp2_with (go_at_call 18; refine (errAs_nil _ _).mono ?_; rintro e w' ⟨rfl, rfl⟩)
      go_ret
      rw [hl]
      exact ⟨A, c, rfl, HC.out.1, HC.out.2.2, HB.out⟩
    · have hlen : l.length ≤ 1000 := by have := congrArg List.length HE.out; rw [List.length_append] at this; have := HD.out; omega
      have c0 : wr.cell? ⟨f, 0, none⟩ = some old := by rw [blk_cell HF.out.1]; rfl
      obtain ⟨uT, ux, rfl⟩ := HU.out.iface hne
      have HA0 := errField_any e1 _ ⟨f, 0, none⟩ old w wr HB.out (HG.out.below HB.out) HU.out hne c0 (blk_frozen HF.out.1 0)
      have HA : Calls Tryd.prog 18 #[.iface uT ux, .iface 44 (.pointer (some ⟨f, 0, none⟩))] wr (fun e w2 => (fldIn e1 = none ∧ e = .returned (.bool false) ∧ Below wr.heap.size wr w2) ∨
          (∃ m e2 a u', fldIn e1 = some (m, e2) ∧ e = .returned (.bool true) ∧ w.heap[a]? = some (.cells #[.int .i64 m, u'] 48 (0, 0)) ∧ IsE w e2 u' ∧ w2.cell? ⟨f, 0, none⟩ = some (.pointer (some ⟨a, 0, none⟩)) ∧ w2.cell? ⟨a, 0, none⟩ = some (.int .i64 m) ∧ Kp (· = f) wr w2)) := by
        refine HA0.mono ?_
        rintro e w2 (⟨h1, h2, h3⟩ | ⟨m, e2, a, u', h1, h2, h3, h4, h5, h6, h7⟩)
        · exact .inl ⟨h1, h2, h3⟩
        · exact .inr ⟨m, e2, a, u', h1, h2, h3, h4, h5, by rw [blk_cell (blk_below h3 (h7.below HB.out (fun k hk => by rw [hk]; exact HF.out.2)))]; rfl, h7⟩
      clear c0 hne HA0
      go_wp2_with fail
      refine HA.mono ?_
      rintro e w2 (⟨h1, rfl, h3⟩ | ⟨m, e2, a, u', h1, rfl, h2, h7, h3, a0, h5⟩)
      · have hl : fnums e0 = l := by rw [← HE.out, fnums_of e1, h1]; simp
        have HC := Aside0.mk (R_C HO.out)
        have H3 := Aside0.mk h3
        clear h1 h3 hk HA
        go_wp2_with fail
        go_ret
        rw [hl]
        exact ⟨A, c, rfl, Kd.C_below HC.out.1 H3.out, HC.out.2.2, below_next HB.out H3.out⟩
      · have HB2 : Aside0 (Below w.heap.size w w2) := ⟨h5.below HB.out (fun k hk => by rw [hk]; exact HF.out.2)⟩
        have HO2 : Aside0 (Kd.R (Kd.int .i64) 3 w2 w.heap.size (fun k => ¬ (k = f)) (.slice A l.length c) l) := ⟨h5.row (R_apartBlk HO.out HF.out.1 (by decide)) (fun k hk => hk)⟩
        have HA2 := Aside0.mk h2
        have HU2 := Aside0.mk h7
        have HN : Aside0 (fnums e1 = m :: fnums e2) := ⟨by rw [fnums_of e1, h1]⟩
        have HDp := Aside0.mk (fldIn_deep h1)
        have hf2 : f < w2.heap.size := by have := cell_lt h3; exact this
        clear HO HB h1 h2 h7 h5 HA HU
        have HO := HO2
        have HB := HB2
        clear HO2 HB2
        go_wp2_with (first
          | ((with_reducible refine gate_builtin (b := .append) (xs := #[.tmp 12, .tmp 17]) rfl ?_); at_builtin; refine Kd.R_append (Kd.int .i64) (w0 := w) w.heap.size rfl (.tmp 12) (.tmp 17) 31 3 (.int .i64 0) 8 rfl Tryd.underlying31 info_i64 rfl (by decide) (by omega) (.slice A l.length c) l m [.int .i64 m] (fun k => ¬ (k = f)) (fun _ => False) rfl rfl ?aP (fun _ hk => hk.elim) ?aF ?aO ?aB ?aS ?aL ?_; (case aP => exact rfl); (case aB => exact (by repeat (first | (with_reducible exact HB.out) | apply below_alloc | apply pw_below_drewN | apply below_drew1))); (case aF => exact (fun k hk e => by omega)); (case aO => exact (by (with_reducible repeat (first | apply Kd.R_alloc | apply Kd.R_drewN | apply Kd.R_drew)); exact HO.out)); (case aS => exact (below_size (by repeat (first | (with_reducible exact HB.out) | apply below_alloc | apply pw_below_drewN | apply below_drew1)))); (case aL => omega); intro va wa ho hb hg hat; have h8 := cellG hg (fun e => HO.out.1 f e.symm rfl) h3; have k1 : wa.cell? ⟨a, 1, none⟩ = some u' := (blk_cell (blk_below HA2.out hb) 1).trans rfl; have k2 : a < wa.heap.size := blk_lt (blk_below HA2.out hb); have k3 : ¬ (a = wa.heap.size) := Nat.ne_of_lt k2; have k4 := cell_grow k1 (.cells #[.pointer (some ⟨a, 0, none⟩)] 41); clear h3 a0; have n0_ := Aside0.mk hb; have n1_ := Aside0.mk ho; clear HB HO; have HB := n0_; have HO := n1_; clear n0_ n1_ ho hb hg hat))
        obtain ⟨A', c', hva⟩ := Kd.R_slice HO.out
        subst hva
        go_roundg (deep e2)
        case rel => exact ⟨e2, l ++ [m], A', c', wa.heap.size, .pointer (some ⟨a, 0, none⟩), rfl, rfl, Nat.le_refl _, ⟨by rw [← HE.out, HN.out, List.append_assoc]; rfl⟩, HU2, ⟨Kd.R_mono (Kd.R_alloc HO.out _) (fun _ _ => trivial)⟩, ⟨heap_alloc_new _ _, HB.out.size⟩, ⟨HB.out.alloc HB.out.size _⟩⟩
        case measure => have := HDp.out; omega
end Go.Proofs.YtipgdjjmmfkfiaaDoor
namespace Go.Proofs.YtipgdjjmmfkfiaaDoor
open Go.RowKit Go.Proofs.YtipgdjjmmfkfiaaDoorW.PrintWords Go.Proofs.YtipgdjjmmfkfiaaDoorW.PrintLast Go.Proofs.YtipgdjjmmfkfiaaDoorW.PrintMore Hy

/-- A row of wraps. -/
def Wrs (w : World) (A : Option Addr) (l : List (Bool × Int)) : Prop := Prs (fun x : Bool × Int => Value.bool x.1) (fun x : Bool × Int => Value.int .i64 x.2) w A l
theorem Wrs.at_ {w : World} {A : Option Addr} {l : List (Bool × Int)} (h : Wrs w A l) (i : Nat) (hi : i < l.length) (b : Bool) (n : Int) (hx : l[i] = (b, n)) : ∃ ad, A = some ad ∧ w.cell? (ad.add (i * 2)) = some (.bool b) ∧ w.cell? ⟨(ad.add (i * 2)).block, (ad.add (i * 2)).off + 1, none⟩ = some (.int .i64 n) := by
  obtain ⟨ad, rfl, h0, h1⟩ := h i hi
  rw [add_field _ _ 1 (by omega)] at h1
  rw [hx] at h0 h1
  exact ⟨ad, rfl, h0, h1⟩
set_option maxHeartbeats 4000000 in
theorem made_any (c : Int) (A : Option Addr) (cp : Nat) (l : List (Bool × Int)) (w : World) (hp : Wrs w A l) (hl : l.length ≤ 200) :
    Calls Tryd.prog 8 #[.int .i64 c, .slice A l.length cp] w fun e w' => ∃ u, e = .returned u ∧ IsE w' (mkE c l) u ∧ Below w.heap.size w w' := by
  have HB := Aside0.mk (Below.refl w.heap.size w)
  have HP := Aside0.mk hp
  have start : ∃ v5 : Value, (v5 = if c = 0 then .nilIface else .iface 22 (.int .i64 c)) ∧ IsE w (mkE c []) v5 := by
    refine ⟨_, rfl, ?_⟩
    rw [mkE_nil]
    by_cases h : c = 0
    · rw [if_pos h, if_pos h]; rfl
    · rw [if_neg h, if_neg h]; rfl
  obtain ⟨v5, h5, hs⟩ := start
  have HS := Aside0.mk hs
  clear hp hs
  by_cases hc : c = 0
  all_goals
    first | rw [if_pos hc] at h5 | rw [if_neg hc] at h5
    subst h5
    have hc2 : (c != 0) = decide (c ≠ 0) := by by_cases h : c = 0 <;> simp [h]
    first | rw [decide_eq_false (by omega)] at hc2 | rw [decide_eq_true hc] at hc2
    have HC0 := Aside0.mk hc
    clear hc
    go_enter Tryd.func8, Tryd.ntmps8
    go_wp2_with fail
    go_loopw [5, 6] (fun v5 v6 w' => ∃ i : Nat, i ≤ l.length ∧ v6 = .int .i64 (i : Int) ∧ Aside0 (IsE w' (mkE c (l.take i)) v5) ∧ Aside0 (Below w.heap.size w w')) (fun _ v6 _ => l.length - (intOf v6).toNat)
    case atStart => exact ⟨0, Nat.zero_le _, rfl, HS, HB⟩
    case round =>
      clear HB HS
      obtain ⟨i, hi, rfl, HU, HB⟩ := hrel
      by_cases hlt : i < l.length
      · obtain ⟨b, n, hx⟩ : ∃ b n, l[i] = (b, n) := ⟨_, _, rfl⟩
        obtain ⟨ad, rfl, h0, h1⟩ := Wrs.at_ (HP.out.below HB.out) i hlt b n hx
        have HM : Aside0 (mkE c (l.take (i + 1)) = wrapE (mkE c (l.take i)) (b, n)) := ⟨by rw [mkE_snoc c l i hlt, hx]⟩
        clear hx
        cases b
        · go_wp2_with fail
          refine (in_wrap n _ _ _ HU.out).mono ?_
          rintro e wb ⟨v, rfl, hv, hb⟩
          have HU2 := Aside0.mk hv
          have HB2 := Aside0.mk (below_next HB.out hb)
          clear hv hb h0 h1
          go_wp2_with fail
          go_roundw
          case rel => exact ⟨i + 1, by omega, by go_num, ⟨by rw [HM.out]; exact HU2.out⟩, HB2⟩
          case measure => simp [intOf]; omega
        · go_wp2_with fail
          refine (at_wrap n _ _ _ HU.out).mono ?_
          rintro e wb ⟨v, rfl, hv, hb⟩
          have HU2 := Aside0.mk hv
          have HB2 := Aside0.mk (below_next HB.out hb)
          clear hv hb h0 h1
          go_wp2_with fail
          go_roundw
          case rel => exact ⟨i + 1, by omega, by go_num, ⟨by rw [HM.out]; exact HU2.out⟩, HB2⟩
          case measure => simp [intOf]; omega
      · obtain rfl : i = l.length := by omega
        go_wp2_with fail
        go_ret
        exact ⟨_, rfl, by have := HU.out; rw [List.take_length] at this; exact this, HB.out⟩
end Go.Proofs.YtipgdjjmmfkfiaaDoor
namespace Go.Proofs.YtipgdjjmmfkfiaaDoor
open Go.RowKit Go.Proofs.YtipgdjjmmfkfiaaDoorW.PrintWords Go.Proofs.YtipgdjjmmfkfiaaDoorW.PrintLast Go.Proofs.YtipgdjjmmfkfiaaDoorW.PrintMore Hy

theorem ints_same (A : Option Addr) (c : Nat) (l : List Int) (A' : Option Addr) (c' : Nat) (w : World) (hr : Kd.C (Kd.int .i64) w A l.length l) (hc : l.length ≤ c) (hr' : Kd.C (Kd.int .i64) w A' l.length l) (hc' : l.length ≤ c') (hl : l.length ≤ 140737488355328) :
    Calls Tryd.prog 17 #[.slice A l.length c, .slice A' l.length c'] w fun e w' => e = .returned (.bool true) ∧ Drawn0 w w' := by
  have h := ints_any A c l A' c' l w hr hc hr' hc' hl
  rw [decide_eq_true rfl] at h
  exact h
set_option maxHeartbeats 8000000 in
theorem tells_any (c : Int) (A : Option Addr) (cp : Nat) (l : List (Bool × Int)) (u : Value) (w : World) (hg : Laid w) (hc : c ≠ 0) (hu : IsE w (mkE c l) u) (hp : Wrs w A l) (hl : l.length ≤ 200) :
    Calls Tryd.prog 12 #[u, .int .i64 c, .slice A l.length cp] w fun e w' => e = .returned (.bool true) ∧ Below w.heap.size w w' := by
  have HB := Aside0.mk (Below.refl w.heap.size w)
  have HP := Aside0.mk hp
  have HG := Aside0.mk hg
  have HU := Aside0.mk hu
  have HC0 := Aside0.mk hc
  obtain ⟨uT, ux, rfl⟩ := hu.iface (mkE_ne c l hc)
  clear hp hg hu hc
  go_enter Tryd.func12, Tryd.ntmps12
  go_wp2_with fail
  go_loopw [7, 8, 9, 10] (fun v7 v8 v9 v10 w' => ∃ (i : Nat) (p : Int) (b : Bool) (xs : List Int) (A' : Option Addr) (c' : Nat), i ≤ l.length ∧ v10 = .int .i64 (i : Int) ∧ v7 = .int .i64 p ∧ v8 = .bool b ∧ v9 = .slice A' xs.length c' ∧ Aside0 (placeN (mkE c (l.take i)) = p ∧ placeB (mkE c (l.take i)) = b ∧ fnums (mkE c (l.take i)) = xs) ∧ xs.length ≤ 200 ∧ Aside0 (Kd.R (Kd.int .i64) 3 w' w.heap.size (fun _ => True) (.slice A' xs.length c') xs) ∧ Aside0 (Below w.heap.size w w')) (fun _ _ _ v10 _ => l.length - (intOf v10).toNat)
  case atStart => exact ⟨0, 0, false, [], none, 0, Nat.zero_le _, rfl, rfl, rfl, rfl, ⟨by rw [List.take_zero, mkE_nil, if_neg HC0.out]; exact ⟨rfl, rfl, rfl⟩⟩, by simp, ⟨Kd.R_nil _ _ _ _ _⟩, HB⟩
  case round =>
    clear HB
    obtain ⟨i, p, pb, xs, A', c', hi, rfl, rfl, rfl, rfl, HT, hxs, HO, HB⟩ := hrel
    by_cases hlt : i < l.length
    · obtain ⟨b, n, hx⟩ : ∃ b n, l[i] = (b, n) := ⟨_, _, rfl⟩
      obtain ⟨ad, rfl, h0, h1⟩ := Wrs.at_ (HP.out.below HB.out) i hlt b n hx
      have hM : mkE c (l.take (i + 1)) = wrapE (mkE c (l.take i)) (b, n) := by rw [mkE_snoc c l i hlt, hx]
      have hne := mkE_ne c (l.take i) HC0.out
      have hlen : (fnums (mkE c (l.take (i + 1)))).length ≤ 200 := by
        have h1 := fnums_deep (mkE c (l.take (i + 1)))
        have h2 := mkE_deep c (l.take (i + 1))
        rw [List.length_take] at h2
        omega
      clear hx
      cases b
      · have ht := tell_in (mkE c (l.take i)) n hne
        rw [← hM, HT.out.1, HT.out.2.1, HT.out.2.2] at ht
        rw [ht.2.2] at hlen
        have HT2 := Aside0.mk ht
        have HX := Aside0.mk hlen
        clear hM hne ht HT hlen
        go_wp2_with ((with_reducible refine gate_builtin (b := .append) (xs := #[.tmp 34, .tmp 35]) rfl ?_); at_builtin; refine Kd.R_append_row (Value.int .i64) (0 : Int) (h1 := fun _ => rfl) (w0 := w) w.heap.size rfl (.tmp 34) (.tmp 35) 31 3 (.int .i64 0) 8 rfl Tryd.underlying31 info_i64 rfl (by decide) (.slice (some ⟨wr.heap.size, 0, none⟩) 1 1) [n] xs A' xs.length c' (fun _ => True) rfl rfl (fun _ _ => trivial) ?aO ?aR ?aB ?aS ?aL ?_; (case aO => exact Kd.R_of_own (own_lit wr w.heap.size 3 .i64 [n] HB.out.size (by simp)) (fun _ _ => trivial)); (case aR => exact Kd.C_alloc (R_C HO.out).1 _); (case aB => exact HB.out.alloc HB.out.size _); (case aS => exact Nat.le_trans HB.out.size (by simp)); (case aL => (simp; omega)); intro va wa ho hb hg hat; have n0_ := Aside0.mk hb; have n1_ := Aside0.mk ho; clear HB HO; have HB := n0_; have HO := n1_; clear n0_ n1_ ho hb hg hat)
        obtain ⟨A2, c2, hva⟩ := Kd.R_slice HO.out
        subst hva
        go_roundw
        case rel => exact ⟨i + 1, p, pb, [n] ++ xs, A2, c2, by omega, by go_num, rfl, rfl, rfl, HT2, HX.out, HO, HB⟩
        case measure => simp [intOf]; omega
      · have ht := tell_at (mkE c (l.take i)) n hne
        rw [← hM, HT.out.2.2] at ht
        have HT2 := Aside0.mk ht
        clear hM hne ht HT hlen
        go_wp2_with fail
        go_roundw
        case rel => exact ⟨i + 1, n, true, xs, A', c', by omega, by go_num, rfl, rfl, rfl, HT2, hxs, HO, HB⟩
        case measure => simp [intOf]; omega
    · obtain rfl : i = l.length := by omega
      have hT := HT.out
      rw [List.take_length] at hT
      have hd : deep (mkE c l) ≤ 1000 := Nat.le_trans (mkE_deep c l) (by omega)
      have P1 := fun w' (h1 : Laid w') (h2 : IsE w' (mkE c l) (.iface uT ux)) => place_any (mkE c l) (.iface uT ux) w' h1 h2
      have C1 := fun w' (h1 : Laid w') (h2 : IsE w' (mkE c l) (.iface uT ux)) => code_any (mkE c l) (.iface uT ux) w' h1 h2
      have N1 := fun w' (h1 : Laid w') (h2 : IsE w' (mkE c l) (.iface uT ux)) => blNums_any (mkE c l) (.iface uT ux) w' h1 h2 hd
      rw [hT.1, hT.2.1] at P1
      rw [mkE_codeOf c l HC0.out] at C1
      rw [hT.2.2] at N1
      have HC := Aside0.mk (R_C HO.out)
      have HU2 := Aside0.mk (fun w' (h : Below w.heap.size w w') => HU.out.below h)
      clear hT hd HT HU HO
      go_wp2_with (first
        | (go_at_call 9; refine (P1 _ (HG.out.below (by repeat (first | (with_reducible exact HB.out) | apply below_alloc | apply pw_below_drewN | apply below_drew1))) (HU2.out _ (by repeat (first | (with_reducible exact HB.out) | apply below_alloc | apply pw_below_drewN | apply below_drew1)))).mono ?_; rintro e wb ⟨rfl, hb⟩; have HC1 := Aside0.mk (Kd.C_below HC.out.1 hb); have HBn : Aside0 (Below w.heap.size w wb) := ⟨below_next (by repeat (first | (with_reducible exact HB.out) | apply below_alloc | apply pw_below_drewN | apply below_drew1)) hb⟩; clear HB hb; have HB := HBn; clear HBn)
        | (go_at_call 10; refine (C1 _ (HG.out.below (by repeat (first | (with_reducible exact HB.out) | apply below_alloc | apply pw_below_drewN | apply below_drew1))) (HU2.out _ (by repeat (first | (with_reducible exact HB.out) | apply below_alloc | apply pw_below_drewN | apply below_drew1)))).mono ?_; rintro e wb ⟨rfl, hb⟩; have HC2 := Aside0.mk (Kd.C_below HC1.out hb); have HBn : Aside0 (Below w.heap.size w wb) := ⟨below_next (by repeat (first | (with_reducible exact HB.out) | apply below_alloc | apply pw_below_drewN | apply below_drew1)) hb⟩; clear HB hb; have HB := HBn; clear HBn)
        | (go_at_call 11; refine (N1 _ (HG.out.below (by repeat (first | (with_reducible exact HB.out) | apply below_alloc | apply pw_below_drewN | apply below_drew1))) (HU2.out _ (by repeat (first | (with_reducible exact HB.out) | apply below_alloc | apply pw_below_drewN | apply below_drew1)))).mono ?_; rintro e wb ⟨A3, c3, rfl, hC3, hc3, hb⟩; have HBn : Aside0 (Below w.heap.size w wb) := ⟨below_next (by repeat (first | (with_reducible exact HB.out) | apply below_alloc | apply pw_below_drewN | apply below_drew1)) hb⟩; clear HB; have HB := HBn; clear HBn; have HC3 := Aside0.mk (Kd.C_below HC2.out hb); have HC4 := Aside0.mk hC3; have HI := Aside0.mk (ints_same A3 c3 xs A' c' _ HC4.out hc3 HC3.out HC.out.2.2 (by omega)); clear hb hC3 hc3)
        | (go_at_call 17; refine (HI.out).mono ?_; rintro e wd ⟨rfl, ⟨nd, rfl⟩⟩))
      go_ret
      exact ⟨rfl, (by repeat (first | (with_reducible exact HB.out) | apply below_alloc | apply pw_below_drewN | apply below_drew1))⟩
end Go.Proofs.YtipgdjjmmfkfiaaDoor
