import Derived.Test.YtnghlkbmfhkmoaaGreatDoorMyzwrijrj
import Derived.Test.YtnghlkbmfhkmoaaGreatDoorRows
import Derived.Test.YtnghlkbmfhkmoaaGreatDoorMqazhvmzc
import Derived.LaidLaws
import Derived.LaidHandle
import Derived.Stop.Joined
import Derived.Test.YtnghlkbmfhkmoaaGreatDoorMawrohoxn
import Derived.WideShapes
namespace Go.Proofs.YtnghlkbmfhkmoaaGreatDoor
open Go.RowKit Hy
/-! ### deeper, it may be too -/
theorem restG_deep {g : Nat → Nat → List Nat → Option Nat} {d d' n t k : Nat} {b : List Nat} (hg : ∀ d d' n k, (d ≤ d' ∨ b.length ≤ d') → g d n b = some k → g d' n b = some k) (h : d ≤ d' ∨ b.length < d') (hr : restG g d n t b = some k) : restG g d' n t b = some k := by
  unfold restG at hr ⊢
  by_cases h0 : t = 0
  · rw [if_pos h0] at hr ⊢; exact hr
  · rw [if_neg h0] at hr ⊢
    by_cases h1 : t = 1
    · rw [if_pos h1] at hr ⊢; exact hr
    · rw [if_neg h1] at hr ⊢
      by_cases h5 : t = 5
      · rw [if_pos h5] at hr ⊢; exact hr
      · rw [if_neg h5] at hr ⊢
        by_cases h2 : t = 2
        · rw [if_pos h2] at hr ⊢; exact hr
        · rw [if_neg h2] at hr ⊢
          by_cases h3 : t = 3
          · rw [if_pos h3] at hr ⊢
            by_cases hd : d = 0
            · rw [if_pos hd] at hr; cases hr
            · rw [if_neg hd] at hr
              rw [if_neg (by omega)]
              exact hg (d - 1) (d' - 1) n k (by omega) hr
          · rw [if_neg h3] at hr; cases hr
theorem grpL_deep : ∀ (f d d' n : Nat) (b : List Nat) (k : Nat), (d ≤ d' ∨ b.length ≤ d') → grpL f d n b = some k → grpL f d' n b = some k := by
  intro f
  induction f with
  | zero => intro d d' n b k _ h; cases h
  | succ f ih =>
    intro d d' n b k hd h
    simp only [grpL] at h ⊢
    cases ht : tagL b with
    | none => rw [ht] at h; cases h
    | some x =>
      obtain ⟨m, t, k1⟩ := x
      obtain ⟨p1, p2, _⟩ := tagL_pos ht
      rw [ht] at h
      simp only at h ⊢
      by_cases h4 : t = 4
      · rw [if_pos h4] at h ⊢; exact h
      · rw [if_neg h4] at h ⊢
        cases hr : restG (grpL f) d m t (b.drop k1) with
        | none => rw [hr] at h; cases h
        | some k2 =>
          rw [hr] at h
          simp only at h
          have hr' := restG_deep (d' := d') (fun d d' n k hq he => ih d d' n _ k hq he) (by rw [List.length_drop]; omega) hr
          rw [hr']
          simp only
          cases hk : grpL f d n (b.drop (k1 + k2)) with
          | none => rw [hk] at h; cases h
          | some k3 =>
            rw [hk] at h
            rw [ih d d' n _ k3 (by rw [List.length_drop]; omega) hk]
            exact h
theorem recL_deep {d d' : Nat} {b : List Nat} {r : RecL × Nat} (hd : d ≤ d' ∨ b.length ≤ d') (h : recL d b = some r) : recL d' b = some r := by
  unfold recL at h ⊢
  cases ht : tagL b with
  | none => rw [ht] at h; cases h
  | some x =>
    obtain ⟨m, t, k1⟩ := x
    obtain ⟨p1, p2, _⟩ := tagL_pos ht
    rw [ht] at h
    simp only at h ⊢
    cases hr : restL (b.length + 1) d m t (b.drop k1) with
    | none => rw [hr] at h; cases h
    | some k2 =>
      have hr' : restL (b.length + 1) d' m t (b.drop k1) = some k2 := restG_deep (fun d d' n k hq he => grpL_deep _ d d' n _ k hq he) (by rw [List.length_drop]; omega) hr
      rw [hr] at h
      rw [hr']
      exact h
theorem allL_deep : ∀ (f d d' : Nat) (b : List Nat) (L : List RecL), (d ≤ d' ∨ b.length ≤ d') → allL f d b = some L → allL f d' b = some L := by
  intro f
  induction f with
  | zero => intro d d' b L _ h; cases h
  | succ f ih =>
    intro d d' b L hd h
    simp only [allL] at h ⊢
    by_cases hb : b = []
    · rw [if_pos hb] at h ⊢; exact h
    · rw [if_neg hb] at h ⊢
      cases hr : recL d b with
      | none => rw [hr] at h; cases h
      | some x =>
        obtain ⟨R, k⟩ := x
        rw [hr] at h
        rw [recL_deep hd hr]
        simp only at h ⊢
        cases ha : allL f d (b.drop k) with
        | none => rw [ha] at h; cases h
        | some l =>
          rw [ha] at h
          rw [ih d d' _ l (by rw [List.length_drop]; omega) ha]
          exact h
theorem restB_deep {T : List Nat} {d d' : Int} {s : ByteArray} (_h0 : 0 ≤ d) (hd : d ≤ d' ∨ (s.size : Int) ≤ d') (h : restB T d s = true) : restB T d' s = true := by
  unfold restB at h ⊢
  cases hr : recsL d.toNat (bs s) with
  | none => rw [hr] at h; cases h
  | some L =>
    rw [hr] at h
    have : recsL d'.toNat (bs s) = some L := allL_deep _ _ _ _ _ (by rw [bs_length]; omega) hr
    rw [this]
    exact h
theorem mayK_deep {W : World} {f : Nat} {y : Kv} {d d' : Int} (hs : SmK W f y) (hV : ∀ (x : Vl) (d d' : Int), SmV W f x → (d ≤ d' ∨ 12000 + 3 * (f : Int) ≤ d') → mayV W f d x = true → mayV W f d' x = true) (hd : d ≤ d' ∨ 12001 + 3 * (f : Int) ≤ d') (h : mayK (mayV W f) d y = true) : mayK (mayV W f) d' y = true := by
  unfold mayK at h ⊢
  simp only [Bool.and_eq_true, decide_eq_true_eq] at h ⊢
  obtain ⟨h0, h1, h2, h3⟩ := h
  have hu := hs.unk
  refine ⟨by omega, h1, restB_deep h0 (by omega) h2, ?_⟩
  cases hh : y.has
  · rw [hh] at h3; exact h3
  · rw [hh] at h3
    exact hV y.v (d - 1) (d' - 1) hs.v (by omega) h3
theorem mayV_deep (W : World) : ∀ (f : Nat) (x : Vl) (d d' : Int), SmV W f x → (d ≤ d' ∨ 12000 + 3 * (f : Int) ≤ d') → mayV W f d x = true → mayV W f d' x = true := by
  intro f
  induction f with
  | zero => intro x d d' _ _ h; cases h
  | succ f ih =>
    intro x d d' hs hd h
    obtain ⟨s1, s2, s3, hsL, hsM⟩ := hs.of
    have he : ∀ d, mayV W (f + 1) d x = (decide (0 ≤ d) && (bareB x && (restB tbV d x.unk && (if x.kind = 5 ∨ x.kind = 6 then decide (1 ≤ d) && (restB tbL (d - 1) x.inner && ((vls W x.l).all (mayV W f (d - 2)) && (kvs W x.m).all (mayK (mayV W f) (d - 2)))) else true)))) := fun _ => rfl
    rw [he] at h ⊢
    simp only [Bool.and_eq_true, decide_eq_true_eq] at h ⊢
    obtain ⟨h0, h1, h2, h3⟩ := h
    refine ⟨by omega, h1, restB_deep h0 (by omega) h2, ?_⟩
    by_cases hk : x.kind = 5 ∨ x.kind = 6
    · rw [if_pos hk] at h3 ⊢
      simp only [Bool.and_eq_true, decide_eq_true_eq] at h3 ⊢
      obtain ⟨h4, h5, h6, h7⟩ := h3
      refine ⟨by omega, restB_deep (by omega) (by omega) h5, List.all_eq_true.2 fun y hy => ih y _ _ (hsL y hy) (by omega) (List.all_eq_true.1 h6 y hy), List.all_eq_true.2 fun y hy => mayK_deep (hsM y hy) (fun x d d' => ih x d d') (by omega) (List.all_eq_true.1 h7 y hy)⟩
    · rw [if_neg hk]
theorem mayE_deep {W : World} {f : Nat} {x : Exm} {d d' : Int} (hs : ∀ y ∈ kvs W x.attrs, SmK W f y) (hu : x.unk.size ≤ 12000) (hd : d ≤ d' ∨ 12002 + 3 * (f : Int) ≤ d') (h : mayE W f d x = true) : mayE W f d' x = true := by
  unfold mayE at h ⊢
  simp only [Bool.and_eq_true, decide_eq_true_eq] at h ⊢
  obtain ⟨h0, h1, h2, h3⟩ := h
  exact ⟨by omega, h1, List.all_eq_true.2 fun y hy => mayK_deep (hs y hy) (fun x d d' => mayV_deep W f x d d') (by omega) (List.all_eq_true.1 h2 y hy), restB_deep h0 (by omega) h3⟩
end Go.Proofs.YtnghlkbmfhkmoaaGreatDoor
namespace Go.Proofs.YtnghlkbmfhkmoaaGreatDoor
open Go.RowKit Go.Proofs.YtnghlkbmfhkmoaaGreatDoorW.PrintWords Go.Proofs.YtnghlkbmfhkmoaaGreatDoorW.PrintLast Go.Proofs.YtnghlkbmfhkmoaaGreatDoorW.PrintMore Hy
def exmA (x : Exm) : Value := .agg (exmC x).toArray
/-- What is known of an exemplar that is little. -/
structure ExL (W : World) (x : Exm) : Prop where
  ok : ExmOk W x
  span : x.span.size ≤ 12000
  trace : x.trace.size ≤ 12000
  unk : x.unk.size ≤ 12000
  ks : ∀ y ∈ kvs W x.attrs, SmK W 41 y
  sum : ((kvs W x.attrs).map (kw W 41)).sum ≤ 12000
theorem exl_of {W : World} {x : Exm} {r : Int} (h : ExmOk W x) (hf : ∀ y ∈ kvs W x.attrs, FinV W 41 y.v) (hw : r + (xw W x : Int) ≤ 12000) (hr : 0 ≤ r) : ExL W x := by
  unfold xw at hw
  exact ⟨h, by omega, by omega, by omega, SmK.of hf (by omega), by omega⟩
noncomputable def exE (W : World) (x : Exm) : ByteArray := exmB x.time.toNat x.n.toNat x.kind x.span x.trace x.unk (catB (fun y => putB 7 (keyB (bytV W 41) y)) (kvs W x.attrs))
theorem marshal_good (W w : World) (x : Exm) (d : Int) (hW : Below W.heap.size W w) (hx : ExL W x) (hd1 : d < 9223372036854775808) (hm : mayE W 41 d x = true) :
    Calls Tryz.prog 10 #[.agg (exmC x).toArray, .int .i64 d] w fun e w' => e = .returned (.tuple #[.string (exE W x), .nilIface]) ∧ Below w.heap.size w w' := by
  have hd0 : 0 ≤ d := by unfold mayE at hm; simp only [Bool.and_eq_true, decide_eq_true_eq] at hm; exact hm.1
  have hk : ∀ y ∈ kvs W x.attrs, mayK (mayV W 41) (d - 1) y = true := by unfold mayE at hm; simp only [Bool.and_eq_true] at hm; exact List.all_eq_true.1 hm.2.2.1
  have hsz := keysB_le W 41 (kvs W x.attrs) (slAt_ok (kvs_at hx.ok.attrs)) hx.ks 7
  have hsum := hx.sum
  have HM : CB w 11 #[.agg (exmC x).toArray, .int .i64 d] true := fun w2 hb => by
    have h := emay_any W w2 41 x d (hW.trans (hb.mono hW.size)) hx.ok (by have := hx.unk; omega) hx.ks hd1
    rw [hm] at h
    exact h
  have HP : ∀ (b : Nat) (s : ByteArray) (w2 : World), Below w.heap.size w w2 → b ≤ w2.heap.size → w.heap.size ≤ b → s.size ≤ 1000000000 → WB b b s w2 → WAdds 24 b b s (catB (fun y => putB 7 (keyB (bytV W 41) y)) (kvs W x.attrs)) [.int .i64 7, x.attrs.v, .int .i64 d, .func (.func 25) #[] #[]] w2 :=
    fun b s w2 hb hbs hwb hs hwb2 => parts_any W w2 41 b s x.attrs 7 d (hW.trans (hb.mono hW.size)) hx.ok.attrs hx.ks hk hsum hd0 hd1 hs (Nat.le_trans hW.size hwb) hwb2 hbs
  have ht := hx.ok.time
  have hn := hx.ok.n
  have h1 := hx.span
  have h2 := hx.trace
  have h3 := hx.unk
  unfold exE
  generalize catB (fun y => putB 7 (keyB (bytV W 41) y)) (kvs W x.attrs) = P at *
  obtain ⟨at_, tm, kd, nn, sp, tr, uk⟩ := x
  simp only at ht hn h1 h2 h3 HP HM ⊢
  obtain ⟨tm, rfl⟩ := Int.eq_ofNat_of_zero_le ht.1
  obtain ⟨nn, rfl⟩ := Int.eq_ofNat_of_zero_le hn.1
  exact marsh_ok w at_ tm nn kd d sp tr uk P (by omega) (by omega) (by omega) (by omega) (by omega) (by omega) HM HP
theorem marshal_bad (W w : World) (x : Exm) (d : Int) (hW : Below W.heap.size W w) (hx : ExL W x) (hd1 : d < 9223372036854775808) (hm : mayE W 41 d x = false) :
    Calls Tryz.prog 10 #[.agg (exmC x).toArray, .int .i64 d] w fun e w' => e = .returned (.tuple #[.string ⟨#[]⟩, .iface 36 (.int .i64 8)]) ∧ Below w.heap.size w w' :=
  marsh_bad w x d fun w2 hb => by
    have h := emay_any W w2 41 x d (hW.trans (hb.mono hW.size)) hx.ok (by have := hx.unk; omega) hx.ks hd1
    rw [hm] at h
    exact h
theorem exE_le (W : World) (x : Exm) (hx : ExL W x) : (exE W x).size ≤ 100000 := by
  have hsz := keysB_le W 41 (kvs W x.attrs) (slAt_ok (kvs_at hx.ok.attrs)) hx.ks 7
  have hsum := hx.sum
  have h1 := hx.span
  have h2 := hx.trace
  have h3 := hx.unk
  unfold exE exmB
  generalize catB (fun y => putB 7 (keyB (bytV W 41) y)) (kvs W x.attrs) = P at *
  have e1 := whenB_le (decide (0 < x.time.toNat)) (recB 2 1 (st (leL 8 x.time.toNat)))
  have g1 := recB_le 2 1 (st (leL 8 x.time.toNat))
  have g2 := recB_le 3 1 (st (leL 8 x.n.toNat))
  have e2 := whenB_le (x.kind == 1) (recB 3 1 (st (leL 8 x.n.toNat)))
  have e3 := whenB_le (!(x.span.toList == [])) (recB 4 2 (put (x.span.size : Int) ++ x.span))
  have g3 := putB_le 4 x.span (by omega)
  have e4 := whenB_le (!(x.trace.toList == [])) (recB 5 2 (put (x.trace.size : Int) ++ x.trace))
  have g4 := putB_le 5 x.trace (by omega)
  have g5 := recB_le 6 1 (st (leL 8 x.n.toNat))
  have e5 := whenB_le (x.kind == 2) (recB 6 1 (st (leL 8 x.n.toNat)))
  have z : (⟨#[]⟩ : ByteArray).size = 0 := rfl
  unfold putB at g3 g4
  rw [st_size, leL_length] at g1 g2 g5
  simp only [ByteArray.size_append]
  omega
theorem size_any (W w : World) (x : Exm) (hW : Below W.heap.size W w) (hx : ExL W x) (hm : mayE W 41 1073741824 x = true) :
    Calls Tryz.prog 13 #[.agg (exmC x).toArray] w fun e w' => e = .returned (.int .i64 ((exE W x).size : Int)) ∧ Below w.heap.size w w' := by
  have A1 := Aside0.mk (fun w2 (hb : Below w.heap.size w w2) => marshal_good W w2 x 1073741824 (hW.trans (hb.mono hW.size)) hx (by omega) hm)
  have hl := exE_le W x hx
  generalize exE W x = E at *
  clear hW hx hm
  go_enter Tryz.func13, Tryz.ntmps13
  go_upto_region 1 with (with_reducible refine gate_dst (N := 1) rfl ?_; refine Great.wpList_boxTo rfl 25 _ rfl _ rfl w.heap.size rfl (exmC x).toArray rfl ?_)
  have HX : Aside0 (XEm (w.alloc (.cells (exmC x).toArray 25)) w.heap.size x) := ⟨⟨heap_alloc_new w _⟩⟩
  have HB : Aside0 (Below w.heap.size w (w.alloc (.cells (exmC x).toArray 25))) := ⟨(Below.refl _ _).alloc (Nat.le_refl _) _⟩
  generalize (w.alloc (.cells (exmC x).toArray 25)) = w1 at *
  generalize hg : w.heap.size = g at HX ⊢
  clear hg
  go_wp2_with (first
    | (refine wpList_load_row rfl 25 _ rfl g rfl 25 (exmC x).toArray (0, 0) _ HX.out.blk Tryz.underlying25 rfl (by kernel_rfl) ?_)
    | (go_at_call 10; with_reducible refine (A1.out _ HB.out).mono ?_; rintro e w2 ⟨rfl, hb2⟩; have n0_ := Aside0.mk (below_next HB.out hb2); clear HB hb2; have HB := n0_; clear n0_))
  go_ret
  exact ⟨rfl, HB.out⟩
set_option maxHeartbeats 4000000 in
set_option maxRecDepth 100000 in
theorem exemWrites_walk (x : Exm) (d : Int) (w : World) (hx : ExmOk w x) (_hsx : ∀ p, x.attrs.a = some p → p.spot = none) (_hd0 : -9223372036854775808 ≤ d) (hd1 : d < 9223372036854775808) (hg : Laid w) :
    Calls Tryz.prog 4 #[exmA x, .int .i64 d] w fun e w' => e = .returned (.bool true) ∧ Below w.heap.size w w' := by
  have FF := Aside0.mk (fun w2 (h : Below w.heap.size w w2) => exfirst_any w2 (hg.below h))
  have CC := Aside0.mk (fun w2 (h : Below w.heap.size w w2) => code_any (.code 8) (.iface 36 (.int .i64 8)) w2 (hg.below h) rfl)
  have R1 := Aside0.mk (fun w2 (h : Below w.heap.size w w2) => rexw_any w w2 x 12000 h hx (by omega) (by omega))
  have HXO := Aside0.mk hx
  have HD1 := Aside0.mk hd1
  clear hg hx _hsx _hd0 hd1
  unfold exmA
  go_enter Tryz.func4, Tryz.ntmps4
  go_upto_region 1 with (with_reducible refine gate_dst (N := 2) rfl ?_; refine Great.wpList_boxTo rfl 25 _ rfl _ rfl w.heap.size rfl (exmC x).toArray rfl ?_)
  have HX : Aside0 (XEm (w.alloc (.cells (exmC x).toArray 25)) w.heap.size x) := ⟨⟨heap_alloc_new w _⟩⟩
  have HB : Aside0 (Below w.heap.size w (w.alloc (.cells (exmC x).toArray 25))) := ⟨(Below.refl _ _).alloc (Nat.le_refl _) _⟩
  generalize (w.alloc (.cells (exmC x).toArray 25)) = w1 at *
  generalize hg1 : w.heap.size = g at HX ⊢
  clear hg1
  go_wp2_with (first
    | (go_at_call 5; with_reducible refine (FF.out _ HB.out).mono ?_; rintro e wn ⟨rfl, hb⟩; have n0_ := Aside0.mk (below_next HB.out hb); have n1_ := Aside0.mk (HX.out.below hb); clear HB HX hb; have HB := n0_; have HX := n1_; clear n0_ n1_)
    | (refine wpList_load_rowG (by rfl) 25 _ rfl g rfl 25 (exmC x).toArray (0, 0) _ HX.out.blk Tryz.underlying25 rfl (by kernel_rfl) ?_))
  refine (R1.out _ HB.out).mono ?_
  rintro e w3 ⟨r1, rfl, hr1, hb⟩
  have n0_ := Aside0.mk (below_next HB.out hb)
  have n1_ := Aside0.mk (HX.out.below hb)
  clear HB HX hb
  have HB := n0_
  have HX := n1_
  clear n0_ n1_
  by_cases c1 : r1 < 0
  · clear hr1
    go_wp2_with (go_at_call 5; with_reducible refine (FF.out _ HB.out).mono ?_; rintro e wn ⟨rfl, hb⟩; have n0_ := Aside0.mk (below_next HB.out hb); have n1_ := Aside0.mk (HX.out.below hb); clear HB HX hb; have HB := n0_; have HX := n1_; clear n0_ n1_)
    go_ret
    exact ⟨rfl, HB.out⟩
  · have hr := hr1.2 (by omega)
    have hL := exl_of HXO.out hr.1 hr.2 (by omega)
    have hu := hL.unk
    have d1 : decide (r1 < 0) = false := decide_eq_false c1
    have M1 := fun w2 (h : Below w.heap.size w w2) => rmx_any w w2 41 x d h HXO.out (by omega) hL.ks HD1.out
    have M3 := fun w2 (h : Below w.heap.size w w2) => emay_any w w2 41 x d h HXO.out (by omega) hL.ks HD1.out
    cases hm : mayE w 41 d x
    · have M2 := Aside0.mk (fun w2 (h : Below w.heap.size w w2) => marshal_bad w w2 x d h hL HD1.out hm)
      rw [hm] at M1 M3
      have M1 := Aside0.mk M1
      have M3 := Aside0.mk M3
      clear hr1 hr hL hu hm
      go_wp2_with (first
        | (go_at_call 5; with_reducible refine (FF.out _ HB.out).mono ?_; rintro e wn ⟨rfl, hb⟩; have n0_ := Aside0.mk (below_next HB.out hb); have n1_ := Aside0.mk (HX.out.below hb); clear HB HX hb; have HB := n0_; have HX := n1_; clear n0_ n1_)
        | (go_at_call 9; with_reducible refine (M1.out _ HB.out).mono ?_; rintro e wn ⟨rfl, hb⟩; have n0_ := Aside0.mk (below_next HB.out hb); have n1_ := Aside0.mk (HX.out.below hb); clear HB HX hb; have HB := n0_; have HX := n1_; clear n0_ n1_)
        | (go_at_call 10; with_reducible refine (M2.out _ HB.out).mono ?_; rintro e wn ⟨rfl, hb⟩; have n0_ := Aside0.mk (below_next HB.out hb); have n1_ := Aside0.mk (HX.out.below hb); clear HB HX hb; have HB := n0_; have HX := n1_; clear n0_ n1_)
        | (go_at_call 11; with_reducible refine (M3.out _ HB.out).mono ?_; rintro e wn ⟨rfl, hb⟩; have n0_ := Aside0.mk (below_next HB.out hb); have n1_ := Aside0.mk (HX.out.below hb); clear HB HX hb; have HB := n0_; have HX := n1_; clear n0_ n1_)
        | (go_at_call 14; with_reducible refine (CC.out _ HB.out).mono ?_; rintro e wn ⟨rfl, hb⟩; have n0_ := Aside0.mk (below_next HB.out hb); have n1_ := Aside0.mk (HX.out.below hb); clear HB HX hb; have HB := n0_; have HX := n1_; clear n0_ n1_)
        | (refine wpList_load_rowG (by rfl) 25 _ rfl g rfl 25 (exmC x).toArray (0, 0) _ HX.out.blk Tryz.underlying25 rfl (by kernel_rfl) ?_))
      go_ret
      exact ⟨rfl, HB.out⟩
    · have M2 := Aside0.mk (fun w2 (h : Below w.heap.size w w2) => marshal_good w w2 x d h hL HD1.out hm)
      have hD := mayE_deep (d' := 1073741824) hL.ks hL.unk (by omega) hm
      have A5 := Aside0.mk (fun w2 (h : Below w.heap.size w w2) => size_any w w2 x h hL hD)
      have hgd : ∀ y ∈ kvs w x.attrs, GdK w 41 y := fun y hy => by
        have h_ := hm
        unfold mayE at h_
        simp only [Bool.and_eq_true] at h_
        exact ⟨_, List.all_eq_true.1 h_.2.2.1 y hy⟩
      have A4 := Aside0.mk (fun w2 (h : Below w.heap.size w w2) => (show Calls Tryz.prog 12 #[.agg (exmC x).toArray] w2 (fun e w' => e = .returned (.string (exE w x)) ∧ Below w2.heap.size w2 w') from rexm_bytes w w2 41 x h HXO.out hL.span hL.trace hL.unk hL.ks hgd hL.sum HXO.out.time.1 HXO.out.n.1))
      rw [hm] at M1 M3
      have M1 := Aside0.mk M1
      have M3 := Aside0.mk M3
      generalize exE w x = E at *
      have hEE : (E.toList == E.toList) = true := beq_self_eq_true _
      clear hr1 hr hL hu hm hD hgd
      go_wp2_with (first
        | (go_at_call 5; with_reducible refine (FF.out _ HB.out).mono ?_; rintro e wn ⟨rfl, hb⟩; have n0_ := Aside0.mk (below_next HB.out hb); have n1_ := Aside0.mk (HX.out.below hb); clear HB HX hb; have HB := n0_; have HX := n1_; clear n0_ n1_)
        | (go_at_call 9; with_reducible refine (M1.out _ HB.out).mono ?_; rintro e wn ⟨rfl, hb⟩; have n0_ := Aside0.mk (below_next HB.out hb); have n1_ := Aside0.mk (HX.out.below hb); clear HB HX hb; have HB := n0_; have HX := n1_; clear n0_ n1_)
        | (go_at_call 10; with_reducible refine (M2.out _ HB.out).mono ?_; rintro e wn ⟨rfl, hb⟩; have n0_ := Aside0.mk (below_next HB.out hb); have n1_ := Aside0.mk (HX.out.below hb); clear HB HX hb; have HB := n0_; have HX := n1_; clear n0_ n1_)
        | (go_at_call 11; with_reducible refine (M3.out _ HB.out).mono ?_; rintro e wn ⟨rfl, hb⟩; have n0_ := Aside0.mk (below_next HB.out hb); have n1_ := Aside0.mk (HX.out.below hb); clear HB HX hb; have HB := n0_; have HX := n1_; clear n0_ n1_)
        | (go_at_call 12; with_reducible refine (A4.out _ HB.out).mono ?_; rintro e wn ⟨rfl, hb⟩; have n0_ := Aside0.mk (below_next HB.out hb); have n1_ := Aside0.mk (HX.out.below hb); clear HB HX hb; have HB := n0_; have HX := n1_; clear n0_ n1_)
        | (go_at_call 13; with_reducible refine (A5.out _ HB.out).mono ?_; rintro e wn ⟨rfl, hb⟩; have n0_ := Aside0.mk (below_next HB.out hb); have n1_ := Aside0.mk (HX.out.below hb); clear HB HX hb; have HB := n0_; have HX := n1_; clear n0_ n1_)
        | (refine wpList_load_rowG (by rfl) 25 _ rfl g rfl 25 (exmC x).toArray (0, 0) _ HX.out.blk Tryz.underlying25 rfl (by kernel_rfl) ?_))
      go_ret
      exact ⟨rfl, HB.out⟩
end Go.Proofs.YtnghlkbmfhkmoaaGreatDoor
namespace Go.Proofs.YtnghlkbmfhkmoaaGreatDoor
open Go.RowKit
theorem seat_et : Tryz.prog.globalNamed "errors.errorType" = some 0 := by kernel_rfl
theorem seat_rt : (Tryz.prog.cutTypes.find? (·.1 == "internal/reflectlite.rtype")).map (·.2) = some 118 := by kernel_rfl
theorem seat_oneRow : ((List.range 193).filter fun t => Tryz.prog.rowNamed t [101, 114, 114, 111, 114]) = [31] := by kernel_rfl
theorem seat_size : Tryz.prog.types.size = 193 := by kernel_rfl
/-- What the condition gives a walk: the variable's one cell. -/
theorem laid_of {W : World} (h : laidMetH Tryz.prog [("errors.errorType", Rows.laid_errors_errorType)] W) : Laid W := by
  have h' : laidMet Tryz.prog [] W ∧ handlesMet Tryz.prog [("errors.errorType", Rows.laid_errors_errorType)] W := h
  obtain ⟨name, u, ty, e1, e2, e3, e4, e5⟩ := h'.2 _ (List.mem_singleton.2 rfl)
  have en : name = [101, 114, 114, 111, 114] := (Option.some.inj e1).symm
  subst en
  obtain rfl := Option.some.inj (seat_rt.symm.trans e2)
  have hm : ty ∈ (List.range 193).filter fun t => Tryz.prog.rowNamed t [101, 114, 114, 111, 114] := List.mem_filter.2 ⟨List.mem_range.2 (by rw [← seat_size]; exact e3), e4⟩
  rw [seat_oneRow] at hm
  obtain rfl := List.mem_singleton.1 hm
  have hh : typeHandle Tryz.prog 31 = .pointer (some ⟨1, 31, none⟩) := by kernel_rfl
  rw [hh] at e5
  unfold Laid
  simpa using World.var?_cell seat_et e5 0
/-- A world that meets the condition. -/
noncomputable def laidWorld (os : Os) : World :=
  let w0 := World.holding Tryz.prog os ⟨#[], #[], []⟩
  { w0 with heap := w0.heap.modify 0 fun
      | .cells _ t frozen => .cells #[.iface 118 (.agg #[.pointer (some ⟨1, 31, none⟩)])] t frozen
      | o => o }
theorem laidWorld_met (os : Os) (args : Array Value) : laidMetH Tryz.prog [("errors.errorType", Rows.laid_errors_errorType)] ((laidWorld os).forCall (fun _ _ => 0) ⟨#[], args, []⟩).memory :=
  laidMetH_of_parts (laidMet_nil _ _) (by kernel_rfl)
end Go.Proofs.YtnghlkbmfhkmoaaGreatDoor
namespace Go.Proofs.YtnghlkbmfhkmoaaGreatDoor
open Go.RowKit
/-- The address in a struct's slice has no spot. -/
theorem spot_at {P : Program} {W : World} {base t e : Nat} {fs : Array Field} {cs : Array Value} {a : Option Addr} {len cap : Nat} {r : Reach} (j : Nat) (ht : P.underlying t = some (.struct fs)) (u : Nat)
    (hc : (P.cellTypes P.depth t).map (fun ts => ts[j % ts.length]?) = some (some u)) (hu : P.underlying u = some (.slice e)) (h : Value.okWide P W r base t (.agg cs)) (h0 : cs[j]? = some (.slice a len cap)) : ∀ b, a = some b → b.spot = none := by
  intro b hb
  subst hb
  simp only [Value.okWide, ht] at h
  obtain ⟨cs', hcs, _, ts, hts, _, hrow⟩ := h
  injection hcs with hcs
  subst hcs
  obtain ⟨u', hu', hcell⟩ := hrow j _ h0
  rw [hts] at hc
  simp only [Option.map_some, Option.some.injEq] at hc
  rw [hu'] at hc
  injection hc with hc
  subst hc
  simp only [Cell.okWide, hu, Cell.ok] at hcell
  exact hcell.2.2.2.1
end Go.Proofs.YtnghlkbmfhkmoaaGreatDoor
