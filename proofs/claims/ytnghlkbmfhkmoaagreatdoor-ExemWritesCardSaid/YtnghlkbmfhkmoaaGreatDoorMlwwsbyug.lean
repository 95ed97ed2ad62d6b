import Derived.Test.YtnghlkbmfhkmoaaGreatDoorMmmsfdqrm
import Derived.Test.YtnghlkbmfhkmoaaGreatDoorMophrpqnn
namespace Go.Proofs.YtnghlkbmfhkmoaaGreatDoor
open Go.RowKit Go.Proofs.YtnghlkbmfhkmoaaGreatDoorW.PrintWords Go.Proofs.YtnghlkbmfhkmoaaGreatDoorW.PrintLast Go.Proofs.YtnghlkbmfhkmoaaGreatDoorW.PrintMore Hy
/-! ### what is written -/
theorem empty_app (s : ByteArray) : (⟨#[]⟩ : ByteArray) ++ s = s := ByteArray.empty_append
def PW (W : World) (f : Nat) : Prop := ∀ (w : World) (x : Vl), Below W.heap.size W w → VlOk W x → SmV W f x → Calls Tryz.prog 73 #[.agg (vlC x).toArray] w fun e w' => e = .returned (.string (bytV W f x)) ∧ Below w.heap.size w w'
def PWK (W : World) (f : Nat) : Prop := ∀ (w : World) (y : Kv), Below W.heap.size W w → KvOk W y → SmK W f y → Calls Tryz.prog 49 #[.agg (kvC y).toArray] w fun e w' => e = .returned (.string (keyB (bytV W f) y)) ∧ Below w.heap.size w w'
def PPV (W : World) (f : Nat) : Prop := ∀ (w : World) (s : Sl) (r : ByteArray), Below W.heap.size W w → Rd Tryz.prog W 55 [s.v] → (∀ y ∈ vls W s, SmV W f y) → ((vls W s).map (wtV W f)).sum ≤ 12000 → r.size ≤ 12000 →
  Calls Tryz.prog 94 #[s.v, .func (.func 73) #[] #[], .string r] w fun e w' => e = .returned (.string (catB (fun y => putB 1 (bytV W f y)) (vls W s) ++ r)) ∧ Below w.heap.size w w'
def PPK (W : World) (f : Nat) : Prop := ∀ (w : World) (s : Sl) (r : ByteArray), Below W.heap.size W w → Rd Tryz.prog W 22 [s.v] → (∀ y ∈ kvs W s, SmK W f y) → ((kvs W s).map (kw W f)).sum ≤ 12000 → r.size ≤ 12000 →
  Calls Tryz.prog 95 #[s.v, .func (.func 49) #[] #[], .string r] w fun e w' => e = .returned (.string (catB (fun y => putB 1 (keyB (bytV W f) y)) (kvs W s) ++ r)) ∧ Below w.heap.size w w'
theorem catB_le {α : Type} (f : α → ByteArray) (g : α → Nat) (l : List α) (i : Nat) (h : ∀ x ∈ l, (f x).size ≤ g x) : (catB f (l.take i)).size ≤ (l.map g).sum := by
  refine Nat.le_trans (catB_size f g _ (fun x hx => h x (List.mem_of_mem_take hx))) ?_
  have h2 : (l.map g).sum = ((l.take i).map g).sum + ((l.drop i).map g).sum := by rw [← List.sum_append, ← List.map_append, List.take_append_drop]
  omega
set_option maxHeartbeats 4000000 in
set_option maxRecDepth 100000 in
theorem ppv_any (W : World) (f : Nat) (HE : PW W f) : PPV W f := by
  intro w s r hW hs hf hw hr
  have hl := vls_at hs
  generalize vls W s = l at *
  obtain ⟨sa, sn, sc⟩ := s
  obtain rfl : sn = l.length := hl.1
  have hlm : l.length ≤ 9223372036854775807 := by have h := hl.2.1; have h2 := hl.2.2.1; unfold maxLen at h2; simp only at h h2; omega
  have hP : ∀ y ∈ l, ((fun y => putB 1 (bytV W f y)) y).size ≤ wtV W f y := fun y hy => show (putB 1 (bytV W f y)).size ≤ wtV W f y from by have e1 := bytV_le W f y (slAt_ok hl y hy) (hf y hy); have e2 := (hf y hy).2; have e3 := putB_le 1 (bytV W f y) (by omega); omega
  have HP := Aside0.mk hP
  have HL := Aside0.mk hl
  have HW := Aside0.mk hW
  have HF := Aside0.mk hf
  have HSM := Aside0.mk hw
  have HRS := Aside0.mk hr
  have HVV := Aside0.mk HE
  have HB0 := Aside0.mk (Below.refl w.heap.size w)
  unfold Sl.v
  clear hl hW hf HE hs hP hw hr
  generalize hpt : (fun y => putB 1 (bytV W f y)) = pt at HP ⊢
  have HPT := Aside0.mk hpt
  clear hpt
  go_enter Tryz.func94, Tryz.ntmps94
  go_upto_region 2 with fail
  have HB : Aside0 (Below w.heap.size w (w.alloc (.cells #[.pointer none, .slice none 0 0] 50))) := ⟨HB0.out.alloc HB0.out.size _⟩
  have HWB : Aside0 (WB w.heap.size w.heap.size (catB pt (l.take 0)) (w.alloc (.cells #[.pointer none, .slice none 0 0] 50))) := ⟨WB.new w⟩
  have HWS : Aside0 (w.heap.size ≤ (w.alloc (.cells #[.pointer none, .slice none 0 0] 50)).heap.size) := ⟨by rw [World.size_alloc]; omega⟩
  generalize (w.alloc (.cells #[.pointer none, .slice none 0 0] 50)) = w1 at *
  obtain ⟨b, hb_⟩ : ∃ b, w.heap.size = b := ⟨_, rfl⟩
  rw [hb_] at HWB HWS ⊢
  have HBW := Aside0.mk hb_
  clear HB0 hb_
  go_wp2_with fail
  go_loopw [12] (fun v12 w' => ∃ i : Nat, v12 = .int .i64 (i : Int) ∧ i ≤ l.length ∧ Aside0 (WB b b (catB pt (l.take i)) w') ∧ Aside0 (b ≤ w'.heap.size) ∧ Aside0 (Below w.heap.size w w')) (fun v12 _ => l.length - (intOf v12).toNat)
  case atStart => exact ⟨0, rfl, Nat.zero_le _, HWB, HWS, HB⟩
  case round =>
    clear HB HWB HWS
    obtain ⟨i, rfl, hi, HWB, HWS, HB⟩ := hrel
    by_cases hlt : i < l.length
    · obtain ⟨ad, rfl, hel⟩ := HL.out.2.2.2 (by omega)
      obtain ⟨he1, he2⟩ := hel i hlt
      have hfi := HF.out l[i] (List.getElem_mem hlt)
      have hpi := HP.out l[i] (List.getElem_mem hlt)
      have hsi := sum_mem (g := wtV W f) (List.getElem_mem hlt)
      have hci := catB_le pt (wtV W f) l i HP.out
      have hni := catB_next pt l i l[i] (List.getElem?_eq_getElem hlt)
      have hpe : pt l[i] = putB 1 (bytV W f l[i]) := by rw [← HPT.out]
      generalize l[i] = y at *
      have hWr : Below W.heap.size W wr := HW.out.trans (HB.out.mono HW.out.size)
      have HPX := Aside0.mk (cells_below hWr (vl_cells he1))
      have HKY := Aside0.mk (fun w2 (hb : Below wr.heap.size wr w2) => HVV.out w2 y (hWr.trans (hb.mono hWr.size)) he2 hfi)
      obtain ⟨q, hq⟩ : ∃ q, bytV W f y = q := ⟨_, rfl⟩
      rw [hq] at HKY hpe
      have hqs : q.size ≤ 12000 := by
        have h_ : q.size ≤ (putB 1 q).size := by unfold putB recB; rw [if_neg (by decide), ByteArray.size_append, ByteArray.size_append]; omega
        rw [hpe] at hpi
        have := HSM.out
        omega
      obtain ⟨sA, hsA⟩ : ∃ sA, catB pt (l.take i) = sA := ⟨_, rfl⟩
      obtain ⟨sB, hsB⟩ : ∃ sB, catB pt (l.take (i + 1)) = sB := ⟨_, rfl⟩
      have HWPt := Aside0.mk (fun (w2 : World) (h : WB b b sA w2) (hb : b ≤ w2.heap.size) => (show Calls Tryz.prog 47 #[.pointer (some ⟨b, 0, none⟩), .int .i64 1, .string q] w2 (fun e w' => e = .returned (.tuple #[]) ∧ WB b b sB w' ∧ Below b w2 w') from by
        have h_ := wpart_any b b sA 1 q (by omega) w2 h (by have e1 := putB_le 1 q (by omega); unfold putB at e1; have e2 := HSM.out; rw [hsA] at hci; omega) hb
        rw [← hsB, hni, hsA, hpe]
        exact h_))
      rw [hsA] at HWB
      have HBr := HB
      have HSB := Aside0.mk hsB
      clear HB he1 he2 hel hfi hWr hpi hsi hci hni hpe hq hqs hsA hsB
      have c1 : (i : Int) < (l.length : Int) := by omega
      have c2 : (0 : Int) ≤ (i : Int) := by omega
      go_upto_region 5 with (first
        | ((with_reducible refine gate_dst (N := 15) rfl ?_); refine wpList_load_at rfl 57 _ rfl (ad.add (i * 8)) rfl (vlC y) HPX.out Tryz.underlying57 rfl (by kernel_rfl) ?_)
        | ((with_reducible refine gate_dst (N := 9) rfl ?_); refine wpList_allocZ rfl 57 rfl zcV zeroV (by kernel_rfl) rfl ?_)
        | (refine wpList_store_row rfl 57 _ _ rfl wr.heap.size (vlC y).toArray rfl rfl 57 zcV (heap_alloc_new wr _) (by kernel_rfl) zcV_sz (vlC_all _) ?_))
      have hB1 : Below wr.heap.size wr ((wr.alloc (.cells zcV 57)).setRow wr.heap.size (vlC y).toArray) := below_copy (Below.refl _ _) _ _
      have H1 := Aside0.mk (show XVl ((wr.alloc (.cells zcV 57)).setRow wr.heap.size (vlC y).toArray) wr.heap.size y from ⟨copy_at _ _ _⟩)
      have HWB1 := Aside0.mk (HWB.out.below hB1)
      have HWS1 := Aside0.mk (Nat.le_trans HWS.out hB1.size)
      generalize (wr.alloc (.cells zcV 57)).setRow wr.heap.size (vlC y).toArray = w2 at *
      generalize hp1 : wr.heap.size = p1 at H1 ⊢
      clear hp1
      have HB := Aside0.mk hB1
      have HBn := Aside0.mk (below_next HBr.out hB1)
      clear hB1 HPX HWB HWS HBr
      go_wp2_with (first
        | (refine wpList_load_row rfl 57 _ rfl p1 rfl 57 (vlC y).toArray (0, 0) _ H1.out.blk Tryz.underlying57 rfl (by kernel_rfl) ?_)
        | (go_at_call 73; with_reducible refine (HKY.out _ HB.out).mono ?_; rintro e w4 ⟨rfl, hb⟩; have n0_ := Aside0.mk (below_next HBn.out hb); have n1_ := Aside0.mk (HWB1.out.below hb); have n2_ := Aside0.mk (Nat.le_trans HWS1.out hb.size); clear HB HBn HWB1 HWS1 hb H1; have HBn := n0_; have HWB1 := n1_; have HWS1 := n2_; clear n0_ n1_ n2_)
        | (go_at_call 47; with_reducible refine (HWPt.out _ HWB1.out HWS1.out).mono ?_; rintro e w5 ⟨rfl, hw5, hb⟩; have n0_ := Aside0.mk (HBn.out.trans (hb.mono (by rw [HBW.out]; exact Nat.le_refl _))); have n1_ := Aside0.mk hw5; have n2_ := Aside0.mk (Nat.le_trans HWS1.out hb.size); clear HBn HWB1 HWS1 hb hw5; have HBn := n0_; have HWB1 := n1_; have HWS1 := n2_; clear n0_ n1_ n2_))
      go_roundw
      case rel => exact ⟨i + 1, by go_num, by omega, ⟨by rw [HSB.out]; exact HWB1.out⟩, HWS1, HBn⟩
      case measure => simp [intOf]; omega
    · have hca := catB_all pt l i (by omega)
      rw [hca] at HWB
      have hcs := catB_le pt (wtV W f) l i HP.out
      rw [hca] at hcs
      have HCS := Aside0.mk (show (catB pt l).size + r.size ≤ 140737488355328 by have := HSM.out; have := HRS.out; omega)
      clear hca hcs
      obtain ⟨sA, hsA⟩ : ∃ sA, catB pt l = sA := ⟨_, rfl⟩
      rw [hsA] at HWB HCS
      have HSA := Aside0.mk hsA
      clear hsA
      have HRW := Aside0.mk (fun (w2 : World) (h : WB b b sA w2) (hb : b ≤ w2.heap.size) => (show Calls Tryz.prog 26 #[.pointer (some ⟨b, 0, none⟩), .string r] w2 (fun e w' => e = .returned (.tuple #[]) ∧ WB b b (sA ++ r) w' ∧ Below b w2 w') from wraw_any b b sA r w2 h HCS.out hb))
      go_wp2_with (first
        | (go_at_call 26; with_reducible refine (HRW.out _ HWB.out HWS.out).mono ?_; rintro e w5 ⟨rfl, hw5, hb⟩; have n0_ := Aside0.mk (HB.out.trans (hb.mono (by rw [HBW.out]; exact Nat.le_refl _))); have n1_ := Aside0.mk hw5; have n2_ := Aside0.mk (Nat.le_trans HWS.out hb.size); clear HB HWB HWS hb hw5; have HB := n0_; have HWB := n1_; have HWS := n2_; clear n0_ n1_ n2_)
        | (go_at_call 27; with_reducible refine (wstring_any b b _ _ HWB.out HWS.out).mono ?_; rintro e w6 ⟨rfl, hb⟩; have n0_ := Aside0.mk (HB.out.trans (hb.mono (by rw [HBW.out]; exact Nat.le_refl _))); clear HB hb; have HB := n0_; clear n0_))
      go_ret
      exact ⟨by rw [HSA.out]; rfl, HB.out⟩
set_option maxHeartbeats 4000000 in
set_option maxRecDepth 100000 in
theorem ppk_any (W : World) (f : Nat) (HE : PWK W f) : PPK W f := by
  intro w s r hW hs hf hw hr
  have hl := kvs_at hs
  generalize kvs W s = l at *
  obtain ⟨sa, sn, sc⟩ := s
  obtain rfl : sn = l.length := hl.1
  have hlm : l.length ≤ 9223372036854775807 := by have h := hl.2.1; have h2 := hl.2.2.1; unfold maxLen at h2; simp only at h h2; omega
  have hP : ∀ y ∈ l, ((fun y => putB 1 (keyB (bytV W f) y)) y).size ≤ kw W f y := fun y hy => show (putB 1 (keyB (bytV W f) y)).size ≤ kw W f y from by have e1 := keyB_le (hf y hy) (bytV_le W f y.v (slAt_ok hl y hy).v (hf y hy).v); have e2 := sum_mem (g := kw W f) hy; have e3 := putB_le 1 (keyB (bytV W f) y) (by omega); omega
  have HP := Aside0.mk hP
  have HL := Aside0.mk hl
  have HW := Aside0.mk hW
  have HF := Aside0.mk hf
  have HSM := Aside0.mk hw
  have HRS := Aside0.mk hr
  have HVV := Aside0.mk HE
  have HB0 := Aside0.mk (Below.refl w.heap.size w)
  unfold Sl.v
  clear hl hW hf HE hs hP hw hr
  generalize hpt : (fun y => putB 1 (keyB (bytV W f) y)) = pt at HP ⊢
  have HPT := Aside0.mk hpt
  clear hpt
  go_enter Tryz.func95, Tryz.ntmps95
  go_upto_region 2 with fail
  have HB : Aside0 (Below w.heap.size w (w.alloc (.cells #[.pointer none, .slice none 0 0] 50))) := ⟨HB0.out.alloc HB0.out.size _⟩
  have HWB : Aside0 (WB w.heap.size w.heap.size (catB pt (l.take 0)) (w.alloc (.cells #[.pointer none, .slice none 0 0] 50))) := ⟨WB.new w⟩
  have HWS : Aside0 (w.heap.size ≤ (w.alloc (.cells #[.pointer none, .slice none 0 0] 50)).heap.size) := ⟨by rw [World.size_alloc]; omega⟩
  generalize (w.alloc (.cells #[.pointer none, .slice none 0 0] 50)) = w1 at *
  obtain ⟨b, hb_⟩ : ∃ b, w.heap.size = b := ⟨_, rfl⟩
  rw [hb_] at HWB HWS ⊢
  have HBW := Aside0.mk hb_
  clear HB0 hb_
  go_wp2_with fail
  go_loopw [12] (fun v12 w' => ∃ i : Nat, v12 = .int .i64 (i : Int) ∧ i ≤ l.length ∧ Aside0 (WB b b (catB pt (l.take i)) w') ∧ Aside0 (b ≤ w'.heap.size) ∧ Aside0 (Below w.heap.size w w')) (fun v12 _ => l.length - (intOf v12).toNat)
  case atStart => exact ⟨0, rfl, Nat.zero_le _, HWB, HWS, HB⟩
  case round =>
    clear HB HWB HWS
    obtain ⟨i, rfl, hi, HWB, HWS, HB⟩ := hrel
    by_cases hlt : i < l.length
    · obtain ⟨ad, rfl, hel⟩ := HL.out.2.2.2 (by omega)
      obtain ⟨he1, he2⟩ := hel i hlt
      have hfi := HF.out l[i] (List.getElem_mem hlt)
      have hpi := HP.out l[i] (List.getElem_mem hlt)
      have hsi := sum_mem (g := kw W f) (List.getElem_mem hlt)
      have hci := catB_le pt (kw W f) l i HP.out
      have hni := catB_next pt l i l[i] (List.getElem?_eq_getElem hlt)
      have hpe : pt l[i] = putB 1 (keyB (bytV W f) l[i]) := by rw [← HPT.out]
      generalize l[i] = y at *
      have hWr : Below W.heap.size W wr := HW.out.trans (HB.out.mono HW.out.size)
      have HPX := Aside0.mk (cells_below hWr (kv_cells he1))
      have HKY := Aside0.mk (fun w2 (hb : Below wr.heap.size wr w2) => HVV.out w2 y (hWr.trans (hb.mono hWr.size)) he2 hfi)
      obtain ⟨q, hq⟩ : ∃ q, keyB (bytV W f) y = q := ⟨_, rfl⟩
      rw [hq] at HKY hpe
      have hqs : q.size ≤ 12000 := by
        have h_ : q.size ≤ (putB 1 q).size := by unfold putB recB; rw [if_neg (by decide), ByteArray.size_append, ByteArray.size_append]; omega
        rw [hpe] at hpi
        have := HSM.out
        omega
      obtain ⟨sA, hsA⟩ : ∃ sA, catB pt (l.take i) = sA := ⟨_, rfl⟩
      obtain ⟨sB, hsB⟩ : ∃ sB, catB pt (l.take (i + 1)) = sB := ⟨_, rfl⟩
      have HWPt := Aside0.mk (fun (w2 : World) (h : WB b b sA w2) (hb : b ≤ w2.heap.size) => (show Calls Tryz.prog 47 #[.pointer (some ⟨b, 0, none⟩), .int .i64 1, .string q] w2 (fun e w' => e = .returned (.tuple #[]) ∧ WB b b sB w' ∧ Below b w2 w') from by
        have h_ := wpart_any b b sA 1 q (by omega) w2 h (by have e1 := putB_le 1 q (by omega); unfold putB at e1; have e2 := HSM.out; rw [hsA] at hci; omega) hb
        rw [← hsB, hni, hsA, hpe]
        exact h_))
      rw [hsA] at HWB
      have HBr := HB
      have HSB := Aside0.mk hsB
      clear HB he1 he2 hel hfi hWr hpi hsi hci hni hpe hq hqs hsA hsB
      have c1 : (i : Int) < (l.length : Int) := by omega
      have c2 : (0 : Int) ≤ (i : Int) := by omega
      go_upto_region 5 with (first
        | ((with_reducible refine gate_dst (N := 15) rfl ?_); refine wpList_load_at rfl 59 _ rfl (ad.add (i * 11)) rfl (kvC y) HPX.out Tryz.underlying59 rfl (by kernel_rfl) ?_)
        | ((with_reducible refine gate_dst (N := 9) rfl ?_); refine wpList_allocZ rfl 59 rfl zcK zeroK (by kernel_rfl) rfl ?_)
        | (refine wpList_store_row rfl 59 _ _ rfl wr.heap.size (kvC y).toArray rfl rfl 59 zcK (heap_alloc_new wr _) (by kernel_rfl) zcK_sz (kvC_all _) ?_))
      have hB1 : Below wr.heap.size wr ((wr.alloc (.cells zcK 59)).setRow wr.heap.size (kvC y).toArray) := below_copy (Below.refl _ _) _ _
      have H1 := Aside0.mk (show XK ((wr.alloc (.cells zcK 59)).setRow wr.heap.size (kvC y).toArray) wr.heap.size y from ⟨copy_at _ _ _⟩)
      have HWB1 := Aside0.mk (HWB.out.below hB1)
      have HWS1 := Aside0.mk (Nat.le_trans HWS.out hB1.size)
      generalize (wr.alloc (.cells zcK 59)).setRow wr.heap.size (kvC y).toArray = w2 at *
      generalize hp1 : wr.heap.size = p1 at H1 ⊢
      clear hp1
      have HB := Aside0.mk hB1
      have HBn := Aside0.mk (below_next HBr.out hB1)
      clear hB1 HPX HWB HWS HBr
      go_wp2_with (first
        | (refine wpList_load_row rfl 59 _ rfl p1 rfl 59 (kvC y).toArray (0, 0) _ H1.out.blk Tryz.underlying59 rfl (by kernel_rfl) ?_)
        | (go_at_call 49; with_reducible refine (HKY.out _ HB.out).mono ?_; rintro e w4 ⟨rfl, hb⟩; have n0_ := Aside0.mk (below_next HBn.out hb); have n1_ := Aside0.mk (HWB1.out.below hb); have n2_ := Aside0.mk (Nat.le_trans HWS1.out hb.size); clear HB HBn HWB1 HWS1 hb H1; have HBn := n0_; have HWB1 := n1_; have HWS1 := n2_; clear n0_ n1_ n2_)
        | (go_at_call 47; with_reducible refine (HWPt.out _ HWB1.out HWS1.out).mono ?_; rintro e w5 ⟨rfl, hw5, hb⟩; have n0_ := Aside0.mk (HBn.out.trans (hb.mono (by rw [HBW.out]; exact Nat.le_refl _))); have n1_ := Aside0.mk hw5; have n2_ := Aside0.mk (Nat.le_trans HWS1.out hb.size); clear HBn HWB1 HWS1 hb hw5; have HBn := n0_; have HWB1 := n1_; have HWS1 := n2_; clear n0_ n1_ n2_))
      go_roundw
      case rel => exact ⟨i + 1, by go_num, by omega, ⟨by rw [HSB.out]; exact HWB1.out⟩, HWS1, HBn⟩
      case measure => simp [intOf]; omega
    · have hca := catB_all pt l i (by omega)
      rw [hca] at HWB
      have hcs := catB_le pt (kw W f) l i HP.out
      rw [hca] at hcs
      have HCS := Aside0.mk (show (catB pt l).size + r.size ≤ 140737488355328 by have := HSM.out; have := HRS.out; omega)
      clear hca hcs
      obtain ⟨sA, hsA⟩ : ∃ sA, catB pt l = sA := ⟨_, rfl⟩
      rw [hsA] at HWB HCS
      have HSA := Aside0.mk hsA
      clear hsA
      have HRW := Aside0.mk (fun (w2 : World) (h : WB b b sA w2) (hb : b ≤ w2.heap.size) => (show Calls Tryz.prog 26 #[.pointer (some ⟨b, 0, none⟩), .string r] w2 (fun e w' => e = .returned (.tuple #[]) ∧ WB b b (sA ++ r) w' ∧ Below b w2 w') from wraw_any b b sA r w2 h HCS.out hb))
      go_wp2_with (first
        | (go_at_call 26; with_reducible refine (HRW.out _ HWB.out HWS.out).mono ?_; rintro e w5 ⟨rfl, hw5, hb⟩; have n0_ := Aside0.mk (HB.out.trans (hb.mono (by rw [HBW.out]; exact Nat.le_refl _))); have n1_ := Aside0.mk hw5; have n2_ := Aside0.mk (Nat.le_trans HWS.out hb.size); clear HB HWB HWS hb hw5; have HB := n0_; have HWB := n1_; have HWS := n2_; clear n0_ n1_ n2_)
        | (go_at_call 27; with_reducible refine (wstring_any b b _ _ HWB.out HWS.out).mono ?_; rintro e w6 ⟨rfl, hb⟩; have n0_ := Aside0.mk (HB.out.trans (hb.mono (by rw [HBW.out]; exact Nat.le_refl _))); clear HB hb; have HB := n0_; clear n0_))
      go_ret
      exact ⟨by rw [HSA.out]; rfl, HB.out⟩
set_option maxHeartbeats 4000000 in
set_option maxRecDepth 100000 in
theorem pwk_any (W : World) (f : Nat) (HV : PW W f) : PWK W f := by
  intro w y hW hy hs
  have hq := bytV_le W f y.v hy.v hs.v
  have hq2 := hs.v.2
  have hk := hs.key
  have hu := hs.unk
  have A3 := Aside0.mk (fun w2 (hb : Below w.heap.size w w2) => HV w2 y.v (hW.trans (hb.mono hW.size)) hy.v hs.v)
  unfold vlC Sl.v at A3
  unfold keyB
  generalize bytV W f y.v = q at *
  obtain ⟨s1, hs1⟩ : ∃ s1, whenB (!emB y.key) (putB 1 y.key) = s1 := ⟨_, rfl⟩
  obtain ⟨s2, hs2⟩ : ∃ s2, s1 ++ putB 2 q = s2 := ⟨_, rfl⟩
  have l1 : s1.size ≤ 12020 := by rw [← hs1]; have h1 := whenB_le (!emB y.key) (putB 1 y.key); have h2 := putB_le 1 y.key (by omega); omega
  have l2 : s2.size ≤ 24060 := by rw [← hs2, ByteArray.size_append]; have h2 := putB_le 2 q (by omega); omega
  rw [hs1]
  have W1 := Aside0.mk (fun (b : Nat) (w2 : World) (h : WB b b ⟨#[]⟩ w2) (hb : b ≤ w2.heap.size) => (show Calls Tryz.prog 23 #[.pointer (some ⟨b, 0, none⟩), .int .i64 1, .string y.key] w2 (fun e w' => e = .returned (.tuple #[]) ∧ WB b b s1 w' ∧ Below b w2 w') from by have h_ := wtext_any b b ⟨#[]⟩ 1 y.key (by omega) w2 h (by have h2 := putB_le 1 y.key (by omega); unfold putB at h2; have z : (⟨#[]⟩ : ByteArray).size = 0 := rfl; omega) hb; unfold WAdds at h_; rw [empty_app] at h_; rw [← hs1]; exact h_))
  have W2 := Aside0.mk (fun (b : Nat) (w2 : World) (h : WB b b s1 w2) (hb : b ≤ w2.heap.size) => (show Calls Tryz.prog 47 #[.pointer (some ⟨b, 0, none⟩), .int .i64 2, .string q] w2 (fun e w' => e = .returned (.tuple #[]) ∧ WB b b s2 w' ∧ Below b w2 w') from by have h_ := wpart_any b b s1 2 q (by omega) w2 h (by have h2 := putB_le 2 q (by omega); unfold putB at h2; omega) hb; rw [← hs2]; exact h_))
  have W3 := Aside0.mk (fun (b : Nat) (w2 : World) (h : WB b b s1 w2) (hb : b ≤ w2.heap.size) => (show Calls Tryz.prog 26 #[.pointer (some ⟨b, 0, none⟩), .string y.unk] w2 (fun e w' => e = .returned (.tuple #[]) ∧ WB b b (s1 ++ y.unk) w' ∧ Below b w2 w') from by exact wraw_any b b s1 y.unk w2 h (by omega) hb))
  have W4 := Aside0.mk (fun (b : Nat) (w2 : World) (h : WB b b s2 w2) (hb : b ≤ w2.heap.size) => (show Calls Tryz.prog 26 #[.pointer (some ⟨b, 0, none⟩), .string y.unk] w2 (fun e w' => e = .returned (.tuple #[]) ∧ WB b b (s2 ++ y.unk) w' ∧ Below b w2 w') from by exact wraw_any b b s2 y.unk w2 h (by omega) hb))
  obtain ⟨hh, eh⟩ : ∃ q, y.has = q := ⟨_, rfl⟩
  rw [eh]
  have EH := Aside0.mk eh
  have HS2 := Aside0.mk hs2
  clear eh HV hW hy hs hq hq2 hk hu hs1 hs2 l1 l2
  have z := Tryz.sizeOf57
  cases hh
  · have HR : Aside0 (s1 ++ whenB false (putB 2 q) = s1) := ⟨app_none s1⟩
    rw [HR.out]
    clear HR
    go_enter Tryz.func49, Tryz.ntmps49
    go_upto_region 1 with (with_reducible refine gate_dst (N := 1) rfl ?_; refine Great.wpList_boxTo rfl 59 _ rfl _ rfl w.heap.size rfl (kvC y).toArray rfl ?_)
    have HX : Aside0 (XK (w.alloc (.cells (kvC y).toArray 59)) w.heap.size y) := ⟨⟨heap_alloc_new w _⟩⟩
    have HB : Aside0 (Below w.heap.size w (w.alloc (.cells (kvC y).toArray 59))) := ⟨(Below.refl _ _).alloc (Nat.le_refl _) _⟩
    generalize (w.alloc (.cells (kvC y).toArray 59)) = w1 at *
    obtain ⟨g, hg⟩ : ∃ g, w.heap.size = g := ⟨_, rfl⟩
    rw [hg] at HX ⊢
    have HG0 := Aside0.mk (show g < w1.heap.size from blk_lt HX.out.blk)
    have HGW := Aside0.mk (show w.heap.size ≤ g from Nat.le_of_eq hg)
    clear hg
    go_upto_region 2 with fail
    have HBn : Aside0 (Below w.heap.size w (w1.alloc (.cells #[.pointer none, .slice none 0 0] 50))) := ⟨HB.out.alloc HB.out.size _⟩
    have HXn : Aside0 (XK (w1.alloc (.cells #[.pointer none, .slice none 0 0] 50)) g y) := ⟨HX.out.below ((Below.refl _ _).alloc (Nat.le_refl _) _)⟩
    have HWB : Aside0 (WB w1.heap.size w1.heap.size ⟨#[]⟩ (w1.alloc (.cells #[.pointer none, .slice none 0 0] 50))) := ⟨WB.new w1⟩
    have HWS : Aside0 (w1.heap.size ≤ (w1.alloc (.cells #[.pointer none, .slice none 0 0] 50)).heap.size) := ⟨by rw [World.size_alloc]; omega⟩
    have HWb : Aside0 (w.heap.size ≤ w1.heap.size) := ⟨HB.out.size⟩
    clear HB HX
    have HB := HBn
    have HX := HXn
    clear HBn HXn
    generalize (w1.alloc (.cells #[.pointer none, .slice none 0 0] 50)) = w3 at *
    generalize w1.heap.size = b at *
    have a0 := HX.out.c0
    have a1 := HX.out.c1
    rw [EH.out] at a1
    have a2 := HX.out.c2
    have a3 := HX.out.c3
    have a4 := HX.out.c4
    have a5 := HX.out.c5
    have a6 := HX.out.c6
    have a7 := HX.out.c7
    have a8 := HX.out.c8
    have a9 := HX.out.c9
    have a10 := HX.out.c10
    go_wp2_with (first
      | (go_at_call 23; with_reducible refine (W1.out b _ HWB.out HWS.out).mono ?_; rintro e wn ⟨rfl, hw2, hb2⟩; have n0_ := Aside0.mk (HB.out.trans (hb2.mono HWb.out)); have n1_ : Aside0 (XK wn g y) := ⟨⟨by rw [hb2.block g HG0.out]; exact HX.out.blk⟩⟩; have n2_ := Aside0.mk hw2; have n3_ := Aside0.mk (Nat.le_trans HWS.out hb2.size); clear HB HX HWB HWS hb2 hw2 a0 a1 a2 a3 a4 a5 a6 a7 a8 a9 a10; have HB := n0_; have HX := n1_; have HWB := n2_; have HWS := n3_; clear n0_ n1_ n2_ n3_; have a0 := HX.out.c0; have a1 : wn.cell? ⟨g, 1, none⟩ = some (.bool false) := EH.out ▸ HX.out.c1; have a2 := HX.out.c2; have a3 := HX.out.c3; have a4 := HX.out.c4; have a5 := HX.out.c5; have a6 := HX.out.c6; have a7 := HX.out.c7; have a8 := HX.out.c8; have a9 := HX.out.c9; have a10 := HX.out.c10)
      | (go_at_call 26; with_reducible refine (W3.out b _ HWB.out HWS.out).mono ?_; rintro e wn ⟨rfl, hw2, hb2⟩; have n0_ := Aside0.mk (HB.out.trans (hb2.mono HWb.out)); have n1_ : Aside0 (XK wn g y) := ⟨⟨by rw [hb2.block g HG0.out]; exact HX.out.blk⟩⟩; have n2_ := Aside0.mk hw2; have n3_ := Aside0.mk (Nat.le_trans HWS.out hb2.size); clear HB HX HWB HWS hb2 hw2 a0 a1 a2 a3 a4 a5 a6 a7 a8 a9 a10; have HB := n0_; have HX := n1_; have HWB := n2_; have HWS := n3_; clear n0_ n1_ n2_ n3_; have a0 := HX.out.c0; have a1 : wn.cell? ⟨g, 1, none⟩ = some (.bool false) := EH.out ▸ HX.out.c1; have a2 := HX.out.c2; have a3 := HX.out.c3; have a4 := HX.out.c4; have a5 := HX.out.c5; have a6 := HX.out.c6; have a7 := HX.out.c7; have a8 := HX.out.c8; have a9 := HX.out.c9; have a10 := HX.out.c10)
      | (go_at_call 27; with_reducible refine (wstring_any b b _ _ HWB.out HWS.out).mono ?_; rintro e wn ⟨rfl, hb2⟩; have n0_ := Aside0.mk (HB.out.trans (hb2.mono HWb.out)); clear HB hb2; have HB := n0_; clear n0_))
    go_ret
    exact ⟨rfl, HB.out⟩
  · have HR : Aside0 (s1 ++ whenB true (putB 2 q) = s2) := ⟨HS2.out⟩
    rw [HR.out]
    clear HR
    go_enter Tryz.func49, Tryz.ntmps49
    go_upto_region 1 with (with_reducible refine gate_dst (N := 1) rfl ?_; refine Great.wpList_boxTo rfl 59 _ rfl _ rfl w.heap.size rfl (kvC y).toArray rfl ?_)
    have HX : Aside0 (XK (w.alloc (.cells (kvC y).toArray 59)) w.heap.size y) := ⟨⟨heap_alloc_new w _⟩⟩
    have HB : Aside0 (Below w.heap.size w (w.alloc (.cells (kvC y).toArray 59))) := ⟨(Below.refl _ _).alloc (Nat.le_refl _) _⟩
    generalize (w.alloc (.cells (kvC y).toArray 59)) = w1 at *
    obtain ⟨g, hg⟩ : ∃ g, w.heap.size = g := ⟨_, rfl⟩
    rw [hg] at HX ⊢
    have HG0 := Aside0.mk (show g < w1.heap.size from blk_lt HX.out.blk)
    have HGW := Aside0.mk (show w.heap.size ≤ g from Nat.le_of_eq hg)
    clear hg
    go_upto_region 2 with fail
    have HBn : Aside0 (Below w.heap.size w (w1.alloc (.cells #[.pointer none, .slice none 0 0] 50))) := ⟨HB.out.alloc HB.out.size _⟩
    have HXn : Aside0 (XK (w1.alloc (.cells #[.pointer none, .slice none 0 0] 50)) g y) := ⟨HX.out.below ((Below.refl _ _).alloc (Nat.le_refl _) _)⟩
    have HWB : Aside0 (WB w1.heap.size w1.heap.size ⟨#[]⟩ (w1.alloc (.cells #[.pointer none, .slice none 0 0] 50))) := ⟨WB.new w1⟩
    have HWS : Aside0 (w1.heap.size ≤ (w1.alloc (.cells #[.pointer none, .slice none 0 0] 50)).heap.size) := ⟨by rw [World.size_alloc]; omega⟩
    have HWb : Aside0 (w.heap.size ≤ w1.heap.size) := ⟨HB.out.size⟩
    clear HB HX
    have HB := HBn
    have HX := HXn
    clear HBn HXn
    generalize (w1.alloc (.cells #[.pointer none, .slice none 0 0] 50)) = w3 at *
    generalize w1.heap.size = b at *
    have a0 := HX.out.c0
    have a1 := HX.out.c1
    rw [EH.out] at a1
    have a2 := HX.out.c2
    have a3 := HX.out.c3
    have a4 := HX.out.c4
    have a5 := HX.out.c5
    have a6 := HX.out.c6
    have a7 := HX.out.c7
    have a8 := HX.out.c8
    have a9 := HX.out.c9
    have a10 := HX.out.c10
    go_wp2_with (first
      | (go_at_call 23; with_reducible refine (W1.out b _ HWB.out HWS.out).mono ?_; rintro e wn ⟨rfl, hw2, hb2⟩; have n0_ := Aside0.mk (HB.out.trans (hb2.mono HWb.out)); have n1_ : Aside0 (XK wn g y) := ⟨⟨by rw [hb2.block g HG0.out]; exact HX.out.blk⟩⟩; have n2_ := Aside0.mk hw2; have n3_ := Aside0.mk (Nat.le_trans HWS.out hb2.size); clear HB HX HWB HWS hb2 hw2 a0 a1 a2 a3 a4 a5 a6 a7 a8 a9 a10; have HB := n0_; have HX := n1_; have HWB := n2_; have HWS := n3_; clear n0_ n1_ n2_ n3_; have a0 := HX.out.c0; have a1 : wn.cell? ⟨g, 1, none⟩ = some (.bool true) := EH.out ▸ HX.out.c1; have a2 := HX.out.c2; have a3 := HX.out.c3; have a4 := HX.out.c4; have a5 := HX.out.c5; have a6 := HX.out.c6; have a7 := HX.out.c7; have a8 := HX.out.c8; have a9 := HX.out.c9; have a10 := HX.out.c10)
      | (go_at_call 73; with_reducible refine (A3.out _ HB.out).mono ?_; rintro e wn ⟨rfl, hb2⟩; have n0_ := Aside0.mk (below_next HB.out hb2); have n1_ : Aside0 (XK wn g y) := ⟨HX.out.below hb2⟩; have n2_ := Aside0.mk (HWB.out.below hb2); have n3_ := Aside0.mk (Nat.le_trans HWS.out hb2.size); clear HB HX HWB HWS hb2 a0 a1 a2 a3 a4 a5 a6 a7 a8 a9 a10; have HB := n0_; have HX := n1_; have HWB := n2_; have HWS := n3_; clear n0_ n1_ n2_ n3_; have a0 := HX.out.c0; have a1 : wn.cell? ⟨g, 1, none⟩ = some (.bool true) := EH.out ▸ HX.out.c1; have a2 := HX.out.c2; have a3 := HX.out.c3; have a4 := HX.out.c4; have a5 := HX.out.c5; have a6 := HX.out.c6; have a7 := HX.out.c7; have a8 := HX.out.c8; have a9 := HX.out.c9; have a10 := HX.out.c10)
      | (go_at_call 47; with_reducible refine (W2.out b _ HWB.out HWS.out).mono ?_; rintro e wn ⟨rfl, hw2, hb2⟩; have n0_ := Aside0.mk (HB.out.trans (hb2.mono HWb.out)); have n1_ : Aside0 (XK wn g y) := ⟨⟨by rw [hb2.block g HG0.out]; exact HX.out.blk⟩⟩; have n2_ := Aside0.mk hw2; have n3_ := Aside0.mk (Nat.le_trans HWS.out hb2.size); clear HB HX HWB HWS hb2 hw2 a0 a1 a2 a3 a4 a5 a6 a7 a8 a9 a10; have HB := n0_; have HX := n1_; have HWB := n2_; have HWS := n3_; clear n0_ n1_ n2_ n3_; have a0 := HX.out.c0; have a1 : wn.cell? ⟨g, 1, none⟩ = some (.bool true) := EH.out ▸ HX.out.c1; have a2 := HX.out.c2; have a3 := HX.out.c3; have a4 := HX.out.c4; have a5 := HX.out.c5; have a6 := HX.out.c6; have a7 := HX.out.c7; have a8 := HX.out.c8; have a9 := HX.out.c9; have a10 := HX.out.c10)
      | (go_at_call 26; with_reducible refine (W4.out b _ HWB.out HWS.out).mono ?_; rintro e wn ⟨rfl, hw2, hb2⟩; have n0_ := Aside0.mk (HB.out.trans (hb2.mono HWb.out)); have n1_ : Aside0 (XK wn g y) := ⟨⟨by rw [hb2.block g HG0.out]; exact HX.out.blk⟩⟩; have n2_ := Aside0.mk hw2; have n3_ := Aside0.mk (Nat.le_trans HWS.out hb2.size); clear HB HX HWB HWS hb2 hw2 a0 a1 a2 a3 a4 a5 a6 a7 a8 a9 a10; have HB := n0_; have HX := n1_; have HWB := n2_; have HWS := n3_; clear n0_ n1_ n2_ n3_; have a0 := HX.out.c0; have a1 : wn.cell? ⟨g, 1, none⟩ = some (.bool true) := EH.out ▸ HX.out.c1; have a2 := HX.out.c2; have a3 := HX.out.c3; have a4 := HX.out.c4; have a5 := HX.out.c5; have a6 := HX.out.c6; have a7 := HX.out.c7; have a8 := HX.out.c8; have a9 := HX.out.c9; have a10 := HX.out.c10)
      | (go_at_call 27; with_reducible refine (wstring_any b b _ _ HWB.out HWS.out).mono ?_; rintro e wn ⟨rfl, hb2⟩; have n0_ := Aside0.mk (HB.out.trans (hb2.mono HWb.out)); clear HB hb2; have HB := n0_; clear n0_))
    go_ret
    exact ⟨rfl, HB.out⟩
end Go.Proofs.YtnghlkbmfhkmoaaGreatDoor
