import Derived.Test.YtklkiofhenhafaaDoorMdatfpzbe
import Derived.Test.YtklkiofhenhafaaDoorMgabaxjxe
import Derived.Test.YtklkiofhenhafaaDoorWLast
import Derived.Test.YtklkiofhenhafaaDoorWMore
import Derived.WalkKit
import Derived.Below
import Derived.Test.YtklkiofhenhafaaDoorCWirex
namespace Go.Proofs.YtklkiofhenhafaaDoor
open Go.RowKit Go.Proofs.YtklkiofhenhafaaDoorW.PrintWords Go.Proofs.YtklkiofhenhafaaDoorW.PrintLast Go.Proofs.YtklkiofhenhafaaDoorW.PrintMore Hy

def fy : ByteArray := ⟨#[8, 172, 2]⟩
theorem fy_bs : bs fy = [8, 172, 2] := rfl
theorem fy_tag : tagL ((bs fy).drop 0) = some (1, 0, 1) := by
  rw [fy_bs]
  unfold tagL
  rw [List.drop_zero, dec_end 0 8 [172, 2] (by omega) (by omega)]
  rfl
theorem fy_dec : dec 0 ((bs fy).drop 1) = .inr (300, 2) := by
  rw [fy_bs]
  rw [show ([8, 172, 2] : List Nat).drop 1 = [172, 2] from rfl, dec_on 0 172 [2] (by omega) (by omega), dec_end 1 2 [] (by omega) (by omega)]
theorem fy_rec (W : World) (r : Nat) (dp : Int) (h : RW W r fy 0 .nilIface dp) : Calls Tryd.prog 29 #[.pointer (some ⟨r, 0, none⟩)] W (RecOk r fy 0 3 dp 1 0 300 ByteArray.empty W) :=
  wrecord_ok W r fy 0 1 0 1 3 dp 300 ByteArray.empty h (by decide) (by decide) (by decide) (by decide) fy_tag
    (fun W x hW hx hne => wrest_0 W r x fy 1 300 2 1 0 dp hW hx hne (by decide) (by decide) fy_dec)
theorem fy_ex : fy.extract 0 3 = fy := by apply bs_inj; rw [bs_extract]; rfl
theorem fnext (w : World) : Calls Tryd.prog 7 #[.string fy, .int .i64 0, .int .i64 0] w fun e w' => e = .returned (.tuple #[.agg #[.int .i64 1, .int .i64 0, .int .u64 300, .string ByteArray.empty, .string fy], .int .i64 3, .nilIface]) ∧ Below w.heap.size w w' := by
  have := wnext_ok w fy 0 3 1 0 0 300 ByteArray.empty (by decide) (by decide) (by decide) (fun W r h => fy_rec W r 0 h)
  rw [fy_ex] at this
  exact this
theorem fvarint (w : World) : Calls Tryd.prog 14 #[.int .i64 1, .int .u64 300] w fun e w' => e = .returned (.string fy) ∧ Below w.heap.size w w' := by
  have h : recB 1 0 (put 300) = fy := by
    unfold recB
    rw [if_neg (by omega)]
    apply bs_inj
    rw [bs_append, bs_put, bs_put, fy_bs, show Int.toNat (1 * 8 + 0) = 8 from rfl, show Int.toNat 300 = 300 from rfl, putL_lo 8 (by omega), putL_hi 300 (by omega), putL_lo 2 (by omega)]
    rfl
  have := wvarint_any 1 300 w (by decide) (by decide)
  rw [h] at this
  exact this
theorem fbytes (w : World) : Calls Tryd.prog 16 #[.int .i64 2, .string ⟨#[97]⟩] w fun e w' => e = .returned (.string ⟨#[18, 1, 97]⟩) ∧ Below w.heap.size w w' := by
  have h : recB 2 2 (put ((⟨#[97]⟩ : ByteArray).size : Int) ++ ⟨#[97]⟩) = ⟨#[18, 1, 97]⟩ := by
    unfold recB
    rw [if_neg (by omega)]
    apply bs_inj
    rw [bs_append, bs_append, bs_put, bs_put, show Int.toNat (2 * 8 + 2) = 18 from rfl, show Int.toNat ((⟨#[97]⟩ : ByteArray).size : Int) = 1 from rfl, putL_lo 18 (by omega), putL_lo 1 (by omega)]
    rfl
  have := wbytes_any 2 ⟨#[97]⟩ w (by decide)
  rw [h] at this
  exact this
set_option maxHeartbeats 4000000 in
set_option maxRecDepth 100000 in
theorem wire_first (w : World) : Calls Tryd.prog 6 #[] w fun e w' => e = .returned (.bool true) ∧ Below w.heap.size w w' := by
  have HB := Aside0.mk (Below.refl w.heap.size w)
  go_enter Tryd.func6, Tryd.ntmps6
  go_wp2_with (first
    | (go_at_call 7; refine (fnext _).mono ?_; rintro e wb ⟨rfl, hb⟩; have HBn : Aside0 (Below w.heap.size w wb) := ⟨below_next (by repeat (first | (with_reducible exact HB.out) | apply below_alloc | apply pw_below_drewN | apply below_drew1)) hb⟩; clear HB hb; have HB := HBn; clear HBn)
    | ((with_reducible refine gate_dst (N := 1) rfl ?_); refine box_event ?hg (N := 1) ?hd (cs := #[.int .i64 0, .int .i64 0, .int .u64 0, .string ⟨#[]⟩, .string ⟨#[]⟩]) (t := 25) ?hr ?_; (case hd => rfl); (case hg => rfl); (case hr => first | (go_simp; done) | (go_simp; rfl)); intro x hx w4 hx4 hb4
       have hx4 : XW w4 x 0 0 0 ByteArray.empty ByteArray.empty := hx4
       have HB4 := Aside0.mk (HB.out.trans (hb4.mono HB.out.size))
       have hxg : w.heap.size ≤ x := by have := HB.out.size; omega
       clear hx
       have z0 := hx4.c0
       have z1 := hx4.c1
       have z2 := hx4.c2
       have z3 := hx4.c3
       have z4 := hx4.c4
       have zf := fun i => hx4.fz i
       clear HB))
  have k5 := kp_all w4 x (.int .i64 1) (.int .i64 0) (.int .u64 300) (.string ByteArray.empty) (.string fy)
  have hx5 := hx4.all 1 0 300 ByteArray.empty fy
  have hb5 := HB4.out.trans (k5.toBelow HB4.out.size (fun k e => by omega))
  refine (fvarint _).mono ?_
  rintro e w6 ⟨rfl, hb⟩
  have hx6 : XW w6 x 1 0 300 ByteArray.empty fy := blk_below hx5 hb
  have HB6 := Aside0.mk (below_next hb5 hb)
  clear z0 z1 z2 z3 z4 zf k5 hx5 hb5 hb hx4 hb4 HB4
  have z0 := hx6.c0
  have z1 := hx6.c1
  have z2 := hx6.c2
  have z4 := hx6.c4
  clear hx6
  unfold fy at *
  go_wp2_with fail
  refine (fbytes _).mono ?_
  rintro e w7 ⟨rfl, hb⟩
  have HB7 := Aside0.mk (below_next HB6.out hb)
  go_wp2_with fail
  go_ret
  exact ⟨rfl, HB7.out⟩
end Go.Proofs.YtklkiofhenhafaaDoor
namespace Go.Proofs.YtklkiofhenhafaaDoor
open Go.RowKit Go.Proofs.YtklkiofhenhafaaDoorW.PrintWords Go.Proofs.YtklkiofhenhafaaDoorW.PrintLast Go.Proofs.YtklkiofhenhafaaDoorW.PrintMore Hy

theorem info_u64w : (Tryd.prog.info? 23).map (fun i => (i.zero, i.size, i.bytes)) = some (some (.int .u64 0), 1, 8) := by kernel_rfl
theorem RW.grown {w w1 : World} {r : Nat} {s : ByteArray} {a : Nat} {u : Value} {dp : Int} {row : Option Nat} (h : RW w r s a u dp) (hg : w.grownBy w1 row) (hn : ∀ k, row = some k → k ≠ r) : RW w1 r s a u dp := by
  unfold RW at *
  have := hg.block r (blk_lt h) (fun e => hn r e.symm rfl)
  rw [this, h]
theorem R_Cw {α : Type} {d : Kd α} {e : Nat} {w : World} {base : Nat} {ok : Nat → Prop} {A : Option Addr} {n c : Nat} {xs : List α} (h : d.R e w base ok (.slice A n c) xs) : d.C w A xs.length xs ∧ n = xs.length ∧ xs.length ≤ c := by
  obtain ⟨A', c', e, hl, hc⟩ := Kd.R_reads h
  injection e with e1 e2 e3
  subst e1; subst e3
  exact ⟨hc, e2, hl⟩
def lenOf : Value → Nat
  | .slice _ n _ => n
  | _ => 0
/-- One number, read where it stands. -/
def NumAt (f : FuncId) (args : Nat → Array Value) (s : ByteArray) (pos : Nat → Nat) (i : Nat) (v : Int) : Prop := ∀ W r, RW W r s (pos i) .nilIface 0 → Calls Tryd.prog f (args r) W fun e W' => e = .returned (.int .u64 v) ∧ RW W' r s (pos (i + 1)) .nilIface 0 ∧ Kp (fun k => k = r) W W'
set_option maxHeartbeats 4000000 in
set_option maxRecDepth 100000 in
theorem wfixeds_ok (w : World) (s : ByteArray) (l : List Int) (pos : Nat → Nat) (h0 : pos 0 = 0) (hl : l.length ≤ 1000000) (hlt : ∀ i, i < l.length → pos i < s.size) (hend : pos l.length = s.size)
    (HN : ∀ (i : Nat) (hi : i < l.length), NumAt 38 (fun r => #[.pointer (some ⟨r, 0, none⟩), .int .i64 8]) s pos i l[i]) :
    Calls Tryd.prog 19 #[.string s] w fun e w' => ∃ A c, e = .returned (.tuple #[.slice A l.length c, .nilIface]) ∧ Kd.C (Kd.int .u64) w' A l.length l ∧ l.length ≤ c ∧ Below w.heap.size w w' := by
  have HB0 := Aside0.mk (Below.refl w.heap.size w)
  have HG := Aside0.mk HN
  have HP := Aside0.mk (And.intro hlt hend)
  clear HN hlt hend
  go_enter Tryd.func19, Tryd.ntmps19
  go_wp2_with fail
  have hr1 : RW (w.alloc (.cells #[.string s, .int .i64 0, .nilIface, .int .i64 0] 63)) w.heap.size s (pos 0) .nilIface 0 := by
    rw [h0]; exact heap_alloc_new w _
  have HB1 := Aside0.mk (HB0.out.alloc (Nat.le_refl _) (.cells #[.string s, .int .i64 0, .nilIface, .int .i64 0] 63))
  have HR1 := Aside0.mk hr1
  clear hr1 HB0 h0
  generalize w.alloc (.cells #[.string s, .int .i64 0, .nilIface, .int .i64 0] 63) = W1 at *
  generalize hrr : w.heap.size = r at HR1 ⊢
  have HRR := Aside0.mk hrr
  clear hrr
  go_loopw [4] (fun v4 w' => ∃ (i : Nat) (A : Option Addr) (c : Nat), i ≤ l.length ∧ v4 = .slice A i c ∧ Aside0 (RW w' r s (pos i) .nilIface 0) ∧ Aside0 (Kd.R (Kd.int .u64) 23 w' w.heap.size (fun k => k ≠ r) (.slice A i c) (l.take i)) ∧ Aside0 (Below w.heap.size w w')) (fun v4 _ => l.length - lenOf v4)
  case atStart => exact ⟨0, none, 0, Nat.zero_le _, rfl, HR1, ⟨by rw [List.take_zero]; exact Kd.R_nil _ _ _ _ _⟩, HB1⟩
  case round =>
    clear HR1 HB1
    obtain ⟨i, A, c, hi, rfl, HR, HO, HB⟩ := hrel
    have q1 := HR.out.c1
    by_cases hlt : i < l.length
    · have d1 : ((pos i : Nat) : Int) < (s.size : Int) := by have := HP.out.1 i hlt; omega
      have G := HG.out i hlt wr r HR.out
      go_wp2_with fail
      refine G.mono ?_
      rintro e w2 ⟨rfl, hr2, hk2⟩
      have HR2 := Aside0.mk hr2
      have HB2 := Aside0.mk (HB.out.trans (hk2.toBelow HB.out.size (fun k e => by rw [e, HRR.out]; exact Nat.le_refl r)))
      have HO2 := Aside0.mk (hk2.row HO.out (fun k hk => hk))
      have q2 := hr2.c2
      have hrl : r < w2.heap.size := blk_lt hr2
      have HRL := Aside0.mk hrl
      have hlen : (l.take i).length = i := by rw [List.length_take]; omega
      have HL := Aside0.mk hlen
      have htk : l.take i ++ [l[i]] = l.take (i + 1) := (List.take_succ_eq_append_getElem hlt).symm
      have HT := Aside0.mk htk
      have hil : (i + 1) * 8 ≤ 140737488355328 := by omega
      clear HB HO hr2 hk2 q1 hrl hlen htk G HR
      have HB := HB2
      have HO := HO2
      clear HB2 HO2
      go_wp2_with ((with_reducible refine gate_builtin (b := .append) (xs := #[.tmp 28, .tmp 30]) rfl ?_); at_builtin; refine Kd.R_append (Kd.int .u64) (w0 := w) w.heap.size rfl (.tmp 28) (.tmp 30) 45 23 (.int .u64 0) 8 rfl Tryd.underlying45 info_u64w rfl (by decide) (by omega) (.slice A i c) (l.take i) l[i] [.int .u64 l[i]] (fun k => k ≠ r) (fun _ => False) rfl rfl ?aP (fun _ hk => hk.elim) ?aF ?aO ?aB ?aS ?aL ?_; (case aP => exact rfl); (case aB => exact (by repeat (first | (with_reducible exact HB.out) | apply below_alloc | apply pw_below_drewN | apply below_drew1))); (case aF => exact (fun k hk e => by have := HRL.out; omega)); (case aO => exact (by (with_reducible repeat (first | apply Kd.R_alloc | apply Kd.R_drewN | apply Kd.R_drew)); exact HO.out)); (case aS => exact (below_size (by repeat (first | (with_reducible exact HB.out) | apply below_alloc | apply pw_below_drewN | apply below_drew1)))); (case aL => (rw [HL.out]; exact hil)); intro va wa ho hb hg hat; have HX3 := Aside0.mk (HR2.out.grown hg HO.out.1); have n0_ := Aside0.mk hb; have n1_ := Aside0.mk ho; clear HB HO; have HB := n0_; have HO := n1_; clear n0_ n1_ ho hb hg hat; obtain ⟨A', c', hva⟩ := Kd.R_slice HO.out; subst hva)
      have hm : min (i + 1) l.length = i + 1 := by omega
      refine ⟨⟨i + 1, A', c', by omega, by rw [hm], HX3, ⟨?_⟩, HB⟩, by rw [hm]; simp only [lenOf]; omega⟩
      have h := HO.out
      rw [HT.out] at h
      first | exact h | (rw [show (l.take (i + 1)).length = i + 1 by rw [List.length_take]; omega] at h; exact h) | (rw [hm] at h; exact h)
    · obtain rfl : i = l.length := by omega
      have d1 : ¬ ((pos l.length : Nat) : Int) < (s.size : Int) := by have := HP.out.2; omega
      rw [List.take_length] at HO
      go_wp2_with fail
      go_ret2
      obtain ⟨hC, _, hc⟩ := R_Cw HO.out
      exact ⟨A, c, rfl, hC, hc, HB.out⟩
set_option maxHeartbeats 4000000 in
set_option maxRecDepth 100000 in
theorem wvarints_ok (w : World) (s : ByteArray) (l : List Int) (pos : Nat → Nat) (h0 : pos 0 = 0) (hl : l.length ≤ 1000000) (hlt : ∀ i, i < l.length → pos i < s.size) (hend : pos l.length = s.size)
    (HN : ∀ (i : Nat) (hi : i < l.length), NumAt 39 (fun r => #[.pointer (some ⟨r, 0, none⟩)]) s pos i l[i]) :
    Calls Tryd.prog 21 #[.string s] w fun e w' => ∃ A c, e = .returned (.tuple #[.slice A l.length c, .nilIface]) ∧ Kd.C (Kd.int .u64) w' A l.length l ∧ l.length ≤ c ∧ Below w.heap.size w w' := by
  have HB0 := Aside0.mk (Below.refl w.heap.size w)
  have HG := Aside0.mk HN
  have HP := Aside0.mk (And.intro hlt hend)
  clear HN hlt hend
  go_enter Tryd.func21, Tryd.ntmps21
  go_wp2_with fail
  have hr1 : RW (w.alloc (.cells #[.string s, .int .i64 0, .nilIface, .int .i64 0] 63)) w.heap.size s (pos 0) .nilIface 0 := by
    rw [h0]; exact heap_alloc_new w _
  have HB1 := Aside0.mk (HB0.out.alloc (Nat.le_refl _) (.cells #[.string s, .int .i64 0, .nilIface, .int .i64 0] 63))
  have HR1 := Aside0.mk hr1
  clear hr1 HB0 h0
  generalize w.alloc (.cells #[.string s, .int .i64 0, .nilIface, .int .i64 0] 63) = W1 at *
  generalize hrr : w.heap.size = r at HR1 ⊢
  have HRR := Aside0.mk hrr
  clear hrr
  go_loopw [4] (fun v4 w' => ∃ (i : Nat) (A : Option Addr) (c : Nat), i ≤ l.length ∧ v4 = .slice A i c ∧ Aside0 (RW w' r s (pos i) .nilIface 0) ∧ Aside0 (Kd.R (Kd.int .u64) 23 w' w.heap.size (fun k => k ≠ r) (.slice A i c) (l.take i)) ∧ Aside0 (Below w.heap.size w w')) (fun v4 _ => l.length - lenOf v4)
  case atStart => exact ⟨0, none, 0, Nat.zero_le _, rfl, HR1, ⟨by rw [List.take_zero]; exact Kd.R_nil _ _ _ _ _⟩, HB1⟩
  case round =>
    clear HR1 HB1
    obtain ⟨i, A, c, hi, rfl, HR, HO, HB⟩ := hrel
    have q1 := HR.out.c1
    by_cases hlt : i < l.length
    · have d1 : ((pos i : Nat) : Int) < (s.size : Int) := by have := HP.out.1 i hlt; omega
      have G := HG.out i hlt wr r HR.out
      go_wp2_with fail
      refine G.mono ?_
      rintro e w2 ⟨rfl, hr2, hk2⟩
      have HR2 := Aside0.mk hr2
      have HB2 := Aside0.mk (HB.out.trans (hk2.toBelow HB.out.size (fun k e => by rw [e, HRR.out]; exact Nat.le_refl r)))
      have HO2 := Aside0.mk (hk2.row HO.out (fun k hk => hk))
      have q2 := hr2.c2
      have hrl : r < w2.heap.size := blk_lt hr2
      have HRL := Aside0.mk hrl
      have hlen : (l.take i).length = i := by rw [List.length_take]; omega
      have HL := Aside0.mk hlen
      have htk : l.take i ++ [l[i]] = l.take (i + 1) := (List.take_succ_eq_append_getElem hlt).symm
      have HT := Aside0.mk htk
      have hil : (i + 1) * 8 ≤ 140737488355328 := by omega
      clear HB HO hr2 hk2 q1 hrl hlen htk G HR
      have HB := HB2
      have HO := HO2
      clear HB2 HO2
      go_wp2_with ((with_reducible refine gate_builtin (b := .append) (xs := #[.tmp 28, .tmp 30]) rfl ?_); at_builtin; refine Kd.R_append (Kd.int .u64) (w0 := w) w.heap.size rfl (.tmp 28) (.tmp 30) 45 23 (.int .u64 0) 8 rfl Tryd.underlying45 info_u64w rfl (by decide) (by omega) (.slice A i c) (l.take i) l[i] [.int .u64 l[i]] (fun k => k ≠ r) (fun _ => False) rfl rfl ?aP (fun _ hk => hk.elim) ?aF ?aO ?aB ?aS ?aL ?_; (case aP => exact rfl); (case aB => exact (by repeat (first | (with_reducible exact HB.out) | apply below_alloc | apply pw_below_drewN | apply below_drew1))); (case aF => exact (fun k hk e => by have := HRL.out; omega)); (case aO => exact (by (with_reducible repeat (first | apply Kd.R_alloc | apply Kd.R_drewN | apply Kd.R_drew)); exact HO.out)); (case aS => exact (below_size (by repeat (first | (with_reducible exact HB.out) | apply below_alloc | apply pw_below_drewN | apply below_drew1)))); (case aL => (rw [HL.out]; exact hil)); intro va wa ho hb hg hat; have HX3 := Aside0.mk (HR2.out.grown hg HO.out.1); have n0_ := Aside0.mk hb; have n1_ := Aside0.mk ho; clear HB HO; have HB := n0_; have HO := n1_; clear n0_ n1_ ho hb hg hat; obtain ⟨A', c', hva⟩ := Kd.R_slice HO.out; subst hva)
      have hm : min (i + 1) l.length = i + 1 := by omega
      refine ⟨⟨i + 1, A', c', by omega, by rw [hm], HX3, ⟨?_⟩, HB⟩, by rw [hm]; simp only [lenOf]; omega⟩
      have h := HO.out
      rw [HT.out] at h
      first | exact h | (rw [show (l.take (i + 1)).length = i + 1 by rw [List.length_take]; omega] at h; exact h) | (rw [hm] at h; exact h)
    · obtain rfl : i = l.length := by omega
      have d1 : ¬ ((pos l.length : Nat) : Int) < (s.size : Int) := by have := HP.out.2; omega
      rw [List.take_length] at HO
      go_wp2_with fail
      go_ret2
      obtain ⟨hC, _, hc⟩ := R_Cw HO.out
      exact ⟨A, c, rfl, hC, hc, HB.out⟩

/-! ### numbers written one behind the other -/
def fixL (l : List Int) : List Nat := l.flatMap fun (n : Int) => leL 8 n.toNat
theorem fixL_length (l : List Int) : (fixL l).length = 8 * l.length := by
  induction l with
  | nil => rfl
  | cons n r ih =>
    rw [show fixL (n :: r) = leL 8 n.toNat ++ fixL r from rfl, List.length_append, leL_length, ih, List.length_cons]
    omega
theorem fixL_ok (l : List Int) : okB (fixL l) := by
  intro x hx
  obtain ⟨n, _, hn⟩ := List.mem_flatMap.1 hx
  exact leL_ok 8 _ x hn
theorem fixL_at (l : List Int) : ∀ (i : Nat) (hi : i < l.length), ((fixL l).drop (8 * i)).take 8 = leL 8 (l[i]).toNat := by
  induction l with
  | nil => intro i hi; exact absurd hi (Nat.not_lt_zero _)
  | cons n r ih =>
    intro i hi
    rw [show fixL (n :: r) = leL 8 n.toNat ++ fixL r from rfl]
    cases i with
    | zero =>
      rw [Nat.mul_zero, List.drop_zero, List.take_append_of_le_length (by rw [leL_length]; decide), List.take_of_length_le (by rw [leL_length]; decide)]
      rfl
    | succ i =>
      rw [List.drop_append, leL_length, show 8 * (i + 1) - 8 = 8 * i by omega, List.drop_of_length_le (by rw [leL_length]; omega), List.nil_append, ih i (by simp at hi; omega)]
      rfl
theorem fixL_snoc (l : List Int) (i : Nat) (hi : i < l.length) : fixL (l.take (i + 1)) = fixL (l.take i) ++ leL 8 (l[i]).toNat := by
  rw [List.take_succ_eq_append_getElem hi]
  unfold fixL
  rw [List.flatMap_append]
  simp
theorem wfixeds_l (w : World) (s : ByteArray) (l : List Int) (hs : bs s = fixL l) (hl : l.length ≤ 1000000) (hu : u64s l) :
    Calls Tryd.prog 19 #[.string s] w fun e w' => ∃ A c, e = .returned (.tuple #[.slice A l.length c, .nilIface]) ∧ Kd.C (Kd.int .u64) w' A l.length l ∧ l.length ≤ c ∧ Below w.heap.size w w' := by
  have hsz : s.size = 8 * l.length := by rw [← bs_length, hs, fixL_length]
  refine wfixeds_ok w s l (fun i => 8 * i) rfl hl (fun i hi => by show 8 * i < s.size; omega) (by show 8 * l.length = s.size; omega) ?_
  intro i hi W r hr
  have h := wlittle_ok W r s (8 * i) 8 0 hr (by omega) (by omega) (by omega)
  rw [hs, fixL_at l i hi, little_leL 8 _ (by have := hu l[i] (List.getElem_mem hi); omega)] at h
  have hn := hu l[i] (List.getElem_mem hi)
  rw [show (((l[i]).toNat : Nat) : Int) = l[i] by omega] at h
  exact h
theorem wvarints_l (w : World) (s : ByteArray) (l : List Int) (hs : bs s = putsL l) (hl : l.length ≤ 1000000) (hu : u64s l) :
    Calls Tryd.prog 21 #[.string s] w fun e w' => ∃ A c, e = .returned (.tuple #[.slice A l.length c, .nilIface]) ∧ Kd.C (Kd.int .u64) w' A l.length l ∧ l.length ≤ c ∧ Below w.heap.size w w' := by
  have hsz : s.size = (putsL l).length := by rw [← bs_length, hs]
  have hle := putsL_len l hu
  refine wvarints_ok w s l (fun i => (putsL (l.take i)).length) rfl hl (fun i hi => ?_) ?_ ?_
  · show (putsL (l.take i)).length < s.size
    have h1 := putsL_snoc l i hi
    have h2 := putsL_take_le l (i + 1)
    have h3 := putL_pos (l[i]).toNat
    rw [h1, List.length_append] at h2
    omega
  · show (putsL (l.take l.length)).length = s.size
    rw [List.take_length]; omega
  · intro i hi W r hr
    have hn := hu l[i] (List.getElem_mem hi)
    have h2 := putsL_take_le l i
    have h := wvar_ok W r s (putsL (l.take i)).length (l[i]).toNat (putL (l[i]).toNat).length 0 hr (by omega) (by omega) (by rw [hs, putsL_drop l i hi]; exact dec_put _ (by omega) _)
    rw [show (((l[i]).toNat : Nat) : Int) = l[i] by omega] at h
    have e : (putsL (l.take (i + 1))).length = (putsL (l.take i)).length + (putL (l[i]).toNat).length := by rw [putsL_snoc l i hi, List.length_append]
    show Calls _ _ _ _ fun e W' => _ ∧ RW W' r s (putsL (l.take (i + 1))).length .nilIface 0 ∧ _
    rw [e]
    exact h
end Go.Proofs.YtklkiofhenhafaaDoor
namespace Go.Proofs.YtklkiofhenhafaaDoor
open Go.RowKit Go.Proofs.YtklkiofhenhafaaDoorW.PrintWords Go.Proofs.YtklkiofhenhafaaDoorW.PrintLast Go.Proofs.YtklkiofhenhafaaDoorW.PrintMore Hy

theorem cellAt {w : World} {A : Option Addr} {l : List Int} {ik : IntKind} (h : Kd.C (Kd.int ik) w A l.length l) (k : Nat) (hk : k < l.length) : ∃ ad, A = some ad ∧ w.cell? (ad.add k) = some (.int ik (l[k])) := by
  obtain ⟨ad, e, hx⟩ := Kd.at_int h (k : Int) (by omega) (by omega)
  refine ⟨ad, e, ?_⟩
  simpa [rd, List.getD_eq_getElem?_getD, hk] using hx

theorem R_C {α : Type} {d : Kd α} {e : Nat} {w : World} {base : Nat} {ok : Nat → Prop} {A : Option Addr} {n c : Nat} {xs : List α} (h : d.R e w base ok (.slice A n c) xs) : d.C w A xs.length xs ∧ n = xs.length ∧ xs.length ≤ c := by
  obtain ⟨A', c', e, hl, hc⟩ := Kd.R_reads h
  injection e with e1 e2 e3
  subst e1; subst e3
  exact ⟨hc, e2, hl⟩
theorem info_u64 : (Tryd.prog.info? 23).map (fun i => (i.zero, i.size, i.bytes)) = some (some (.int .u64 0), 1, 8) := by kernel_rfl

theorem C_lit (W : World) (k : IntKind) (xs : List Int) (e : TypeId) (hm : xs.length ≤ 9223372036854775807) : Kd.C (Kd.int k) (W.alloc (.cells (nums k xs).toArray e)) (some ⟨W.heap.size, 0, none⟩) xs.length xs := by
  have h := own_lit W 0 e k xs (by omega) hm
  obtain ⟨A, c, e1, h2⟩ := own_reads h
  injection e1 with e1 e2 e3
  subst e1
  exact Kd.C_of_reads (d := (0 : Int)) (h1 := fun _ => rfl) h2

/-- string([]byte{x}) -/
theorem conv_byte (x : Int) (W : World) (n : Nat) : (convert 98 9 (.slice (some ⟨W.heap.size, 0, none⟩) 1 1)).run Tryd.prog ((W.drewN n).alloc (.cells #[.int .u8 x] 5)) = .ok (.string (st [x.toNat])) ((W.drewN n).alloc (.cells #[.int .u8 x] 5)) := by
  have h := own_lit (W.drewN n) 0 5 .u8 [x] (by omega) (by simp)
  have h2 := own_string (P := Tryd.prog) Tryd.underlying98 Tryd.underlying5 Tryd.underlying9 h
  exact h2
theorem nums_l0 (a b : List Int) (h : a.length = b.length) (hb : a.length ≤ 140737488355328) : ∀ (d i k : Nat), i + d = a.length → d < k → CWire.hygref_Nums.l0 k a b (i : Int) = some (decide (a.drop i = b.drop i)) := by
  intro d
  induction d with
  | zero =>
    intro i k hi hk
    obtain ⟨k, rfl⟩ : ∃ m, k = m + 1 := ⟨k - 1, by omega⟩
    simp only [CWire.hygref_Nums.l0]
    rw [if_neg (by omega), List.drop_of_length_le (by omega), List.drop_of_length_le (by omega)]
    simp
  | succ d ih =>
    intro i k hi hk
    obtain ⟨k, rfl⟩ : ∃ m, k = m + 1 := ⟨k - 1, by omega⟩
    have hi1 : i < a.length := by omega
    have hi2 : i < b.length := by omega
    have ra : rd a (i : Int) = a[i] := by simp [rd, List.getD_eq_getElem?_getD, hi1]
    have rb : rd b (i : Int) = b[i] := by simp [rd, List.getD_eq_getElem?_getD, hi2]
    simp only [CWire.hygref_Nums.l0]
    rw [if_pos (by omega), if_pos (by omega), if_pos (by omega), ra, rb]
    have hd : (a.drop i = b.drop i) ↔ (a[i] = b[i] ∧ a.drop (i + 1) = b.drop (i + 1)) := by
      rw [List.drop_eq_getElem_cons hi1, List.drop_eq_getElem_cons hi2, List.cons.injEq]
    by_cases he : a[i] = b[i]
    · rw [if_pos he, show wrap64 ((i : Int) + 1) = ((i + 1 : Nat) : Int) by unfold wrap64; omega, ih (i + 1) k (by omega) (by omega)]
      rw [show decide (a.drop i = b.drop i) = decide (a.drop (i + 1) = b.drop (i + 1)) from decide_eq_decide.2 (hd.trans ⟨fun h => h.2, fun h => ⟨he, h⟩⟩)]
    · rw [if_neg he, decide_eq_false (fun e => he (hd.1 e).1)]
theorem nums_f (a b : List Int) (hb : a.length ≤ 140737488355328) : CWire.hygref_Nums.f (a.length + 1) a b = some (decide (a = b)) := by
  unfold CWire.hygref_Nums.f
  by_cases h : a.length = b.length
  · rw [if_pos (by omega)]
    have := nums_l0 a b h hb a.length 0 (a.length + 1) (by omega) (by omega)
    simpa using this
  · rw [if_neg (by omega)]
    simp
    intro e; exact h (by rw [e])
theorem nums_any (A : Option Addr) (c : Nat) (l : List Int) (A' : Option Addr) (c' : Nat) (l' : List Int) (w : World) (hr : Kd.C (Kd.int .u64) w A l.length l) (hc : l.length ≤ c) (hr' : Kd.C (Kd.int .u64) w A' l'.length l') (hc' : l'.length ≤ c') (hl : l.length ≤ 140737488355328) :
    Calls Tryd.prog 27 #[.slice A l.length c, .slice A' l'.length c'] w fun e w' => e = .returned (.bool (decide (l = l'))) ∧ Drawn0 w w' :=
  CWire.hygref_Nums.calls (l.length + 1) A c l A' c' l' _ w hr hc hr' hc' (nums_f l l' hl)
end Go.Proofs.YtklkiofhenhafaaDoor
