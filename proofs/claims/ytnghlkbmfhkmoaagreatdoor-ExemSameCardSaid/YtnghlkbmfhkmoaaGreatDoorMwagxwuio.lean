import Derived.Laws.AppendOwn
import Derived.Laws.IdiomStrings
import Derived.WalkKit
import Derived.Test.YtnghlkbmfhkmoaaGreatDoorMvjyhaahm
import Derived.Test.YtnghlkbmfhkmoaaGreatDoorMxtowkptp
import Derived.Test.YtnghlkbmfhkmoaaGreatDoorMlkmhvewr
import Derived.KernelRfl
namespace Go.Proofs.YtnghlkbmfhkmoaaGreatDoor
open Go.RowKit Hy

/-! ### a row that bears a mark behind its cells: one more cell -/
theorem run_one_room {P : Program} (w : World) (t ty e : TypeId) (i : TypeInfo) (ht : P.underlying t = some (.slice e)) (hi : P.info? e = some i) (hsz : i.size = 1)
    (g n cap c : Nat) (cur : Array Value) (fr : Nat × Nat) (hg : w.heap[g]? = some (.cells cur e fr)) (hfr : w.frozen? ⟨g, n, none⟩ = false)
    (a : Addr) (u : Value) (hu : w.cell? a = some u) (h1 : u.oneCell' = true) (hroom : n + 1 ≤ cap) (hfit : n < cur.size) :
    (Builtin.append_ #[t, t] ty #[.slice (some ⟨g, 0, none⟩) n cap, .slice (some a) 1 c]).run P w = .ok (.slice (some ⟨g, 0, none⟩) (n + 1) cap) (w.setCell ⟨g, n, none⟩ u) := by
  have hf := run_firstCells_some (P := P) w i.size 1 a 1 c [u] (by simp [hsz]) (by
    intro j v h
    cases j with
    | zero => simp at h; subst h; simpa [Addr.add] using hu
    | succ j => simp at h)
  have hcell : w.cell? ⟨g, n, none⟩ = some cur[n] := by simp [World.cell?, hg, hfit]
  have hadd : (⟨g, 0, none⟩ : Addr).add (n * i.size) = ⟨g, n, none⟩ := by rw [hsz, Nat.mul_one, Addr.add_lit, Nat.zero_add]
  have hadd2 : (⟨g, n, none⟩ : Addr).add 0 = ⟨g, n, none⟩ := rfl
  have hst : (storeCells ⟨g, n, none⟩ [u] 0).run P w = .ok () (w.setCell ⟨g, n, none⟩ u) := by
    simp only [storeCells, Sem.run_bind, hadd2, run_store P w _ u _ h1, hcell]
    simp [hfr]
  simp [Builtin.append_, run_underlying ht, sizeOf, typeInfo, hi, Builtin.lenOf, hroom, hf, hadd, hst]
/-- A row of bytes of the call's own, perhaps marked behind its cells. -/
def MR (e : TypeId) (B : Nat) (v : Value) (L : List Value) (w : World) : Prop :=
  ∃ g cap cur fr, v = .slice (some ⟨g, 0, none⟩) L.length cap ∧ B ≤ g ∧ w.heap[g]? = some (.cells cur e fr) ∧ cur.size = cap ∧ L.length ≤ cap ∧ cap ≤ maxLen ∧ (∀ (i : Nat) (u : Value), L[i]? = some u → cur[i]? = some u) ∧ (fr = (0, 0) ∨ cap ≤ fr.1)
theorem mr_frozen {w : World} {g cap i : Nat} {cur : Array Value} {e : TypeId} {fr : Nat × Nat} (hg : w.heap[g]? = some (.cells cur e fr)) (hf : fr = (0, 0) ∨ cap ≤ fr.1) (hi : i < cap) : w.frozen? ⟨g, i, none⟩ = false := by
  obtain ⟨lo, hi'⟩ := fr
  unfold World.frozen?
  rw [hg]
  rcases hf with hf | hf
  · injection hf with h1 h2
    subst h1 h2
    simp
  · have : ¬ lo ≤ i := by show ¬ lo ≤ i; have : cap ≤ lo := hf; omega
    simp [this]
theorem mr_set {w : World} {g : Nat} {cur : Array Value} {e : TypeId} {fr : Nat × Nat} (hg : w.heap[g]? = some (.cells cur e fr)) (i : Nat) (u : Value) : (w.setCell ⟨g, i, none⟩ u).heap[g]? = some (.cells (cur.setIfInBounds i u) e fr) := by
  simp [World.setCell, Array.getElem?_modify, hg]
theorem mr_append {P : Program} {ops : Array Oper} {rest : List Oper} {o : Oper} {a : Act} {Q : Exit → Act → World → Prop} {w : World} (hgd : o.guard = none) (s x : Operand) (t e : TypeId)
    (ho : o.op = .call { callee := .builtin .append, args := #[s, x], argTypes := #[t, t] })
    (i : TypeInfo) (z : Value) (ht : P.underlying t = some (.slice e)) (hi : P.info? e = some i) (hz : i.zero = some z) (hsize : i.size = 1) (hby : i.bytes = 1) (hzs : z.cells.size = 1)
    (B : Nat) (v : Value) (L : List Value) (hs : a.eval s = v) (hm : MR e B v L w) (ad : Addr) (c : Nat) (u : Value) (hx : a.eval x = .slice (some ad) 1 c) (hu : w.cell? ad = some u) (h1 : u.oneCell' = true)
    (hL : L.length ≤ 1000) (hB : B ≤ w.heap.size) (h : ∀ v' w', MR e B v' (L ++ [u]) w' → Below B w w' → wpList P ops Q rest (a.put o.dst v') w') : wpList P ops Q (o :: rest) a w := by
  obtain ⟨g, cap, cur, fr, rfl, hg, hh, hcs, hlc, hcap, hcell, hfr⟩ := hm
  have key : ∃ v' w', (Builtin.append_ #[t, t] o.type #[.slice (some ⟨g, 0, none⟩) L.length cap, .slice (some ad) 1 c]).run P w = .ok v' w' ∧ MR e B v' (L ++ [u]) w' ∧ Below B w w' := by
    by_cases hroom : L.length + 1 ≤ cap
    · refine ⟨_, _, run_one_room w t o.type e i ht hi hsize g L.length cap c cur fr hh (mr_frozen hh hfr (by omega)) ad u hu h1 hroom (by omega), ?_, (Below.refl B w).setCell (p := ⟨g, L.length, none⟩) hg u⟩
      refine ⟨g, cap, cur.setIfInBounds L.length u, fr, by simp, hg, mr_set hh _ _, by simp [hcs], by simp; omega, hcap, ?_, hfr⟩
      intro j q hj
      by_cases hjl : j < L.length
      · rw [List.getElem?_append_left hjl] at hj
        rw [Array.getElem?_setIfInBounds_ne (by omega)]
        exact hcell j q hj
      · have hjn : j = L.length := by
          have := List.getElem?_eq_some_iff.1 hj
          obtain ⟨h2, _⟩ := this
          simp at h2
          omega
        subst hjn
        rw [List.getElem?_concat_length] at hj
        rw [Array.getElem?_setIfInBounds_self_of_lt (by omega)]
        exact hj
    · have hold : ∀ (j : Nat) q, L[j]? = some q → w.cell? ((⟨g, 0, none⟩ : Addr).add j) = some q := by
        intro j q hj
        rw [Addr.add_lit, Nat.zero_add, cell_of_row w g j cur e fr hh]
        exact hcell j q hj
      have hnew : ∀ (j : Nat) q, [u][j]? = some q → w.cell? (ad.add j) = some q := by
        intro j q hj
        cases j with
        | zero => simp at hj; subst hj; simpa [Addr.add] using hu
        | succ j => simp at hj
      have hfit : Builtin.nextslicecap (L.length + 1) cap * i.bytes ≤ 281474976710656 := by
        have := nextslicecap_le (need := L.length + 1) (old := cap) (by omega)
        rw [hby]; omega
      have hge := grownCap_ge w (L.length + 1) cap e
      have hr := run_append_grow (P := P) w t o.type e i z ht hi hz ⟨g, 0, none⟩ L.length cap L (by simp [hsize]) hold ad 1 c [u] (by simp [hsize]) hnew (by omega) (by omega) hfit
      refine ⟨_, _, hr, ?_, ((Below.refl B w).drew).alloc hB _⟩
      refine ⟨w.heap.size, grownCap w (L.length + 1) cap e, _, (0, 0), by simp, hB, heap_alloc_new w.drew _, ?_, by simp; omega, grownCap_le_maxLen w _ _ e (by unfold maxLen; omega), ?_, .inl rfl⟩
      · rw [Array.size_append, size_zeroCells, hzs]; simp; omega
      · intro j q hj
        have hjl : j < (L ++ [u]).length := (List.getElem?_eq_some_iff.1 hj).1
        rw [Array.getElem?_append_left (by simpa using hjl)]
        simpa using hj
  obtain ⟨v', w', hr, h2, h3⟩ := key
  refine wpList_plain hgd fun K hK => ?_
  unfold Oper.wp execOp
  simp only [ho, resolve, invoke, builtin, Sem.run_bind, Sem.run_pure, Result.andThen_ok, List.map_toArray, List.map_cons, List.map_nil, hs, hx, hr]
  exact hK _ _ (h v' w' h2 h3)
/-- Bytes as they lie. -/
def bv (L : List Nat) : List Value := L.map fun (n : Nat) => Value.int .u8 (n : Int)
theorem bv_length (L : List Nat) : (bv L).length = L.length := by simp [bv]
theorem bv_snoc (L : List Nat) (n : Nat) : bv L ++ [Value.int .u8 (n : Int)] = bv (L ++ [n]) := by simp [bv]
theorem mr_new (e : TypeId) (B : Nat) (w : World) (s : ByteArray) (hB : B ≤ w.heap.size) (hs : s.size ≤ 1000) :
    MR e B (.slice (some ⟨w.heap.size, 0, none⟩) s.size (grownCap w s.size 0 e)) (bv (bs s)) (w.drew.alloc (.cells (bytesRow s (grownCap w s.size 0 e)) e ((bytesRow s (grownCap w s.size 0 e)).size, (bytesRow s (grownCap w s.size 0 e)).size + 1))) := by
  have hge := grownCap_ge w s.size 0 e
  have hsz : (bytesRow s (grownCap w s.size 0 e)).size = grownCap w s.size 0 e := by
    unfold bytesRow
    rw [Array.size_append, Array.size_map, Array.size_replicate]
    have : s.data.size = s.size := rfl
    omega
  have hlen : (bv (bs s)).length = s.size := by rw [bv_length, bs_length]
  refine ⟨w.heap.size, grownCap w s.size 0 e, bytesRow s (grownCap w s.size 0 e), ((bytesRow s (grownCap w s.size 0 e)).size, (bytesRow s (grownCap w s.size 0 e)).size + 1), by rw [hlen], hB, ?_, hsz, by rw [hlen]; exact hge, grownCap_le_maxLen w _ _ e (by unfold maxLen; omega), ?_, .inr (by rw [hsz]; exact Nat.le_refl _)⟩
  · show (w.heap.push _)[w.heap.size]? = _
    simp
  · intro i u hi
    have hil : i < (bv (bs s)).length := (List.getElem?_eq_some_iff.1 hi).1
    rw [hlen] at hil
    unfold bytesRow
    rw [Array.getElem?_append_left (by rw [Array.size_map]; exact hil)]
    unfold bv bs at hi
    rw [List.map_map] at hi
    rw [← hi, ← Array.getElem?_toList, Array.toList_map]
    rfl
theorem mr_string {P : Program} {w : World} (src dst e : TypeId) (hs : P.underlying src = some (.slice e)) (he : P.underlying e = some (.int .u8)) (hd : P.underlying dst = some .string) {B g cap cap' : Nat} {L : List Nat} (hL : okB L) (hm : MR e B (.slice (some ⟨g, 0, none⟩) L.length cap) (bv L) w) (m : Nat) (hml : m ≤ L.length) :
    (convert src dst (.slice (some ⟨g, 0, none⟩) m cap')).run P w = .ok (.string (st (L.take m))) w := by
  obtain ⟨g', cp, cur, fr, hv, _, hh, hcs, hlc, hcap, hcell, hfr⟩ := hm
  injection hv with hv1 hv2 hv3
  injection hv1 with hv1
  injection hv1 with hv1
  subst hv1
  have h := run_convert_bytes_back (P := P) w src dst e ⟨g, 0, none⟩ cap' ((L.take m).map UInt8.ofNat) hs he hd (by
    intro j hj
    have hjm : j < (L.take m).length := by simpa using hj
    have hjl : j < L.length := by rw [List.length_take] at hjm; omega
    rw [Addr.add_lit, Nat.zero_add, cell_of_row w g j cur e fr hh]
    rw [hcell j (.int .u8 (L[j] : Int)) (by unfold bv; simp [hjl])]
    have hb : L[j] < 256 := hL _ (List.getElem_mem hjl)
    simp only [List.getElem_map, List.getElem_take]
    congr 2
    simp
    omega)
  rw [List.length_map, List.length_take, Nat.min_eq_left hml] at h
  exact h
end Go.Proofs.YtnghlkbmfhkmoaaGreatDoor
namespace Go.Proofs.YtnghlkbmfhkmoaaGreatDoor
open Go.RowKit Go.Proofs.YtnghlkbmfhkmoaaGreatDoorW.PrintWords Go.Proofs.YtnghlkbmfhkmoaaGreatDoorW.PrintLast Go.Proofs.YtnghlkbmfhkmoaaGreatDoorW.PrintMore Hy
open CExw

/-! ### a number's bytes, the least first -/
def leL : Nat → Nat → List Nat
  | 0, _ => []
  | k + 1, n => n % 256 :: leL k (n / 256)
theorem leL_length : ∀ (k n : Nat), (leL k n).length = k := by
  intro k
  induction k with
  | zero => intro n; rfl
  | succ k ih => intro n; simp only [leL, List.length_cons, ih]
theorem leL_snoc : ∀ (k n : Nat), leL (k + 1) n = leL k n ++ [n / 256 ^ k % 256] := by
  intro k
  induction k with
  | zero => intro n; simp [leL]
  | succ k ih =>
    intro n
    rw [show leL (k + 1 + 1) n = n % 256 :: leL (k + 1) (n / 256) from rfl, ih, show leL (k + 1) n = n % 256 :: leL k (n / 256) from rfl, Nat.div_div_eq_div_mul, Nat.pow_succ, Nat.mul_comm (256 ^ k)]
    rfl
theorem leL_ok : ∀ (k n : Nat), okB (leL k n) := by
  intro k
  induction k with
  | zero => intro n x hx; cases hx
  | succ k ih =>
    intro n x hx
    rcases List.mem_cons.1 hx with rfl | hx
    · exact Nat.mod_lt _ (by decide)
    · exact ih _ x hx
theorem little_leL : ∀ (k n : Nat), n < 256 ^ k → little (leL k n) = n := by
  intro k
  induction k with
  | zero => intro n h; simp at h; subst h; rfl
  | succ k ih =>
    intro n h
    rw [show leL (k + 1) n = n % 256 :: leL k (n / 256) from rfl, show little (n % 256 :: leL k (n / 256)) = n % 256 + 256 * little (leL k (n / 256)) from rfl, ih (n / 256) (by rw [Nat.pow_succ] at h; omega)]
    omega
/-- Eight cells, as far as they are written. -/
def row8 (n i : Nat) : List Value := bv (leL i n ++ List.replicate (8 - i) 0)
theorem row8_length (n i : Nat) (h : i ≤ 8) : (row8 n i).length = 8 := by
  unfold row8; rw [bv_length, List.length_append, leL_length, List.length_replicate]; omega
theorem row8_set (n i : Nat) (h : i < 8) : (row8 n i).toArray.setIfInBounds i (.int .u8 ((n / 256 ^ i % 256 : Nat) : Int)) = (row8 n (i + 1)).toArray := by
  rw [List.setIfInBounds_toArray]
  congr 1
  unfold row8 bv
  rw [leL_snoc, show 8 - i = (8 - (i + 1)) + 1 by omega, List.replicate_succ]
  simp [leL_length]
theorem shr8 (n i : Nat) : (n : Int) / 2 ^ (8 * i) % 256 = ((n / 256 ^ i % 256 : Nat) : Int) := by
  rw [show (256 : Nat) ^ i = 2 ^ (8 * i) by rw [Nat.pow_mul]]
  rw [Int.natCast_emod, Int.natCast_ediv, Int.natCast_pow]
  rfl
theorem row8_cell (n : Nat) : ∀ (i : Nat) (u : Value), (bv (leL 8 n))[i]? = some u → (row8 n 8).toArray[i]? = some u := by
  intro i u h
  unfold row8
  simpa using h
set_option maxHeartbeats 4000000 in
set_option maxRecDepth 100000 in
theorem eight_any (n : Nat) (w : World) (_hn : n < 18446744073709551616) :
    Calls Tryz.prog 87 #[.int .u64 (n : Int)] w fun e w' => e = .returned (.string (st (leL 8 n))) ∧ Below w.heap.size w w' := by
  have HB := Aside0.mk (Below.refl w.heap.size w)
  go_enter Tryz.func87, Tryz.ntmps87
  go_wp2_with fail
  have hmk : (Instr.makeSlice 46 (.int .i64 8) (.int .i64 8)).run Tryz.prog w = .ok (.slice (some ⟨w.heap.size, 0, none⟩) 8 8) (w.alloc (.cells (row8 n 0).toArray 5)) := by kernel_rfl
  rw [hmk]
  have HB1 : Aside0 (Below w.heap.size w (w.alloc (.cells (row8 n 0).toArray 5))) := ⟨HB.out.alloc (Nat.le_refl _) _⟩
  have hh : (w.alloc (.cells (row8 n 0).toArray 5)).heap[w.heap.size]? = some (.cells (row8 n 0).toArray 5 (0, 0)) := by
    show (w.heap.push _)[w.heap.size]? = _
    simp
  have HH := Aside0.mk hh
  clear hh HB hmk
  generalize w.alloc (.cells (row8 n 0).toArray 5) = W at *
  go_wp2_with fail
  go_loopw [8] (fun v8 w' => ∃ i : Nat, v8 = .int .i64 (i : Int) ∧ i ≤ 8 ∧ Aside0 (w'.heap[w.heap.size]? = some (.cells (row8 n i).toArray 5 (0, 0))) ∧ Aside0 (Below w.heap.size w w')) (fun v8 _ => (8 - intOf v8).toNat)
  case atStart => exact ⟨0, rfl, by omega, HH, HB1⟩
  case round =>
    clear HH HB1
    obtain ⟨i, rfl, hi, HH, HB⟩ := hrel
    by_cases hlt : i < 8
    · have d1 : (i : Int) < 8 := by omega
      obtain ⟨x, hx⟩ : ∃ x, (row8 n i).toArray[i]? = some x := by
        have := row8_length n i hi
        simp [this, hlt]
      have q1 : wr.cell? ⟨w.heap.size, i, none⟩ = some x := by rw [blk_cell HH.out]; exact hx
      have q2 : wr.frozen? ⟨w.heap.size, i, none⟩ = false := blk_frozen HH.out i
      go_wp2_with fail
      refine ⟨⟨i + 1, by go_num, by omega, ⟨?_⟩, ⟨HB.out.setCell (p := ⟨w.heap.size, i, none⟩) (Nat.le_refl _) _⟩⟩, by simp [intOf]; omega⟩
      have e1 := shr8 n i
      rw [e1, blk_set HH.out, row8_set n i hlt]
    · obtain rfl : i = 8 := by omega
      have hM : MR 5 0 (.slice (some ⟨w.heap.size, 0, none⟩) (bv (leL 8 n)).length 8) (bv (leL 8 n)) wr :=
        ⟨w.heap.size, 8, _, _, rfl, Nat.zero_le _, HH.out, by have := row8_length n 8 (Nat.le_refl _); simpa using this, by rw [bv_length, leL_length]; decide, by decide, row8_cell n, .inl rfl⟩
      rw [bv_length] at hM
      have hS := mr_string (P := Tryz.prog) 46 9 5 Tryz.underlying46 Tryz.underlying5 Tryz.underlying9 (leL_ok 8 n) (cap' := 8) hM 8 (by rw [leL_length]; decide)
      rw [List.take_of_length_le (by rw [leL_length]; decide)] at hS
      go_wp2_with fail
      go_ret
      exact ⟨rfl, HB.out⟩

/-! ### tags, records -/
theorem or_tag (n k : Int) (hn0 : 0 ≤ n) (hn : n < 536870912) (hk0 : 0 ≤ k) (hk : k ≤ 5) : Go.bits .or .u64 (IntKind.u64.wrap ((IntKind.u64.wrap n) * 8)) (IntKind.u64.wrap k) = n * 8 + k := by
  rw [wrap_u64, wrap_u64, wrap_u64]
  obtain ⟨n, rfl⟩ := Int.eq_ofNat_of_zero_le hn0
  obtain ⟨k, rfl⟩ := Int.eq_ofNat_of_zero_le hk0
  rw [show (n : Int) % 18446744073709551616 * 8 % 18446744073709551616 = ((n * 8 : Nat) : Int) by omega, show (k : Int) % 18446744073709551616 = ((k : Nat) : Int) by omega]
  have h1 := or_nat .u64 64 (by decide) (fun n a b => by rw [wrap_u64]; omega) (n * 8) k (by omega) (by omega)
  have h2 := or_nat .u64 64 (by decide) (fun n a b => by rw [wrap_u64]; omega) k (n * 8) (by omega) (by omega)
  have h3 := or_join_u64 (k : Int) ((n * 8 : Nat) : Int) 3 (by omega) (by omega) (by omega) (by omega) (by omega) (by omega)
  rw [h1, show n * 8 ||| k = k ||| n * 8 from Nat.or_comm _ _, ← h2, h3]
  omega
def tagB (n k : Int) : ByteArray := if n < 1 ∨ n > 536870911 ∨ k < 0 ∨ k > 5 then ⟨#[]⟩ else put (n * 8 + k)
def recB (n k : Int) (s : ByteArray) : ByteArray := if n < 1 ∨ n > 536870911 ∨ k < 0 ∨ k > 5 then ⟨#[]⟩ else put (n * 8 + k) ++ s
theorem tag_f (n k : Int) : wire_Tag.f 10 n k = some (tagB n k) := by
  unfold wire_Tag.f tagB
  by_cases h1 : n < 1
  · rw [if_pos h1, if_pos (.inl h1)]
  rw [if_neg h1]
  by_cases h2 : n > 536870911
  · rw [if_pos h2, if_pos (.inr (.inl h2))]
  rw [if_neg h2]
  by_cases h3 : k < 0
  · rw [if_pos h3, if_pos (.inr (.inr (.inl h3)))]
  rw [if_neg h3]
  by_cases h4 : k > 5
  · rw [if_pos h4, if_pos (.inr (.inr (.inr h4)))]
  rw [if_neg h4, if_neg (by omega), or_tag n k (by omega) (by omega) (by omega) (by omega), put_f _ (by omega) (by omega)]
  rfl
theorem tag_any (n k : Int) (w : World) : Calls Tryz.prog 105 #[.int .i64 n, .int .i64 k] w fun e w' => e = .returned (.string (tagB n k)) ∧ Below w.heap.size w w' := wire_Tag.calls 10 n k _ w (tag_f n k)
theorem tag_put (n : Int) : (put n).toList ≠ ([] : List UInt8) := by
  intro h
  have h1 : (put n).data.toList.length = 0 := by rw [← ByteArray.toList_eq, h]; rfl
  have h2 : (put n).size = (put n).data.toList.length := by rw [Array.length_toList]; rfl
  have h3 := putL_pos n.toNat
  rw [put_size] at h2
  omega
theorem wput_f (n k : Int) (s : ByteArray) (hs : s.size ≤ 140737488351232) : wire_put.f 10 n k s = some (recB n k s) := by
  unfold wire_put.f
  rw [tag_f]
  show (if (tagB n k).toList = ([] : List UInt8) then _ else _) = _
  unfold tagB recB
  by_cases h : n < 1 ∨ n > 536870911 ∨ k < 0 ∨ k > 5
  · rw [if_pos h, if_pos h, if_pos (by rw [ByteArray.toList_eq])]
  · rw [if_neg h, if_neg h, if_neg (tag_put _), if_pos]
    have := putL_len10 (n * 8 + k).toNat (by omega)
    rw [put_size]
    omega
theorem wput_any (n k : Int) (s : ByteArray) (w : World) (hs : s.size ≤ 140737488351232) : Calls Tryz.prog 86 #[.int .i64 n, .int .i64 k, .string s] w fun e w' => e = .returned (.string (recB n k s)) ∧ Below w.heap.size w w' := wire_put.calls 10 n k s _ w (wput_f n k s hs)
theorem wvarint_any (n v : Int) (w : World) (h0 : 0 ≤ v) (h1 : v < 18446744073709551616) : Calls Tryz.prog 109 #[.int .i64 n, .int .u64 v] w fun e w' => e = .returned (.string (recB n 0 (put v))) ∧ Below w.heap.size w w' := by
  refine wire_Varint.calls 10 n v _ w ?_
  unfold wire_Varint.f
  rw [put_f v h0 h1]
  show (wire_put.f 10 n 0 (put v)).bind _ = _
  rw [wput_f _ _ _ (by rw [put_size]; have := putL_len10 v.toNat (by omega); omega)]
  rfl
theorem wfixed_any (n : Int) (v : Nat) (w : World) (hv : v < 18446744073709551616) :
    Calls Tryz.prog 68 #[.int .i64 n, .int .u64 (v : Int)] w fun e w' => e = .returned (.string (recB n 1 (st (leL 8 v)))) ∧ Below w.heap.size w w' := by
  have HB := Aside0.mk (Below.refl w.heap.size w)
  have A1 := fun w => eight_any v w hv
  have A2 := fun w => wput_any n 1 (st (leL 8 v)) w (by rw [st_size, leL_length]; decide)
  clear hv
  go_enter Tryz.func68, Tryz.ntmps68
  go_wp2_with (first
    | (go_at_call 87; refine (A1 _).mono ?_; rintro e wb ⟨rfl, hb⟩; have HBn : Aside0 (Below w.heap.size w wb) := ⟨below_next (by repeat (first | (with_reducible exact HB.out) | apply below_alloc | apply pw_below_drewN | apply below_drew1)) hb⟩; clear HB hb; have HB := HBn; clear HBn)
    | (go_at_call 86; refine (A2 _).mono ?_; rintro e wb ⟨rfl, hb⟩; have HBn : Aside0 (Below w.heap.size w wb) := ⟨below_next (by repeat (first | (with_reducible exact HB.out) | apply below_alloc | apply pw_below_drewN | apply below_drew1)) hb⟩; clear HB hb; have HB := HBn; clear HBn))
  go_ret
  exact ⟨rfl, HB.out⟩
theorem wbytes_any (n : Int) (s : ByteArray) (w : World) (hs : s.size ≤ 100000000) :
    Calls Tryz.prog 69 #[.int .i64 n, .string s] w fun e w' => e = .returned (.string (recB n 2 (put (s.size : Int) ++ s))) ∧ Below w.heap.size w w' := by
  have HB := Aside0.mk (Below.refl w.heap.size w)
  have hps : (put (s.size : Int)).size ≤ 10 := by rw [put_size]; exact putL_len10 _ (by omega)
  have A1 := fun w => put_any (s.size : Int) w (by omega) (by omega)
  have A2 := fun w => wput_any n 2 (put (s.size : Int) ++ s) w (by rw [ByteArray.size_append]; omega)
  have hb : (put (s.size : Int)).size + s.size ≤ 9223372036854775807 := by omega
  have hw : IntKind.u64.wrap (s.size : Int) = (s.size : Int) := by rw [wrap_u64]; omega
  go_enter Tryz.func69, Tryz.ntmps69
  go_wp2_with (first
    | (go_at_call 88; refine (A1 _).mono ?_; rintro e wb ⟨rfl, hb⟩; have HBn : Aside0 (Below w.heap.size w wb) := ⟨below_next (by repeat (first | (with_reducible exact HB.out) | apply below_alloc | apply pw_below_drewN | apply below_drew1)) hb⟩; clear HB hb; have HB := HBn; clear HBn)
    | (go_at_call 86; refine (A2 _).mono ?_; rintro e wb ⟨rfl, hb⟩; have HBn : Aside0 (Below w.heap.size w wb) := ⟨below_next (by repeat (first | (with_reducible exact HB.out) | apply below_alloc | apply pw_below_drewN | apply below_drew1)) hb⟩; clear HB hb; have HB := HBn; clear HBn))
  go_ret
  exact ⟨rfl, HB.out⟩
end Go.Proofs.YtnghlkbmfhkmoaaGreatDoor
namespace Go.Proofs.YtnghlkbmfhkmoaaGreatDoor
open Go.RowKit Go.Proofs.YtnghlkbmfhkmoaaGreatDoorW.PrintWords Go.Proofs.YtnghlkbmfhkmoaaGreatDoorW.PrintLast Go.Proofs.YtnghlkbmfhkmoaaGreatDoorW.PrintMore Hy

/-! ### msg.Writer -/
/-- A writer of the call's own that holds these bytes. -/
def WB (B b : Nat) (s : ByteArray) (w : World) : Prop := Lib.IsBuilder 50 5 B b (Lib.strCells s) w
theorem WB.below {B b : Nat} {s : ByteArray} {w w' : World} (h : WB B b s w) (hb : Below w.heap.size w w') : WB B b s w' := bld_below h hb
theorem WB.new (w : World) : WB w.heap.size w.heap.size ⟨#[]⟩ (w.alloc (.cells #[.pointer none, .slice none 0 0] 50)) := bld_new _ _ w
def whenB (b : Bool) (s : ByteArray) : ByteArray := if b then s else ⟨#[]⟩
theorem app_none (s : ByteArray) : s ++ (⟨#[]⟩ : ByteArray) = s := ByteArray.append_empty
/-- A method that writes to the writer. -/
def WAdds (f : Nat) (B b : Nat) (s r : ByteArray) (args : List Value) (w : World) : Prop :=
  Calls Tryz.prog f (.pointer (some ⟨b, 0, none⟩) :: args).toArray w fun e w' => e = .returned (.tuple #[]) ∧ WB B b (s ++ r) w' ∧ Below B w w'
set_option maxRecDepth 100000 in
theorem wraw_any (B b : Nat) (s t : ByteArray) (w : World) (h : WB B b s w) (hl : s.size + t.size ≤ 140737488355328) (hB : B ≤ w.heap.size) : WAdds 26 B b s t [.string t] w := by
  have H := Aside0.mk (bld_write B b _ t w h (by rw [Lib.strCells_length]; exact hl) hB)
  clear h hl hB
  show Calls _ _ #[.pointer (some ⟨b, 0, none⟩), .string t] _ _
  go_enter Tryz.func26, Tryz.ntmps26
  go_wp2_with (go_at_call 50; with_reducible refine H.out.mono ?_; rintro e w2 ⟨rfl, h2, hb⟩)
  go_end0
  refine ⟨rfl, ?_, hb⟩
  have h3 := bld_at h2
  rw [strCells_append] at h3
  exact h3
set_option maxRecDepth 100000 in
theorem weight_any (B b : Nat) (s : ByteArray) (num : Int) (v : Nat) (hv : v < 18446744073709551616) (w : World) (h : WB B b s w) (hl : s.size + (recB num 1 (st (leL 8 v))).size ≤ 140737488355328) (hB : B ≤ w.heap.size) : WAdds 46 B b s (recB num 1 (st (leL 8 v))) [.int .i64 num, .int .u64 (v : Int)] w := by
  have H := Aside0.mk (wfixed_any num v w hv)
  have HW := Aside0.mk (fun w2 (hb : Below w.heap.size w w2) => wraw_any B b s (recB num 1 (st (leL 8 v))) w2 (h.below hb) hl (Nat.le_trans hB hb.size))
  have HB0 := Aside0.mk hB
  clear h hl hB
  unfold WAdds at *
  show Calls _ _ #[.pointer (some ⟨b, 0, none⟩), .int .i64 num, .int .u64 (v : Int)] _ _
  go_enter Tryz.func46, Tryz.ntmps46
  go_wp2_with (first
    | (go_at_call 68; with_reducible refine H.out.mono ?_; rintro e w2 ⟨rfl, hb⟩; have HB := Aside0.mk hb; clear hb)
    | (go_at_call 26; with_reducible refine (HW.out _ HB.out).mono ?_; rintro e w3 ⟨rfl, hw3, hb3⟩))
  go_end0
  exact ⟨rfl, hw3, (HB.out.mono HB0.out).trans hb3⟩
set_option maxRecDepth 100000 in
theorem wfew_any (B b : Nat) (s : ByteArray) (num v : Int) (hv0 : 0 ≤ v) (hv1 : v < 18446744073709551616) (w : World) (h : WB B b s w) (hl : s.size + (recB num 0 (put v)).size ≤ 140737488355328) (hB : B ≤ w.heap.size) : WAdds 93 B b s (recB num 0 (put v)) [.int .i64 num, .int .u64 v] w := by
  have H := Aside0.mk (wvarint_any num v w hv0 hv1)
  have HW := Aside0.mk (fun w2 (hb : Below w.heap.size w w2) => wraw_any B b s (recB num 0 (put v)) w2 (h.below hb) hl (Nat.le_trans hB hb.size))
  have HB0 := Aside0.mk hB
  clear h hl hB
  unfold WAdds at *
  show Calls _ _ #[.pointer (some ⟨b, 0, none⟩), .int .i64 num, .int .u64 v] _ _
  go_enter Tryz.func93, Tryz.ntmps93
  go_wp2_with (first
    | (go_at_call 109; with_reducible refine H.out.mono ?_; rintro e w2 ⟨rfl, hb⟩; have HB := Aside0.mk hb; clear hb)
    | (go_at_call 26; with_reducible refine (HW.out _ HB.out).mono ?_; rintro e w3 ⟨rfl, hw3, hb3⟩))
  go_end0
  exact ⟨rfl, hw3, (HB.out.mono HB0.out).trans hb3⟩
set_option maxRecDepth 100000 in
theorem wpart_any (B b : Nat) (s : ByteArray) (num : Int) (t : ByteArray) (ht : t.size ≤ 100000000) (w : World) (h : WB B b s w) (hl : s.size + (recB num 2 (put (t.size : Int) ++ t)).size ≤ 140737488355328) (hB : B ≤ w.heap.size) : WAdds 47 B b s (recB num 2 (put (t.size : Int) ++ t)) [.int .i64 num, .string t] w := by
  have H := Aside0.mk (wbytes_any num t w ht)
  have HW := Aside0.mk (fun w2 (hb : Below w.heap.size w w2) => wraw_any B b s (recB num 2 (put (t.size : Int) ++ t)) w2 (h.below hb) hl (Nat.le_trans hB hb.size))
  have HB0 := Aside0.mk hB
  clear h hl hB
  unfold WAdds at *
  show Calls _ _ #[.pointer (some ⟨b, 0, none⟩), .int .i64 num, .string t] _ _
  go_enter Tryz.func47, Tryz.ntmps47
  go_wp2_with (first
    | (go_at_call 69; with_reducible refine H.out.mono ?_; rintro e w2 ⟨rfl, hb⟩; have HB := Aside0.mk hb; clear hb)
    | (go_at_call 26; with_reducible refine (HW.out _ HB.out).mono ?_; rintro e w3 ⟨rfl, hw3, hb3⟩))
  go_end0
  exact ⟨rfl, hw3, (HB.out.mono HB0.out).trans hb3⟩
set_option maxRecDepth 100000 in
theorem weither_any (B b : Nat) (s : ByteArray) (is : Bool) (num : Int) (v : Nat) (hv : v < 18446744073709551616) (w : World) (h : WB B b s w) (hl : s.size + (recB num 1 (st (leL 8 v))).size ≤ 140737488355328) (hB : B ≤ w.heap.size) :
    WAdds 22 B b s (whenB is (recB num 1 (st (leL 8 v)))) [.bool is, .int .i64 num, .int .u64 (v : Int)] w := by
  have H := Aside0.mk (weight_any B b s num v hv w h hl hB)
  have HH := Aside0.mk h
  clear h hl hB
  unfold WAdds at *
  show Calls _ _ #[.pointer (some ⟨b, 0, none⟩), .bool is, .int .i64 num, .int .u64 (v : Int)] _ _
  cases is
  · go_enter Tryz.func22, Tryz.ntmps22
    go_wp2_with fail
    go_end0
    exact ⟨rfl, by rw [show whenB false (recB num 1 (st (leL 8 v))) = ⟨#[]⟩ from rfl, app_none]; exact HH.out, Below.refl _ _⟩
  · go_enter Tryz.func22, Tryz.ntmps22
    go_wp2_with (go_at_call 46; with_reducible refine H.out.mono ?_; rintro e w2 ⟨rfl, h2, hb⟩)
    go_end0
    exact ⟨rfl, h2, hb⟩
set_option maxRecDepth 100000 in
theorem wfixedw_any (B b : Nat) (s : ByteArray) (num : Int) (v : Nat) (hv : v < 18446744073709551616) (w : World) (h : WB B b s w) (hl : s.size + (recB num 1 (st (leL 8 v))).size ≤ 140737488355328) (hB : B ≤ w.heap.size) :
    WAdds 21 B b s (whenB (decide (0 < v)) (recB num 1 (st (leL 8 v)))) [.int .i64 num, .int .u64 (v : Int)] w := by
  have H := Aside0.mk (weight_any B b s num v hv w h hl hB)
  have HH := Aside0.mk h
  clear h hl hB
  unfold WAdds at *
  show Calls _ _ #[.pointer (some ⟨b, 0, none⟩), .int .i64 num, .int .u64 (v : Int)] _ _
  by_cases h0 : 0 < v
  · have h1 : (0 : Int) < (v : Int) := by omega
    rw [decide_eq_true h0]
    go_enter Tryz.func21, Tryz.ntmps21
    go_wp2_with (go_at_call 46; with_reducible refine H.out.mono ?_; rintro e w2 ⟨rfl, h2, hb⟩)
    go_end0
    exact ⟨rfl, h2, hb⟩
  · have h1 : ¬ (0 : Int) < (v : Int) := by omega
    rw [decide_eq_false h0]
    go_enter Tryz.func21, Tryz.ntmps21
    go_wp2_with fail
    go_end0
    exact ⟨rfl, by rw [show whenB false (recB num 1 (st (leL 8 v))) = ⟨#[]⟩ from rfl, app_none]; exact HH.out, Below.refl _ _⟩
set_option maxRecDepth 100000 in
theorem wtext_any (B b : Nat) (s : ByteArray) (num : Int) (t : ByteArray) (ht : t.size ≤ 100000000) (w : World) (h : WB B b s w) (hl : s.size + (recB num 2 (put (t.size : Int) ++ t)).size ≤ 140737488355328) (hB : B ≤ w.heap.size) :
    WAdds 23 B b s (whenB (!(t.toList == [])) (recB num 2 (put (t.size : Int) ++ t))) [.int .i64 num, .string t] w := by
  have H := Aside0.mk (wpart_any B b s num t ht w h hl hB)
  have HH := Aside0.mk h
  clear h hl hB
  unfold WAdds at *
  show Calls _ _ #[.pointer (some ⟨b, 0, none⟩), .int .i64 num, .string t] _ _
  cases h0 : (t.toList == ([] : List UInt8))
  · go_enter Tryz.func23, Tryz.ntmps23
    go_wp2_with (go_at_call 47; with_reducible refine H.out.mono ?_; rintro e w2 ⟨rfl, h2, hb⟩)
    go_end0
    exact ⟨rfl, h2, hb⟩
  · go_enter Tryz.func23, Tryz.ntmps23
    go_wp2_with fail
    go_end0
    exact ⟨rfl, by rw [show ∀ r, whenB (!true) r = ⟨#[]⟩ from fun _ => rfl, app_none]; exact HH.out, Below.refl _ _⟩
set_option maxRecDepth 100000 in
theorem wstring_any (B b : Nat) (s : ByteArray) (w : World) (h : WB B b s w) (hB : B ≤ w.heap.size) :
    Calls Tryz.prog 27 #[.pointer (some ⟨b, 0, none⟩)] w fun e w' => e = .returned (.string s) ∧ Below B w w' := by
  have H := Aside0.mk (bld_string B b s.data.toList w h hB)
  have hs : (⟨s.data.toList.toArray⟩ : ByteArray) = s := by cases s; simp
  rw [hs] at H
  clear h hB hs
  go_enter Tryz.func27, Tryz.ntmps27
  go_wp2_with (go_at_call 51; with_reducible refine H.out.mono ?_; rintro e w2 ⟨rfl, hb⟩)
  go_ret
  exact ⟨rfl, hb⟩
end Go.Proofs.YtnghlkbmfhkmoaaGreatDoor
