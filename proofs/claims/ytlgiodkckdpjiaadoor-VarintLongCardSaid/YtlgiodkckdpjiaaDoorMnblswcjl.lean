import Derived.Test.YtlgiodkckdpjiaaDoorMkiwfdeqb
import Derived.Laws.AppendOwn
import Derived.Laws.IdiomStrings
import Derived.WalkKit
namespace Go.Proofs.YtlgiodkckdpjiaaDoor
open Go.RowKit Go.Proofs.YtlgiodkckdpjiaaDoorW.PrintWords Go.Proofs.YtlgiodkckdpjiaaDoorW.PrintLast Go.Proofs.YtlgiodkckdpjiaaDoorW.PrintMore Hy

theorem put300 : put 300 = ⟨#[172, 2]⟩ := by
  unfold put
  rw [show (300 : Int).toNat = 300 from rfl, putL_hi 300 (by omega), putL_lo (300 / 128) (by omega)]
  rfl
theorem var_first (w : World) : Calls Tryd.prog 4 #[] w fun e w' => e = .returned (.bool true) ∧ Below w.heap.size w w' := by
  have HB := Aside0.mk (Below.refl w.heap.size w)
  go_enter Tryd.func4, Tryd.ntmps4
  go_wp2_with (first
    | (go_at_call 6; refine (get_ok _ 0 300 2 _ (by omega) (by simp) (by decide) (by rfl)).mono ?_; rintro e wb ⟨rfl, hb⟩; have HBn : Aside0 (Below w.heap.size w wb) := ⟨below_next (by repeat (first | (with_reducible exact HB.out) | apply below_alloc | apply pw_below_drewN | apply below_drew1)) hb⟩; clear HB hb; have HB := HBn; clear HBn)
    | (go_at_call 5; refine (put_any 300 _ (by omega) (by omega)).mono ?_; rintro e wb ⟨rfl, hb⟩; have HBn : Aside0 (Below w.heap.size w wb) := ⟨below_next (by repeat (first | (with_reducible exact HB.out) | apply below_alloc | apply pw_below_drewN | apply below_drew1)) hb⟩; clear HB hb; have HB := HBn; clear HBn; rw [put300])
    | (go_at_call 8; refine (size_any 300 _ (by omega) (by omega)).mono ?_; rintro e wd ⟨rfl, ⟨nd, rfl⟩⟩; rw [put300])
    | (go_at_call 9; refine (zig_any (-2) _ (by omega) (by omega)).mono ?_; rintro e wd ⟨rfl, ⟨nd, rfl⟩⟩; rw [show zig (-2) = 3 from rfl])
    | (go_at_call 10; refine (zag_any 3 _ (by omega) (by omega)).mono ?_; rintro e wd ⟨rfl, ⟨nd, rfl⟩⟩; rw [show zag 3 = -2 from rfl]))
  go_ret
  exact ⟨rfl, (by repeat (first | (with_reducible exact HB.out) | apply below_alloc | apply pw_below_drewN | apply below_drew1))⟩
end Go.Proofs.YtlgiodkckdpjiaaDoor
namespace Go.Proofs.YtlgiodkckdpjiaaDoor.Hy

/-! ### a number in more bytes than needed -/
def val7 : Nat → List Nat → Nat
  | _, [] => 0
  | i, c :: r => (c - 128) * 2 ^ (7 * i) + val7 (i + 1) r
def hiL (P : List Nat) : Prop := ∀ c ∈ P, 128 ≤ c
theorem val7_append (P R : List Nat) : ∀ i, val7 i (P ++ R) = val7 i P + val7 (i + P.length) R := by
  induction P with
  | nil => intro i; simp [val7]
  | cons c P ih => intro i; simp only [List.cons_append, val7, List.length_cons]; rw [ih, show i + 1 + P.length = i + (P.length + 1) by omega]; omega
theorem val7_rep (k : Nat) : ∀ i, val7 i (List.replicate k 128) = 0 := by
  induction k with
  | zero => intro i; rfl
  | succ k ih => intro i; simp [List.replicate_succ, val7, ih]
theorem dec_hi (P R : List Nat) (h : hiL P) : ∀ i, i + P.length ≤ 9 → dec i (P ++ R) = (match dec (i + P.length) R with
      | .inl e => .inl e
      | .inr (v, k) => .inr (val7 i P + v, k + P.length)) := by
  induction P with
  | nil => intro i _; simp only [List.nil_append, List.length_nil, Nat.add_zero, val7, Nat.zero_add]; cases dec i R <;> rfl
  | cons c P ih =>
    intro i hi
    simp only [List.length_cons] at hi
    have hc := h c (by simp)
    rw [List.cons_append, dec_on _ _ _ (by omega) (by omega), ih (fun x hx => h x (by simp [hx])) (i + 1) (by omega)]
    rw [show i + (c :: P).length = i + 1 + P.length by rw [List.length_cons]; omega]
    cases dec (i + 1 + P.length) R with
    | inl e => rfl
    | inr q => obtain ⟨v, k⟩ := q; simp only [val7, List.length_cons]; congr 2 <;> omega
theorem putL_last : ∀ n, ∃ P c, putL n = P ++ [c] ∧ hiL P ∧ c < 128 := by
  intro n
  induction n using Nat.strongRecOn with
  | ind n ih =>
    by_cases h : n < 128
    · exact ⟨[], n, putL_lo n h, by intro c hc; simp at hc, h⟩
    · obtain ⟨P, c, h1, h2, h3⟩ := ih (n / 128) (by omega)
      refine ⟨(n % 128 + 128) :: P, c, by rw [putL_hi n h, h1]; rfl, ?_, h3⟩
      intro x hx
      rcases List.mem_cons.1 hx with rfl | hx
      · omega
      · exact h2 x hx
/-- n in more bytes than needed: k of them. -/
def longL (P : List Nat) (c k : Nat) : List Nat := (P ++ [c + 128]) ++ List.replicate k 128
theorem longL_hi {P : List Nat} (c k : Nat) (h : hiL P) : hiL (longL P c k) := by
  intro x hx
  rcases List.mem_append.1 hx with hx | hx
  · rcases List.mem_append.1 hx with hx | hx
    · exact h x hx
    · rw [List.mem_singleton.1 hx]; omega
  · rw [List.eq_of_mem_replicate hx]; omega
theorem longL_length (P : List Nat) (c k : Nat) : (longL P c k).length = P.length + 1 + k := by simp [longL]; omega
theorem dec_long {n : Nat} (hn : n < 18446744073709551616) {P : List Nat} {c : Nat} (h : putL n = P ++ [c]) (hP : hiL P) (hc : c < 128) (k : Nat) (hk : P.length + 1 + k ≤ 9) : dec 0 (longL P c k ++ [0]) = .inr (n, P.length + 1 + k + 1) := by
  have h0 := dec_put n hn []
  rw [List.append_nil, h, dec_hi P [c] hP 0 (by omega), dec_end _ _ _ (by omega) hc] at h0
  simp only [Sum.inr.injEq, Prod.mk.injEq] at h0
  rw [dec_hi _ _ (longL_hi c k hP) 0 (by rw [longL_length]; omega), dec_end _ _ _ (by omega) (by omega)]
  simp only [Sum.inr.injEq, Prod.mk.injEq, longL_length]
  refine ⟨?_, by omega⟩
  rw [← h0.1]
  unfold longL
  rw [val7_append, val7_rep, val7_append]
  simp only [val7, Nat.add_sub_cancel, Nat.zero_mul, Nat.add_zero]
theorem dec_cut {P : List Nat} (hP : hiL P) (h9 : P.length ≤ 9) (m : Nat) (hm : m ≤ P.length) (R : List Nat) : dec 0 ((P ++ R).take m) = .inl 1 := by
  rw [List.take_append_of_le_length hm]
  have h := dec_hi (P.take m) [] (fun x hx => hP x (List.mem_of_mem_take hx)) 0 (by rw [List.length_take]; omega)
  rw [List.append_nil, dec_nil] at h
  exact h
end Go.Proofs.YtlgiodkckdpjiaaDoor.Hy
namespace Go.Proofs.YtlgiodkckdpjiaaDoor
open Go.RowKit Hy

/-! ### a row that bears a mark behind its cells: one more cell -/
theorem run_one_room {P : Program} (w : World) (t ty e : TypeId) (i : TypeInfo) (ht : P.underlying t = some (.slice e)) (hi : P.info? e = some i) (hsz : i.size = 1)
    (g n cap c : Nat) (cur : Array Value) (fr : Nat × Nat) (hg : w.heap[g]? = some (.cells cur e fr)) (hfr : w.frozen? ⟨g, n, none⟩ = false)
    (a : Addr) (u : Value) (hu : w.cell? a = some u) (h1 : u.oneCell' = true) (hroom : n + 1 ≤ cap) (hfit : n < cur.size) :
    (Builtin.append_ #[t, t] ty #[.slice (some ⟨g, 0, none⟩) n cap, .slice (some a) 1 c]).run P w = .ok (.slice (some ⟨g, 0, none⟩) (n + 1) cap) (w.setCell ⟨g, n, none⟩ u) := by
  have hf := run_firstCells_some (P := P) w i.size 1 a 1 c [u] (by simp [hsz]) (by
    intro j v h
    cases j with
    | zero => simp at h; subst h; simpa [Addr.add] using hu
    | succ j => simp at h)
  have hcell : w.cell? ⟨g, n, none⟩ = some cur[n] := by simp [World.cell?, hg, hfit]
  have hadd : (⟨g, 0, none⟩ : Addr).add (n * i.size) = ⟨g, n, none⟩ := by rw [hsz, Nat.mul_one, Addr.add_lit, Nat.zero_add]
  have hadd2 : (⟨g, n, none⟩ : Addr).add 0 = ⟨g, n, none⟩ := rfl
  have hst : (storeCells ⟨g, n, none⟩ [u] 0).run P w = .ok () (w.setCell ⟨g, n, none⟩ u) := by
    simp only [storeCells, Sem.run_bind, hadd2, run_store P w _ u _ h1, hcell]
    simp [hfr]
  simp [Builtin.append_, run_underlying ht, sizeOf, typeInfo, hi, Builtin.lenOf, hroom, hf, hadd, hst]
/-- A row of bytes of the call's own, perhaps marked behind its cells. -/
def MR (e : TypeId) (B : Nat) (v : Value) (L : List Value) (w : World) : Prop :=
  ∃ g cap cur fr, v = .slice (some ⟨g, 0, none⟩) L.length cap ∧ B ≤ g ∧ w.heap[g]? = some (.cells cur e fr) ∧ cur.size = cap ∧ L.length ≤ cap ∧ cap ≤ maxLen ∧ (∀ (i : Nat) (u : Value), L[i]? = some u → cur[i]? = some u) ∧ (fr = (0, 0) ∨ cap ≤ fr.1)
theorem mr_frozen {w : World} {g cap i : Nat} {cur : Array Value} {e : TypeId} {fr : Nat × Nat} (hg : w.heap[g]? = some (.cells cur e fr)) (hf : fr = (0, 0) ∨ cap ≤ fr.1) (hi : i < cap) : w.frozen? ⟨g, i, none⟩ = false := by
  obtain ⟨lo, hi'⟩ := fr
  unfold World.frozen?
  rw [hg]
  rcases hf with hf | hf
  · injection hf with h1 h2
    subst h1 h2
    simp
  · have : ¬ lo ≤ i := by show ¬ lo ≤ i; have : cap ≤ lo := hf; omega
    simp [this]
theorem mr_set {w : World} {g : Nat} {cur : Array Value} {e : TypeId} {fr : Nat × Nat} (hg : w.heap[g]? = some (.cells cur e fr)) (i : Nat) (u : Value) : (w.setCell ⟨g, i, none⟩ u).heap[g]? = some (.cells (cur.setIfInBounds i u) e fr) := by
  simp [World.setCell, Array.getElem?_modify, hg]
theorem mr_append {P : Program} {ops : Array Oper} {rest : List Oper} {o : Oper} {a : Act} {Q : Exit → Act → World → Prop} {w : World} (hgd : o.guard = none) (s x : Operand) (t e : TypeId)
    (ho : o.op = .call { callee := .builtin .append, args := #[s, x], argTypes := #[t, t] })
    (i : TypeInfo) (z : Value) (ht : P.underlying t = some (.slice e)) (hi : P.info? e = some i) (hz : i.zero = some z) (hsize : i.size = 1) (hby : i.bytes = 1) (hzs : z.cells.size = 1)
    (B : Nat) (v : Value) (L : List Value) (hs : a.eval s = v) (hm : MR e B v L w) (ad : Addr) (c : Nat) (u : Value) (hx : a.eval x = .slice (some ad) 1 c) (hu : w.cell? ad = some u) (h1 : u.oneCell' = true)
    (hL : L.length ≤ 1000) (hB : B ≤ w.heap.size) (h : ∀ v' w', MR e B v' (L ++ [u]) w' → Below B w w' → wpList P ops Q rest (a.put o.dst v') w') : wpList P ops Q (o :: rest) a w := by
  obtain ⟨g, cap, cur, fr, rfl, hg, hh, hcs, hlc, hcap, hcell, hfr⟩ := hm
  have key : ∃ v' w', (Builtin.append_ #[t, t] o.type #[.slice (some ⟨g, 0, none⟩) L.length cap, .slice (some ad) 1 c]).run P w = .ok v' w' ∧ MR e B v' (L ++ [u]) w' ∧ Below B w w' := by
    by_cases hroom : L.length + 1 ≤ cap
    · refine ⟨_, _, run_one_room w t o.type e i ht hi hsize g L.length cap c cur fr hh (mr_frozen hh hfr (by omega)) ad u hu h1 hroom (by omega), ?_, (Below.refl B w).setCell (p := ⟨g, L.length, none⟩) hg u⟩
      refine ⟨g, cap, cur.setIfInBounds L.length u, fr, by simp, hg, mr_set hh _ _, by simp [hcs], by simp; omega, hcap, ?_, hfr⟩
      intro j q hj
      by_cases hjl : j < L.length
      · rw [List.getElem?_append_left hjl] at hj
        rw [Array.getElem?_setIfInBounds_ne (by omega)]
        exact hcell j q hj
      · have hjn : j = L.length := by
          have := List.getElem?_eq_some_iff.1 hj
          obtain ⟨h2, _⟩ := this
          simp at h2
          omega
        subst hjn
        rw [List.getElem?_concat_length] at hj
        rw [Array.getElem?_setIfInBounds_self_of_lt (by omega)]
        exact hj
    · have hold : ∀ (j : Nat) q, L[j]? = some q → w.cell? ((⟨g, 0, none⟩ : Addr).add j) = some q := by
        intro j q hj
        rw [Addr.add_lit, Nat.zero_add, cell_of_row w g j cur e fr hh]
        exact hcell j q hj
      have hnew : ∀ (j : Nat) q, [u][j]? = some q → w.cell? (ad.add j) = some q := by
        intro j q hj
        cases j with
        | zero => simp at hj; subst hj; simpa [Addr.add] using hu
        | succ j => simp at hj
      have hfit : Builtin.nextslicecap (L.length + 1) cap * i.bytes ≤ 281474976710656 := by
        have := nextslicecap_le (need := L.length + 1) (old := cap) (by omega)
        rw [hby]; omega
      have hge := grownCap_ge w (L.length + 1) cap e
      have hr := run_append_grow (P := P) w t o.type e i z ht hi hz ⟨g, 0, none⟩ L.length cap L (by simp [hsize]) hold ad 1 c [u] (by simp [hsize]) hnew (by omega) (by omega) hfit
      refine ⟨_, _, hr, ?_, ((Below.refl B w).drew).alloc hB _⟩
      refine ⟨w.heap.size, grownCap w (L.length + 1) cap e, _, (0, 0), by simp, hB, heap_alloc_new w.drew _, ?_, by simp; omega, grownCap_le_maxLen w _ _ e (by unfold maxLen; omega), ?_, .inl rfl⟩
      · rw [Array.size_append, size_zeroCells, hzs]; simp; omega
      · intro j q hj
        have hjl : j < (L ++ [u]).length := (List.getElem?_eq_some_iff.1 hj).1
        rw [Array.getElem?_append_left (by simpa using hjl)]
        simpa using hj
  obtain ⟨v', w', hr, h2, h3⟩ := key
  refine wpList_plain hgd fun K hK => ?_
  unfold Oper.wp execOp
  simp only [ho, resolve, invoke, builtin, Sem.run_bind, Sem.run_pure, Result.andThen_ok, List.map_toArray, List.map_cons, List.map_nil, hs, hx, hr]
  exact hK _ _ (h v' w' h2 h3)
/-- Bytes as they lie. -/
def bv (L : List Nat) : List Value := L.map fun (n : Nat) => Value.int .u8 (n : Int)
theorem bv_length (L : List Nat) : (bv L).length = L.length := by simp [bv]
theorem bv_snoc (L : List Nat) (n : Nat) : bv L ++ [Value.int .u8 (n : Int)] = bv (L ++ [n]) := by simp [bv]
theorem mr_new (e : TypeId) (B : Nat) (w : World) (s : ByteArray) (hB : B ≤ w.heap.size) (hs : s.size ≤ 1000) :
    MR e B (.slice (some ⟨w.heap.size, 0, none⟩) s.size (grownCap w s.size 0 e)) (bv (bs s)) (w.drew.alloc (.cells (bytesRow s (grownCap w s.size 0 e)) e ((bytesRow s (grownCap w s.size 0 e)).size, (bytesRow s (grownCap w s.size 0 e)).size + 1))) := by
  have hge := grownCap_ge w s.size 0 e
  have hsz : (bytesRow s (grownCap w s.size 0 e)).size = grownCap w s.size 0 e := by
    unfold bytesRow
    rw [Array.size_append, Array.size_map, Array.size_replicate]
    have : s.data.size = s.size := rfl
    omega
  have hlen : (bv (bs s)).length = s.size := by rw [bv_length, bs_length]
  refine ⟨w.heap.size, grownCap w s.size 0 e, bytesRow s (grownCap w s.size 0 e), ((bytesRow s (grownCap w s.size 0 e)).size, (bytesRow s (grownCap w s.size 0 e)).size + 1), by rw [hlen], hB, ?_, hsz, by rw [hlen]; exact hge, grownCap_le_maxLen w _ _ e (by unfold maxLen; omega), ?_, .inr (by rw [hsz]; exact Nat.le_refl _)⟩
  · show (w.heap.push _)[w.heap.size]? = _
    simp
  · intro i u hi
    have hil : i < (bv (bs s)).length := (List.getElem?_eq_some_iff.1 hi).1
    rw [hlen] at hil
    unfold bytesRow
    rw [Array.getElem?_append_left (by rw [Array.size_map]; exact hil)]
    unfold bv bs at hi
    rw [List.map_map] at hi
    rw [← hi, ← Array.getElem?_toList, Array.toList_map]
    rfl
theorem mr_string {P : Program} {w : World} (src dst e : TypeId) (hs : P.underlying src = some (.slice e)) (he : P.underlying e = some (.int .u8)) (hd : P.underlying dst = some .string) {B g cap cap' : Nat} {L : List Nat} (hL : okB L) (hm : MR e B (.slice (some ⟨g, 0, none⟩) L.length cap) (bv L) w) (m : Nat) (hml : m ≤ L.length) :
    (convert src dst (.slice (some ⟨g, 0, none⟩) m cap')).run P w = .ok (.string (st (L.take m))) w := by
  obtain ⟨g', cp, cur, fr, hv, _, hh, hcs, hlc, hcap, hcell, hfr⟩ := hm
  injection hv with hv1 hv2 hv3
  injection hv1 with hv1
  injection hv1 with hv1
  subst hv1
  have h := run_convert_bytes_back (P := P) w src dst e ⟨g, 0, none⟩ cap' ((L.take m).map UInt8.ofNat) hs he hd (by
    intro j hj
    have hjm : j < (L.take m).length := by simpa using hj
    have hjl : j < L.length := by rw [List.length_take] at hjm; omega
    rw [Addr.add_lit, Nat.zero_add, cell_of_row w g j cur e fr hh]
    rw [hcell j (.int .u8 (L[j] : Int)) (by unfold bv; simp [hjl])]
    have hb : L[j] < 256 := hL _ (List.getElem_mem hjl)
    simp only [List.getElem_map, List.getElem_take]
    congr 2
    simp
    omega)
  rw [List.length_map, List.length_take, Nat.min_eq_left hml] at h
  exact h
end Go.Proofs.YtlgiodkckdpjiaaDoor
