import Derived.Test.YtodhnmflabehhaaBt
import Derived.Test.YtodhnmflabehhaaWLast
import Derived.Test.YtodhnmflabehhaaWMore
import Derived.WalkKit
import Derived.Below
import Derived.Test.YtodhnmflabehhaaPXorBackx
namespace Go.Proofs.Ytodhnmflabehhaa
open Go.RowKit Go.Proofs.YtodhnmflabehhaaW.PrintWords Go.Proofs.YtodhnmflabehhaaW.PrintLast Go.Proofs.YtodhnmflabehhaaW.PrintMore Hy

theorem cellAt {w : World} {A : Option Addr} {l : List Int} {ik : IntKind} (h : Kd.C (Kd.int ik) w A l.length l) (k : Nat) (hk : k < l.length) : ∃ ad, A = some ad ∧ w.cell? (ad.add k) = some (.int ik (l[k])) := by
  obtain ⟨ad, e, hx⟩ := Kd.at_int h (k : Int) (by omega) (by omega)
  refine ⟨ad, e, ?_⟩
  simpa [rd, List.getD_eq_getElem?_getD, hk] using hx

theorem R_C {α : Type} {d : Kd α} {e : Nat} {w : World} {base : Nat} {ok : Nat → Prop} {A : Option Addr} {n c : Nat} {xs : List α} (h : d.R e w base ok (.slice A n c) xs) : d.C w A xs.length xs ∧ n = xs.length ∧ xs.length ≤ c := by
  obtain ⟨A', c', e, hl, hc⟩ := Kd.R_reads h
  injection e with e1 e2 e3
  subst e1; subst e3
  exact ⟨hc, e2, hl⟩
theorem info_u64 : (Try.prog.info? 22).map (fun i => (i.zero, i.size, i.bytes)) = some (some (.int .u64 0), 1, 8) := by kernel_rfl

theorem C_lit (W : World) (k : IntKind) (xs : List Int) (e : TypeId) (hm : xs.length ≤ 9223372036854775807) : Kd.C (Kd.int k) (W.alloc (.cells (nums k xs).toArray e)) (some ⟨W.heap.size, 0, none⟩) xs.length xs := by
  have h := own_lit W 0 e k xs (by omega) hm
  obtain ⟨A, c, e1, h2⟩ := own_reads h
  injection e1 with e1 e2 e3
  subst e1
  exact Kd.C_of_reads (d := (0 : Int)) (h1 := fun _ => rfl) h2

/-- string([]byte{x}) -/
theorem conv_byte (x : Int) (W : World) (n : Nat) : (convert 35 9 (.slice (some ⟨W.heap.size, 0, none⟩) 1 1)).run Try.prog ((W.drewN n).alloc (.cells #[.int .u8 x] 5)) = .ok (.string (st [x.toNat])) ((W.drewN n).alloc (.cells #[.int .u8 x] 5)) := by
  have h := own_lit (W.drewN n) 0 5 .u8 [x] (by omega) (by simp)
  have h2 := own_string (P := Try.prog) Try.underlying35 Try.underlying5 Try.underlying9 h
  exact h2
theorem nums_l0 (a b : List Int) (h : a.length = b.length) (hb : a.length ≤ 140737488355328) : ∀ (d i k : Nat), i + d = a.length → d < k → PXorBack.hygref_Nums.l0 k a b (i : Int) = some (decide (a.drop i = b.drop i)) := by
  intro d
  induction d with
  | zero =>
    intro i k hi hk
    obtain ⟨k, rfl⟩ : ∃ m, k = m + 1 := ⟨k - 1, by omega⟩
    simp only [PXorBack.hygref_Nums.l0]
    rw [if_neg (by omega), List.drop_of_length_le (by omega), List.drop_of_length_le (by omega)]
    simp
  | succ d ih =>
    intro i k hi hk
    obtain ⟨k, rfl⟩ : ∃ m, k = m + 1 := ⟨k - 1, by omega⟩
    have hi1 : i < a.length := by omega
    have hi2 : i < b.length := by omega
    have ra : rd a (i : Int) = a[i] := by simp [rd, List.getD_eq_getElem?_getD, hi1]
    have rb : rd b (i : Int) = b[i] := by simp [rd, List.getD_eq_getElem?_getD, hi2]
    simp only [PXorBack.hygref_Nums.l0]
    rw [if_pos (by omega), if_pos (by omega), if_pos (by omega), ra, rb]
    have hd : (a.drop i = b.drop i) ↔ (a[i] = b[i] ∧ a.drop (i + 1) = b.drop (i + 1)) := by
      rw [List.drop_eq_getElem_cons hi1, List.drop_eq_getElem_cons hi2, List.cons.injEq]
    by_cases he : a[i] = b[i]
    · rw [if_pos he, show wrap64 ((i : Int) + 1) = ((i + 1 : Nat) : Int) by unfold wrap64; omega, ih (i + 1) k (by omega) (by omega)]
      rw [show decide (a.drop i = b.drop i) = decide (a.drop (i + 1) = b.drop (i + 1)) from decide_eq_decide.2 (hd.trans ⟨fun h => h.2, fun h => ⟨he, h⟩⟩)]
    · rw [if_neg he, decide_eq_false (fun e => he (hd.1 e).1)]
theorem nums_f (a b : List Int) (hb : a.length ≤ 140737488355328) : PXorBack.hygref_Nums.f (a.length + 1) a b = some (decide (a = b)) := by
  unfold PXorBack.hygref_Nums.f
  by_cases h : a.length = b.length
  · rw [if_pos (by omega)]
    have := nums_l0 a b h hb a.length 0 (a.length + 1) (by omega) (by omega)
    simpa using this
  · rw [if_neg (by omega)]
    simp
    intro e; exact h (by rw [e])
theorem nums_any (A : Option Addr) (c : Nat) (l : List Int) (A' : Option Addr) (c' : Nat) (l' : List Int) (w : World) (hr : Kd.C (Kd.int .u64) w A l.length l) (hc : l.length ≤ c) (hr' : Kd.C (Kd.int .u64) w A' l'.length l') (hc' : l'.length ≤ c') (hl : l.length ≤ 140737488355328) :
    Calls Try.prog 12 #[.slice A l.length c, .slice A' l'.length c'] w fun e w' => e = .returned (.bool (decide (l = l'))) ∧ Drawn0 w w' :=
  PXorBack.hygref_Nums.calls (l.length + 1) A c l A' c' l' _ w hr hc hr' hc' (nums_f l l' hl)
end Go.Proofs.Ytodhnmflabehhaa
