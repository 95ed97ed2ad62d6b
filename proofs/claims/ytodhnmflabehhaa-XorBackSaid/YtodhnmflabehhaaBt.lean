import Derived.Test.YtodhnmflabehhaaNum
import Derived.Test.YtodhnmflabehhaaWWords
namespace Go.Proofs.Ytodhnmflabehhaa
open Go.RowKit Go.Proofs.YtodhnmflabehhaaW.PrintWords Hy

theorem below_next {w w1 w2 : World} (h : Below w.heap.size w w1) (h' : Below w1.heap.size w1 w2) : Below w.heap.size w w2 := h.trans (h'.mono h.size)
theorem bt_bs (s : ByteArray) (i : Nat) (h : i < s.size) : ∃ c r, (bs s).drop i = c :: r ∧ bt s (i : Int) = (c : Int) ∧ c < 256 ∧ (bs s).drop (i + 1) = r := by
  have hl : i < (bs s).length := by rw [bs_length]; exact h
  refine ⟨(bs s)[i], (bs s).drop (i + 1), List.drop_eq_getElem_cons hl, ?_, bs_ok s _ (List.getElem_mem hl), rfl⟩
  unfold bt
  rw [dif_pos (by simpa using h)]
  simp [bs]
  rfl
end Go.Proofs.Ytodhnmflabehhaa
