import Derived.Test.YtnghlkbmfhkmoaaGreatDoorMspptewff
import Derived.WideShapes
namespace Go.Proofs.YtnghlkbmfhkmoaaGreatDoor
open Go.RowKit

/-- The address in a struct's slice has no spot. -/
theorem spot_at {P : Program} {W : World} {base t e : Nat} {fs : Array Field} {cs : Array Value} {a : Option Addr} {len cap : Nat} {r : Reach} (j : Nat) (ht : P.underlying t = some (.struct fs)) (u : Nat)
    (hc : (P.cellTypes P.depth t).map (fun ts => ts[j % ts.length]?) = some (some u)) (hu : P.underlying u = some (.slice e)) (h : Value.okWide P W r base t (.agg cs)) (h0 : cs[j]? = some (.slice a len cap)) : ∀ b, a = some b → b.spot = none := by
  intro b hb
  subst hb
  simp only [Value.okWide, ht] at h
  obtain ⟨cs', hcs, _, ts, hts, _, hrow⟩ := h
  injection hcs with hcs
  subst hcs
  obtain ⟨u', hu', hcell⟩ := hrow j _ h0
  rw [hts] at hc
  simp only [Option.map_some, Option.some.injEq] at hc
  rw [hu'] at hc
  injection hc with hc
  subst hc
  simp only [Cell.okWide, hu, Cell.ok] at hcell
  exact hcell.2.2.2.1
end Go.Proofs.YtnghlkbmfhkmoaaGreatDoor
