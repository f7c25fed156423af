/- Lines: bounds of what the line functions answer. No condition but the bounds. -/
import Derived.Test.YtamcacahjlaogaaDoorLh
namespace Go.Proofs.YtamcacahjlaogaaDoor.LP
open Go Go.RowKit Go.Proofs.YtamcacahjlaogaaDoor.Ln Go.Proofs.YtamcacahjlaogaaDoor.QBaseL Go.Proofs.YtamcacahjlaogaaDoorW.PrintWords Go.Proofs.YtamcacahjlaogaaDoorW.PrintLast Go.Proofs.YtamcacahjlaogaaDoorW.PrintMore
theorem szS_cv (xs : List S75) : szS (xs.map cvG) = ((cellsL xs + 2 * xs.length : Nat) : Int) := by
 induction xs with
 | nil => rfl
 | cons x l ih => simp only [List.map_cons, szS, cellsL, List.length_cons, ih]; simp only [cvG]; omega
theorem rdG_cv (xs : List S75) (i : Nat) (h : i < (xs.map cvG).length) : (rdG (xs.map cvG) i).f0.length ≤ cellsL xs := by
 rw [rdG_at _ i h, List.getElem_map]
 exact cellsL_mem xs _ (List.getElem_mem _)
theorem LcRes.bound {gs : List SG} {st : List Int} {off : Int} {xs : List SG} {st' : List Int} {a b c : Int} (h : LcRes gs st off xs st' a b c) (hn : gs.length ≤ 1048576) (hz : szS gs ≤ 5000000) : xs.length ≤ 1048576 ∧ szS xs ≤ 5000000 ∧ st'.length ≤ 2000000 := by
 rcases h with ⟨h0, rfl, rfl, -⟩ | ⟨h0, h1, rfl, rfl, -⟩ | ⟨h0, h1, k, l, h2, h3, rfl, rfl, -⟩
 ·simp [szS]
 ·simp [szS]
 ·refine ⟨hn, hz, ?_⟩
  have := h2.hi
  rw [List.length_map] at this
  rw [sts_length]; omega
end Go.Proofs.YtamcacahjlaogaaDoor.LP
