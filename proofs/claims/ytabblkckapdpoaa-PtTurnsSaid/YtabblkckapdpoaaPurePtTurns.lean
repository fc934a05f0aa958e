/- Proved: which way three points turn and how great their triangle is, as the reference has it, in the printed functions; for any three points. -/
import Derived.Test.YtabblkckapdpoaaEqPtTurns
namespace Go.Proofs.Ytabblkckapdpoaa.PPtTurns
open Go.RowKit Go.Proofs.YtabblkckapdpoaaW.PrintWords Go.Proofs.YtabblkckapdpoaaW.PrintLast Go.Proofs.YtabblkckapdpoaaW.PrintMore
open Geo
theorem PtTurns (a0 a0b a1 a1b a2 a2b : Int) : ∃ k, terrierlaw9_PtTurns.f k a0 a0b a1 a1b a2 a2b = some true := by
  refine ⟨23, ?_⟩
  unfold terrierlaw9_PtTurns.f
  rw [area2_eq, rarea2_eq, turn_eq, rturn_eq, area2_eq, area2_eq]
  have hb := (area_w (nr_bd a0) (nr_bd a0b) (nr_bd a1) (nr_bd a1b) (nr_bd a2) (nr_bd a2b)).2
  simp only [Option.bind_some, area_rot, area_swap (nr a0), if_true]
  rw [w64 _ (by omega) (by omega), if_pos rfl, awake_eq]
  rfl
end Go.Proofs.Ytabblkckapdpoaa.PPtTurns
