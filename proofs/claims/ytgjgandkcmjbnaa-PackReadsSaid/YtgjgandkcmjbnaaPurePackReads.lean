/- Proved: any bytes begin with the number that the reference says, or with none, in the printed functions; for any bytes. -/
import Derived.Test.YtgjgandkcmjbnaaPureV
import Derived.Test.YtgjgandkcmjbnaaWalkPackReads
namespace Go.Proofs.Ytgjgandkcmjbnaa.Pure
open Go.RowKit Go.Proofs.Ytgjgandkcmjbnaa.PB Go.Proofs.YtgjgandkcmjbnaaW.PrintWords Go.Proofs.YtgjgandkcmjbnaaW.PrintLast
theorem PackReads : terrierlaw1_PackReads.Pure := by
  intro l _ _ w
  refine ⟨300, ?_⟩
  have hb := bytes_of_wf w
  unfold terrierlaw1_PackReads.f
  rw [var_eq l 300 (by omega), rvar_eq hb 300 (by omega), intOf_eq l 300 (by omega), rintOf_eq hb 300 (by omega), awake_eq 300 (by omega)]
  simp
end Go.Proofs.Ytgjgandkcmjbnaa.Pure
