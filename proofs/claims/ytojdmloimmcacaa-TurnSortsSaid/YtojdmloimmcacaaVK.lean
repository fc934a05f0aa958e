/- Proved: the next and the previous direction as orders say; no condition. -/
import Derived.Test.YtojdmloimmcacaaVD
import Derived.Test.YtojdmloimmcacaaTQ
namespace Go.Proofs.Ytojdmloimmcacaa.TS
open Go.RowKit Go.Sort Go.Proofs.YtojdmloimmcacaaW.PrintWords Go.Proofs.YtojdmloimmcacaaW.PrintLast Go.Proofs.YtojdmloimmcacaaW.PrintMore
open PTurnSorts
set_option linter.unusedVariables false
set_option linter.unusedSimpArgs false
theorem atp_iff (xs : List S36) (i : Int) : atp xs i = true ↔ 0 ≤ i ∧ i < (xs.length : Int) ∧ okl xs i = true := by
  unfold atp okl
  simp only [Bool.and_eq_true, decide_eq_true_eq, and_assoc]
theorem nextp_is (xs : List S36) (i : Int) (h : atp xs i = true) : TP.IsNext (cfl xs) (okl xs) xs.length i (nextp xs i) := by
  have e : nextp xs i = TP.nextg (cfl xs) (okl xs) xs.length i := by
    unfold nextp
    rw [if_pos h]
    rfl
  rw [e]
  exact TP.next_spec (cfl_pre xs) (okl xs) xs.length i (cfl_none xs i ((atp_iff xs i).1 h).2.2)
theorem prevp_is (xs : List S36) (i : Int) (h : atp xs i = true) : TP.IsPrev (cfl xs) (okl xs) xs.length i (prevp xs i) := by
  have e : prevp xs i = TP.prevg (cfl xs) (okl xs) xs.length i := by
    unfold prevp
    rw [if_pos h]
    rfl
  rw [e]
  exact TP.prev_spec (cfl_pre xs) (okl xs) xs.length i (cfl_none xs i ((atp_iff xs i).1 h).2.2)
end Go.Proofs.Ytojdmloimmcacaa.TS
