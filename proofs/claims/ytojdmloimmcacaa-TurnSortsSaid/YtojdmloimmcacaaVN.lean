/- Proved: Next's and Prev's contracts as the laws' texts ask them, for fewer than sixty-four directions. -/
import Derived.Test.YtojdmloimmcacaaV13
namespace Go.Proofs.Ytojdmloimmcacaa.PTurnSorts
open Go.RowKit Go.Sort Go.Proofs.YtojdmloimmcacaaW.PrintWords Go.Proofs.YtojdmloimmcacaaW.PrintLast Go.Proofs.YtojdmloimmcacaaW.PrintMore
open TS
set_option linter.unusedVariables false
theorem turn_Next.calls (k : Nat) (A0 : Option Addr) (c0 : Nat) (l0 : List (S36)) (a1 : Int) (r : Int) (w : World) (hr0 : Kd.C k36 w A0 l0.length l0) (hc0 : l0.length ≤ c0) (h : turn_Next.f k l0 a1 = some r) :
    Calls Try.prog 11 #[.slice A0 l0.length c0, .int .i64 a1] w fun e w' => e = .returned (.int .i64 r) ∧ Below w.heap.size w w' := by
  unfold turn_Next.f at h
  split at h
  · rename_i h20
    obtain rfl := Option.some.inj h
    exact Next_walk A0 c0 l0 a1 w hr0 hc0 h20
  · exact absurd h (by simp)
theorem turn_Prev.calls (k : Nat) (A0 : Option Addr) (c0 : Nat) (l0 : List (S36)) (a1 : Int) (r : Int) (w : World) (hr0 : Kd.C k36 w A0 l0.length l0) (hc0 : l0.length ≤ c0) (h : turn_Prev.f k l0 a1 = some r) :
    Calls Try.prog 13 #[.slice A0 l0.length c0, .int .i64 a1] w fun e w' => e = .returned (.int .i64 r) ∧ Below w.heap.size w w' := by
  unfold turn_Prev.f at h
  split at h
  · rename_i h20
    obtain rfl := Option.some.inj h
    exact Prev_walk A0 c0 l0 a1 w hr0 hc0 h20
  · exact absurd h (by simp)
end Go.Proofs.Ytojdmloimmcacaa.PTurnSorts
