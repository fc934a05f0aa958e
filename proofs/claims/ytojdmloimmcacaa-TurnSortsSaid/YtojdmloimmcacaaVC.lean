/- Proved: turn.Sort's contract as the laws' texts ask it, for fewer than sixty-four directions. -/
import Derived.Test.YtojdmloimmcacaaV9
namespace Go.Proofs.Ytojdmloimmcacaa.PTurnSorts
open Go.RowKit Go.Sort Go.Proofs.YtojdmloimmcacaaW.PrintWords Go.Proofs.YtojdmloimmcacaaW.PrintLast Go.Proofs.YtojdmloimmcacaaW.PrintMore
open TS
set_option linter.unusedVariables false
set_option linter.unusedSimpArgs false
/-- turn.Sort, for fewer than sixty-four. -/
def turn_Sort.f (k : Nat) (l : List S36) : Option (List Int) := if l.length < 64 then some (sorted l).toList else none
theorem turn_Sort.mono : ∀ a0 k, LeO (turn_Sort.f k a0) (turn_Sort.f (k + 1) a0) := fun _ _ => LeO.refl _
theorem turn_Sort.calls (k : Nat) (A0 : Option Addr) (c0 : Nat) (l0 : List (S36)) (r : List Int) (w : World) (hr0 : Kd.C k36 w A0 l0.length l0) (hc0 : l0.length ≤ c0) (h : turn_Sort.f k l0 = some r) :
    Calls Try.prog 9 #[.slice A0 l0.length c0] w fun e w' => ∃ v0_ : Value, e = .returned (v0_) ∧ Kd.R (Kd.int .i64) 3 w' w.heap.size (fun _ => True) v0_ r ∧ Below w.heap.size w w' := by
  unfold turn_Sort.f at h
  split at h
  · rename_i h20
    obtain rfl := Option.some.inj h
    refine (Sort_walk w A0 l0 c0 hr0 cmpv_e h20).mono fun e w' ⟨blk, he, hb, hle, hrow, hs, _⟩ => ?_
    refine ⟨_, he, ?_, hb⟩
    refine Kd.R_of_own ?_ (fun _ _ => trivial)
    have e1 : (sorted l0).toList.length = l0.length := by rw [Array.length_toList, hs]
    rw [e1]
    refine ⟨by simp [encs, hs], .inr ⟨blk, l0.length, _, rfl, hle, hrow, Nat.le_refl _, by simp only [maxLen]; omega, by simp [hs], ?_⟩⟩
    have : ((sorted l0).map (Value.int .i64)).toList.length = l0.length * 1 := by simp [hs]
    rw [← this, List.take_length]
    simp [encs]
  · exact absurd h (by simp)
end Go.Proofs.Ytojdmloimmcacaa.PTurnSorts
