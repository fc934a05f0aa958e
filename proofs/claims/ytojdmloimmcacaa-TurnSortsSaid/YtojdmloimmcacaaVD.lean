/- What turn.Next and turn.Prev are said to tell, for fewer than sixty-four directions: definitions alone. -/
import Derived.Test.YtojdmloimmcacaaVC
namespace Go.Proofs.Ytojdmloimmcacaa.PTurnSorts
open Go.RowKit Go.Sort Go.Proofs.YtojdmloimmcacaaW.PrintWords Go.Proofs.YtojdmloimmcacaaW.PrintLast Go.Proofs.YtojdmloimmcacaaW.PrintMore
open TS
set_option linter.unusedVariables false
/-- The places in order that round hands out, from a direction on. -/
def firstp (xs : List S36) (fr : S36) : Nat := ((sorted xs).toList.takeWhile fun k => decide (cmpv (rd_T36 xs k) fr ≤ 0)).length
def roundl (xs : List S36) (fr : S36) : List Int := ((List.range xs.length).map fun i => (sorted xs)[(firstp xs fr + i) % xs.length]!).filter fun k => okd (rd_T36 xs k)
def atp (xs : List S36) (i : Int) : Bool := decide (0 ≤ i) && decide (i < (xs.length : Int)) && okd (rd_T36 xs i)
def nextp (xs : List S36) (i : Int) : Int := if atp xs i = true then ((roundl xs (rd_T36 xs i)).find? fun k => decide (cmpv (rd_T36 xs k) (rd_T36 xs i) ≠ 0)).getD i else i
def prevp (xs : List S36) (i : Int) : Int := if atp xs i = true then (roundl xs (rd_T36 xs i)).foldl (fun best k => if cmpv (rd_T36 xs k) (rd_T36 xs i) ≠ 0 ∧ (best = i ∨ cmpv (rd_T36 xs k) (rd_T36 xs best) ≠ 0) then k else best) i else i
def turn_Next.f (k : Nat) (l : List S36) (i : Int) : Option Int := if l.length < 64 then some (nextp l i) else none
def turn_Prev.f (k : Nat) (l : List S36) (i : Int) : Option Int := if l.length < 64 then some (prevp l i) else none
theorem turn_Next.mono : ∀ a0 a1 k, LeO (turn_Next.f k a0 a1) (turn_Next.f (k + 1) a0 a1) := fun _ _ _ => LeO.refl _
theorem turn_Prev.mono : ∀ a0 a1 k, LeO (turn_Prev.f k a0 a1) (turn_Prev.f (k + 1) a0 a1) := fun _ _ _ => LeO.refl _
end Go.Proofs.Ytojdmloimmcacaa.PTurnSorts
