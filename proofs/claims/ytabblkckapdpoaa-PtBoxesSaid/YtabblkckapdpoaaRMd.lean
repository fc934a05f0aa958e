import Derived.Test.YtabblkckapdpoaaPPtBoxesx0
import Derived.Test.YtabblkckapdpoaaPPtBoxesx3
namespace Go.Proofs.Ytabblkckapdpoaa.PPtBoxes
open Go.RowKit Go.Proofs.YtabblkckapdpoaaW.PrintWords Go.Proofs.YtabblkckapdpoaaW.PrintLast Go.Proofs.YtabblkckapdpoaaW.PrintMore
attribute [local go_sem] max2_int min2_int max_two min_two max_three min_three max_four min_four   -- for this text's walks alone
set_option linter.unusedVariables false
set_option linter.unusedSimpArgs false

/-! ### terrierref9_Meet: function 34 -/
def terrierref9_Meet.f (a0_0 : Int) (a0_1 : Int) (a1_0 : Int) (a1_1 : Int) (a2_0 : Int) (a2_1 : Int) (a3_0 : Int) (a3_1 : Int) : Option (Bool) := (terrierref9_Clean.f a0_0 a0_1).bind fun bt193 => ((terrierref9_Clean.f a1_0 a1_1).bind fun bt195 => ((terrierref9_Clean.f a2_0 a2_1).bind fun bt197 => ((terrierref9_Clean.f a3_0 a3_1).bind fun bt199 => (if bt193.1 > bt195.1 then (some false) else (if bt193.2 > bt195.2 then (some false) else (if bt197.1 > bt199.1 then (some false) else (if bt197.2 > bt199.2 then (some false) else (if (mx bt193.1 bt197.1) ≤ (mn bt195.1 bt199.1) then (some (decide ((mx bt193.2 bt197.2) ≤ (mn bt195.2 bt199.2)))) else (some false)))))))))
def terrierref9_Meet.T1 : Bool × List (List Nat × List Nat) := (true, [([], []), ([0], [0]), ([], []), ([2, 1], [2]), ([], []), ([4, 3], [4]), ([], []), ([6, 5], [6]), ([1, 7, 0, 1], [1]), ([3, 8, 0, 1, 2, 3, 8], [3]), ([5, 9, 0, 1, 2, 3, 4, 5, 8, 9], [5]), ([7, 10, 0, 1, 2, 3, 4, 5, 6, 7, 8, 9, 10], [7])])
def terrierref9_Meet.B1 : List Nat := [0, 1, 0, 7, 0, 31, 0, 127, 255, 511, 1023, 2047]
theorem terrierref9_Meet.tab1 : rtab .any (opsOf Try.f34 1) = terrierref9_Meet.T1 := by kernel_rfl
theorem terrierref9_Meet.bits1 : waitsOk terrierref9_Meet.T1.2 terrierref9_Meet.B1 = true := by kernel_rfl
end Go.Proofs.Ytabblkckapdpoaa.PPtBoxes
