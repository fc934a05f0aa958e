import Derived.Test.YtabblkckapdpoaaPPtBoxesx0
import Derived.Test.YtabblkckapdpoaaPPtBoxesx3
import Derived.Test.YtabblkckapdpoaaRM5
import Derived.Test.YtabblkckapdpoaaRM4
import Derived.Test.YtabblkckapdpoaaRM3
import Derived.Test.YtabblkckapdpoaaRM2
import Derived.Test.YtabblkckapdpoaaRM1
import Derived.Test.YtabblkckapdpoaaRM0
namespace Go.Proofs.Ytabblkckapdpoaa.PPtBoxes
open Go.RowKit Go.Proofs.YtabblkckapdpoaaW.PrintWords Go.Proofs.YtabblkckapdpoaaW.PrintLast Go.Proofs.YtabblkckapdpoaaW.PrintMore
attribute [local go_sem] max2_int min2_int max_two min_two max_three min_three max_four min_four   -- for this text's walks alone
set_option linter.unusedVariables false
set_option linter.unusedSimpArgs false

set_option maxHeartbeats 8000000 in
set_option maxRecDepth 100000 in
theorem terrierref9_Meet.calls (a0_0 : Int) (a0_1 : Int) (a1_0 : Int) (a1_1 : Int) (a2_0 : Int) (a2_1 : Int) (a3_0 : Int) (a3_1 : Int) (r : Bool) (w : World) (h : terrierref9_Meet.f a0_0 a0_1 a1_0 a1_1 a2_0 a2_1 a3_0 a3_1 = some r) :
    Calls Try.prog 34 #[.agg #[.int .i64 a0_0, .int .i64 a0_1], .agg #[.int .i64 a1_0, .int .i64 a1_1], .agg #[.int .i64 a2_0, .int .i64 a2_1], .agg #[.int .i64 a3_0, .int .i64 a3_1]] w fun e w' => e = .returned (.bool r) ∧ Below w.heap.size w w' := by
  have hu23 := Try.underlying23
  have HB := Aside0.mk (Below.refl w.heap.size w)
  have H : ((terrierref9_Clean.f a0_0 a0_1).bind fun bt193 => ((terrierref9_Clean.f a1_0 a1_1).bind fun bt195 => ((terrierref9_Clean.f a2_0 a2_1).bind fun bt197 => ((terrierref9_Clean.f a3_0 a3_1).bind fun bt199 => (if bt193.1 > bt195.1 then (some false) else (if bt193.2 > bt195.2 then (some false) else (if bt197.1 > bt199.1 then (some false) else (if bt197.2 > bt199.2 then (some false) else (if (mx bt193.1 bt197.1) ≤ (mn bt195.1 bt199.1) then (some (decide ((mx bt193.2 bt197.2) ≤ (mn bt195.2 bt199.2)))) else (some false)))))))))) = some r := h
  clear h
  replace H := Option.bind_eq_some_iff.mp H
  obtain ⟨⟨t193, t194⟩, A50, H⟩ := H
  replace H : ((terrierref9_Clean.f a1_0 a1_1).bind fun bt195 => ((terrierref9_Clean.f a2_0 a2_1).bind fun bt197 => ((terrierref9_Clean.f a3_0 a3_1).bind fun bt199 => (if t193 > bt195.1 then (some false) else (if t194 > bt195.2 then (some false) else (if bt197.1 > bt199.1 then (some false) else (if bt197.2 > bt199.2 then (some false) else (if (mx t193 bt197.1) ≤ (mn bt195.1 bt199.1) then (some (decide ((mx t194 bt197.2) ≤ (mn bt195.2 bt199.2)))) else (some false))))))))) = some r := H
  have A5 := Aside0.mk A50
  clear A50
  replace H := Option.bind_eq_some_iff.mp H
  obtain ⟨⟨t195, t196⟩, A60, H⟩ := H
  replace H : ((terrierref9_Clean.f a2_0 a2_1).bind fun bt197 => ((terrierref9_Clean.f a3_0 a3_1).bind fun bt199 => (if t193 > t195 then (some false) else (if t194 > t196 then (some false) else (if bt197.1 > bt199.1 then (some false) else (if bt197.2 > bt199.2 then (some false) else (if (mx t193 bt197.1) ≤ (mn t195 bt199.1) then (some (decide ((mx t194 bt197.2) ≤ (mn t196 bt199.2)))) else (some false)))))))) = some r := H
  have A6 := Aside0.mk A60
  clear A60
  replace H := Option.bind_eq_some_iff.mp H
  obtain ⟨⟨t197, t198⟩, A70, H⟩ := H
  replace H : ((terrierref9_Clean.f a3_0 a3_1).bind fun bt199 => (if t193 > t195 then (some false) else (if t194 > t196 then (some false) else (if t197 > bt199.1 then (some false) else (if t198 > bt199.2 then (some false) else (if (mx t193 t197) ≤ (mn t195 bt199.1) then (some (decide ((mx t194 t198) ≤ (mn t196 bt199.2)))) else (some false))))))) = some r := H
  have A7 := Aside0.mk A70
  clear A70
  replace H := Option.bind_eq_some_iff.mp H
  obtain ⟨⟨t199, t200⟩, A80, H⟩ := H
  replace H : (if t193 > t195 then (some false) else (if t194 > t196 then (some false) else (if t197 > t199 then (some false) else (if t198 > t200 then (some false) else (if (mx t193 t197) ≤ (mn t195 t199) then (some (decide ((mx t194 t198) ≤ (mn t196 t200)))) else (some false)))))) = some r := H
  have A8 := Aside0.mk A80
  clear A80
  by_cases c9 : t193 > t195
  · exact terrierref9_Meet.way0 a0_0 a0_1 a1_0 a1_1 a2_0 a2_1 a3_0 a3_1 r w t193 t194 t195 t196 t197 t198 t199 t200 A5 A6 A7 A8 H c9
  by_cases c34 : t194 > t196
  · exact terrierref9_Meet.way1 a0_0 a0_1 a1_0 a1_1 a2_0 a2_1 a3_0 a3_1 r w t193 t194 t195 t196 t197 t198 t199 t200 A5 A6 A7 A8 H c9 c34
  by_cases c59 : t197 > t199
  · exact terrierref9_Meet.way2 a0_0 a0_1 a1_0 a1_1 a2_0 a2_1 a3_0 a3_1 r w t193 t194 t195 t196 t197 t198 t199 t200 A5 A6 A7 A8 H c9 c34 c59
  by_cases c87 : t198 > t200
  · exact terrierref9_Meet.way3 a0_0 a0_1 a1_0 a1_1 a2_0 a2_1 a3_0 a3_1 r w t193 t194 t195 t196 t197 t198 t199 t200 A5 A6 A7 A8 H c9 c34 c59 c87
  by_cases c117 : mx t193 t197 ≤ mn t195 t199
  · exact terrierref9_Meet.way4 a0_0 a0_1 a1_0 a1_1 a2_0 a2_1 a3_0 a3_1 r w t193 t194 t195 t196 t197 t198 t199 t200 A5 A6 A7 A8 H c9 c34 c59 c87 c117
  · exact terrierref9_Meet.way5 a0_0 a0_1 a1_0 a1_1 a2_0 a2_1 a3_0 a3_1 r w t193 t194 t195 t196 t197 t198 t199 t200 A5 A6 A7 A8 H c9 c34 c59 c87 c117
end Go.Proofs.Ytabblkckapdpoaa.PPtBoxes
