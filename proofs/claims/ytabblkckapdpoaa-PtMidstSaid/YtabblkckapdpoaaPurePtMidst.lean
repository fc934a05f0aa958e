/- Proved: the point midway between two is on their segment, and within it if they are not the same, and as far again beyond it is not, in the printed functions; for any point and step. -/
import Derived.Test.YtabblkckapdpoaaEqPtMidst
namespace Go.Proofs.Ytabblkckapdpoaa.PPtMidst
open Go.RowKit Go.Proofs.YtabblkckapdpoaaW.PrintWords Go.Proofs.YtabblkckapdpoaaW.PrintLast Go.Proofs.YtabblkckapdpoaaW.PrintMore
open Geo

theorem tmod_in (a : Int) (m : Int) (hm : 0 < m) : -m < Int.tmod a m ∧ Int.tmod a m < m :=
  ⟨Int.lt_tmod_of_pos a hm, Int.tmod_lt_of_pos a hm⟩

theorem area_col (u v x y p q : Int) : area u v (u + p * x) (v + p * y) (u + q * x) (v + q * y) = 0 := by
  unfold area
  have e1 : u + p * x - u = p * x := by omega
  have e2 : v + p * y - v = p * y := by omega
  have e3 : u + q * x - u = q * x := by omega
  have e4 : v + q * y - v = q * y := by omega
  rw [e1, e2, e3, e4]
  have : p * x * (q * y) = p * y * (q * x) := by ac_rfl
  omega
theorem a1 (u v x y : Int) : area u v (u + 2 * x) (v + 2 * y) (u + x) (v + y) = 0 := by
  have := area_col u v x y 2 1; simpa using this
theorem a2 (u v x y : Int) : area u v (u + 2 * x) (v + 2 * y) (u + 2 * x) (v + 2 * y) = 0 := area_col u v x y 2 2
theorem a3 (u v x y : Int) : area u v (u + 2 * x) (v + 2 * y) (u + 3 * x) (v + 3 * y) = 0 := area_col u v x y 2 3

theorem on_m (u v x y : Int) : on u v (u + 2 * x) (v + 2 * y) (u + x) (v + y) = true := by
  unfold on mn mx
  rw [decide_eq_true_eq]
  refine ⟨a1 u v x y, ?_, ?_, ?_, ?_⟩ <;> split <;> omega
theorem on_b (u v x y : Int) : on u v (u + 2 * x) (v + 2 * y) (u + 2 * x) (v + 2 * y) = true := by
  unfold on mn mx
  rw [decide_eq_true_eq]
  refine ⟨a2 u v x y, ?_, ?_, ?_, ?_⟩ <;> split <;> omega
theorem on_c (u v x y : Int) (h : x ≠ 0 ∨ y ≠ 0) : on u v (u + 2 * x) (v + 2 * y) (u + 3 * x) (v + 3 * y) = false := by
  unfold on
  rw [decide_eq_false_iff_not]
  rintro ⟨_, h1, h2, h3, h4⟩
  unfold mn at h1 h3
  unfold mx at h2 h4
  split at h1 <;> split at h2 <;> split at h3 <;> split at h4 <;> omega

theorem tail (u v x y : Int) (hu : -1000 < u ∧ u < 1000) (hv : -1000 < v ∧ v < 1000) (hx : -1000 < x ∧ x < 1000) (hy : -1000 < y ∧ y < 1000)
    (b : Bool) (hb : b = decide (x = 0 ∧ y = 0)) :
    terrierlaw9_PtMidst.j0 24 b u v (u + x) (v + y) (u + 2 * x) (v + 2 * y) (u + 3 * x) (v + 3 * y) = some true := by
  have f1 := nr_in u (by omega) (by omega)
  have f2 := nr_in v (by omega) (by omega)
  have f3 := nr_in (u + x) (by omega) (by omega)
  have f4 := nr_in (v + y) (by omega) (by omega)
  have f5 := nr_in (u + 2 * x) (by omega) (by omega)
  have f6 := nr_in (v + 2 * y) (by omega) (by omega)
  have f7 := nr_in (u + 3 * x) (by omega) (by omega)
  have f8 := nr_in (v + 3 * y) (by omega) (by omega)
  by_cases hd : x = 0 ∧ y = 0
  · have hb' : b = true := by rw [hb]; simp [hd]
    simp only [terrierlaw9_PtMidst.j0]
    rw [if_pos hb', on_eq, within_eq, on_eq, f1, f2, f3, f4, f5, f6, f7, f8, on_m, awake_eq]
    have s1 : ((u + x) == u && (v + y) == v) = true := by obtain ⟨rfl, rfl⟩ := hd; simp
    have s2 : on u v (u + 2 * x) (v + 2 * y) (u + 3 * x) (v + 3 * y) = true := by
      obtain ⟨rfl, rfl⟩ := hd
      exact on_b u v 0 0
    rw [s1, s2]
    simp
  · have hb' : ¬ (b = true) := by rw [hb]; simpa using hd
    have hd' : x ≠ 0 ∨ y ≠ 0 := by omega
    simp only [terrierlaw9_PtMidst.j0]
    rw [if_neg hb', on_eq, within_eq, on_eq, within_eq, on_eq, turn_eq, f1, f2, f3, f4, f5, f6, f7, f8, on_m, on_b, on_c u v x y hd', a3, awake_eq]
    have s1 : ((u + x) == u && (v + y) == v) = false := by
      rw [Bool.and_eq_false_iff, beq_eq_false_iff_ne, beq_eq_false_iff_ne]; omega
    have s2 : ((u + x) == (u + 2 * x) && (v + y) == (v + 2 * y)) = false := by
      rw [Bool.and_eq_false_iff, beq_eq_false_iff_ne, beq_eq_false_iff_ne]; omega
    rw [s1, s2]
    simp [sg]

theorem PtMidst (a0 a0b a1 a2 : Int) : ∃ k, terrierlaw9_PtMidst.f k a0 a0b a1 a2 = some true := by
  refine ⟨24, ?_⟩
  unfold terrierlaw9_PtMidst.f
  have hu := tmod_in a0 1000 (by decide)
  have hv := tmod_in a0b 1000 (by decide)
  have hx := tmod_in a1 1000 (by decide)
  have hy := tmod_in a2 1000 (by decide)
  generalize Int.tmod a0 1000 = u at *
  generalize Int.tmod a0b 1000 = v at *
  generalize Int.tmod a1 1000 = x at *
  generalize Int.tmod a2 1000 = y at *
  simp only [terrierlaw9_P.f, Option.bind_some]
  rw [w64 (2 * x) (by omega) (by omega), w64 (2 * y) (by omega) (by omega), w64 (3 * x) (by omega) (by omega), w64 (3 * y) (by omega) (by omega)]
  rw [w64 (u + x) (by omega) (by omega), w64 (v + y) (by omega) (by omega), w64 (u + 2 * x) (by omega) (by omega), w64 (v + 2 * y) (by omega) (by omega), w64 (u + 3 * x) (by omega) (by omega), w64 (v + 3 * y) (by omega) (by omega)]
  have t1 := fun b hb => tail u v x y hu hv hx hy b hb
  by_cases h0 : x = 0
  · rw [if_pos h0]; exact t1 _ (by rw [Bool.eq_iff_iff]; simp [h0])
  · rw [if_neg h0]; exact t1 _ (by simp [h0])
end Go.Proofs.Ytabblkckapdpoaa.PPtMidst
