/- Proved: a point moved along a segment by whole steps stays on it, and beside it it does not, in the printed functions; for any point, step and numbers. -/
import Derived.Test.YtabblkckapdpoaaEqPtLines
namespace Go.Proofs.Ytabblkckapdpoaa.PPtLines
open Go.RowKit Go.Proofs.YtabblkckapdpoaaW.PrintWords Go.Proofs.YtabblkckapdpoaaW.PrintLast Go.Proofs.YtabblkckapdpoaaW.PrintMore
open Geo

theorem tmod_in (a : Int) (m : Int) (hm : 0 < m) : -m < Int.tmod a m ∧ Int.tmod a m < m :=
  ⟨Int.lt_tmod_of_pos a hm, Int.tmod_lt_of_pos a hm⟩

theorem step_bd (n d : Int) (n0 : 0 ≤ n) (n1 : n ≤ 100) (d0 : -100 ≤ d) (d1 : d ≤ 100) : -10000 ≤ n * d ∧ n * d ≤ 10000 := by
  have e1 : n * (d + 100) ≥ 0 := Int.mul_nonneg (by omega) (by omega)
  have e2 : n * (100 - d) ≥ 0 := Int.mul_nonneg (by omega) (by omega)
  simp only [Int.mul_add, Int.mul_sub] at e1 e2
  omega

theorem betw (u d n k : Int) (k0 : 0 ≤ k) (kn : k ≤ n) : mn u (u + n * d) ≤ u + k * d ∧ u + k * d ≤ mx u (u + n * d) := by
  have h : (0 ≤ k * d ∧ k * d ≤ n * d) ∨ (n * d ≤ k * d ∧ k * d ≤ 0) := by
    rcases Int.le_total 0 d with h | h
    · exact Or.inl ⟨Int.mul_nonneg k0 h, Int.mul_le_mul_of_nonneg_right kn h⟩
    · right
      have e1 : k * (-d) ≥ 0 := Int.mul_nonneg k0 (by omega)
      have e2 : (n - k) * (-d) ≥ 0 := Int.mul_nonneg (by omega) (by omega)
      simp only [Int.mul_neg, Int.sub_mul] at e1 e2
      omega
  unfold mn mx
  generalize n * d = a at *
  generalize k * d = b at *
  constructor <;> split <;> omega

theorem area_zero (u v dx dy n k : Int) : area u v (u + n * dx) (v + n * dy) (u + k * dx) (v + k * dy) = 0 := by
  unfold area
  have e1 : u + n * dx - u = n * dx := by omega
  have e2 : v + n * dy - v = n * dy := by omega
  have e3 : u + k * dx - u = k * dx := by omega
  have e4 : v + k * dy - v = k * dy := by omega
  rw [e1, e2, e3, e4]
  have : n * dx * (k * dy) = n * dy * (k * dx) := by ac_rfl
  omega

theorem on_m (u v dx dy n k : Int) (k0 : 0 ≤ k) (kn : k ≤ n) : on u v (u + n * dx) (v + n * dy) (u + k * dx) (v + k * dy) = true := by
  unfold on
  rw [decide_eq_true_eq]
  exact ⟨area_zero u v dx dy n k, (betw u dx n k k0 kn).1, (betw u dx n k k0 kn).2, (betw v dy n k k0 kn).1, (betw v dy n k k0 kn).2⟩

theorem area_o (u v dx dy n k : Int) : area u v (u + n * dx) (v + n * dy) (u + k * dx - dy) (v + k * dy + dx) = n * (dx * dx + dy * dy) := by
  unfold area
  have e1 : u + n * dx - u = n * dx := by omega
  have e2 : v + n * dy - v = n * dy := by omega
  have e3 : u + k * dx - dy - u = k * dx - dy := by omega
  have e4 : v + k * dy + dx - v = k * dy + dx := by omega
  rw [e1, e2, e3, e4, Int.mul_add, Int.mul_sub, Int.mul_add]
  have h1 : n * dx * (k * dy) = n * dy * (k * dx) := by ac_rfl
  have h2 : n * dx * dx = n * (dx * dx) := by ac_rfl
  have h3 : n * dy * dy = n * (dy * dy) := by ac_rfl
  omega

theorem sq_pos (d : Int) (h : d ≠ 0) : 0 < d * d := by
  rcases Int.lt_or_gt_of_ne h with h | h
  · exact Int.mul_pos_of_neg_of_neg h h
  · exact Int.mul_pos h h
theorem sq_nonneg (d : Int) : 0 ≤ d * d := by
  by_cases h : d = 0
  · subst h; decide
  · exact Int.le_of_lt (sq_pos d h)

theorem o_pos (u v dx dy n k : Int) (hn : 0 < n) (hd : dx ≠ 0 ∨ dy ≠ 0) : 0 < area u v (u + n * dx) (v + n * dy) (u + k * dx - dy) (v + k * dy + dx) := by
  rw [area_o]
  refine Int.mul_pos hn ?_
  have h1 := sq_nonneg dx
  have h2 := sq_nonneg dy
  rcases hd with h | h
  · have := sq_pos dx h; omega
  · have := sq_pos dy h; omega

theorem mul_ne (k d : Int) (hk : k ≠ 0) (hd : d ≠ 0) : k * d ≠ 0 := Int.mul_ne_zero hk hd

theorem same_iff (u v dx dy n k : Int) (hd : dx ≠ 0 ∨ dy ≠ 0) (k0 : 0 ≤ k) (kn : k ≤ n) :
    (!((u + k * dx) == u && (v + k * dy) == v) && !((u + k * dx) == (u + n * dx) && (v + k * dy) == (v + n * dy))) = decide (0 < k ∧ k < n) := by
  rw [Bool.eq_iff_iff]
  simp only [Bool.and_eq_true, Bool.not_eq_true', Bool.and_eq_false_iff, beq_eq_false_iff_ne, decide_eq_true_eq]
  constructor
  · rintro ⟨h1, h2⟩
    constructor
    · rcases Int.lt_or_eq_of_le k0 with h | h
      · exact h
      · subst h; simp at h1
    · rcases Int.lt_or_eq_of_le kn with h | h
      · exact h
      · subst h; simp at h2
  · rintro ⟨h1, h2⟩
    rcases hd with h | h
    · have e1 := mul_ne k dx (by omega) h
      have e2 := mul_ne (n - k) dx (by omega) h
      rw [Int.sub_mul] at e2
      exact ⟨Or.inl (by omega), Or.inl (by omega)⟩
    · have e1 := mul_ne k dy (by omega) h
      have e2 := mul_ne (n - k) dy (by omega) h
      rw [Int.sub_mul] at e2
      exact ⟨Or.inr (by omega), Or.inr (by omega)⟩

theorem tail (u v dx dy n k : Int) (hu : -1000 < u ∧ u < 1000) (hv : -1000 < v ∧ v < 1000) (hx : -101 < dx ∧ dx < 101) (hy : -101 < dy ∧ dy < 101)
    (hn : 1 ≤ n ∧ n ≤ 100) (k0 : 0 ≤ k) (kn : k ≤ n) (b : Bool) (hb : b = decide (dx = 0 ∧ dy = 0)) :
    terrierlaw9_PtLines.j0 24 n k b u v (u + n * dx) (v + n * dy) (u + k * dx) (v + k * dy) (u + k * dx - dy) (v + k * dy + dx) = some true := by
  have b1 := step_bd n dx (by omega) (by omega) (by omega) (by omega)
  have b2 := step_bd n dy (by omega) (by omega) (by omega) (by omega)
  have b3 := step_bd k dx (by omega) (by omega) (by omega) (by omega)
  have b4 := step_bd k dy (by omega) (by omega) (by omega) (by omega)
  have hm := on_m u v dx dy n k k0 kn
  have f1 := nr_in u (by omega) (by omega)
  have f2 := nr_in v (by omega) (by omega)
  have f3 := nr_in (u + n * dx) (by omega) (by omega)
  have f4 := nr_in (v + n * dy) (by omega) (by omega)
  have f5 := nr_in (u + k * dx) (by omega) (by omega)
  have f6 := nr_in (v + k * dy) (by omega) (by omega)
  have f7 := nr_in (u + k * dx - dy) (by omega) (by omega)
  have f8 := nr_in (v + k * dy + dx) (by omega) (by omega)
  by_cases hd : dx = 0 ∧ dy = 0
  · have hb' : b = true := by rw [hb]; simp [hd]
    have s1 : ((u + k * dx) == u && (v + k * dy) == v) = true := by obtain ⟨rfl, rfl⟩ := hd; simp
    simp only [terrierlaw9_PtLines.j0]
    rw [if_pos hb', on_eq, within_eq, f1, f2, f3, f4, f5, f6, hm]
    simp only [Option.bind_some, if_true]
    rw [s1, awake_eq]
    simp
  · have hb' : ¬ (b = true) := by rw [hb]; simpa using hd
    have hd' : dx ≠ 0 ∨ dy ≠ 0 := by omega
    have ho := o_pos u v dx dy n k (by omega) hd'
    have hon : on u v (u + n * dx) (v + n * dy) (u + k * dx - dy) (v + k * dy + dx) = false := by
      unfold on; rw [decide_eq_false_iff_not]; omega
    have hsg : sg (area u v (u + n * dx) (v + n * dy) (u + k * dx - dy) (v + k * dy + dx)) = 1 := by
      unfold sg; rw [if_neg (by omega), if_pos ho]
    have hs := same_iff u v dx dy n k hd' k0 kn
    simp only [terrierlaw9_PtLines.j0]
    rw [if_neg hb', on_eq, within_eq, on_eq, turn_eq, f1, f2, f3, f4, f5, f6, f7, f8, hm, hon, hsg, Bool.true_and, hs, awake_eq]
    simp only [Option.bind_some, if_true]
    by_cases hk : k > 0
    · rw [if_pos hk, if_pos (by simp [hk])]; rfl
    · rw [if_neg hk, if_pos (by simp [hk])]; rfl

theorem PtLines (a0 a0b a1 a2 a3 a4 : Int) : ∃ k, terrierlaw9_PtLines.f k a0 a0b a1 a2 a3 a4 = some true := by
  refine ⟨24, ?_⟩
  unfold terrierlaw9_PtLines.f
  have hu := tmod_in a0 1000 (by decide)
  have hv := tmod_in a0b 1000 (by decide)
  have hx := tmod_in a1 101 (by decide)
  have hy := tmod_in a2 101 (by decide)
  rw [i64_and255, i64_and255]
  have hn : 1 ≤ Int.tmod (a3 % 256) 100 + 1 ∧ Int.tmod (a3 % 256) 100 + 1 ≤ 100 := by
    rw [Int.tmod_eq_emod_of_nonneg (by omega)]; omega
  rw [w64 (Int.tmod (a3 % 256) 100 + 1) (by omega) (by omega), w64 (Int.tmod (a3 % 256) 100 + 1 + 1) (by omega) (by omega)]
  generalize Int.tmod (a3 % 256) 100 + 1 = n at *
  have hk : 0 ≤ Int.tmod (a4 % 256) (n + 1) ∧ Int.tmod (a4 % 256) (n + 1) ≤ n := by
    rw [Int.tmod_eq_emod_of_nonneg (by omega)]
    have h1 := Int.emod_nonneg (a4 % 256) (show n + 1 ≠ 0 by omega)
    have h2 := Int.emod_lt_of_pos (a4 % 256) (show 0 < n + 1 by omega)
    omega
  generalize Int.tmod (a4 % 256) (n + 1) = k at *
  generalize Int.tmod a0 1000 = u at *
  generalize Int.tmod a0b 1000 = v at *
  generalize Int.tmod a1 101 = dx at *
  generalize Int.tmod a2 101 = dy at *
  have b1 := step_bd n dx (by omega) (by omega) (by omega) (by omega)
  have b2 := step_bd n dy (by omega) (by omega) (by omega) (by omega)
  have b3 := step_bd k dx (by omega) (by omega) (by omega) (by omega)
  have b4 := step_bd k dy (by omega) (by omega) (by omega) (by omega)
  simp only [terrierlaw9_P.f, Option.bind_some]
  rw [if_neg (by omega)]
  rw [w64 (n * dx) (by omega) (by omega), w64 (n * dy) (by omega) (by omega), w64 (k * dx) (by omega) (by omega), w64 (k * dy) (by omega) (by omega)]
  rw [w64 (u + n * dx) (by omega) (by omega), w64 (v + n * dy) (by omega) (by omega), w64 (u + k * dx) (by omega) (by omega), w64 (v + k * dy) (by omega) (by omega)]
  rw [w64 (u + k * dx - dy) (by omega) (by omega), w64 (v + k * dy + dx) (by omega) (by omega)]
  have t1 := fun b hb => tail u v dx dy n k hu hv hx hy hn hk.1 hk.2 b hb
  by_cases h0 : dx = 0
  · rw [if_pos h0]; exact t1 _ (by rw [Bool.eq_iff_iff]; simp [h0])
  · rw [if_neg h0]; exact t1 _ (by simp [h0])
end Go.Proofs.Ytabblkckapdpoaa.PPtLines
