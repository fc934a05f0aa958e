/- Proved: whether a point is of the grid, ahead of another, on a segment, within it, is as the reference has it, in the printed functions; for any three points. -/
import Derived.Test.YtabblkckapdpoaaEqPtOn
namespace Go.Proofs.Ytabblkckapdpoaa.PPtOn
open Go.RowKit Go.Proofs.YtabblkckapdpoaaW.PrintWords Go.Proofs.YtabblkckapdpoaaW.PrintLast Go.Proofs.YtabblkckapdpoaaW.PrintMore
open Geo
theorem ok_eq (x y : Int) : ∃ b, pt_Ok.f x y = some b ∧ terrierref9_Ok.f x y = some b := by
  unfold pt_Ok.f terrierref9_Ok.f
  (repeat' split) <;> exact ⟨_, rfl, rfl⟩
theorem less_eq (ax ay bx bY : Int) : ∃ b, pt_Less.f ax ay bx bY = some b ∧ terrierref9_Less.f ax ay bx bY = some b := by
  unfold pt_Less.f terrierref9_Less.f
  simp only [near_eq, clean_eq, Option.bind_some]
  (repeat' split) <;> exact ⟨_, rfl, rfl⟩
theorem between_eq (x a b : Int) : terrierref9_between.f x a b = some (decide (mn a b ≤ x ∧ x ≤ mx a b)) := by
  unfold terrierref9_between.f
  by_cases h : mn a b ≤ x
  · rw [if_pos h]; simp [h]
  · rw [if_neg h]; simp [h]
theorem ron_eq (ax ay bx bY px py : Int) : terrierref9_On.f ax ay bx bY px py = some (on (nr ax) (nr ay) (nr bx) (nr bY) (nr px) (nr py)) := by
  unfold terrierref9_On.f
  rw [clean_eq, clean_eq, clean_eq]
  simp only [Option.bind_some, rturn_eq, nr_nr, between_eq]
  generalize nr ax = x1; generalize nr ay = y1; generalize nr bx = x2; generalize nr bY = y2; generalize nr px = x3; generalize nr py = y3
  unfold on
  have h : sg (area x1 y1 x2 y2 x3 y3) = 0 ↔ area x1 y1 x2 y2 x3 y3 = 0 := by unfold sg; (repeat' split) <;> omega
  generalize area x1 y1 x2 y2 x3 y3 = m at *
  by_cases h0 : m = 0
  · rw [if_pos (h.2 h0)]
    by_cases h1 : mn x1 x2 ≤ x3 ∧ x3 ≤ mx x1 x2
    · rw [if_pos (by simpa using h1)]; simp [h0, h1]
    · rw [if_neg (by simpa using h1)]; simp [h0]; intro h2 h3; exact absurd ⟨h2, h3⟩ h1
  · rw [if_neg (fun e => h0 (h.1 e))]; simp [h0]
theorem rwithin_eq (ax ay bx bY px py : Int) : terrierref9_Within.f ax ay bx bY px py = some (on (nr ax) (nr ay) (nr bx) (nr bY) (nr px) (nr py) && !(nr px == nr ax && nr py == nr ay) && !(nr px == nr bx && nr py == nr bY)) := by
  unfold terrierref9_Within.f
  rw [ron_eq, clean_eq, clean_eq, clean_eq]
  simp only [Option.bind_some, ite_or]
  cases on (nr ax) (nr ay) (nr bx) (nr bY) (nr px) (nr py)
  · rfl
  · cases (nr px == nr ax && nr py == nr ay) <;> simp
theorem PtOn (a0 a0b a1 a1b a2 a2b : Int) : ∃ k, terrierlaw9_PtOn.f k a0 a0b a1 a1b a2 a2b = some true := by
  refine ⟨23, ?_⟩
  unfold terrierlaw9_PtOn.f
  obtain ⟨b1, h1, h2⟩ := ok_eq a2 a2b
  obtain ⟨b2, h3, h4⟩ := less_eq a0 a0b a1 a1b
  rw [h1, h2, h3, h4, on_eq, ron_eq, on_eq, within_eq, rwithin_eq, awake_eq, on_comm (nr a0)]
  simp
end Go.Proofs.Ytabblkckapdpoaa.PPtOn
