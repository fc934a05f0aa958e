/- Proved: what the printed functions of this law tell, in plain words on whole numbers; no condition. -/
import Derived.Test.YtabblkckapdpoaaPPtMovesx3
import Derived.Test.YtabblkckapdpoaaGeo
import Derived.Test.YtabblkckapdpoaaMorton
namespace Go.Proofs.Ytabblkckapdpoaa.PPtMoves
open Go.RowKit Go.Proofs.YtabblkckapdpoaaW.PrintWords Go.Proofs.YtabblkckapdpoaaW.PrintLast Go.Proofs.YtabblkckapdpoaaW.PrintMore
open Geo

theorem near_eq (x y : Int) : pt_Near.f x y = some (nr x, nr y) := rfl
theorem area2_eq (ax ay bx bY cx cy : Int) : pt_Area2.f ax ay bx bY cx cy = some (area (nr ax) (nr ay) (nr bx) (nr bY) (nr cx) (nr cy)) := by
  unfold pt_Area2.f
  rw [near_eq, near_eq, near_eq]
  simp only [Option.bind_some]
  rw [(area_w (nr_bd ax) (nr_bd ay) (nr_bd bx) (nr_bd bY) (nr_bd cx) (nr_bd cy)).1]
theorem turn_eq (ax ay bx bY cx cy : Int) : pt_Turn.f ax ay bx bY cx cy = some (sg (area (nr ax) (nr ay) (nr bx) (nr bY) (nr cx) (nr cy))) := by
  unfold pt_Turn.f
  rw [area2_eq]
  simp only [Option.bind_some, cmp_Compare_int64.f, cmp_isNaN_int64.f, bne_self_eq_false, Bool.false_eq_true, if_false]
  unfold sg
  (repeat' split) <;> rfl
theorem on_eq (ax ay bx bY px py : Int) : pt_On.f ax ay bx bY px py = some (on (nr ax) (nr ay) (nr bx) (nr bY) (nr px) (nr py)) := by
  unfold pt_On.f
  rw [near_eq, near_eq, near_eq]
  simp only [Option.bind_some, turn_eq, nr_nr]
  generalize nr ax = x1; generalize nr ay = y1; generalize nr bx = x2; generalize nr bY = y2; generalize nr px = x3; generalize nr py = y3
  unfold on
  have h : sg (area x1 y1 x2 y2 x3 y3) = 0 ↔ area x1 y1 x2 y2 x3 y3 = 0 := by unfold sg; (repeat' split) <;> omega
  generalize area x1 y1 x2 y2 x3 y3 = m at *
  by_cases h0 : m = 0
  · rw [if_pos (h.2 h0)]
    by_cases h1 : mn x1 x2 ≤ x3
    · rw [if_pos h1]
      by_cases h2 : x3 ≤ mx x1 x2
      · rw [if_pos h2]
        by_cases h3 : mn y1 y2 ≤ y3
        · rw [if_pos h3]; simp [h0, h1, h2, h3]
        · rw [if_neg h3]; simp [h3]
      · rw [if_neg h2]; simp [h2]
    · rw [if_neg h1]; simp [h1]
  · rw [if_neg (fun e => h0 (h.1 e))]; simp [h0]
theorem awake_eq : terrierlaw9_awake.f 23 = some true := by decide +kernel
end Go.Proofs.Ytabblkckapdpoaa.PPtMoves
