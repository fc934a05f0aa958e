/- Proved: a triangle's area is the sum of those of the three that any fourth point makes of it, in the printed functions; for any four points. -/
import Derived.Test.YtabblkckapdpoaaPPtSumsx4
import Derived.Test.YtabblkckapdpoaaMorton
namespace Go.Proofs.Ytabblkckapdpoaa.PureSums
open Go.RowKit Go.Proofs.Ytabblkckapdpoaa.PPtSums Go.Proofs.YtabblkckapdpoaaW.PrintWords Go.Proofs.YtabblkckapdpoaaW.PrintLast Go.Proofs.YtabblkckapdpoaaW.PrintMore

theorem near_some (x y : Int) : ∃ a b, pt_Near.f x y = some (a, b) ∧ -1048576 ≤ a ∧ a ≤ 1048576 ∧ -1048576 ≤ b ∧ b ≤ 1048576 := by
  refine ⟨_, _, rfl, ?_⟩
  unfold mn mx
  refine ⟨?_, ?_, ?_, ?_⟩ <;> (repeat' split) <;> omega

def area (ax ay bx bY cx cy : Int) : Int := (bx - ax) * (cy - ay) - (bY - ay) * (cx - ax)

theorem mul_bd (a b : Int) (h1 : -2097152 ≤ a) (h2 : a ≤ 2097152) (h3 : -2097152 ≤ b) (h4 : b ≤ 2097152) : -4398046511104 ≤ a * b ∧ a * b ≤ 4398046511104 := by
  have e1 : (a + 2097152) * (b + 2097152) ≥ 0 := Int.mul_nonneg (by omega) (by omega)
  have e2 : (2097152 - a) * (2097152 - b) ≥ 0 := Int.mul_nonneg (by omega) (by omega)
  have e3 : (a + 2097152) * (2097152 - b) ≥ 0 := Int.mul_nonneg (by omega) (by omega)
  have e4 : (2097152 - a) * (b + 2097152) ≥ 0 := Int.mul_nonneg (by omega) (by omega)
  simp only [Int.add_mul, Int.mul_add, Int.sub_mul, Int.mul_sub] at e1 e2 e3 e4
  omega

theorem area2 {ax ay bx bY cx cy x1 y1 x2 y2 x3 y3 : Int} (ha : pt_Near.f ax ay = some (x1, y1)) (hb : pt_Near.f bx bY = some (x2, y2)) (hc : pt_Near.f cx cy = some (x3, y3))
    (a1 : -1048576 ≤ x1) (a2 : x1 ≤ 1048576) (a3 : -1048576 ≤ y1) (a4 : y1 ≤ 1048576)
    (b1 : -1048576 ≤ x2) (b2 : x2 ≤ 1048576) (b3 : -1048576 ≤ y2) (b4 : y2 ≤ 1048576)
    (c1 : -1048576 ≤ x3) (c2 : x3 ≤ 1048576) (c3 : -1048576 ≤ y3) (c4 : y3 ≤ 1048576) :
    pt_Area2.f ax ay bx bY cx cy = some (area x1 y1 x2 y2 x3 y3) ∧ -8796093022208 ≤ area x1 y1 x2 y2 x3 y3 ∧ area x1 y1 x2 y2 x3 y3 ≤ 8796093022208 := by
  unfold pt_Area2.f area
  rw [ha, hb, hc]
  simp only [Option.bind_some]
  have e (n : Int) (h : -9223372036854775808 ≤ n) (h' : n ≤ 9223372036854775807) : wrap64 n = n := by unfold wrap64; omega
  have m1 := mul_bd (x2 - x1) (y3 - y1) (by omega) (by omega) (by omega) (by omega)
  have m2 := mul_bd (y2 - y1) (x3 - x1) (by omega) (by omega) (by omega) (by omega)
  rw [e (x2 - x1) (by omega) (by omega), e (y3 - y1) (by omega) (by omega), e (y2 - y1) (by omega) (by omega), e (x3 - x1) (by omega) (by omega)]
  generalize (x2 - x1) * (y3 - y1) = m at *
  generalize (y2 - y1) * (x3 - x1) = m' at *
  rw [e m (by omega) (by omega), e m' (by omega) (by omega), e (m - m') (by omega) (by omega)]
  exact ⟨rfl, by omega, by omega⟩

theorem awake : terrierlaw9_awake.f 23 = some true := by decide +kernel

theorem sums (x1 y1 x2 y2 x3 y3 qx qy : Int) : area x1 y1 x2 y2 x3 y3 = area qx qy x1 y1 x2 y2 + area qx qy x2 y2 x3 y3 + area qx qy x3 y3 x1 y1 := by
  unfold area
  simp only [Int.sub_mul, Int.mul_sub]
  simp only [Int.mul_comm y1, Int.mul_comm y2, Int.mul_comm y3, Int.mul_comm qy]
  omega

theorem PtSums (a0 a0b a1 a1b a2 a2b a3 a3b : Int) : ∃ k, terrierlaw9_PtSums.f k a0 a0b a1 a1b a2 a2b a3 a3b = some true := by
  refine ⟨23, ?_⟩
  unfold terrierlaw9_PtSums.f
  obtain ⟨x1, y1, n1, p1, p2, p3, p4⟩ := near_some a0 a0b
  obtain ⟨x2, y2, n2, q1, q2, q3, q4⟩ := near_some a1 a1b
  obtain ⟨x3, y3, n3, r1, r2, r3, r4⟩ := near_some a2 a2b
  obtain ⟨x4, y4, n4, s1, s2, s3, s4⟩ := near_some a3 a3b
  obtain ⟨e1, l1, u1⟩ := area2 n1 n2 n3 p1 p2 p3 p4 q1 q2 q3 q4 r1 r2 r3 r4
  obtain ⟨e2, l2, u2⟩ := area2 n4 n1 n2 s1 s2 s3 s4 p1 p2 p3 p4 q1 q2 q3 q4
  obtain ⟨e3, l3, u3⟩ := area2 n4 n2 n3 s1 s2 s3 s4 q1 q2 q3 q4 r1 r2 r3 r4
  obtain ⟨e4, l4, u4⟩ := area2 n4 n3 n1 s1 s2 s3 s4 r1 r2 r3 r4 p1 p2 p3 p4
  rw [e1, e2, e3, e4]
  simp only [Option.bind_some]
  have hs := sums x1 y1 x2 y2 x3 y3 x4 y4
  generalize area x1 y1 x2 y2 x3 y3 = m1 at *
  generalize area x4 y4 x1 y1 x2 y2 = m2 at *
  generalize area x4 y4 x2 y2 x3 y3 = m3 at *
  generalize area x4 y4 x3 y3 x1 y1 = m4 at *
  rw [if_pos (by unfold wrap64; omega), awake]
  rfl
end Go.Proofs.Ytabblkckapdpoaa.PureSums
