/- Proved: plain facts on points of the grid, areas and segments over whole numbers, which the laws on points use; no condition. -/
import Derived.Test.YtabblkckapdpoaaWMore
import Derived.Laws.Bits128
namespace Go.Proofs.Ytabblkckapdpoaa.Geo
open Go.RowKit Go.Proofs.YtabblkckapdpoaaW.PrintWords Go.Proofs.YtabblkckapdpoaaW.PrintLast Go.Proofs.YtabblkckapdpoaaW.PrintMore

def nr (x : Int) : Int := mn (mx x (-1048576)) 1048576
theorem nr_bd (x : Int) : -1048576 ≤ nr x ∧ nr x ≤ 1048576 := by
  unfold nr mn mx
  constructor <;> (repeat' split) <;> omega
theorem nr_in (x : Int) (h1 : -1048576 ≤ x) (h2 : x ≤ 1048576) : nr x = x := by
  unfold nr mn mx
  repeat rw [if_neg (by omega)]
theorem nr_nr (x : Int) : nr (nr x) = nr x := nr_in _ (nr_bd x).1 (nr_bd x).2

theorem w64 (n : Int) (h : -9223372036854775808 ≤ n) (h' : n ≤ 9223372036854775807) : wrap64 n = n := by unfold wrap64; omega

def area (ax ay bx bY cx cy : Int) : Int := (bx - ax) * (cy - ay) - (bY - ay) * (cx - ax)

theorem mul_bd (a b : Int) (h1 : -2097152 ≤ a) (h2 : a ≤ 2097152) (h3 : -2097152 ≤ b) (h4 : b ≤ 2097152) : -4398046511104 ≤ a * b ∧ a * b ≤ 4398046511104 := by
  have e1 : (a + 2097152) * (b + 2097152) ≥ 0 := Int.mul_nonneg (by omega) (by omega)
  have e2 : (2097152 - a) * (2097152 - b) ≥ 0 := Int.mul_nonneg (by omega) (by omega)
  have e3 : (a + 2097152) * (2097152 - b) ≥ 0 := Int.mul_nonneg (by omega) (by omega)
  have e4 : (2097152 - a) * (b + 2097152) ≥ 0 := Int.mul_nonneg (by omega) (by omega)
  simp only [Int.add_mul, Int.mul_add, Int.sub_mul, Int.mul_sub] at e1 e2 e3 e4
  omega

/-- What the program computes, with its wraps, is the area: points of the grid. -/
theorem area_w {ax ay bx bY cx cy : Int} (a : -1048576 ≤ ax ∧ ax ≤ 1048576) (a' : -1048576 ≤ ay ∧ ay ≤ 1048576) (b : -1048576 ≤ bx ∧ bx ≤ 1048576) (b' : -1048576 ≤ bY ∧ bY ≤ 1048576)
    (c : -1048576 ≤ cx ∧ cx ≤ 1048576) (c' : -1048576 ≤ cy ∧ cy ≤ 1048576) :
    wrap64 (wrap64 (wrap64 (bx - ax) * wrap64 (cy - ay)) - wrap64 (wrap64 (bY - ay) * wrap64 (cx - ax))) = area ax ay bx bY cx cy ∧
    -8796093022208 ≤ area ax ay bx bY cx cy ∧ area ax ay bx bY cx cy ≤ 8796093022208 := by
  unfold area
  have m1 := mul_bd (bx - ax) (cy - ay) (by omega) (by omega) (by omega) (by omega)
  have m2 := mul_bd (bY - ay) (cx - ax) (by omega) (by omega) (by omega) (by omega)
  rw [w64 (bx - ax) (by omega) (by omega), w64 (cy - ay) (by omega) (by omega), w64 (bY - ay) (by omega) (by omega), w64 (cx - ax) (by omega) (by omega)]
  generalize (bx - ax) * (cy - ay) = m at *
  generalize (bY - ay) * (cx - ax) = m' at *
  rw [w64 m (by omega) (by omega), w64 m' (by omega) (by omega), w64 (m - m') (by omega) (by omega)]
  exact ⟨rfl, by omega, by omega⟩

theorem area_sums (x1 y1 x2 y2 x3 y3 qx qy : Int) : area x1 y1 x2 y2 x3 y3 = area qx qy x1 y1 x2 y2 + area qx qy x2 y2 x3 y3 + area qx qy x3 y3 x1 y1 := by
  unfold area
  simp only [Int.sub_mul, Int.mul_sub]
  simp only [Int.mul_comm y1, Int.mul_comm y2, Int.mul_comm y3, Int.mul_comm qy]
  omega
theorem area_rot (x1 y1 x2 y2 x3 y3 : Int) : area x2 y2 x3 y3 x1 y1 = area x1 y1 x2 y2 x3 y3 := by
  unfold area
  simp only [Int.sub_mul, Int.mul_sub]
  simp only [Int.mul_comm y1, Int.mul_comm y2, Int.mul_comm y3]
  omega
theorem area_swap (x1 y1 x2 y2 x3 y3 : Int) : area x2 y2 x1 y1 x3 y3 = - area x1 y1 x2 y2 x3 y3 := by
  unfold area
  simp only [Int.sub_mul, Int.mul_sub]
  simp only [Int.mul_comm y1, Int.mul_comm y2]
  omega
theorem area_comm (ax ay bx bY cx cy : Int) : (bx - ax) * (cy - ay) - (cx - ax) * (bY - ay) = area ax ay bx bY cx cy := by
  unfold area; rw [Int.mul_comm (cx - ax)]

def sg (x : Int) : Int := if x < 0 then -1 else if x > 0 then 1 else 0

/-- Is p on the segment from a to b? (points of the grid) -/
def on (ax ay bx bY px py : Int) : Bool := decide (area ax ay bx bY px py = 0 ∧ mn ax bx ≤ px ∧ px ≤ mx ax bx ∧ mn ay bY ≤ py ∧ py ≤ mx ay bY)

theorem mn_comm (a b : Int) : mn a b = mn b a := by unfold mn; (repeat' split) <;> omega
theorem mx_comm (a b : Int) : mx a b = mx b a := by unfold mx; (repeat' split) <;> omega
theorem on_comm (ax ay bx bY px py : Int) : on bx bY ax ay px py = on ax ay bx bY px py := by
  unfold on
  rw [area_swap, mn_comm bx, mx_comm bx, mn_comm bY, mx_comm bY, decide_eq_decide]
  constructor <;> (rintro ⟨h, r⟩; exact ⟨by omega, r⟩)

theorem i64_and255 (n : Int) : bits .and .i64 n 255 = n % 256 := by
  have h127 : (BitVec.ofInt 64 255).toNat = 2 ^ 8 - 1 := by decide
  have key : (BitVec.ofInt 64 n &&& BitVec.ofInt 64 255).toNat = (n % ((2 ^ 64 : Nat) : Int)).toNat % 2 ^ 8 := by
    rw [BitVec.toNat_and, BitVec.toNat_ofInt, h127, Nat.and_two_pow_sub_one_eq_mod]
  show IntKind.i64.wrap ((BitVec.ofInt 64 n &&& BitVec.ofInt 64 255).toNat : Nat) = n % 256
  rw [key, IntKind.wrap_i64]
  omega
end Go.Proofs.Ytabblkckapdpoaa.Geo
