/- Proved: PtMoves tells true: a triangle that is moved, mirrored or turned has the same area but for its sign; for any three points and any step. -/
import Derived.Test.YtabblkckapdpoaaEqPtMoves
import Derived.Test.YtabblkckapdpoaaWalkPtMoves
namespace Go.Proofs.Ytabblkckapdpoaa.PPtMoves
open Go.RowKit Go.Proofs.YtabblkckapdpoaaW.PrintWords Go.Proofs.YtabblkckapdpoaaW.PrintLast Go.Proofs.YtabblkckapdpoaaW.PrintMore
open Geo
theorem area_shift (x0 y0 x1 y1 x2 y2 X Y : Int) : area (x0 + X) (y0 + Y) (x1 + X) (y1 + Y) (x2 + X) (y2 + Y) = area x0 y0 x1 y1 x2 y2 := by
  unfold area
  rw [show x1 + X - (x0 + X) = x1 - x0 by omega, show y2 + Y - (y0 + Y) = y2 - y0 by omega, show y1 + Y - (y0 + Y) = y1 - y0 by omega, show x2 + X - (x0 + X) = x2 - x0 by omega]
theorem area_mirror (x0 y0 x1 y1 x2 y2 : Int) : area y0 x0 y1 x1 y2 x2 = - area x0 y0 x1 y1 x2 y2 := by
  unfold area
  omega
theorem area_quarter (x0 y0 x1 y1 x2 y2 : Int) : area (-y0) x0 (-y1) x1 (-y2) x2 = area x0 y0 x1 y1 x2 y2 := by
  unfold area
  rw [show -y1 - -y0 = -(y1 - y0) by omega, show -y2 - -y0 = -(y2 - y0) by omega, Int.neg_mul, Int.mul_neg]
  omega
theorem mod_bd (a : Int) (n : Int) (h : 0 < n) : -n < a.tmod n ∧ a.tmod n < n := ⟨Int.lt_tmod_of_pos a h, Int.tmod_lt_of_pos a h⟩
theorem u64_w (n : Int) (h : -9223372036854775808 ≤ n) (h' : n ≤ 9223372036854775807) : IntKind.i64.wrap n = n := by rw [i64_w]; exact w64 n h h'
theorem PtMoves (ax ay bx bY cx cy dx dy : Int) (w : World) :
    Calls Try.prog 3 #[.agg #[.int .i64 ax, .int .i64 ay], .agg #[.int .i64 bx, .int .i64 bY], .agg #[.int .i64 cx, .int .i64 cy], .int .i64 dx, .int .i64 dy] w fun e w' => e = .returned (.bool true) ∧ Below w.heap.size w w' := by
  obtain ⟨x0, hx0⟩ : ∃ v, ax.tmod 1000 = v := ⟨_, rfl⟩
  obtain ⟨y0, hy0⟩ : ∃ v, ay.tmod 1000 = v := ⟨_, rfl⟩
  obtain ⟨x1, hx1⟩ : ∃ v, bx.tmod 1000 = v := ⟨_, rfl⟩
  obtain ⟨y1, hy1⟩ : ∃ v, bY.tmod 1000 = v := ⟨_, rfl⟩
  obtain ⟨x2, hx2⟩ : ∃ v, cx.tmod 1000 = v := ⟨_, rfl⟩
  obtain ⟨y2, hy2⟩ : ∃ v, cy.tmod 1000 = v := ⟨_, rfl⟩
  obtain ⟨X, hX⟩ : ∃ v, dx.tmod 10000 = v := ⟨_, rfl⟩
  obtain ⟨Y, hY⟩ : ∃ v, dy.tmod 10000 = v := ⟨_, rfl⟩
  have b0 := hx0 ▸ mod_bd ax 1000 (by omega)
  have b1 := hy0 ▸ mod_bd ay 1000 (by omega)
  have b2 := hx1 ▸ mod_bd bx 1000 (by omega)
  have b3 := hy1 ▸ mod_bd bY 1000 (by omega)
  have b4 := hx2 ▸ mod_bd cx 1000 (by omega)
  have b5 := hy2 ▸ mod_bd cy 1000 (by omega)
  have b6 := hX ▸ mod_bd dx 10000 (by omega)
  have b7 := hY ▸ mod_bd dy 10000 (by omega)
  have bd := (area_w (ax := x0) (ay := y0) (bx := x1) (bY := y1) (cx := x2) (cy := y2) (by omega) (by omega) (by omega) (by omega) (by omega) (by omega)).2
  refine moves_calls ax ay bx bY cx cy dx dy x0 y0 x1 y1 x2 y2 X Y w ⟨hx0⟩ ⟨hy0⟩ ⟨hx1⟩ ⟨hy1⟩ ⟨hx2⟩ ⟨hy2⟩ ⟨hX⟩ ⟨hY⟩ (x0 + X) (y0 + Y) (x1 + X) (y1 + Y) (x2 + X) (y2 + Y) (-y0) 0 (-y1) 0 (-y2) 0
    ⟨u64_w _ (by omega) (by omega)⟩ ⟨u64_w _ (by omega) (by omega)⟩ ⟨u64_w _ (by omega) (by omega)⟩ ⟨u64_w _ (by omega) (by omega)⟩ ⟨u64_w _ (by omega) (by omega)⟩ ⟨u64_w _ (by omega) (by omega)⟩
    ⟨u64_w _ (by omega) (by omega)⟩ ⟨u64_w _ (by omega) (by omega)⟩ ⟨u64_w _ (by omega) (by omega)⟩ (-(area x0 y0 x1 y1 x2 y2)) (area x0 y0 x1 y1 x2 y2) ⟨w64 _ (by omega) (by omega)⟩ ⟨?_⟩ ⟨?_⟩ ⟨?_⟩ 23 ⟨awake_eq⟩ ⟨?_⟩
  · rw [area2_eq]
    repeat rw [nr_in _ (by omega) (by omega)]
    rw [area_shift]
  · rw [area2_eq]
    repeat rw [nr_in _ (by omega) (by omega)]
    rw [area_mirror]
  · rw [area2_eq]
    repeat rw [nr_in _ (by omega) (by omega)]
    rw [area_quarter]
  · rw [area2_eq]
    repeat rw [nr_in _ (by omega) (by omega)]
end Go.Proofs.Ytabblkckapdpoaa.PPtMoves
