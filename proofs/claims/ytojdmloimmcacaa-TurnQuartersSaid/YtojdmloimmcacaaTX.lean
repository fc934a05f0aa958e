/- Proved: a quarter turn keeps which direction is met next and which before, round from one; the condition is that all are directions. -/
import Derived.Test.YtojdmloimmcacaaTK
namespace Go.Proofs.Ytojdmloimmcacaa.TS
open Go.RowKit Go.Sort Go.Proofs.YtojdmloimmcacaaW.PrintWords Go.Proofs.YtojdmloimmcacaaW.PrintLast Go.Proofs.YtojdmloimmcacaaW.PrintMore
open PTurnRounds
set_option linter.unusedVariables false
set_option linter.unusedSimpArgs false
/-- Turned by a quarter. -/
def rotd (a : S36) : S36 := ⟨-a.f1, a.f0⟩
theorem okd_rot (a : S36) : okd (rotd a) = okd a := by
  rw [Bool.eq_iff_iff, okd_iff, okd_iff]
  unfold rotd
  dsimp only
  constructor <;> (rintro ⟨h1, h2⟩; exact ⟨by omega, by omega⟩)
theorem cross_rot (a b : S36) : cross (rotd a) (rotd b) = cross a b := by
  unfold cross rotd
  simp only [Int.neg_mul, Int.mul_neg]
  omega
/-- Which quarter. -/
def qd (a : S36) : Int := if a.f1 > 0 then (if a.f0 > 0 then 0 else 1) else if a.f1 = 0 then (if a.f0 > 0 then 0 else 2) else (if a.f0 < 0 then 2 else 3)
theorem qd_rot (a : S36) (h : okd a = true) : qd (rotd a) = (qd a + 1) % 4 := by
  rw [okd_iff] at h
  unfold qd rotd
  dsimp only
  repeat' split
  all_goals omega
theorem qd_cases (a : S36) (h : okd a = true) : (qd a = 0 ∧ a.f0 > 0 ∧ a.f1 ≥ 0 ∧ hv a = 0) ∨ (qd a = 1 ∧ a.f0 ≤ 0 ∧ a.f1 > 0 ∧ hv a = 0) ∨ (qd a = 2 ∧ a.f0 < 0 ∧ a.f1 ≤ 0 ∧ hv a = 1) ∨ (qd a = 3 ∧ a.f0 ≥ 0 ∧ a.f1 < 0 ∧ hv a = 1) := by
  rw [okd_iff] at h
  unfold qd hv
  repeat' split
  all_goals omega
theorem cross01 (a b : S36) (h1 : a.f0 > 0) (h2 : a.f1 ≥ 0) (h3 : b.f0 ≤ 0) (h4 : b.f1 > 0) : 0 < cross a b := by
  unfold cross
  have p := Int.mul_pos h1 h4
  have q := Int.mul_nonneg h2 (show 0 ≤ -b.f0 by omega)
  rw [Int.mul_neg] at q
  omega
theorem cross23 (a b : S36) (h1 : a.f0 < 0) (h2 : a.f1 ≤ 0) (h3 : b.f0 ≥ 0) (h4 : b.f1 < 0) : 0 < cross a b := by
  unfold cross
  have p := Int.mul_pos (show 0 < -a.f0 by omega) (show 0 < -b.f1 by omega)
  have q := Int.mul_nonneg (show 0 ≤ -a.f1 by omega) h3
  rw [Int.neg_mul] at q
  rw [Int.neg_mul_neg] at p
  omega
theorem cmpv_iff (a b : S36) (ha : okd a = true) (hb : okd b = true) : (cmpv a b < 0 ↔ hv a < hv b ∨ (hv a = hv b ∧ 0 < cross a b)) ∧ (0 < cmpv a b ↔ hv b < hv a ∨ (hv a = hv b ∧ cross a b < 0)) := by
  rw [cmpv_ok a b ha hb]
  unfold orv cpr
  generalize cross a b = x
  generalize hv a = u
  generalize hv b = v
  constructor <;> ((repeat' split) <;> omega)
theorem cmpv_q (a b : S36) (ha : okd a = true) (hb : okd b = true) : (cmpv a b < 0 ↔ qd a < qd b ∨ (qd a = qd b ∧ 0 < cross a b)) ∧ (0 < cmpv a b ↔ qd b < qd a ∨ (qd a = qd b ∧ cross a b < 0)) := by
  have h := cmpv_iff a b ha hb
  rw [h.1, h.2]
  have hs := cross_swap a b
  rcases qd_cases a ha with ⟨a0, a1, a2, a3⟩ | ⟨a0, a1, a2, a3⟩ | ⟨a0, a1, a2, a3⟩ | ⟨a0, a1, a2, a3⟩ <;> rcases qd_cases b hb with ⟨b0, b1, b2, b3⟩ | ⟨b0, b1, b2, b3⟩ | ⟨b0, b1, b2, b3⟩ | ⟨b0, b1, b2, b3⟩ <;> rw [a0, b0, a3, b3]
  · omega
  · have := cross01 a b a1 a2 b1 b2; omega
  · omega
  · omega
  · have := cross01 b a b1 b2 a1 a2; omega
  · omega
  · omega
  · omega
  · omega
  · omega
  · omega
  · have := cross23 a b a1 a2 b1 b2; omega
  · omega
  · omega
  · have := cross23 b a b1 b2 a1 a2; omega
  · omega
theorem qd_rng (a : S36) : 0 ≤ qd a ∧ qd a < 4 := by
  unfold qd
  repeat' split
  all_goals omega
theorem ah_abs (i x y sx sy s : Int) (hi : 0 ≤ i ∧ i < 4) (hx : 0 ≤ x ∧ x < 4) (hy : 0 ≤ y ∧ y < 4) :
    (((i < x ∨ (x = i ∧ sx < 0)) ∧ ¬ (i < y ∨ (y = i ∧ sy < 0))) ∨ (((i < x ∨ (x = i ∧ sx < 0)) ↔ (i < y ∨ (y = i ∧ sy < 0))) ∧ (x < y ∨ (x = y ∧ 0 < s)))) ↔
    ((((i + 1) % 4 < (x + 1) % 4 ∨ ((x + 1) % 4 = (i + 1) % 4 ∧ sx < 0)) ∧ ¬ ((i + 1) % 4 < (y + 1) % 4 ∨ ((y + 1) % 4 = (i + 1) % 4 ∧ sy < 0))) ∨ ((((i + 1) % 4 < (x + 1) % 4 ∨ ((x + 1) % 4 = (i + 1) % 4 ∧ sx < 0)) ↔ ((i + 1) % 4 < (y + 1) % 4 ∨ ((y + 1) % 4 = (i + 1) % 4 ∧ sy < 0))) ∧ ((x + 1) % 4 < (y + 1) % 4 ∨ ((x + 1) % 4 = (y + 1) % 4 ∧ 0 < s)))) := by
  have ci : i = 0 ∨ i = 1 ∨ i = 2 ∨ i = 3 := by omega
  have cx : x = 0 ∨ x = 1 ∨ x = 2 ∨ x = 3 := by omega
  have cy : y = 0 ∨ y = 1 ∨ y = 2 ∨ y = 3 := by omega
  rcases ci with rfl | rfl | rfl | rfl <;> rcases cx with rfl | rfl | rfl | rfl <;> rcases cy with rfl | rfl | rfl | rfl <;> simp <;> omega
theorem rd_rot (xs : List S36) (k : Int) (h0 : 0 ≤ k) (h1 : k < (xs.length : Int)) : rd_T36 (xs.map rotd) k = rotd (rd_T36 xs k) := by
  have hk : k.toNat < xs.length := by omega
  unfold rd_T36
  rw [List.getD_eq_getElem?_getD, List.getD_eq_getElem?_getD, List.getElem?_eq_getElem (by simpa using hk), List.getElem?_eq_getElem hk]
  simp
/-- All are directions. -/
def AllOk (xs : List S36) : Prop := ∀ k : Int, 0 ≤ k → k < (xs.length : Int) → okd (rd_T36 xs k) = true
theorem cmp_rot (xs : List S36) (h : AllOk xs) (x y : Int) (x0 : 0 ≤ x) (x1 : x < (xs.length : Int)) (y0 : 0 ≤ y) (y1 : y < (xs.length : Int)) : cfl (xs.map rotd) x y = 0 ↔ cfl xs x y = 0 := by
  unfold cfl
  rw [rd_rot xs x x0 x1, rd_rot xs y y0 y1]
  have hx := h x x0 x1
  have hy := h y y0 y1
  obtain ⟨p1, p2⟩ := cmpv_q _ _ hx hy
  obtain ⟨r1, r2⟩ := cmpv_q (rotd (rd_T36 xs x)) (rotd (rd_T36 xs y)) (by rw [okd_rot]; exact hx) (by rw [okd_rot]; exact hy)
  rw [qd_rot _ hx, qd_rot _ hy, cross_rot] at r1 r2
  have qx := qd_rng (rd_T36 xs x)
  have qy := qd_rng (rd_T36 xs y)
  omega
theorem ah_rot (xs : List S36) (h : AllOk xs) (i x y : Int) (i0 : 0 ≤ i) (i1 : i < (xs.length : Int)) (x0 : 0 ≤ x) (x1 : x < (xs.length : Int)) (y0 : 0 ≤ y) (y1 : y < (xs.length : Int)) : TP.Ah (cfl (xs.map rotd)) i x y ↔ TP.Ah (cfl xs) i x y := by
  unfold TP.Ah cfl
  rw [rd_rot xs x x0 x1, rd_rot xs y y0 y1, rd_rot xs i i0 i1]
  have hx := h x x0 x1
  have hy := h y y0 y1
  have hi := h i i0 i1
  have hx' : okd (rotd (rd_T36 xs x)) = true := by rw [okd_rot]; exact hx
  have hy' : okd (rotd (rd_T36 xs y)) = true := by rw [okd_rot]; exact hy
  have hi' : okd (rotd (rd_T36 xs i)) = true := by rw [okd_rot]; exact hi
  have e1 := (cmpv_q _ _ hx hi).2
  have e2 := (cmpv_q _ _ hy hi).2
  have e3 := (cmpv_q _ _ hx hy).1
  have f1 := (cmpv_q _ _ hx' hi').2
  have f2 := (cmpv_q _ _ hy' hi').2
  have f3 := (cmpv_q _ _ hx' hy').1
  rw [qd_rot _ hx, qd_rot _ hi, cross_rot] at f1
  rw [qd_rot _ hy, qd_rot _ hi, cross_rot] at f2
  rw [qd_rot _ hx, qd_rot _ hy, cross_rot] at f3
  have k := ah_abs (qd (rd_T36 xs i)) (qd (rd_T36 xs x)) (qd (rd_T36 xs y)) (cross (rd_T36 xs x) (rd_T36 xs i)) (cross (rd_T36 xs y) (rd_T36 xs i)) (cross (rd_T36 xs x) (rd_T36 xs y)) (qd_rng _) (qd_rng _) (qd_rng _)
  rw [← e1, ← e2, ← e3, ← f1, ← f2, ← f3] at k
  rw [Int.not_lt, Int.not_lt] at k
  exact k.symm
theorem cand_rot (xs : List S36) (h : AllOk xs) (i x : Int) (i0 : 0 ≤ i) (i1 : i < (xs.length : Int)) : TP.Cand (cfl (xs.map rotd)) (okl (xs.map rotd)) (xs.map rotd).length i x ↔ TP.Cand (cfl xs) (okl xs) xs.length i x := by
  unfold TP.Cand
  rw [List.length_map]
  constructor
  · rintro ⟨h0, h1, h2, h3⟩
    exact ⟨h0, h1, h x h0 h1, fun e => h3 ((cmp_rot xs h x i h0 h1 i0 i1).2 e)⟩
  · rintro ⟨h0, h1, h2, h3⟩
    refine ⟨h0, h1, ?_, fun e => h3 ((cmp_rot xs h x i h0 h1 i0 i1).1 e)⟩
    unfold okl
    rw [rd_rot xs x h0 h1, okd_rot]
    exact h x h0 h1
theorem allOk_rot (xs : List S36) (h : AllOk xs) : AllOk (xs.map rotd) := fun k h0 h1 => by
  rw [List.length_map] at h1
  rw [rd_rot xs k h0 h1, okd_rot]
  exact h k h0 h1
theorem nextp_rot (xs : List S36) (h : AllOk xs) (i : Int) (i0 : 0 ≤ i) (i1 : i < (xs.length : Int)) : nextp (xs.map rotd) i = nextp xs i := by
  have hat : atp xs i = true := (atp_iff xs i).2 ⟨i0, i1, h i i0 i1⟩
  have hat' : atp (xs.map rotd) i = true := (atp_iff _ i).2 ⟨i0, by rw [List.length_map]; exact i1, allOk_rot xs h i i0 (by rw [List.length_map]; exact i1)⟩
  refine TP.isNext_uniq (cfl_pre xs) ?_ (nextp_is xs i hat)
  rcases nextp_is _ i hat' with ⟨h1, h2⟩ | ⟨h1, h2⟩
  · left
    have c1 := (cand_rot xs h i _ i0 i1).1 h1
    refine ⟨c1, fun k hk => ?_⟩
    rcases h2 k ((cand_rot xs h i k i0 i1).2 hk) with e | e | e
    · exact .inl e
    · exact .inr (.inl ((ah_rot xs h i _ k i0 i1 c1.1 c1.2.1 hk.1 hk.2.1).1 e))
    · exact .inr (.inr ⟨(cmp_rot xs h _ k c1.1 c1.2.1 hk.1 hk.2.1).1 e.1, e.2⟩)
  · right
    exact ⟨h1, fun k hk => h2 k ((cand_rot xs h i k i0 i1).2 hk)⟩
theorem prevp_rot (xs : List S36) (h : AllOk xs) (i : Int) (i0 : 0 ≤ i) (i1 : i < (xs.length : Int)) : prevp (xs.map rotd) i = prevp xs i := by
  have hat : atp xs i = true := (atp_iff xs i).2 ⟨i0, i1, h i i0 i1⟩
  have hat' : atp (xs.map rotd) i = true := (atp_iff _ i).2 ⟨i0, by rw [List.length_map]; exact i1, allOk_rot xs h i i0 (by rw [List.length_map]; exact i1)⟩
  refine TP.isPrev_uniq (cfl_pre xs) ?_ (prevp_is xs i hat)
  rcases prevp_is _ i hat' with ⟨h1, h2⟩ | ⟨h1, h2⟩
  · left
    have c1 := (cand_rot xs h i _ i0 i1).1 h1
    refine ⟨c1, fun k hk => ?_⟩
    rcases h2 k ((cand_rot xs h i k i0 i1).2 hk) with e | e | e
    · exact .inl e
    · exact .inr (.inl ((ah_rot xs h i k _ i0 i1 hk.1 hk.2.1 c1.1 c1.2.1).1 e))
    · exact .inr (.inr ⟨(cmp_rot xs h _ k c1.1 c1.2.1 hk.1 hk.2.1).1 e.1, e.2⟩)
  · right
    exact ⟨h1, fun k hk => h2 k ((cand_rot xs h i k i0 i1).2 hk)⟩
theorem cmpv_rot (a b : S36) (ha : okd a = true) (hb : okd b = true) : cmpv (rotd a) (rotd b) = 0 ↔ cmpv a b = 0 := by
  obtain ⟨p1, p2⟩ := cmpv_q _ _ ha hb
  obtain ⟨r1, r2⟩ := cmpv_q (rotd a) (rotd b) (by rw [okd_rot]; exact ha) (by rw [okd_rot]; exact hb)
  rw [qd_rot _ ha, qd_rot _ hb, cross_rot] at r1 r2
  have qx := qd_rng a
  have qy := qd_rng b
  omega
end Go.Proofs.Ytojdmloimmcacaa.TS
