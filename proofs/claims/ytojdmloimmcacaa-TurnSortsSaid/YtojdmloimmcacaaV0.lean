/- Proved: how two directions stand, by halves and cross products: a total preorder in which those that are none stand last; no condition. -/
import Derived.Test.YtojdmloimmcacaaV19
import Derived.Test.YtojdmloimmcacaaTQ
namespace Go.Proofs.Ytojdmloimmcacaa.PTurnSorts
open Go.RowKit Go.Sort Go.Proofs.YtojdmloimmcacaaW.PrintWords Go.Proofs.YtojdmloimmcacaaW.PrintLast Go.Proofs.YtojdmloimmcacaaW.PrintMore
open TS
set_option linter.unusedVariables false
set_option linter.unusedSimpArgs false
theorem dir_tot (x y : Int) : ∃ b, turn_Dir_ok.f x y = some b := by
  unfold turn_Dir_ok.f
  repeat' split
  all_goals exact ⟨_, rfl⟩
theorem half_tot (x y : Int) : ∃ b, turn_Half.f x y = some b := by
  unfold turn_Half.f
  obtain ⟨b, hb⟩ := dir_tot x y
  rw [hb]
  simp only [Option.bind_some]
  repeat' split
  all_goals exact ⟨_, rfl⟩
/-- How two numbers stand. -/
def cpr (a b : Int) : Int := if a < b then -1 else if a > b then 1 else 0
theorem cpr_e (a b : Int) : cmp_Compare_int.f a b = some (cpr a b) := by
  unfold cmp_Compare_int.f cmp_isNaN_int.f cpr
  simp only [bne_self_eq_false, Option.bind_some, Bool.false_eq_true, if_false]
  repeat' split
  all_goals rfl
theorem cpr64_e (a b : Int) : cmp_Compare_int64.f a b = some (cpr a b) := by
  unfold cmp_Compare_int64.f cmp_isNaN_int64.f cpr
  simp only [bne_self_eq_false, Option.bind_some, Bool.false_eq_true, if_false]
  repeat' split
  all_goals rfl
theorem or_e (p q : Int) : cmp_Or_int.f 19 [p, q] = some (if p = 0 then q else p) := by
  unfold cmp_Or_int.f
  by_cases hp : p = 0
  · by_cases hq : q = 0
    · simp [cmp_Or_int.l0, rd, wrap64, hp, hq]
    · simp [cmp_Or_int.l0, rd, wrap64, hp, hq]
  · simp [cmp_Or_int.l0, rd, wrap64, hp]
theorem cmp_tot (a b c d : Int) : ∃ r, turn_Cmp.f 20 a b c d = some r := by
  unfold turn_Cmp.f
  obtain ⟨x, hx⟩ := dir_tot a b
  obtain ⟨y, hy⟩ := dir_tot c d
  obtain ⟨u, hu⟩ := half_tot a b
  obtain ⟨v, hv⟩ := half_tot c d
  simp only [hx, hy, hu, hv, Option.bind_some, turn_Cmp.j0, cpr_e, cpr64_e, or_e]
  repeat' split
  all_goals exact ⟨_, rfl⟩
theorem cmpv_e (a b : S36) : turn_Cmp.f 20 a.f0 a.f1 b.f0 b.f1 = some (cmpv a b) := by
  obtain ⟨r, hr⟩ := cmp_tot a.f0 a.f1 b.f0 b.f1
  unfold cmpv
  rw [hr]; rfl
def okd (a : S36) : Bool := (turn_Dir_ok.f a.f0 a.f1).getD false
end Go.Proofs.Ytojdmloimmcacaa.PTurnSorts
namespace Go.Proofs.Ytojdmloimmcacaa.TS
open Go.RowKit Go.Sort Go.Proofs.YtojdmloimmcacaaW.PrintWords Go.Proofs.YtojdmloimmcacaaW.PrintLast Go.Proofs.YtojdmloimmcacaaW.PrintMore
open PTurnSorts
set_option linter.unusedVariables false
set_option linter.unusedSimpArgs false
/-- How the directions at two places stand. -/
def cfl (xs : List S36) (x y : Int) : Int := cmpv (rd_T36 xs x) (rd_T36 xs y)
theorem okd_eq (a : S36) : turn_Dir_ok.f a.f0 a.f1 = some (okd a) := by
  obtain ⟨b, hb⟩ := dir_tot a.f0 a.f1
  unfold okd
  rw [hb]; rfl
theorem okd_iff (a : S36) : okd a = true ↔ (a.f0 ≠ 0 ∨ a.f1 ≠ 0) ∧ -4194304 ≤ a.f0 ∧ a.f0 ≤ 4194304 ∧ -4194304 ≤ a.f1 ∧ a.f1 ≤ 4194304 := by
  have h := okd_eq a
  unfold turn_Dir_ok.f at h
  split at h
  · rename_i h1
    simp only [Bool.or_eq_true, Bool.not_eq_true', beq_eq_false_iff_ne] at h1
    split at h
    · split at h
      · split at h
        · rw [← Option.some.inj h, decide_eq_true_eq]; omega
        · rw [← Option.some.inj h]; simp; omega
      · rw [← Option.some.inj h]; simp; omega
    · rw [← Option.some.inj h]; simp; omega
  · rename_i h1
    simp only [Bool.or_eq_true, Bool.not_eq_true', beq_eq_false_iff_ne] at h1
    rw [← Option.some.inj h]; simp; omega
/-- Which half. -/
def hv (a : S36) : Int := if a.f1 > 0 then 0 else if a.f1 = 0 then (if a.f0 > 0 then 0 else 1) else 1
theorem half_e (a : S36) (h : okd a = true) : turn_Half.f a.f0 a.f1 = some (hv a) := by
  unfold turn_Half.f hv
  rw [okd_eq, h]
  simp only [Option.bind_some, if_true]
  repeat' split
  all_goals rfl
def cross (a b : S36) : Int := a.f0 * b.f1 - a.f1 * b.f0
theorem mul_bd (x y m : Int) (h1 : -m ≤ x) (h2 : x ≤ m) (h3 : -m ≤ y) (h4 : y ≤ m) : -(m * m) ≤ x * y ∧ x * y ≤ m * m := by
  have hm : 0 ≤ m := by omega
  have e : (x * y).natAbs ≤ m.natAbs * m.natAbs := by
    rw [Int.natAbs_mul]
    exact Nat.mul_le_mul (by omega) (by omega)
  have e2 : ((m.natAbs * m.natAbs : Nat) : Int) = m * m := by
    rw [Int.natCast_mul, Int.natAbs_of_nonneg hm]
  have e3 : ((x * y).natAbs : Int) ≤ m * m := by rw [← e2]; exact Int.ofNat_le.2 e
  omega
theorem cross_wrap (a b : S36) (ha : okd a = true) (hb : okd b = true) : wrap64 (wrap64 (a.f0 * b.f1) - wrap64 (a.f1 * b.f0)) = cross a b := by
  rw [okd_iff] at ha hb
  obtain ⟨_, a1, a2, a3, a4⟩ := ha
  obtain ⟨_, b1, b2, b3, b4⟩ := hb
  have h1 := mul_bd a.f0 b.f1 4194304 a1 a2 b3 b4
  have h2 := mul_bd a.f1 b.f0 4194304 a3 a4 b1 b2
  unfold cross wrap64
  generalize a.f0 * b.f1 = p at *
  generalize a.f1 * b.f0 = q at *
  omega
def orv (p q : Int) : Int := if p = 0 then q else p
theorem cmpv_ok (a b : S36) (ha : okd a = true) (hb : okd b = true) : cmpv a b = orv (cpr (hv a) (hv b)) (cpr 0 (cross a b)) := by
  unfold cmpv turn_Cmp.f
  simp only [okd_eq, ha, Option.bind_some, if_true, turn_Cmp.j0, hb, half_e a ha, half_e b hb, cpr_e, cpr64_e, or_e, cross_wrap a b ha hb, Bool.false_eq_true, if_false, Option.getD_some]
  rfl
theorem cmpv_no (a b : S36) (ha : okd a = false) (hb : okd b = false) : cmpv a b = 0 := by
  unfold cmpv turn_Cmp.f
  simp [okd_eq, ha, hb, turn_Cmp.j0]
theorem cmpv_l (a b : S36) (ha : okd a = false) (hb : okd b = true) : cmpv a b = 1 := by
  unfold cmpv turn_Cmp.f
  simp [okd_eq, ha, hb, turn_Cmp.j0]
theorem cmpv_r (a b : S36) (ha : okd a = true) (hb : okd b = false) : cmpv a b = -1 := by
  unfold cmpv turn_Cmp.f
  simp [okd_eq, ha, hb, turn_Cmp.j0]
theorem cross_swap (a b : S36) : cross b a = -cross a b := by
  unfold cross
  rw [Int.mul_comm b.f0 a.f1, Int.mul_comm b.f1 a.f0]; omega
theorem cross_id (ax ay bx b_y cx cy : Int) : b_y * (ax * cy - ay * cx) = ay * (bx * cy - b_y * cx) + cy * (ax * b_y - ay * bx) := by
  grind
theorem cross_up (ax ay bx b_y cx cy : Int) (ha : ay > 0 ∨ (ay = 0 ∧ ax > 0)) (hb : b_y > 0 ∨ (b_y = 0 ∧ bx > 0)) (hc : cy > 0 ∨ (cy = 0 ∧ cx > 0)) (h1 : 0 ≤ ax * b_y - ay * bx) (h2 : 0 ≤ bx * cy - b_y * cx) : 0 ≤ ax * cy - ay * cx := by
  rcases hb with hb | ⟨hb, hbx⟩
  · have e := cross_id ax ay bx b_y cx cy
    have p1 : 0 ≤ ay * (bx * cy - b_y * cx) := Int.mul_nonneg (by omega) h2
    have p2 : 0 ≤ cy * (ax * b_y - ay * bx) := Int.mul_nonneg (by omega) h1
    by_cases h : 0 ≤ ax * cy - ay * cx
    · exact h
    · have := Int.mul_neg_of_pos_of_neg hb (show ax * cy - ay * cx < 0 by omega)
      omega
  · subst hb
    have h3 : ay * bx ≤ 0 := by simpa using h1
    have ha0 : ay = 0 := by
      rcases ha with ha | ha
      · have := Int.mul_pos ha hbx; omega
      · exact ha.1
    subst ha0
    have hax : 0 < ax := by omega
    have : 0 ≤ ax * cy := Int.mul_nonneg (by omega) (by omega)
    simpa using this
theorem hv_up (a : S36) (ha : okd a = true) : (hv a = 0 ∧ (a.f1 > 0 ∨ (a.f1 = 0 ∧ a.f0 > 0))) ∨ (hv a = 1 ∧ (-a.f1 > 0 ∨ (-a.f1 = 0 ∧ -a.f0 > 0))) := by
  rw [okd_iff] at ha
  unfold hv
  split
  · left; exact ⟨rfl, by omega⟩
  · split
    · split
      · left; exact ⟨rfl, by omega⟩
      · right; exact ⟨rfl, by omega⟩
    · right; exact ⟨rfl, by omega⟩
theorem cross_trans (a b c : S36) (ha : okd a = true) (hb : okd b = true) (hc : okd c = true) (e1 : hv a = hv b) (e2 : hv b = hv c) (h1 : 0 ≤ cross a b) (h2 : 0 ≤ cross b c) : 0 ≤ cross a c := by
  unfold cross at *
  rcases hv_up a ha with ⟨x, p⟩ | ⟨x, p⟩
  · rcases hv_up b hb with ⟨y, q⟩ | ⟨y, q⟩
    · rcases hv_up c hc with ⟨z, r⟩ | ⟨z, r⟩
      · exact cross_up _ _ _ _ _ _ p q r h1 h2
      · omega
    · omega
  · rcases hv_up b hb with ⟨y, q⟩ | ⟨y, q⟩
    · omega
    · rcases hv_up c hc with ⟨z, r⟩ | ⟨z, r⟩
      · omega
      · have := cross_up (-a.f0) (-a.f1) (-b.f0) (-b.f1) (-c.f0) (-c.f1) p q r (by simpa [Int.neg_mul_neg] using h1) (by simpa [Int.neg_mul_neg] using h2)
        simpa [Int.neg_mul_neg] using this
theorem cmpv_anti (a b : S36) : cmpv b a < 0 ↔ 0 < cmpv a b := by
  cases ha : okd a with
  | false =>
    cases hb : okd b with
    | false => rw [cmpv_no b a hb ha, cmpv_no a b ha hb]
    | true => rw [cmpv_r b a hb ha, cmpv_l a b ha hb]; omega
  | true =>
    cases hb : okd b with
    | false => rw [cmpv_l b a hb ha, cmpv_r a b ha hb]; omega
    | true =>
      rw [cmpv_ok b a hb ha, cmpv_ok a b ha hb, cross_swap a b]
      unfold orv cpr
      generalize cross a b = x
      generalize hv a = u
      generalize hv b = v
      repeat' split
      all_goals omega
theorem cmpv_le (a b : S36) (ha : okd a = true) (hb : okd b = true) : cmpv a b ≤ 0 ↔ hv a < hv b ∨ (hv a = hv b ∧ 0 ≤ cross a b) := by
  rw [cmpv_ok a b ha hb]
  unfold orv cpr
  generalize cross a b = x
  generalize hv a = u
  generalize hv b = v
  repeat' split
  all_goals omega
theorem cmpv_trans (a b c : S36) (h1 : cmpv a b ≤ 0) (h2 : cmpv b c ≤ 0) : cmpv a c ≤ 0 := by
  cases ha : okd a with
  | false =>
    cases hb : okd b with
    | true => rw [cmpv_l a b ha hb] at h1; omega
    | false =>
      cases hc : okd c with
      | true => rw [cmpv_l b c hb hc] at h2; omega
      | false => rw [cmpv_no a c ha hc]; omega
  | true =>
    cases hc : okd c with
    | false => rw [cmpv_r a c ha hc]; omega
    | true =>
      cases hb : okd b with
      | false => rw [cmpv_l b c hb hc] at h2; omega
      | true =>
        rw [cmpv_le a b ha hb] at h1
        rw [cmpv_le b c hb hc] at h2
        rw [cmpv_le a c ha hc]
        rcases h1 with h1 | ⟨h1, h1'⟩
        · left; omega
        · rcases h2 with h2 | ⟨h2, h2'⟩
          · left; omega
          · right; exact ⟨by omega, cross_trans a b c ha hb hc h1 h2 h1' h2'⟩
theorem cfl_pre (xs : List S36) : TP.Pre (cfl xs) := ⟨fun x y => cmpv_anti _ _, fun x y z => cmpv_trans _ _ _⟩
def okl (xs : List S36) (k : Int) : Bool := okd (rd_T36 xs k)
theorem cfl_none (xs : List S36) (i : Int) (hi : okl xs i = true) (k : Int) (h : cfl xs k i ≤ 0) : okl xs k = true := by
  cases hk : okl xs k with
  | true => rfl
  | false => unfold cfl at h; rw [cmpv_l _ _ hk hi] at h; omega
end Go.Proofs.Ytojdmloimmcacaa.TS
