/- Proved: turn.Sort's contract as the laws' texts ask it, for fewer than twenty directions; Cmp always tells. -/
import Derived.Test.YtojdmloimmcacaaT9
namespace Go.Proofs.Ytojdmloimmcacaa.PTurnRounds
open Go.RowKit Go.Sort Go.Proofs.YtojdmloimmcacaaW.PrintWords Go.Proofs.YtojdmloimmcacaaW.PrintLast Go.Proofs.YtojdmloimmcacaaW.PrintMore
open TS
set_option linter.unusedVariables false
set_option linter.unusedSimpArgs false
theorem info36 : (Try.prog.info? 36).map (fun i => (i.zero, i.size, i.bytes)) = some (some (.agg #[(.int .i64 0), (.int .i64 0)]), 2, 16) := by kernel_rfl
theorem dir_tot (x y : Int) : ∃ b, turn_Dir_ok.f x y = some b := by
  unfold turn_Dir_ok.f
  repeat' split
  all_goals exact ⟨_, rfl⟩
theorem half_tot (x y : Int) : ∃ b, turn_Half.f x y = some b := by
  unfold turn_Half.f
  obtain ⟨b, hb⟩ := dir_tot x y
  rw [hb]
  simp only [Option.bind_some]
  repeat' split
  all_goals exact ⟨_, rfl⟩
/-- How two numbers stand. -/
def cpr (a b : Int) : Int := if a < b then -1 else if a > b then 1 else 0
theorem cpr_e (a b : Int) : cmp_Compare_int.f a b = some (cpr a b) := by
  unfold cmp_Compare_int.f cmp_isNaN_int.f cpr
  simp only [bne_self_eq_false, Option.bind_some, Bool.false_eq_true, if_false]
  repeat' split
  all_goals rfl
theorem cpr64_e (a b : Int) : cmp_Compare_int64.f a b = some (cpr a b) := by
  unfold cmp_Compare_int64.f cmp_isNaN_int64.f cpr
  simp only [bne_self_eq_false, Option.bind_some, Bool.false_eq_true, if_false]
  repeat' split
  all_goals rfl
theorem or_e (p q : Int) : cmp_Or_int.f 19 [p, q] = some (if p = 0 then q else p) := by
  unfold cmp_Or_int.f
  by_cases hp : p = 0
  · by_cases hq : q = 0
    · simp [cmp_Or_int.l0, rd, wrap64, hp, hq]
    · simp [cmp_Or_int.l0, rd, wrap64, hp, hq]
  · simp [cmp_Or_int.l0, rd, wrap64, hp]
theorem cmp_tot (a b c d : Int) : ∃ r, turn_Cmp.f 20 a b c d = some r := by
  unfold turn_Cmp.f
  obtain ⟨x, hx⟩ := dir_tot a b
  obtain ⟨y, hy⟩ := dir_tot c d
  obtain ⟨u, hu⟩ := half_tot a b
  obtain ⟨v, hv⟩ := half_tot c d
  simp only [hx, hy, hu, hv, Option.bind_some, turn_Cmp.j0, cpr_e, cpr64_e, or_e]
  repeat' split
  all_goals exact ⟨_, rfl⟩
theorem cmpv_e (a b : S36) : turn_Cmp.f 20 a.f0 a.f1 b.f0 b.f1 = some (cmpv a b) := by
  obtain ⟨r, hr⟩ := cmp_tot a.f0 a.f1 b.f0 b.f1
  unfold cmpv
  rw [hr]; rfl
/-- turn.Sort, for fewer than twenty. -/
def turn_Sort.f (k : Nat) (l : List S36) : Option (List Int) := if l.length < 20 then some (sorted l).toList else none
theorem turn_Sort.mono : ∀ a0 k, LeO (turn_Sort.f k a0) (turn_Sort.f (k + 1) a0) := fun _ _ => LeO.refl _
theorem turn_Sort.calls (k : Nat) (A0 : Option Addr) (c0 : Nat) (l0 : List (S36)) (r : List Int) (w : World) (hr0 : Kd.C k36 w A0 l0.length l0) (hc0 : l0.length ≤ c0) (h : turn_Sort.f k l0 = some r) :
    Calls Try.prog 9 #[.slice A0 l0.length c0] w fun e w' => ∃ v0_ : Value, e = .returned (v0_) ∧ Kd.R (Kd.int .i64) 3 w' w.heap.size (fun _ => True) v0_ r ∧ Below w.heap.size w w' := by
  unfold turn_Sort.f at h
  split at h
  · rename_i h20
    obtain rfl := Option.some.inj h
    refine (Sort_walk w A0 l0 c0 hr0 cmpv_e h20).mono fun e w' ⟨blk, he, hb, hle, hrow, hs, _⟩ => ?_
    refine ⟨_, he, ?_, hb⟩
    refine Kd.R_of_own ?_ (fun _ _ => trivial)
    have e1 : (sorted l0).toList.length = l0.length := by rw [Array.length_toList, hs]
    rw [e1]
    refine ⟨by simp [encs, hs], .inr ⟨blk, l0.length, _, rfl, hle, hrow, Nat.le_refl _, by simp only [maxLen]; omega, by simp [hs], ?_⟩⟩
    have : ((sorted l0).map (Value.int .i64)).toList.length = l0.length * 1 := by simp [hs]
    rw [← this, List.take_length]
    simp [encs]
  · exact absurd h (by simp)
end Go.Proofs.Ytojdmloimmcacaa.PTurnRounds
