/- Proved: what Box and Meet of the package pt compute is what the document's own compute; no condition beyond the length. -/
import Derived.Test.YtabblkckapdpoaaMeet
import Derived.Test.YtabblkckapdpoaaBox
import Derived.Test.YtabblkckapdpoaaRM
import Derived.Test.YtabblkckapdpoaaPPtBoxesx3
import Derived.Test.YtabblkckapdpoaaPPtBoxesx4
namespace Go.Proofs.Ytabblkckapdpoaa.PPtBoxes
open Go.RowKit Go.Proofs.YtabblkckapdpoaaW.PrintWords Go.Proofs.YtabblkckapdpoaaW.PrintLast Go.Proofs.YtabblkckapdpoaaW.PrintMore
open Geo
theorem clean_e (x y : Int) : terrierref9_Clean.f x y = some (nr x, nr y) := rfl
theorem wrap_s (i : Int) (h0 : 0 ≤ i) (h1 : i < 1000) : wrap64 i = i := by
  unfold wrap64
  omega
theorem mn_self (x : Int) : mn x x = x := by simp [mn]
theorem mx_self (x : Int) : mx x x = x := by simp [mx]
theorem box_same (l : List S23) (h0 : 0 < l.length) (h1 : l.length ≤ 100) : ∀ (k : Nat) (i a b c d : Int), 1 ≤ i → i ≤ 100 → pt_Box.l0 k l l (l.length : Int) i a b c d = terrierref9_Box.l0 k l i a b c d
  | 0, _, _, _, _, _, _, _ => rfl
  | k + 1, i, a, b, c, d, hi, hj => by
    unfold pt_Box.l0 terrierref9_Box.l0
    by_cases c1 : i < (l.length : Int)
    · have c2 : 0 ≤ i := by omega
      have c3 : ¬ i = 0 := by omega
      rw [if_pos c1, if_pos c2, if_pos c1, if_pos c1, if_pos c2, near_e, clean_e]
      simp only [Option.bind_some]
      rw [if_neg c3, wrap_s (i + 1) (by omega) (by omega)]
      exact box_same l h0 h1 k (i + 1) _ _ _ _ (by omega) (by omega)
    · rw [if_neg c1, if_neg c1]
      have : decide ((l.length : Int) > 0) = true := decide_eq_true (by omega)
      rw [this]
theorem box_ends (l : List S23) (h1 : l.length ≤ 100) : ∀ (k : Nat) (i a b c d : Int), 0 ≤ i → (l.length : Int) - i < k → i ≤ (l.length : Int) → ∃ r, terrierref9_Box.l0 k l i a b c d = some r
  | 0, i, a, b, c, d, hi, hk, hj => by
    omega
  | k + 1, i, a, b, c, d, hi, hk, hj => by
    unfold terrierref9_Box.l0
    by_cases c1 : i < (l.length : Int)
    · rw [if_pos c1, if_pos hi, clean_e]
      simp only [Option.bind_some]
      rw [wrap_s (i + 1) (by omega) (by omega)]
      exact box_ends l h1 k (i + 1) _ _ _ _ (by omega) (by omega) (by omega)
    · rw [if_neg c1]; exact ⟨_, rfl⟩
theorem box_eq (l : List S23) (h1 : l.length ≤ 100) : ∃ r, pt_Box.f 200 l = some r ∧ terrierref9_Box.f 200 l = some r := by
  unfold pt_Box.f terrierref9_Box.f
  by_cases c0 : (l.length : Int) = 0
  · refine ⟨(0, 0, 0, 0, false), ?_, by rw [if_pos c0]⟩
    unfold pt_Box.l0
    rw [if_neg (by omega)]
    have : decide ((l.length : Int) > 0) = false := decide_eq_false (by omega)
    rw [this]
  · have c1 : 0 < (l.length : Int) := by omega
    have c2 : (0 : Int) ≤ 0 := Int.le_refl 0
    rw [if_neg c0, if_pos c1, clean_e]
    simp only [Option.bind_some]
    obtain ⟨r, hr⟩ := box_ends l h1 199 1 (nr (rd_T23 l 0).f0) (nr (rd_T23 l 0).f1) (nr (rd_T23 l 0).f0) (nr (rd_T23 l 0).f1) (by omega) (by omega) (by omega)
    refine ⟨r, ?_, ?_⟩
    · unfold pt_Box.l0
      rw [if_pos c1, if_pos c2, if_pos c1, near_e]
      simp only [Option.bind_some]
      rw [if_pos True.intro, wrap_s (0 + 1) (by omega) (by omega), mn_self, mn_self, mx_self, mx_self]
      rw [box_same l (by omega) h1 199 _ _ _ _ _ (by omega) (by omega)]
      exact hr
    · unfold terrierref9_Box.l0
      rw [if_pos c1, if_pos c2, clean_e]
      simp only [Option.bind_some]
      rw [wrap_s (0 + 1) (by omega) (by omega), mn_self, mn_self, mx_self, mx_self]
      exact hr
theorem meet_eq (a0 a1 b0 b1 c0 c1 d0 d1 : Int) : terrierref9_Meet.f a0 a1 b0 b1 c0 c1 d0 d1 = pt_Meet.f a0 a1 b0 b1 c0 c1 d0 d1 := by
  unfold terrierref9_Meet.f pt_Meet.f
  rw [clean_e, clean_e, clean_e, clean_e]
  simp only [Option.bind_some]
  generalize nr a0 = ax
  generalize nr a1 = ay
  generalize nr b0 = bx
  generalize nr b1 = bY
  generalize nr c0 = cx
  generalize nr c1 = cy
  generalize nr d0 = dx
  generalize nr d1 = dy
  have key : (!(ovr ax ay bx bY || ovr ax ay dx dy || ovr cx cy bx bY || ovr cx cy dx dy)) = decide (¬ bx < ax ∧ ¬ bY < ay ∧ ¬ dx < ax ∧ ¬ dy < ay ∧ ¬ bx < cx ∧ ¬ bY < cy ∧ ¬ dx < cx ∧ ¬ dy < cy) := by
    unfold ovr
    rw [Bool.eq_iff_iff]
    simp only [Bool.not_eq_true', Bool.or_eq_false_iff, decide_eq_false_iff_not, decide_eq_true_eq]
    omega
  rw [key]
  have hmx : ∀ x y : Int, mx x y = if x < y then y else x := fun _ _ => rfl
  have hmn : ∀ x y : Int, mn x y = if y < x then y else x := fun _ _ => rfl
  split
  · exact congrArg some (decide_eq_false (by omega)).symm
  split
  · exact congrArg some (decide_eq_false (by omega)).symm
  split
  · exact congrArg some (decide_eq_false (by omega)).symm
  split
  · exact congrArg some (decide_eq_false (by omega)).symm
  have hle : ∀ x y z t : Int, mx x y ≤ mn z t ↔ (x ≤ z ∧ x ≤ t ∧ y ≤ z ∧ y ≤ t) := by
    intro x y z t
    rw [hmx, hmn]
    split <;> split <;> omega
  by_cases h : mx ax cx ≤ mn bx dx
  · have h1 := (hle ax cx bx dx).1 h
    by_cases g : mx ay cy ≤ mn bY dy
    · have g1 := (hle ay cy bY dy).1 g
      rw [if_pos h, decide_eq_true g, decide_eq_true (show ¬ bx < ax ∧ ¬ bY < ay ∧ ¬ dx < ax ∧ ¬ dy < ay ∧ ¬ bx < cx ∧ ¬ bY < cy ∧ ¬ dx < cx ∧ ¬ dy < cy by omega)]
    · rw [if_pos h, decide_eq_false g, decide_eq_false]
      intro k
      exact g ((hle ay cy bY dy).2 (by omega))
  · rw [if_neg h, decide_eq_false]
    intro k
    exact h ((hle ax cx bx dx).2 (by omega))
theorem meet_sym (a0 a1 b0 b1 c0 c1 d0 d1 : Int) : pt_Meet.f c0 c1 d0 d1 a0 a1 b0 b1 = pt_Meet.f a0 a1 b0 b1 c0 c1 d0 d1 := by
  unfold pt_Meet.f
  generalize ovr (nr a0) (nr a1) (nr b0) (nr b1) = p
  generalize ovr (nr a0) (nr a1) (nr d0) (nr d1) = q
  generalize ovr (nr c0) (nr c1) (nr b0) (nr b1) = r
  generalize ovr (nr c0) (nr c1) (nr d0) (nr d1) = s
  cases p <;> cases q <;> cases r <;> cases s <;> rfl
theorem awake200 : terrierlaw9_awake.f 200 = some true := by decide +kernel
end Go.Proofs.Ytabblkckapdpoaa.PPtBoxes
