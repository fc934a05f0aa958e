/- Proved: points of one row stand by Morton's numbers as their X do, and points of one column as their Y do, for any three whole numbers; no condition. -/
import Derived.Test.YtabblkckapdpoaaPPtOrdersx3
import Derived.Test.YtabblkckapdpoaaMorton
namespace Go.Proofs.Ytabblkckapdpoaa.Pure
open Go.RowKit Go.Proofs.Ytabblkckapdpoaa.PPtOrders Go.Proofs.YtabblkckapdpoaaW.PrintWords Go.Proofs.YtabblkckapdpoaaW.PrintLast

theorem near_in (x y : Int) (h1 : -1048576 ≤ x) (h2 : x ≤ 1048576) (h3 : -1048576 ≤ y) (h4 : y ≤ 1048576) : pt_Near.f x y = some (x, y) := by
  unfold pt_Near.f mn mx
  repeat rw [if_neg (by omega)]

theorem morton_l0 (X Y : Nat) (hX : X < 18446744073709551616) (hY : Y < 18446744073709551616) (n : Nat) : ∀ (k i m : Nat), i + n = 22 → n < k → m < 4 ^ i →
    pt_Morton.l0 k (X : Int) (Y : Int) (m : Int) (i : Int) = some ((m + 4 ^ i * Mor.mor n (X / 2 ^ i) (Y / 2 ^ i) : Nat) : Int) := by
  induction n with
  | zero =>
    intro k i m hi hk hm
    obtain ⟨k, rfl⟩ : ∃ j, k = j + 1 := ⟨k - 1, by omega⟩
    simp only [pt_Morton.l0]
    rw [if_neg (by omega)]
    simp [Mor.mor, Mor.spr]
  | succ n ih =>
    intro k i m hi hk hm
    obtain ⟨k, rfl⟩ : ∃ j, k = j + 1 := ⟨k - 1, by omega⟩
    simp only [pt_Morton.l0]
    rw [if_pos (by omega), if_pos (by omega), if_pos (by unfold wrap64; omega), if_pos (by unfold wrap64; omega)]
    rw [Mor.round X Y m i hX hY (by omega) hm]
    have e : wrap64 ((i : Int) + 1) = ((i + 1 : Nat) : Int) := by unfold wrap64; omega
    rw [e, ih k (i + 1) _ (by omega) (by omega) (Mor.next_lt m _ _ i hm (Nat.mod_lt _ (by omega)) (Nat.mod_lt _ (by omega))), Mor.unroll]

theorem morton (x y : Int) (h1 : -1048576 ≤ x) (h2 : x ≤ 1048576) (h3 : -1048576 ≤ y) (h4 : y ≤ 1048576) (k : Nat) (hk : 22 < k) :
    pt_Morton.f k x y = some (Mor.mor 22 (x + 1048576).toNat (y + 1048576).toNat : Int) := by
  unfold pt_Morton.f
  rw [near_in x y h1 h2 h3 h4]
  simp only [Option.bind_some]
  have e1 : IntKind.u64.wrap (wrap64 (x + 1048576)) = (((x + 1048576).toNat : Nat) : Int) := by rw [IntKind.wrap_u64]; unfold wrap64; omega
  have e2 : IntKind.u64.wrap (wrap64 (y + 1048576)) = (((y + 1048576).toNat : Nat) : Int) := by rw [IntKind.wrap_u64]; unfold wrap64; omega
  rw [e1, e2]
  have := morton_l0 (x + 1048576).toNat (y + 1048576).toNat (by omega) (by omega) 22 k 0 0 (by omega) hk (by simp)
  simpa using this

theorem awake : terrierlaw9_awake.f 23 = some true := by decide +kernel

theorem less_x (a b c : Int) (h1 : -1048576 ≤ a) (h2 : a ≤ 1048576) (h3 : -1048576 ≤ b) (h4 : b ≤ 1048576) :
    ((decide ((Mor.mor 22 (a + 1048576).toNat (c + 1048576).toNat : Int) < (Mor.mor 22 (b + 1048576).toNat (c + 1048576).toNat : Int))) == decide (a < b)) = true := by
  have := Mor.spr_lt_iff 22 (a + 1048576).toNat (b + 1048576).toNat (by omega) (by omega)
  rw [beq_iff_eq, decide_eq_decide]
  unfold Mor.mor
  generalize Mor.spr 22 (a + 1048576).toNat = p at *
  generalize Mor.spr 22 (b + 1048576).toNat = q at *
  omega

theorem less_y (a b c : Int) (h1 : -1048576 ≤ a) (h2 : a ≤ 1048576) (h3 : -1048576 ≤ b) (h4 : b ≤ 1048576) :
    ((decide ((Mor.mor 22 (c + 1048576).toNat (a + 1048576).toNat : Int) < (Mor.mor 22 (c + 1048576).toNat (b + 1048576).toNat : Int))) == decide (a < b)) = true := by
  have := Mor.spr_lt_iff 22 (a + 1048576).toNat (b + 1048576).toNat (by omega) (by omega)
  rw [beq_iff_eq, decide_eq_decide]
  unfold Mor.mor
  generalize Mor.spr 22 (a + 1048576).toNat = p at *
  generalize Mor.spr 22 (b + 1048576).toNat = q at *
  omega

theorem tmod_in (a : Int) : -1048576 ≤ Int.tmod a 1048577 ∧ Int.tmod a 1048577 ≤ 1048576 := by
  have h1 := Int.tmod_lt_of_pos a (show (0 : Int) < 1048577 by decide)
  have h2 := Int.lt_tmod_of_pos a (show (0 : Int) < 1048577 by decide)
  omega

theorem PtOrders : terrierlaw9_PtOrders.Pure := by
  intro a0 a1 a2 _ _ _
  refine ⟨23, ?_⟩
  unfold terrierlaw9_PtOrders.f
  obtain ⟨p1, p2⟩ := tmod_in a0
  obtain ⟨q1, q2⟩ := tmod_in a1
  obtain ⟨r1, r2⟩ := tmod_in a2
  generalize Int.tmod a0 1048577 = a at *
  generalize Int.tmod a1 1048577 = b at *
  generalize Int.tmod a2 1048577 = c at *
  simp only [terrierlaw9_P.f, Option.bind_some]
  rw [morton a c p1 p2 r1 r2 23 (by decide), morton b c q1 q2 r1 r2 23 (by decide), morton c a r1 r2 p1 p2 23 (by decide), morton c b r1 r2 q1 q2 23 (by decide)]
  simp only [Option.bind_some]
  rw [if_pos (less_x a b c p1 p2 q1 q2), if_pos (less_y a b c p1 p2 q1 q2), awake]
  rfl

end Go.Proofs.Ytabblkckapdpoaa.Pure
