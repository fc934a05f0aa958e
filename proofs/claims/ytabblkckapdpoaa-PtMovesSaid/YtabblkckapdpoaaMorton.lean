/- Proved: plain facts on bits laid by turns, which the laws on Morton's numbers use; no condition. -/
import Derived.Laws.BitsAllLaws
import Derived.Test.YtabblkckapdpoaaWMore
/-! The plain law of Morton's numbers: bits by turns, over natural numbers. No program in sight. -/
namespace Go.Proofs.Ytabblkckapdpoaa.Mor
open Go.RowKit Go.Proofs.YtabblkckapdpoaaW.PrintWords Go.Proofs.YtabblkckapdpoaaW.PrintLast Go.Proofs.YtabblkckapdpoaaW.PrintMore

def spr : Nat → Nat → Nat
  | 0, _ => 0
  | n + 1, x => x % 2 + 4 * spr n (x / 2)

theorem spr_lt (n x : Nat) : 3 * spr n x < 4 ^ n := by
  induction n generalizing x with
  | zero => simp [spr]
  | succ n ih =>
    have := ih (x / 2)
    have h2 : x % 2 < 2 := Nat.mod_lt _ (by omega)
    simp only [spr, Nat.pow_succ]
    omega

theorem spr_mono (n x y : Nat) (hy : y < 2 ^ n) (h : x < y) : spr n x < spr n y := by
  induction n generalizing x y with
  | zero => simp at hy; omega
  | succ n ih =>
    simp only [spr]
    by_cases e : x / 2 = y / 2
    · rw [e]; omega
    · have := ih (x / 2) (y / 2) (by rw [Nat.pow_succ] at hy; omega) (by omega)
      omega

theorem spr_lt_iff (n x y : Nat) (hx : x < 2 ^ n) (hy : y < 2 ^ n) : spr n x < spr n y ↔ x < y := by
  constructor
  · intro h
    rcases Nat.lt_trichotomy x y with h1 | h1 | h1
    · exact h1
    · subst h1; omega
    · have := spr_mono n y x hx h1; omega
  · exact spr_mono n x y hy

def mor (n x y : Nat) : Nat := spr n x + 2 * spr n y
theorem mor_lt (n x y : Nat) : mor n x y < 4 ^ n := by
  have := spr_lt n x; have := spr_lt n y; unfold mor; omega
theorem mor_succ (n x y : Nat) : mor (n + 1) x y = x % 2 + 2 * (y % 2) + 4 * mor n (x / 2) (y / 2) := by
  simp only [mor, spr]; omega

theorem shr_bit (X i : Nat) (hX : X < 18446744073709551616) (hi : i ≤ 64) : Go.bits .and .u64 (shr .u64 (X : Int) (i : Int)) 1 = ((X / 2 ^ i % 2 : Nat) : Int) := by
  have e : shr .u64 (X : Int) (i : Int) = ((X / 2 ^ i : Nat) : Int) := by
    unfold shr
    have : min (i : Int).toNat IntKind.u64.bits = i := by simp [IntKind.bits]; omega
    rw [this]; norm_cast
  have hb : X / 2 ^ i < 18446744073709551616 := Nat.lt_of_le_of_lt (Nat.div_le_self _ _) hX
  rw [e, show (1 : Int) = ((1 : Nat) : Int) from rfl, u64_and_nat _ _ hb (by decide), nat_mask1]

theorem shl_bit (b j : Nat) (hb : b < 2) (hj : j < 64) : shl .u64 (b : Int) (j : Int) = ((b * 2 ^ j : Nat) : Int) := by
  unfold shl
  have : min (j : Int).toNat IntKind.u64.bits = j := by simp [IntKind.bits]; omega
  rw [this, IntKind.wrap_u64]
  have h1 : (2 : Nat) ^ j ≤ 2 ^ 63 := Nat.pow_le_pow_right (by omega) (by omega)
  have h2 : b * 2 ^ j ≤ 1 * 2 ^ 63 := Nat.mul_le_mul (by omega) h1
  have h3 : b * 2 ^ j < 18446744073709551616 := by omega
  have e : (b : Int) * 2 ^ j = ((b * 2 ^ j : Nat) : Int) := by norm_cast
  rw [e]; omega

theorem or_bit (m b j : Nat) (hm : m < 2 ^ j) (hb : b < 2) (hj : j < 64) : Go.bits .or .u64 (m : Int) ((b * 2 ^ j : Nat) : Int) = ((m + b * 2 ^ j : Nat) : Int) := by
  have h1 : (2 : Nat) ^ j ≤ 2 ^ 63 := Nat.pow_le_pow_right (by omega) (by omega)
  have h2 : b * 2 ^ j ≤ 1 * 2 ^ 63 := Nat.mul_le_mul (by omega) h1
  rw [u64_or_nat _ _ (by omega) (by omega), Nat.or_comm, nat_join j _ _ (Nat.mul_mod_left _ _) hm, Nat.add_comm]

/-- One round: the two bits are laid behind m. -/
theorem round (X Y m i : Nat) (hX : X < 18446744073709551616) (hY : Y < 18446744073709551616) (hi : i < 22) (hm : m < 4 ^ i) :
    Go.bits .or .u64 (Go.bits .or .u64 (m : Int) (shl .u64 (Go.bits .and .u64 (shr .u64 (X : Int) (i : Int)) 1) (wrap64 (2 * (i : Int)))))
      (shl .u64 (Go.bits .and .u64 (shr .u64 (Y : Int) (i : Int)) 1) (wrap64 (wrap64 (2 * (i : Int)) + 1)))
      = ((m + 4 ^ i * (X / 2 ^ i % 2 + 2 * (Y / 2 ^ i % 2)) : Nat) : Int) := by
  have e1 : wrap64 (2 * (i : Int)) = ((2 * i : Nat) : Int) := by unfold wrap64; omega
  have e2 : wrap64 (((2 * i : Nat) : Int) + 1) = ((2 * i + 1 : Nat) : Int) := by unfold wrap64; omega
  have hp : (4 : Nat) ^ i = 2 ^ (2 * i) := by rw [Nat.pow_mul]
  have hb : X / 2 ^ i % 2 < 2 := Nat.mod_lt _ (by omega)
  have hc : Y / 2 ^ i % 2 < 2 := Nat.mod_lt _ (by omega)
  rw [e1, e2, shr_bit X i hX (by omega), shr_bit Y i hY (by omega), shl_bit _ _ hb (by omega), shl_bit _ _ hc (by omega)]
  have hm1 : m < 2 ^ (2 * i) := by rw [← hp]; exact hm
  generalize X / 2 ^ i % 2 = b at *
  generalize Y / 2 ^ i % 2 = c at *
  rw [or_bit m b _ hm1 hb (by omega)]
  have hm2 : m + b * 2 ^ (2 * i) < 2 ^ (2 * i + 1) := by
    have : b * 2 ^ (2 * i) ≤ 1 * 2 ^ (2 * i) := Nat.mul_le_mul (by omega) (Nat.le_refl _)
    rw [Nat.pow_succ]; omega
  rw [or_bit _ c _ hm2 hc (by omega)]
  congr 1
  rw [hp, Nat.pow_succ, Nat.mul_add, Nat.add_assoc]
  congr 1
  rw [Nat.mul_comm b]
  congr 1
  rw [← Nat.mul_assoc, Nat.mul_comm c, Nat.mul_assoc, Nat.mul_comm c]

theorem next_lt (m b c i : Nat) (hm : m < 4 ^ i) (hb : b < 2) (hc : c < 2) : m + 4 ^ i * (b + 2 * c) < 4 ^ (i + 1) := by
  have h1 : 4 ^ i * (b + 2 * c) ≤ 4 ^ i * 3 := Nat.mul_le_mul (Nat.le_refl _) (by omega)
  rw [Nat.pow_succ]; omega

theorem unroll (X Y i n m : Nat) : m + 4 ^ i * mor (n + 1) (X / 2 ^ i) (Y / 2 ^ i) = (m + 4 ^ i * (X / 2 ^ i % 2 + 2 * (Y / 2 ^ i % 2))) + 4 ^ (i + 1) * mor n (X / 2 ^ (i + 1)) (Y / 2 ^ (i + 1)) := by
  rw [mor_succ, Nat.div_div_eq_div_mul, Nat.div_div_eq_div_mul, ← Nat.pow_succ, Nat.mul_add, ← Nat.mul_assoc, ← Nat.pow_succ, Nat.add_assoc]
end Go.Proofs.Ytabblkckapdpoaa.Mor
