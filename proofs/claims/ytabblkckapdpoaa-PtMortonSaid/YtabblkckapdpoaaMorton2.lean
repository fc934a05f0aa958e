/- Proved: plain facts on bits taken apart by turns, the way back from Morton's numbers; no condition. -/
import Derived.Test.YtabblkckapdpoaaMorton
namespace Go.Proofs.Ytabblkckapdpoaa.Mor
open Go.RowKit Go.Proofs.YtabblkckapdpoaaW.PrintWords Go.Proofs.YtabblkckapdpoaaW.PrintLast Go.Proofs.YtabblkckapdpoaaW.PrintMore

/-- Every second bit. -/
def unx : Nat → Nat → Nat
  | 0, _ => 0
  | n + 1, m => m % 2 + 2 * unx n (m / 4)

theorem unx_lt (n m : Nat) : unx n m < 2 ^ n := by
  induction n generalizing m with
  | zero => simp [unx]
  | succ n ih => have := ih (m / 4); simp only [unx, Nat.pow_succ]; omega

theorem unx_mor (n x y : Nat) (hx : x < 2 ^ n) : unx n (mor n x y) = x := by
  induction n generalizing x y with
  | zero => simp [unx]; simp at hx; omega
  | succ n ih =>
    simp only [unx]
    rw [mor_succ]
    have e : (x % 2 + 2 * (y % 2) + 4 * mor n (x / 2) (y / 2)) / 4 = mor n (x / 2) (y / 2) := by omega
    rw [e, ih _ _ (by rw [Nat.pow_succ] at hx; omega)]
    omega
theorem uny_mor (n x y : Nat) (hy : y < 2 ^ n) : unx n (mor n x y / 2) = y := by
  induction n generalizing x y with
  | zero => simp [unx]; simp at hy; omega
  | succ n ih =>
    simp only [unx]
    rw [mor_succ]
    have e : (x % 2 + 2 * (y % 2) + 4 * mor n (x / 2) (y / 2)) / 2 / 4 = mor n (x / 2) (y / 2) / 2 := by omega
    rw [e, ih _ _ (by rw [Nat.pow_succ] at hy; omega)]
    omega
theorem mor_unx (n m : Nat) (hm : m < 4 ^ n) : mor n (unx n m) (unx n (m / 2)) = m := by
  induction n generalizing m with
  | zero => simp [mor, spr]; simp at hm; omega
  | succ n ih =>
    rw [mor_succ]
    simp only [unx]
    have e1 : (m % 2 + 2 * unx n (m / 4)) / 2 = unx n (m / 4) := by omega
    have e2 : (m / 2 % 2 + 2 * unx n (m / 2 / 4)) / 2 = unx n (m / 2 / 4) := by omega
    have e3 : m / 2 / 4 = m / 4 / 2 := by omega
    rw [e1, e2, e3, ih (m / 4) (by rw [Nat.pow_succ] at hm; omega)]
    omega

theorem wraps_i64 (n : Int) (h₀ : 0 ≤ n) (h₁ : n < 2 ^ 63) : IntKind.i64.wrap n = n := by rw [IntKind.wrap_i64]; omega

theorem shl_bit64 (b j : Nat) (hb : b < 2) (hj : j < 63) : shl .i64 (b : Int) (j : Int) = ((b * 2 ^ j : Nat) : Int) := by
  unfold shl
  have : min (j : Int).toNat IntKind.i64.bits = j := by simp [IntKind.bits]; omega
  rw [this]
  have h1 : (2 : Nat) ^ j ≤ 2 ^ 62 := Nat.pow_le_pow_right (by omega) (by omega)
  have h2 : b * 2 ^ j ≤ 1 * 2 ^ 62 := Nat.mul_le_mul (by omega) h1
  have e : (b : Int) * 2 ^ j = ((b * 2 ^ j : Nat) : Int) := by norm_cast
  rw [e, wraps_i64 _ (by omega) (by omega)]

theorem or_bit64 (m b j : Nat) (hm : m < 2 ^ j) (hb : b < 2) (hj : j < 62) : Go.bits .or .i64 (m : Int) ((b * 2 ^ j : Nat) : Int) = ((m + b * 2 ^ j : Nat) : Int) := by
  have h1 : (2 : Nat) ^ j ≤ 2 ^ 61 := Nat.pow_le_pow_right (by omega) (by omega)
  have h2 : b * 2 ^ j ≤ 1 * 2 ^ 61 := Nat.mul_le_mul (by omega) h1
  rw [(bits_nat .i64 63 (by decide) wraps_i64 m (b * 2 ^ j) (by omega) (by omega)).2, Nat.or_comm, nat_join j _ _ (Nat.mul_mod_left _ _) hm, Nat.add_comm]

/-- One round of the way back: of the bits of M (from bit c on, every second one) the i-th is laid behind x. -/
theorem back (M x i c : Nat) (hM : M < 18446744073709551616) (hi : i < 22) (hc : c < 2) (hx : x < 2 ^ i) (J : Int) (hJ : J = ((2 * i + c : Nat) : Int)) :
    Go.bits .or .i64 (x : Int) (shl .i64 (wrap64 (Go.bits .and .u64 (shr .u64 (M : Int) J) 1)) (i : Int)) = ((x + M / 2 ^ (2 * i + c) % 2 * 2 ^ i : Nat) : Int) := by
  subst hJ
  rw [shr_bit M _ hM (by omega)]
  have hb : M / 2 ^ (2 * i + c) % 2 < 2 := Nat.mod_lt _ (by omega)
  generalize M / 2 ^ (2 * i + c) % 2 = b at *
  have e : wrap64 (b : Int) = (b : Int) := by unfold wrap64; omega
  rw [e, shl_bit64 b i hb (by omega), or_bit64 x b i hx hb (by omega)]

theorem back_lt (x b i : Nat) (hx : x < 2 ^ i) (hb : b < 2) : x + b * 2 ^ i < 2 ^ (i + 1) := by
  have : b * 2 ^ i ≤ 1 * 2 ^ i := Nat.mul_le_mul (by omega) (Nat.le_refl _)
  rw [Nat.pow_succ]; omega

theorem back_unroll (M x i n c : Nat) : x + 2 ^ i * unx (n + 1) (M / 2 ^ (2 * i + c)) = (x + M / 2 ^ (2 * i + c) % 2 * 2 ^ i) + 2 ^ (i + 1) * unx n (M / 2 ^ (2 * (i + 1) + c)) := by
  have e : M / 2 ^ (2 * i + c) / 4 = M / 2 ^ (2 * (i + 1) + c) := by
    rw [Nat.div_div_eq_div_mul, show (4 : Nat) = 2 ^ 2 from rfl, ← Nat.pow_add]
    congr 2; omega
  simp only [unx]
  rw [e, Nat.mul_add, ← Nat.mul_assoc, ← Nat.pow_succ, Nat.mul_comm (2 ^ i), Nat.add_assoc]
end Go.Proofs.Ytabblkckapdpoaa.Mor
