/- Proved: numbers below 128 have one byte, each seven bits more one byte more, and no two numbers have the same bytes, in the printed functions; for any two numbers. -/
import Derived.Test.YtgjgandkcmjbnaaPureB
import Derived.Test.YtgjgandkcmjbnaaWalkPackOrders
import Derived.Lib.Bytes
namespace Go.Proofs.Ytgjgandkcmjbnaa.Pure
open Go.RowKit Go.Proofs.Ytgjgandkcmjbnaa.PB Go.Proofs.YtgjgandkcmjbnaaW.PrintWords Go.Proofs.YtgjgandkcmjbnaaW.PrintLast

theorem bytesOf_inj : ∀ l m : List Int, Bytes l → Bytes m → Lib.bytesOf l = Lib.bytesOf m → l = m := by
  intro l
  induction l with
  | nil =>
    intro m _ _ h
    cases m with
    | nil => rfl
    | cons b m => simp [Lib.bytesOf] at h
  | cons a l ih =>
    intro m hl hm h
    cases m with
    | nil => simp [Lib.bytesOf] at h
    | cons b m =>
      simp only [Lib.bytesOf, List.map_cons, List.cons.injEq] at h
      have ha := hl a (by simp)
      have hb := hm b (by simp)
      have h1 := congrArg UInt8.toNat h.1
      simp only [UInt8.toNat_ofNat'] at h1
      have e : a = b := by omega
      rw [e, ih m (fun x hx => hl x (by simp [hx])) (fun x hx => hm x (by simp [hx])) h.2]

theorem loop (a b : Nat) (ha : a < 18446744073709551616) (hb : b < 18446744073709551616) (d : Nat) : ∀ (k n y : Nat), y < 128 ^ d → n + (uv y).length = (uv a).length + 1 → n ≤ 20 → 256 + d + 1 ≤ k →
    terrierlaw1_PackOrders.l0 k (a : Int) (b : Int) (n : Int) (y : Int) = some true := by
  induction d with
  | zero =>
    intro k n y hy hn hn2 hk
    obtain ⟨k, rfl⟩ : ∃ j, k = j + 1 := ⟨k - 1, by omega⟩
    simp at hy
    subst hy
    rw [uv_small 0 (by omega)] at hn
    simp only [terrierlaw1_PackOrders.l0]
    rw [if_neg (by omega), uvar_eq a ha k (by omega), uvar_eq b hb k (by omega)]
    simp only [Option.bind_some]
    rw [if_pos (by simp at hn; omega), awake_eq k (by omega)]
    rw [if_pos]
    · rfl
    · rw [Lib.strOfNums_toList, Lib.strOfNums_toList, beq_iff_eq]
      by_cases h : a = b
      · subst h; simp
      · have h1 : ((a : Int) == (b : Int)) = false := by rw [beq_eq_false_iff_ne]; omega
        rw [h1, beq_eq_false_iff_ne]
        intro h2
        exact h (uv_inj a b (bytesOf_inj _ _ (uv_bytes a) (uv_bytes b) h2))
  | succ d ih =>
    intro k n y hy hn hn2 hk
    obtain ⟨k, rfl⟩ : ∃ j, k = j + 1 := ⟨k - 1, by omega⟩
    simp only [terrierlaw1_PackOrders.l0]
    by_cases hbig : 128 ≤ y
    · rw [if_pos (by omega)]
      have e1 : wrap64 ((n : Int) + 1) = ((n + 1 : Nat) : Int) := by unfold wrap64; omega
      have e2 : (y : Int) / 128 = ((y / 128 : Nat) : Int) := by omega
      have hl := uv_len10 a ha
      have hp := uv_pos (y / 128)
      rw [uv_big y hbig] at hn
      simp only [List.length_cons] at hn
      rw [e1, e2, ih k (n + 1) (y / 128) (by rw [Nat.pow_succ] at hy; omega) (by omega) (by omega) (by omega)]
    · rw [uv_small y (by omega)] at hn
      rw [if_neg (by omega), uvar_eq a ha k (by omega), uvar_eq b hb k (by omega)]
      simp only [Option.bind_some]
      rw [if_pos (by simp at hn; omega), awake_eq k (by omega)]
      rw [if_pos]
      · rfl
      · rw [Lib.strOfNums_toList, Lib.strOfNums_toList, beq_iff_eq]
        by_cases h : a = b
        · subst h; simp
        · have h1 : ((a : Int) == (b : Int)) = false := by rw [beq_eq_false_iff_ne]; omega
          rw [h1, beq_eq_false_iff_ne]
          intro h2
          exact h (uv_inj a b (bytesOf_inj _ _ (uv_bytes a) (uv_bytes b) h2))

theorem PackOrders : terrierlaw1_PackOrders.Pure := by
  intro a0 a1 h0 h1
  obtain ⟨a, rfl, ha⟩ := u64_bd h0
  obtain ⟨b, rfl, hb⟩ := u64_bd h1
  exact ⟨300, loop a b ha hb 10 300 1 a (by omega) (by omega) (by omega) (by omega)⟩
end Go.Proofs.Ytgjgandkcmjbnaa.Pure
