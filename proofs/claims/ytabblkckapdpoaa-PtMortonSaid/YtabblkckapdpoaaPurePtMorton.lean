/- Proved: a point is the number that the reference says and is found again from it, and any number is a point's or none's, in the printed functions; for any point and number. -/
import Derived.Test.YtabblkckapdpoaaEqPtMorton
import Derived.Test.YtabblkckapdpoaaMorton2
namespace Go.Proofs.Ytabblkckapdpoaa.PPtMorton
open Go.RowKit Go.Proofs.YtabblkckapdpoaaW.PrintWords Go.Proofs.YtabblkckapdpoaaW.PrintLast Go.Proofs.YtabblkckapdpoaaW.PrintMore
open Geo
theorem clean_eq (x y : Int) : terrierref9_Clean.f x y = some (nr x, nr y) := rfl
def fm (M X Y : Nat) : Int × Int × Bool := if M < 17592186044416 ∧ X ≤ 2097152 ∧ Y ≤ 2097152 then ((X : Int) - 1048576, (Y : Int) - 1048576, true) else (0, 0, false)
theorem ok_eq (x y : Int) : pt_Ok.f x y = some (decide (-1048576 ≤ x ∧ x ≤ 1048576 ∧ -1048576 ≤ y ∧ y ≤ 1048576)) := by
  unfold pt_Ok.f
  by_cases h1 : -1048576 ≤ x
  · rw [if_pos h1]
    by_cases h2 : x ≤ 1048576
    · rw [if_pos h2]
      by_cases h3 : -1048576 ≤ y
      · rw [if_pos h3]; simp [h1, h2, h3]
      · rw [if_neg h3]; simp [h3]
    · rw [if_neg h2]; simp [h2]
  · rw [if_neg h1]; simp [h1]
theorem rok_eq (x y : Int) : terrierref9_Ok.f x y = some (decide (-1048576 ≤ x ∧ x ≤ 1048576 ∧ -1048576 ≤ y ∧ y ≤ 1048576)) := ok_eq x y

theorem from_l0 (M : Nat) (hM : M < 18446744073709551616) (n : Nat) : ∀ (k i x y : Nat), i + n = 22 → n < k → x < 2 ^ i → y < 2 ^ i →
    pt_FromMorton.l0 k (M : Int) (x : Int) (y : Int) (i : Int) = some (fm M (x + 2 ^ i * Mor.unx n (M / 2 ^ (2 * i + 0))) (y + 2 ^ i * Mor.unx n (M / 2 ^ (2 * i + 1)))) := by
  induction n with
  | zero =>
    intro k i x y hi hk hx hy
    obtain ⟨k, rfl⟩ : ∃ j, k = j + 1 := ⟨k - 1, by omega⟩
    obtain rfl : i = 22 := by omega
    simp only [pt_FromMorton.l0]
    rw [if_neg (by omega), ok_eq]
    have e1 : wrap64 ((x : Int) - 1048576) = (x : Int) - 1048576 := by unfold wrap64; omega
    have e2 : wrap64 ((y : Int) - 1048576) = (y : Int) - 1048576 := by unfold wrap64; omega
    rw [e1, e2]
    simp only [Option.bind_some, Mor.unx, Nat.mul_zero, Nat.add_zero]
    unfold fm
    by_cases h : M < 17592186044416
    · rw [if_neg (by omega)]
      by_cases h2 : x ≤ 2097152 ∧ y ≤ 2097152
      · rw [if_pos (by simp; omega), if_pos ⟨h, h2⟩]
      · rw [if_neg (by simp; omega), if_neg (by omega)]
    · rw [if_pos (by omega), if_neg (by omega)]
  | succ n ih =>
    intro k i x y hi hk hx hy
    obtain ⟨k, rfl⟩ : ∃ j, k = j + 1 := ⟨k - 1, by omega⟩
    simp only [pt_FromMorton.l0]
    rw [if_pos (by omega), if_pos (by unfold wrap64; omega), if_pos (by omega), if_pos (by unfold wrap64; omega)]
    rw [Mor.back M x i 0 hM (by omega) (by omega) hx _ (by unfold wrap64; omega), Mor.back M y i 1 hM (by omega) (by omega) hy _ (by unfold wrap64; omega)]
    have e : wrap64 ((i : Int) + 1) = ((i + 1 : Nat) : Int) := by unfold wrap64; omega
    rw [e, ih k (i + 1) _ _ (by omega) (by omega) (Mor.back_lt x _ i hx (Nat.mod_lt _ (by omega))) (Mor.back_lt y _ i hy (Nat.mod_lt _ (by omega))), ← Mor.back_unroll, ← Mor.back_unroll]

theorem from_eq (M : Nat) (hM : M < 18446744073709551616) : pt_FromMorton.f 23 (M : Int) = some (fm M (Mor.unx 22 M) (Mor.unx 22 (M / 2))) := by
  have := from_l0 M hM 22 23 0 0 0 (by omega) (by omega) (by omega) (by omega)
  simpa [pt_FromMorton.f] using this

theorem rfrom_l0 (M : Nat) (hM : M < 18446744073709551616) (n : Nat) : ∀ (k i x y : Nat), i + n = 22 → n < k → x < 2 ^ i → y < 2 ^ i →
    terrierref9_FromMorton.l0 k (M : Int) (x : Int) (y : Int) (i : Int) = some (fm M (x + 2 ^ i * Mor.unx n (M / 2 ^ (2 * i + 0))) (y + 2 ^ i * Mor.unx n (M / 2 ^ (2 * i + 1)))) := by
  induction n with
  | zero =>
    intro k i x y hi hk hx hy
    obtain ⟨k, rfl⟩ : ∃ j, k = j + 1 := ⟨k - 1, by omega⟩
    obtain rfl : i = 22 := by omega
    simp only [terrierref9_FromMorton.l0]
    rw [if_neg (by omega), rok_eq]
    have e1 : wrap64 ((x : Int) - 1048576) = (x : Int) - 1048576 := by unfold wrap64; omega
    have e2 : wrap64 ((y : Int) - 1048576) = (y : Int) - 1048576 := by unfold wrap64; omega
    rw [e1, e2]
    simp only [Option.bind_some, Mor.unx, Nat.mul_zero, Nat.add_zero]
    unfold fm
    by_cases h : M < 17592186044416
    · rw [if_pos (by omega)]
      by_cases h2 : x ≤ 2097152 ∧ y ≤ 2097152
      · rw [if_pos (by simp; omega), if_pos ⟨h, h2⟩]
      · rw [if_neg (by simp; omega), if_neg (by omega)]
    · rw [if_neg (by omega), if_neg (by omega)]
  | succ n ih =>
    intro k i x y hi hk hx hy
    obtain ⟨k, rfl⟩ : ∃ j, k = j + 1 := ⟨k - 1, by omega⟩
    simp only [terrierref9_FromMorton.l0]
    rw [if_pos (by omega), if_pos (by unfold wrap64; omega), if_pos (by omega), if_pos (by unfold wrap64; omega)]
    rw [Mor.back M x i 0 hM (by omega) (by omega) hx _ (by unfold wrap64; omega), Mor.back M y i 1 hM (by omega) (by omega) hy _ (by unfold wrap64; omega)]
    have e : wrap64 ((i : Int) + 1) = ((i + 1 : Nat) : Int) := by unfold wrap64; omega
    rw [e, ih k (i + 1) _ _ (by omega) (by omega) (Mor.back_lt x _ i hx (Nat.mod_lt _ (by omega))) (Mor.back_lt y _ i hy (Nat.mod_lt _ (by omega))), ← Mor.back_unroll, ← Mor.back_unroll]

theorem rfrom_eq (M : Nat) (hM : M < 18446744073709551616) : terrierref9_FromMorton.f 23 (M : Int) = some (fm M (Mor.unx 22 M) (Mor.unx 22 (M / 2))) := by
  have := rfrom_l0 M hM 22 23 0 0 0 (by omega) (by omega) (by omega) (by omega)
  simpa [terrierref9_FromMorton.f] using this

theorem mor_l0 (X Y : Nat) (hX : X < 18446744073709551616) (hY : Y < 18446744073709551616) (n : Nat) : ∀ (k i m : Nat), i + n = 22 → n < k → m < 4 ^ i →
    pt_Morton.l0 k (X : Int) (Y : Int) (m : Int) (i : Int) = some ((m + 4 ^ i * Mor.mor n (X / 2 ^ i) (Y / 2 ^ i) : Nat) : Int) := by
  induction n with
  | zero =>
    intro k i m hi hk hm
    obtain ⟨k, rfl⟩ : ∃ j, k = j + 1 := ⟨k - 1, by omega⟩
    simp only [pt_Morton.l0]
    rw [if_neg (by omega)]
    simp [Mor.mor, Mor.spr]
  | succ n ih =>
    intro k i m hi hk hm
    obtain ⟨k, rfl⟩ : ∃ j, k = j + 1 := ⟨k - 1, by omega⟩
    simp only [pt_Morton.l0]
    rw [if_pos (by omega), if_pos (by omega), if_pos (by unfold wrap64; omega), if_pos (by unfold wrap64; omega)]
    rw [Mor.round X Y m i hX hY (by omega) hm]
    have e : wrap64 ((i : Int) + 1) = ((i + 1 : Nat) : Int) := by unfold wrap64; omega
    rw [e, ih k (i + 1) _ (by omega) (by omega) (Mor.next_lt m _ _ i hm (Nat.mod_lt _ (by omega)) (Nat.mod_lt _ (by omega))), Mor.unroll]

theorem mor_eq (x y : Int) : pt_Morton.f 23 x y = some (Mor.mor 22 (nr x + 1048576).toNat (nr y + 1048576).toNat : Int) := by
  unfold pt_Morton.f
  rw [near_eq]
  simp only [Option.bind_some]
  have h1 := nr_bd x
  have h2 := nr_bd y
  have e1 : IntKind.u64.wrap (wrap64 (nr x + 1048576)) = (((nr x + 1048576).toNat : Nat) : Int) := by rw [IntKind.wrap_u64]; unfold wrap64; omega
  have e2 : IntKind.u64.wrap (wrap64 (nr y + 1048576)) = (((nr y + 1048576).toNat : Nat) : Int) := by rw [IntKind.wrap_u64]; unfold wrap64; omega
  rw [e1, e2]
  have := mor_l0 (nr x + 1048576).toNat (nr y + 1048576).toNat (by omega) (by omega) 22 23 0 0 (by omega) (by omega) (by simp)
  simpa using this

theorem rmor_l0 (X Y : Nat) (hX : X < 18446744073709551616) (hY : Y < 18446744073709551616) (n : Nat) : ∀ (k i m : Nat), i + n = 22 → n < k → m < 4 ^ i →
    terrierref9_Morton.l0 k (X : Int) (Y : Int) (m : Int) (i : Int) = some ((m + 4 ^ i * Mor.mor n (X / 2 ^ i) (Y / 2 ^ i) : Nat) : Int) := by
  induction n with
  | zero =>
    intro k i m hi hk hm
    obtain ⟨k, rfl⟩ : ∃ j, k = j + 1 := ⟨k - 1, by omega⟩
    simp only [terrierref9_Morton.l0]
    rw [if_neg (by omega)]
    simp [Mor.mor, Mor.spr]
  | succ n ih =>
    intro k i m hi hk hm
    obtain ⟨k, rfl⟩ : ∃ j, k = j + 1 := ⟨k - 1, by omega⟩
    simp only [terrierref9_Morton.l0]
    rw [if_pos (by omega), if_pos (by omega), if_pos (by unfold wrap64; omega), if_pos (by unfold wrap64; omega)]
    rw [Mor.round X Y m i hX hY (by omega) hm]
    have e : wrap64 ((i : Int) + 1) = ((i + 1 : Nat) : Int) := by unfold wrap64; omega
    rw [e, ih k (i + 1) _ (by omega) (by omega) (Mor.next_lt m _ _ i hm (Nat.mod_lt _ (by omega)) (Nat.mod_lt _ (by omega))), Mor.unroll]

theorem rmor_eq (x y : Int) : terrierref9_Morton.f 23 x y = some (Mor.mor 22 (nr x + 1048576).toNat (nr y + 1048576).toNat : Int) := by
  unfold terrierref9_Morton.f
  rw [clean_eq]
  simp only [Option.bind_some]
  have h1 := nr_bd x
  have h2 := nr_bd y
  have e1 : IntKind.u64.wrap (wrap64 (nr x + 1048576)) = (((nr x + 1048576).toNat : Nat) : Int) := by rw [IntKind.wrap_u64]; unfold wrap64; omega
  have e2 : IntKind.u64.wrap (wrap64 (nr y + 1048576)) = (((nr y + 1048576).toNat : Nat) : Int) := by rw [IntKind.wrap_u64]; unfold wrap64; omega
  rw [e1, e2]
  have := rmor_l0 (nr x + 1048576).toNat (nr y + 1048576).toNat (by omega) (by omega) 22 23 0 0 (by omega) (by omega) (by simp)
  simpa using this

theorem PtMorton (a0 a0b a1 : Int) (h0 : 0 ≤ a1) (h1 : a1 < 18446744073709551616) : ∃ k, terrierlaw9_PtMorton.f k a0 a0b a1 = some true := by
  refine ⟨23, ?_⟩
  obtain ⟨M, rfl⟩ := Int.eq_ofNat_of_zero_le h0
  have hM : M < 18446744073709551616 := by omega
  unfold terrierlaw9_PtMorton.f
  have hx := nr_bd a0
  have hy := nr_bd a0b
  rw [mor_eq, rmor_eq]
  have hl := Mor.mor_lt 22 (nr a0 + 1048576).toNat (nr a0b + 1048576).toNat
  have hl' : Mor.mor 22 (nr a0 + 1048576).toNat (nr a0b + 1048576).toNat < 17592186044416 := hl
  have ex := Mor.unx_mor 22 (nr a0 + 1048576).toNat (nr a0b + 1048576).toNat (by omega)
  have ey := Mor.uny_mor 22 (nr a0 + 1048576).toNat (nr a0b + 1048576).toNat (by omega)
  generalize Mor.mor 22 (nr a0 + 1048576).toNat (nr a0b + 1048576).toNat = A at *
  simp only [Option.bind_some]
  rw [from_eq A (by omega), from_eq M hM, rfrom_eq M hM, clean_eq, ex, ey, awake_eq]
  have e1 : fm A (nr a0 + 1048576).toNat (nr a0b + 1048576).toNat = (nr a0, nr a0b, true) := by
    unfold fm
    rw [if_pos ⟨hl', by omega, by omega⟩]
    have e2 : (((nr a0 + 1048576).toNat : Nat) : Int) - 1048576 = nr a0 := by omega
    have e3 : (((nr a0b + 1048576).toNat : Nat) : Int) - 1048576 = nr a0b := by omega
    rw [e2, e3]
  rw [e1]
  simp only [Option.bind_some, if_true, BEq.rfl, Bool.and_self]
  by_cases h : M < 17592186044416 ∧ Mor.unx 22 M ≤ 2097152 ∧ Mor.unx 22 (M / 2) ≤ 2097152
  · have e4 : fm M (Mor.unx 22 M) (Mor.unx 22 (M / 2)) = ((Mor.unx 22 M : Int) - 1048576, (Mor.unx 22 (M / 2) : Int) - 1048576, true) := by unfold fm; rw [if_pos h]
    rw [e4]
    simp only [if_true]
    rw [mor_eq, nr_in _ (by omega) (by omega), nr_in _ (by omega) (by omega)]
    have e5 : ((Mor.unx 22 M : Int) - 1048576 + 1048576).toNat = Mor.unx 22 M := by omega
    have e6 : ((Mor.unx 22 (M / 2) : Int) - 1048576 + 1048576).toNat = Mor.unx 22 (M / 2) := by omega
    rw [e5, e6, Mor.mor_unx 22 M (by have := h.1; omega)]
    simp
  · have e4 : fm M (Mor.unx 22 M) (Mor.unx 22 (M / 2)) = (0, 0, false) := by unfold fm; rw [if_neg h]
    rw [e4]
    simp
theorem u64_bd (a : Int) (h : (Lit.int .u64 a).wf = true) : 0 ≤ a ∧ a < 18446744073709551616 := by
  simp only [Lit.wf, IntKind.min, IntKind.max, IntKind.signed, IntKind.bits, Bool.and_eq_true] at h
  simp at h
  omega
theorem PtMorton_w (a0 a0b a1 : Int) (h : (Lit.int .u64 a1).wf = true) : ∃ k, terrierlaw9_PtMorton.f k a0 a0b a1 = some true :=
  PtMorton a0 a0b a1 (u64_bd a1 h).1 (u64_bd a1 h).2
end Go.Proofs.Ytabblkckapdpoaa.PPtMorton
