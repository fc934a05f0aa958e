/- Proved: numbers one behind the other are read one by one, each where the one ahead of it ends, and a text that is cut short is told, in the printed functions; for any numbers and any place of the cut. -/
import Derived.Test.YtgjgandkcmjbnaaPureV
import Derived.Test.YtgjgandkcmjbnaaWalkPackMany
namespace Go.Proofs.Ytgjgandkcmjbnaa.Pure
open Go.RowKit Go.Proofs.Ytgjgandkcmjbnaa.PB Go.Proofs.YtgjgandkcmjbnaaW.PrintWords Go.Proofs.YtgjgandkcmjbnaaW.PrintLast

def W64 (l : List Int) : Prop := ∀ x ∈ l, -9223372036854775808 ≤ x ∧ x ≤ 9223372036854775807
/-- The bytes of the first i numbers. -/
def enc (l : List Int) (i : Nat) : List Int := (l.take i).flatMap fun y => uv (zig y)
theorem enc_succ (l : List Int) (i : Nat) (hi : i < l.length) : enc l (i + 1) = enc l i ++ uv (zig l[i]) := by
  unfold enc
  rw [List.take_succ_eq_append_getElem hi, List.flatMap_append]
  simp
def ends (l : List Int) (i : Nat) : List Int := (List.range i).map fun j => ((enc l (j + 1)).length : Int)
theorem ends_succ (l : List Int) (i : Nat) : ends l (i + 1) = ends l i ++ [((enc l (i + 1)).length : Int)] := by
  unfold ends
  rw [List.range_succ, List.map_append]; rfl
theorem ends_rd (l : List Int) (n i : Nat) (h : i < n) : rd (ends l n) (i : Int) = ((enc l (i + 1)).length : Int) := by
  unfold rd ends
  rw [Int.toNat_natCast, List.getD_eq_getElem?_getD, List.getElem?_map, List.getElem?_range h]
  rfl
theorem enc_len {l : List Int} (hw : W64 l) (i : Nat) : i ≤ l.length → (enc l i).length ≤ 10 * i := by
  induction i with
  | zero => intro _; simp [enc]
  | succ i ih =>
    intro hi
    rw [enc_succ l i (by omega), List.length_append]
    have := ih (by omega)
    have hz := hw _ (List.getElem_mem (show i < l.length by omega))
    have := uv_len10 _ (zig_lt _ hz.1 hz.2)
    omega
theorem enc_prefix (l : List Int) (i j : Nat) (h : i ≤ j) : ∃ t, enc l j = enc l i ++ t := by
  unfold enc
  refine ⟨((l.take j).drop i).flatMap fun y => uv (zig y), ?_⟩
  rw [← List.flatMap_append]
  congr 1
  have := List.take_append_drop i (l.take j)
  rw [List.take_take, Nat.min_eq_left h] at this
  exact this.symm
theorem rd_at (l : List Int) (i : Nat) (h : i < l.length) : rd l (i : Int) = l[i] := by
  unfold rd
  rw [Int.toNat_natCast, List.getD_eq_getElem?_getD, List.getElem?_eq_getElem h, Option.getD_some]

theorem tail (l : List Int) (hw : W64 l) (hl : l.length ≤ 40) (K : Nat) (hK : K ≤ (enc l l.length).length) (d : Nat) : ∀ (k i : Nat), i + d = l.length → 256 + d + 1 ≤ k → (enc l i).length ≤ K →
    terrierlaw1_PackMany.l1 k l (enc l l.length) (ends l l.length) (K : Int) ((enc l i).length : Int) (i : Int) = some true := by
  induction d with
  | zero =>
    intro k i hi hk _
    obtain ⟨k, rfl⟩ : ∃ j, k = j + 1 := ⟨k - 1, by omega⟩
    obtain rfl : i = l.length := by omega
    rw [terrierlaw1_PackMany.l1, if_neg (by omega), if_pos rfl, awake_eq k (by omega)]
    rfl
  | succ d ih =>
    intro k i hi hk hat
    obtain ⟨k, rfl⟩ : ∃ j, k = j + 1 := ⟨k - 1, by omega⟩
    have hlt : i < l.length := by omega
    have hi' : i + 1 + d = l.length := by omega
    have hk' : 256 + d + 1 ≤ k := by omega
    have hz := hw _ (List.getElem_mem hlt)
    have hz64 := zig_lt _ hz.1 hz.2
    obtain ⟨t, ht⟩ := enc_prefix l (i + 1) l.length (by omega)
    have hes := enc_succ l i hlt
    have htot := enc_len hw l.length (Nat.le_refl _)
    rw [terrierlaw1_PackMany.l1, if_pos (by omega), if_pos (by omega), if_pos (by omega), if_pos (by omega), Int.toNat_natCast, Int.toNat_natCast]
    have hdrop : (enc l l.length).drop (enc l i).length = uv (zig l[i]) ++ t := by
      rw [ht, hes, List.append_assoc, List.drop_append_of_le_length (Nat.le_refl _)]; simp
    have hsl : ((enc l l.length).take K).drop (enc l i).length = (uv (zig l[i]) ++ t).take (K - (enc l i).length) := by
      rw [List.drop_take, hdrop]
    rw [hsl, intOf_eq _ k (by omega)]
    simp only [Option.bind_some]
    have hel : ((ends l l.length).length : Int) = l.length := by simp [ends]
    rw [if_pos (by omega), hel, if_pos (by omega), ends_rd l l.length i hlt, rd_at l i hlt]
    have hlen : (enc l (i + 1)).length = (enc l i).length + (uv (zig l[i])).length := by rw [hes, List.length_append]
    by_cases hcut : (enc l (i + 1)).length > K
    · rw [if_pos (by omega), List.take_append_of_le_length (by omega), read_cut _ hz64 _ (by omega)]
      have h4 : iof (0, 0, 4) = (0, 0, 4) := rfl
      rw [h4]
      simp only [if_true]
      rw [awake_eq k (by omega)]
      rfl
    · have htk : (uv (zig l[i]) ++ t).take (K - (enc l i).length) = uv (zig l[i]) ++ t.take (K - (enc l i).length - (uv (zig l[i])).length) := by
        rw [List.take_append, List.take_of_length_le (by omega)]
      rw [if_neg (by omega), htk, read_uv _ hz64]
      have h4 : iof (((zig l[i] : Nat) : Int), ((uv (zig l[i])).length : Int), 0) = (l[i], ((uv (zig l[i])).length : Int), 0) := by
        unfold iof
        simp only [if_true]
        rw [zag_zig]
      rw [h4]
      simp only [if_true]
      have e1 : wrap64 (((enc l i).length : Int) + ((uv (zig l[i])).length : Int)) = ((enc l (i + 1)).length : Int) := by
        rw [hlen]; unfold wrap64; omega
      have e2 : wrap64 ((i : Int) + 1) = ((i + 1 : Nat) : Int) := by unfold wrap64; omega
      rw [e1, if_pos rfl, e2]
      exact ih k (i + 1) hi' hk' (Nat.le_of_not_gt hcut)

theorem build (l : List Int) (hw : W64 l) (hl : l.length ≤ 40) (a : Int) (d : Nat) : ∀ (k i : Nat), i + d = l.length → 400 + d + 1 ≤ k →
    terrierlaw1_PackMany.l0 k l a (enc l i) (ends l i) (i : Int) = some true := by
  induction d with
  | zero =>
    intro k i hi hk
    obtain ⟨k, rfl⟩ : ∃ j, k = j + 1 := ⟨k - 1, by omega⟩
    obtain rfl : i = l.length := by omega
    have htot := enc_len hw l.length (Nat.le_refl _)
    rw [terrierlaw1_PackMany.l0, if_neg (by omega)]
    have e1 : wrap64 (((enc l l.length).length : Int) + 1) = ((enc l l.length).length : Int) + 1 := by unfold wrap64; omega
    rw [e1, if_neg (by omega)]
    have h1 := Int.tmod_lt_of_pos a (show (0 : Int) < ((enc l l.length).length : Int) + 1 by omega)
    have h2 := Int.lt_tmod_of_pos a (show (0 : Int) < ((enc l l.length).length : Int) + 1 by omega)
    generalize Int.tmod a (((enc l l.length).length : Int) + 1) = m at *
    have e2 : wrap64 (m + ((enc l l.length).length : Int)) = m + ((enc l l.length).length : Int) := by unfold wrap64; omega
    have e3 : wrap64 (m + ((enc l l.length).length : Int) + 1) = m + ((enc l l.length).length : Int) + 1 := by unfold wrap64; omega
    rw [e2, e3, Int.tmod_eq_emod_of_nonneg (by omega)]
    have h3 := Int.emod_nonneg (m + ((enc l l.length).length : Int) + 1) (show ((enc l l.length).length : Int) + 1 ≠ 0 by omega)
    have h4 := Int.emod_lt_of_pos (m + ((enc l l.length).length : Int) + 1) (show 0 < ((enc l l.length).length : Int) + 1 by omega)
    obtain ⟨K, hK⟩ := Int.eq_ofNat_of_zero_le h3
    rw [hK] at h4 ⊢
    have := tail l hw hl K (by omega) l.length k 0 (by omega) (by omega) (by simp [enc])
    simpa [enc] using this
  | succ d ih =>
    intro k i hi hk
    obtain ⟨k, rfl⟩ : ∃ j, k = j + 1 := ⟨k - 1, by omega⟩
    have hlt : i < l.length := by omega
    have hz := hw _ (List.getElem_mem hlt)
    have hle := enc_len hw i (by omega)
    have hz10 := uv_len10 _ (zig_lt _ hz.1 hz.2)
    rw [terrierlaw1_PackMany.l0, if_pos (by omega), if_pos (by omega), rd_at l i hlt, int_eq _ hz.1 hz.2 k (by omega)]
    simp only [Option.bind_some]
    rw [if_pos (by omega), if_pos (by simp [ends]; omega)]
    have e2 : wrap64 ((i : Int) + 1) = ((i + 1 : Nat) : Int) := by unfold wrap64; omega
    rw [e2, ← enc_succ l i hlt, ← ends_succ]
    exact ih k (i + 1) (by omega) (by omega)

theorem PackMany : terrierlaw1_PackMany.Pure := by
  intro l a _ _ w _
  refine ⟨1000, ?_⟩
  unfold terrierlaw1_PackMany.f
  by_cases h : (l.length : Int) > 40
  · rw [if_pos h, awake_eq 1000 (by omega)]; rfl
  · rw [if_neg h]
    have := build l (fun x hx => i64_bd (w x hx)) (by omega) a l.length 1000 0 (by omega) (by omega)
    simpa [enc, ends] using this
end Go.Proofs.Ytgjgandkcmjbnaa.Pure
