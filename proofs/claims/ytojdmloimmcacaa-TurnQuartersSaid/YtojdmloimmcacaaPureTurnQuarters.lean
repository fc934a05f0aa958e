/- Proved: TurnQuarters' plain law: directions that are all turned by a quarter stand round a point in the same order; for all numbers w and n; no condition. -/
import Derived.Test.YtojdmloimmcacaaTX
import Derived.Test.YtojdmloimmcacaaTuQuarters
namespace Go.Proofs.Ytojdmloimmcacaa.PTurnRounds
open Go.RowKit Go.Sort Go.Proofs.YtojdmloimmcacaaW.PrintWords Go.Proofs.YtojdmloimmcacaaW.PrintLast Go.Proofs.YtojdmloimmcacaaW.PrintMore
open TS
set_option linter.unusedVariables false
set_option linter.unusedSimpArgs false
theorem awake_q (k : Nat) : terrierlaw11_awake.f k = some true := by
  have hs : (sorted [(⟨0, 1⟩ : S36), ⟨1, 0⟩, ⟨-1, 0⟩]).toList = [1, 0, 2] := by
    have hp := cfl_pre [(⟨0, 1⟩ : S36), ⟨1, 0⟩, ⟨-1, 0⟩]
    refine TP.pair_uniq hp _ _ (TP.sorts_pair hp 3) ?_ ((TP.sorts_perm hp 3).trans (by decide))
    decide +kernel
  unfold terrierlaw11_awake.f turn_Sort.f
  rw [if_pos (by decide), hs]
  decide +kernel
theorem cmp_k (a b : S36) : ∀ d : Nat, turn_Cmp.f (20 + d) a.f0 a.f1 b.f0 b.f1 = some (cmpv a b)
  | 0 => cmpv_e a b
  | d + 1 => turn_Cmp.mono _ _ _ _ (20 + d) _ (cmp_k a b d)
theorem cmp_any (a b : S36) (k : Nat) (h : 20 ≤ k) : turn_Cmp.f k a.f0 a.f1 b.f0 b.f1 = some (cmpv a b) := by
  obtain ⟨d, rfl⟩ : ∃ d, k = 20 + d := ⟨k - 20, by omega⟩
  exact cmp_k a b d
/-- What Between tells of three directions. -/
def btw (a b d : S36) : Bool := if cmpv a d = 0 then false else if cmpv b d = 0 then false else if cmpv a b = 0 then true else nextp [a, d, b] 0 == 1
theorem between_e (a b d : S36) (ha : okd a = true) (hb : okd b = true) (hd : okd d = true) (k : Nat) (h : 30 ≤ k) : turn_Between.f k a.f0 a.f1 b.f0 b.f1 d.f0 d.f1 = some (btw a b d) := by
  obtain ⟨m, rfl⟩ : ∃ m, k = m + 1 := ⟨k - 1, by omega⟩
  unfold turn_Between.f btw
  simp only [okd_eq, ha, hb, hd, Option.bind_some, if_true, cmp_any _ _ (m + 1) (by omega), turn_Between.j0, cmp_any _ _ m (by omega), turn_Next.f]
  by_cases h1 : cmpv a d = 0
  · rw [if_pos h1, if_pos h1]
  · rw [if_neg h1, if_neg h1]
    by_cases h2 : cmpv b d = 0
    · rw [if_pos h2, if_pos (by rw [h2]; rfl)]
    · rw [if_neg h2, if_neg (by simpa using h2)]
      by_cases h3 : cmpv a b = 0
      · rw [if_pos h3, if_pos h3]
      · rw [if_neg h3, if_neg h3, if_pos (by simp)]
        rfl
theorem btw_rot (a b d : S36) (ha : okd a = true) (hb : okd b = true) (hd : okd d = true) : btw (rotd a) (rotd b) (rotd d) = btw a b d := by
  have hall : AllOk [a, d, b] := fun k h0 h1 => by
    have hk : k = 0 ∨ k = 1 ∨ k = 2 := by simp at h1; omega
    rcases hk with rfl | rfl | rfl
    · exact ha
    · exact hd
    · exact hb
  have hn : nextp [rotd a, rotd d, rotd b] 0 = nextp [a, d, b] 0 := nextp_rot [a, d, b] hall 0 (by omega) (by simp)
  unfold btw
  rw [hn]
  have e1 := cmpv_rot a d ha hd
  have e2 := cmpv_rot b d hb hd
  have e3 := cmpv_rot a b ha hb
  simp only [e1, e2, e3]
theorem half_ne (a : S36) (h : okd a = true) : hv ⟨-a.f0, -a.f1⟩ ≠ hv a := by
  rw [okd_iff] at h
  unfold hv
  dsimp only
  repeat' split
  all_goals omega
theorem okd_neg (a : S36) (h : okd a = true) : okd ⟨-a.f0, -a.f1⟩ = true := by
  rw [okd_iff] at h ⊢
  dsimp only
  omega
theorem w64m (n : Int) (h : -4194304 ≤ n) (h' : n ≤ 4194304) : wrap64 n = n := by unfold wrap64; omega
/-- What is known of both rows. -/
structure Both (n : Int) (xs ys : List S36) : Prop where
  e : ys = xs.map rotd
  len : (xs.length : Int) = n
  le : n ≤ 7
  ok : AllOk xs
theorem Both.ylen {n : Int} {xs ys : List S36} (B : Both n xs ys) : (ys.length : Int) = n := by rw [B.e, List.length_map]; exact B.len
theorem Both.y {n : Int} {xs ys : List S36} (B : Both n xs ys) (i : Int) (h0 : 0 ≤ i) (h1 : i < n) : rd_T36 ys i = rotd (rd_T36 xs i) := by
  rw [B.e]; exact rd_rot xs i h0 (by rw [B.len]; exact h1)
theorem q3_go {n : Int} {xs ys : List S36} (B : Both n xs ys) (x y : Int) (x0 : 0 ≤ x) (x1 : x < n) (y0 : 0 ≤ y) (y1 : y < n) (K : Nat) (h30 : 30 ≤ K) (hK : ∀ k, K ≤ k → tlQuarters.l2 k n xs ys x (y + 1) = some true) :
    ∀ (d : Nat) (z : Int) (k : Nat), 0 ≤ z → z + (d : Int) = n → K + d + 1 ≤ k → tlQuarters.l3 k n xs ys x y z = some true
  | 0, z, k, h0, hz, hk => by
    obtain ⟨m, rfl⟩ : ∃ m, k = m + 1 := ⟨k - 1, by omega⟩
    have hle := B.le
    simp only [tlQuarters.l3]
    rw [if_neg (by omega), w64m _ (by omega) (by omega)]
    exact hK m (by omega)
  | d + 1, z, k, h0, hz, hk => by
    obtain ⟨m, rfl⟩ : ∃ m, k = m + 1 := ⟨k - 1, by omega⟩
    have hle := B.le
    have z1 : z < n := by omega
    have ox := B.ok x x0 (by rw [B.len]; exact x1)
    have oy := B.ok y y0 (by rw [B.len]; exact y1)
    have oz := B.ok z h0 (by rw [B.len]; exact z1)
    simp only [tlQuarters.l3]
    rw [if_pos z1, if_pos x0, if_pos (by rw [B.len]; exact x1), if_pos y0, if_pos (by rw [B.len]; exact y1), if_pos h0, if_pos (by rw [B.len]; exact z1), between_e _ _ _ ox oy oz m (by omega), Option.bind_some,
      if_pos (by rw [B.ylen]; exact x1), if_pos (by rw [B.ylen]; exact y1), if_pos (by rw [B.ylen]; exact z1), B.y x x0 x1, B.y y y0 y1, B.y z h0 z1,
      between_e _ _ _ (by rw [okd_rot]; exact ox) (by rw [okd_rot]; exact oy) (by rw [okd_rot]; exact oz) m (by omega), Option.bind_some, btw_rot _ _ _ ox oy oz, if_neg (by simp), w64m _ (by omega) (by omega)]
    exact q3_go B x y x0 x1 y0 y1 K h30 hK d (z + 1) m (by omega) (by omega) (by omega)
theorem q2_go {n : Int} {xs ys : List S36} (B : Both n xs ys) (x : Int) (x0 : 0 ≤ x) (x1 : x < n) (K : Nat) (h30 : 30 ≤ K) (hK : ∀ k, K ≤ k → tlQuarters.l1 k n xs ys (x + 1) = some true) :
    ∀ (d : Nat) (y : Int) (k : Nat), 0 ≤ y → y + (d : Int) = n → K + 10 * d + 1 ≤ k → tlQuarters.l2 k n xs ys x y = some true
  | 0, y, k, h0, hy, hk => by
    obtain ⟨m, rfl⟩ : ∃ m, k = m + 1 := ⟨k - 1, by omega⟩
    have hle := B.le
    simp only [tlQuarters.l2]
    rw [if_neg (by omega), w64m _ (by omega) (by omega)]
    exact hK m (by omega)
  | d + 1, y, k, h0, hy, hk => by
    obtain ⟨m, rfl⟩ : ∃ m, k = m + 1 := ⟨k - 1, by omega⟩
    have hle := B.le
    have hn : 0 ≤ n := by omega
    simp only [tlQuarters.l2]
    rw [if_pos (by omega)]
    exact q3_go B x y x0 x1 h0 (by omega) (K + 10 * d + 1) (by omega) (fun k hk => q2_go B x x0 x1 K h30 hK d (y + 1) k (by omega) (by omega) hk) n.toNat 0 m (by omega) (by omega) (by omega)
theorem q1_go {n : Int} {xs ys : List S36} (B : Both n xs ys) : ∀ (d : Nat) (x : Int) (k : Nat), 0 ≤ x → x + (d : Int) = n → 90 * d + 40 ≤ k → tlQuarters.l1 k n xs ys x = some true
  | 0, x, k, h0, hx, hk => by
    obtain ⟨m, rfl⟩ : ∃ m, k = m + 1 := ⟨k - 1, by omega⟩
    simp only [tlQuarters.l1]
    rw [if_neg (by omega), awake_q]
    rfl
  | d + 1, x, k, h0, hx, hk => by
    obtain ⟨m, rfl⟩ : ∃ m, k = m + 1 := ⟨k - 1, by omega⟩
    have hle := B.le
    have x1 : x < n := by omega
    have hlen := B.len
    have hyl := B.ylen
    have ox := B.ok x h0 (by rw [B.len]; exact x1)
    have ob := (okd_iff _).1 ox
    have e1 : turn_Next.f m xs x = some (nextp xs x) := by unfold turn_Next.f; rw [if_pos (by omega)]
    have e2 : turn_Next.f m ys x = some (nextp xs x) := by
      unfold turn_Next.f
      rw [if_pos (by omega), B.e, nextp_rot xs B.ok x h0 (by omega)]
    have e3 : turn_Prev.f m xs x = some (prevp xs x) := by unfold turn_Prev.f; rw [if_pos (by omega)]
    have e4 : turn_Prev.f m ys x = some (prevp xs x) := by
      unfold turn_Prev.f
      rw [if_pos (by omega), B.e, prevp_rot xs B.ok x h0 (by omega)]
    have e5 : turn_Half.f (-(rd_T36 xs x).f0) (-(rd_T36 xs x).f1) = some (hv ⟨-(rd_T36 xs x).f0, -(rd_T36 xs x).f1⟩) := half_e ⟨-(rd_T36 xs x).f0, -(rd_T36 xs x).f1⟩ (okd_neg _ ox)
    have e6 : (hv (rd_T36 xs x) == hv ⟨-(rd_T36 xs x).f0, -(rd_T36 xs x).f1⟩) = false := beq_eq_false_iff_ne.mpr (fun e => half_ne _ ox e.symm)
    simp only [tlQuarters.l1]
    rw [if_pos x1, e1, Option.bind_some, e2, Option.bind_some, if_pos rfl, e3, Option.bind_some, e4, Option.bind_some, if_pos rfl, if_pos h0, if_pos (by omega), half_e _ ox, Option.bind_some, w64m _ (by omega) (by omega), w64m _ (by omega) (by omega), e5, Option.bind_some, e6]
    obtain ⟨m2, rfl⟩ : ∃ m2, m = m2 + 1 := ⟨m - 1, by omega⟩
    simp only [tlQuarters.j2, Bool.false_eq_true, if_false]
    exact q2_go B x h0 x1 (90 * d + 40) (by omega) (fun k hk => q1_go B d (x + 1) k (by omega) (by omega) hk) n.toNat 0 m2 (by omega) (by omega) (by omega)
theorem and7 (n : Int) : Go.bits .and .i64 n 7 = n % 8 := by
  have h7 : (BitVec.ofInt 64 7).toNat = 2 ^ 3 - 1 := by decide
  have key : (BitVec.ofInt 64 n &&& BitVec.ofInt 64 7).toNat = (n % ((2 ^ 64 : Nat) : Int)).toNat % 2 ^ 3 := by
    rw [BitVec.toNat_and, BitVec.toNat_ofInt, h7, Nat.and_two_pow_sub_one_eq_mod]
  show IntKind.i64.wrap ((BitVec.ofInt 64 n &&& BitVec.ofInt 64 7).toNat : Nat) = n % 8
  rw [key, IntKind.wrap_i64]
  omega
theorem allOk_of {xs : List S36} (h : ∀ a ∈ xs, okd a = true) : AllOk xs := fun k h0 h1 => by
  refine h _ ?_
  unfold rd_T36
  have : k.toNat < xs.length := by omega
  rw [List.getD_eq_getElem?_getD, List.getElem?_eq_getElem this]
  exact List.getElem_mem _
theorem q0_go (w n : Int) (hn : n ≤ 7) : ∀ (d : Nat) (i : Int) (xs : List S36) (k : Nat), 0 ≤ i → i + (d : Int) = n → (xs.length : Int) = i → (∀ a ∈ xs, okd a = true) → 800 + d ≤ k → tlQuarters.l0 k w n xs (xs.map rotd) i = some true
  | 0, i, xs, k, h0, hi, hl, hok, hk => by
    obtain ⟨m, rfl⟩ : ∃ m, k = m + 1 := ⟨k - 1, by omega⟩
    simp only [tlQuarters.l0]
    rw [if_neg (by omega)]
    exact q1_go ⟨rfl, by omega, hn, allOk_of hok⟩ n.toNat 0 m (by omega) (by omega) (by omega)
  | d + 1, i, xs, k, h0, hi, hl, hok, hk => by
    obtain ⟨m, rfl⟩ : ∃ m, k = m + 1 := ⟨k - 1, by omega⟩
    have w1 : wrap64 (6 * i) = 6 * i := w64m _ (by omega) (by omega)
    have w2 : wrap64 (6 * i + 3) = 6 * i + 3 := w64m _ (by omega) (by omega)
    have w3 : wrap64 (i + 1) = i + 1 := w64m _ (by omega) (by omega)
    have go : ∀ a : S36, okd a = true → tlQuarters.l0 m w n (xs ++ [a]) (xs.map rotd ++ [rotd a]) (i + 1) = some true := fun a ha => by
      have e : xs.map rotd ++ [rotd a] = (xs ++ [a]).map rotd := by simp
      rw [e]
      refine q0_go w n hn d (i + 1) (xs ++ [a]) m (by omega) (by omega) (by rw [List.length_append, List.length_singleton]; omega) (fun b hb => ?_) (by omega)
      rcases List.mem_append.1 hb with hb | hb
      · exact hok b hb
      · rw [List.mem_singleton.1 hb]; exact ha
    obtain ⟨p, hp⟩ : ∃ p, p = wrap64 ((Go.bits .and .i64 (shr .i64 w (6 * i)) 7) - 3) := ⟨_, rfl⟩
    obtain ⟨q, hq⟩ : ∃ q, q = wrap64 ((Go.bits .and .i64 (shr .i64 w (6 * i + 3)) 7) - 3) := ⟨_, rfl⟩
    have bp : -3 ≤ p ∧ p ≤ 4 := by rw [hp, and7, w64m _ (by omega) (by omega)]; omega
    have bq : -3 ≤ q ∧ q ≤ 4 := by rw [hq, and7, w64m _ (by omega) (by omega)]; omega
    have w4 : wrap64 (-q) = -q := w64m _ (by omega) (by omega)
    have l1 : xs.length < 8796093022208 := by omega
    have l2 : (xs.map rotd).length < 8796093022208 := by rw [List.length_map]; omega
    simp only [tlQuarters.l0, w1, w2, w3]
    rw [← hp, ← hq, w4, if_pos (by omega), if_pos (by omega), if_pos (by omega)]
    by_cases hp0 : p = 0
    · rw [if_pos hp0]
      by_cases hq0 : q = 0
      · rw [if_pos hq0, if_pos l1, if_pos l2]
        exact go ⟨5, q⟩ ((okd_iff _).2 ⟨by dsimp only; omega, by dsimp only; omega⟩)
      · rw [if_neg hq0, if_pos l1, if_pos l2]
        exact go ⟨p, q⟩ ((okd_iff _).2 ⟨by dsimp only; omega, by dsimp only; omega⟩)
    · rw [if_neg hp0, if_pos l1, if_pos l2]
      exact go ⟨p, q⟩ ((okd_iff _).2 ⟨by dsimp only; omega, by dsimp only; omega⟩)
theorem turnQuarters_pure : tlQuarters.Pure := by
  intro a0 a1 _ _
  refine ⟨900, ?_⟩
  have h := and7 a1
  have h2 : 0 ≤ Go.bits .and .i64 a1 7 := by rw [h]; omega
  exact q0_go a0 _ (by rw [h]; omega) (Go.bits .and .i64 a1 7).toNat 0 [] 900 (by omega) (by omega) (by simp) (fun _ h => by cases h) (by omega)
end Go.Proofs.Ytojdmloimmcacaa.PTurnRounds
