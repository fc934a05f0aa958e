/- Proved: TurnSorts' plain law: the places in order and each one's next and previous are what the document's answer says; for any directions, any place; no condition. -/
import Derived.Test.YtojdmloimmcacaaVK
import Derived.Test.YtojdmloimmcacaaVuSorts
namespace Go.Proofs.Ytojdmloimmcacaa.PTurnSorts
open Go.RowKit Go.Sort Go.Proofs.YtojdmloimmcacaaW.PrintWords Go.Proofs.YtojdmloimmcacaaW.PrintLast Go.Proofs.YtojdmloimmcacaaW.PrintMore
open TS
set_option linter.unusedVariables false
set_option linter.unusedSimpArgs false
theorem awake_s (k : Nat) : terrierlaw11_awake.f k = some true := by
  have hs : (sorted [(⟨0, 1⟩ : S36), ⟨1, 0⟩, ⟨-1, 0⟩]).toList = [1, 0, 2] := by
    have hp := cfl_pre [(⟨0, 1⟩ : S36), ⟨1, 0⟩, ⟨-1, 0⟩]
    refine TP.pair_uniq hp _ _ (TP.sorts_pair hp 3) ?_ ((TP.sorts_perm hp 3).trans (by decide))
    decide +kernel
  unfold terrierlaw11_awake.f turn_Sort.f
  rw [if_pos (by decide), hs]
  decide +kernel
theorem w64b (n : Int) (h : -1000000 ≤ n) (h' : n ≤ 1000000) : wrap64 n = n := by unfold wrap64; omega
/-! ### the reference's comparison -/
theorem none_e (a : S36) : terrierref9_none.f a.f0 a.f1 = some (!okd a) := by
  have h := okd_iff a
  cases hb : okd a with
  | true =>
    have := h.1 hb
    unfold terrierref9_none.f
    repeat' split
    all_goals first | rfl | (exfalso; omega) | (refine congrArg some ?_; simp; omega)
  | false =>
    have hn : ¬ ((a.f0 ≠ 0 ∨ a.f1 ≠ 0) ∧ -4194304 ≤ a.f0 ∧ a.f0 ≤ 4194304 ∧ -4194304 ≤ a.f1 ∧ a.f1 ≤ 4194304) := fun c => by
      have := h.2 c; rw [hb] at this; cases this
    unfold terrierref9_none.f
    repeat' split
    all_goals first | rfl | (exfalso; omega) | (refine congrArg some ?_; simp; omega)
theorem rhalf_e (a : S36) : terrierref9_Half.f a.f0 a.f1 = some (if okd a = true then hv a else -1) := by
  unfold terrierref9_Half.f hv
  rw [none_e, Option.bind_some]
  cases okd a with
  | true =>
    simp only [Bool.not_true, Bool.false_eq_true, if_false, if_true]
    repeat' split
    all_goals rfl
  | false => simp
theorem sign_e (x : Int) : terrierref9_sign.f x = some (cpr x 0) := by
  unfold terrierref9_sign.f cpr
  by_cases h : x > 0
  · rw [if_pos h, if_neg (by omega), if_pos h]
  · rw [if_neg h]
    by_cases h2 : x < 0
    · rw [if_pos h2, if_pos h2]
    · rw [if_neg h2, if_neg h2, if_neg h]
theorem rcmp_e (a b : S36) (k : Nat) (hk : 1 ≤ k) : terrierref9_Cmp.f k a.f0 a.f1 b.f0 b.f1 = some (cmpv a b) := by
  obtain ⟨m, rfl⟩ : ∃ m, k = m + 1 := ⟨k - 1, by omega⟩
  have bh : ∀ a : S36, 0 ≤ hv a ∧ hv a ≤ 1 := fun a => by unfold hv; (repeat' split) <;> omega
  have ba := bh a
  have bb := bh b
  unfold terrierref9_Cmp.f
  rw [rhalf_e, Option.bind_some, rhalf_e, Option.bind_some]
  simp only [terrierref9_Cmp.j0]
  cases ha : okd a with
  | false =>
    cases hb : okd b with
    | false => simp [cmpv_no a b ha hb]
    | true =>
      rw [cmpv_l a b ha hb]
      have : ¬ hv b < 0 := by omega
      simp [this]
  | true =>
    cases hb : okd b with
    | false =>
      rw [cmpv_r a b ha hb]
      have : ¬ hv a < 0 := by omega
      simp [this]
    | true =>
      have n1 : ¬ hv a < 0 := by omega
      have n2 : ¬ hv b < 0 := by omega
      have e1 : wrap64 (wrap64 (a.f0 * b.f1) - wrap64 (b.f0 * a.f1)) = cross a b := by
        rw [Int.mul_comm b.f0 a.f1]; exact cross_wrap a b ha hb
      rw [cmpv_ok a b ha hb, e1, sign_e, sign_e]
      simp only [if_true, n1, n2, if_false, Bool.false_eq_true, Option.bind_some]
      by_cases he : hv a = hv b
      · rw [if_pos he]
        unfold orv cpr
        rw [he]
        refine congrArg some ?_
        have q1 : wrap64 1 = 1 := by decide +kernel
        have q2 : wrap64 (-1) = -1 := by decide +kernel
        have q3 : wrap64 0 = 0 := by decide +kernel
        rw [if_pos (show (if hv b < hv b then (-1 : Int) else if hv b > hv b then 1 else 0) = 0 by rw [if_neg (by omega), if_neg (by omega)])]
        rcases Int.lt_trichotomy (cross a b) 0 with h | h | h
        · rw [if_pos h, if_neg (by omega), if_pos h]; exact q1
        · rw [h]; simp [q3]
        · rw [if_neg (by omega), if_pos h, if_pos h]; exact q2
      · rw [if_neg he]
        unfold orv cpr
        refine congrArg some ?_
        rw [w64b _ (by omega) (by omega)]
        (repeat' split) <;> omega
/-! ### the two rows -/
structure Two (xs : List S36) (ys : List S45) : Prop where
  len : ys.length = xs.length
  f0 : ∀ i, (rd_T45 ys i).f0 = (rd_T36 xs i).f0
  f1 : ∀ i, (rd_T45 ys i).f1 = (rd_T36 xs i).f1
theorem Two.cmp {xs : List S36} {ys : List S45} (T : Two xs ys) (i j : Int) (k : Nat) (hk : 1 ≤ k) : terrierref9_Cmp.f k (rd_T45 ys i).f0 (rd_T45 ys i).f1 (rd_T45 ys j).f0 (rd_T45 ys j).f1 = some (cfl xs i j) := by
  rw [T.f0, T.f1, T.f0, T.f1, rcmp_e _ _ k hk]; rfl
theorem Two.none {xs : List S36} {ys : List S45} (T : Two xs ys) (i : Int) : terrierref9_none.f (rd_T45 ys i).f0 (rd_T45 ys i).f1 = some (!okl xs i) := by
  rw [T.f0, T.f1, none_e]; rfl
/-! ### the reference's sort -/
/-- i put in from behind: R is what stands ahead, from its end on. -/
def fins (c : Int → Int → Int) (i : Int) : List Int → List Int → List Int
  | [], B => i :: B
  | e :: R, B => if c e i > 0 then fins c i R (e :: B) else (e :: R).reverse ++ i :: B
theorem set_mid (A : List Int) (h v : Int) (B : List Int) : (A ++ h :: B).set A.length v = A ++ v :: B := by
  rw [List.set_append_right _ _ (Nat.le_refl _)]; simp
theorem rd_mid (A : List Int) (e h : Int) (B : List Int) : rd (A ++ [e] ++ h :: B) (A.length : Int) = e := by
  unfold rd
  rw [Int.toNat_natCast, List.append_assoc, List.getD_eq_getElem?_getD, List.getElem?_append_right (Nat.le_refl _)]
  simp
theorem rs1_go {xs : List S36} {ys : List S45} (T : Two xs ys) (hn : xs.length ≤ 60) (i : Int) (hi0 : 0 ≤ i) (hi1 : i < (xs.length : Int)) (res : List Int) (K : Nat) :
    ∀ (R B : List Int) (h : Int) (k : Nat), (∀ e ∈ R, 0 ≤ e ∧ e < (xs.length : Int)) → ((R.length : Int) ≤ 60) → K + R.length + 2 ≤ k →
      (∀ k, K ≤ k → terrierref9_Sort.l0 k ys (fins (cfl xs) i R B) (i + 1) = some res) →
      terrierref9_Sort.l1 k ys (R.reverse ++ h :: B) i (R.length : Int) = some res
  | [], B, h, k, hR, hl, hk, hres => by
    obtain ⟨m, rfl⟩ : ∃ m, k = m + 1 := ⟨k - 1, by omega⟩
    have e0 : terrierref9_Sort.l1 (m + 1) ys (h :: B) i 0 = terrierref9_Sort.l0 m ys (i :: B) (i + 1) := by
      simp only [terrierref9_Sort.l1]
      rw [if_neg (by decide), if_pos (by decide), if_pos (by rw [List.length_cons]; omega), w64b _ (by omega) (by omega)]
      rfl
    refine Eq.trans e0 ?_
    exact hres m (by simp at hk; omega)
  | e :: R, B, h, k, hR, hl, hk, hres => by
    obtain ⟨m, rfl⟩ : ∃ m, k = m + 1 := ⟨k - 1, by omega⟩
    have he := hR e (by simp)
    rw [List.length_cons] at hl hk
    have w1 : wrap64 (((e :: R).length : Int) - 1) = (R.length : Int) := by rw [List.length_cons, w64b _ (by omega) (by omega)]; omega
    have er : rd ((e :: R).reverse ++ h :: B) (R.length : Int) = e := by
      have := rd_mid R.reverse e h B
      rwa [List.length_reverse, ← List.reverse_cons] at this
    have hlen : (((e :: R).reverse ++ h :: B).length : Int) = (R.length : Int) + 2 + (B.length : Int) := by simp; omega
    have hL := T.len
    simp only [terrierref9_Sort.l1, w1, er]
    rw [if_pos (by rw [List.length_cons]; omega), if_pos (by omega), if_pos (by rw [hlen]; omega), if_pos he.1, if_pos (by rw [hL]; exact he.2), if_pos hi0, if_pos (by rw [hL]; exact hi1), T.cmp e i m (by omega), Option.bind_some]
    have hset : ∀ v, ((e :: R).reverse ++ h :: B).set (((e :: R).length : Int)).toNat v = (e :: R).reverse ++ v :: B := fun v => by
      have := set_mid (e :: R).reverse h v B
      rwa [List.length_reverse] at this
    by_cases hc : cfl xs e i > 0
    · rw [if_pos hc, if_pos (by rw [List.length_cons]; omega), if_pos (by rw [hlen, List.length_cons]; omega), hset]
      have e2 : (e :: R).reverse ++ e :: B = R.reverse ++ e :: (e :: B) := by simp
      rw [e2]
      refine rs1_go T hn i hi0 hi1 res K R (e :: B) e m (fun x hx => hR x (by simp [hx])) (by omega) (by omega) (fun k hk => ?_)
      have := hres k hk
      unfold fins at this
      rwa [if_pos hc] at this
    · rw [if_neg hc, if_pos (by rw [List.length_cons]; omega), if_pos (by rw [hlen, List.length_cons]; omega), hset, w64b _ (by omega) (by omega)]
      have := hres m (by omega)
      unfold fins at this
      rwa [if_neg hc] at this
theorem fins_spec {c : Int → Int → Int} (hP : TP.Pre c) (i : Int) : ∀ (R B : List Int), (R.reverse ++ B).Pairwise (fun x y => TP.lt2 c x y = true) → (∀ e ∈ B, c e i > 0) → (∀ e ∈ R, e < i) →
    (fins c i R B).Pairwise (fun x y => TP.lt2 c x y = true) ∧ (fins c i R B).Perm (i :: (R.reverse ++ B))
  | [], B, hp, hB, hR => by
    refine ⟨List.pairwise_cons.2 ⟨fun e he => ?_, by simpa using hp⟩, by simp [fins]⟩
    have := hB e he
    have := hP.anti e i
    simp only [TP.lt2, decide_eq_true_eq]
    left; omega
  | e :: R, B, hp, hB, hR => by
    unfold fins
    by_cases hc : c e i > 0
    · rw [if_pos hc]
      have e2 : (e :: R).reverse ++ B = R.reverse ++ (e :: B) := by simp
      rw [e2] at hp ⊢
      exact fins_spec hP i R (e :: B) hp (fun x hx => by rcases List.mem_cons.1 hx with h | h; rw [h]; exact hc; exact hB x h) (fun x hx => hR x (by simp [hx]))
    · rw [if_neg hc]
      refine ⟨?_, ?_⟩
      · obtain ⟨h1, h2, h3⟩ := List.pairwise_append.1 hp
        refine List.pairwise_append.2 ⟨h1, List.pairwise_cons.2 ⟨fun x hx => ?_, h2⟩, fun x hx y hy => ?_⟩
        · have := hB x hx
          have := hP.anti x i
          simp only [TP.lt2, decide_eq_true_eq]
          left; omega
        · rcases List.mem_cons.1 hy with h | h
          · subst h
            have hx' : x ∈ e :: R := List.mem_reverse.1 hx
            have hxi := hR x hx'
            have hle : c x y ≤ 0 := by
              rcases List.mem_cons.1 hx' with h | h
              · rw [h]; omega
              · have hpe : TP.lt2 c x e = true := by
                  rw [List.reverse_cons] at h1
                  exact (List.pairwise_append.1 h1).2.2 x (List.mem_reverse.2 h) e (by simp)
                simp only [TP.lt2, decide_eq_true_eq] at hpe
                exact hP.trans x e y (by omega) (by omega)
            simp only [TP.lt2, decide_eq_true_eq]
            by_cases hz : c x y = 0
            · exact .inr ⟨hz, hxi⟩
            · left; omega
          · exact h3 x hx y h
      · exact List.perm_middle
theorem rs0_go {xs : List S36} {ys : List S45} (T : Two xs ys) (hn : xs.length ≤ 60) : ∀ (d : Nat) (i : Int) (L : List Int) (k : Nat), 0 ≤ i → i + (d : Int) = (xs.length : Int) → L.Pairwise (fun x y => TP.lt2 (cfl xs) x y = true) → L.Perm ((List.range i.toNat).map Int.ofNat) → 70 * d + 1 ≤ k →
    terrierref9_Sort.l0 k ys L i = some (sorted xs).toList
  | 0, i, L, k, h0, hi, hp, hq, hk => by
    obtain ⟨m, rfl⟩ : ∃ m, k = m + 1 := ⟨k - 1, by omega⟩
    have hL := T.len
    simp only [terrierref9_Sort.l0]
    rw [if_neg (by omega)]
    refine congrArg some (TP.pair_uniq (cfl_pre xs) _ _ hp (TP.sorts_pair (cfl_pre xs) xs.length) (hq.trans ?_))
    rw [show i.toNat = xs.length by omega]
    exact (TP.sorts_perm (cfl_pre xs) xs.length).symm
  | d + 1, i, L, k, h0, hi, hp, hq, hk => by
    obtain ⟨m, rfl⟩ : ∃ m, k = m + 1 := ⟨k - 1, by omega⟩
    have hL := T.len
    have hlen : L.length = i.toNat := by rw [hq.length_eq]; simp
    have hmem : ∀ e ∈ L, 0 ≤ e ∧ e < i := fun e he => by
      obtain ⟨t, ht, rfl⟩ := List.mem_map.1 (hq.mem_iff.1 he)
      have := List.mem_range.1 ht
      exact ⟨Int.natCast_nonneg _, by show (t : Int) < i; omega⟩
    have hf := fins_spec (cfl_pre xs) i L.reverse [] (by simpa using hp) (fun _ h => by cases h) (fun e he => (hmem e (by simpa using he)).2)
    rw [List.reverse_reverse, List.append_nil] at hf
    simp only [terrierref9_Sort.l0]
    rw [if_pos (by omega), if_pos (by omega)]
    have := rs1_go T hn i h0 (by omega) (sorted xs).toList (70 * d + 1) L.reverse [] i m (fun e he => by have := hmem e (by simpa using he); omega) (by rw [List.length_reverse]; omega) (by rw [List.length_reverse]; omega) (fun k hk =>
      rs0_go T hn d (i + 1) _ k (by omega) (by omega) hf.1 (hf.2.trans (by
        rw [show (i + 1).toNat = i.toNat + 1 by omega, List.range_succ, List.map_append, List.map_cons, List.map_nil]
        refine ((List.perm_cons i).2 hq).trans ?_
        rw [show Int.ofNat i.toNat = i by show ((i.toNat : Nat) : Int) = i; omega]
        exact (List.perm_append_singleton i _).symm)) hk)
    rwa [List.reverse_reverse, List.length_reverse] at this
theorem rsort_e {xs : List S36} {ys : List S45} (T : Two xs ys) (hn : xs.length ≤ 60) (k : Nat) (hk : 4300 ≤ k) : terrierref9_Sort.f k ys = some (sorted xs).toList :=
  rs0_go T hn xs.length 0 [] k (by omega) (by omega) List.Pairwise.nil (by simp) (by omega)
theorem same_go (L : List Int) (hn : L.length ≤ 60) : ∀ (d : Nat) (i : Int) (k : Nat), 0 ≤ i → i + (d : Int) = (L.length : Int) → d + 1 ≤ k → terrierref14_SameInts.l0 k L L i = some true
  | 0, i, k, h0, hi, hk => by
    obtain ⟨m, rfl⟩ : ∃ m, k = m + 1 := ⟨k - 1, by omega⟩
    simp only [terrierref14_SameInts.l0]
    rw [if_neg (by omega)]
  | d + 1, i, k, h0, hi, hk => by
    obtain ⟨m, rfl⟩ : ∃ m, k = m + 1 := ⟨k - 1, by omega⟩
    simp only [terrierref14_SameInts.l0]
    rw [if_pos (by omega), if_pos h0, if_pos (by omega), if_pos trivial, w64b _ (by omega) (by omega)]
    exact same_go L hn d (i + 1) m (by omega) (by omega) (by omega)
/-! ### the reference's next and previous -/
def aftv (c : Int → Int → Int) (d a b : Int) : Int := if c a d < 0 ∧ ¬ c b d < 0 then 1 else if ¬ c a d < 0 ∧ c b d < 0 then -1 else c a b
theorem after_e {xs : List S36} {ys : List S45} (T : Two xs ys) (d a b : Int) (k : Nat) (hk : 3 ≤ k) : terrierref9_after.f k (rd_T45 ys d).f0 (rd_T45 ys d).f1 (rd_T45 ys a).f0 (rd_T45 ys a).f1 (rd_T45 ys b).f0 (rd_T45 ys b).f1 = some (aftv (cfl xs) d a b) := by
  obtain ⟨m, rfl⟩ : ∃ m, k = m + 1 := ⟨k - 1, by omega⟩
  unfold terrierref9_after.f aftv
  rw [T.cmp a d (m + 1) (by omega), Option.bind_some, T.cmp b d (m + 1) (by omega), Option.bind_some]
  simp only [terrierref9_after.j0]
  rw [T.cmp a b m (by omega)]
  by_cases h1 : cfl xs a d < 0
  · by_cases h2 : cfl xs b d < 0
    · simp [h1, h2]
    · simp [h1, h2]
  · by_cases h2 : cfl xs b d < 0
    · simp [h1, h2]
    · simp [h1, h2]
theorem aft_neg {c : Int → Int → Int} (hP : TP.Pre c) {i a b : Int} (ha : c a i ≠ 0) (hb : c b i ≠ 0) : (aftv c i a b < 0 ↔ TP.Ah c i a b) ∧ (0 < aftv c i a b ↔ TP.Ah c i b a) := by
  have := hP.anti a b
  unfold aftv TP.Ah
  by_cases h1 : c a i < 0 <;> by_cases h2 : c b i < 0 <;> simp [h1, h2] <;> omega
theorem ah_total {c : Int → Int → Int} (hP : TP.Pre c) {i a b : Int} (h1 : ¬ TP.Ah c i a b) (h2 : ¬ TP.Ah c i b a) : c a b = 0 := by
  have := hP.anti a b
  have := hP.anti b a
  unfold TP.Ah at h1 h2
  omega
/-- What the scan has found of the places up to k. -/
def SeenN (c : Int → Int → Int) (ok : Int → Bool) (n : Nat) (way i k best : Int) : Prop :=
  (best = i ∧ ∀ j, TP.Cand c ok n i j → k ≤ j) ∨ (TP.Cand c ok n i best ∧ best < k ∧ ∀ j, TP.Cand c ok n i j → j < k → j = best ∨ (if way = 1 then TP.Ah c i best j else TP.Ah c i j best) ∨ (c best j = 0 ∧ best < j))
theorem seenN_skip {c : Int → Int → Int} {ok : Int → Bool} {n : Nat} {way i k best : Int} (h : SeenN c ok n way i k best) (hk : ¬ TP.Cand c ok n i k) : SeenN c ok n way i (k + 1) best := by
  rcases h with ⟨h1, h2⟩ | ⟨h1, h2, h3⟩
  · left
    refine ⟨h1, fun j hj => ?_⟩
    have := h2 j hj
    by_cases e : j = k
    · rw [e] at hj; exact absurd hj hk
    · omega
  · right
    refine ⟨h1, by omega, fun j hj hjk => ?_⟩
    by_cases e : j = k
    · rw [e] at hj; exact absurd hj hk
    · exact h3 j hj (by omega)
theorem seenN_first {c : Int → Int → Int} {ok : Int → Bool} {n : Nat} {way i k : Int} (h : SeenN c ok n way i k i) (hi : c i i = 0) (hk : TP.Cand c ok n i k) : SeenN c ok n way i (k + 1) k := by
  rcases h with ⟨_, h2⟩ | ⟨h1, _⟩
  · right
    refine ⟨hk, by omega, fun j hj hjk => ?_⟩
    have := h2 j hj
    left; omega
  · exact absurd hi h1.2.2.2
theorem seenN_go {c : Int → Int → Int} (hP : TP.Pre c) {ok : Int → Bool} {n : Nat} {way i k best : Int} (hw : way = 1 ∨ way = -1) (h : SeenN c ok n way i k best) (hb : best ≠ i) (hk : TP.Cand c ok n i k) : SeenN c ok n way i (k + 1) (if way * aftv c i k best < 0 then k else best) := by
  rcases h with ⟨h1, _⟩ | ⟨h1, h2, h3⟩
  · exact absurd h1 hb
  obtain ⟨a1, a2⟩ := aft_neg hP (a := k) (b := best) hk.2.2.2 h1.2.2.2
  right
  rcases hw with rfl | rfl
  · simp only [if_true, Int.one_mul] at h3 ⊢
    by_cases e : aftv c i k best < 0
    · rw [if_pos e]
      have hA := a1.1 e
      refine ⟨hk, by omega, fun j hj hjk => ?_⟩
      by_cases ej : j = k
      · exact .inl ej
      · rcases h3 j hj (by omega) with e2 | e2 | e2
        · rw [e2]; exact .inr (.inl hA)
        · exact .inr (.inl (hA.trans hP e2))
        · exact .inr (.inl (TP.Ah.right hP hA e2.1))
    · rw [if_neg e]
      refine ⟨h1, by omega, fun j hj hjk => ?_⟩
      by_cases ej : j = k
      · subst ej
        have n1 : ¬ TP.Ah c i j best := fun h => e (a1.2 h)
        by_cases n2 : TP.Ah c i best j
        · exact .inr (.inl n2)
        · exact .inr (.inr ⟨ah_total hP n2 n1, h2⟩)
      · exact h3 j hj (by omega)
  · have hw1 : ¬ ((-1 : Int) = 1) := by decide
    simp only [hw1, if_false] at h3 ⊢
    by_cases e : -1 * aftv c i k best < 0
    · rw [if_pos e]
      have hA := a2.1 (by omega)
      refine ⟨hk, by omega, fun j hj hjk => ?_⟩
      by_cases ej : j = k
      · exact .inl ej
      · rcases h3 j hj (by omega) with e2 | e2 | e2
        · rw [e2]; exact .inr (.inl hA)
        · exact .inr (.inl (e2.trans hP hA))
        · exact .inr (.inl (TP.Ah.left hP ((hP.zero _ _).1 e2.1) hA))
    · rw [if_neg e]
      refine ⟨h1, by omega, fun j hj hjk => ?_⟩
      by_cases ej : j = k
      · subst ej
        have n1 : ¬ TP.Ah c i best j := fun h => e (by have := a2.2 h; omega)
        by_cases n2 : TP.Ah c i j best
        · exact .inr (.inl n2)
        · exact .inr (.inr ⟨ah_total hP n1 n2, h2⟩)
      · exact h3 j hj (by omega)
theorem step_go {xs : List S36} {ys : List S45} (T : Two xs ys) (hn : xs.length ≤ 60) (i way : Int) (hw : way = 1 ∨ way = -1) (hi0 : 0 ≤ i) (hi1 : i < (xs.length : Int)) (res : Int) (hres : ∀ best, SeenN (cfl xs) (okl xs) xs.length way i (xs.length : Int) best → best = res) :
    ∀ (d : Nat) (k best : Int) (f : Nat), 0 ≤ k → k + (d : Int) = (xs.length : Int) → (0 ≤ best ∧ best < (xs.length : Int)) → SeenN (cfl xs) (okl xs) xs.length way i k best → 3 * d + 10 ≤ f → terrierref9_step.l0 f ys i way best k = some res
  | 0, k, best, f, h0, hk, hbr, hS, hf => by
    obtain ⟨m, rfl⟩ : ∃ m, f = m + 1 := ⟨f - 1, by omega⟩
    have hL := T.len
    simp only [terrierref9_step.l0]
    rw [if_neg (by omega)]
    refine congrArg some (hres best ?_)
    rwa [show (xs.length : Int) = k by omega]
  | d + 1, k, best, f, h0, hk, hbr, hS, hf => by
    obtain ⟨m, rfl⟩ : ∃ m, f = m + 2 := ⟨f - 2, by omega⟩
    have hL := T.len
    have hk1 : k < (xs.length : Int) := by omega
    have hw1 : wrap64 (k + 1) = k + 1 := w64b _ (by omega) (by omega)
    have go : ∀ b', (0 ≤ b' ∧ b' < (xs.length : Int)) → SeenN (cfl xs) (okl xs) xs.length way i (k + 1) b' → terrierref9_step.l0 m ys i way b' (k + 1) = some res := fun b' hb' hS' => step_go T hn i way hw hi0 hi1 res hres d (k + 1) b' m (by omega) (by omega) hb' hS' (by omega)
    simp only [terrierref9_step.l0]
    rw [if_pos (by omega), if_pos h0, T.none, Option.bind_some]
    cases hok : okl xs k with
    | false =>
      simp only [Bool.not_false, if_true, terrierref9_step.j2, hw1]
      exact go best hbr (seenN_skip hS (fun h => by have := h.2.2.1; rw [hok] at this; cases this))
    | true =>
      simp only [Bool.not_true, Bool.false_eq_true, if_false]
      rw [if_pos hi0, if_pos (by omega), T.cmp k i (m + 1) (by omega), Option.bind_some]
      simp only [terrierref9_step.j2, hw1]
      by_cases hz : cfl xs k i = 0
      · rw [if_pos (by rw [hz]; rfl)]
        exact go best hbr (seenN_skip hS (fun h => h.2.2.2 hz))
      · have hc : TP.Cand (cfl xs) (okl xs) xs.length i k := ⟨h0, hk1, hok, hz⟩
        rw [if_neg (by simpa using hz)]
        by_cases hbi : best = i
        · rw [if_pos hbi]
          subst hbi
          exact go k ⟨h0, hk1⟩ (seenN_first hS ((cfl_pre xs).self best) hc)
        · rw [if_neg hbi, if_pos hi0, if_pos (by omega), if_pos h0, if_pos (by omega), if_pos hbr.1, if_pos (by omega), after_e T i k best m (by omega), Option.bind_some]
          have hg := seenN_go (cfl_pre xs) hw hS hbi hc
          have hwr : wrap64 (way * aftv (cfl xs) i k best) = way * aftv (cfl xs) i k best := by
            have hb : -1 ≤ aftv (cfl xs) i k best ∧ aftv (cfl xs) i k best ≤ 1 := by
              have hc1 : ∀ x y, -1 ≤ cfl xs x y ∧ cfl xs x y ≤ 1 := fun x y => by
                unfold cfl
                cases hx : okd (rd_T36 xs x) with
                | false =>
                  cases hy : okd (rd_T36 xs y) with
                  | false => rw [cmpv_no _ _ hx hy]; omega
                  | true => rw [cmpv_l _ _ hx hy]; omega
                | true =>
                  cases hy : okd (rd_T36 xs y) with
                  | false => rw [cmpv_r _ _ hx hy]; omega
                  | true =>
                    rw [cmpv_ok _ _ hx hy]
                    unfold orv cpr
                    (repeat' split) <;> omega
              have := hc1 k best
              unfold aftv
              (repeat' split) <;> omega
            rcases hw with rfl | rfl
            · exact w64b _ (by omega) (by omega)
            · exact w64b _ (by omega) (by omega)
          rw [hwr]
          by_cases hlt : way * aftv (cfl xs) i k best < 0
          · rw [if_pos hlt] at hg ⊢
            exact go k ⟨h0, hk1⟩ hg
          · rw [if_neg hlt] at hg ⊢
            exact go best hbr hg
theorem step_e {xs : List S36} {ys : List S45} (T : Two xs ys) (hn : xs.length ≤ 60) (i way : Int) (hw : way = 1 ∨ way = -1) (f : Nat) (hf : 300 ≤ f) : terrierref9_step.f f ys i way = some (if way = 1 then nextp xs i else prevp xs i) := by
  obtain ⟨m, rfl⟩ : ∃ m, f = m + 1 := ⟨f - 1, by omega⟩
  have hL := T.len
  have hoff : atp xs i = false → (if way = 1 then nextp xs i else prevp xs i) = i := fun h => by
    unfold nextp prevp
    rw [h]
    simp
  unfold terrierref9_step.f
  by_cases h0 : i < 0
  · rw [if_pos h0]
    simp only [terrierref9_step.j0, if_true]
    rw [hoff (by cases h : atp xs i with | false => rfl | true => have := (atp_iff xs i).1 h; omega)]
  · rw [if_neg h0]
    by_cases h1 : i ≥ (ys.length : Int)
    · rw [if_pos h1]
      simp only [terrierref9_step.j0, if_true]
      rw [hoff (by cases h : atp xs i with | false => rfl | true => have := (atp_iff xs i).1 h; omega)]
    · rw [if_neg h1, if_pos (by omega), if_pos (by omega), T.none, Option.bind_some]
      cases hok : okl xs i with
      | false =>
        simp only [terrierref9_step.j0, Bool.not_false, if_true]
        rw [hoff (by cases h : atp xs i with | false => rfl | true => have := ((atp_iff xs i).1 h).2.2; rw [hok] at this; cases this)]
      | true =>
        have hat : atp xs i = true := (atp_iff xs i).2 ⟨by omega, by omega, hok⟩
        simp only [terrierref9_step.j0, Bool.not_true, Bool.false_eq_true, if_false]
        refine step_go T hn i way hw (by omega) (by omega) _ (fun best hS => ?_) xs.length 0 i m (by omega) (by omega) ⟨by omega, by omega⟩ (.inl ⟨rfl, fun j hj => hj.1⟩) (by omega)
        rcases hw with rfl | rfl
        · rw [if_pos rfl]
          refine TP.isNext_uniq (cfl_pre xs) ?_ (nextp_is xs i hat)
          rcases hS with ⟨h2, h3⟩ | ⟨h2, h3, h4⟩
          · exact .inr ⟨h2, fun k hk => by have := h3 k hk; have := hk.2.1; omega⟩
          · left
            refine ⟨h2, fun k hk => ?_⟩
            rcases h4 k hk hk.2.1 with e | e | e
            · exact .inl e
            · rw [if_pos rfl] at e; exact .inr (.inl e)
            · exact .inr (.inr e)
        · rw [if_neg (by decide)]
          refine TP.isPrev_uniq (cfl_pre xs) ?_ (prevp_is xs i hat)
          rcases hS with ⟨h2, h3⟩ | ⟨h2, h3, h4⟩
          · exact .inr ⟨h2, fun k hk => by have := h3 k hk; have := hk.2.1; omega⟩
          · left
            refine ⟨h2, fun k hk => ?_⟩
            rcases h4 k hk hk.2.1 with e | e | e
            · exact .inl e
            · rw [if_neg (by decide)] at e; exact .inr (.inl e)
            · exact .inr (.inr e)
theorem rnext_e {xs : List S36} {ys : List S45} (T : Two xs ys) (hn : xs.length ≤ 60) (i : Int) (f : Nat) (hf : 300 ≤ f) : terrierref9_Next.f f ys i = some (nextp xs i) := by
  unfold terrierref9_Next.f
  rw [step_e T hn i 1 (.inl rfl) f hf]
  rfl
theorem rprev_e {xs : List S36} {ys : List S45} (T : Two xs ys) (hn : xs.length ≤ 60) (i : Int) (f : Nat) (hf : 300 ≤ f) : terrierref9_Prev.f f ys i = some (prevp xs i) := by
  unfold terrierref9_Prev.f
  rw [step_e T hn i (-1) (.inr rfl) f hf]
  rfl
/-! ### the law -/
theorem dirs_go (l : List S44) (hn : l.length ≤ 60) : ∀ (d : Nat) (i : Int) (k : Nat), 0 ≤ i → i + (d : Int) = (l.length : Int) → d + 1 ≤ k →
    terrierlaw11_dirs.l0 k l ((l.take i.toNat).map fun p => (⟨p.f0, p.f1⟩ : S36)) ((l.take i.toNat).map fun p => (⟨p.f0, p.f1⟩ : S45)) i = some (l.map fun p => ⟨p.f0, p.f1⟩, l.map fun p => ⟨p.f0, p.f1⟩)
  | 0, i, k, h0, hi, hk => by
    obtain ⟨m, rfl⟩ : ∃ m, k = m + 1 := ⟨k - 1, by omega⟩
    simp only [terrierlaw11_dirs.l0]
    rw [if_neg (by omega), show i.toNat = l.length by omega, List.take_length]
  | d + 1, i, k, h0, hi, hk => by
    obtain ⟨m, rfl⟩ : ∃ m, k = m + 1 := ⟨k - 1, by omega⟩
    have hlt : i.toNat < l.length := by omega
    simp only [terrierlaw11_dirs.l0]
    rw [if_pos (by omega), if_pos h0, if_pos (by rw [List.length_map, List.length_take]; omega), if_pos (by rw [List.length_map, List.length_take]; omega), w64b _ (by omega) (by omega)]
    have er : rd_T44 l i = l[i.toNat] := by
      unfold rd_T44
      rw [List.getD_eq_getElem?_getD, List.getElem?_eq_getElem hlt]; rfl
    have et : l.take (i + 1).toNat = l.take i.toNat ++ [l[i.toNat]] := by
      rw [show (i + 1).toNat = i.toNat + 1 by omega, List.take_add_one, List.getElem?_eq_getElem hlt]; rfl
    have := dirs_go l hn d (i + 1) m (by omega) (by omega) (by omega)
    rw [et, List.map_append, List.map_append, List.map_cons, List.map_nil, List.map_cons, List.map_nil] at this
    rw [er]
    exact this
theorem two_of (l : List S44) : Two (l.map fun p => (⟨p.f0, p.f1⟩ : S36)) (l.map fun p => (⟨p.f0, p.f1⟩ : S45)) := by
  refine ⟨by simp, fun i => ?_, fun i => ?_⟩
  all_goals
    unfold rd_T45 rd_T36
    rw [List.getD_eq_getElem?_getD, List.getD_eq_getElem?_getD, List.getElem?_map, List.getElem?_map]
    cases l[i.toNat]? <;> rfl
theorem law_go {xs : List S36} {ys : List S45} (T : Two xs ys) (hn : xs.length ≤ 60) (at_ : Int) : ∀ (d : Nat) (i : Int) (k : Nat), 0 ≤ i → i + (d : Int) = (xs.length : Int) → 400 + d ≤ k → terrierlaw11_TurnSorts.l0 k at_ xs ys i = some true
  | 0, i, k, h0, hi, hk => by
    obtain ⟨m, rfl⟩ : ∃ m, k = m + 1 := ⟨k - 1, by omega⟩
    have e1 : turn_Next.f m xs at_ = some (nextp xs at_) := by unfold turn_Next.f; rw [if_pos (by omega)]
    have e2 : turn_Prev.f m xs at_ = some (prevp xs at_) := by unfold turn_Prev.f; rw [if_pos (by omega)]
    simp only [terrierlaw11_TurnSorts.l0]
    rw [if_neg (by omega), e1, Option.bind_some, rnext_e T hn at_ m (by omega), Option.bind_some, if_pos rfl, e2, Option.bind_some, rprev_e T hn at_ m (by omega), Option.bind_some, if_pos rfl, awake_s]
    rfl
  | d + 1, i, k, h0, hi, hk => by
    obtain ⟨m, rfl⟩ : ∃ m, k = m + 1 := ⟨k - 1, by omega⟩
    have e1 : turn_Next.f m xs i = some (nextp xs i) := by unfold turn_Next.f; rw [if_pos (by omega)]
    have e2 : turn_Prev.f m xs i = some (prevp xs i) := by unfold turn_Prev.f; rw [if_pos (by omega)]
    simp only [terrierlaw11_TurnSorts.l0]
    rw [if_pos (by omega), e1, Option.bind_some, rnext_e T hn i m (by omega), Option.bind_some, if_pos rfl, e2, Option.bind_some, rprev_e T hn i m (by omega), Option.bind_some, if_pos rfl, w64b _ (by omega) (by omega)]
    exact law_go T hn at_ d (i + 1) m (by omega) (by omega) (by omega)
theorem turnSorts_pure (l : List S44) (at_ : Int) : terrierlaw11_TurnSorts.f 5000 l at_ = some true := by
  unfold terrierlaw11_TurnSorts.f
  by_cases h : (l.length : Int) > 60
  · rw [if_pos h, awake_s]; rfl
  · rw [if_neg h]
    have hn : l.length ≤ 60 := by omega
    have T := two_of l
    have hd : terrierlaw11_dirs.f 5000 l = some (l.map fun p => ⟨p.f0, p.f1⟩, l.map fun p => ⟨p.f0, p.f1⟩) := dirs_go l hn l.length 0 5000 (by omega) (by omega) (by omega)
    have hlx : (l.map fun p => (⟨p.f0, p.f1⟩ : S36)).length ≤ 60 := by rw [List.length_map]; exact hn
    have hs : turn_Sort.f 5000 (l.map fun p => (⟨p.f0, p.f1⟩ : S36)) = some (sorted (l.map fun p => (⟨p.f0, p.f1⟩ : S36))).toList := by unfold turn_Sort.f; rw [if_pos (by omega)]
    rw [hd, Option.bind_some, hs, Option.bind_some, rsort_e T hlx 5000 (by omega), Option.bind_some]
    have hsz : (sorted (l.map fun p => (⟨p.f0, p.f1⟩ : S36))).toList.length ≤ 60 := by
      rw [Array.length_toList]
      have : (sorted (l.map fun p => (⟨p.f0, p.f1⟩ : S36))).size = (l.map fun p => (⟨p.f0, p.f1⟩ : S36)).length := (TP.sorts_keep _ _).1
      rw [this]; exact hlx
    have hsame : ∀ L : List Int, L.length ≤ 60 → terrierref14_SameInts.f 5000 L L = some true := fun L hL => by
      unfold terrierref14_SameInts.f
      rw [if_pos rfl]
      exact same_go L hL L.length 0 5000 (by omega) (by omega) (by omega)
    rw [hsame _ hsz, Option.bind_some, if_pos rfl]
    exact law_go T hlx at_ l.length 0 5000 (by omega) (by simp) (by omega)
end Go.Proofs.Ytojdmloimmcacaa.PTurnSorts
