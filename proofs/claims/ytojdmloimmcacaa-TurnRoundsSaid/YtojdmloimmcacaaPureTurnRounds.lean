/- Proved: TurnRounds' plain law: the next and the previous one of unlike directions are the neighbours by rank; for every number w; no condition. -/
import Derived.Test.YtojdmloimmcacaaTK
import Derived.Test.YtojdmloimmcacaaTuRounds
namespace Go.Proofs.Ytojdmloimmcacaa.PTurnRounds
open Go.RowKit Go.Sort Go.Proofs.YtojdmloimmcacaaW.PrintWords Go.Proofs.YtojdmloimmcacaaW.PrintLast Go.Proofs.YtojdmloimmcacaaW.PrintMore
open TS
set_option linter.unusedVariables false
set_option linter.unusedSimpArgs false
/-! ### awake -/
theorem awake_e (k : Nat) : terrierlaw11_awake.f k = some true := by
  have hs : (sorted [(⟨0, 1⟩ : S36), ⟨1, 0⟩, ⟨-1, 0⟩]).toList = [1, 0, 2] := by
    have hp := cfl_pre [(⟨0, 1⟩ : S36), ⟨1, 0⟩, ⟨-1, 0⟩]
    refine TP.pair_uniq hp _ _ (TP.sorts_pair hp 3) ?_ ((TP.sorts_perm hp 3).trans (by decide))
    decide +kernel
  unfold terrierlaw11_awake.f turn_Sort.f
  rw [if_pos (by decide), hs]
  decide +kernel
/-! ### the ranks -/
def all16 : List S36 := [(⟨1, 0⟩ : S36), (⟨2, 1⟩ : S36), (⟨1, 1⟩ : S36), (⟨1, 2⟩ : S36), (⟨0, 1⟩ : S36), (⟨(-1), 2⟩ : S36), (⟨(-1), 1⟩ : S36), (⟨(-2), 1⟩ : S36), (⟨(-1), 0⟩ : S36), (⟨(-2), (-1)⟩ : S36), (⟨(-1), (-1)⟩ : S36), (⟨(-1), (-2)⟩ : S36), (⟨0, (-1)⟩ : S36), (⟨1, (-2)⟩ : S36), (⟨1, (-1)⟩ : S36), (⟨2, (-1)⟩ : S36)]
def dirAt (r : Int) : S36 := rd_T36 all16 r
theorem rank_all : ((List.range 16).all fun r => (List.range 16).all fun t => decide (cmpv (dirAt (r : Int)) (dirAt (t : Int)) = cpr (r : Int) (t : Int)) && okd (dirAt (r : Int))) = true := by decide +kernel
theorem rank_cmp (r t : Int) (h1 : 0 ≤ r) (h2 : r < 16) (h3 : 0 ≤ t) (h4 : t < 16) : cmpv (dirAt r) (dirAt t) = cpr r t ∧ okd (dirAt r) = true := by
  have h := List.all_eq_true.1 rank_all r.toNat (List.mem_range.2 (by omega))
  have h' := List.all_eq_true.1 h t.toNat (List.mem_range.2 (by omega))
  simp only [Bool.and_eq_true, decide_eq_true_eq, Int.toNat_of_nonneg h1, Int.toNat_of_nonneg h3] at h'
  exact h'
/-- What is known of the directions: unlike ones, by their ranks. -/
structure Good (rs : List Int) (xs : List S36) : Prop where
  e : xs = rs.map dirAt
  len : rs.length ≤ 16
  nd : rs.Nodup
  rng : ∀ r ∈ rs, 0 ≤ r ∧ r < 16
theorem rd_mem (rs : List Int) (x : Int) (h0 : 0 ≤ x) (h1 : x < (rs.length : Int)) : rd rs x ∈ rs := by
  unfold rd
  have : x.toNat < rs.length := by omega
  rw [List.getD_eq_getElem?_getD, List.getElem?_eq_getElem this]
  exact List.getElem_mem _
theorem rd_inj (rs : List Int) (hn : rs.Nodup) (x y : Int) (h0 : 0 ≤ x) (h1 : x < (rs.length : Int)) (h2 : 0 ≤ y) (h3 : y < (rs.length : Int)) (h : rd rs x = rd rs y) : x = y := by
  have hx : x.toNat < rs.length := by omega
  have hy : y.toNat < rs.length := by omega
  unfold rd at h
  rw [List.getD_eq_getElem?_getD, List.getD_eq_getElem?_getD, List.getElem?_eq_getElem hx, List.getElem?_eq_getElem hy] at h
  have := (List.getElem_inj (h₀ := hx) (h₁ := hy) hn).1 h
  omega
theorem rd_dir (rs : List Int) (x : Int) (h0 : 0 ≤ x) (h1 : x < (rs.length : Int)) : rd_T36 (rs.map dirAt) x = dirAt (rd rs x) := by
  have hx : x.toNat < rs.length := by omega
  unfold rd_T36 rd
  rw [List.getD_eq_getElem?_getD, List.getD_eq_getElem?_getD, List.getElem?_eq_getElem (by simpa using hx), List.getElem?_eq_getElem hx]
  simp
theorem Good.xlen {rs : List Int} {xs : List S36} (g : Good rs xs) : xs.length = rs.length := by rw [g.e, List.length_map]
theorem Good.c {rs : List Int} {xs : List S36} (g : Good rs xs) (x y : Int) (h0 : 0 ≤ x) (h1 : x < (rs.length : Int)) (h2 : 0 ≤ y) (h3 : y < (rs.length : Int)) : cfl xs x y = cpr (rd rs x) (rd rs y) := by
  have p := g.rng _ (rd_mem rs x h0 h1)
  have q := g.rng _ (rd_mem rs y h2 h3)
  unfold cfl
  rw [g.e, rd_dir rs x h0 h1, rd_dir rs y h2 h3]
  exact (rank_cmp _ _ p.1 p.2 q.1 q.2).1
theorem Good.ok {rs : List Int} {xs : List S36} (g : Good rs xs) (x : Int) (h0 : 0 ≤ x) (h1 : x < (rs.length : Int)) : okl xs x = true := by
  have p := g.rng _ (rd_mem rs x h0 h1)
  unfold okl
  rw [g.e, rd_dir rs x h0 h1]
  exact (rank_cmp _ _ p.1 p.2 p.1 p.2).2
/-- How far to the left of i, and to the right. -/
def dl (rs : List Int) (i j : Int) : Int := (rd rs j - rd rs i + 16) % 16
def dr (rs : List Int) (i j : Int) : Int := (rd rs i - rd rs j + 16) % 16
def Up (rs : List Int) (i x up : Int) : Prop := (up = i ∧ ∀ j, 0 ≤ j → j < x → j = i) ∨ (up ≠ i ∧ 0 ≤ up ∧ up < x ∧ ∀ j, 0 ≤ j → j < x → j ≠ i → dl rs i up ≤ dl rs i j)
def Dn (rs : List Int) (i x dn : Int) : Prop := (dn = i ∧ ∀ j, 0 ≤ j → j < x → j = i) ∨ (dn ≠ i ∧ 0 ≤ dn ∧ dn < x ∧ ∀ j, 0 ≤ j → j < x → j ≠ i → dr rs i dn ≤ dr rs i j)
theorem cpr_pos (a b : Int) : 0 < cpr a b ↔ b < a := by unfold cpr; (repeat' split) <;> omega
theorem cpr_neg (a b : Int) : cpr a b < 0 ↔ a < b := by unfold cpr; (repeat' split) <;> omega
theorem cpr_le (a b : Int) : cpr a b ≤ 0 ↔ a ≤ b := by unfold cpr; (repeat' split) <;> omega
theorem cpr_zero (a b : Int) : cpr a b = 0 ↔ a = b := by unfold cpr; (repeat' split) <;> omega
theorem Good.cand {rs : List Int} {xs : List S36} (g : Good rs xs) (i : Int) (hi0 : 0 ≤ i) (hi1 : i < (rs.length : Int)) (j : Int) : TP.Cand (cfl xs) (okl xs) xs.length i j ↔ 0 ≤ j ∧ j < (rs.length : Int) ∧ j ≠ i := by
  unfold TP.Cand
  rw [g.xlen]
  constructor
  · rintro ⟨h0, h1, _, h3⟩
    refine ⟨h0, h1, fun e => h3 ?_⟩
    rw [g.c j i h0 h1 hi0 hi1, cpr_zero, e]
  · rintro ⟨h0, h1, h3⟩
    refine ⟨h0, h1, g.ok j h0 h1, fun e => h3 ?_⟩
    rw [g.c j i h0 h1 hi0 hi1, cpr_zero] at e
    exact rd_inj rs g.nd j i h0 h1 hi0 hi1 e
theorem Good.ah {rs : List Int} {xs : List S36} (g : Good rs xs) (i x y : Int) (hi0 : 0 ≤ i) (hi1 : i < (rs.length : Int)) (h0 : 0 ≤ x) (h1 : x < (rs.length : Int)) (h2 : 0 ≤ y) (h3 : y < (rs.length : Int)) (hx : x ≠ i) (hy : y ≠ i) (hxy : x ≠ y) : (TP.Ah (cfl xs) i x y ↔ dl rs i x ≤ dl rs i y) ∧ (TP.Ah (cfl xs) i x y ↔ dr rs i y ≤ dr rs i x) := by
  have p := g.rng _ (rd_mem rs i hi0 hi1)
  have q := g.rng _ (rd_mem rs x h0 h1)
  have r := g.rng _ (rd_mem rs y h2 h3)
  have n1 : rd rs x ≠ rd rs i := fun e => hx (rd_inj rs g.nd x i h0 h1 hi0 hi1 e)
  have n2 : rd rs y ≠ rd rs i := fun e => hy (rd_inj rs g.nd y i h2 h3 hi0 hi1 e)
  have n3 : rd rs x ≠ rd rs y := fun e => hxy (rd_inj rs g.nd x y h0 h1 h2 h3 e)
  unfold TP.Ah dl dr
  rw [g.c x i h0 h1 hi0 hi1, g.c y i h2 h3 hi0 hi1, g.c x y h0 h1 h2 h3, cpr_pos, cpr_le, cpr_pos, cpr_neg]
  omega
theorem Good.next {rs : List Int} {xs : List S36} (g : Good rs xs) (i up : Int) (hi0 : 0 ≤ i) (hi1 : i < (rs.length : Int)) (h : Up rs i (rs.length : Int) up) : nextp xs i = up := by
  have hat : atp xs i = true := (atp_iff xs i).2 ⟨hi0, by rw [g.xlen]; exact hi1, g.ok i hi0 hi1⟩
  refine TP.isNext_uniq (cfl_pre xs) (nextp_is xs i hat) ?_
  rcases h with ⟨h1, h2⟩ | ⟨h1, h2, h3, h4⟩
  · right
    refine ⟨h1, fun k hk => ?_⟩
    rw [g.cand i hi0 hi1] at hk
    exact hk.2.2 (h2 k hk.1 hk.2.1)
  · left
    refine ⟨(g.cand i hi0 hi1 up).2 ⟨h2, h3, h1⟩, fun k hk => ?_⟩
    rw [g.cand i hi0 hi1] at hk
    by_cases e : k = up
    · exact .inl e
    · exact .inr (.inl (((g.ah i up k hi0 hi1 h2 h3 hk.1 hk.2.1 h1 hk.2.2 (Ne.symm e)).1).2 (h4 k hk.1 hk.2.1 hk.2.2)))
theorem Good.prev {rs : List Int} {xs : List S36} (g : Good rs xs) (i dn : Int) (hi0 : 0 ≤ i) (hi1 : i < (rs.length : Int)) (h : Dn rs i (rs.length : Int) dn) : prevp xs i = dn := by
  have hat : atp xs i = true := (atp_iff xs i).2 ⟨hi0, by rw [g.xlen]; exact hi1, g.ok i hi0 hi1⟩
  refine TP.isPrev_uniq (cfl_pre xs) (prevp_is xs i hat) ?_
  rcases h with ⟨h1, h2⟩ | ⟨h1, h2, h3, h4⟩
  · right
    refine ⟨h1, fun k hk => ?_⟩
    rw [g.cand i hi0 hi1] at hk
    exact hk.2.2 (h2 k hk.1 hk.2.1)
  · left
    refine ⟨(g.cand i hi0 hi1 dn).2 ⟨h2, h3, h1⟩, fun k hk => ?_⟩
    rw [g.cand i hi0 hi1] at hk
    by_cases e : k = dn
    · exact .inl e
    · exact .inr (.inl (((g.ah i k dn hi0 hi1 hk.1 hk.2.1 h2 h3 hk.2.2 h1 e).2).2 (h4 k hk.1 hk.2.1 hk.2.2)))
/-! ### the loops -/
theorem w64s (n : Int) (h : -1000 ≤ n) (h' : n ≤ 1000) : wrap64 n = n := by unfold wrap64; omega
theorem tm (a b : Int) (h1 : 0 ≤ a) (h2 : a < 16) (h3 : 0 ≤ b) (h4 : b < 16) : Int.tmod (wrap64 ((wrap64 (a - b)) + 16)) 16 = (a - b + 16) % 16 := by
  rw [w64s (a - b) (by omega) (by omega), w64s (a - b + 16) (by omega) (by omega), Int.tmod_eq_emod_of_nonneg (by omega)]
theorem up_step {rs : List Int} {i x up : Int} (hx : 0 ≤ x) (hne : x ≠ i) (h : Up rs i x up) : Up rs i (x + 1) (if up = i ∨ dl rs i x < dl rs i up then x else up) := by
  by_cases c : up = i ∨ dl rs i x < dl rs i up
  · rw [if_pos c]
    right
    refine ⟨hne, hx, by omega, fun j h0 h1 h2 => ?_⟩
    by_cases e : j = x
    · rw [e]; omega
    · rcases h with ⟨_, h4⟩ | ⟨h3, h5, h6, h4⟩
      · exact absurd (h4 j h0 (by omega)) h2
      · have := h4 j h0 (by omega) h2
        rcases c with c | c
        · exact absurd c h3
        · omega
  · rw [if_neg c]
    have c' := not_or.1 c
    rcases h with ⟨h3, h4⟩ | ⟨h3, h5, h6, h4⟩
    · exact absurd h3 c'.1
    · right
      refine ⟨h3, h5, by omega, fun j h0 h1 h2 => ?_⟩
      by_cases e : j = x
      · rw [e]; omega
      · exact h4 j h0 (by omega) h2
theorem dn_step {rs : List Int} {i x dn : Int} (hx : 0 ≤ x) (hne : x ≠ i) (h : Dn rs i x dn) : Dn rs i (x + 1) (if dn = i ∨ dr rs i x < dr rs i dn then x else dn) := by
  by_cases c : dn = i ∨ dr rs i x < dr rs i dn
  · rw [if_pos c]
    right
    refine ⟨hne, hx, by omega, fun j h0 h1 h2 => ?_⟩
    by_cases e : j = x
    · rw [e]; omega
    · rcases h with ⟨_, h4⟩ | ⟨h3, h5, h6, h4⟩
      · exact absurd (h4 j h0 (by omega)) h2
      · have := h4 j h0 (by omega) h2
        rcases c with c | c
        · exact absurd c h3
        · omega
  · rw [if_neg c]
    have c' := not_or.1 c
    rcases h with ⟨h3, h4⟩ | ⟨h3, h5, h6, h4⟩
    · exact absurd h3 c'.1
    · right
      refine ⟨h3, h5, by omega, fun j h0 h1 h2 => ?_⟩
      by_cases e : j = x
      · rw [e]; omega
      · exact h4 j h0 (by omega) h2
theorem up_same {rs : List Int} {x up : Int} (h : Up rs x x up) : Up rs x (x + 1) up := by
  rcases h with ⟨h3, h4⟩ | ⟨h3, h5, h6, h4⟩
  · left; exact ⟨h3, fun j h0 h1 => by by_cases e : j = x; exact e; exact h4 j h0 (by omega)⟩
  · right; exact ⟨h3, h5, by omega, fun j h0 h1 h2 => h4 j h0 (by omega) h2⟩
theorem dn_same {rs : List Int} {x dn : Int} (h : Dn rs x x dn) : Dn rs x (x + 1) dn := by
  rcases h with ⟨h3, h4⟩ | ⟨h3, h5, h6, h4⟩
  · left; exact ⟨h3, fun j h0 h1 => by by_cases e : j = x; exact e; exact h4 j h0 (by omega)⟩
  · right; exact ⟨h3, h5, by omega, fun j h0 h1 h2 => h4 j h0 (by omega) h2⟩
theorem up_rng {rs : List Int} {i x up : Int} (hi0 : 0 ≤ i) (hi1 : i < (rs.length : Int)) (hx : x ≤ (rs.length : Int)) (h : Up rs i x up) : 0 ≤ up ∧ up < (rs.length : Int) := by
  rcases h with ⟨h3, h4⟩ | ⟨h3, h5, h6, h4⟩ <;> omega
theorem dn_rng {rs : List Int} {i x dn : Int} (hi0 : 0 ≤ i) (hi1 : i < (rs.length : Int)) (hx : x ≤ (rs.length : Int)) (h : Dn rs i x dn) : 0 ≤ dn ∧ dn < (rs.length : Int) := by
  rcases h with ⟨h3, h4⟩ | ⟨h3, h5, h6, h4⟩ <;> omega
theorem j3_go {rs : List Int} {xs : List S36} (g : Good rs xs) (i up dn x : Int) (b : Bool) (k : Nat) (hi0 : 0 ≤ i) (hi1 : i < (rs.length : Int)) (h0 : 0 ≤ x) (h1 : x < (rs.length : Int)) (h2 : 0 ≤ dn) (h3 : dn < (rs.length : Int)) :
    terrierlaw11_TurnRounds.j3 (k + 1) xs rs i up dn x b = terrierlaw11_TurnRounds.l2 k xs rs i (if b = true then x else up) (if dn = i ∨ dr rs i x < dr rs i dn then x else dn) (x + 1) := by
  have p := g.rng _ (rd_mem rs i hi0 hi1)
  have q := g.rng _ (rd_mem rs x h0 h1)
  have r := g.rng _ (rd_mem rs dn h2 h3)
  have hl := g.len
  have hw : wrap64 (x + 1) = x + 1 := w64s _ (by omega) (by omega)
  simp only [terrierlaw11_TurnRounds.j3]
  rw [tm _ _ p.1 p.2 q.1 q.2, tm _ _ p.1 p.2 r.1 r.2, hw]
  cases b with
  | true =>
    rw [if_pos rfl, if_pos hi0, if_pos hi1, if_pos h0, if_pos h1, if_pos h2, if_pos h3, if_pos rfl]
    by_cases e : dn = i
    · rw [if_pos e, if_pos (Or.inl e)]
    · rw [if_neg e]
      by_cases e2 : dr rs i x < dr rs i dn
      · rw [if_pos (show (rd rs i - rd rs x + 16) % 16 < (rd rs i - rd rs dn + 16) % 16 from e2), if_pos (Or.inr e2)]
      · rw [if_neg (show ¬ (rd rs i - rd rs x + 16) % 16 < (rd rs i - rd rs dn + 16) % 16 from e2), if_neg (by rintro (h | h); exact e h; exact e2 h)]
  | false =>
    simp only [Bool.false_eq_true, if_false]
    rw [if_pos hi0, if_pos hi1, if_pos h0, if_pos h1, if_pos h2, if_pos h3]
    by_cases e : dn = i
    · rw [if_pos e, if_pos (Or.inl e)]
    · rw [if_neg e]
      by_cases e2 : dr rs i x < dr rs i dn
      · rw [if_pos (show (rd rs i - rd rs x + 16) % 16 < (rd rs i - rd rs dn + 16) % 16 from e2), if_pos (Or.inr e2)]
      · rw [if_neg (show ¬ (rd rs i - rd rs x + 16) % 16 < (rd rs i - rd rs dn + 16) % 16 from e2), if_neg (by rintro (h | h); exact e h; exact e2 h)]
theorem l2_go {rs : List Int} {xs : List S36} (g : Good rs xs) (i : Int) (hi0 : 0 ≤ i) (hi1 : i < (rs.length : Int)) (K : Nat) (hK : ∀ k, K ≤ k → terrierlaw11_TurnRounds.l1 k xs rs (i + 1) = some true) :
    ∀ (d : Nat) (x up dn : Int) (k : Nat), 0 ≤ x → x + (d : Int) = (rs.length : Int) → Up rs i x up → Dn rs i x dn → K + 2 * d + 1 ≤ k → terrierlaw11_TurnRounds.l2 k xs rs i up dn x = some true
  | 0, x, up, dn, k, h0, hx, hu, hd, hk => by
    obtain ⟨m, rfl⟩ : ∃ m, k = m + 1 := ⟨k - 1, by omega⟩
    have hl := g.len
    have hxn : x = (rs.length : Int) := by omega
    subst hxn
    have e1 : turn_Next.f m xs i = some up := by
      unfold turn_Next.f
      rw [if_pos (by rw [g.xlen]; omega), g.next i up hi0 hi1 hu]
    have e2 : turn_Prev.f m xs i = some dn := by
      unfold turn_Prev.f
      rw [if_pos (by rw [g.xlen]; omega), g.prev i dn hi0 hi1 hd]
    simp only [terrierlaw11_TurnRounds.l2]
    rw [if_neg (by rw [g.xlen]; omega), e1, Option.bind_some, if_pos rfl, e2, Option.bind_some, if_pos rfl, w64s _ (by omega) (by omega)]
    exact hK m (by omega)
  | d + 1, x, up, dn, k, h0, hx, hu, hd, hk => by
    obtain ⟨m, rfl⟩ : ∃ m, k = m + 1 := ⟨k - 1, by omega⟩
    have hl := g.len
    have hxn : x < (rs.length : Int) := by omega
    have hw : wrap64 (x + 1) = x + 1 := w64s _ (by omega) (by omega)
    obtain ⟨u0, u1⟩ := up_rng hi0 hi1 (by omega) hu
    obtain ⟨d0, d1⟩ := dn_rng hi0 hi1 (by omega) hd
    simp only [terrierlaw11_TurnRounds.l2]
    rw [if_pos (by rw [g.xlen]; omega)]
    by_cases hxi : x = i
    · subst hxi
      rw [if_pos rfl, hw]
      exact l2_go g x hi0 hi1 K hK d (x + 1) up dn m (by omega) (by omega) (up_same hu) (dn_same hd) (by omega)
    · have p := g.rng _ (rd_mem rs i hi0 hi1)
      have q := g.rng _ (rd_mem rs x h0 hxn)
      have r := g.rng _ (rd_mem rs up u0 u1)
      rw [if_neg hxi, if_pos h0, if_pos hxn, if_pos hi0, if_pos hi1, if_pos u0, if_pos u1, tm _ _ q.1 q.2 p.1 p.2, tm _ _ r.1 r.2 p.1 p.2]
      obtain ⟨m2, rfl⟩ : ∃ m2, m = m2 + 1 := ⟨m - 1, by omega⟩
      have hb : ∀ b : Bool, (b = true ↔ (up = i ∨ dl rs i x < dl rs i up)) → terrierlaw11_TurnRounds.j3 (m2 + 1) xs rs i up dn x b = some true := fun b hb => by
        rw [j3_go g i up dn x b m2 hi0 hi1 h0 hxn d0 d1]
        have e : (if b = true then x else up) = if up = i ∨ dl rs i x < dl rs i up then x else up := by
          by_cases c : b = true
          · rw [if_pos c, if_pos (hb.1 c)]
          · rw [if_neg c, if_neg (fun h => c (hb.2 h))]
        rw [e]
        exact l2_go g i hi0 hi1 K hK d (x + 1) _ _ m2 (by omega) (by omega) (up_step h0 hxi hu) (dn_step h0 hxi hd) (by omega)
      by_cases c : up = i
      · rw [if_pos c]
        exact hb true ⟨fun _ => .inl c, fun _ => rfl⟩
      · rw [if_neg c]
        refine hb _ ?_
        rw [decide_eq_true_eq]
        exact ⟨fun h => .inr h, fun h => h.resolve_left c⟩
theorem l1_go {rs : List Int} {xs : List S36} (g : Good rs xs) : ∀ (d : Nat) (x : Int) (k : Nat), 0 ≤ x → x + (d : Int) = (rs.length : Int) → 40 * d + 2 ≤ k → terrierlaw11_TurnRounds.l1 k xs rs x = some true
  | 0, x, k, h0, hx, hk => by
    obtain ⟨m, rfl⟩ : ∃ m, k = m + 1 := ⟨k - 1, by omega⟩
    simp only [terrierlaw11_TurnRounds.l1]
    rw [if_neg (by rw [g.xlen]; omega), awake_e]
    rfl
  | d + 1, x, k, h0, hx, hk => by
    obtain ⟨m, rfl⟩ : ∃ m, k = m + 1 := ⟨k - 1, by omega⟩
    have hl := g.len
    simp only [terrierlaw11_TurnRounds.l1]
    rw [if_pos (by rw [g.xlen]; omega)]
    exact l2_go g x h0 (by omega) (40 * d + 2) (fun k hk => l1_go g d (x + 1) k (by omega) (by omega) hk) rs.length 0 x x m (by omega) (by omega) (.inl ⟨rfl, fun j h1 h2 => by omega⟩) (.inl ⟨rfl, fun j h1 h2 => by omega⟩) (by omega)
theorem and15 (n : Int) : Go.bits .and .i64 n 15 = n % 16 := by
  have h15 : (BitVec.ofInt 64 15).toNat = 2 ^ 4 - 1 := by decide
  have key : (BitVec.ofInt 64 n &&& BitVec.ofInt 64 15).toNat = (n % ((2 ^ 64 : Nat) : Int)).toNat % 2 ^ 4 := by
    rw [BitVec.toNat_and, BitVec.toNat_ofInt, h15, Nat.and_two_pow_sub_one_eq_mod]
  show IntKind.i64.wrap ((BitVec.ofInt 64 n &&& BitVec.ofInt 64 15).toNat : Nat) = n % 16
  rw [key, IntKind.wrap_i64]
  omega
/-- What the drawn ranks are. -/
structure Drawn (s i : Int) (rs : List Int) : Prop where
  len : (rs.length : Int) ≤ i
  nd : rs.Nodup
  of : ∀ r ∈ rs, ∃ j, 0 ≤ j ∧ j < i ∧ r = (7 * j + s) % 16
theorem l0_go (a0 s : Int) (hs : s = (a0 / 65536) % 16) : ∀ (d : Nat) (i : Int) (rs : List Int) (k : Nat), 0 ≤ i → i + (d : Int) = 16 → Drawn s i rs → 700 + d ≤ k → terrierlaw11_TurnRounds.l0 k a0 (rs.map dirAt) all16 rs i = some true
  | 0, i, rs, k, h0, hi, D, hk => by
    obtain ⟨m, rfl⟩ : ∃ m, k = m + 1 := ⟨k - 1, by omega⟩
    have hl := D.len
    simp only [terrierlaw11_TurnRounds.l0]
    rw [if_neg (by omega)]
    refine l1_go ⟨rfl, by omega, D.nd, fun r hr => ?_⟩ rs.length 0 m (by omega) (by omega) (by omega)
    obtain ⟨j, _, _, rfl⟩ := D.of r hr
    omega
  | d + 1, i, rs, k, h0, hi, D, hk => by
    obtain ⟨m, rfl⟩ : ∃ m, k = m + 1 := ⟨k - 1, by omega⟩
    have hl := D.len
    have hs0 : 0 ≤ s := by omega
    have hs1 : s < 16 := by omega
    obtain ⟨t, ht⟩ : ∃ t, t = (7 * i + s) % 16 := ⟨_, rfl⟩
    have ek : Int.tmod (wrap64 ((wrap64 (i * 7)) + (Go.bits .and .i64 (a0 / 65536) 15))) 16 = t := by
      rw [and15, ← hs, w64s (i * 7) (by omega) (by omega), w64s _ (by omega) (by omega), Int.tmod_eq_emod_of_nonneg (by omega), ht]
      omega
    have hw : wrap64 (i + 1) = i + 1 := w64s _ (by omega) (by omega)
    simp only [terrierlaw11_TurnRounds.l0, ek, hw]
    rw [if_pos (by omega), if_pos (by omega)]
    by_cases hb : Go.bits .and .i64 (shr .i64 a0 t) 1 = 1
    · rw [if_pos hb, if_pos (by show t < 16; omega), if_pos (by rw [List.length_map]; omega), if_pos (by omega)]
      have e : rs.map dirAt ++ [(⟨(rd_T36 all16 t).f0, (rd_T36 all16 t).f1⟩ : S36)] = (rs ++ [t]).map dirAt := by simp [dirAt]
      rw [e]
      refine l0_go a0 s hs d (i + 1) (rs ++ [t]) m (by omega) (by omega) ⟨by rw [List.length_append, List.length_singleton]; omega, ?_, fun r hr => ?_⟩ (by omega)
      · refine List.nodup_append.2 ⟨D.nd, by simp, fun a ha b hb e => ?_⟩
        obtain ⟨j, j0, j1, hj⟩ := D.of a ha
        rw [List.mem_singleton.1 hb] at e
        omega
      · rcases List.mem_append.1 hr with hr | hr
        · obtain ⟨j, j0, j1, hj⟩ := D.of r hr
          exact ⟨j, j0, by omega, hj⟩
        · exact ⟨i, h0, by omega, by rw [List.mem_singleton.1 hr, ht]⟩
    · rw [if_neg hb]
      exact l0_go a0 s hs d (i + 1) rs m (by omega) (by omega) ⟨by omega, D.nd, fun r hr => by obtain ⟨j, j0, j1, hj⟩ := D.of r hr; exact ⟨j, j0, by omega, hj⟩⟩ (by omega)
theorem turnRounds_pure : terrierlaw11_TurnRounds.Pure := by
  intro a0 _
  refine ⟨800, ?_⟩
  exact l0_go a0 _ rfl 16 0 [] 800 (by omega) (by omega) ⟨by simp, List.nodup_nil, fun r hr => by cases hr⟩ (by omega)
end Go.Proofs.Ytojdmloimmcacaa.PTurnRounds
