/- Proved: the next and the previous place round from a place, as orders say; plain lists, no program; the condition is that the comparison is a total preorder in which those that are none stand last. -/
import Derived.Test.YtojdmloimmcacaaTP
namespace Go.Proofs.Ytojdmloimmcacaa.TP
open Go.Sort
set_option linter.unusedVariables false
variable {c : Int → Int → Int}
theorem rot (S : Array Int) (n f : Nat) (hs : S.size = n) (hf : f ≤ n) : (List.range n).map (fun t => S[(f + t) % n]!) = S.toList.drop f ++ S.toList.take f := by
  have hl : S.toList.length = n := by rw [Array.length_toList, hs]
  refine List.ext_getElem ?_ (fun t h1 h2 => ?_)
  · simp [hs]; omega
  · have ht : t < n := by simpa using h1
    simp only [List.getElem_map, List.getElem_range]
    by_cases h : t < n - f
    · rw [List.getElem_append_left (by simp [hs]; omega), List.getElem_drop, Nat.mod_eq_of_lt (by omega)]
      have : f + t < S.size := by omega
      simp [this]
    · rw [List.getElem_append_right (by simp [hs]; omega), List.getElem_take]
      have e : (f + t) % n = f + t - n := by
        rw [Nat.mod_eq_sub_mod (by omega), Nat.mod_eq_of_lt (by omega)]
      rw [e]
      have h3 : f + t - n < S.size := by omega
      have h4 : t - (List.drop f S.toList).length = f + t - n := by simp [hs]; omega
      simp only [h4]
      simp [h3]
/-- The places that a round hands out from a place on. -/
def firstg (c : Int → Int → Int) (n : Nat) (i : Int) : Nat := ((sorts c n).toList.takeWhile fun k => decide (c k i ≤ 0)).length
def roundg (c : Int → Int → Int) (ok : Int → Bool) (n : Nat) (i : Int) : List Int := ((List.range n).map fun t => (sorts c n)[(firstg c n i + t) % n]!).filter ok
def nextg (c : Int → Int → Int) (ok : Int → Bool) (n : Nat) (i : Int) : Int := ((roundg c ok n i).find? fun k => decide (c k i ≠ 0)).getD i
def prevg (c : Int → Int → Int) (ok : Int → Bool) (n : Nat) (i : Int) : Int := (roundg c ok n i).foldl (fun best k => if c k i ≠ 0 ∧ (best = i ∨ c k best ≠ 0) then k else best) i
/-- x is met ahead of y, from i on. -/
def Ah (c : Int → Int → Int) (i x y : Int) : Prop := (0 < c x i ∧ c y i ≤ 0) ∨ ((0 < c x i ↔ 0 < c y i) ∧ c x y < 0)
def Bf (c : Int → Int → Int) (i x y : Int) : Prop := Ah c i x y ∨ (c x y = 0 ∧ x < y)
def Cand (c : Int → Int → Int) (ok : Int → Bool) (n : Nat) (i x : Int) : Prop := 0 ≤ x ∧ x < (n : Int) ∧ ok x = true ∧ c x i ≠ 0
def IsNext (c : Int → Int → Int) (ok : Int → Bool) (n : Nat) (i j : Int) : Prop := (Cand c ok n i j ∧ ∀ k, Cand c ok n i k → k = j ∨ Bf c i j k) ∨ (j = i ∧ ∀ k, ¬ Cand c ok n i k)
def IsPrev (c : Int → Int → Int) (ok : Int → Bool) (n : Nat) (i j : Int) : Prop := (Cand c ok n i j ∧ ∀ k, Cand c ok n i k → k = j ∨ Ah c i k j ∨ (c j k = 0 ∧ j < k)) ∨ (j = i ∧ ∀ k, ¬ Cand c ok n i k)
theorem Pre.eq_side (h : Pre c) {x y : Int} (i : Int) (e : c x y = 0) : (0 < c x i ↔ 0 < c y i) := by
  have e2 := (h.zero x y).1 e
  constructor
  · intro hx
    by_cases hy : 0 < c y i
    · exact hy
    · have := h.trans x y i (by omega) (by omega); omega
  · intro hx
    by_cases hy : 0 < c x i
    · exact hy
    · have := h.trans y x i (by omega) (by omega); omega
theorem Ah.ne (h : Pre c) {i x y : Int} (a : Ah c i x y) : c x y ≠ 0 := by
  intro e
  rcases a with ⟨a, b⟩ | ⟨_, b⟩
  · have := (h.eq_side i e).1 a; omega
  · omega
theorem Ah.asymm (h : Pre c) {i x y : Int} (a : Ah c i x y) (b : Ah c i y x) : False := by
  have := h.anti x y
  unfold Ah at a b; omega
theorem Ah.trans (h : Pre c) {i x y z : Int} (a : Ah c i x y) (b : Ah c i y z) : Ah c i x z := by
  unfold Ah at *
  rcases a with ⟨a1, a2⟩ | ⟨a1, a2⟩
  · left; omega
  · rcases b with ⟨b1, b2⟩ | ⟨b1, b2⟩
    · left; omega
    · right; exact ⟨by omega, h.ltle a2 (by omega)⟩
theorem Ah.right (h : Pre c) {i x y z : Int} (a : Ah c i x y) (e : c y z = 0) : Ah c i x z := by
  have s := h.eq_side i e
  unfold Ah at *
  rcases a with ⟨a1, a2⟩ | ⟨a1, a2⟩
  · left; omega
  · right; exact ⟨by omega, h.ltle a2 (by omega)⟩
theorem Ah.left (h : Pre c) {i x y z : Int} (e : c x y = 0) (a : Ah c i y z) : Ah c i x z := by
  have s := h.eq_side i e
  unfold Ah at *
  rcases a with ⟨a1, a2⟩ | ⟨a1, a2⟩
  · left; omega
  · right; exact ⟨by omega, h.lelt (by omega) a2⟩
theorem isNext_uniq (h : Pre c) {ok : Int → Bool} {n : Nat} {i j k : Int} (a : IsNext c ok n i j) (b : IsNext c ok n i k) : j = k := by
  rcases a with ⟨a1, a2⟩ | ⟨a1, a2⟩ <;> rcases b with ⟨b1, b2⟩ | ⟨b1, b2⟩
  · rcases a2 k b1 with e | u
    · exact e.symm
    rcases b2 j a1 with e | v
    · exact e
    exfalso
    rcases u with u | ⟨u, u2⟩ <;> rcases v with v | ⟨v, v2⟩
    · exact u.asymm h v
    · have := u.ne h; have := (h.zero k j).1 v; omega
    · have := v.ne h; have := (h.zero j k).1 u; omega
    · omega
  · exact absurd a1 (b2 j)
  · exact absurd b1 (a2 k)
  · rw [a1, b1]
theorem isPrev_uniq (h : Pre c) {ok : Int → Bool} {n : Nat} {i j k : Int} (a : IsPrev c ok n i j) (b : IsPrev c ok n i k) : j = k := by
  rcases a with ⟨a1, a2⟩ | ⟨a1, a2⟩ <;> rcases b with ⟨b1, b2⟩ | ⟨b1, b2⟩
  · rcases a2 k b1 with e | u
    · exact e.symm
    rcases b2 j a1 with e | v
    · exact e
    exfalso
    rcases u with u | ⟨u, u2⟩ <;> rcases v with v | ⟨v, v2⟩
    · exact u.asymm h v
    · have := u.ne h; omega
    · have := v.ne h; omega
    · omega
  · exact absurd a1 (b2 j)
  · exact absurd b1 (a2 k)
  · rw [a1, b1]
/-- A round's list: each in order, and all that are none left out. -/
theorem round_spec (h : Pre c) (ok : Int → Bool) (n : Nat) (i : Int) (hok : ∀ k, c k i ≤ 0 → ok k = true) :
    (roundg c ok n i).Pairwise (Bf c i) ∧ ∀ x, x ∈ roundg c ok n i ↔ 0 ≤ x ∧ x < (n : Int) ∧ ok x = true := by
  obtain ⟨T, hT⟩ : ∃ T, T = (sorts c n).toList := ⟨_, rfl⟩
  obtain ⟨p, hp⟩ : ∃ p : Int → Bool, p = fun k => decide (c k i ≤ 0) := ⟨_, rfl⟩
  have hlen : T.length = n := by rw [hT, Array.length_toList, sorts_size h]
  have hf : firstg c n i = (T.takeWhile p).length := by rw [hT, hp]; rfl
  have hle : firstg c n i ≤ n := by rw [hf, ← hlen]; exact (List.takeWhile_prefix p).length_le
  have hr : roundg c ok n i = (T.drop (firstg c n i) ++ T.take (firstg c n i)).filter ok := by
    unfold roundg
    rw [rot _ n _ (sorts_size h n) hle, hT]
  have hsplit : T = T.takeWhile p ++ T.dropWhile p := List.takeWhile_append_dropWhile.symm
  have hdrop : T.drop (firstg c n i) = T.dropWhile p := by
    rw [hf]
    have := List.drop_left (l₁ := T.takeWhile p) (l₂ := T.dropWhile p)
    rwa [List.takeWhile_append_dropWhile] at this
  have htake : T.take (firstg c n i) = T.takeWhile p := by
    rw [hf]
    have := List.take_left (l₁ := T.takeWhile p) (l₂ := T.dropWhile p)
    rwa [List.takeWhile_append_dropWhile] at this
  rw [hr, hdrop, htake]
  have hpair : T.Pairwise fun x y => lt2 c x y = true := by rw [hT]; exact sorts_pair h n
  have h1 : ∀ x ∈ T.takeWhile p, c x i ≤ 0 := fun x hx => by
    have := List.all_takeWhile (p := p) (l := T)
    have := List.all_eq_true.1 this x hx
    rw [hp] at this
    exact of_decide_eq_true this
  have hpd : (T.takeWhile p).Pairwise (fun x y => lt2 c x y = true) ∧ (T.dropWhile p).Pairwise (fun x y => lt2 c x y = true) := by
    rw [hsplit] at hpair
    rw [List.takeWhile_append_dropWhile] at hpair
    rw [← List.takeWhile_append_dropWhile (p := p) (l := T)] at hpair
    exact ⟨(List.pairwise_append.1 hpair).1, (List.pairwise_append.1 hpair).2.1⟩
  have h2 : ∀ x ∈ T.dropWhile p, 0 < c x i := fun x hx => by
    cases hd : T.dropWhile p with
    | nil => rw [hd] at hx; cases hx
    | cons a l =>
      have ha : p a = false := by
        have := List.head?_dropWhile_not p T
        rw [hd] at this
        simpa using this
      have ha' : 0 < c a i := by
        rw [hp] at ha
        have := of_decide_eq_false ha
        omega
      rw [hd] at hx
      rcases List.mem_cons.1 hx with rfl | hx
      · exact ha'
      · have hq := hpd.2
        rw [hd] at hq
        have := (List.pairwise_cons.1 hq).1 x hx
        simp only [lt2, decide_eq_true_eq] at this
        by_cases e : 0 < c x i
        · exact e
        · have := h.trans a x i (by omega) (by omega); omega
  have conv2 : ∀ l : List Int, l.Pairwise (fun x y => lt2 c x y = true) → (∀ x ∈ l, ∀ y ∈ l, (0 < c x i ↔ 0 < c y i)) → l.Pairwise (Bf c i) := fun l hl hs => by
    refine List.Pairwise.imp_of_mem (fun {a b} ha hb hab => ?_) hl
    simp only [lt2, decide_eq_true_eq] at hab
    rcases hab with hab | hab
    · exact .inl (.inr ⟨hs a ha b hb, hab⟩)
    · exact .inr hab
  constructor
  · refine List.Pairwise.filter _ (List.pairwise_append.2 ⟨conv2 _ hpd.2 (fun x hx y hy => ?_), conv2 _ hpd.1 (fun x hx y hy => ?_), fun x hx y hy => ?_⟩)
    · have := h2 x hx; have := h2 y hy; omega
    · have := h1 x hx; have := h1 y hy; omega
    · exact .inl (.inl ⟨h2 x hx, h1 y hy⟩)
  · intro x
    rw [List.mem_filter, List.mem_append, Or.comm, ← List.mem_append, List.takeWhile_append_dropWhile, hT, sorts_mem h]
    exact and_assoc
theorem next_spec (h : Pre c) (ok : Int → Bool) (n : Nat) (i : Int) (hok : ∀ k, c k i ≤ 0 → ok k = true) : IsNext c ok n i (nextg c ok n i) := by
  obtain ⟨hp, hm⟩ := round_spec h ok n i hok
  unfold nextg
  cases hf : (roundg c ok n i).find? (fun k => decide (c k i ≠ 0)) with
  | none =>
    right
    refine ⟨rfl, fun k hk => ?_⟩
    have := List.find?_eq_none.1 hf k ((hm k).2 ⟨hk.1, hk.2.1, hk.2.2.1⟩)
    simp at this
    exact hk.2.2.2 this
  | some j =>
    left
    obtain ⟨hj, l1, l2, he, ha⟩ := List.find?_eq_some_iff_append.1 hf
    have hj' : c j i ≠ 0 := by simpa using hj
    have hjm : j ∈ roundg c ok n i := by rw [he]; simp
    refine ⟨⟨((hm j).1 hjm).1, ((hm j).1 hjm).2.1, ((hm j).1 hjm).2.2, hj'⟩, fun k hk => ?_⟩
    have hkm := (hm k).2 ⟨hk.1, hk.2.1, hk.2.2.1⟩
    rw [he] at hkm hp
    rcases List.mem_append.1 hkm with h1 | h1
    · have := ha k h1
      simp at this
      exact absurd this hk.2.2.2
    · rcases List.mem_cons.1 h1 with h1 | h1
      · exact .inl h1
      · exact .inr ((List.pairwise_cons.1 (List.pairwise_append.1 hp).2.1).1 k h1)
/-- What the fold has found of those that it has seen. -/
def Seen (c : Int → Int → Int) (i : Int) (pre : List Int) (best : Int) : Prop := (best = i ∧ ∀ k ∈ pre, c k i = 0) ∨ (best ∈ pre ∧ c best i ≠ 0 ∧ ∀ k ∈ pre, c k i ≠ 0 → k = best ∨ Ah c i k best ∨ (c best k = 0 ∧ best < k))
theorem seen_step (h : Pre c) {i : Int} {pre : List Int} {best k : Int} (hs : Seen c i pre best) (hb : ∀ x ∈ pre, Bf c i x k) : Seen c i (pre ++ [k]) (if c k i ≠ 0 ∧ (best = i ∨ c k best ≠ 0) then k else best) := by
  rcases hs with ⟨rfl, hz⟩ | ⟨hm, hn, ha⟩
  · by_cases hk : c k best = 0
    · rw [if_neg (by simp [hk])]
      left
      refine ⟨rfl, fun x hx => ?_⟩
      rcases List.mem_append.1 hx with hx | hx
      · exact hz x hx
      · rw [List.mem_singleton.1 hx]; exact hk
    · rw [if_pos ⟨hk, .inl rfl⟩]
      right
      refine ⟨by simp, hk, fun x hx hxn => ?_⟩
      rcases List.mem_append.1 hx with hx | hx
      · exact absurd (hz x hx) hxn
      · exact .inl (List.mem_singleton.1 hx)
  · have hbi : best ≠ i := fun e => hn (by rw [e]; exact h.self i)
    by_cases hk : c k i = 0
    · rw [if_neg (by simp [hk])]
      right
      refine ⟨by simp [hm], hn, fun x hx hxn => ?_⟩
      rcases List.mem_append.1 hx with hx | hx
      · exact ha x hx hxn
      · rw [List.mem_singleton.1 hx] at hxn; exact absurd hk hxn
    · by_cases hkb : c k best = 0
      · rw [if_neg (by simp [hkb, hbi])]
        right
        refine ⟨by simp [hm], hn, fun x hx hxn => ?_⟩
        rcases List.mem_append.1 hx with hx | hx
        · exact ha x hx hxn
        · obtain rfl := List.mem_singleton.1 hx
          rcases hb best hm with u | u
          · exact absurd ((h.zero _ _).1 hkb) (u.ne h)
          · exact .inr (.inr u)
      · rw [if_pos ⟨hk, .inr hkb⟩]
        right
        have hbk : Ah c i best k := by
          rcases hb best hm with u | u
          · exact u
          · exact absurd ((h.zero _ _).1 u.1) hkb
        refine ⟨by simp, hk, fun x hx hxn => ?_⟩
        rcases List.mem_append.1 hx with hx | hx
        · rcases ha x hx hxn with rfl | u | ⟨u, _⟩
          · exact .inr (.inl hbk)
          · exact .inr (.inl (u.trans h hbk))
          · exact .inr (.inl (Ah.left h ((h.zero _ _).1 u) hbk))
        · exact .inl (List.mem_singleton.1 hx)
theorem seen_all (h : Pre c) {i : Int} : ∀ (post pre : List Int) (best : Int), (pre ++ post).Pairwise (Bf c i) → Seen c i pre best → Seen c i (pre ++ post) (post.foldl (fun best k => if c k i ≠ 0 ∧ (best = i ∨ c k best ≠ 0) then k else best) best)
  | [], pre, best, _, hs => by simpa using hs
  | k :: post, pre, best, hp, hs => by
    have e : pre ++ k :: post = (pre ++ [k]) ++ post := by simp
    rw [e] at hp ⊢
    refine seen_all h post (pre ++ [k]) _ hp (seen_step h hs (fun x hx => ?_))
    exact (List.pairwise_append.1 (List.pairwise_append.1 hp).1).2.2 x hx k (by simp)
theorem prev_spec (h : Pre c) (ok : Int → Bool) (n : Nat) (i : Int) (hok : ∀ k, c k i ≤ 0 → ok k = true) : IsPrev c ok n i (prevg c ok n i) := by
  obtain ⟨hp, hm⟩ := round_spec h ok n i hok
  have := seen_all h (roundg c ok n i) [] i (by simpa using hp) (.inl ⟨rfl, fun _ hk => by cases hk⟩)
  rw [List.nil_append] at this
  unfold prevg
  rcases this with ⟨h1, h2⟩ | ⟨h1, h2, h3⟩
  · exact .inr ⟨h1, fun k hk => hk.2.2.2 (h2 k ((hm k).2 ⟨hk.1, hk.2.1, hk.2.2.1⟩))⟩
  · exact .inl ⟨⟨((hm _).1 h1).1, ((hm _).1 h1).2.1, ((hm _).1 h1).2.2, h2⟩, fun k hk => h3 k ((hm k).2 ⟨hk.1, hk.2.1, hk.2.2.1⟩) hk.2.2.2⟩
end Go.Proofs.Ytojdmloimmcacaa.TP
