/- Proved: the places in order by a comparison, the next and the previous one round from a place, as orders say; plain lists, no program; the condition is that the comparison is a total preorder. -/
import Derived.Sort.WalkA
import Derived.Sort.LotA
namespace Go.Proofs.Ytojdmloimmcacaa.TP
open Go.Sort
set_option linter.unusedVariables false
/-- A comparison whose order is total. -/
structure Pre (c : Int → Int → Int) : Prop where
  anti : ∀ x y, c y x < 0 ↔ 0 < c x y
  trans : ∀ x y z, c x y ≤ 0 → c y z ≤ 0 → c x z ≤ 0
variable {c : Int → Int → Int}
theorem Pre.zero (h : Pre c) (x y : Int) : c x y = 0 ↔ c y x = 0 := by
  have a := h.anti x y; have b := h.anti y x; omega
theorem Pre.le (h : Pre c) (x y : Int) : c x y ≤ 0 ↔ 0 ≤ c y x := by
  have a := h.anti x y; have b := h.anti y x; omega
theorem Pre.self (h : Pre c) (x : Int) : c x x = 0 := by
  have a := h.anti x x; omega
/-- By the comparison, then by the place. -/
def lt2 (c : Int → Int → Int) (x y : Int) : Bool := decide (c x y < 0 ∨ (c x y = 0 ∧ x < y))
def lt1 (c : Int → Int → Int) (x y : Int) : Bool := decide (c x y < 0)
theorem Pre.ltle (h : Pre c) {x y z : Int} (a : c x y < 0) (b : c y z ≤ 0) : c x z < 0 := by
  have t := h.trans z x y; have p := h.le y z; have q := h.le z x; have r := h.anti x z; have s := h.anti y x; have u := h.anti x y
  have := h.trans y z x
  by_cases e : c x z < 0
  · exact e
  · exfalso
    have k : c z x ≤ 0 := by have := h.le z x; omega
    have := this b k
    have := h.anti x y; have := h.le y x; omega
theorem Pre.lelt (h : Pre c) {x y z : Int} (a : c x y ≤ 0) (b : c y z < 0) : c x z < 0 := by
  by_cases e : c x z < 0
  · exact e
  · exfalso
    have k : c z x ≤ 0 := by have := h.le z x; omega
    have := h.trans z x y k a
    have := h.le z y; omega
theorem swo2 (h : Pre c) : SWO (lt2 c) where
  irrefl x := by simp [lt2, h.self x]
  trans x y z a b := by
    simp only [lt2, decide_eq_true_eq] at *
    rcases a with a | ⟨a, a'⟩
    · exact .inl (h.ltle a (by omega))
    · rcases b with b | ⟨b, b'⟩
      · exact .inl (h.lelt (by omega) b)
      · have h1 := h.trans x y z (by omega) (by omega)
        have h2 := h.trans z y x (by have := h.zero y z; omega) (by have := h.zero x y; omega)
        have := h.le z x
        exact .inr ⟨by omega, by omega⟩
  ntrans x y z a b := by
    simp only [lt2, decide_eq_false_iff_not, not_or, not_and] at *
    obtain ⟨a1, a2⟩ := a
    obtain ⟨b1, b2⟩ := b
    have p := h.le y x
    have q := h.le z y
    have t := h.trans z y x (by omega) (by omega)
    have r := h.le z x
    refine ⟨by omega, fun e => ?_⟩
    have e2 := (h.zero x z).1 e
    have u1 : c x y ≤ 0 := h.trans x z y (by omega) (by omega)
    have u2 : c y z ≤ 0 := h.trans y x z (by omega) (by omega)
    have v1 := a2 (by omega)
    have v2 := b2 (by omega)
    omega
theorem lt2_total (h : Pre c) (x y : Int) (a : lt2 c x y = false) (b : lt2 c y x = false) : x = y := by
  simp only [lt2, decide_eq_false_iff_not, not_or, not_and] at *
  have p := h.le y x; have q := h.le x y; have := h.zero x y
  have e : c x y = 0 := by omega
  have := a.2 e; have := b.2 (by omega); omega
/-! ### the insertion sort of the places -/
theorem inner_same (c : Int → Int → Int) (a : Nat) : ∀ (j : Nat) (d : Array Int), j < d.size → (∀ k, k < j → d[k]! < d[j]!) → insInner (lt1 c) a j d = insInner (lt2 c) a j d
  | 0, _, _, _ => by unfold insInner; rfl
  | j + 1, d, hj, h => by
    unfold insInner
    have e : lt1 c d[j + 1]! d[j]! = lt2 c d[j + 1]! d[j]! := by
      have := h j (by omega)
      simp only [lt1, lt2, decide_eq_decide]
      constructor
      · exact fun h => .inl h
      · rintro (h | ⟨_, h⟩)
        · exact h
        · omega
    rw [e]
    split
    · have g := swp_get d hj (show j < d.size by omega)
      refine inner_same c a j _ (by rw [swp_size]; omega) (fun k hk => ?_)
      rw [g, g]
      simp only [if_true, show k ≠ j by omega, show k ≠ j + 1 by omega, if_false]
      have := h k (by omega)
      simpa using this
    · rfl
theorem inner_keep (lt : Int → Int → Bool) (a : Nat) (p : Int → Prop) : ∀ (j : Nat) (d : Array Int), j < d.size → (∀ k, k ≤ j → p d[k]!) → (insInner lt a j d).size = d.size ∧ (∀ k, k ≤ j → p (insInner lt a j d)[k]!) ∧ ∀ k, j < k → (insInner lt a j d)[k]! = d[k]!
  | 0, d, _, h => by unfold insInner; exact ⟨rfl, h, fun _ _ => rfl⟩
  | j + 1, d, hj, h => by
    unfold insInner
    split
    · have g := swp_get d hj (show j < d.size by omega)
      obtain ⟨h1, h2, h3⟩ := inner_keep lt a p j (swp d (j + 1) j) (by rw [swp_size]; omega) (fun k hk => by
        rw [g]
        split
        · exact h _ (by omega)
        · split
          · exact h _ (by omega)
          · exact h _ (by omega))
      refine ⟨by rw [h1, swp_size], fun k hk => ?_, fun k hk => ?_⟩
      · rcases Nat.lt_or_ge j k with hl | hl
        · rw [h3 k hl, g]
          split
          · exact h _ (by omega)
          · split
            · exact h _ (by omega)
            · exact h _ (by omega)
        · exact h2 k hl
      · rw [h3 k (by omega), g]
        simp [show k ≠ j by omega, show k ≠ j + 1 by omega]
    · exact ⟨rfl, h, fun _ _ => rfl⟩
theorem outer_same (c : Int → Int → Int) (b : Nat) : ∀ (m i : Nat) (d : Array Int), b - i = m → b ≤ d.size → (∀ k, i ≤ k → k < b → d[k]! = (k : Int)) → (∀ k, k < i → k < b → d[k]! < (i : Int)) → insOuter (lt1 c) 0 b i d = insOuter (lt2 c) 0 b i d
  | 0, i, d, hm, _, _, _ => by
    rw [insOuter_stop _ _ _ _ _ (by omega), insOuter_stop _ _ _ _ _ (by omega)]
  | m + 1, i, d, hm, hb, h1, h2 => by
    have hi : i < b := by omega
    rw [insOuter_go _ _ _ _ _ hi, insOuter_go _ _ _ _ _ hi]
    have hv := h1 i (Nat.le_refl _) hi
    rw [inner_same c 0 i d (by omega) (fun k hk => by rw [hv]; exact h2 k hk (by omega))]
    obtain ⟨k1, k2, k3⟩ := inner_keep (lt2 c) 0 (fun x => x < (i : Int) + 1) i d (by omega) (fun k hk => by
      rcases Nat.lt_or_ge k i with h | h
      · have := h2 k h (by omega); omega
      · have : k = i := by omega
        subst this; rw [hv]; omega)
    refine outer_same c b m (i + 1) _ (by omega) (by omega) (fun k hk hkb => ?_) (fun k hk hkb => ?_)
    · rw [k3 k (by omega)]; exact h1 k (by omega) hkb
    · have := k2 k (by omega); omega
/-- The places 0, 1, .. -/
def iota (n : Nat) : Array Int := (Array.range n).map Int.ofNat
theorem iota_size (n : Nat) : (iota n).size = n := by simp [iota]
theorem iota_get (n k : Nat) (h : k < n) : (iota n)[k]! = (k : Int) := by simp [iota, h]
theorem sorted_same (c : Int → Int → Int) (n : Nat) : insertionSort (lt1 c) (iota n) 0 n = insertionSort (lt2 c) (iota n) 0 n := by
  unfold insertionSort
  by_cases h : n = 0
  · subst h
    rw [insOuter_stop _ _ _ _ _ (by omega), insOuter_stop _ _ _ _ _ (by omega)]
  · refine outer_same c n _ 1 _ rfl (by rw [iota_size]; omega) (fun k _ hk => iota_get n k hk) (fun k hk hkn => ?_)
    rw [iota_get n k hkn]; omega
theorem outer_keep (lt : Int → Int → Bool) (p : Int → Prop) (b : Nat) : ∀ (m i : Nat) (d : Array Int), b - i = m → b ≤ d.size → (∀ k, k < b → p d[k]!) → (insOuter lt 0 b i d).size = d.size ∧ ∀ k, k < b → p (insOuter lt 0 b i d)[k]!
  | 0, i, d, hm, _, h => by
    rw [insOuter_stop _ _ _ _ _ (by omega)]
    exact ⟨rfl, h⟩
  | m + 1, i, d, hm, hb, h => by
    have hi : i < b := by omega
    rw [insOuter_go _ _ _ _ _ hi]
    obtain ⟨k1, k2, k3⟩ := inner_keep lt 0 p i d (by omega) (fun k hk => h k (by omega))
    obtain ⟨j1, j2⟩ := outer_keep lt p b m (i + 1) _ (by omega) (by rw [k1]; exact hb) (fun k hk => by
      rcases Nat.lt_or_ge i k with h1 | h1
      · rw [k3 k h1]; exact h k hk
      · exact k2 k h1)
    exact ⟨by rw [j1, k1], j2⟩
theorem sorts_keep (lt : Int → Int → Bool) (n : Nat) : (insertionSort lt (iota n) 0 n).size = n ∧ ∀ k, k < n → 0 ≤ (insertionSort lt (iota n) 0 n)[k]! ∧ (insertionSort lt (iota n) 0 n)[k]! < (n : Int) := by
  have := outer_keep lt (fun x => 0 ≤ x ∧ x < (n : Int)) n _ 1 (iota n) rfl (by rw [iota_size]; exact Nat.le_refl _) (fun k hk => by rw [iota_get n k hk]; omega)
  rw [iota_size] at this
  exact this
/-- The places in order. -/
def sorts (c : Int → Int → Int) (n : Nat) : Array Int := insertionSort (lt1 c) (iota n) 0 n
theorem sorts_spec (h : Pre c) (n : Nat) : PermIn 0 n (iota n) (sorts c n) ∧ SortedIn (lt2 c) 0 n (sorts c n) := by
  unfold sorts
  rw [sorted_same]
  exact insertionSort_holds (swo2 h) (iota n) 0 n (Nat.zero_le _) (by rw [iota_size]; exact Nat.le_refl _)
theorem sorts_size (h : Pre c) (n : Nat) : (sorts c n).size = n := by
  rw [(sorts_spec h n).1.1, iota_size]
theorem extract_all (d : Array Int) (n : Nat) (h : d.size = n) : d.extract 0 n = d := by
  subst h; simp
theorem sorts_perm (h : Pre c) (n : Nat) : (sorts c n).toList.Perm ((List.range n).map Int.ofNat) := by
  have := (sorts_spec h n).1.2.2
  rw [extract_all _ n (sorts_size h n), extract_all _ n (iota_size n)] at this
  refine this.trans ?_
  simp only [iota, Array.toList_map, Array.toList_range]
  exact List.Perm.refl _
theorem sorts_mem (h : Pre c) (n : Nat) (x : Int) : x ∈ (sorts c n).toList ↔ 0 ≤ x ∧ x < (n : Int) := by
  rw [(sorts_perm h n).mem_iff]
  simp only [List.mem_map, List.mem_range]
  constructor
  · rintro ⟨k, hk, rfl⟩; exact ⟨Int.natCast_nonneg _, Int.ofNat_lt.2 hk⟩
  · rintro ⟨h0, h1⟩; exact ⟨x.toNat, by omega, by simp; omega⟩
theorem sorts_pair (h : Pre c) (n : Nat) : (sorts c n).toList.Pairwise fun x y => lt2 c x y = true := by
  have hs := sorts_size h n
  rw [List.pairwise_iff_getElem]
  intro i j hi hj hij
  have hi' : i < n := by simpa [hs] using hi
  have hj' : j < n := by simpa [hs] using hj
  have h1 := (sorts_spec h n).2 i j (Nat.zero_le _) hij hj'
  have hnd : (sorts c n).toList.Nodup := by
    refine (sorts_perm h n).nodup_iff.2 ?_
    refine List.Pairwise.map _ ?_ List.nodup_range
    intro a b hab e; exact hab (Int.ofNat.inj e)
  have hne : (sorts c n).toList[i] ≠ (sorts c n).toList[j] := by
    intro e
    have := (List.getElem_inj (h₀ := hi) (h₁ := hj) hnd).1 e
    omega
  have e1 : (sorts c n)[i]! = (sorts c n).toList[i] := by
    have : i < (sorts c n).size := by omega
    simp [this]
  have e2 : (sorts c n)[j]! = (sorts c n).toList[j] := by
    have : j < (sorts c n).size := by omega
    simp [this]
  rw [e1, e2] at h1
  cases h2 : lt2 c (sorts c n).toList[i] (sorts c n).toList[j] with
  | true => rfl
  | false => exact absurd (lt2_total h _ _ h2 h1) hne
/-- Two rows of numbers, each in order, of the same elements, are one. -/
theorem pair_uniq (h : Pre c) : ∀ (l m : List Int), l.Pairwise (fun x y => lt2 c x y = true) → m.Pairwise (fun x y => lt2 c x y = true) → l.Perm m → l = m
  | [], m, _, _, hp => by simpa using hp.symm.eq_nil
  | a :: l, [], _, _, hp => absurd hp.eq_nil (by simp)
  | a :: l, b :: m, hl, hm, hp => by
    have S := swo2 h
    have e : a = b := by
      have h1 : a ∈ b :: m := hp.mem_iff.1 (by simp)
      have h2 : b ∈ a :: l := hp.mem_iff.2 (by simp)
      rcases List.mem_cons.1 h1 with h1 | h1
      · exact h1
      rcases List.mem_cons.1 h2 with h2 | h2
      · exact h2.symm
      have p1 := (List.pairwise_cons.1 hm).1 a h1
      have p2 := (List.pairwise_cons.1 hl).1 b h2
      have := S.trans _ _ _ p1 p2
      rw [S.irrefl] at this; cases this
    subst e
    rw [pair_uniq h l m (List.pairwise_cons.1 hl).2 (List.pairwise_cons.1 hm).2 (List.perm_cons a |>.1 hp)]
end Go.Proofs.Ytojdmloimmcacaa.TP
