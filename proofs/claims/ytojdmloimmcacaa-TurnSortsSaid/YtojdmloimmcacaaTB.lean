/- Proved: a stable sort by blocks, plain: blocks in order, merged two by two, come to the insertion sort of the whole; no program. -/
import Derived.Test.YtojdmloimmcacaaTM
namespace Go.Proofs.Ytojdmloimmcacaa.TP
open Go.Sort
set_option linter.unusedVariables false
variable {c : Int → Int → Int}
theorem outer_same2 (c : Int → Int → Int) (a b : Nat) : ∀ (m i : Nat) (d : Array Int), b - i = m → b ≤ d.size → (∀ k, i ≤ k → k < b → d[k]! = (k : Int)) → (∀ k, k < i → k < b → d[k]! < (i : Int)) → insOuter (lt1 c) a b i d = insOuter (lt2 c) a b i d
  | 0, i, d, hm, _, _, _ => by
    rw [insOuter_stop _ _ _ _ _ (by omega), insOuter_stop _ _ _ _ _ (by omega)]
  | m + 1, i, d, hm, hb, h1, h2 => by
    have hi : i < b := by omega
    rw [insOuter_go _ _ _ _ _ hi, insOuter_go _ _ _ _ _ hi]
    have hv := h1 i (Nat.le_refl _) hi
    rw [inner_same c a i d (by omega) (fun k hk => by rw [hv]; exact h2 k hk (by omega))]
    obtain ⟨k1, k2, k3⟩ := inner_keep (lt2 c) a (fun x => x < (i : Int) + 1) i d (by omega) (fun k hk => by
      rcases Nat.lt_or_ge k i with h | h
      · have := h2 k h (by omega); omega
      · have : k = i := by omega
        subst this; rw [hv]; omega)
    refine outer_same2 c a b m (i + 1) _ (by omega) (by omega) (fun k hk hkb => ?_) (fun k hk hkb => ?_)
    · rw [k3 k (by omega)]; exact h1 k (by omega) hkb
    · have := k2 k (by omega); omega
/-- Blocks of t up to p, of s behind. -/
structure Prog (lt : Int → Int → Bool) (s t p n : Nat) (d : Array Int) : Prop where
  perm : PermIn 0 n (iota n) d
  hA : ∀ q i, i < p → (q * t ≤ i ↔ ((q * t : Nat) : Int) ≤ d[i]!)
  hB : ∀ q i, p ≤ i → i < n → (q * s ≤ i ↔ ((q * s : Nat) : Int) ≤ d[i]!)
  sA : ∀ q i j, q * t ≤ i → i < j → j < p → j < (q + 1) * t → lt d[j]! d[i]! = false
  sB : ∀ q i j, q * s ≤ i → p ≤ i → i < j → j < n → j < (q + 1) * s → lt d[j]! d[i]! = false
variable {lt : Int → Int → Bool} {s t p n : Nat} {d d' : Array Int}
theorem Prog.size (h : Prog lt s t p n d) : d.size = n := by rw [h.perm.1, iota_size]
theorem Prog.start (lt : Int → Int → Bool) (t n : Nat) : Prog lt 1 t 0 n (iota n) where
  perm := permIn_refl _ _ _
  hA q i h := by omega
  hB q i _ h := by rw [iota_get n i h, Nat.mul_one]; omega
  sA q i j _ _ h := by omega
  sB q i j h1 _ h2 _ h3 := by omega
/-- The piece [p, q) has been put in order. -/
theorem Prog.step (h : Prog lt s t p n d) (P k : Nat) (hp : p = P * t) (ht : t = k * s) {q : Nat} (hpq : p ≤ q) (hqt : q ≤ p + t) (hq : q ≤ n) (m : Merged lt p q d d') : Prog lt s t q n d' := by
  have hs := h.size
  have e1 : (P * k) * s = p := by rw [hp, ht, Nat.mul_assoc]
  have e2 : ((P + 1) * k) * s = p + t := by rw [hp, ht, Nat.add_mul, Nat.add_mul, Nat.one_mul, Nat.mul_assoc]
  have hin : ∀ i, p ≤ i → i < q → (p : Int) ≤ d'[i]! ∧ d'[i]! < ((p + t : Nat) : Int) := by
    refine permIn_all d d' p q (fun v => (p : Int) ≤ v ∧ v < ((p + t : Nat) : Int)) (by omega) m.1 (fun i h1 h2 => ?_)
    have a1 := h.hB (P * k) i h1 (by omega)
    have a2 := h.hB ((P + 1) * k) i h1 (by omega)
    rw [e1] at a1
    rw [e2] at a2
    omega
  have out : ∀ i, i < p ∨ q ≤ i → d'[i]! = d[i]! := m.1.2.1
  refine ⟨permIn_trans _ _ _ 0 n h.perm (permIn_mono _ _ _ _ _ _ (Nat.zero_le _) hq (by omega) m.1), fun r i hi => ?_, fun r i h1 h2 => ?_, fun r i j h1 h2 h3 h4 => ?_, fun r i j h1 h2 h3 h4 h5 => ?_⟩
  · rcases Nat.lt_or_ge i p with hip | hip
    · rw [out i (.inl hip)]; exact h.hA r i hip
    · have := hin i hip hi
      rcases Nat.lt_or_ge P r with hr | hr
      · have := Nat.mul_le_mul_right t (show P + 1 ≤ r by omega)
        rw [Nat.add_mul, Nat.one_mul, ← hp] at this
        omega
      · have := Nat.mul_le_mul_right t hr
        rw [← hp] at this
        omega
  · rw [out i (.inr h1)]; exact h.hB r i (by omega) h2
  · rcases Nat.lt_or_ge j p with hj | hj
    · rw [out i (.inl (by omega)), out j (.inl hj)]; exact h.sA r i j h1 h2 hj h4
    · rcases Nat.lt_or_ge i p with hi | hi
      · exfalso
        rcases Nat.lt_or_ge r P with hr | hr
        · have := Nat.mul_le_mul_right t (show r + 1 ≤ P by omega)
          rw [← hp] at this
          omega
        · have := Nat.mul_le_mul_right t hr
          rw [← hp] at this
          omega
      · exact m.2 i j hi h2 h3
  · rw [out i (.inr h2), out j (.inr (by omega))]; exact h.sB r i j h1 (by omega) h3 h4 h5
/-- All blocks are of t: the next pass. -/
theorem Prog.next (h : Prog lt s t n n d) (u : Nat) : Prog lt t u 0 n d where
  perm := h.perm
  hA q i hi := by omega
  hB q i _ hi := h.hA q i hi
  sA q i j _ _ hj := by omega
  sB q i j h1 _ h2 h3 h4 := h.sA q i j h1 h2 h3 h4
theorem Prog.left (h : Prog lt s t p n d) (r : Nat) (hp : p = r * s) (m : Nat) (hm : m ≤ p + s) (hn : m ≤ n) : SortedIn lt p m d := fun i j h1 h2 h3 =>
  h.sB r i j (by omega) h1 h2 (by omega) (by rw [Nat.add_mul, Nat.one_mul, ← hp]; omega)
theorem Prog.right (h : Prog lt s t p n d) (r : Nat) (hp : p = r * s) (m : Nat) (hm : m ≤ p + s + s) (hn : m ≤ n) : SortedIn lt (p + s) m d := fun i j h1 h2 h3 =>
  h.sB (r + 1) i j (by rw [Nat.add_mul, Nat.one_mul, ← hp]; omega) (by omega) h2 (by omega) (by rw [Nat.add_mul, Nat.add_mul, Nat.one_mul, ← hp]; omega)
theorem Prog.acr (h : Prog (lt2 c) s t p n d) (r : Nat) (hp : p = r * s) (m : Nat) (hn : m ≤ n) : Acr (lt1 c) (lt2 c) p (p + s) m d := fun x y h1 h2 h3 h4 => by
  have e : (r + 1) * s = p + s := by rw [Nat.add_mul, Nat.one_mul, ← hp]
  have a1 := h.hB (r + 1) x h1 (by omega)
  have a2 := h.hB (r + 1) y (by omega) (by omega)
  rw [e] at a1 a2
  simp only [lt1, lt2, decide_eq_decide]
  omega
/-- The last pass is done: the whole is in order. -/
theorem Prog.all (h : Prog lt s t 0 n d) (hn : n ≤ s) : SortedIn lt 0 n d := fun i j h1 h2 h3 => h.sB 0 i j (by omega) (Nat.zero_le _) h2 h3 (by omega)
/-- A piece of untouched places, by the insertion sort. -/
theorem Prog.ins (hc : Pre c) (h : Prog (lt2 c) 1 t p n d) (P : Nat) (hp : p = P * t) {q : Nat} (hpq : p ≤ q) (hq : q ≤ n) : insertionSort (lt1 c) d p q = insertionSort (lt2 c) d p q ∧ Merged (lt2 c) p q d (insertionSort (lt1 c) d p q) := by
  have hs := h.size
  have hv : ∀ k, p ≤ k → k < q → d[k]! = (k : Int) := fun k h1 h2 => by
    have a1 := h.hB k k h1 (by omega)
    have a2 := h.hB (k + 1) k h1 (by omega)
    rw [Nat.mul_one] at a1 a2
    omega
  have hb : ∀ k, k < p → d[k]! < (p : Int) := fun k hk => by
    have := h.hA P k hk
    rw [← hp] at this
    omega
  have e : insertionSort (lt1 c) d p q = insertionSort (lt2 c) d p q := by
    unfold insertionSort
    refine outer_same2 c p q _ (p + 1) d rfl (by omega) (fun k h1 h2 => hv k (by omega) h2) (fun k h1 h2 => ?_)
    rcases Nat.lt_or_ge k p with h3 | h3
    · have := hb k h3; omega
    · rw [hv k h3 h2]; omega
  refine ⟨e, ?_⟩
  rw [e]
  exact insertionSort_holds (swo2 hc) d p q hpq (by omega)
/-- There is one row in order of the places. -/
theorem only_sorts (hc : Pre c) (hp : PermIn 0 n (iota n) d) (hs : SortedIn (lt2 c) 0 n d) : d = sorts c n := by
  have hsz : d.size = n := by rw [hp.1, iota_size]
  have hperm : d.toList.Perm ((List.range n).map Int.ofNat) := by
    have := hp.2.2
    rw [extract_all _ n hsz, extract_all _ n (iota_size n)] at this
    refine this.trans ?_
    simp only [iota, Array.toList_map, Array.toList_range]
    exact List.Perm.refl _
  have hpair : d.toList.Pairwise fun x y => lt2 c x y = true := by
    rw [List.pairwise_iff_getElem]
    intro i j hi hj hij
    have hi' : i < n := by simpa [hsz] using hi
    have hj' : j < n := by simpa [hsz] using hj
    have h1 := hs i j (Nat.zero_le _) hij hj'
    have hnd : d.toList.Nodup := by
      refine hperm.nodup_iff.2 ?_
      refine List.Pairwise.map _ ?_ List.nodup_range
      intro a b hab e; exact hab (Int.ofNat.inj e)
    have hne : d.toList[i] ≠ d.toList[j] := by
      intro e
      have := (List.getElem_inj (h₀ := hi) (h₁ := hj) hnd).1 e
      omega
    have e1 : d[i]! = d.toList[i] := by
      have : i < d.size := by omega
      simp [this]
    have e2 : d[j]! = d.toList[j] := by
      have : j < d.size := by omega
      simp [this]
    rw [e1, e2] at h1
    cases h2 : lt2 c d.toList[i] d.toList[j] with
    | true => rfl
    | false => exact absurd (lt2_total hc _ _ h2 h1) hne
  have := pair_uniq hc _ _ hpair (sorts_pair hc n) (hperm.trans (sorts_perm hc n).symm)
  exact Array.toList_inj.1 this
end Go.Proofs.Ytojdmloimmcacaa.TP
