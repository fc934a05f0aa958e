/- Proved: swapping ranges, rotating and merging as rows: what the stable sort's merge does, plain; no program. -/
import Derived.Test.YtojdmloimmcacaaTP
namespace Go.Proofs.Ytojdmloimmcacaa.TP
open Go.Sort
set_option linter.unusedVariables false
/-- d' is d with the ranges [a, a+n) and [b, b+n) exchanged. -/
structure SwR (a b n : Nat) (d d' : Array Int) : Prop where
  size : d'.size = d.size
  at_ : ∀ k, d'[k]! = if a ≤ k ∧ k < a + n then d[k - a + b]! else if b ≤ k ∧ k < b + n then d[k - b + a]! else d[k]!
  perm : ∀ lo hi, lo ≤ a → a ≤ b → b + n ≤ hi → hi ≤ d.size → PermIn lo hi d d'
theorem SwR.zero (a b : Nat) (d : Array Int) : SwR a b 0 d d := ⟨rfl, fun k => by
  rw [if_neg (by omega), if_neg (by omega)], fun lo hi _ _ _ _ => permIn_refl d lo hi⟩
theorem SwR.step {a b t : Nat} {d dk : Array Int} (h : SwR a b t d dk) (n : Nat) (hab : a + n ≤ b) (ht : t < n) (hb : b + n ≤ d.size) : SwR a b (t + 1) d (swp dk (a + t) (b + t)) := by
  have hs := h.size
  have g := swp_get dk (show a + t < dk.size by omega) (show b + t < dk.size by omega)
  refine ⟨by rw [swp_size, hs], fun k => ?_, fun lo hi h1 h2 h3 h4 => ?_⟩
  · rw [g, h.at_, h.at_, h.at_]
    by_cases e1 : k = b + t
    · subst e1
      rw [if_pos rfl, if_neg (by omega), if_neg (by omega), if_neg (by omega), if_pos (by omega)]
      congr 1; omega
    · by_cases e2 : k = a + t
      · subst e2
        rw [if_neg e1, if_pos rfl, if_neg (by omega), if_neg (by omega), if_pos (by omega)]
        congr 1; omega
      · rw [if_neg e1, if_neg e2]
        by_cases c1 : a ≤ k ∧ k < a + t
        · rw [if_pos c1, if_pos (by omega)]
        · rw [if_neg c1]
          by_cases c2 : b ≤ k ∧ k < b + t
          · rw [if_pos c2, if_neg (by omega), if_pos (by omega)]
          · rw [if_neg c2, if_neg (by omega), if_neg (by omega)]
  · exact permIn_trans _ _ _ lo hi (h.perm lo hi h1 h2 (by omega) h4) (swp_permIn dk lo hi (a + t) (b + t) (by omega) (by omega) (by omega) (by omega) (by omega))
/-- d' is d with [a, m) and [m, b) exchanged as wholes. -/
structure RotR (a m b : Nat) (d d' : Array Int) : Prop where
  size : d'.size = d.size
  at_ : ∀ k, d'[k]! = if a ≤ k ∧ k < b then (if k < a + (b - m) then d[k - a + m]! else d[k - (b - m)]!) else d[k]!
  perm : ∀ lo hi, lo ≤ a → b ≤ hi → hi ≤ d.size → PermIn lo hi d d'
theorem RotR.even {m i : Nat} {d d' : Array Int} (h : SwR (m - i) m i d d') (hi : i ≤ m) : RotR (m - i) m (m + i) d d' := by
  refine ⟨h.size, fun k => ?_, fun lo hi h1 h2 h3 => h.perm lo hi h1 (by omega) h2 h3⟩
  rw [h.at_]
  by_cases c1 : m - i ≤ k ∧ k < m - i + i
  · rw [if_pos c1, if_pos (by omega), if_pos (by omega)]
  · rw [if_neg c1]
    by_cases c2 : m ≤ k ∧ k < m + i
    · rw [if_pos c2, if_pos (by omega), if_neg (by omega)]
      congr 1; omega
    · rw [if_neg c2, if_neg (by omega)]
theorem RotR.more {m i j : Nat} {d d2 d' : Array Int} (h : SwR (m - i) m j d d2) (hij : j < i) (hi : i ≤ m) (r : RotR (m - (i - j)) m (m + j) d2 d') : RotR (m - i) m (m + j) d d' := by
  refine ⟨by rw [r.size, h.size], fun k => ?_, fun lo hi h1 h2 h3 => permIn_trans _ _ _ lo hi (h.perm lo hi h1 (by omega) h2 h3) (r.perm lo hi (by omega) h2 (by rw [h.size]; exact h3))⟩
  simp only [r.at_, h.at_]
  (repeat' split) <;> first | (exfalso; omega) | rfl | (congr 1; omega)
theorem RotR.less {m i j : Nat} {d d2 d' : Array Int} (h : SwR (m - i) (m + j - i) i d d2) (hij : i < j) (hi : i ≤ m) (r : RotR (m - i) m (m + (j - i)) d2 d') : RotR (m - i) m (m + j) d d' := by
  refine ⟨by rw [r.size, h.size], fun k => ?_, fun lo hi h1 h2 h3 => permIn_trans _ _ _ lo hi (h.perm lo hi h1 (by omega) (by omega) h3) (r.perm lo hi (by omega) (by omega) (by rw [h.size]; exact h3))⟩
  simp only [r.at_, h.at_]
  (repeat' split) <;> first | (exfalso; omega) | rfl | (congr 1; omega)
/-- One element moved up to the place ahead of e: so far to k. -/
structure UpR (a k : Nat) (d d' : Array Int) : Prop where
  size : d'.size = d.size
  at_ : ∀ x, d'[x]! = if a ≤ x ∧ x < k then d[x + 1]! else if x = k then d[a]! else d[x]!
  perm : ∀ lo hi, lo ≤ a → k < hi → hi ≤ d.size → PermIn lo hi d d'
theorem UpR.zero (a : Nat) (d : Array Int) : UpR a a d d := ⟨rfl, fun x => by
  rw [if_neg (by omega)]
  by_cases e : x = a
  · rw [if_pos e, e]
  · rw [if_neg e], fun lo hi _ _ _ => permIn_refl d lo hi⟩
theorem UpR.step {a k : Nat} {d dk : Array Int} (h : UpR a k d dk) (hk : k + 1 < d.size) (hak : a ≤ k) : UpR a (k + 1) d (swp dk k (k + 1)) := by
  have hs := h.size
  have g := swp_get dk (show k < dk.size by omega) (show k + 1 < dk.size by omega)
  refine ⟨by rw [swp_size, hs], fun x => ?_, fun lo hi h1 h2 h3 => ?_⟩
  · rw [g, h.at_, h.at_, h.at_]
    by_cases e1 : x = k + 1
    · rw [if_pos e1, if_neg (by omega), if_pos rfl, if_neg (by omega), if_pos e1]
    · by_cases e2 : x = k
      · rw [if_neg e1, if_pos e2, if_neg (by omega), if_neg (by omega), if_pos (by omega), e2]
      · rw [if_neg e1, if_neg e2]
        by_cases c1 : a ≤ x ∧ x < k
        · rw [if_pos c1, if_pos (by omega)]
        · rw [if_neg c1, if_neg (by omega), if_neg (by omega), if_neg (by omega)]
  · exact permIn_trans _ _ _ lo hi (h.perm lo hi h1 (by omega) h3) (swp_permIn dk lo hi k (k + 1) (by omega) (by omega) (by omega) (by omega) (by omega))
theorem UpR.rot {a e : Nat} {d d' : Array Int} (h : UpR a (e - 1) d d') (hae : a < e) : RotR a (a + 1) e d d' := by
  refine ⟨h.size, fun x => ?_, fun lo hi h1 h2 h3 => h.perm lo hi h1 (by omega) h3⟩
  rw [h.at_]
  by_cases c1 : a ≤ x ∧ x < e
  · rw [if_pos c1]
    by_cases c2 : x < a + (e - (a + 1))
    · rw [if_pos c2, if_pos (by omega)]
      congr 1; omega
    · rw [if_neg c2, if_neg (by omega), if_pos (by omega)]
      congr 1; omega
  · rw [if_neg c1, if_neg (by omega), if_neg (by omega)]
/-- One element moved down: so far to k. -/
structure DnR (m k : Nat) (d d' : Array Int) : Prop where
  size : d'.size = d.size
  at_ : ∀ x, d'[x]! = if k < x ∧ x ≤ m then d[x - 1]! else if x = k then d[m]! else d[x]!
  perm : ∀ lo hi, lo ≤ k → m < hi → hi ≤ d.size → PermIn lo hi d d'
theorem DnR.zero (m : Nat) (d : Array Int) : DnR m m d d := ⟨rfl, fun x => by
  rw [if_neg (by omega)]
  by_cases e : x = m
  · rw [if_pos e, e]
  · rw [if_neg e], fun lo hi _ _ _ => permIn_refl d lo hi⟩
theorem DnR.step {m k : Nat} {d dk : Array Int} (h : DnR m k d dk) (hk : 0 < k) (hkm : k ≤ m) (hm : m < d.size) : DnR m (k - 1) d (swp dk k (k - 1)) := by
  have hs := h.size
  have g := swp_get dk (show k < dk.size by omega) (show k - 1 < dk.size by omega)
  refine ⟨by rw [swp_size, hs], fun x => ?_, fun lo hi h1 h2 h3 => ?_⟩
  · rw [g, h.at_, h.at_, h.at_]
    by_cases e1 : x = k - 1
    · rw [if_pos e1, if_neg (by omega), if_pos rfl, if_neg (by omega), if_pos e1]
    · by_cases e2 : x = k
      · rw [if_neg e1, if_pos e2, if_neg (by omega), if_neg (by omega), if_pos (by omega), e2]
      · rw [if_neg e1, if_neg e2]
        by_cases c1 : k < x ∧ x ≤ m
        · rw [if_pos c1, if_pos (by omega)]
        · rw [if_neg c1, if_neg (by omega), if_neg (by omega), if_neg (by omega)]
  · exact permIn_trans _ _ _ lo hi (h.perm lo hi (by omega) h2 h3) (swp_permIn dk lo hi k (k - 1) (by omega) (by omega) (by omega) (by omega) (by omega))
theorem DnR.rot {m s : Nat} {d d' : Array Int} (h : DnR m s d d') (hsm : s ≤ m) : RotR s m (m + 1) d d' := by
  refine ⟨h.size, fun x => ?_, fun lo hi h1 h2 h3 => h.perm lo hi h1 (by omega) h3⟩
  rw [h.at_]
  by_cases c1 : s ≤ x ∧ x < m + 1
  · rw [if_pos c1]
    by_cases c2 : x < s + (m + 1 - m)
    · rw [if_pos c2, if_neg (by omega), if_pos (by omega)]
      congr 1; omega
    · rw [if_neg c2, if_pos (by omega)]
      congr 1; omega
  · rw [if_neg c1, if_neg (by omega), if_neg (by omega)]
/-! ### merging -/
/-- What a merge of [a, m) and [m, b) hands out. -/
def Merged (lt : Int → Int → Bool) (a b : Nat) (d d' : Array Int) : Prop := PermIn a b d d' ∧ SortedIn lt a b d'
/-- What stands across is told by the comparison alone. -/
def Acr (l1 l2 : Int → Int → Bool) (a m b : Nat) (d : Array Int) : Prop := ∀ x y, a ≤ x → x < m → m ≤ y → y < b → l1 d[y]! d[x]! = l2 d[y]! d[x]!
variable {lt : Int → Int → Bool}
/-- The rotated row, by its four parts. -/
theorem RotR.parts {s m e : Nat} {d d' : Array Int} (r : RotR s m e d d') (h1 : s ≤ m) (h2 : m ≤ e) :
    (∀ x, x < s → d'[x]! = d[x]!) ∧ (∀ x, s ≤ x → x < s + (e - m) → d'[x]! = d[x - s + m]!) ∧ (∀ x, s + (e - m) ≤ x → x < e → d'[x]! = d[x - (e - m)]!) ∧ (∀ x, e ≤ x → d'[x]! = d[x]!) := by
  refine ⟨fun x hx => ?_, fun x hx hy => ?_, fun x hx hy => ?_, fun x hx => ?_⟩
  · rw [r.at_, if_neg (by omega)]
  · rw [r.at_, if_pos (by omega), if_pos (by omega)]
  · rw [r.at_, if_pos (by omega), if_neg (by omega)]
  · rw [r.at_, if_neg (by omega)]
/-- Behind the rotation: two rows each side, and nothing on the right is less than anything on the left. -/
structure Cut (lt : Int → Int → Bool) (a s mid e b : Nat) (d : Array Int) : Prop where
  l1 : SortedIn lt a s d
  l2 : SortedIn lt s mid d
  r1 : SortedIn lt mid e d
  r2 : SortedIn lt e b d
  acr : ∀ x y, a ≤ x → x < mid → mid ≤ y → y < b → lt d[y]! d[x]! = false
theorem cut_of {a s m e b : Nat} {d d' : Array Int} (has : a ≤ s) (hsm : s ≤ m) (hme : m ≤ e) (heb : e ≤ b) (hl : SortedIn lt a m d) (hr : SortedIn lt m b d)
    (c1 : ∀ x y, a ≤ x → x < s → e ≤ y → y < b → lt d[y]! d[x]! = false) (c2 : ∀ x y, s ≤ x → x < m → m ≤ y → y < e → lt d[x]! d[y]! = false) (r : RotR s m e d d') : Cut lt a s (s + (e - m)) e b d' := by
  obtain ⟨p1, p2, p3, p4⟩ := r.parts hsm hme
  refine ⟨fun i j h1 h2 h3 => ?_, fun i j h1 h2 h3 => ?_, fun i j h1 h2 h3 => ?_, fun i j h1 h2 h3 => ?_, fun x y h1 h2 h3 h4 => ?_⟩
  · rw [p1 i (by omega), p1 j h3]; exact hl i j h1 h2 (by omega)
  · rw [p2 i h1 (by omega), p2 j (by omega) h3]; exact hr _ _ (by omega) (by omega) (by omega)
  · rw [p3 i h1 (by omega), p3 j (by omega) h3]; exact hl _ _ (by omega) (by omega) (by omega)
  · rw [p4 i h1, p4 j (by omega)]; exact hr i j (by omega) h2 h3
  · rcases Nat.lt_or_ge x s with hx | hx
    · rw [p1 x hx]
      rcases Nat.lt_or_ge y e with hy | hy
      · rw [p3 y h3 hy]; exact hl _ _ h1 (by omega) (by omega)
      · rw [p4 y hy]; exact c1 x y h1 hx hy h4
    · rw [p2 x hx h2]
      rcases Nat.lt_or_ge y e with hy | hy
      · rw [p3 y h3 hy]; exact c2 _ _ (by omega) (by omega) (by omega) (by omega)
      · rw [p4 y hy]; exact hr _ _ (by omega) (by omega) h4
/-- Both halves merged. -/
theorem cut_merged {a mid b : Nat} {d d1 d2 : Array Int} (h1 : a ≤ mid) (h2 : mid ≤ b) (hb : b ≤ d.size) (acr : ∀ x y, a ≤ x → x < mid → mid ≤ y → y < b → lt d[y]! d[x]! = false) (m1 : Merged lt a mid d d1) (m2 : Merged lt mid b d1 d2) : Merged lt a b d d2 := by
  have hs1 := m1.1.1
  refine ⟨permIn_trans _ _ _ a b (permIn_mono _ _ _ _ _ _ (Nat.le_refl _) h2 hb m1.1) (permIn_mono _ _ _ _ _ _ h1 (Nat.le_refl _) (by omega) m2.1), fun i j hi hij hj => ?_⟩
  have s1 : ∀ x, x < mid → d2[x]! = d1[x]! := fun x hx => m2.1.2.1 x (.inl hx)
  have acr1 : ∀ x, a ≤ x → x < mid → ∀ y, mid ≤ y → y < b → lt d[y]! d1[x]! = false :=
    permIn_all d d1 a mid (fun v => ∀ y, mid ≤ y → y < b → lt d[y]! v = false) (by omega) m1.1 (fun x hx hx2 y hy hy2 => acr x y hx hx2 hy hy2)
  have acr2 : ∀ y, mid ≤ y → y < b → ∀ x, a ≤ x → x < mid → lt d2[y]! d1[x]! = false :=
    permIn_all d1 d2 mid b (fun v => ∀ x, a ≤ x → x < mid → lt v d1[x]! = false) (by omega) m2.1 (fun y hy hy2 x hx hx2 => by
      rw [m1.1.2.1 y (.inr hy)]; exact acr1 x hx hx2 y hy hy2)
  rcases Nat.lt_or_ge i mid with h3 | h3
  · rcases Nat.lt_or_ge j mid with h4 | h4
    · rw [s1 i h3, s1 j h4]; exact m1.2 i j hi hij h4
    · rw [s1 i h3]; exact acr2 j h4 hj i hi h3
  · exact m2.2 i j h3 hij hj
theorem merged_refl {a b : Nat} {d : Array Int} (h : SortedIn lt a b d) : Merged lt a b d d := ⟨permIn_refl d a b, h⟩
theorem merged_then {a b : Nat} {d d1 d2 : Array Int} (p : PermIn a b d d1) (m : Merged lt a b d1 d2) : Merged lt a b d d2 := ⟨permIn_trans _ _ _ a b p m.1, m.2⟩
/-- One element against a row in order. -/
theorem one_left {a e b : Nat} {d d' : Array Int} (hS : SWO lt) (hae : a + 1 ≤ e) (heb : e ≤ b) (hb : b ≤ d.size) (hr : SortedIn lt (a + 1) b d) (c1 : ∀ y, a + 1 ≤ y → y < e → lt d[y]! d[a]! = true) (c2 : ∀ y, e ≤ y → y < b → lt d[y]! d[a]! = false) (r : RotR a (a + 1) e d d') : Merged lt a b d d' := by
  have c := cut_of (lt := lt) (a := a) (Nat.le_refl _) (Nat.le_succ _) hae heb (fun i j h1 h2 h3 => by omega) hr (fun x y h1 h2 => by omega) (fun x y h1 h2 h3 h4 => by
    have : x = a := by omega
    subst this
    have := c1 y h3 h4
    cases h : lt d[x]! d[y]! with
    | false => rfl
    | true => have := hS.trans _ _ _ h this; rw [hS.irrefl] at this; cases this) r
  refine ⟨r.perm a b (Nat.le_refl _) heb hb, fun i j h1 h2 h3 => ?_⟩
  obtain ⟨p1, p2, p3, p4⟩ := r.parts (Nat.le_succ _) hae
  rcases Nat.lt_or_ge i (a + (e - (a + 1))) with h4 | h4
  · rcases Nat.lt_or_ge j (a + (e - (a + 1))) with h5 | h5
    · exact c.l2 i j h1 h2 h5
    · exact c.acr i j h1 h4 h5 h3
  · rcases Nat.lt_or_ge i e with h5 | h5
    · rw [p3 i h4 h5, p4 j (by omega), show i - (e - (a + 1)) = a by omega]
      exact c2 j (by omega) h3
    · exact c.r2 i j h5 h2 h3
theorem one_right {a s m : Nat} {d d' : Array Int} (hS : SWO lt) (has : a ≤ s) (hsm : s ≤ m) (hm : m < d.size) (hl : SortedIn lt a m d) (c1 : ∀ x, a ≤ x → x < s → lt d[m]! d[x]! = false) (c2 : ∀ x, s ≤ x → x < m → lt d[m]! d[x]! = true) (r : RotR s m (m + 1) d d') : Merged lt a (m + 1) d d' := by
  have hc2 : ∀ x y, s ≤ x → x < m → m ≤ y → y < m + 1 → lt d[x]! d[y]! = false := fun x y h1 h2 h3 h4 => by
    have : y = m := by omega
    subst this
    have := c2 x h1 h2
    cases h : lt d[x]! d[y]! with
    | false => rfl
    | true => have := hS.trans _ _ _ h this; rw [hS.irrefl] at this; cases this
  have c := cut_of (lt := lt) (a := a) (b := m + 1) has hsm (Nat.le_succ _) (Nat.le_refl _) hl (fun i j h1 h2 h3 => by omega) (fun x y h1 h2 h3 h4 => by omega) hc2 r
  refine ⟨r.perm a (m + 1) has (Nat.le_refl _) (by omega), fun i j h1 h2 h3 => ?_⟩
  obtain ⟨p1, p2, p3, p4⟩ := r.parts hsm (Nat.le_succ _)
  rcases Nat.lt_or_ge i (s + (m + 1 - m)) with h4 | h4
  · rcases Nat.lt_or_ge j (s + (m + 1 - m)) with h5 | h5
    · rcases Nat.lt_or_ge j s with h6 | h6
      · exact c.l1 i j h1 h2 h6
      · rw [p1 i (by omega), p2 j h6 h5, show j - s + m = m by omega]
        exact c1 i h1 (by omega)
    · exact c.acr i j h1 h4 h5 (by omega)
  · exact c.r1 i j h4 h2 h3
/-! ### the searches -/
theorem find_true (hS : SWO lt) {m b h a : Nat} {d : Array Int} (hr : SortedIn lt m b d) (hm : m ≤ h) (hb : h < b) (ht : lt d[h]! d[a]! = true) : ∀ y, m ≤ y → y < h + 1 → lt d[y]! d[a]! = true := fun y h1 h2 => by
  by_cases e : y = h
  · rw [e]; exact ht
  · cases hf : lt d[y]! d[a]! with
    | true => rfl
    | false => have := hS.ntrans _ _ _ (hr y h h1 (by omega) hb) hf; rw [ht] at this; cases this
theorem find_false (hS : SWO lt) {m b h a : Nat} {d : Array Int} (hr : SortedIn lt m b d) (hm : m ≤ h) (hf : lt d[h]! d[a]! = false) : ∀ y, h ≤ y → y < b → lt d[y]! d[a]! = false := fun y h1 h2 => by
  by_cases e : y = h
  · rw [e]; exact hf
  · exact hS.ntrans _ _ _ (hr h y hm (by omega) h2) hf
theorem look_false (hS : SWO lt) {a m h q : Nat} {d : Array Int} (hl : SortedIn lt a m d) (ha : a ≤ h) (hm : h < m) (hf : lt d[q]! d[h]! = false) : ∀ x, a ≤ x → x < h + 1 → lt d[q]! d[x]! = false := fun x h1 h2 => by
  by_cases e : x = h
  · rw [e]; exact hf
  · exact hS.ntrans _ _ _ hf (hl x h h1 (by omega) hm)
theorem look_true (hS : SWO lt) {a m h q : Nat} {d : Array Int} (hl : SortedIn lt a m d) (ha : a ≤ h) (ht : lt d[q]! d[h]! = true) : ∀ x, h ≤ x → x < m → lt d[q]! d[x]! = true := fun x h1 h2 => by
  by_cases e : x = h
  · rw [e]; exact ht
  · cases hf : lt d[q]! d[x]! with
    | true => rfl
    | false => have := hS.ntrans _ _ _ hf (hl h x ha (by omega) h2); rw [ht] at this; cases this
theorem sym_false (hS : SWO lt) {a m b p c : Nat} {d : Array Int} (hl : SortedIn lt a m d) (hr : SortedIn lt m b d) (hc : c < m) (hp : m ≤ p - c) (hcp : c ≤ p) (hf : lt d[p - c]! d[c]! = false) : ∀ x, a ≤ x → x < c + 1 → p - x < b → lt d[p - x]! d[x]! = false := fun x h1 h2 h3 => by
  by_cases e : x = c
  · rw [e]; exact hf
  · exact hS.ntrans _ _ _ (hS.ntrans _ _ _ (hr (p - c) (p - x) hp (by omega) h3) hf) (hl x c h1 (by omega) hc)
theorem sym_true (hS : SWO lt) {a m b p c : Nat} {d : Array Int} (hl : SortedIn lt a m d) (hr : SortedIn lt m b d) (ha : a ≤ c) (hp : p - c < b) (hcp : c ≤ p) (ht : lt d[p - c]! d[c]! = true) : ∀ x, c ≤ x → x < m → m ≤ p - x → lt d[p - x]! d[x]! = true := fun x h1 h2 h3 => by
  by_cases e : x = c
  · rw [e]; exact ht
  · cases hf : lt d[p - x]! d[x]! with
    | true => rfl
    | false =>
      have := hS.ntrans _ _ _ (hS.ntrans _ _ _ (hr (p - x) (p - c) h3 (by omega) hp) hf) (hl c x ha (by omega) h2)
      rw [ht] at this; cases this
/-- Where the search has ended, the two conditions hold. -/
theorem sym_split (hS : SWO lt) {a m b mid s0 r0 s : Nat} {d : Array Int} (hl : SortedIn lt a m d) (hr : SortedIn lt m b d) (h1 : a ≤ s0) (h2 : s0 ≤ s) (h3 : s ≤ r0) (h4 : r0 ≤ m) (h5 : r0 ≤ mid) (h6 : mid + m ≤ s0 + b) (b1 : s0 = a ∨ mid + m = s0 + b) (b2 : r0 = m ∨ r0 = mid)
    (f1 : ∀ c, s0 ≤ c → c < s → lt d[mid + m - 1 - c]! d[c]! = false) (f2 : ∀ c, s ≤ c → c < r0 → lt d[mid + m - 1 - c]! d[c]! = true) :
    (∀ x y, a ≤ x → x < s → mid + m - s ≤ y → y < b → lt d[y]! d[x]! = false) ∧ (∀ x y, s ≤ x → x < m → m ≤ y → y < mid + m - s → lt d[x]! d[y]! = false) := by
  constructor
  · intro x y hx hxs hy hyb
    have hs : s0 < s := by rcases b1 with b1 | b1 <;> omega
    have k := f1 (s - 1) (by omega) (by omega)
    rw [show mid + m - 1 - (s - 1) = mid + m - s by omega] at k
    have k1 : lt d[y]! d[mid + m - s]! = false := by
      by_cases e : y = mid + m - s
      · rw [e]; exact hS.irrefl _
      · exact hr _ _ (by omega) (by omega) hyb
    have k2 : lt d[s - 1]! d[x]! = false := by
      by_cases e : x = s - 1
      · rw [e]; exact hS.irrefl _
      · exact hl _ _ hx (by omega) (by omega)
    exact hS.ntrans _ _ _ (hS.ntrans _ _ _ k1 k) k2
  · intro x y hx hxm hy hye
    have hs : s < r0 := by rcases b2 with b2 | b2 <;> omega
    have k := f2 s (Nat.le_refl _) hs
    have k0 : lt d[s]! d[mid + m - 1 - s]! = false := by
      cases h : lt d[s]! d[mid + m - 1 - s]! with
      | false => rfl
      | true => have := hS.trans _ _ _ h k; rw [hS.irrefl] at this; cases this
    have k1 : lt d[x]! d[s]! = false := by
      by_cases e : x = s
      · rw [e]; exact hS.irrefl _
      · exact hl _ _ (by omega) (by omega) hxm
    have k2 : lt d[mid + m - 1 - s]! d[y]! = false := by
      by_cases e : y = mid + m - 1 - s
      · rw [e]; exact hS.irrefl _
      · exact hr _ _ hy (by omega) (by omega)
    exact hS.ntrans _ _ _ (hS.ntrans _ _ _ k1 k0) k2
theorem RotR.idl {s e : Nat} (d : Array Int) : RotR s s e d d := ⟨rfl, fun k => by
  by_cases c1 : s ≤ k ∧ k < e
  · rw [if_pos c1, if_pos (by omega)]
    congr 1; omega
  · rw [if_neg c1], fun lo hi _ _ _ => permIn_refl d lo hi⟩
theorem RotR.idr {s m : Nat} (d : Array Int) : RotR s m m d d := ⟨rfl, fun k => by
  by_cases c1 : s ≤ k ∧ k < m
  · rw [if_pos c1, if_neg (by omega)]
    congr 1; omega
  · rw [if_neg c1], fun lo hi _ _ _ => permIn_refl d lo hi⟩
theorem sorted_congr {a b : Nat} {d d' : Array Int} (h : SortedIn lt a b d) (e : ∀ x, a ≤ x → x < b → d'[x]! = d[x]!) : SortedIn lt a b d' := fun i j h1 h2 h3 => by
  rw [e i h1 (by omega), e j (by omega) h3]; exact h i j h1 h2 h3
theorem acr_left {l1 l2 : Int → Int → Bool} {a s m e b : Nat} {d d' : Array Int} (h : Acr l1 l2 a m b d) (r : RotR s m e d d') (hsm : s ≤ m) (hme : m ≤ e) (heb : e ≤ b) : Acr l1 l2 a s (s + (e - m)) d' := by
  obtain ⟨p1, p2, p3, p4⟩ := r.parts hsm hme
  intro x y h1 h2 h3 h4
  rw [p1 x h2, p2 y h3 h4]
  exact h x (y - s + m) h1 (by omega) (by omega) (by omega)
theorem acr_right {l1 l2 : Int → Int → Bool} {a s m e b : Nat} {d d' : Array Int} (h : Acr l1 l2 a m b d) (r : RotR s m e d d') (has : a ≤ s) (hsm : s ≤ m) (hme : m ≤ e) : Acr l1 l2 (s + (e - m)) e b d' := by
  obtain ⟨p1, p2, p3, p4⟩ := r.parts hsm hme
  intro x y h1 h2 h3 h4
  rw [p3 x h1 h2, p4 y h3]
  exact h (x - (e - m)) y (by omega) (by omega) (by omega) h4
theorem acr_congr {l1 l2 : Int → Int → Bool} {a m b : Nat} {d d' : Array Int} (h : Acr l1 l2 a m b d) (e : ∀ x, a ≤ x → x < b → d'[x]! = d[x]!) (hm : m ≤ b) (ham : a ≤ m) : Acr l1 l2 a m b d' := fun x y h1 h2 h3 h4 => by
  rw [e x h1 (by omega), e y (by omega) h4]; exact h x y h1 h2 h3 h4
/-- What holds of all holds of all behind a permutation. -/
theorem ok_perm {ok : Int → Prop} {a b : Nat} {d d' : Array Int} (h : ∀ i, i < d.size → ok d[i]!) (p : PermIn a b d d') (hb : b ≤ d.size) : ∀ i, i < d'.size → ok d'[i]! := fun i hi => by
  have hs := p.1
  by_cases c : a ≤ i ∧ i < b
  · exact permIn_all d d' a b ok hb p (fun x _ hx => h x (by omega)) i c.1 c.2
  · rw [p.2.1 i (by omega)]; exact h i (by omega)
end Go.Proofs.Ytojdmloimmcacaa.TP
