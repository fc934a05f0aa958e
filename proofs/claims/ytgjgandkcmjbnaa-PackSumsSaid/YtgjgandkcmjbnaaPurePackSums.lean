/- Proved: of three texts of one length and the three laid over each other the sums laid over each other are nought, in the printed functions; for any three texts. -/
import Derived.Test.YtgjgandkcmjbnaaPureB
import Derived.Test.YtgjgandkcmjbnaaWalkPackSums
namespace Go.Proofs.Ytgjgandkcmjbnaa.Pure
open Go.RowKit Go.Proofs.Ytgjgandkcmjbnaa.PB Go.Proofs.YtgjgandkcmjbnaaW.PrintWords Go.Proofs.YtgjgandkcmjbnaaW.PrintLast

/-- Three bytes laid over each other, at a place. -/
def ov (a b c : List Int) (i : Nat) : Int := ((((rd a i).toNat ^^^ (rd b i).toNat) ^^^ (rd c i).toNat : Nat) : Int)
theorem rd_bd {l : List Int} (h : Bytes l) (i : Nat) : 0 ≤ rd l i ∧ rd l i < 256 := by
  unfold rd
  rw [Int.toNat_natCast, List.getD_eq_getElem?_getD]
  rcases Nat.lt_or_ge i l.length with h1 | h1
  · rw [List.getElem?_eq_getElem h1, Option.getD_some]; exact h _ (List.getElem_mem h1)
  · rw [List.getElem?_eq_none h1]; simp
theorem xor_bd {a b : Nat} (ha : a < 256) (hb : b < 256) : a ^^^ b < 256 := Nat.xor_lt_two_pow (n := 8) ha hb
theorem ov_eq {a b c : List Int} (ha : Bytes a) (hb : Bytes b) (hc : Bytes c) (i : Nat) : Go.bits .xor .u8 (Go.bits .xor .u8 (rd a i) (rd b i)) (rd c i) = ov a b c i := by
  have h1 := rd_bd ha i
  have h2 := rd_bd hb i
  have h3 := rd_bd hc i
  unfold ov
  rw [u8_xor _ _ h1.1 h1.2 h2.1 h2.2]
  have e : rd c i = (((rd c i).toNat : Nat) : Int) := by omega
  rw [e, u8_xor_nat _ _ (xor_bd (by omega) (by omega)) (by omega)]
  rfl
theorem ov_bd {a b c : List Int} (ha : Bytes a) (hb : Bytes b) (hc : Bytes c) (i : Nat) : 0 ≤ ov a b c i ∧ ov a b c i < 256 := by
  have h1 := rd_bd ha i
  have h2 := rd_bd hb i
  have h3 := rd_bd hc i
  have := xor_bd (xor_bd (show (rd a i).toNat < 256 by omega) (show (rd b i).toNat < 256 by omega)) (show (rd c i).toNat < 256 by omega)
  unfold ov
  omega

/-- What the loop has laid after i rounds. -/
def lay (a b c : List Int) (n i : Nat) : List Int := (List.range n).map fun j => if j < i then ov a b c j else 0
theorem lay_length (a b c : List Int) (n i : Nat) : (lay a b c n i).length = n := by simp [lay]
theorem lay_zero (a b c : List Int) (n : Nat) : lay a b c n 0 = List.replicate n 0 := by
  apply List.ext_getElem
  · simp [lay]
  · intro j h1 h2; simp [lay]
theorem lay_set (a b c : List Int) (n i : Nat) : (lay a b c n i).set i (ov a b c i) = lay a b c n (i + 1) := by
  apply List.ext_getElem
  · simp [lay]
  · intro j h1 h2
    simp only [lay, List.getElem_set, List.getElem_map, List.getElem_range]
    by_cases h : i = j
    · subst h; simp
    · rw [if_neg h]
      by_cases h3 : j < i
      · rw [if_pos h3, if_pos (by omega)]
      · rw [if_neg h3, if_neg (by omega)]

theorem over_eq (l m n : List Nat) (h1 : m.length = l.length) (h2 : n.length = l.length) : ∀ j (hj : j < (Crc.over l m n).length), (Crc.over l m n)[j] = l.getD j 0 ^^^ m.getD j 0 ^^^ n.getD j 0 := by
  induction l generalizing m n with
  | nil => intro j hj; simp [Crc.over] at hj
  | cons a l ih =>
    cases m with
    | nil => simp at h1
    | cons b m =>
      cases n with
      | nil => simp at h2
      | cons c n =>
        intro j hj
        cases j with
        | zero => simp [Crc.over]
        | succ j =>
          simp only [Crc.over, List.getElem_cons_succ, List.getD_cons_succ]
          exact ih m n (by simpa using h1) (by simpa using h2) j _
theorem over_length (l m n : List Nat) (h1 : m.length = l.length) (h2 : n.length = l.length) : (Crc.over l m n).length = l.length := by
  induction l generalizing m n with
  | nil => simp [Crc.over]
  | cons a l ih =>
    cases m with
    | nil => simp at h1
    | cons b m =>
      cases n with
      | nil => simp at h2
      | cons c n => simp only [Crc.over, List.length_cons]; rw [ih m n (by simpa using h1) (by simpa using h2)]

theorem lay_over (a b c : List Int) (n : Nat) (h1 : n ≤ a.length) (h2 : n ≤ b.length) (h3 : n ≤ c.length) : nat (lay a b c n n) = Crc.over (nat (a.take n)) (nat (b.take n)) (nat (c.take n)) := by
  have l1 : (nat (a.take n)).length = n := by simp [nat]; omega
  have l2 : (nat (b.take n)).length = n := by simp [nat]; omega
  have l3 : (nat (c.take n)).length = n := by simp [nat]; omega
  apply List.ext_getElem
  · rw [over_length _ _ _ (by omega) (by omega)]; simp [nat, lay_length]; omega
  · intro j hj hj'
    rw [over_eq _ _ _ (by omega) (by omega)]
    have hn : j < n := by rw [over_length _ _ _ (by omega) (by omega)] at hj'; omega
    have key : ∀ l : List Int, n ≤ l.length → (nat (l.take n)).getD j 0 = (rd l j).toNat := by
      intro l hl
      unfold nat rd
      rw [Int.toNat_natCast, List.getD_eq_getElem?_getD, List.getD_eq_getElem?_getD, List.getElem?_map, List.getElem?_take, if_pos hn, List.getElem?_eq_getElem (by omega)]
      rfl
    rw [key a h1, key b h2, key c h3]
    simp only [nat, lay, List.getElem_map, List.getElem_range]
    rw [if_pos hn]
    unfold ov
    rw [Int.toNat_natCast]

theorem loop (a b c : List Int) (ha : Bytes a) (hb : Bytes b) (hc : Bytes c) (n : Nat) (h0 : n ≤ 2000) (h1 : n ≤ a.length) (h2 : n ≤ b.length) (h3 : n ≤ c.length) (d : Nat) : ∀ (k i : Nat), i + d = n → 2200 + d + 1 ≤ k →
    terrierlaw1_PackSums.l0 k a b c (n : Int) (lay a b c n i) (i : Int) = some true := by
  induction d with
  | zero =>
    intro k i hi hk
    obtain ⟨k, rfl⟩ : ∃ j, k = j + 1 := ⟨k - 1, by omega⟩
    obtain rfl : i = n := by omega
    simp only [terrierlaw1_PackSums.l0]
    rw [if_neg (by omega), if_pos (by omega), if_pos (by omega), Int.toNat_natCast]
    have hd : Bytes (lay a b c i i) := fun x hx => by
      simp only [lay, List.mem_map, List.mem_range] at hx
      obtain ⟨j, _, rfl⟩ := hx
      split
      · exact ov_bd ha hb hc j
      · omega
    rw [crc_eq _ (ha.take i) k (by simp; omega) (by simp; omega), crc_eq _ (hb.take i) k (by simp; omega) (by simp; omega), crc_eq _ (hc.take i) k (by simp; omega) (by simp; omega), crc_eq _ hd k (by rw [lay_length]; omega) (by rw [lay_length]; omega)]
    simp only [Option.bind_some]
    rw [if_pos (by omega), if_pos (by omega)]
    rw [u32_xor_nat _ _ (Crc.crc_lt _ (small_nat (ha.take i))) (Crc.crc_lt _ (small_nat (hb.take i))),
      u32_xor_nat _ _ (Nat.xor_lt_two_pow (n := 32) (Crc.crc_lt _ (small_nat (ha.take i))) (Crc.crc_lt _ (small_nat (hb.take i)))) (Crc.crc_lt _ (small_nat (hc.take i)))]
    rw [Crc.crc_over _ _ _ (by simp [nat]; omega) (by simp [nat]; omega), ← lay_over a b c i h1 h2 h3]
    rw [if_pos rfl, awake_eq k (by omega)]
    rfl
  | succ d ih =>
    intro k i hi hk
    obtain ⟨k, rfl⟩ : ∃ j, k = j + 1 := ⟨k - 1, by omega⟩
    simp only [terrierlaw1_PackSums.l0]
    rw [if_pos (by omega), if_pos (by omega), if_pos (by omega), if_pos (by omega), if_pos (by omega), if_pos (by rw [lay_length]; omega)]
    have e : wrap64 ((i : Int) + 1) = ((i + 1 : Nat) : Int) := by unfold wrap64; omega
    rw [ov_eq ha hb hc, Int.toNat_natCast, lay_set, e]
    exact ih k (i + 1) (by omega) (by omega)

theorem PackSums : terrierlaw1_PackSums.Pure := by
  intro l0 l1 l2 _ _ w0 _ _ w1 _ _ w2
  refine ⟨5000, ?_⟩
  unfold terrierlaw1_PackSums.f
  obtain ⟨n, hn, h0, h1, h2, h3⟩ : ∃ n : Nat, mn (mn (mn (l0.length : Int) (l1.length : Int)) (l2.length : Int)) 2000 = n ∧ n ≤ 2000 ∧ n ≤ l0.length ∧ n ≤ l1.length ∧ n ≤ l2.length := by
    refine ⟨(mn (mn (mn (l0.length : Int) (l1.length : Int)) (l2.length : Int)) 2000).toNat, ?_⟩
    unfold mn
    (repeat' split) <;> omega
  rw [hn, if_pos (by omega), if_pos (by omega), Int.toNat_natCast, ← lay_zero l0 l1 l2 n]
  exact loop l0 l1 l2 (bytes_of_wf w0) (bytes_of_wf w1) (bytes_of_wf w2) n h0 h1 h2 h3 n 5000 0 (by omega) (by omega)
end Go.Proofs.Ytgjgandkcmjbnaa.Pure
