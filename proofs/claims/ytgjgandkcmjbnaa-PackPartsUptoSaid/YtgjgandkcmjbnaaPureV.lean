/- Proved: what Var and IntOf tell, the program's and the reference's, in plain words on numbers and lists; no condition. -/
import Derived.Test.YtgjgandkcmjbnaaPureB
import Derived.Test.YtgjgandkcmjbnaaB4
namespace Go.Proofs.Ytgjgandkcmjbnaa.PB
open Go.RowKit Go.Proofs.YtgjgandkcmjbnaaW.PrintWords Go.Proofs.YtgjgandkcmjbnaaW.PrintLast Go.Proofs.YtgjgandkcmjbnaaW.PrintMore

/-- The number so far, with the next byte's seven bits. -/
def nx (x b i : Int) : Int := Go.bits .or .u64 x (shl .u64 (IntKind.u64.wrap (Go.bits .and .u8 b 127)) (wrap64 (7 * i)))
/-- What is read from place i on: at most n bytes more. -/
def vr (l : List Int) : Nat → Nat → Int → Int × Int × Int
  | 0, _, _ => (0, 0, 5)
  | n + 1, i, x =>
    if l.length ≤ i then (0, 0, 4)
    else if i = 9 ∧ rd l i > 1 then (0, 0, 5)
    else if rd l i ≥ 128 then vr l n (i + 1) (nx x (rd l i) i)
    else if rd l i = 0 ∧ i > 0 then (0, 0, 3)
    else (nx x (rd l i) i, (i : Int) + 1, 0)

theorem rd_small {l : List Int} (h : Bytes l) (i : Nat) (hi : i < l.length) : 0 ≤ rd l i ∧ rd l i < 256 := by
  unfold rd
  rw [Int.toNat_natCast, List.getD_eq_getElem?_getD, List.getElem?_eq_getElem hi, Option.getD_some]
  exact h _ (List.getElem_mem hi)

theorem w7 (i : Nat) (h : i ≤ 9) : wrap64 (7 * (i : Int)) = ((7 * i : Nat) : Int) := by
  unfold wrap64
  rw [Int.emod_eq_of_lt (by omega) (by omega)]
  omega
theorem var_l0 (l : List Int) (n : Nat) : ∀ (k i : Nat) (x : Int), i + n = 10 → 1 ≤ n → 2 * n < k → pack_Var.l0 k l x (i : Int) = some (vr l n i x) := by
  induction n with
  | zero => intro k i x _ h1; omega
  | succ n ih =>
    intro k i x hi _ hk
    obtain ⟨k, rfl⟩ : ∃ j, k = j + 2 := ⟨k - 2, by omega⟩
    rw [pack_Var.l0]
    unfold vr
    by_cases h1 : l.length ≤ i
    · rw [if_pos (by omega), if_pos h1]
    · rw [if_neg (by omega), if_neg h1]
      have hj : ¬ (i = 9 ∧ rd l i > 1) → pack_Var.j1 (k + 1) l x (i : Int) = some (if rd l i ≥ 128 then vr l n (i + 1) (nx x (rd l i) i) else if rd l i = 0 ∧ i > 0 then (0, 0, 3) else (nx x (rd l i) i, (i : Int) + 1, 0)) := by
        intro h2
        rw [pack_Var.j1, if_pos (by omega), if_pos (by omega), if_pos (by rw [w7 i (by omega)]; omega)]
        have e : wrap64 ((i : Int) + 1) = ((i + 1 : Nat) : Int) := by unfold wrap64; omega
        by_cases h3 : rd l i ≥ 128
        · rw [if_pos h3, if_pos h3, e]
          exact ih k (i + 1) _ (by omega) (by omega) (by omega)
        · rw [if_neg h3, if_neg h3]
          by_cases h4 : rd l i = 0
          · rw [if_pos h4]
            by_cases h5 : i > 0
            · rw [if_pos (by omega), if_pos ⟨h4, h5⟩]
            · rw [if_neg (by omega), if_neg (by omega), e]; rfl
          · rw [if_neg h4, if_neg (by omega), e]; rfl
      by_cases h2 : i = 9
      · rw [if_pos (by omega), if_pos (by omega), if_pos (by omega)]
        by_cases h3 : rd l i > 1
        · rw [if_pos h3, if_pos ⟨h2, h3⟩]
        · rw [if_neg h3, if_neg (by omega)]; exact hj (by omega)
      · rw [if_neg (by omega), if_neg (by omega)]; exact hj (by omega)

theorem bt_str {l : List Int} (h : Bytes l) (i : Nat) (hi : i < l.length) : bt (strOfNums l) (i : Int) = rd l i := by
  have h0 := h _ (List.getElem_mem hi)
  have e1 : rd l i = l[i] := by
    unfold rd
    rw [Int.toNat_natCast, List.getD_eq_getElem?_getD, List.getElem?_eq_getElem hi, Option.getD_some]
  rw [e1]
  have hs : i < (strOfNums l).size := by rw [strOfNums_size]; exact hi
  have e : (strOfNums l)[i]'hs = UInt8.ofNat (l[i]).toNat := by
    show (strOfNums l).data[i]'_ = _
    simp [strOfNums]
  rw [← bt_at (strOfNums l) i (by rw [Int.toNat_natCast]; exact hs)]
  have e2 : (strOfNums l)[((i : Nat) : Int).toNat]'(by rw [Int.toNat_natCast]; exact hs) = UInt8.ofNat (l[i]).toNat := by
    rw [← e]; congr 1
  rw [e2, UInt8.toNat_ofNat']
  omega

theorem rvar_l0 {l : List Int} (hb : Bytes l) (n : Nat) : ∀ (k i : Nat) (x : Int), i + n = 10 → 1 ≤ n → 2 * n < k → i ≤ l.length → terrierref1_Var.l0 k (strOfNums l) x (i : Int) = some (vr l n i x) := by
  induction n with
  | zero => intro k i x _ h1; omega
  | succ n ih =>
    intro k i x hi _ hk hl
    obtain ⟨k, rfl⟩ : ∃ j, k = j + 2 := ⟨k - 2, by omega⟩
    rw [terrierref1_Var.l0, if_pos (by omega), strOfNums_size]
    unfold vr
    by_cases h1 : l.length ≤ i
    · rw [if_pos (by omega), if_pos h1]
    · rw [if_neg (by omega), if_neg h1]
      have hbt := bt_str hb i (by omega)
      have hj : ¬ (i = 9 ∧ rd l i > 1) → terrierref1_Var.j1 (k + 1) (strOfNums l) x (i : Int) false = some (if rd l i ≥ 128 then vr l n (i + 1) (nx x (rd l i) i) else if rd l i = 0 ∧ i > 0 then (0, 0, 3) else (nx x (rd l i) i, (i : Int) + 1, 0)) := by
        intro h2
        rw [terrierref1_Var.j1, if_neg (by decide), if_pos (by omega), if_pos (by rw [strOfNums_size]; omega), if_pos (by rw [w7 i (by omega)]; omega), hbt]
        have e : wrap64 ((i : Int) + 1) = ((i + 1 : Nat) : Int) := by unfold wrap64; omega
        by_cases h3 : rd l i ≥ 128
        · rw [if_neg (by omega), if_pos h3, e]
          exact ih k (i + 1) _ (by omega) (by omega) (by omega) (by omega)
        · rw [if_pos (by omega), if_neg h3]
          by_cases h4 : rd l i = 0
          · rw [if_pos h4]
            by_cases h5 : i > 0
            · rw [if_pos (by omega), if_pos ⟨h4, h5⟩]
            · rw [if_neg (by omega), if_neg (by omega), e]; rfl
          · rw [if_neg h4, if_neg (by omega), e]; rfl
      by_cases h2 : i = 9
      · rw [if_pos (by omega), if_pos (by omega), if_pos (by omega), hbt]
        by_cases h3 : rd l i > 1
        · rw [if_pos ⟨h2, h3⟩, terrierref1_Var.j1, if_pos (by simpa using h3)]
        · rw [if_neg (by omega)]
          have e : decide (rd l i > 1) = false := by simpa using h3
          rw [e]; exact hj (by omega)
      · rw [if_neg (by omega), if_neg (by omega)]; exact hj (by omega)

theorem var_eq (l : List Int) (k : Nat) (hk : 21 ≤ k) : pack_Var.f k l = some (vr l 10 0 0) := var_l0 l 10 k 0 0 (by omega) (by omega) (by omega)
theorem rvar_eq {l : List Int} (hb : Bytes l) (k : Nat) (hk : 21 ≤ k) : terrierref1_Var.f k (strOfNums l) = some (vr l 10 0 0) := rvar_l0 hb 10 k 0 0 (by omega) (by omega) (by omega) (by omega)

/-- The number is one of 64 bits. -/
theorem nx_u64 (x b i : Int) : 0 ≤ nx x b i ∧ nx x b i < 18446744073709551616 := by
  unfold nx Go.bits
  rw [IntKind.wrap_u64]
  omega
theorem vr_u64 (l : List Int) (n : Nat) : ∀ (i : Nat) (x : Int), 0 ≤ (vr l n i x).1 ∧ (vr l n i x).1 < 18446744073709551616 := by
  induction n with
  | zero => intro i x; simp [vr]
  | succ n ih =>
    intro i x
    unfold vr
    (repeat' split)
    · simp
    · simp
    · exact ih _ _
    · simp
    · exact nx_u64 _ _ _

/-- The number with a sign that a number without one stands for. -/
def zag (v : Int) : Int := if v % 2 = 1 then -(v / 2) - 1 else v / 2
def iof (r : Int × Int × Int) : Int × Int × Int := if r.2.2 = 0 then (zag r.1, r.2.1, 0) else (0, 0, r.2.2)
theorem and1 (v : Int) (h0 : 0 ≤ v) (h : v < 18446744073709551616) : Go.bits .and .u64 v 1 = v % 2 := by
  obtain ⟨n, rfl⟩ := Int.eq_ofNat_of_zero_le h0
  rw [show (1 : Int) = ((1 : Nat) : Int) from rfl, u64_and_nat _ _ (by omega) (by decide), nat_mask1]
  omega
theorem zag_w (v : Int) (h0 : 0 ≤ v) (h : v < 18446744073709551616) : wrap64 (wrap64 (-(wrap64 (v / 2))) - 1) = -(v / 2) - 1 ∧ wrap64 (v / 2) = v / 2 := by
  have e1 : wrap64 (v / 2) = v / 2 := by unfold wrap64; omega
  have e2 : wrap64 (-(v / 2)) = -(v / 2) := by unfold wrap64; omega
  rw [e1, e2]
  exact ⟨by unfold wrap64; omega, rfl⟩
theorem intOf_eq (l : List Int) (k : Nat) (hk : 21 ≤ k) : pack_IntOf.f k l = some (iof (vr l 10 0 0)) := by
  unfold pack_IntOf.f iof zag
  rw [var_eq l k hk]
  have hv := vr_u64 l 10 0 0
  simp only [Option.bind_some]
  generalize vr l 10 0 0 = r at *
  obtain ⟨v, n, e⟩ := r
  simp only at *
  obtain ⟨z1, z2⟩ := zag_w v hv.1 hv.2
  rw [and1 v hv.1 hv.2, z1, z2]
  by_cases h : e = 0
  · rw [if_pos h, if_pos h]
    by_cases h2 : v % 2 = 1
    · rw [if_pos (by omega), if_pos h2]
    · rw [if_neg (by omega), if_neg h2]
  · rw [if_neg h, if_neg h]
theorem rintOf_eq {l : List Int} (hb : Bytes l) (k : Nat) (hk : 21 ≤ k) : terrierref1_IntOf.f k (strOfNums l) = some (iof (vr l 10 0 0)) := by
  unfold terrierref1_IntOf.f iof zag
  rw [rvar_eq hb k hk]
  have hv := vr_u64 l 10 0 0
  simp only [Option.bind_some]
  generalize vr l 10 0 0 = r at *
  obtain ⟨v, n, e⟩ := r
  simp only at *
  obtain ⟨z1, z2⟩ := zag_w v hv.1 hv.2
  rw [and1 v hv.1 hv.2, z1, z2]
  by_cases h : e = 0
  · rw [if_pos h, if_pos h]
    by_cases h2 : v % 2 = 1
    · rw [if_pos (by omega), if_pos h2]
    · rw [if_neg (by omega), if_neg h2]
  · rw [if_neg h, if_neg h]

/-! ### What is written is read again -/
theorem nx_eq (acc b i : Nat) (hb : b < 256) (hi : i ≤ 9) (ha : acc < 2 ^ (7 * i)) (hv : b % 128 * 2 ^ (7 * i) < 18446744073709551616) : nx (acc : Int) (b : Int) (i : Int) = ((acc + b % 128 * 2 ^ (7 * i) : Nat) : Int) := by
  unfold nx
  have e1 : Go.bits .and .u8 (b : Int) 127 = ((b % 128 : Nat) : Int) := by
    rw [show (127 : Int) = ((127 : Nat) : Int) from rfl, u8_and_nat _ _ hb (by decide), nat_mask7]
  have e2 : IntKind.u64.wrap ((b % 128 : Nat) : Int) = ((b % 128 : Nat) : Int) := by rw [IntKind.wrap_u64]; omega
  have e3 : shl .u64 ((b % 128 : Nat) : Int) ((7 * i : Nat) : Int) = ((b % 128 * 2 ^ (7 * i) : Nat) : Int) := by
    unfold shl
    have : min ((7 * i : Nat) : Int).toNat IntKind.u64.bits = 7 * i := by simp [IntKind.bits]; omega
    rw [this, IntKind.wrap_u64]
    have e : ((b % 128 : Nat) : Int) * 2 ^ (7 * i) = ((b % 128 * 2 ^ (7 * i) : Nat) : Int) := by norm_cast
    rw [e]; omega
  have h63 : (2 : Nat) ^ (7 * i) ≤ 2 ^ 63 := Nat.pow_le_pow_right (by omega) (by omega)
  rw [e1, e2, w7 i hi, e3, u64_or_nat _ _ (by omega) hv, Nat.or_comm, nat_join (7 * i) _ _ (Nat.mul_mod_left _ _) ha, Nat.add_comm]

theorem vr_uv (more : List Int) (n : Nat) : ∀ (i acc y : Nat) (l : List Int), i + n = 10 → l.drop i = uv y ++ more → i ≤ l.length → acc < 2 ^ (7 * i) → acc + y * 2 ^ (7 * i) < 18446744073709551616 → (i > 0 → y > 0) → 1 ≤ n →
    vr l n i (acc : Int) = (((acc + y * 2 ^ (7 * i) : Nat) : Int), (i : Int) + (uv y).length, 0) := by
  induction n with
  | zero => intro i acc y l _ _ _ _ _ _ h; omega
  | succ n ih =>
    intro i acc y l hi hd hl ha hv hy _
    have hlen : i < l.length := by
      have := congrArg List.length hd
      have h1 := uv_pos y
      simp at this; omega
    have hp : 0 < 2 ^ (7 * i) := Nat.pow_pos (by omega)
    unfold vr
    rw [if_neg (by omega)]
    have hrd : rd l i = (uv y ++ more).getD 0 0 := by
      unfold rd
      rw [Int.toNat_natCast, ← hd, List.getD_eq_getElem?_getD, List.getD_eq_getElem?_getD, List.getElem?_drop, Nat.add_zero]
    by_cases h : 128 ≤ y
    · have e : rd l i = ((y % 128 + 128 : Nat) : Int) := by rw [hrd, uv_big y h]; rfl
      have hi9 : i < 9 := by
        apply Classical.byContradiction
        intro h9
        obtain rfl : i = 9 := by omega
        have : 128 * 2 ^ (7 * 9) ≤ y * 2 ^ (7 * 9) := Nat.mul_le_mul h (Nat.le_refl _)
        omega
      rw [if_neg (by omega), if_pos (by omega), e]
      have hm : (y % 128 + 128) % 128 = y % 128 := by omega
      have hsplit : y * 2 ^ (7 * i) = y % 128 * 2 ^ (7 * i) + y / 128 * 2 ^ (7 * (i + 1)) := by
        have e1 : 2 ^ (7 * (i + 1)) = 128 * 2 ^ (7 * i) := by rw [Nat.mul_add, Nat.pow_add, Nat.mul_comm]
        rw [e1, ← Nat.mul_assoc, ← Nat.add_mul]
        congr 1; omega
      rw [nx_eq acc (y % 128 + 128) i (by omega) (by omega) ha (by rw [hm]; omega), hm]
      have e1 : 2 ^ (7 * (i + 1)) = 128 * 2 ^ (7 * i) := by rw [Nat.mul_add, Nat.pow_add, Nat.mul_comm]
      have hb : y % 128 * 2 ^ (7 * i) ≤ 127 * 2 ^ (7 * i) := Nat.mul_le_mul (by omega) (Nat.le_refl _)
      rw [ih (i + 1) (acc + y % 128 * 2 ^ (7 * i)) (y / 128) l (by omega) ?_ (by omega) (by rw [e1]; omega) (by omega) (by omega) (by omega)]
      · rw [uv_big y h]
        have : acc + y % 128 * 2 ^ (7 * i) + y / 128 * 2 ^ (7 * (i + 1)) = acc + y * 2 ^ (7 * i) := by omega
        rw [this]
        simp only [List.length_cons]
        congr 2
        omega
      · have h2 := congrArg (List.drop 1) hd
        rw [List.drop_drop, uv_big y h] at h2
        exact h2
    · have e : rd l i = (y : Int) := by rw [hrd, uv_small y (by omega)]; rfl
      rw [uv_small y (by omega)]
      have h9 : i = 9 → y ≤ 1 := by
        rintro rfl
        apply Classical.byContradiction
        intro h1
        have : 2 * 2 ^ (7 * 9) ≤ y * 2 ^ (7 * 9) := Nat.mul_le_mul (by omega) (Nat.le_refl _)
        omega
      rw [if_neg (by omega), if_neg (by omega), if_neg (by omega), e, nx_eq acc y i (by omega) (by omega) ha (by rw [Nat.mod_eq_of_lt (by omega)]; omega), Nat.mod_eq_of_lt (by omega)]
      rfl

/-- A number's bytes, whatever follows, are read as it. -/
theorem read_uv (x : Nat) (hx : x < 18446744073709551616) (more : List Int) : vr (uv x ++ more) 10 0 0 = ((x : Int), ((uv x).length : Int), 0) := by
  have := vr_uv more 10 0 0 x (uv x ++ more) (by omega) rfl (by omega) (by omega) (by omega) (by omega) (by omega)
  simpa using this

theorem zag_zig (y : Int) : zag (zig y : Int) = y := by
  unfold zag zig
  by_cases h : y < 0
  · rw [if_pos h, if_pos (by omega)]; omega
  · rw [if_neg h, if_neg (by omega)]; omega

/-- A number's bytes, cut short, are told to be so. -/
theorem vr_cut (n : Nat) : ∀ (i y c : Nat) (x : Int) (l : List Int), i + n = 10 → l.drop i = (uv y).take c → c < (uv y).length → i ≤ l.length → y < 2 ^ (64 - 7 * i) → 1 ≤ n → vr l n i x = (0, 0, 4) := by
  induction n with
  | zero => intro i y c x l _ _ _ _ _ h; omega
  | succ n ih =>
    intro i y c x l hi hd hc hl hy _
    unfold vr
    rcases c with _ | c
    · have := congrArg List.length hd
      simp at this
      rw [if_pos (by omega)]
    · by_cases h : 128 ≤ y
      · rw [uv_big y h] at hd hc
        have hlen : i < l.length := by have := congrArg List.length hd; simp at this; omega
        have hrd : rd l i = ((y % 128 + 128 : Nat) : Int) := by
          unfold rd
          have : l.getD i 0 = (l.drop i).getD 0 0 := by rw [List.getD_eq_getElem?_getD, List.getD_eq_getElem?_getD, List.getElem?_drop, Nat.add_zero]
          rw [Int.toNat_natCast, this, hd]; rfl
        have hi9 : i < 9 := by
          apply Classical.byContradiction
          intro h9
          obtain rfl : i = 9 := by omega
          simp at hy; omega
        rw [if_neg (by omega), if_neg (by omega), if_pos (by omega)]
        have h2 := congrArg (List.drop 1) hd
        rw [List.drop_drop] at h2
        have h3 : (2 : Nat) ^ (64 - 7 * i) = 2 ^ (64 - 7 * (i + 1)) * 128 := by
          rw [show (128 : Nat) = 2 ^ 7 from rfl, ← Nat.pow_add]
          congr 1; omega
        exact ih (i + 1) (y / 128) c _ l (by omega) h2 (by simpa using hc) (by omega) (by omega) (by omega)
      · rw [uv_small y (by omega)] at hc
        simp at hc
theorem read_cut (x : Nat) (hx : x < 18446744073709551616) (c : Nat) (hc : c < (uv x).length) : vr ((uv x).take c) 10 0 0 = (0, 0, 4) :=
  vr_cut 10 0 x c 0 _ (by omega) rfl hc (by omega) (by omega) (by omega)
end Go.Proofs.Ytgjgandkcmjbnaa.PB
