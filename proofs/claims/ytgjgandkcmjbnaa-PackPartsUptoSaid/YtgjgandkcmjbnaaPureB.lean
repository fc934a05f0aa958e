/- Proved: what CRC, Uvar and Int tell, in plain words on numbers and lists; no condition. -/
import Derived.Test.YtgjgandkcmjbnaaB3
import Derived.Test.YtgjgandkcmjbnaaCrc
import Derived.Laws.BitsAllLaws
namespace Go.Proofs.Ytgjgandkcmjbnaa.PB
open Go.RowKit Go.Proofs.YtgjgandkcmjbnaaW.PrintWords Go.Proofs.YtgjgandkcmjbnaaW.PrintLast Go.Proofs.YtgjgandkcmjbnaaW.PrintMore

/-- Bytes: numbers from 0 to 255. -/
def Bytes (l : List Int) : Prop := ∀ x ∈ l, 0 ≤ x ∧ x < 256
theorem bytes_of_wf {l : List Int} (h : ∀ x ∈ l, (Lit.int .u8 x).wf = true) : Bytes l := fun x hx => by
  have := h x hx
  simp only [Lit.wf, IntKind.min, IntKind.max, IntKind.signed, IntKind.bits, Bool.and_eq_true] at this
  simp at this
  omega
def nat (l : List Int) : List Nat := l.map Int.toNat
theorem small_nat {l : List Int} (h : Bytes l) : Crc.Small (nat l) := fun c hc => by
  unfold nat at hc
  obtain ⟨x, hx, rfl⟩ := List.mem_map.1 hc
  have := h x hx
  omega
theorem Bytes.take {l : List Int} (h : Bytes l) (n : Nat) : Bytes (l.take n) := fun x hx => h x (List.mem_of_mem_take hx)
theorem Bytes.drop {l : List Int} (h : Bytes l) (n : Nat) : Bytes (l.drop n) := fun x hx => h x (List.mem_of_mem_drop hx)
theorem Bytes.append {l m : List Int} (h : Bytes l) (h' : Bytes m) : Bytes (l ++ m) := fun x hx => by
  rcases List.mem_append.1 hx with h1 | h1
  · exact h x h1
  · exact h' x h1

/-! ### CRC -/
def T : List Int := (List.range 16).map fun i => ((Crc.steps 4 i : Nat) : Int)
theorem T_rd (j : Nat) (hj : j < 16) : rd T (j : Int) = ((Crc.steps 4 j : Nat) : Int) := by
  unfold rd T
  rw [Int.toNat_natCast, List.getD_eq_getElem?_getD, List.getElem?_map, List.getElem?_range hj]
  rfl
theorem u32_step (w : Nat) (hw : w < 4294967296) : Go.bits .xor .u32 ((w : Int) / 2) (Go.bits .and .u32 3988292384 ((-(Go.bits .and .u32 (w : Int) 1)) % 4294967296)) = ((Crc.step1 w : Nat) : Int) := by
  have e1 : Go.bits .and .u32 (w : Int) 1 = ((w % 2 : Nat) : Int) := by
    rw [show (1 : Int) = ((1 : Nat) : Int) from rfl, u32_and_nat _ _ hw (by decide), nat_mask1]
  have e2 : (w : Int) / 2 = ((w / 2 : Nat) : Int) := by omega
  rw [e1, e2]
  unfold Crc.step1 Crc.poly
  rcases Nat.mod_two_eq_zero_or_one w with h | h
  · rw [h, if_neg (by omega)]
    have e3 : Go.bits .and .u32 3988292384 ((-((0 : Nat) : Int)) % 4294967296) = ((0 : Nat) : Int) := by decide
    rw [e3, u32_xor_nat _ _ (by omega) (by decide), Nat.xor_zero]
  · rw [h, if_pos rfl]
    have e3 : Go.bits .and .u32 3988292384 ((-((1 : Nat) : Int)) % 4294967296) = ((3988292384 : Nat) : Int) := by decide
    rw [e3, u32_xor_nat _ _ (by omega) (by decide)]
theorem l1_step (k : Nat) (x0 tab : List Int) (i : Int) (w j : Nat) (hj : j < 4) (hw : w < 4294967296) :
    pack_CRC.l1 (k + 1) x0 tab i (w : Int) i (j : Int) = pack_CRC.l1 k x0 tab i ((Crc.step1 w : Nat) : Int) i ((j + 1 : Nat) : Int) := by
  rw [pack_CRC.l1, if_pos (by omega), u32_step w hw]
  have e : wrap64 ((j : Int) + 1) = ((j + 1 : Nat) : Int) := by unfold wrap64; omega
  rw [e]
theorem l0_round (k : Nat) (x0 tab : List Int) (i : Nat) (hi : i < 16) (ht : tab.length = 16) :
    pack_CRC.l0 (k + 6) x0 tab (i : Int) = pack_CRC.l0 k x0 (tab.set i ((Crc.steps 4 i : Nat) : Int)) ((i + 1 : Nat) : Int) := by
  rw [pack_CRC.l0, if_pos (by omega)]
  have e0 : (i : Int) % 4294967296 = (i : Int) := by omega
  have h0 : i < 4294967296 := by omega
  rw [e0, show (0 : Int) = ((0 : Nat) : Int) from rfl]
  refine (l1_step (k + 4) x0 tab (i : Int) i 0 (by omega) h0).trans ?_
  refine (l1_step (k + 3) x0 tab (i : Int) (Crc.step1 i) 1 (by omega) (Crc.steps_lt 1 i h0)).trans ?_
  refine (l1_step (k + 2) x0 tab (i : Int) (Crc.step1 (Crc.step1 i)) 2 (by omega) (Crc.steps_lt 2 i h0)).trans ?_
  refine (l1_step (k + 1) x0 tab (i : Int) (Crc.step1 (Crc.step1 (Crc.step1 i))) 3 (by omega) (Crc.steps_lt 3 i h0)).trans ?_
  rw [pack_CRC.l1, if_neg (by omega), if_pos (by omega), if_pos (by omega)]
  have e : wrap64 ((i : Int) + 1) = ((i + 1 : Nat) : Int) := by unfold wrap64; omega
  rw [e, Int.toNat_natCast]
  rfl
theorem crc_tab (k : Nat) (x0 : List Int) : pack_CRC.l0 (k + 97) x0 (List.replicate 16 0) 0 = pack_CRC.l2 k T 4294967295 x0 (x0.length : Int) 0 := by
  have r := l0_round
  rw [show (0 : Int) = ((0 : Nat) : Int) from rfl]
  rw [r (k + 91) x0 _ 0 (by omega) (by simp), r (k + 85) x0 _ 1 (by omega) (by simp), r (k + 79) x0 _ 2 (by omega) (by simp), r (k + 73) x0 _ 3 (by omega) (by simp),
    r (k + 67) x0 _ 4 (by omega) (by simp), r (k + 61) x0 _ 5 (by omega) (by simp), r (k + 55) x0 _ 6 (by omega) (by simp), r (k + 49) x0 _ 7 (by omega) (by simp),
    r (k + 43) x0 _ 8 (by omega) (by simp), r (k + 37) x0 _ 9 (by omega) (by simp), r (k + 31) x0 _ 10 (by omega) (by simp), r (k + 25) x0 _ 11 (by omega) (by simp),
    r (k + 19) x0 _ 12 (by omega) (by simp), r (k + 13) x0 _ 13 (by omega) (by simp), r (k + 7) x0 _ 14 (by omega) (by simp), r (k + 1) x0 _ 15 (by omega) (by simp)]
  rw [pack_CRC.l0, if_neg (by omega)]
  rfl

theorem and15 (w : Nat) (hw : w < 4294967296) : Go.bits .and .u32 (w : Int) 15 = ((w % 16 : Nat) : Int) := by
  rw [show (15 : Int) = ((15 : Nat) : Int) from rfl, u32_and_nat _ _ hw (by decide), nat_mask4]

theorem crc_l2 (x0 : List Int) (hb : Bytes x0) (hl : x0.length < 9223372036854775808) (n : Nat) : ∀ (k i w : Nat), i + n = x0.length → n < k → w < 4294967296 →
    pack_CRC.l2 k T (w : Int) x0 (x0.length : Int) (i : Int) = some ((Crc.run w ((nat x0).drop i) ^^^ 4294967295 : Nat) : Int) := by
  induction n with
  | zero =>
    intro k i w hi hk hw
    obtain ⟨k, rfl⟩ : ∃ j, k = j + 1 := ⟨k - 1, by omega⟩
    unfold pack_CRC.l2
    rw [if_neg (by omega)]
    have e : (nat x0).drop i = [] := List.drop_eq_nil_of_le (by simp [nat]; omega)
    rw [e]
    have e2 : (4294967295 : Int) = ((4294967295 : Nat) : Int) := rfl
    rw [e2, u32_xor_nat _ _ (by decide) hw, Nat.xor_comm]
    rfl
  | succ n ih =>
    intro k i w hi hk hw
    obtain ⟨k, rfl⟩ : ∃ j, k = j + 1 := ⟨k - 1, by omega⟩
    have hlt : i < x0.length := by omega
    have hc := hb x0[i] (List.getElem_mem hlt)
    have hrd : rd x0 (i : Int) = ((x0[i].toNat : Nat) : Int) := by
      unfold rd
      rw [Int.toNat_natCast, List.getD_eq_getElem?_getD, List.getElem?_eq_getElem hlt, Option.getD_some]
      omega
    have hdrop : (nat x0).drop i = x0[i].toNat :: (nat x0).drop (i + 1) := by
      rw [List.drop_eq_getElem_cons (by simp [nat]; omega)]
      simp [nat]
    generalize hcn : x0[i].toNat = c at *
    have hc256 : c < 256 := by omega
    have h1 : Go.bits .xor .u32 (w : Int) (rd x0 (i : Int) % 4294967296) = ((w ^^^ c : Nat) : Int) := by
      rw [hrd]
      have : ((c : Nat) : Int) % 4294967296 = ((c : Nat) : Int) := by omega
      rw [this, u32_xor_nat _ _ hw (by omega)]
    have hw1 : w ^^^ c < 4294967296 := Nat.xor_lt_two_pow (n := 32) hw (by omega)
    have h2 : Go.bits .xor .u32 (((w ^^^ c : Nat) : Int) / 16) (rd T (((w ^^^ c) % 16 : Nat) : Int)) = (((w ^^^ c) / 16 ^^^ Crc.steps 4 ((w ^^^ c) % 16) : Nat) : Int) := by
      rw [T_rd _ (Nat.mod_lt _ (by omega))]
      have : ((w ^^^ c : Nat) : Int) / 16 = (((w ^^^ c) / 16 : Nat) : Int) := by omega
      rw [this, u32_xor_nat _ _ (by omega) (Crc.steps_lt 4 _ (by omega))]
    have hw2 : (w ^^^ c) / 16 ^^^ Crc.steps 4 ((w ^^^ c) % 16) < 4294967296 := Nat.xor_lt_two_pow (n := 32) (by omega) (Crc.steps_lt 4 _ (by omega))
    have h3 : Go.bits .xor .u32 ((((w ^^^ c) / 16 ^^^ Crc.steps 4 ((w ^^^ c) % 16) : Nat) : Int) / 16) (rd T ((((w ^^^ c) / 16 ^^^ Crc.steps 4 ((w ^^^ c) % 16)) % 16 : Nat) : Int)) = ((Crc.byte w c : Nat) : Int) := by
      rw [T_rd _ (Nat.mod_lt _ (by omega)), Crc.byte_nib]
      generalize (w ^^^ c) / 16 ^^^ Crc.steps 4 ((w ^^^ c) % 16) = v at *
      have : ((v : Nat) : Int) / 16 = ((v / 16 : Nat) : Int) := by omega
      rw [this, u32_xor_nat _ _ (by omega) (Crc.steps_lt 4 _ (by omega))]
    have hTl : (T.length : Int) = 16 := rfl
    unfold pack_CRC.l2
    rw [if_pos (by omega), if_pos (by omega), if_pos (by omega), h1, and15 _ hw1, hTl]
    rw [if_pos (by omega), if_pos (by omega), h2, and15 _ hw2, if_pos (by omega), if_pos (by omega), h3]
    have e : wrap64 ((i : Int) + 1) = ((i + 1 : Nat) : Int) := by unfold wrap64; omega
    rw [e, ih k (i + 1) (Crc.byte w c) (by omega) (by omega) (Crc.byte_lt _ _ hw hc256), hdrop, Crc.run_cons]

theorem crc_eq (l : List Int) (hb : Bytes l) (k : Nat) (hk : l.length + 98 ≤ k) (hl : l.length < 9223372036854775808) : pack_CRC.f k l = some ((Crc.crc (nat l) : Nat) : Int) := by
  obtain ⟨m, rfl⟩ : ∃ m, k = m + 97 := ⟨k - 97, by omega⟩
  unfold pack_CRC.f
  rw [if_pos (by omega), crc_tab]
  exact crc_l2 l hb hl l.length m 0 4294967295 (by omega) (by omega) (by omega)

/-! ### Uvar -/
def uv (x : Nat) : List Int := if _h : x ≥ 128 then (((x % 128 + 128 : Nat) : Int)) :: uv (x / 128) else [(x : Int)]
termination_by x
decreasing_by omega

theorem uv_big (x : Nat) (h : 128 ≤ x) : uv x = (((x % 128 + 128 : Nat) : Int)) :: uv (x / 128) := by rw [uv, dif_pos h]
theorem uv_small (x : Nat) (h : x < 128) : uv x = [(x : Int)] := by rw [uv, dif_neg (by omega)]

theorem or128 (y : Nat) (h : y < 256) : Go.bits .or .u8 (y : Int) 128 = ((y % 128 + 128 : Nat) : Int) := by
  rw [show (128 : Int) = ((128 : Nat) : Int) from rfl, u8_or_nat _ _ h (by decide)]
  congr 1
  have e1 : 128 ||| y % 128 = 128 + y % 128 := nat_join 7 128 (y % 128) (by decide) (Nat.mod_lt _ (by decide))
  by_cases h1 : y < 128
  · rw [Nat.or_comm]
    rw [Nat.mod_eq_of_lt h1] at e1 ⊢
    omega
  · have e2 : y = 128 ||| y % 128 := by omega
    have e3 : y ||| 128 = 128 ||| y % 128 := by
      conv => lhs; rw [e2]
      rw [Nat.or_comm, ← Nat.or_assoc, Nat.or_self]
    omega

theorem uvar_l0 (d : Nat) : ∀ (k x : Nat) (acc : List Int), x < 128 ^ d → d ≤ k → 1 ≤ k → acc.length + d < 140737488355328 → pack_Uvar.l0 k (x : Int) acc = some (acc ++ uv x) := by
  induction d with
  | zero =>
    intro k x acc hx _ hk ha
    obtain ⟨k, rfl⟩ : ∃ j, k = j + 1 := ⟨k - 1, by omega⟩
    obtain rfl : x = 0 := by simp at hx; exact hx
    simp only [pack_Uvar.l0]
    rw [if_neg (by omega), if_pos (by omega), uv_small 0 (by omega)]
    rfl
  | succ d ih =>
    intro k x acc hx hd hk ha
    obtain ⟨k, rfl⟩ : ∃ j, k = j + 1 := ⟨k - 1, by omega⟩
    simp only [pack_Uvar.l0]
    by_cases h : 128 ≤ x
    · rw [if_pos (by omega), if_pos (by omega)]
      have hk1 : 1 ≤ k := by
        rcases d with _ | d
        · simp at hx; omega
        · omega
      have e1 : (x : Int) % 256 = ((x % 256 : Nat) : Int) := by omega
      have e2 : (x : Int) / 128 = ((x / 128 : Nat) : Int) := by omega
      have e3 : x % 256 % 128 = x % 128 := by omega
      rw [e1, or128 _ (Nat.mod_lt _ (by omega)), e2, e3, ih k (x / 128) _ (by rw [Nat.pow_succ] at hx; omega) (by omega) hk1 (by simp; omega), uv_big x h, List.append_assoc]
      rfl
    · rw [if_neg (by omega), if_pos (by omega), uv_small x (by omega)]
      have e1 : (x : Int) % 256 = (x : Int) := by omega
      rw [e1]

theorem uvar_eq (x : Nat) (hx : x < 18446744073709551616) (k : Nat) (hk : 10 ≤ k) : pack_Uvar.f k (x : Int) = some (uv x) := by
  unfold pack_Uvar.f
  rw [uvar_l0 10 k x [] (by omega) hk (by omega) (by show 0 + 10 < _; omega)]
  rfl

theorem uv_bytes (x : Nat) : Bytes (uv x) := by
  induction x using Nat.strongRecOn with
  | _ x ih =>
    by_cases h : 128 ≤ x
    · rw [uv_big x h]
      intro y hy
      rcases List.mem_cons.1 hy with rfl | hy
      · omega
      · exact ih (x / 128) (by omega) y hy
    · rw [uv_small x (by omega)]
      intro y hy
      simp at hy; omega
theorem uv_len (d : Nat) : ∀ x, x < 128 ^ d → (uv x).length ≤ d ∨ x = 0 := by
  induction d with
  | zero => intro x hx; simp at hx; right; exact hx
  | succ d ih =>
    intro x hx
    by_cases h : 128 ≤ x
    · left
      rw [uv_big x h]
      rcases ih (x / 128) (by rw [Nat.pow_succ] at hx; omega) with h1 | h1
      · simp; omega
      · omega
    · left; rw [uv_small x (by omega)]; simp
theorem uv_len10 (x : Nat) (hx : x < 18446744073709551616) : (uv x).length ≤ 10 := by
  rcases uv_len 10 x (by omega) with h | h
  · exact h
  · subst h; rw [uv_small 0 (by omega)]; simp
theorem uv_pos (x : Nat) : 1 ≤ (uv x).length := by
  by_cases h : 128 ≤ x
  · rw [uv_big x h]; simp
  · rw [uv_small x (by omega)]; simp
theorem uv_inj (x : Nat) : ∀ y, uv x = uv y → x = y := by
  induction x using Nat.strongRecOn with
  | _ x ih =>
    intro y h
    by_cases hx : 128 ≤ x
    · rw [uv_big x hx] at h
      by_cases hy : 128 ≤ y
      · rw [uv_big y hy] at h
        injection h with h1 h2
        have := ih (x / 128) (by omega) (y / 128) h2
        omega
      · rw [uv_small y (by omega)] at h
        injection h with h1 h2
        omega
    · rw [uv_small x (by omega)] at h
      by_cases hy : 128 ≤ y
      · rw [uv_big y hy] at h
        injection h with h1 h2
        omega
      · rw [uv_small y (by omega)] at h
        injection h with h1 h2
        omega

/-! ### Int -/
/-- A number with a sign as one without. -/
def zig (y : Int) : Nat := if y < 0 then (-2 * y - 1).toNat else (2 * y).toNat
theorem zig_lt (y : Int) (h1 : -9223372036854775808 ≤ y) (h2 : y ≤ 9223372036854775807) : zig y < 18446744073709551616 := by
  unfold zig; split <;> omega
theorem or1 (y : Nat) (h : y < 18446744073709551616) (h2 : y % 2 = 0) : Go.bits .or .u64 (y : Int) 1 = ((y + 1 : Nat) : Int) := by
  rw [show (1 : Int) = ((1 : Nat) : Int) from rfl, u64_or_nat _ _ h (by decide), nat_join 1 y 1 (by omega) (by decide)]
theorem int_eq (y : Int) (h1 : -9223372036854775808 ≤ y) (h2 : y ≤ 9223372036854775807) (k : Nat) (hk : 10 ≤ k) : pack_Int.f k y = some (uv (zig y)) := by
  unfold pack_Int.f
  have hz := zig_lt y h1 h2
  by_cases h : y < 0
  · rw [if_pos h]
    have e1 : wrap64 (y + 1) = y + 1 := by unfold wrap64; omega
    have e2 : wrap64 (-(y + 1)) = -(y + 1) := by unfold wrap64; omega
    have e3 : IntKind.u64.wrap (-(y + 1)) = -(y + 1) := by rw [IntKind.wrap_u64]; omega
    have e4 : IntKind.u64.wrap (-(y + 1) * 2) = (((-(y + 1) * 2).toNat : Nat) : Int) := by rw [IntKind.wrap_u64]; omega
    rw [e1, e2, e3, e4, or1 _ (by omega) (by omega)]
    have e5 : (-(y + 1) * 2).toNat + 1 = zig y := by unfold zig; rw [if_pos h]; omega
    rw [e5, uvar_eq _ hz k hk]
    rfl
  · rw [if_neg h]
    have e3 : IntKind.u64.wrap y = y := by rw [IntKind.wrap_u64]; omega
    have e4 : IntKind.u64.wrap (y * 2) = ((zig y : Nat) : Int) := by rw [IntKind.wrap_u64]; unfold zig; rw [if_neg h]; omega
    rw [e3, e4, uvar_eq _ hz k hk]
    rfl

set_option maxRecDepth 100000 in
theorem awake_256 : terrierlaw1_awake.f 256 = some true := by decide +kernel
theorem awake_eq (k : Nat) (hk : 256 ≤ k) : terrierlaw1_awake.f k = some true := at_rounds terrierlaw1_awake.mono hk awake_256
theorem u64_bd {a : Int} (h : (Lit.int .u64 a).wf = true) : ∃ n : Nat, a = n ∧ n < 18446744073709551616 := by
  simp only [Lit.wf, IntKind.min, IntKind.max, IntKind.signed, IntKind.bits, Bool.and_eq_true] at h
  simp at h
  exact ⟨a.toNat, by omega, by omega⟩
theorem i64_bd {a : Int} (h : (Lit.int .i64 a).wf = true) : -9223372036854775808 ≤ a ∧ a ≤ 9223372036854775807 := by
  simp only [Lit.wf, IntKind.min, IntKind.max, IntKind.signed, IntKind.bits, Bool.and_eq_true] at h
  simp at h
  omega
end Go.Proofs.Ytgjgandkcmjbnaa.PB
