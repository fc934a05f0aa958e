/- Proved: what Seal, Open and the reference's CRC, Seal and Open tell, in plain words on numbers and lists; no condition. -/
import Derived.Test.YtgjgandkcmjbnaaPureU
import Derived.Test.YtgjgandkcmjbnaaB6
namespace Go.Proofs.Ytgjgandkcmjbnaa.PB
open Go.RowKit Go.Proofs.YtgjgandkcmjbnaaW.PrintWords Go.Proofs.YtgjgandkcmjbnaaW.PrintLast Go.Proofs.YtgjgandkcmjbnaaW.PrintMore

theorem rstep (k : Nat) (x0 : ByteArray) (i : Int) (w j : Nat) (hj : j < 8) (hw : w < 4294967296) :
    terrierref1_CRC.l1 (k + 1) x0 (w : Int) i (j : Int) = terrierref1_CRC.l1 k x0 ((Crc.step1 w : Nat) : Int) i ((j + 1 : Nat) : Int) := by
  rw [terrierref1_CRC.l1, if_pos (by omega)]
  have e : wrap64 ((j : Int) + 1) = ((j + 1 : Nat) : Int) := by unfold wrap64; omega
  have e1 : Go.bits .and .u32 (w : Int) 1 = ((w % 2 : Nat) : Int) := by
    rw [show (1 : Int) = ((1 : Nat) : Int) from rfl, u32_and_nat _ _ hw (by decide), nat_mask1]
  have e2 : (w : Int) / 2 = ((w / 2 : Nat) : Int) := by omega
  rw [e, e1, e2]
  unfold Crc.step1 Crc.poly
  rcases Nat.mod_two_eq_zero_or_one w with h | h
  · rw [h, if_neg (by omega), if_neg (by omega)]
  · rw [h, if_pos rfl, if_pos (show ((1 : Nat) : Int) = 1 from rfl)]
    have e3 : (3988292384 : Int) = ((3988292384 : Nat) : Int) := rfl
    rw [e3, u32_xor_nat _ _ (by omega) (by decide)]
theorem rsteps (n : Nat) : ∀ (k : Nat) (x0 : ByteArray) (i : Int) (w j : Nat), j + n = 8 → w < 4294967296 →
    terrierref1_CRC.l1 (k + n) x0 (w : Int) i (j : Int) = terrierref1_CRC.l1 k x0 ((Crc.steps n w : Nat) : Int) i 8 := by
  induction n with
  | zero =>
    intro k x0 i w j hj _
    obtain rfl : j = 8 := by omega
    rfl
  | succ n ih =>
    intro k x0 i w j hj hw
    rw [show k + (n + 1) = (k + n) + 1 by omega, rstep (k + n) x0 i w j (by omega) hw]
    exact ih k x0 i _ (j + 1) (by omega) (Crc.steps_lt 1 w hw)
theorem rbyte (k : Nat) (x0 : ByteArray) (i : Nat) (w : Nat) (hi : i < 9223372036854775807) (hw : w < 4294967296) :
    terrierref1_CRC.l1 (k + 9) x0 (w : Int) (i : Int) 0 = terrierref1_CRC.l0 k x0 ((Crc.steps 8 w : Nat) : Int) ((i + 1 : Nat) : Int) := by
  have h := rsteps 8 (k + 1) x0 (i : Int) w 0 rfl hw
  have e0 : ((0 : Nat) : Int) = 0 := rfl
  rw [e0] at h
  rw [show k + 9 = k + 1 + 8 by omega, h, terrierref1_CRC.l1, if_neg (by omega)]
  have e : wrap64 ((i : Int) + 1) = ((i + 1 : Nat) : Int) := by unfold wrap64; omega
  rw [e]
theorem rcrc_l0 (l : List Int) (hb : Bytes l) (hl : l.length < 9223372036854775807) (n : Nat) : ∀ (k i w : Nat), i + n = l.length → 10 * n < k → w < 4294967296 →
    terrierref1_CRC.l0 k (strOfNums l) (w : Int) (i : Int) = some ((Crc.run w ((nat l).drop i) ^^^ 4294967295 : Nat) : Int) := by
  induction n with
  | zero =>
    intro k i w hi hk hw
    obtain ⟨k, rfl⟩ : ∃ j, k = j + 1 := ⟨k - 1, by omega⟩
    unfold terrierref1_CRC.l0
    rw [strOfNums_size, if_neg (by omega)]
    have e : (nat l).drop i = [] := List.drop_eq_nil_of_le (by simp [nat]; omega)
    rw [e]
    have e2 : (4294967295 : Int) = ((4294967295 : Nat) : Int) := rfl
    rw [e2, u32_xor_nat _ _ (by decide) hw, Nat.xor_comm]
    rfl
  | succ n ih =>
    intro k i w hi hk hw
    obtain ⟨k, rfl⟩ : ∃ j, k = j + 9 + 1 := ⟨k - 10, by omega⟩
    have hlt : i < l.length := by omega
    have hc := hb l[i] (List.getElem_mem hlt)
    have hrd : bt (strOfNums l) (i : Int) = ((l[i].toNat : Nat) : Int) := by
      rw [bt_str hb i hlt]
      unfold rd
      rw [Int.toNat_natCast, List.getD_eq_getElem?_getD, List.getElem?_eq_getElem hlt, Option.getD_some]
      omega
    have hdrop : (nat l).drop i = l[i].toNat :: (nat l).drop (i + 1) := by
      rw [List.drop_eq_getElem_cons (by simp [nat]; omega)]
      simp [nat]
    generalize hcn : l[i].toNat = c at *
    have hc256 : c < 256 := by omega
    have h1 : Go.bits .xor .u32 (w : Int) (bt (strOfNums l) (i : Int) % 4294967296) = ((w ^^^ c : Nat) : Int) := by
      rw [hrd]
      have : ((c : Nat) : Int) % 4294967296 = ((c : Nat) : Int) := by omega
      rw [this, u32_xor_nat _ _ hw (by omega)]
    have hw1 : w ^^^ c < 4294967296 := Nat.xor_lt_two_pow (n := 32) hw (by omega)
    unfold terrierref1_CRC.l0
    rw [strOfNums_size, if_pos (by omega), if_pos (by omega), h1, rbyte k _ i _ (by omega) hw1]
    rw [ih k (i + 1) _ (by omega) (by omega) (Crc.steps_lt 8 _ hw1), hdrop, Crc.run_cons]
    rfl
theorem rcrc_eq (l : List Int) (hb : Bytes l) (k : Nat) (hk : 10 * l.length < k) (hl : l.length < 9223372036854775807) : terrierref1_CRC.f k (strOfNums l) = some ((Crc.crc (nat l) : Nat) : Int) := by
  unfold terrierref1_CRC.f
  exact rcrc_l0 l hb hl l.length k 0 4294967295 (by omega) (by omega) (by omega)

/-- The four bytes of a sum. -/
def four (c : Nat) : List Int := [((c / 16777216 % 256 : Nat) : Int), ((c / 65536 % 256 : Nat) : Int), ((c / 256 % 256 : Nat) : Int), ((c % 256 : Nat) : Int)]
theorem four_len (c : Nat) : (four c).length = 4 := rfl
theorem four_bytes (c : Nat) : Bytes (four c) := fun x hx => by
  unfold four at hx
  simp only [List.mem_cons, List.not_mem_nil, or_false] at hx
  omega
theorem four_cast (c : Nat) : [((c : Int) / 16777216) % 256, ((c : Int) / 65536) % 256, ((c : Int) / 256) % 256, ((c : Int)) % 256] = four c := by
  unfold four
  simp only [Int.natCast_emod, Int.natCast_ediv]
  rfl
theorem four_inj (c d : Nat) (hc : c < 4294967296) (hd : d < 4294967296) (h : four c = four d) : c = d := by
  unfold four at h
  simp only [List.cons.injEq, and_true] at h
  omega
/-- A text and its sum behind it. -/
def sl (l : List Int) : List Int := l ++ four (Crc.crc (nat l))
theorem sl_len (l : List Int) : (sl l).length = l.length + 4 := by simp [sl, four_len]
theorem sl_bytes {l : List Int} (h : Bytes l) : Bytes (sl l) := h.append (four_bytes _)
theorem seal_eq (l : List Int) (hb : Bytes l) (k : Nat) (hk : l.length + 98 ≤ k) (hl : l.length < 140737488355000) : pack_Seal.f k l = some (sl l) := by
  unfold pack_Seal.f
  rw [crc_eq l hb k hk (by omega)]
  simp only [Option.bind_some, List.nil_append, List.length_nil]
  rw [if_pos (by omega), if_pos (by simp; omega), four_cast]
  rfl
theorem rseal_eq (l : List Int) (hb : Bytes l) (k : Nat) (hk : 10 * l.length < k) (hl : l.length < 140737488355000) : terrierref1_Seal.f k (strOfNums l) = some (strOfNums (sl l)) := by
  unfold terrierref1_Seal.f
  rw [rcrc_eq l hb k hk (by omega)]
  simp only [Option.bind_some]
  rw [four_cast, strOfNums_size, strOfNums_size, four_len, if_pos (by omega), str_append]
  rfl
/-- What Open tells. -/
def op (l : List Int) : List Int × Int := if l.length < 4 then ([], 4) else if sl (l.take (l.length - 4)) = l then (l.take (l.length - 4), 0) else ([], 3)
theorem str_toList_inj {l m : List Int} (hl : Bytes l) (hm : Bytes m) : (strOfNums l).toList = (strOfNums m).toList ↔ l = m := by
  constructor
  · intro h
    rw [Lib.strOfNums_toList, Lib.strOfNums_toList] at h
    induction l generalizing m with
    | nil =>
      cases m with
      | nil => rfl
      | cons b m => simp [Lib.bytesOf] at h
    | cons a l ih =>
      cases m with
      | nil => simp [Lib.bytesOf] at h
      | cons b m =>
        simp only [Lib.bytesOf, List.map_cons, List.cons.injEq] at h
        have ha := hl a (by simp)
        have hb := hm b (by simp)
        have h1 := congrArg UInt8.toNat h.1
        simp only [UInt8.toNat_ofNat'] at h1
        have e : a = b := by omega
        rw [e, ih (m := m) (fun x hx => hl x (by simp [hx])) (fun x hx => hm x (by simp [hx])) h.2]
  · intro h; rw [h]
theorem open_eq (l : List Int) (hb : Bytes l) (k : Nat) (hk : l.length + 98 ≤ k) (hl : l.length < 140737488355000) : pack_Open.f k l = some (op l) := by
  unfold pack_Open.f op
  have e : wrap64 ((l.length : Int) - 4) = (l.length : Int) - 4 := by unfold wrap64; omega
  rw [e]
  by_cases h : l.length < 4
  · rw [if_pos (by omega), if_pos h]
  · rw [if_neg (by omega), if_neg h]
    have e2 : ((l.length : Int) - 4).toNat = l.length - 4 := by omega
    simp only [Option.bind_some, List.nil_append, List.length_nil, e2]
    have hlen : (l.take (l.length - 4)).length = l.length - 4 := by rw [List.length_take]; omega
    rw [if_pos (by omega), if_pos (by omega), if_pos (by omega), seal_eq _ (hb.take _) k (by omega) (by omega)]
    simp only [Option.bind_some, str_toList_inj (sl_bytes (hb.take _)) hb]
    by_cases h2 : sl (l.take (l.length - 4)) = l
    · rw [if_pos h2, if_pos h2, if_pos (by omega), List.take_take, Nat.min_self]
    · rw [if_neg h2, if_neg h2]
theorem str_take (l : List Int) (n : Nat) (_h : n ≤ l.length) : (strOfNums l).extract 0 n = strOfNums (l.take n) := by
  apply ByteArray.ext
  rw [ByteArray.data_extract]
  apply Array.ext'
  simp [strOfNums, List.map_take]
theorem ropen_eq (l : List Int) (hb : Bytes l) (k : Nat) (hk : 10 * l.length < k) (hl : l.length < 140737488355000) : terrierref1_Open.f k (strOfNums l) = some (strOfNums (op l).1, (op l).2) := by
  unfold terrierref1_Open.f op
  rw [strOfNums_size]
  have e : wrap64 ((l.length : Int) - 4) = (l.length : Int) - 4 := by unfold wrap64; omega
  rw [e]
  by_cases h : l.length < 4
  · rw [if_pos (by omega), if_pos h]; rfl
  · rw [if_neg (by omega), if_neg h]
    have e2 : ((l.length : Int) - 4).toNat = l.length - 4 := by omega
    have hlen : (l.take (l.length - 4)).length = l.length - 4 := by rw [List.length_take]; omega
    rw [if_pos (by omega), if_pos (by omega), e2, str_take l _ (by omega), rseal_eq _ (hb.take _) k (by omega) (by omega)]
    simp only [Option.bind_some, str_toList_inj (sl_bytes (hb.take _)) hb]
    by_cases h2 : sl (l.take (l.length - 4)) = l
    · rw [if_pos h2, if_pos h2]
    · rw [if_neg h2, if_neg h2]; rfl
theorem op_sl (l : List Int) : op (sl l) = (l, 0) := by
  have e : (sl l).take ((sl l).length - 4) = l := by
    rw [sl_len, Nat.add_sub_cancel]
    simp [sl]
  unfold op
  rw [if_neg (by rw [sl_len]; omega), e, if_pos rfl]
/-- One byte turned: it does not open. -/
theorem op_turn (l : List Int) (hb : Bytes l) (i : Nat) (hi : i < l.length + 4) (c : Int) (h0 : 0 ≤ c) (h1 : c < 256) (hc : c ≠ rd (sl l) (i : Int)) : op ((sl l).set i c) = ([], 3) := by
  have hS := sl_bytes hb
  have hlen : ((sl l).set i c).length = l.length + 4 := by rw [List.length_set, sl_len]
  unfold op
  rw [if_neg (by omega), if_neg ?_]
  rw [hlen, Nat.add_sub_cancel]
  intro h
  have hrd : rd (sl l) (i : Int) = (sl l)[i]'(by rw [sl_len]; exact hi) := by
    unfold rd
    rw [Int.toNat_natCast, List.getD_eq_getElem?_getD, List.getElem?_eq_getElem (by rw [sl_len]; exact hi), Option.getD_some]
  rw [hrd] at hc
  by_cases hd : i < l.length
  · have e1 : ((sl l).set i c) = l.set i c ++ four (Crc.crc (nat l)) := by
      unfold sl; rw [List.set_append_left _ _ hd]
    rw [e1, List.take_left' (by simp)] at h
    unfold sl at h
    have h2 := four_inj _ _ (Crc.crc_lt _ (small_nat (fun x hx => by
      rcases List.mem_or_eq_of_mem_set hx with h' | h'
      · exact hb x h'
      · subst h'; exact ⟨h0, h1⟩))) (Crc.crc_lt _ (small_nat hb)) (List.append_cancel_left h)
    have e3 : nat (l.set i c) = (nat l).set i c.toNat := by unfold nat; rw [List.map_set]
    rw [e3] at h2
    have hl' : i < (nat l).length := by simpa [nat] using hd
    have e4 : (nat l)[i] = (l[i]).toNat := by simp [nat]
    have e5 : (sl l)[i]'(by rw [sl_len]; exact hi) = l[i] := by
      simp only [sl]; rw [List.getElem_append_left hd]
    rw [e5] at hc
    have hbi := hb l[i] (List.getElem_mem hd)
    exact Crc.crc_set_ne (nat l) (small_nat hb) i hl' c.toNat (by omega) (by rw [e4]; omega) h2
  · have e1 : ((sl l).set i c) = l ++ (four (Crc.crc (nat l))).set (i - l.length) c := by
      unfold sl; rw [List.set_append_right _ _ (by omega)]
    rw [e1, List.take_left' rfl] at h
    unfold sl at h
    have h2 := List.append_cancel_left h
    have e5 : (sl l)[i]'(by rw [sl_len]; exact hi) = (four (Crc.crc (nat l)))[i - l.length]'(by rw [four_len]; omega) := by
      simp only [sl]; rw [List.getElem_append_right (by omega)]
    rw [e5] at hc
    have h3 : (four (Crc.crc (nat l)))[i - l.length]'(by rw [four_len]; omega) = c := by
      have := congrArg (fun z => z[i - l.length]?) h2
      rw [List.getElem?_eq_getElem (by rw [four_len]; omega), List.getElem?_set_self (by rw [four_len]; omega)] at this
      exact Option.some.inj this
    exact hc h3.symm
end Go.Proofs.Ytgjgandkcmjbnaa.PB
