/- Proved: what the reference's Uvar and Int tell, in plain words on numbers and lists; no condition. -/
import Derived.Test.YtgjgandkcmjbnaaPureV
import Derived.Test.YtgjgandkcmjbnaaB5
import Derived.Lib.Bytes
namespace Go.Proofs.Ytgjgandkcmjbnaa.PB
open Go.RowKit Go.Proofs.YtgjgandkcmjbnaaW.PrintWords Go.Proofs.YtgjgandkcmjbnaaW.PrintLast Go.Proofs.YtgjgandkcmjbnaaW.PrintMore

theorem str_append (a b : List Int) : strOfNums a ++ strOfNums b = strOfNums (a ++ b) := by
  apply ByteArray.ext
  simp [strOfNums]
theorem str_nil : (⟨#[]⟩ : ByteArray) = strOfNums [] := rfl

theorem ruvar_l0 (d : Nat) : ∀ (k x : Nat) (acc : List Int), x < 128 ^ d → x < 18446744073709551616 → d ≤ k → 1 ≤ k → acc.length + d < 140737488355328 → terrierref1_Uvar.l0 k (x : Int) (strOfNums acc) = some (strOfNums (acc ++ uv x)) := by
  induction d with
  | zero =>
    intro k x acc hx _ _ hk ha
    obtain ⟨k, rfl⟩ : ∃ j, k = j + 1 := ⟨k - 1, by omega⟩
    obtain rfl : x = 0 := by simp at hx; exact hx
    rw [terrierref1_Uvar.l0, if_neg (by omega)]
    simp only [Option.bind_some]
    rw [if_pos (by rw [strOfNums_size, strOfNums_size]; simp; omega), str_append, uv_small 0 (by omega)]
    rfl
  | succ d ih =>
    intro k x acc hx h64 hd hk ha
    obtain ⟨k, rfl⟩ : ∃ j, k = j + 1 := ⟨k - 1, by omega⟩
    rw [terrierref1_Uvar.l0]
    by_cases h : 128 ≤ x
    · rw [if_pos (by omega)]
      simp only [Option.bind_some]
      rw [if_pos (by rw [strOfNums_size, strOfNums_size]; simp; omega), str_append]
      have hk1 : 1 ≤ k := by
        rcases d with _ | d
        · simp at hx; omega
        · omega
      have e0 : Go.bits .and .u64 (x : Int) 127 = ((x % 128 : Nat) : Int) := by
        rw [show (127 : Int) = ((127 : Nat) : Int) from rfl, u64_and_nat _ _ h64 (by decide), nat_mask7]
      have e1 : ((x % 128 : Nat) : Int) % 256 = ((x % 128 : Nat) : Int) := by omega
      have e2 : (x : Int) / 128 = ((x / 128 : Nat) : Int) := by omega
      have e3 : x % 128 % 128 = x % 128 := by omega
      rw [e0, e1, or128 _ (by omega), e2, e3, ih k (x / 128) _ (by rw [Nat.pow_succ] at hx; omega) (by omega) (by omega) hk1 (by simp; omega), uv_big x h, List.append_assoc]
      rfl
    · rw [if_neg (by omega)]
      simp only [Option.bind_some]
      rw [if_pos (by rw [strOfNums_size, strOfNums_size]; simp; omega), str_append, uv_small x (by omega)]
      have e1 : (x : Int) % 256 = (x : Int) := by omega
      rw [e1]
theorem ruvar_eq (x : Nat) (hx : x < 18446744073709551616) (k : Nat) (hk : 10 ≤ k) : terrierref1_Uvar.f k (x : Int) = some (strOfNums (uv x)) := by
  unfold terrierref1_Uvar.f
  rw [str_nil, ruvar_l0 10 k x [] (by omega) hx hk (by omega) (by show 0 + 10 < _; omega)]
  rfl
theorem rint_eq (y : Int) (h1 : -9223372036854775808 ≤ y) (h2 : y ≤ 9223372036854775807) (k : Nat) (hk : 10 ≤ k) : terrierref1_Int.f k y = some (strOfNums (uv (zig y))) := by
  unfold terrierref1_Int.f
  have hz := zig_lt y h1 h2
  by_cases h : y < 0
  · rw [if_pos h]
    have e1 : wrap64 (y + 1) = y + 1 := by unfold wrap64; omega
    have e2 : wrap64 (-(y + 1)) = -(y + 1) := by unfold wrap64; omega
    have e3 : IntKind.u64.wrap (-(y + 1)) = -(y + 1) := by rw [IntKind.wrap_u64]; omega
    have e4 : IntKind.u64.wrap (-(y + 1) * 2) = (((-(y + 1) * 2).toNat : Nat) : Int) := by rw [IntKind.wrap_u64]; omega
    rw [e1, e2, e3, e4, or1 _ (by omega) (by omega)]
    have e5 : (-(y + 1) * 2).toNat + 1 = zig y := by unfold zig; rw [if_pos h]; omega
    rw [e5, ruvar_eq _ hz k hk]
    rfl
  · rw [if_neg h]
    have e3 : IntKind.u64.wrap y = y := by rw [IntKind.wrap_u64]; omega
    have e4 : IntKind.u64.wrap (y * 2) = ((zig y : Nat) : Int) := by rw [IntKind.wrap_u64]; unfold zig; rw [if_neg h]; omega
    rw [e3, e4, ruvar_eq _ hz k hk]
    rfl
end Go.Proofs.Ytgjgandkcmjbnaa.PB
