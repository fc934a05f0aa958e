/- Proved: a number is the bytes that the reference says, and read again from them, whatever follows, in the printed functions; for any numbers and any bytes behind. -/
import Derived.Test.YtgjgandkcmjbnaaPureU
import Derived.Test.YtgjgandkcmjbnaaWalkPackNumbers
namespace Go.Proofs.Ytgjgandkcmjbnaa.Pure
open Go.RowKit Go.Proofs.Ytgjgandkcmjbnaa.PB Go.Proofs.YtgjgandkcmjbnaaW.PrintWords Go.Proofs.YtgjgandkcmjbnaaW.PrintLast
theorem PackNumbers : terrierlaw1_PackNumbers.Pure := by
  intro a0 y more h0 h1 _ hm _
  obtain ⟨x, rfl, hx⟩ := u64_bd h0
  obtain ⟨y1, y2⟩ := i64_bd h1
  have hz := zig_lt y y1 y2
  have l1 := uv_len10 x hx
  have l2 := uv_len10 _ hz
  refine ⟨300, ?_⟩
  unfold terrierlaw1_PackNumbers.f
  rw [uvar_eq x hx 300 (by omega), int_eq y y1 y2 300 (by omega), ruvar_eq x hx 300 (by omega), rint_eq y y1 y2 300 (by omega)]
  simp only [Option.bind_some, if_true]
  rw [terrierlaw1_PackNumbers.j0, if_neg (by simp)]
  simp only [Option.bind_some, List.nil_append, List.length_nil]
  rw [if_pos (by omega), if_pos (by omega), var_eq _ 299 (by omega), read_uv x hx]
  simp only [Option.bind_some]
  rw [if_pos (by omega), if_pos (by omega), intOf_eq _ 299 (by omega), read_uv _ hz]
  have h4 : iof (((zig y : Nat) : Int), ((uv (zig y)).length : Int), 0) = (y, ((uv (zig y)).length : Int), 0) := by
    unfold iof
    simp only [if_true]
    rw [zag_zig]
  rw [h4]
  simp only [Option.bind_some, if_true]
  rw [awake_eq 299 (by omega)]
  rfl
end Go.Proofs.Ytgjgandkcmjbnaa.Pure
