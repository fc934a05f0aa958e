/- Proved: how a point, handed in by value, is read as data and read again; no condition. -/
import Derived.Test.YtabblkckapdpoaaRows
import Derived.ProofKit
import Derived.Lib.SmallJoins
namespace Go.Proofs.Ytabblkckapdpoaa
open Go.ChangeShapes Go.WideShapes Go.ChangeAt Go.RowKit Go.Joins

theorem Try.cells23' : Try.prog.cellsOf 23 = 2 := by kernel_rfl

theorem open_P {H : Type} {enc : TypeId × Value → H} {W : World} {base : Nat} {lim : Nat → Bool} {held : Bool} {v : Value} {d : DataW H} {ps : List MemPlace}
    (hv : Value.okWide Try.prog W .any base 23 v) (h : DataW.Trod enc Try.prog W 0 lim held 23 v d ps) :
    ∃ a b : Int, v = .agg #[.int .i64 a, .int .i64 b] ∧ d = .agg [.lit (.int .i64 a), .lit (.int .i64 b)] ∧ ps = [] ∧ (Lit.int .i64 a).wf = true ∧ (Lit.int .i64 b).wf = true := by
  obtain ⟨c0, c1, y0, y1, m, rfl, rfl, rfl, hy0, hy1⟩ := open_agg2 Try.underlying23 (by kernel_rfl) Try.cells23' hv h
  obtain ⟨a, e0, rfl, wa⟩ := DataW.trod_int Try.underlying2 hy0
  obtain ⟨b, e1, rfl, wb⟩ := DataW.trod_int Try.underlying2 hy1
  simp at e0 e1
  subst e0 e1
  exact ⟨a, b, rfl, rfl, rfl, wa, wb⟩

theorem shut_P {H : Type} {enc : TypeId × Value → H} {W : World} {lim : Nat → Bool} {held : Bool} {a b : Int} (wa : (Lit.int .i64 a).wf = true) (wb : (Lit.int .i64 b).wf = true) :
    DataW.Trod enc Try.prog W 0 lim held 23 (.agg #[.int .i64 a, .int .i64 b]) (.agg [.lit (.int .i64 a), .lit (.int .i64 b)]) [] :=
  shut_agg2 (y0 := (.lit (.int .i64 a), [])) (y1 := (.lit (.int .i64 b), [])) Try.underlying23 (by kernel_rfl) Try.cells23' ⟨1, by simp [DataW.trod, Try.underlying2, wa]⟩ ⟨1, by simp [DataW.trod, Try.underlying2, wb]⟩
end Go.Proofs.Ytabblkckapdpoaa
