/- Proved: what turn.round hands out: its function value over two boxes; no condition. -/
import Derived.Test.YtojdmloimmcacaaV33
namespace Go.Proofs.Ytojdmloimmcacaa.TS
open Go.RowKit Go.Sort Go.Proofs.YtojdmloimmcacaaW.PrintWords Go.Proofs.YtojdmloimmcacaaW.PrintLast Go.Proofs.YtojdmloimmcacaaW.PrintMore
open PTurnSorts
set_option linter.unusedVariables false
set_option linter.unusedSimpArgs false
set_option maxHeartbeats 4000000 in
theorem round_walk (A : Option Addr) (n c : Nat) (fr : S36) (w : World) :
    Calls Try.prog 23 #[.slice A n c, .agg #[.int .i64 fr.f0, .int .i64 fr.f1]] w fun e w' => e = .returned (.func (.func 33) #[] #[.pointer (some ⟨w.heap.size, 0, none⟩), .pointer (some ⟨w.heap.size + 1, 0, none⟩)]) ∧ RowKit.Below w.heap.size w w' ∧ w'.heap[w.heap.size]? = some (.cells #[.slice A n c] 24 (0, 0)) ∧ w'.heap[w.heap.size + 1]? = some (.cells #[.int .i64 fr.f0, .int .i64 fr.f1] 36 (0, 0)) ∧ w'.heap.size = w.heap.size + 2 := by
  have hu36 := Try.underlying36
  go_enter Try.func23, Try.ntmps23
  go_wp2
  go_ret
  refine ⟨rfl, ?_, ?_, ?_, by simp⟩
  · exact ((Below.refl _ w).alloc (Nat.le_refl _) _).alloc (by simp) _
  · exact (Below.heap_alloc _ _ _ (by simp)).trans (World.alloc_heap_new w _)
  · have := World.alloc_heap_new (w.alloc (.cells #[.slice A n c] 24)) (.cells #[.int .i64 fr.f0, .int .i64 fr.f1] 36)
    rw [World.size_alloc] at this
    exact this
end Go.Proofs.Ytojdmloimmcacaa.TS
