/- Proved: what stableCmpFunc and SortStableFunc of slices do to a row of fewer than twenty ints: the insertion sort; no other condition. -/
import Derived.Test.YtojdmloimmcacaaT36
import Derived.LoopN
namespace Go.Proofs.Ytojdmloimmcacaa.TS
open Go.RowKit Go.Sort Go.Proofs.YtojdmloimmcacaaW.PrintWords Go.Proofs.YtojdmloimmcacaaW.PrintLast Go.Proofs.YtojdmloimmcacaaW.PrintMore
set_option linter.unusedVariables false
set_option linter.unusedSimpArgs false
variable {I : World → Prop} {blk : Nat}
def SortsTo (I : World → Prop) (blk : Nat) (ok : Int → Prop) (cf : Int → Int → Int) (d : Array Int) (e : Ending) (w' : World) : Prop :=
  e = .returned (.tuple #[]) ∧ SX I blk (Sort.insertionSort (ltc cf) d 0 d.size) w' ∧ (Sort.insertionSort (ltc cf) d 0 d.size).size = d.size ∧ ∀ i, i < d.size → ok (Sort.insertionSort (ltc cf) d 0 d.size)[i]!
set_option maxHeartbeats 4000000 in
set_option maxRecDepth 100000 in
theorem stable_walk (g : Nat) (cb : Array Value) (cf : Int → Int → Int) (hI : ∀ w w', I w → Below w.heap.size w w' → I w') (hI2 : ∀ w (a : Addr) v, a.block = blk → I w → I (w.setCell a v))
    (eg : ∀ args w, (callFunc g args).run Try.prog w = .ok (.enter g args) w) (ok : Int → Prop)
    (hc : ∀ (w : World) (x y : Int), I w → ok x → ok y → Calls Try.prog g (#[.int .i64 x, .int .i64 y] ++ cb) w fun e w' => e = .returned (.int .i64 (cf x y)) ∧ Below w.heap.size w w')
    (d : Array Int) (w : World) (hok : ∀ i, i < d.size → ok d[i]!) (S : SX I blk d w) (hsz : d.size < 20) :
    Calls Try.prog 27 #[.slice (some ⟨blk, 0, none⟩) d.size d.size, .int .i64 d.size, .func (.func g) #[] cb] w (SortsTo I blk ok cf d) := by
  have hcon : Calls Try.prog 36 #[.slice (some ⟨blk, 0, none⟩) d.size d.size, .int .i64 0, .int .i64 d.size, .func (.func g) #[] cb] w (SortsTo I blk ok cf d) :=
    ins_walk g cb cf hI hI2 eg ok hc 0 d.size d w hok S (Nat.zero_le _) (Nat.le_refl _) (by omega)
  have HC := Aside0.mk hcon
  have h20 : (d.size : Int) < 20 := by omega
  have h20' : ¬ (20 : Int) ≤ (d.size : Int) := by omega
  have h20b : ¬ (20 : Int) < (d.size : Int) := by omega
  clear hcon hc hI hI2 S hok
  go_enter Try.func27, Try.ntmps27
  go_wp2
  refine wp_loop_rounds 1 ?_
  rw [rounds_succ]
  go_wp2_with (go_at_call 36; refine HC.out.mono ?_; rintro e w1 ⟨rfl, hs⟩; have HS := Aside0.mk hs; clear hs)
  refine wp_loop_rounds 1 ?_
  rw [rounds_succ]
  go_wp2
  go_end0
  exact ⟨rfl, HS.out⟩
set_option maxHeartbeats 4000000 in
set_option maxRecDepth 100000 in
theorem sort_walk (g : Nat) (cb : Array Value) (cf : Int → Int → Int) (hI : ∀ w w', I w → Below w.heap.size w w' → I w') (hI2 : ∀ w (a : Addr) v, a.block = blk → I w → I (w.setCell a v))
    (eg : ∀ args w, (callFunc g args).run Try.prog w = .ok (.enter g args) w) (ok : Int → Prop)
    (hc : ∀ (w : World) (x y : Int), I w → ok x → ok y → Calls Try.prog g (#[.int .i64 x, .int .i64 y] ++ cb) w fun e w' => e = .returned (.int .i64 (cf x y)) ∧ Below w.heap.size w w')
    (d : Array Int) (w : World) (hok : ∀ i, i < d.size → ok d[i]!) (S : SX I blk d w) (hsz : d.size < 20) :
    Calls Try.prog 18 #[.slice (some ⟨blk, 0, none⟩) d.size d.size, .func (.func g) #[] cb] w (SortsTo I blk ok cf d) := by
  have HC := Aside0.mk (stable_walk g cb cf hI hI2 eg ok hc d w hok S hsz)
  clear hc hI hI2 S hok
  go_enter Try.func18, Try.ntmps18
  go_wp2_with (go_at_call 27; refine HC.out.mono ?_; rintro e w1 ⟨rfl, hs⟩; have HS := Aside0.mk hs; clear hs)
  go_end0
  exact ⟨rfl, HS.out⟩
end Go.Proofs.Ytojdmloimmcacaa.TS
