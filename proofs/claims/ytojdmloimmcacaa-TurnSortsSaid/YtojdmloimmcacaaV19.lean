/- Proved: what the function value tells that turn.Sort hands to the sort; no condition beyond the places' bounds. -/
import Derived.Test.YtojdmloimmcacaaV36
import Derived.Test.YtojdmloimmcacaaPTurnSortsx6
namespace Go.Proofs.Ytojdmloimmcacaa.TS
open Go.RowKit Go.Sort Go.Proofs.YtojdmloimmcacaaW.PrintWords Go.Proofs.YtojdmloimmcacaaW.PrintLast Go.Proofs.YtojdmloimmcacaaW.PrintMore
open PTurnSorts
set_option linter.unusedVariables false
set_option linter.unusedSimpArgs false
/-- How two directions stand. -/
def cmpv (a b : S36) : Int := (turn_Cmp.f 20 a.f0 a.f1 b.f0 b.f1).getD 0
/-- The frame: below the heap's old end nothing has turned, and the captured list's box holds it. -/
def Fr (w0 : World) (gb : Nat) (A : Option Addr) (n c : Nat) (w : World) : Prop := Below w0.heap.size w0 w ∧ w.heap[gb]? = some (.cells #[.slice A n c] 24 (0, 0))
set_option maxHeartbeats 4000000 in
set_option maxRecDepth 100000 in
theorem clos_walk (w0 : World) (A : Option Addr) (xs : List S36) (c gb : Nat) (hC : Kd.C k36 w0 A xs.length xs) (hcmp : ∀ a b : S36, turn_Cmp.f 20 a.f0 a.f1 b.f0 b.f1 = some (cmpv a b))
    (w : World) (x y : Int) (hF : Fr w0 gb A xs.length c w) (hx : 0 ≤ x ∧ x < (xs.length : Int)) (hy : 0 ≤ y ∧ y < (xs.length : Int)) :
    Calls Try.prog 19 #[.int .i64 x, .int .i64 y, .pointer (some ⟨gb, 0, none⟩)] w fun e w' => e = .returned (.int .i64 (cmpv (rd_T36 xs x) (rd_T36 xs y))) ∧ Below w.heap.size w w' := by
  have hu36 := Try.underlying36
  obtain ⟨hB, hbox⟩ := hF
  obtain ⟨ad, e1, x0, x1⟩ := at_T36 hC x hx.1 hx.2
  obtain ⟨ad2, e2, y0, y1⟩ := at_T36 hC y hy.1 hy.2
  subst e1
  obtain rfl := Option.some.inj e2
  clear e2
  replace x0 := (hB.cell (World.block_lt_of_cell? w0 _ x0)).trans x0
  replace x1 := (hB.cell (World.block_lt_of_cell? w0 _ x1)).trans x1
  replace y0 := (hB.cell (World.block_lt_of_cell? w0 _ y0)).trans y0
  replace y1 := (hB.cell (World.block_lt_of_cell? w0 _ y1)).trans y1
  have b0 : w.cell? ⟨gb, 0, none⟩ = some (.slice (some ad) xs.length c) := by simp [World.cell?, hbox]
  have hm := Aside0.mk (hcmp (rd_T36 xs x) (rd_T36 xs y))
  generalize cmpv (rd_T36 xs x) (rd_T36 xs y) = r at hm ⊢
  generalize hX : rd_T36 xs x = X at *
  generalize hY : rd_T36 xs y = Y at *
  have p1 := eq_true hx.1
  have q1 := eq_true hx.2
  have p2 := eq_true hy.1
  have q2 := eq_true hy.2
  have HF := Aside0.mk hB
  clear hB hbox hcmp hC hx hy hX hY
  have KEEP : Aside0 (∀ w', Below w.heap.size w w' → (w'.cell? ⟨gb, 0, none⟩ = some (.slice (some ad) xs.length c) ∧ (w'.cell? (ad.add (x.toNat * 2)) = some (.int .i64 X.f0) ∧ w'.cell? ⟨(ad.add (x.toNat * 2)).block, (ad.add (x.toNat * 2)).off + 1, none⟩ = some (.int .i64 X.f1)) ∧ w'.cell? (ad.add (y.toNat * 2)) = some (.int .i64 Y.f0) ∧ w'.cell? ⟨(ad.add (y.toNat * 2)).block, (ad.add (y.toNat * 2)).off + 1, none⟩ = some (.int .i64 Y.f1)) ∧ Below w.heap.size w w') :=
    ⟨fun w' h => ⟨⟨(h.cell (World.block_lt_of_cell? w _ b0)).trans b0, ⟨(h.cell (World.block_lt_of_cell? w _ x0)).trans x0, (h.cell (World.block_lt_of_cell? w _ x1)).trans x1⟩, (h.cell (World.block_lt_of_cell? w _ y0)).trans y0, (h.cell (World.block_lt_of_cell? w _ y1)).trans y1⟩, h⟩⟩
  go_enter Try.func19, Try.ntmps19
  go_wp2_with fail
  go_region_held3 (fun w' => (w'.cell? ⟨gb, 0, none⟩ = some (.slice (some ad) xs.length c) ∧ (w'.cell? (ad.add (x.toNat * 2)) = some (.int .i64 X.f0) ∧ w'.cell? ⟨(ad.add (x.toNat * 2)).block, (ad.add (x.toNat * 2)).off + 1, none⟩ = some (.int .i64 X.f1)) ∧ w'.cell? (ad.add (y.toNat * 2)) = some (.int .i64 Y.f0) ∧ w'.cell? ⟨(ad.add (y.toNat * 2)).block, (ad.add (y.toNat * 2)).off + 1, none⟩ = some (.int .i64 Y.f1)) ∧ Below w.heap.size w w')
    (first | exact KEEP.out _ hox | exact KEEP.out _ (Below.refl _ _).drew)
    (first | (go_at_call 20; (with_reducible refine (turn_Cmp.calls 20 _ _ _ _ _ _ hm.out).mono ?_); rintro e w1 ⟨rfl, hb⟩; have hox := (And.right (by assumption : _ ∧ Below w.heap.size w _)).trans (hb.mono (And.right (by assumption : _ ∧ Below w.heap.size w _)).size); clear hb))
  all_goals (go_wp2_with fail; go_ret)
  all_goals exact ⟨rfl, hox⟩
end Go.Proofs.Ytojdmloimmcacaa.TS
