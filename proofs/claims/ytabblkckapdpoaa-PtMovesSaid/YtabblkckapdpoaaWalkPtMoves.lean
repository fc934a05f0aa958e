/- Proved: the law's function PtMoves tells true wherever the areas are as it says, by its walk. -/
import Derived.Test.YtabblkckapdpoaaPPtMovesx3
import Derived.Deep.RegionHeld3
import Derived.RangeFuncBox
namespace Go.Proofs.Ytabblkckapdpoaa.PPtMoves
open Go.RowKit Go.Proofs.YtabblkckapdpoaaW.PrintWords Go.Proofs.YtabblkckapdpoaaW.PrintLast Go.Proofs.YtabblkckapdpoaaW.PrintMore
set_option linter.unusedVariables false
set_option linter.unusedSimpArgs false
theorem cells2 {W : World} {g t : Nat} {a b : Value} (h : W.heap[g]? = some (.cells #[a, b] t (0, 0))) : W.cell? ⟨g, 0, none⟩ = some a ∧ W.cell? ⟨g, 1, none⟩ = some b := by
  constructor <;> simp [World.cell?, h]
def Old (W w' : World) : Prop := Below W.heap.size W w'
theorem Old.of {W w' : World} (h : Below W.heap.size W w') : Old W w' := h
theorem Old.cell {W w' : World} (h : Old W w') {g o : Nat} {v : Value} (hc : W.cell? ⟨g, o, none⟩ = some v) : w'.cell? ⟨g, o, none⟩ = some v := by
  rw [(show Below W.heap.size W w' from h).cell (p := ⟨g, o, none⟩) (World.block_lt_of_cell? W _ hc)]; exact hc
theorem Old.step {W w1 w2 : World} (h : Old W w1) (k : Below w1.heap.size w1 w2) : Old W w2 := h.trans (k.mono h.size)
theorem Old.alloc {W w1 : World} (h : Old W w1) (o : Obj) : Old W (w1.alloc o) := (show Below W.heap.size W w1 from h).alloc (show Below W.heap.size W w1 from h).size o
theorem Old.drew (W : World) : Old W W.drew := (Below.refl _ _).drew
/-- Three points in a row of an array of three, the first k of them laid. -/
def arr (k : Nat) (a0 a1 a2 a3 a4 a5 : Int) : Array Value := #[.int .i64 (if 0 < k then a0 else 0), .int .i64 (if 0 < k then a1 else 0), .int .i64 (if 1 < k then a2 else 0), .int .i64 (if 1 < k then a3 else 0), .int .i64 (if 2 < k then a4 else 0), .int .i64 (if 2 < k then a5 else 0)]
structure Facts (w : World) (gl ga gb gc : Nat) (L A B C : Array Value) (W : World) : Prop where
  l : W.heap[gl]? = some (.cells L 23 (0, 0))
  a : W.heap[ga]? = some (.cells A 27 (0, 0))
  b : W.heap[gb]? = some (.cells B 27 (0, 0))
  c : W.heap[gc]? = some (.cells C 27 (0, 0))
  below : Below w.heap.size w W
  la : gl < ga
  ab : ga < gb
  bc : gb < gc
  wa : w.heap.size ≤ ga
theorem old_at {W W' : World} (h : Old W W') {g : Nat} {o : Obj} (hg : W.heap[g]? = some o) : W'.heap[g]? = some o :=
  ((show Below W.heap.size W W' from h).block g (Array.getElem?_eq_some_iff.1 hg).1).trans hg
theorem Facts.old {w : World} {gl ga gb gc : Nat} {L A B C : Array Value} {W W' : World} (h : Facts w gl ga gb gc L A B C W) (ho : Old W W') : Facts w gl ga gb gc L A B C W' :=
  ⟨old_at ho h.l, old_at ho h.a, old_at ho h.b, old_at ho h.c, h.below.trans ((show Below W.heap.size W W' from ho).mono h.below.size), h.la, h.ab, h.bc, h.wa⟩
theorem Facts.setA {w : World} {gl ga gb gc : Nat} {L A B C : Array Value} {W : World} (h : Facts w gl ga gb gc L A B C W) (j : Nat) (u : Value) : Facts w gl ga gb gc L (A.setIfInBounds j u) B C (W.setCell ⟨ga, j, none⟩ u) :=
  have h1 := h.la; have h2 := h.ab; have h3 := h.bc
  ⟨(Below.heap_setCell _ _ _ _ (by show ¬ gl = ga; omega)).trans h.l, blk_set h.a j u, (Below.heap_setCell _ _ _ _ (by show ¬ gb = ga; omega)).trans h.b, (Below.heap_setCell _ _ _ _ (by show ¬ gc = ga; omega)).trans h.c, h.below.setCell (p := ⟨ga, j, none⟩) h.wa u, h1, h2, h3, h.wa⟩
theorem Facts.setB {w : World} {gl ga gb gc : Nat} {L A B C : Array Value} {W : World} (h : Facts w gl ga gb gc L A B C W) (j : Nat) (u : Value) : Facts w gl ga gb gc L A (B.setIfInBounds j u) C (W.setCell ⟨gb, j, none⟩ u) :=
  have h1 := h.la; have h2 := h.ab; have h3 := h.bc; have h4 := h.wa
  ⟨(Below.heap_setCell _ _ _ _ (by show ¬ gl = gb; omega)).trans h.l, (Below.heap_setCell _ _ _ _ (by show ¬ ga = gb; omega)).trans h.a, blk_set h.b j u, (Below.heap_setCell _ _ _ _ (by show ¬ gc = gb; omega)).trans h.c, h.below.setCell (p := ⟨gb, j, none⟩) (by show w.heap.size ≤ gb; omega) u, h1, h2, h3, h.wa⟩
theorem Facts.setC {w : World} {gl ga gb gc : Nat} {L A B C : Array Value} {W : World} (h : Facts w gl ga gb gc L A B C W) (j : Nat) (u : Value) : Facts w gl ga gb gc L A B (C.setIfInBounds j u) (W.setCell ⟨gc, j, none⟩ u) :=
  have h1 := h.la; have h2 := h.ab; have h3 := h.bc; have h4 := h.wa
  ⟨(Below.heap_setCell _ _ _ _ (by show ¬ gl = gc; omega)).trans h.l, (Below.heap_setCell _ _ _ _ (by show ¬ ga = gc; omega)).trans h.a, (Below.heap_setCell _ _ _ _ (by show ¬ gb = gc; omega)).trans h.b, blk_set h.c j u, h.below.setCell (p := ⟨gc, j, none⟩) (by show w.heap.size ≤ gc; omega) u, h1, h2, h3, h.wa⟩
theorem far2 {W : World} {gl g j k a b : Nat} {u1 u2 v1 v2 : Value} (h : W.cell? ⟨gl, a, none⟩ = some v1 ∧ W.cell? ⟨gl, b, none⟩ = some v2) (hn : gl ≠ g) : ((W.setCell ⟨g, j, none⟩ u1).setCell ⟨g, k, none⟩ u2).cell? ⟨gl, a, none⟩ = some v1 ∧ ((W.setCell ⟨g, j, none⟩ u1).setCell ⟨g, k, none⟩ u2).cell? ⟨gl, b, none⟩ = some v2 := by
  have e : ∀ c, ((W.setCell ⟨g, j, none⟩ u1).setCell ⟨g, k, none⟩ u2).cell? ⟨gl, c, none⟩ = W.cell? ⟨gl, c, none⟩ := fun c =>
    World.cell?_of_block (a := ⟨gl, c, none⟩) ((Below.heap_setCell _ _ _ _ (by show ¬ gl = g; exact hn)).trans (Below.heap_setCell _ _ _ _ (by show ¬ gl = g; exact hn)))
  rw [e, e]; exact h
theorem at_block {W : World} {g t : Nat} {C : Array Value} (h : W.heap[g]? = some (.cells C t (0, 0))) (j : Nat) : W.cell? ⟨g, j, none⟩ = C[j]? ∧ W.frozen? ⟨g, j, none⟩ = false := by
  constructor
  · simp [World.cell?, h]
  · simp [World.frozen?, h]
set_option maxHeartbeats 4000000 in
set_option maxRecDepth 100000 in
theorem moves_calls (ax ay bx bY cx cy dx dy x0 y0 x1 y1 x2 y2 X Y : Int) (w : World)
    (hx0 : Aside0 (ax.tmod 1000 = x0)) (hy0 : Aside0 (ay.tmod 1000 = y0)) (hx1 : Aside0 (bx.tmod 1000 = x1)) (hy1 : Aside0 (bY.tmod 1000 = y1)) (hx2 : Aside0 (cx.tmod 1000 = x2)) (hy2 : Aside0 (cy.tmod 1000 = y2)) (hX : Aside0 (dx.tmod 10000 = X)) (hY : Aside0 (dy.tmod 10000 = Y))
    (m0 n0 m1 n1 m2 n2 : Int) (q0 r0 q1 r1 q2 r2 : Int) (hm0 : Aside0 (IntKind.i64.wrap (x0 + X) = m0)) (hn0 : Aside0 (IntKind.i64.wrap (y0 + Y) = n0)) (hm1 : Aside0 (IntKind.i64.wrap (x1 + X) = m1)) (hn1 : Aside0 (IntKind.i64.wrap (y1 + Y) = n1)) (hm2 : Aside0 (IntKind.i64.wrap (x2 + X) = m2)) (hn2 : Aside0 (IntKind.i64.wrap (y2 + Y) = n2)) (hq0 : Aside0 (IntKind.i64.wrap (-y0) = q0)) (hq1 : Aside0 (IntKind.i64.wrap (-y1) = q1)) (hq2 : Aside0 (IntKind.i64.wrap (-y2) = q2)) (u : Int)
    (t : Int) (hu : Aside0 (wrap64 (-t) = u)) (hM : Aside0 (pt_Area2.f m0 n0 m1 n1 m2 n2 = some t)) (hN : Aside0 (pt_Area2.f y0 x0 y1 x1 y2 x2 = some u)) (hO : Aside0 (pt_Area2.f q0 x0 q1 x1 q2 x2 = some t)) (ka : Nat) (hw : Aside0 (terrierlaw9_awake.f ka = some true)) (hA : Aside0 (pt_Area2.f x0 y0 x1 y1 x2 y2 = some t)) :
    Calls Try.prog 3 #[.agg #[.int .i64 ax, .int .i64 ay], .agg #[.int .i64 bx, .int .i64 bY], .agg #[.int .i64 cx, .int .i64 cy], .int .i64 dx, .int .i64 dy] w fun e w' => e = .returned (.bool true) ∧ Below w.heap.size w w' := by
  go_enter Try.func3, Try.ntmps3
  go_wp2_with fail
  obtain ⟨W, hW⟩ : ∃ W, W = ((w.alloc (.cells #[.int .i64 ax, .int .i64 ay] 23)).alloc (.cells #[.int .i64 bx, .int .i64 bY] 23)).alloc (.cells #[.int .i64 cx, .int .i64 cy] 23) := ⟨_, rfl⟩
  have hbW : Below w.heap.size w W := by rw [hW]; exact ((((Below.refl _ w).alloc (Nat.le_refl _) _).alloc (by simp) _).alloc (by simp; omega) _)
  have x0 : W.heap[w.heap.size]? = some (.cells #[.int .i64 ax, .int .i64 ay] 23 (0, 0)) := by
    rw [hW]; exact (Below.heap_alloc _ _ _ (by simp; omega)).trans ((Below.heap_alloc _ _ _ (by simp)).trans (World.alloc_heap_new w _))
  have x1 : W.heap[w.heap.size + 1]? = some (.cells #[.int .i64 bx, .int .i64 bY] 23 (0, 0)) := by
    have := World.alloc_heap_new (w.alloc (.cells #[.int .i64 ax, .int .i64 ay] 23)) (.cells #[.int .i64 bx, .int .i64 bY] 23)
    rw [World.size_alloc] at this
    rw [hW]; exact (Below.heap_alloc _ _ _ (by simp)).trans this
  have x2 : W.heap[w.heap.size + 1 + 1]? = some (.cells #[.int .i64 cx, .int .i64 cy] 23 (0, 0)) := by
    have := World.alloc_heap_new ((w.alloc (.cells #[.int .i64 ax, .int .i64 ay] 23)).alloc (.cells #[.int .i64 bx, .int .i64 bY] 23)) (.cells #[.int .i64 cx, .int .i64 cy] 23)
    rw [World.size_alloc, World.size_alloc] at this
    rw [hW]; exact this
  have c0 := cells2 x0
  have c1 := cells2 x1
  have c2 := cells2 x2
  rw [← hW]
  have KEEP : Aside0 (∀ w', Old W w' → (w'.cell? ⟨w.heap.size, 0, none⟩ = some (.int .i64 ax) ∧ w'.cell? ⟨w.heap.size, 1, none⟩ = some (.int .i64 ay) ∧ w'.cell? ⟨w.heap.size + 1, 0, none⟩ = some (.int .i64 bx) ∧ w'.cell? ⟨w.heap.size + 1, 1, none⟩ = some (.int .i64 bY) ∧ w'.cell? ⟨w.heap.size + 1 + 1, 0, none⟩ = some (.int .i64 cx) ∧ w'.cell? ⟨w.heap.size + 1 + 1, 1, none⟩ = some (.int .i64 cy)) ∧ Old W w') :=
    ⟨fun w' h => ⟨⟨h.cell c0.1, h.cell c0.2, h.cell c1.1, h.cell c1.2, h.cell c2.1, h.cell c2.2⟩, h⟩⟩
  clear c0 c1 c2 hW x0 x1 x2
  go_region_held3 (fun w' => (w'.cell? ⟨w.heap.size, 0, none⟩ = some (.int .i64 ax) ∧ w'.cell? ⟨w.heap.size, 1, none⟩ = some (.int .i64 ay) ∧ w'.cell? ⟨w.heap.size + 1, 0, none⟩ = some (.int .i64 bx) ∧ w'.cell? ⟨w.heap.size + 1, 1, none⟩ = some (.int .i64 bY) ∧ w'.cell? ⟨w.heap.size + 1 + 1, 0, none⟩ = some (.int .i64 cx) ∧ w'.cell? ⟨w.heap.size + 1 + 1, 1, none⟩ = some (.int .i64 cy)) ∧ Old W w')
    (first | exact KEEP.out _ (Old.drew _) | exact KEEP.out _ (Old.step (by assumption) (by assumption)) | exact KEEP.out _ (Old.step (And.right (by assumption)) (by assumption)) | exact KEEP.out _ (Old.alloc (And.right (by assumption)) _))
    (first | (go_at_call 12; (with_reducible refine (terrierlaw9_P.calls _ _ _ _ _ rfl).mono ?_); rintro e w1 ⟨rfl, hb⟩))
  have hol := And.right (by assumption : _ ∧ Old W (w1.alloc (.cells #[.int .i64 (ax.tmod 1000), .int .i64 (ay.tmod 1000), .int .i64 (bx.tmod 1000), .int .i64 (bY.tmod 1000), .int .i64 (cx.tmod 1000), .int .i64 (cy.tmod 1000)] 23)))
  have hbl : (w1.alloc (.cells #[.int .i64 (ax.tmod 1000), .int .i64 (ay.tmod 1000), .int .i64 (bx.tmod 1000), .int .i64 (bY.tmod 1000), .int .i64 (cx.tmod 1000), .int .i64 (cy.tmod 1000)] 23)).heap[w1.heap.size]? = some (.cells #[.int .i64 (ax.tmod 1000), .int .i64 (ay.tmod 1000), .int .i64 (bx.tmod 1000), .int .i64 (bY.tmod 1000), .int .i64 (cx.tmod 1000), .int .i64 (cy.tmod 1000)] 23 (0, 0)) := World.alloc_heap_new _ _
  rw [hx0.out, hy0.out, hx1.out, hy1.out, hx2.out, hy2.out] at hol hbl
  rw [hx0.out, hy0.out, hx1.out, hy1.out, hx2.out, hy2.out]
  obtain ⟨V, hV⟩ : ∃ V, V = w1.alloc (.cells #[.int .i64 x0, .int .i64 y0, .int .i64 x1, .int .i64 y1, .int .i64 x2, .int .i64 y2] 23) := ⟨_, rfl⟩
  rw [← hV] at hol hbl ⊢
  generalize w1.heap.size = gl at *
  clear hV KEEP
  have hbV : Below w.heap.size w V := hbW.trans (Below.mono hol hbW.size)
  have g0 : V.cell? ⟨gl, 0, none⟩ = some (.int .i64 x0) := by simp [World.cell?, hbl]
  have g1 : V.cell? ⟨gl, 1, none⟩ = some (.int .i64 y0) := by simp [World.cell?, hbl]
  have g2 : V.cell? ⟨gl, 2, none⟩ = some (.int .i64 x1) := by simp [World.cell?, hbl]
  have g3 : V.cell? ⟨gl, 3, none⟩ = some (.int .i64 y1) := by simp [World.cell?, hbl]
  have g4 : V.cell? ⟨gl, 4, none⟩ = some (.int .i64 x2) := by simp [World.cell?, hbl]
  have g5 : V.cell? ⟨gl, 5, none⟩ = some (.int .i64 y2) := by simp [World.cell?, hbl]
  have HB := Aside0.mk hbV
  have KEEP : Aside0 (∀ w', Old V w' → (w'.cell? ⟨gl, 0, none⟩ = some (.int .i64 x0) ∧ w'.cell? ⟨gl, 1, none⟩ = some (.int .i64 y0) ∧ w'.cell? ⟨gl, 2, none⟩ = some (.int .i64 x1) ∧ w'.cell? ⟨gl, 3, none⟩ = some (.int .i64 y1) ∧ w'.cell? ⟨gl, 4, none⟩ = some (.int .i64 x2) ∧ w'.cell? ⟨gl, 5, none⟩ = some (.int .i64 y2)) ∧ Old V w') :=
    ⟨fun w' h => ⟨⟨h.cell g0, h.cell g1, h.cell g2, h.cell g3, h.cell g4, h.cell g5⟩, h⟩⟩
  have HL := Aside0.mk hbl
  clear hbV hol hbl g0 g1 g2 g3 g4 g5 hbW
  go_wp2_with fail
  rw [hX.out, hY.out]
  go_region_held3 (fun w' => (w'.cell? ⟨gl, 0, none⟩ = some (.int .i64 x0) ∧ w'.cell? ⟨gl, 1, none⟩ = some (.int .i64 y0) ∧ w'.cell? ⟨gl, 2, none⟩ = some (.int .i64 x1) ∧ w'.cell? ⟨gl, 3, none⟩ = some (.int .i64 y1) ∧ w'.cell? ⟨gl, 4, none⟩ = some (.int .i64 x2) ∧ w'.cell? ⟨gl, 5, none⟩ = some (.int .i64 y2)) ∧ Old V w')
    (first | exact KEEP.out _ (Old.drew _) | exact KEEP.out _ (Old.step (And.right (by assumption)) (by assumption)))
    (first | (go_at_call 13; (with_reducible refine (pt_Area2.calls _ _ _ _ _ _ t _ hA.out).mono ?_); rintro e w2 ⟨rfl, hb⟩))
  have ho2 : Old V w2 := And.right (by assumption : _ ∧ Old V w2)
  have hl2 := old_at ho2 HL.out
  have hb2 : Below w.heap.size w w2 := HB.out.trans (Below.mono ho2 HB.out.size)
  have hs2 : gl < w2.heap.size := (Array.getElem?_eq_some_iff.1 hl2).1
  have hn2 : w.heap.size ≤ w2.heap.size := hb2.size
  go_wp2_with fail
  obtain ⟨V3, hV3⟩ : ∃ V3, V3 = ((w2.alloc (.cells #[.int .i64 0, .int .i64 0, .int .i64 0, .int .i64 0, .int .i64 0, .int .i64 0] 27)).alloc (.cells #[.int .i64 0, .int .i64 0, .int .i64 0, .int .i64 0, .int .i64 0, .int .i64 0] 27)).alloc (.cells #[.int .i64 0, .int .i64 0, .int .i64 0, .int .i64 0, .int .i64 0, .int .i64 0] 27) := ⟨_, rfl⟩
  have f1 : V3.heap[w2.heap.size]? = some (.cells (arr 0 m0 n0 m1 n1 m2 n2) 27 (0, 0)) := by
    rw [hV3]; exact (Below.heap_alloc _ _ _ (by simp; omega)).trans ((Below.heap_alloc _ _ _ (by simp)).trans (World.alloc_heap_new w2 _))
  have f2 : V3.heap[w2.heap.size + 1]? = some (.cells (arr 0 y0 x0 y1 x1 y2 x2) 27 (0, 0)) := by
    have := World.alloc_heap_new (w2.alloc (.cells #[.int .i64 0, .int .i64 0, .int .i64 0, .int .i64 0, .int .i64 0, .int .i64 0] 27)) (.cells #[.int .i64 0, .int .i64 0, .int .i64 0, .int .i64 0, .int .i64 0, .int .i64 0] 27)
    rw [World.size_alloc] at this
    rw [hV3]; exact (Below.heap_alloc _ _ _ (by simp)).trans this
  have f3 : V3.heap[w2.heap.size + 1 + 1]? = some (.cells (arr 0 q0 x0 q1 x1 q2 x2) 27 (0, 0)) := by
    have := World.alloc_heap_new ((w2.alloc (.cells #[.int .i64 0, .int .i64 0, .int .i64 0, .int .i64 0, .int .i64 0, .int .i64 0] 27)).alloc (.cells #[.int .i64 0, .int .i64 0, .int .i64 0, .int .i64 0, .int .i64 0, .int .i64 0] 27)) (.cells #[.int .i64 0, .int .i64 0, .int .i64 0, .int .i64 0, .int .i64 0, .int .i64 0] 27)
    rw [World.size_alloc, World.size_alloc] at this
    rw [hV3]; exact this
  have f4 : V3.heap[gl]? = some (.cells #[.int .i64 x0, .int .i64 y0, .int .i64 x1, .int .i64 y1, .int .i64 x2, .int .i64 y2] 23 (0, 0)) := by
    rw [hV3]; exact (Below.heap_alloc _ _ _ (by simp; omega)).trans ((Below.heap_alloc _ _ _ (by simp; omega)).trans ((Below.heap_alloc _ _ _ hs2).trans hl2))
  have f5 : Below w.heap.size w V3 := by rw [hV3]; exact ((((hb2).alloc hb2.size _).alloc (by simp; omega) _).alloc (by simp; omega) _)
  rw [← hV3]
  generalize w2.heap.size = ga at *
  have HF : Aside0 (Facts w gl ga (ga + 1) (ga + 1 + 1) #[.int .i64 x0, .int .i64 y0, .int .i64 x1, .int .i64 y1, .int .i64 x2, .int .i64 y2] (arr 0 m0 n0 m1 n1 m2 n2) (arr 0 y0 x0 y1 x1 y2 x2) (arr 0 q0 x0 q1 x1 q2 x2) V3) := ⟨⟨f4, f1, f2, f3, f5, hs2, by omega, by omega, hn2⟩⟩
  clear f1 f2 f3 f4 f5 hV3 ho2 hl2 hb2 hs2 hn2 HL KEEP HB
  go_loopw [18] (fun i W' => ∃ j : Nat, i = .int .i64 (j : Int) ∧ j ≤ 3 ∧ Aside0 (Facts w gl ga (ga + 1) (ga + 1 + 1) #[.int .i64 x0, .int .i64 y0, .int .i64 x1, .int .i64 y1, .int .i64 x2, .int .i64 y2] (arr j m0 n0 m1 n1 m2 n2) (arr j y0 x0 y1 x1 y2 x2) (arr j q0 x0 q1 x1 q2 x2) W')) (fun i _ => 3 - (intOf i).toNat)
  case atStart => exact ⟨0, rfl, by omega, HF⟩
  case round =>
    clear HF
    obtain ⟨j, rfl, hj, HF⟩ := hrel
    rcases (by omega : j = 0 ∨ j = 1 ∨ j = 2 ∨ j = 3) with rfl | rfl | rfl | rfl
    · go_wp2_with fail
      have KEEP : Aside0 (∀ w', Old wr w' → w'.cell? ⟨gl, 0, none⟩ = some (.int .i64 x0) ∧ w'.cell? ⟨gl, 1, none⟩ = some (.int .i64 y0)) := ⟨fun w' ho => ⟨((at_block (HF.out.old ho).l 0).1).trans rfl, ((at_block (HF.out.old ho).l 1).1).trans rfl⟩⟩
      have TGT : Aside0 (∀ w', Old wr w' → w'.cell? ⟨ga, 0, none⟩ = some (.int .i64 0) ∧ w'.cell? ⟨ga, 1, none⟩ = some (.int .i64 0) ∧ w'.frozen? ⟨ga, 0, none⟩ = false ∧ w'.frozen? ⟨ga, 1, none⟩ = false) := ⟨fun w' ho => ⟨((at_block (HF.out.old ho).a 0).1).trans rfl, ((at_block (HF.out.old ho).a 1).1).trans rfl, (at_block (HF.out.old ho).a 0).2, (at_block (HF.out.old ho).a 1).2⟩⟩
      have KEEP2 : Aside0 (∀ (w' : World) (u1 u2 : Value), (w'.cell? ⟨gl, 0, none⟩ = some (.int .i64 x0) ∧ w'.cell? ⟨gl, 1, none⟩ = some (.int .i64 y0)) → ((w'.setCell ⟨ga, 0, none⟩ u1).setCell ⟨ga, 1, none⟩ u2).cell? ⟨gl, 0, none⟩ = some (.int .i64 x0) ∧ ((w'.setCell ⟨ga, 0, none⟩ u1).setCell ⟨ga, 1, none⟩ u2).cell? ⟨gl, 1, none⟩ = some (.int .i64 y0)) := ⟨fun w' u1 u2 h => far2 h (by have := HF.out.la; have := HF.out.ab; have := HF.out.bc; omega)⟩
      go_region_held3 (fun w' => w'.cell? ⟨gl, 0, none⟩ = some (.int .i64 x0) ∧ w'.cell? ⟨gl, 1, none⟩ = some (.int .i64 y0))
        (first | exact KEEP.out _ (Old.drew _) | exact KEEP.out _ (by assumption) | exact KEEP2.out _ _ _ (by assumption))
        (first | (go_at_call 12; (with_reducible refine (terrierlaw9_P.calls _ _ _ _ _ rfl).mono ?_); rintro e wx ⟨rfl, hb⟩; have hox := Old.step (Old.drew wr) hb; obtain ⟨t0, t1, t2, t3⟩ := TGT.out _ hox; clear hb))
      clear KEEP TGT KEEP2
      rw [hm0.out, hn0.out]
      have hF0 : Facts w gl ga (ga + 1) (ga + 1 + 1) #[.int .i64 x0, .int .i64 y0, .int .i64 x1, .int .i64 y1, .int .i64 x2, .int .i64 y2] (arr 1 m0 n0 m1 n1 m2 n2) (arr 0 y0 x0 y1 x1 y2 x2) (arr 0 q0 x0 q1 x1 q2 x2) ((wx.setCell ⟨ga, 0, none⟩ (.int .i64 m0)).setCell ⟨ga, 1, none⟩ (.int .i64 n0)) := ((HF.out.old hox).setA 0 _).setA 1 _
      clear HF hox t0 t1 t2 t3
      have HF := Aside0.mk hF0
      clear hF0
      generalize ((wx.setCell ⟨ga, 0, none⟩ (.int .i64 m0)).setCell ⟨ga, 1, none⟩ (.int .i64 n0)) = W4 at HF ⊢
      go_wp2_with fail
      have KEEP : Aside0 (∀ w', Old W4 w' → w'.cell? ⟨gl, 0, none⟩ = some (.int .i64 x0) ∧ w'.cell? ⟨gl, 1, none⟩ = some (.int .i64 y0)) := ⟨fun w' ho => ⟨((at_block (HF.out.old ho).l 0).1).trans rfl, ((at_block (HF.out.old ho).l 1).1).trans rfl⟩⟩
      have TGT : Aside0 (∀ w', Old W4 w' → w'.cell? ⟨ga + 1, 0, none⟩ = some (.int .i64 0) ∧ w'.cell? ⟨ga + 1, 1, none⟩ = some (.int .i64 0) ∧ w'.frozen? ⟨ga + 1, 0, none⟩ = false ∧ w'.frozen? ⟨ga + 1, 1, none⟩ = false) := ⟨fun w' ho => ⟨((at_block (HF.out.old ho).b 0).1).trans rfl, ((at_block (HF.out.old ho).b 1).1).trans rfl, (at_block (HF.out.old ho).b 0).2, (at_block (HF.out.old ho).b 1).2⟩⟩
      have KEEP2 : Aside0 (∀ (w' : World) (u1 u2 : Value), (w'.cell? ⟨gl, 0, none⟩ = some (.int .i64 x0) ∧ w'.cell? ⟨gl, 1, none⟩ = some (.int .i64 y0)) → ((w'.setCell ⟨ga + 1, 0, none⟩ u1).setCell ⟨ga + 1, 1, none⟩ u2).cell? ⟨gl, 0, none⟩ = some (.int .i64 x0) ∧ ((w'.setCell ⟨ga + 1, 0, none⟩ u1).setCell ⟨ga + 1, 1, none⟩ u2).cell? ⟨gl, 1, none⟩ = some (.int .i64 y0)) := ⟨fun w' u1 u2 h => far2 h (by have := HF.out.la; have := HF.out.ab; have := HF.out.bc; omega)⟩
      go_region_held3 (fun w' => w'.cell? ⟨gl, 0, none⟩ = some (.int .i64 x0) ∧ w'.cell? ⟨gl, 1, none⟩ = some (.int .i64 y0))
        (first | exact KEEP.out _ (Old.drew _) | exact KEEP.out _ (by assumption) | exact KEEP2.out _ _ _ (by assumption))
        (first | (go_at_call 12; (with_reducible refine (terrierlaw9_P.calls _ _ _ _ _ rfl).mono ?_); rintro e wx ⟨rfl, hb⟩; have hox := Old.step (Old.drew W4) hb; obtain ⟨t0, t1, t2, t3⟩ := TGT.out _ hox; clear hb))
      clear KEEP TGT KEEP2
      have hF1 : Facts w gl ga (ga + 1) (ga + 1 + 1) #[.int .i64 x0, .int .i64 y0, .int .i64 x1, .int .i64 y1, .int .i64 x2, .int .i64 y2] (arr 1 m0 n0 m1 n1 m2 n2) (arr 1 y0 x0 y1 x1 y2 x2) (arr 0 q0 x0 q1 x1 q2 x2) ((wx.setCell ⟨ga + 1, 0, none⟩ (.int .i64 y0)).setCell ⟨ga + 1, 1, none⟩ (.int .i64 x0)) := ((HF.out.old hox).setB 0 _).setB 1 _
      clear HF hox t0 t1 t2 t3
      have HF := Aside0.mk hF1
      clear hF1
      generalize ((wx.setCell ⟨ga + 1, 0, none⟩ (.int .i64 y0)).setCell ⟨ga + 1, 1, none⟩ (.int .i64 x0)) = W5 at HF ⊢
      go_wp2_with fail
      have KEEP : Aside0 (∀ w', Old W5 w' → w'.cell? ⟨gl, 0, none⟩ = some (.int .i64 x0) ∧ w'.cell? ⟨gl, 1, none⟩ = some (.int .i64 y0)) := ⟨fun w' ho => ⟨((at_block (HF.out.old ho).l 0).1).trans rfl, ((at_block (HF.out.old ho).l 1).1).trans rfl⟩⟩
      have TGT : Aside0 (∀ w', Old W5 w' → w'.cell? ⟨ga + 1 + 1, 0, none⟩ = some (.int .i64 0) ∧ w'.cell? ⟨ga + 1 + 1, 1, none⟩ = some (.int .i64 0) ∧ w'.frozen? ⟨ga + 1 + 1, 0, none⟩ = false ∧ w'.frozen? ⟨ga + 1 + 1, 1, none⟩ = false) := ⟨fun w' ho => ⟨((at_block (HF.out.old ho).c 0).1).trans rfl, ((at_block (HF.out.old ho).c 1).1).trans rfl, (at_block (HF.out.old ho).c 0).2, (at_block (HF.out.old ho).c 1).2⟩⟩
      have KEEP2 : Aside0 (∀ (w' : World) (u1 u2 : Value), (w'.cell? ⟨gl, 0, none⟩ = some (.int .i64 x0) ∧ w'.cell? ⟨gl, 1, none⟩ = some (.int .i64 y0)) → ((w'.setCell ⟨ga + 1 + 1, 0, none⟩ u1).setCell ⟨ga + 1 + 1, 1, none⟩ u2).cell? ⟨gl, 0, none⟩ = some (.int .i64 x0) ∧ ((w'.setCell ⟨ga + 1 + 1, 0, none⟩ u1).setCell ⟨ga + 1 + 1, 1, none⟩ u2).cell? ⟨gl, 1, none⟩ = some (.int .i64 y0)) := ⟨fun w' u1 u2 h => far2 h (by have := HF.out.la; have := HF.out.ab; have := HF.out.bc; omega)⟩
      go_region_held3 (fun w' => w'.cell? ⟨gl, 0, none⟩ = some (.int .i64 x0) ∧ w'.cell? ⟨gl, 1, none⟩ = some (.int .i64 y0))
        (first | exact KEEP.out _ (Old.drew _) | exact KEEP.out _ (by assumption) | exact KEEP2.out _ _ _ (by assumption))
        (first | (go_at_call 12; (with_reducible refine (terrierlaw9_P.calls _ _ _ _ _ rfl).mono ?_); rintro e wx ⟨rfl, hb⟩; have hox := Old.step (Old.drew W5) hb; obtain ⟨t0, t1, t2, t3⟩ := TGT.out _ hox; clear hb))
      clear KEEP TGT KEEP2
      rw [hq0.out]
      have hF2 : Facts w gl ga (ga + 1) (ga + 1 + 1) #[.int .i64 x0, .int .i64 y0, .int .i64 x1, .int .i64 y1, .int .i64 x2, .int .i64 y2] (arr 1 m0 n0 m1 n1 m2 n2) (arr 1 y0 x0 y1 x1 y2 x2) (arr 1 q0 x0 q1 x1 q2 x2) ((wx.setCell ⟨ga + 1 + 1, 0, none⟩ (.int .i64 q0)).setCell ⟨ga + 1 + 1, 1, none⟩ (.int .i64 x0)) := ((HF.out.old hox).setC 0 _).setC 1 _
      clear HF hox t0 t1 t2 t3
      have HF := Aside0.mk hF2
      clear hF2
      generalize ((wx.setCell ⟨ga + 1 + 1, 0, none⟩ (.int .i64 q0)).setCell ⟨ga + 1 + 1, 1, none⟩ (.int .i64 x0)) = W6 at HF ⊢
      go_wp2
      go_roundw
      case rel => exact ⟨1, by go_num, by omega, HF⟩
      case measure => simp [intOf]
    · go_wp2_with fail
      have KEEP : Aside0 (∀ w', Old wr w' → w'.cell? ⟨gl, 2, none⟩ = some (.int .i64 x1) ∧ w'.cell? ⟨gl, 3, none⟩ = some (.int .i64 y1)) := ⟨fun w' ho => ⟨((at_block (HF.out.old ho).l 2).1).trans rfl, ((at_block (HF.out.old ho).l 3).1).trans rfl⟩⟩
      have TGT : Aside0 (∀ w', Old wr w' → w'.cell? ⟨ga, 2, none⟩ = some (.int .i64 0) ∧ w'.cell? ⟨ga, 3, none⟩ = some (.int .i64 0) ∧ w'.frozen? ⟨ga, 2, none⟩ = false ∧ w'.frozen? ⟨ga, 3, none⟩ = false) := ⟨fun w' ho => ⟨((at_block (HF.out.old ho).a 2).1).trans rfl, ((at_block (HF.out.old ho).a 3).1).trans rfl, (at_block (HF.out.old ho).a 2).2, (at_block (HF.out.old ho).a 3).2⟩⟩
      have KEEP2 : Aside0 (∀ (w' : World) (u1 u2 : Value), (w'.cell? ⟨gl, 2, none⟩ = some (.int .i64 x1) ∧ w'.cell? ⟨gl, 3, none⟩ = some (.int .i64 y1)) → ((w'.setCell ⟨ga, 2, none⟩ u1).setCell ⟨ga, 3, none⟩ u2).cell? ⟨gl, 2, none⟩ = some (.int .i64 x1) ∧ ((w'.setCell ⟨ga, 2, none⟩ u1).setCell ⟨ga, 3, none⟩ u2).cell? ⟨gl, 3, none⟩ = some (.int .i64 y1)) := ⟨fun w' u1 u2 h => far2 h (by have := HF.out.la; have := HF.out.ab; have := HF.out.bc; omega)⟩
      go_region_held3 (fun w' => w'.cell? ⟨gl, 2, none⟩ = some (.int .i64 x1) ∧ w'.cell? ⟨gl, 3, none⟩ = some (.int .i64 y1))
        (first | exact KEEP.out _ (Old.drew _) | exact KEEP.out _ (by assumption) | exact KEEP2.out _ _ _ (by assumption))
        (first | (go_at_call 12; (with_reducible refine (terrierlaw9_P.calls _ _ _ _ _ rfl).mono ?_); rintro e wx ⟨rfl, hb⟩; have hox := Old.step (Old.drew wr) hb; obtain ⟨t0, t1, t2, t3⟩ := TGT.out _ hox; clear hb))
      clear KEEP TGT KEEP2
      rw [hm1.out, hn1.out]
      have hF0 : Facts w gl ga (ga + 1) (ga + 1 + 1) #[.int .i64 x0, .int .i64 y0, .int .i64 x1, .int .i64 y1, .int .i64 x2, .int .i64 y2] (arr 2 m0 n0 m1 n1 m2 n2) (arr 1 y0 x0 y1 x1 y2 x2) (arr 1 q0 x0 q1 x1 q2 x2) ((wx.setCell ⟨ga, 2, none⟩ (.int .i64 m1)).setCell ⟨ga, 3, none⟩ (.int .i64 n1)) := ((HF.out.old hox).setA 2 _).setA 3 _
      clear HF hox t0 t1 t2 t3
      have HF := Aside0.mk hF0
      clear hF0
      generalize ((wx.setCell ⟨ga, 2, none⟩ (.int .i64 m1)).setCell ⟨ga, 3, none⟩ (.int .i64 n1)) = W4 at HF ⊢
      go_wp2_with fail
      have KEEP : Aside0 (∀ w', Old W4 w' → w'.cell? ⟨gl, 2, none⟩ = some (.int .i64 x1) ∧ w'.cell? ⟨gl, 3, none⟩ = some (.int .i64 y1)) := ⟨fun w' ho => ⟨((at_block (HF.out.old ho).l 2).1).trans rfl, ((at_block (HF.out.old ho).l 3).1).trans rfl⟩⟩
      have TGT : Aside0 (∀ w', Old W4 w' → w'.cell? ⟨ga + 1, 2, none⟩ = some (.int .i64 0) ∧ w'.cell? ⟨ga + 1, 3, none⟩ = some (.int .i64 0) ∧ w'.frozen? ⟨ga + 1, 2, none⟩ = false ∧ w'.frozen? ⟨ga + 1, 3, none⟩ = false) := ⟨fun w' ho => ⟨((at_block (HF.out.old ho).b 2).1).trans rfl, ((at_block (HF.out.old ho).b 3).1).trans rfl, (at_block (HF.out.old ho).b 2).2, (at_block (HF.out.old ho).b 3).2⟩⟩
      have KEEP2 : Aside0 (∀ (w' : World) (u1 u2 : Value), (w'.cell? ⟨gl, 2, none⟩ = some (.int .i64 x1) ∧ w'.cell? ⟨gl, 3, none⟩ = some (.int .i64 y1)) → ((w'.setCell ⟨ga + 1, 2, none⟩ u1).setCell ⟨ga + 1, 3, none⟩ u2).cell? ⟨gl, 2, none⟩ = some (.int .i64 x1) ∧ ((w'.setCell ⟨ga + 1, 2, none⟩ u1).setCell ⟨ga + 1, 3, none⟩ u2).cell? ⟨gl, 3, none⟩ = some (.int .i64 y1)) := ⟨fun w' u1 u2 h => far2 h (by have := HF.out.la; have := HF.out.ab; have := HF.out.bc; omega)⟩
      go_region_held3 (fun w' => w'.cell? ⟨gl, 2, none⟩ = some (.int .i64 x1) ∧ w'.cell? ⟨gl, 3, none⟩ = some (.int .i64 y1))
        (first | exact KEEP.out _ (Old.drew _) | exact KEEP.out _ (by assumption) | exact KEEP2.out _ _ _ (by assumption))
        (first | (go_at_call 12; (with_reducible refine (terrierlaw9_P.calls _ _ _ _ _ rfl).mono ?_); rintro e wx ⟨rfl, hb⟩; have hox := Old.step (Old.drew W4) hb; obtain ⟨t0, t1, t2, t3⟩ := TGT.out _ hox; clear hb))
      clear KEEP TGT KEEP2
      have hF1 : Facts w gl ga (ga + 1) (ga + 1 + 1) #[.int .i64 x0, .int .i64 y0, .int .i64 x1, .int .i64 y1, .int .i64 x2, .int .i64 y2] (arr 2 m0 n0 m1 n1 m2 n2) (arr 2 y0 x0 y1 x1 y2 x2) (arr 1 q0 x0 q1 x1 q2 x2) ((wx.setCell ⟨ga + 1, 2, none⟩ (.int .i64 y1)).setCell ⟨ga + 1, 3, none⟩ (.int .i64 x1)) := ((HF.out.old hox).setB 2 _).setB 3 _
      clear HF hox t0 t1 t2 t3
      have HF := Aside0.mk hF1
      clear hF1
      generalize ((wx.setCell ⟨ga + 1, 2, none⟩ (.int .i64 y1)).setCell ⟨ga + 1, 3, none⟩ (.int .i64 x1)) = W5 at HF ⊢
      go_wp2_with fail
      have KEEP : Aside0 (∀ w', Old W5 w' → w'.cell? ⟨gl, 2, none⟩ = some (.int .i64 x1) ∧ w'.cell? ⟨gl, 3, none⟩ = some (.int .i64 y1)) := ⟨fun w' ho => ⟨((at_block (HF.out.old ho).l 2).1).trans rfl, ((at_block (HF.out.old ho).l 3).1).trans rfl⟩⟩
      have TGT : Aside0 (∀ w', Old W5 w' → w'.cell? ⟨ga + 1 + 1, 2, none⟩ = some (.int .i64 0) ∧ w'.cell? ⟨ga + 1 + 1, 3, none⟩ = some (.int .i64 0) ∧ w'.frozen? ⟨ga + 1 + 1, 2, none⟩ = false ∧ w'.frozen? ⟨ga + 1 + 1, 3, none⟩ = false) := ⟨fun w' ho => ⟨((at_block (HF.out.old ho).c 2).1).trans rfl, ((at_block (HF.out.old ho).c 3).1).trans rfl, (at_block (HF.out.old ho).c 2).2, (at_block (HF.out.old ho).c 3).2⟩⟩
      have KEEP2 : Aside0 (∀ (w' : World) (u1 u2 : Value), (w'.cell? ⟨gl, 2, none⟩ = some (.int .i64 x1) ∧ w'.cell? ⟨gl, 3, none⟩ = some (.int .i64 y1)) → ((w'.setCell ⟨ga + 1 + 1, 2, none⟩ u1).setCell ⟨ga + 1 + 1, 3, none⟩ u2).cell? ⟨gl, 2, none⟩ = some (.int .i64 x1) ∧ ((w'.setCell ⟨ga + 1 + 1, 2, none⟩ u1).setCell ⟨ga + 1 + 1, 3, none⟩ u2).cell? ⟨gl, 3, none⟩ = some (.int .i64 y1)) := ⟨fun w' u1 u2 h => far2 h (by have := HF.out.la; have := HF.out.ab; have := HF.out.bc; omega)⟩
      go_region_held3 (fun w' => w'.cell? ⟨gl, 2, none⟩ = some (.int .i64 x1) ∧ w'.cell? ⟨gl, 3, none⟩ = some (.int .i64 y1))
        (first | exact KEEP.out _ (Old.drew _) | exact KEEP.out _ (by assumption) | exact KEEP2.out _ _ _ (by assumption))
        (first | (go_at_call 12; (with_reducible refine (terrierlaw9_P.calls _ _ _ _ _ rfl).mono ?_); rintro e wx ⟨rfl, hb⟩; have hox := Old.step (Old.drew W5) hb; obtain ⟨t0, t1, t2, t3⟩ := TGT.out _ hox; clear hb))
      clear KEEP TGT KEEP2
      rw [hq1.out]
      have hF2 : Facts w gl ga (ga + 1) (ga + 1 + 1) #[.int .i64 x0, .int .i64 y0, .int .i64 x1, .int .i64 y1, .int .i64 x2, .int .i64 y2] (arr 2 m0 n0 m1 n1 m2 n2) (arr 2 y0 x0 y1 x1 y2 x2) (arr 2 q0 x0 q1 x1 q2 x2) ((wx.setCell ⟨ga + 1 + 1, 2, none⟩ (.int .i64 q1)).setCell ⟨ga + 1 + 1, 3, none⟩ (.int .i64 x1)) := ((HF.out.old hox).setC 2 _).setC 3 _
      clear HF hox t0 t1 t2 t3
      have HF := Aside0.mk hF2
      clear hF2
      generalize ((wx.setCell ⟨ga + 1 + 1, 2, none⟩ (.int .i64 q1)).setCell ⟨ga + 1 + 1, 3, none⟩ (.int .i64 x1)) = W6 at HF ⊢
      go_wp2
      go_roundw
      case rel => exact ⟨2, by go_num, by omega, HF⟩
      case measure => simp [intOf]
    · go_wp2_with fail
      have KEEP : Aside0 (∀ w', Old wr w' → w'.cell? ⟨gl, 4, none⟩ = some (.int .i64 x2) ∧ w'.cell? ⟨gl, 5, none⟩ = some (.int .i64 y2)) := ⟨fun w' ho => ⟨((at_block (HF.out.old ho).l 4).1).trans rfl, ((at_block (HF.out.old ho).l 5).1).trans rfl⟩⟩
      have TGT : Aside0 (∀ w', Old wr w' → w'.cell? ⟨ga, 4, none⟩ = some (.int .i64 0) ∧ w'.cell? ⟨ga, 5, none⟩ = some (.int .i64 0) ∧ w'.frozen? ⟨ga, 4, none⟩ = false ∧ w'.frozen? ⟨ga, 5, none⟩ = false) := ⟨fun w' ho => ⟨((at_block (HF.out.old ho).a 4).1).trans rfl, ((at_block (HF.out.old ho).a 5).1).trans rfl, (at_block (HF.out.old ho).a 4).2, (at_block (HF.out.old ho).a 5).2⟩⟩
      have KEEP2 : Aside0 (∀ (w' : World) (u1 u2 : Value), (w'.cell? ⟨gl, 4, none⟩ = some (.int .i64 x2) ∧ w'.cell? ⟨gl, 5, none⟩ = some (.int .i64 y2)) → ((w'.setCell ⟨ga, 4, none⟩ u1).setCell ⟨ga, 5, none⟩ u2).cell? ⟨gl, 4, none⟩ = some (.int .i64 x2) ∧ ((w'.setCell ⟨ga, 4, none⟩ u1).setCell ⟨ga, 5, none⟩ u2).cell? ⟨gl, 5, none⟩ = some (.int .i64 y2)) := ⟨fun w' u1 u2 h => far2 h (by have := HF.out.la; have := HF.out.ab; have := HF.out.bc; omega)⟩
      go_region_held3 (fun w' => w'.cell? ⟨gl, 4, none⟩ = some (.int .i64 x2) ∧ w'.cell? ⟨gl, 5, none⟩ = some (.int .i64 y2))
        (first | exact KEEP.out _ (Old.drew _) | exact KEEP.out _ (by assumption) | exact KEEP2.out _ _ _ (by assumption))
        (first | (go_at_call 12; (with_reducible refine (terrierlaw9_P.calls _ _ _ _ _ rfl).mono ?_); rintro e wx ⟨rfl, hb⟩; have hox := Old.step (Old.drew wr) hb; obtain ⟨t0, t1, t2, t3⟩ := TGT.out _ hox; clear hb))
      clear KEEP TGT KEEP2
      rw [hm2.out, hn2.out]
      have hF0 : Facts w gl ga (ga + 1) (ga + 1 + 1) #[.int .i64 x0, .int .i64 y0, .int .i64 x1, .int .i64 y1, .int .i64 x2, .int .i64 y2] (arr 3 m0 n0 m1 n1 m2 n2) (arr 2 y0 x0 y1 x1 y2 x2) (arr 2 q0 x0 q1 x1 q2 x2) ((wx.setCell ⟨ga, 4, none⟩ (.int .i64 m2)).setCell ⟨ga, 5, none⟩ (.int .i64 n2)) := ((HF.out.old hox).setA 4 _).setA 5 _
      clear HF hox t0 t1 t2 t3
      have HF := Aside0.mk hF0
      clear hF0
      generalize ((wx.setCell ⟨ga, 4, none⟩ (.int .i64 m2)).setCell ⟨ga, 5, none⟩ (.int .i64 n2)) = W4 at HF ⊢
      go_wp2_with fail
      have KEEP : Aside0 (∀ w', Old W4 w' → w'.cell? ⟨gl, 4, none⟩ = some (.int .i64 x2) ∧ w'.cell? ⟨gl, 5, none⟩ = some (.int .i64 y2)) := ⟨fun w' ho => ⟨((at_block (HF.out.old ho).l 4).1).trans rfl, ((at_block (HF.out.old ho).l 5).1).trans rfl⟩⟩
      have TGT : Aside0 (∀ w', Old W4 w' → w'.cell? ⟨ga + 1, 4, none⟩ = some (.int .i64 0) ∧ w'.cell? ⟨ga + 1, 5, none⟩ = some (.int .i64 0) ∧ w'.frozen? ⟨ga + 1, 4, none⟩ = false ∧ w'.frozen? ⟨ga + 1, 5, none⟩ = false) := ⟨fun w' ho => ⟨((at_block (HF.out.old ho).b 4).1).trans rfl, ((at_block (HF.out.old ho).b 5).1).trans rfl, (at_block (HF.out.old ho).b 4).2, (at_block (HF.out.old ho).b 5).2⟩⟩
      have KEEP2 : Aside0 (∀ (w' : World) (u1 u2 : Value), (w'.cell? ⟨gl, 4, none⟩ = some (.int .i64 x2) ∧ w'.cell? ⟨gl, 5, none⟩ = some (.int .i64 y2)) → ((w'.setCell ⟨ga + 1, 4, none⟩ u1).setCell ⟨ga + 1, 5, none⟩ u2).cell? ⟨gl, 4, none⟩ = some (.int .i64 x2) ∧ ((w'.setCell ⟨ga + 1, 4, none⟩ u1).setCell ⟨ga + 1, 5, none⟩ u2).cell? ⟨gl, 5, none⟩ = some (.int .i64 y2)) := ⟨fun w' u1 u2 h => far2 h (by have := HF.out.la; have := HF.out.ab; have := HF.out.bc; omega)⟩
      go_region_held3 (fun w' => w'.cell? ⟨gl, 4, none⟩ = some (.int .i64 x2) ∧ w'.cell? ⟨gl, 5, none⟩ = some (.int .i64 y2))
        (first | exact KEEP.out _ (Old.drew _) | exact KEEP.out _ (by assumption) | exact KEEP2.out _ _ _ (by assumption))
        (first | (go_at_call 12; (with_reducible refine (terrierlaw9_P.calls _ _ _ _ _ rfl).mono ?_); rintro e wx ⟨rfl, hb⟩; have hox := Old.step (Old.drew W4) hb; obtain ⟨t0, t1, t2, t3⟩ := TGT.out _ hox; clear hb))
      clear KEEP TGT KEEP2
      have hF1 : Facts w gl ga (ga + 1) (ga + 1 + 1) #[.int .i64 x0, .int .i64 y0, .int .i64 x1, .int .i64 y1, .int .i64 x2, .int .i64 y2] (arr 3 m0 n0 m1 n1 m2 n2) (arr 3 y0 x0 y1 x1 y2 x2) (arr 2 q0 x0 q1 x1 q2 x2) ((wx.setCell ⟨ga + 1, 4, none⟩ (.int .i64 y2)).setCell ⟨ga + 1, 5, none⟩ (.int .i64 x2)) := ((HF.out.old hox).setB 4 _).setB 5 _
      clear HF hox t0 t1 t2 t3
      have HF := Aside0.mk hF1
      clear hF1
      generalize ((wx.setCell ⟨ga + 1, 4, none⟩ (.int .i64 y2)).setCell ⟨ga + 1, 5, none⟩ (.int .i64 x2)) = W5 at HF ⊢
      go_wp2_with fail
      have KEEP : Aside0 (∀ w', Old W5 w' → w'.cell? ⟨gl, 4, none⟩ = some (.int .i64 x2) ∧ w'.cell? ⟨gl, 5, none⟩ = some (.int .i64 y2)) := ⟨fun w' ho => ⟨((at_block (HF.out.old ho).l 4).1).trans rfl, ((at_block (HF.out.old ho).l 5).1).trans rfl⟩⟩
      have TGT : Aside0 (∀ w', Old W5 w' → w'.cell? ⟨ga + 1 + 1, 4, none⟩ = some (.int .i64 0) ∧ w'.cell? ⟨ga + 1 + 1, 5, none⟩ = some (.int .i64 0) ∧ w'.frozen? ⟨ga + 1 + 1, 4, none⟩ = false ∧ w'.frozen? ⟨ga + 1 + 1, 5, none⟩ = false) := ⟨fun w' ho => ⟨((at_block (HF.out.old ho).c 4).1).trans rfl, ((at_block (HF.out.old ho).c 5).1).trans rfl, (at_block (HF.out.old ho).c 4).2, (at_block (HF.out.old ho).c 5).2⟩⟩
      have KEEP2 : Aside0 (∀ (w' : World) (u1 u2 : Value), (w'.cell? ⟨gl, 4, none⟩ = some (.int .i64 x2) ∧ w'.cell? ⟨gl, 5, none⟩ = some (.int .i64 y2)) → ((w'.setCell ⟨ga + 1 + 1, 4, none⟩ u1).setCell ⟨ga + 1 + 1, 5, none⟩ u2).cell? ⟨gl, 4, none⟩ = some (.int .i64 x2) ∧ ((w'.setCell ⟨ga + 1 + 1, 4, none⟩ u1).setCell ⟨ga + 1 + 1, 5, none⟩ u2).cell? ⟨gl, 5, none⟩ = some (.int .i64 y2)) := ⟨fun w' u1 u2 h => far2 h (by have := HF.out.la; have := HF.out.ab; have := HF.out.bc; omega)⟩
      go_region_held3 (fun w' => w'.cell? ⟨gl, 4, none⟩ = some (.int .i64 x2) ∧ w'.cell? ⟨gl, 5, none⟩ = some (.int .i64 y2))
        (first | exact KEEP.out _ (Old.drew _) | exact KEEP.out _ (by assumption) | exact KEEP2.out _ _ _ (by assumption))
        (first | (go_at_call 12; (with_reducible refine (terrierlaw9_P.calls _ _ _ _ _ rfl).mono ?_); rintro e wx ⟨rfl, hb⟩; have hox := Old.step (Old.drew W5) hb; obtain ⟨t0, t1, t2, t3⟩ := TGT.out _ hox; clear hb))
      clear KEEP TGT KEEP2
      rw [hq2.out]
      have hF2 : Facts w gl ga (ga + 1) (ga + 1 + 1) #[.int .i64 x0, .int .i64 y0, .int .i64 x1, .int .i64 y1, .int .i64 x2, .int .i64 y2] (arr 3 m0 n0 m1 n1 m2 n2) (arr 3 y0 x0 y1 x1 y2 x2) (arr 3 q0 x0 q1 x1 q2 x2) ((wx.setCell ⟨ga + 1 + 1, 4, none⟩ (.int .i64 q2)).setCell ⟨ga + 1 + 1, 5, none⟩ (.int .i64 x2)) := ((HF.out.old hox).setC 4 _).setC 5 _
      clear HF hox t0 t1 t2 t3
      have HF := Aside0.mk hF2
      clear hF2
      generalize ((wx.setCell ⟨ga + 1 + 1, 4, none⟩ (.int .i64 q2)).setCell ⟨ga + 1 + 1, 5, none⟩ (.int .i64 x2)) = W6 at HF ⊢
      go_wp2
      go_roundw
      case rel => exact ⟨3, by go_num, by omega, HF⟩
      case measure => simp [intOf]
    · have hf := HF.out
      have hu' := hu.out
      have z0 : wr.cell? ⟨ga, 0, none⟩ = some (.int .i64 m0) := ((at_block hf.a 0).1).trans rfl
      have z1 : wr.cell? ⟨ga, 1, none⟩ = some (.int .i64 n0) := ((at_block hf.a 1).1).trans rfl
      have z2 : wr.cell? ⟨ga, 2, none⟩ = some (.int .i64 m1) := ((at_block hf.a 2).1).trans rfl
      have z3 : wr.cell? ⟨ga, 3, none⟩ = some (.int .i64 n1) := ((at_block hf.a 3).1).trans rfl
      have z4 : wr.cell? ⟨ga, 4, none⟩ = some (.int .i64 m2) := ((at_block hf.a 4).1).trans rfl
      have z5 : wr.cell? ⟨ga, 5, none⟩ = some (.int .i64 n2) := ((at_block hf.a 5).1).trans rfl
      go_wp2_with fail
      refine (pt_Area2.calls m0 n0 m1 n1 m2 n2 t _ hM.out).mono ?_
      rintro e wa0 ⟨rfl, hb0⟩
      clear z0 z1 z2 z3 z4 z5
      have hf0 := hf.old (Old.of hb0)
      clear hb0
      have z0 : wa0.cell? ⟨ga + 1, 0, none⟩ = some (.int .i64 y0) := ((at_block hf0.b 0).1).trans rfl
      have z1 : wa0.cell? ⟨ga + 1, 1, none⟩ = some (.int .i64 x0) := ((at_block hf0.b 1).1).trans rfl
      have z2 : wa0.cell? ⟨ga + 1, 2, none⟩ = some (.int .i64 y1) := ((at_block hf0.b 2).1).trans rfl
      have z3 : wa0.cell? ⟨ga + 1, 3, none⟩ = some (.int .i64 x1) := ((at_block hf0.b 3).1).trans rfl
      have z4 : wa0.cell? ⟨ga + 1, 4, none⟩ = some (.int .i64 y2) := ((at_block hf0.b 4).1).trans rfl
      have z5 : wa0.cell? ⟨ga + 1, 5, none⟩ = some (.int .i64 x2) := ((at_block hf0.b 5).1).trans rfl
      go_wp2_with fail
      refine (pt_Area2.calls y0 x0 y1 x1 y2 x2 u _ hN.out).mono ?_
      rintro e wa1 ⟨rfl, hb1⟩
      clear z0 z1 z2 z3 z4 z5
      have hf1 := hf0.old (Old.of hb1)
      clear hb1
      have z0 : wa1.cell? ⟨ga + 1 + 1, 0, none⟩ = some (.int .i64 q0) := ((at_block hf1.c 0).1).trans rfl
      have z1 : wa1.cell? ⟨ga + 1 + 1, 1, none⟩ = some (.int .i64 x0) := ((at_block hf1.c 1).1).trans rfl
      have z2 : wa1.cell? ⟨ga + 1 + 1, 2, none⟩ = some (.int .i64 q1) := ((at_block hf1.c 2).1).trans rfl
      have z3 : wa1.cell? ⟨ga + 1 + 1, 3, none⟩ = some (.int .i64 x1) := ((at_block hf1.c 3).1).trans rfl
      have z4 : wa1.cell? ⟨ga + 1 + 1, 4, none⟩ = some (.int .i64 q2) := ((at_block hf1.c 4).1).trans rfl
      have z5 : wa1.cell? ⟨ga + 1 + 1, 5, none⟩ = some (.int .i64 x2) := ((at_block hf1.c 5).1).trans rfl
      go_wp2_with fail
      refine (pt_Area2.calls q0 x0 q1 x1 q2 x2 t _ hO.out).mono ?_
      rintro e wa2 ⟨rfl, hb2⟩
      clear z0 z1 z2 z3 z4 z5
      have hf2 := hf1.old (Old.of hb2)
      clear hb2
      go_wp2_with fail
      refine (terrierlaw9_awake.calls ka true _ hw.out).mono ?_
      rintro e wz ⟨rfl, hb⟩
      have hf3 := hf2.old (Old.of hb)
      clear hb
      go_wp2_with fail
      go_ret
      exact ⟨rfl, hf3.below⟩
end Go.Proofs.Ytabblkckapdpoaa.PPtMoves
