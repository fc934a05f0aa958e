/- Proved: what Meet of the package pt tells, by its walk; no condition. -/
import Derived.Test.YtabblkckapdpoaaPPtBoxesx4
import Derived.Test.YtabblkckapdpoaaGeo
import Derived.Deep.RegionHeld3
import Derived.RangeFuncBox
import Derived.LoopN
import Derived.Deep.CutRange
namespace Go.Proofs.Ytabblkckapdpoaa.PPtBoxes
open Go.RowKit Go.Proofs.YtabblkckapdpoaaW.PrintWords Go.Proofs.YtabblkckapdpoaaW.PrintLast Go.Proofs.YtabblkckapdpoaaW.PrintMore
open Geo
set_option linter.unusedVariables false
set_option linter.unusedSimpArgs false
theorem cells2 {W : World} {g t : Nat} {a b : Value} (h : W.heap[g]? = some (.cells #[a, b] t (0, 0))) : W.cell? ⟨g, 0, none⟩ = some a ∧ W.cell? ⟨g, 1, none⟩ = some b := by
  constructor <;> simp [World.cell?, h]
def Old (W w' : World) : Prop := Below W.heap.size W w'
theorem Old.of {W w' : World} (h : Below W.heap.size W w') : Old W w' := h
theorem Old.cell {W w' : World} (h : Old W w') {g o : Nat} {v : Value} (hc : W.cell? ⟨g, o, none⟩ = some v) : w'.cell? ⟨g, o, none⟩ = some v := by
  rw [(show Below W.heap.size W w' from h).cell (p := ⟨g, o, none⟩) (World.block_lt_of_cell? W _ hc)]; exact hc
theorem Old.step {W w1 w2 : World} (h : Old W w1) (k : Below w1.heap.size w1 w2) : Old W w2 := h.trans (k.mono h.size)
theorem Old.drew (W : World) : Old W W.drew := (Below.refl _ _).drew
theorem Old.alloc {W w1 : World} (h : Old W w1) (o : Obj) : Old W (w1.alloc o) := (show Below W.heap.size W w1 from h).alloc (show Below W.heap.size W w1 from h).size o
theorem near_e (x y : Int) : pt_Near.f x y = some (nr x, nr y) := rfl
def Z4 : Obj := .cells #[.int .i64 0, .int .i64 0, .int .i64 0, .int .i64 0] 52
def M1 (B : Nat) (y : World) (p : Nat) : Prop := B ≤ p ∧ y.heap[p]? = some Z4
def M2 (B : Nat) (y : World) (p q : Nat) : Prop := M1 B y p ∧ M1 B y q ∧ p ≠ q
theorem M1.lt {B : Nat} {y : World} {p : Nat} (h : M1 B y p) : p < y.heap.size := by
  rcases Nat.lt_or_ge p y.heap.size with h1 | h1
  · exact h1
  · have := h.2; rw [Array.getElem?_eq_none h1] at this; cases this
theorem M1.keep {B : Nat} {y w1 : World} {p : Nat} (hb : Below y.heap.size y w1) (h : M1 B y p) : M1 B w1 p := ⟨h.1, (hb.block p h.lt).trans h.2⟩
theorem M1.alloc {B : Nat} {y : World} {p : Nat} (h : M1 B y p) (o : Obj) : M1 B (y.alloc o) p := ⟨h.1, (Below.heap_alloc y o p h.lt).trans h.2⟩
theorem M1.new {B : Nat} {y : World} (h : B ≤ y.heap.size) : M1 B (y.alloc Z4) y.heap.size := ⟨h, World.alloc_heap_new y Z4⟩
theorem M2.keep {B : Nat} {y w1 : World} {p q : Nat} (hb : Below y.heap.size y w1) (h : M2 B y p q) : M2 B w1 p q := ⟨h.1.keep hb, h.2.1.keep hb, h.2.2⟩
theorem M2.of1' {B : Nat} {y : World} {p : Nat} (h : M1 B y p) : M2 B (y.alloc Z4) p y.heap.size :=
  ⟨h.alloc _, M1.new (Nat.le_of_lt (Nat.lt_of_le_of_lt h.1 h.lt)), Nat.ne_of_lt h.lt⟩
theorem M2.of0' {B : Nat} {y : World} (h : B ≤ y.heap.size) : M2 B ((y.alloc Z4).alloc Z4) y.heap.size (y.heap.size + 1) := by
  have h1 := M2.of1' (M1.new (B := B) (y := y) h)
  rw [World.size_alloc] at h1
  exact h1
theorem M2.of1 {B : Nat} {y w1 : World} {p : Nat} (hb : Below (y.alloc Z4).heap.size (y.alloc Z4) w1) (h : M1 B y p) : M2 B w1 p y.heap.size := (M2.of1' h).keep hb
theorem M2.of0 {B : Nat} {y w1 : World} (hb : Below ((y.alloc Z4).alloc Z4).heap.size ((y.alloc Z4).alloc Z4) w1) (h : B ≤ y.heap.size) : M2 B w1 y.heap.size (y.heap.size + 1) := (M2.of0' h).keep hb
theorem M1.of0 {B : Nat} {y w1 : World} (hb : Below (y.alloc Z4).heap.size (y.alloc Z4) w1) (h : B ≤ y.heap.size) : M1 B w1 y.heap.size := (M1.new h).keep hb
theorem M2.of0d {B : Nat} {y w1 : World} (hb : Below (World.drew ((y.alloc Z4).alloc Z4)).heap.size (World.drew ((y.alloc Z4).alloc Z4)) w1) (h : B ≤ y.heap.size) : M2 B w1 y.heap.size (y.heap.size + 1) := M2.keep (y := World.drew ((y.alloc Z4).alloc Z4)) hb (M2.of0' h)
theorem M1.of0d {B : Nat} {y w1 : World} (hb : Below (World.drew (y.alloc Z4)).heap.size (World.drew (y.alloc Z4)) w1) (h : B ≤ y.heap.size) : M1 B w1 y.heap.size := M1.keep (y := World.drew (y.alloc Z4)) hb (M1.new h)
theorem Old.drew' {W w1 : World} (h : Old W w1) : Old W w1.drew := Below.drew (show Below W.heap.size W w1 from h)
theorem Old.refl (W : World) : Old W W := Below.refl _ W
def F4 (w : World) (p : Nat) : Prop := (w.cell? ⟨p, 0, none⟩ = some (.int .i64 0) ∧ w.cell? ⟨p, 1, none⟩ = some (.int .i64 0) ∧ w.cell? ⟨p, 2, none⟩ = some (.int .i64 0) ∧ w.cell? ⟨p, 3, none⟩ = some (.int .i64 0)) ∧ w.frozen? ⟨p, 0, none⟩ = false ∧ w.frozen? ⟨p, 1, none⟩ = false ∧ w.frozen? ⟨p, 2, none⟩ = false ∧ w.frozen? ⟨p, 3, none⟩ = false
theorem M1.f {B : Nat} {y : World} {p : Nat} (h : M1 B y p) : F4 y p := by
  have := h.2
  simp [F4, World.cell?, World.frozen?, this, Z4]
def G4 (B : Nat) (w : World) (p q : Nat) : Prop := F4 w p ∧ F4 w q ∧ (p ≠ q ∧ q ≠ p) ∧ B ≤ p ∧ B ≤ q
theorem M2.g {B : Nat} {y : World} {p q : Nat} (h : M2 B y p q) : G4 B y p q := ⟨h.1.f, h.2.1.f, ⟨h.2.2, Ne.symm h.2.2⟩, h.1.1, h.2.1.1⟩
def FA (g : Obj → World) (p : Nat) : Prop := ((∀ o, (g o).cell? ⟨p, 0, none⟩ = some (.int .i64 0)) ∧ (∀ o, (g o).cell? ⟨p, 1, none⟩ = some (.int .i64 0)) ∧ (∀ o, (g o).cell? ⟨p, 2, none⟩ = some (.int .i64 0)) ∧ (∀ o, (g o).cell? ⟨p, 3, none⟩ = some (.int .i64 0))) ∧ (∀ o, (g o).frozen? ⟨p, 0, none⟩ = false) ∧ (∀ o, (g o).frozen? ⟨p, 1, none⟩ = false) ∧ (∀ o, (g o).frozen? ⟨p, 2, none⟩ = false) ∧ ∀ o, (g o).frozen? ⟨p, 3, none⟩ = false
theorem FA.of {g : Obj → World} {p : Nat} (h : ∀ o, F4 (g o) p) : FA g p :=
  ⟨⟨fun o => (h o).1.1, fun o => (h o).1.2.1, fun o => (h o).1.2.2.1, fun o => (h o).1.2.2.2⟩, fun o => (h o).2.1, fun o => (h o).2.2.1, fun o => (h o).2.2.2.1, fun o => (h o).2.2.2.2⟩
theorem M1.g {B : Nat} {y : World} {p : Nat} (h : M1 B y p) : FA (fun o => y.alloc o) p ∧ F4 (y.alloc Z4) y.heap.size ∧ (p ≠ y.heap.size ∧ y.heap.size ≠ p) ∧ B ≤ p ∧ B ≤ y.heap.size :=
  ⟨FA.of fun o => (h.alloc o).f, (M2.of1' h).g.2⟩
theorem M0.g {B : Nat} {y : World} (h : B ≤ y.heap.size) : FA (fun o => (y.alloc Z4).alloc o) y.heap.size ∧ F4 ((y.alloc Z4).alloc Z4) (y.heap.size + 1) ∧ (y.heap.size ≠ y.heap.size + 1 ∧ y.heap.size + 1 ≠ y.heap.size) ∧ B ≤ y.heap.size ∧ B ≤ y.heap.size + 1 :=
  ⟨FA.of fun o => ((M1.new h).alloc o).f, (M2.of0' h).g.2⟩
theorem Old.set {W w1 : World} (h : Old W w1) {p o : Nat} (hp : W.heap.size ≤ p) (v : Value) : Old W (w1.setCell ⟨p, o, none⟩ v) := Below.setCell (show Below W.heap.size W w1 from h) hp v
theorem Old.le {W w1 : World} (h : Old W w1) : W.heap.size ≤ w1.heap.size := (show Below W.heap.size W w1 from h).size
def ovr (ax ay bx bY : Int) : Bool := decide (bx < ax) || decide (bY < ay)
/-- No lower corner lies beyond an upper one. -/
def pt_Meet.f (a0 a1 b0 b1 c0 c1 d0 d1 : Int) : Option Bool :=
  some (!(ovr (nr a0) (nr a1) (nr b0) (nr b1) || ovr (nr a0) (nr a1) (nr d0) (nr d1) || ovr (nr c0) (nr c1) (nr b0) (nr b1) || ovr (nr c0) (nr c1) (nr d0) (nr d1)))
theorem cellA {w : World} {g i : Nat} {v : Value} (h : w.cell? ⟨g, i, none⟩ = some v) (o : Obj) : (w.alloc o).cell? ⟨g, i, none⟩ = some v := by
  rw [World.cell?_alloc_some _ _ _ (by rw [h]; rfl)]; exact h
set_option maxHeartbeats 8000000 in
set_option maxRecDepth 100000 in
theorem meet_walk (a0 a1 b0 b1 c0 c1 d0 d1 : Int) (w : World) (r : Bool) (h : pt_Meet.f a0 a1 b0 b1 c0 c1 d0 d1 = some r) :
    Calls Try.prog 33 #[.agg #[.int .i64 a0, .int .i64 a1], .agg #[.int .i64 b0, .int .i64 b1], .agg #[.int .i64 c0, .int .i64 c1], .agg #[.int .i64 d0, .int .i64 d1]] w fun e w' => e = .returned (.bool r) ∧ Below w.heap.size w w' := by
  have H := Aside0.mk h
  clear h
  go_enter Try.func33, Try.ntmps33
  go_wp2_with fail
  obtain ⟨W, hW⟩ : ∃ W, W = (((w.alloc (.cells #[.int .i64 a0, .int .i64 a1] 23)).alloc (.cells #[.int .i64 b0, .int .i64 b1] 23)).alloc (.cells #[.int .i64 c0, .int .i64 c1] 23)).alloc (.cells #[.int .i64 d0, .int .i64 d1] 23) := ⟨_, rfl⟩
  have hbW : Below w.heap.size w W := by rw [hW]; exact (((((Below.refl _ w).alloc (Nat.le_refl _) _).alloc (by simp) _).alloc (by simp; omega) _).alloc (by simp; omega) _)
  have x0 : W.heap[w.heap.size]? = some (.cells #[.int .i64 a0, .int .i64 a1] 23 (0, 0)) := by
    rw [hW]; exact (Below.heap_alloc _ _ _ (by simp only [World.size_alloc]; omega)).trans ((Below.heap_alloc _ _ _ (by simp only [World.size_alloc]; omega)).trans ((Below.heap_alloc _ _ _ (by simp)).trans (World.alloc_heap_new w _)))
  have x1 : W.heap[w.heap.size + 1]? = some (.cells #[.int .i64 b0, .int .i64 b1] 23 (0, 0)) := by
    have := World.alloc_heap_new (w.alloc (.cells #[.int .i64 a0, .int .i64 a1] 23)) (.cells #[.int .i64 b0, .int .i64 b1] 23)
    rw [World.size_alloc] at this
    rw [hW]; exact (Below.heap_alloc _ _ _ (by simp only [World.size_alloc]; omega)).trans ((Below.heap_alloc _ _ _ (by simp)).trans this)
  have x2 : W.heap[w.heap.size + 1 + 1]? = some (.cells #[.int .i64 c0, .int .i64 c1] 23 (0, 0)) := by
    have := World.alloc_heap_new ((w.alloc (.cells #[.int .i64 a0, .int .i64 a1] 23)).alloc (.cells #[.int .i64 b0, .int .i64 b1] 23)) (.cells #[.int .i64 c0, .int .i64 c1] 23)
    rw [World.size_alloc, World.size_alloc] at this
    rw [hW]; exact (Below.heap_alloc _ _ _ (by simp)).trans this
  have x3 : W.heap[w.heap.size + 1 + 1 + 1]? = some (.cells #[.int .i64 d0, .int .i64 d1] 23 (0, 0)) := by
    have := World.alloc_heap_new (((w.alloc (.cells #[.int .i64 a0, .int .i64 a1] 23)).alloc (.cells #[.int .i64 b0, .int .i64 b1] 23)).alloc (.cells #[.int .i64 c0, .int .i64 c1] 23)) (.cells #[.int .i64 d0, .int .i64 d1] 23)
    rw [World.size_alloc, World.size_alloc, World.size_alloc] at this
    rw [hW]; exact this
  have e0 := cells2 x0
  have e1 := cells2 x1
  have e2 := cells2 x2
  have e3 := cells2 x3
  rw [← hW]
  have KEEP : Aside0 (∀ w', Old W w' → ((w'.cell? ⟨w.heap.size, 0, none⟩ = some (.int .i64 a0) ∧ w'.cell? ⟨w.heap.size, 1, none⟩ = some (.int .i64 a1)) ∧ (w'.cell? ⟨w.heap.size + 1, 0, none⟩ = some (.int .i64 b0) ∧ w'.cell? ⟨w.heap.size + 1, 1, none⟩ = some (.int .i64 b1)) ∧ (w'.cell? ⟨w.heap.size + 1 + 1, 0, none⟩ = some (.int .i64 c0) ∧ w'.cell? ⟨w.heap.size + 1 + 1, 1, none⟩ = some (.int .i64 c1)) ∧ (w'.cell? ⟨w.heap.size + 1 + 1 + 1, 0, none⟩ = some (.int .i64 d0) ∧ w'.cell? ⟨w.heap.size + 1 + 1 + 1, 1, none⟩ = some (.int .i64 d1))) ∧ Old W w') :=
    ⟨fun w' h => ⟨⟨⟨h.cell e0.1, h.cell e0.2⟩, ⟨h.cell e1.1, h.cell e1.2⟩, ⟨h.cell e2.1, h.cell e2.2⟩, h.cell e3.1, h.cell e3.2⟩, h⟩⟩
  have HB := Aside0.mk hbW
  go_step3
  go_upto_region 1 with fail
  clear e0 e1 e2 e3 hW x0 x1 x2 x3 hbW
  go_cut [9, 10] from 16 to 25 (fun s9 s10 wx => ∃ p q : Nat, s9 = .pointer (some ⟨p, 0, none⟩) ∧ s10 = .pointer (some ⟨q, 0, none⟩) ∧ Old W wx ∧ (wx.cell? ⟨p, 0, none⟩ = some (.int .i64 (nr a0)) ∧ wx.cell? ⟨p, 1, none⟩ = some (.int .i64 (nr a1)) ∧ wx.cell? ⟨p, 2, none⟩ = some (.int .i64 (nr c0)) ∧ wx.cell? ⟨p, 3, none⟩ = some (.int .i64 (nr c1))) ∧ (wx.cell? ⟨q, 0, none⟩ = some (.int .i64 (nr b0)) ∧ wx.cell? ⟨q, 1, none⟩ = some (.int .i64 (nr b1)) ∧ wx.cell? ⟨q, 2, none⟩ = some (.int .i64 (nr d0)) ∧ wx.cell? ⟨q, 3, none⟩ = some (.int .i64 (nr d1))))
  case first =>
    go_region_held3 (fun w' => ((w'.cell? ⟨w.heap.size, 0, none⟩ = some (.int .i64 a0) ∧ w'.cell? ⟨w.heap.size, 1, none⟩ = some (.int .i64 a1)) ∧ (w'.cell? ⟨w.heap.size + 1, 0, none⟩ = some (.int .i64 b0) ∧ w'.cell? ⟨w.heap.size + 1, 1, none⟩ = some (.int .i64 b1)) ∧ (w'.cell? ⟨w.heap.size + 1 + 1, 0, none⟩ = some (.int .i64 c0) ∧ w'.cell? ⟨w.heap.size + 1 + 1, 1, none⟩ = some (.int .i64 c1)) ∧ (w'.cell? ⟨w.heap.size + 1 + 1 + 1, 0, none⟩ = some (.int .i64 d0) ∧ w'.cell? ⟨w.heap.size + 1 + 1 + 1, 1, none⟩ = some (.int .i64 d1))) ∧ Old W w')
    ((refine KEEP.out _ ?_; (repeat first | with_reducible exact hox | with_reducible exact Old.refl _ | with_reducible refine Old.drew' ?_ | with_reducible refine Old.alloc ?_ _ | with_reducible refine Old.set ?_ (by assumption) _); done))
    (first
      | (go_at_call 35; (with_reducible refine (pt_Near.calls _ _ _ _ _ (near_e d0 d1)).mono ?_); rintro e w1 ⟨rfl, hb⟩; have hox := Old.step (And.right (by assumption)) hb
         (first
          | (with_reducible have m := (M2.keep hb (by assumption)).g)
          | (with_reducible have m := (M2.of1 hb (by assumption)).g)
          | (with_reducible have m := (M2.of0 (B := W.heap.size) hb (Old.le (by assumption))).g)
          | (with_reducible have m := (M1.keep hb (by assumption)).g)
          | (with_reducible have m := (M1.of0 (B := W.heap.size) hb (Old.le (by assumption))).g)
          | (have m := M0.g (B := W.heap.size) (Old.le hox)))
         clear hb
         (try unfold Z4 at m)
         obtain ⟨⟨⟨z0, z1, z2, z3⟩, f0, f1, f2, f3⟩, ⟨⟨k0, k1, k2, k3⟩, g0, g1, g2, g3⟩, ⟨n1, n2⟩, l1, l2⟩ := m; (try dsimp only at z0 z1 z2 z3 f0 f1 f2 f3))
      | (go_at_call 35; (with_reducible refine (pt_Near.calls _ _ _ _ _ (near_e _ _)).mono ?_); rintro e w1 ⟨rfl, hb⟩; have hox := Old.step (And.right (by assumption)) hb
         (first
          | with_reducible have m := M2.keep hb (by assumption)
          | with_reducible have m := M2.of1 hb (by assumption)
          | with_reducible have m := M2.of0 (B := W.heap.size) hb (Old.le (by assumption))
          | with_reducible have m := M2.of0d (B := W.heap.size) hb (Nat.le_refl _)
          | with_reducible have m := M1.of0d (B := W.heap.size) hb (Nat.le_refl _)
          | with_reducible have m := M1.keep hb (by assumption)
          | with_reducible have m := M1.of0 (B := W.heap.size) hb (Old.le (by assumption))
          | skip)
         clear hb))
    all_goals (go_wp2_with fail; go_meet)
    all_goals (refine ⟨_, _, rfl, rfl, ?_, ⟨?_, ?_, ?_, ?_⟩, ?_, ?_, ?_, ?_⟩)
    all_goals first
      | (with_reducible assumption)
      | (with_reducible refine Old.set ?_ (by assumption) _; (repeat first | with_reducible exact hox | with_reducible exact Old.refl _ | with_reducible refine Old.drew' ?_ | with_reducible refine Old.alloc ?_ _ | with_reducible refine Old.set ?_ (by assumption) _); done)
      | ((repeat first | with_reducible exact hox | with_reducible exact Old.refl _ | with_reducible refine Old.drew' ?_ | with_reducible refine Old.alloc ?_ _ | with_reducible refine Old.set ?_ (by assumption) _); done)
      | (go_simp; done)
      | (simp [*, World.cell?_setCell_far]; done)
  case rest =>
    obtain ⟨p, q, rfl, rfl, ho, ⟨g0, g1, g2, g3⟩, k0, k1, k2, k3⟩ := hcut
    clear KEEP
    have hr : (!(ovr (nr a0) (nr a1) (nr b0) (nr b1) || ovr (nr a0) (nr a1) (nr d0) (nr d1) || ovr (nr c0) (nr c1) (nr b0) (nr b1) || ovr (nr c0) (nr c1) (nr d0) (nr d1))) = r := Option.some.inj H.out
    clear H
    have HW := Aside0.mk (show Below w.heap.size w wc from (Below.mono (show Below W.heap.size W wc from ho) (show Below w.heap.size w W from HB.out).size |> (show Below w.heap.size w W from HB.out).trans))
    clear HB ho
    have HQ : ∀ o1, (∀ i v, wc.cell? ⟨q, i, none⟩ = some v → (wc.alloc o1).cell? ⟨q, i, none⟩ = some v) := fun o1 i v h => cellA h _
    have q0 : ∀ o1, (wc.alloc o1).cell? ⟨q, 0, none⟩ = some (.int .i64 (nr b0)) := fun o1 => cellA k0 _
    have q1 : ∀ o1, (wc.alloc o1).cell? ⟨q, 1, none⟩ = some (.int .i64 (nr b1)) := fun o1 => cellA k1 _
    have q2 : ∀ o1, (wc.alloc o1).cell? ⟨q, 2, none⟩ = some (.int .i64 (nr d0)) := fun o1 => cellA k2 _
    have q3 : ∀ o1, (wc.alloc o1).cell? ⟨q, 3, none⟩ = some (.int .i64 (nr d1)) := fun o1 => cellA k3 _
    have q4 : ∀ o1 o2 o3 o4, ((((wc.alloc o1).alloc o2).alloc o3).alloc o4).cell? ⟨q, 0, none⟩ = some (.int .i64 (nr b0)) := fun o1 o2 o3 o4 => cellA (cellA (cellA (cellA k0 _) _) _) _
    have q5 : ∀ o1 o2 o3 o4, ((((wc.alloc o1).alloc o2).alloc o3).alloc o4).cell? ⟨q, 1, none⟩ = some (.int .i64 (nr b1)) := fun o1 o2 o3 o4 => cellA (cellA (cellA (cellA k1 _) _) _) _
    have q6 : ∀ o1 o2 o3 o4, ((((wc.alloc o1).alloc o2).alloc o3).alloc o4).cell? ⟨q, 2, none⟩ = some (.int .i64 (nr d0)) := fun o1 o2 o3 o4 => cellA (cellA (cellA (cellA k2 _) _) _) _
    have q7 : ∀ o1 o2 o3 o4, ((((wc.alloc o1).alloc o2).alloc o3).alloc o4).cell? ⟨q, 3, none⟩ = some (.int .i64 (nr d1)) := fun o1 o2 o3 o4 => cellA (cellA (cellA (cellA k3 _) _) _) _
    clear HQ k0 k1 k2 k3
    generalize nr a0 = ax at *
    generalize nr a1 = ay at *
    generalize nr b0 = bx at *
    generalize nr b1 = bY at *
    generalize nr c0 = cx at *
    generalize nr c1 = cy at *
    generalize nr d0 = dx at *
    generalize nr d1 = dy at *
    have HR := Aside0.mk hr
    clear hr
    have j0 : ∀ w, Sem.run Try.prog (Instr.index 52 (.agg #[.int .i64 ax, .int .i64 ay, .int .i64 cx, .int .i64 cy]) (.int .i64 0)) w = .ok (.agg #[.int .i64 ax, .int .i64 ay]) w := fun _ => by kernel_rfl
    have j1 : ∀ w, Sem.run Try.prog (Instr.index 52 (.agg #[.int .i64 ax, .int .i64 ay, .int .i64 cx, .int .i64 cy]) (.int .i64 1)) w = .ok (.agg #[.int .i64 cx, .int .i64 cy]) w := fun _ => by kernel_rfl
    have j2 : ∀ w, Sem.run Try.prog (Instr.index 52 (.agg #[.int .i64 bx, .int .i64 bY, .int .i64 dx, .int .i64 dy]) (.int .i64 0)) w = .ok (.agg #[.int .i64 bx, .int .i64 bY]) w := fun _ => by kernel_rfl
    have j3 : ∀ w, Sem.run Try.prog (Instr.index 52 (.agg #[.int .i64 bx, .int .i64 bY, .int .i64 dx, .int .i64 dy]) (.int .i64 1)) w = .ok (.agg #[.int .i64 dx, .int .i64 dy]) w := fun _ => by kernel_rfl
    go_wp2_with fail
    go_step3
    go_wp2_with fail
    by_cases h1 : bx < ax
    · have e1 : decide (bx < ax) = true := decide_eq_true h1
      clear h1
      repeat (first | refine wp_loop_rounds 3 ?_ | (rw [rounds_succ]; go_wp2_with fail))
      rw [Exit.noGoto_ret]
      go_ret
      exact ⟨by rw [← HR.out]; simp [ovr, *], by repeat (first | (with_reducible first | exact HW.out | apply below_alloc | apply below_drew1) | exact HW.out)⟩
    have e1 : decide (bx < ax) = false := decide_eq_false h1
    clear h1
    by_cases h2 : bY < ay
    · have e2 : decide (bY < ay) = true := decide_eq_true h2
      clear h2
      repeat (first | refine wp_loop_rounds 3 ?_ | (rw [rounds_succ]; go_wp2_with fail))
      rw [Exit.noGoto_ret]
      go_ret
      exact ⟨by rw [← HR.out]; simp [ovr, *], by repeat (first | (with_reducible first | exact HW.out | apply below_alloc | apply below_drew1) | exact HW.out)⟩
    have e2 : decide (bY < ay) = false := decide_eq_false h2
    clear h2
    by_cases h3 : dx < ax
    · have e3 : decide (dx < ax) = true := decide_eq_true h3
      clear h3
      repeat (first | refine wp_loop_rounds 3 ?_ | (rw [rounds_succ]; go_wp2_with fail))
      rw [Exit.noGoto_ret]
      go_ret
      exact ⟨by rw [← HR.out]; simp [ovr, *], by repeat (first | (with_reducible first | exact HW.out | apply below_alloc | apply below_drew1) | exact HW.out)⟩
    have e3 : decide (dx < ax) = false := decide_eq_false h3
    clear h3
    by_cases h4 : dy < ay
    · have e4 : decide (dy < ay) = true := decide_eq_true h4
      clear h4
      repeat (first | refine wp_loop_rounds 3 ?_ | (rw [rounds_succ]; go_wp2_with fail))
      rw [Exit.noGoto_ret]
      go_ret
      exact ⟨by rw [← HR.out]; simp [ovr, *], by repeat (first | (with_reducible first | exact HW.out | apply below_alloc | apply below_drew1) | exact HW.out)⟩
    have e4 : decide (dy < ay) = false := decide_eq_false h4
    clear h4
    by_cases h5 : bx < cx
    · have e5 : decide (bx < cx) = true := decide_eq_true h5
      clear h5
      repeat (first | refine wp_loop_rounds 3 ?_ | (rw [rounds_succ]; go_wp2_with fail))
      rw [Exit.noGoto_ret]
      go_ret
      exact ⟨by rw [← HR.out]; simp [ovr, *], by repeat (first | (with_reducible first | exact HW.out | apply below_alloc | apply below_drew1) | exact HW.out)⟩
    have e5 : decide (bx < cx) = false := decide_eq_false h5
    clear h5
    by_cases h6 : bY < cy
    · have e6 : decide (bY < cy) = true := decide_eq_true h6
      clear h6
      repeat (first | refine wp_loop_rounds 3 ?_ | (rw [rounds_succ]; go_wp2_with fail))
      rw [Exit.noGoto_ret]
      go_ret
      exact ⟨by rw [← HR.out]; simp [ovr, *], by repeat (first | (with_reducible first | exact HW.out | apply below_alloc | apply below_drew1) | exact HW.out)⟩
    have e6 : decide (bY < cy) = false := decide_eq_false h6
    clear h6
    by_cases h7 : dx < cx
    · have e7 : decide (dx < cx) = true := decide_eq_true h7
      clear h7
      repeat (first | refine wp_loop_rounds 3 ?_ | (rw [rounds_succ]; go_wp2_with fail))
      rw [Exit.noGoto_ret]
      go_ret
      exact ⟨by rw [← HR.out]; simp [ovr, *], by repeat (first | (with_reducible first | exact HW.out | apply below_alloc | apply below_drew1) | exact HW.out)⟩
    have e7 : decide (dx < cx) = false := decide_eq_false h7
    clear h7
    by_cases h8 : dy < cy
    · have e8 : decide (dy < cy) = true := decide_eq_true h8
      clear h8
      repeat (first | refine wp_loop_rounds 3 ?_ | (rw [rounds_succ]; go_wp2_with fail))
      rw [Exit.noGoto_ret]
      go_ret
      exact ⟨by rw [← HR.out]; simp [ovr, *], by repeat (first | (with_reducible first | exact HW.out | apply below_alloc | apply below_drew1) | exact HW.out)⟩
    have e8 : decide (dy < cy) = false := decide_eq_false h8
    clear h8
    repeat (first | refine wp_loop_rounds 3 ?_ | (rw [rounds_succ]; go_wp2_with fail))
    rw [Exit.noGoto_ret]
    go_ret
    exact ⟨by rw [← HR.out]; simp [ovr, *], by repeat (first | (with_reducible first | exact HW.out | apply below_alloc | apply below_drew1) | exact HW.out)⟩
end Go.Proofs.Ytabblkckapdpoaa.PPtBoxes
