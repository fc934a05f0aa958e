/- Proved: what Box of the package pt tells (printed of a plain twin; the two drawn regions by hand); no condition. -/
import Derived.Test.YtabblkckapdpoaaPPtBoxesx0
import Derived.Test.YtabblkckapdpoaaPPtBoxesx1
import Derived.Deep.CutRange
namespace Go.Proofs.Ytabblkckapdpoaa.PPtBoxes
open Go.RowKit Go.Proofs.YtabblkckapdpoaaW.PrintWords Go.Proofs.YtabblkckapdpoaaW.PrintLast Go.Proofs.YtabblkckapdpoaaW.PrintMore
attribute [local go_sem] max2_int min2_int max_two min_two max_three min_three max_four min_four
set_option linter.unusedVariables false
set_option linter.unusedSimpArgs false
/-! ### pt_Box: function 31 -/
def pt_Box.l0 : Nat → List (S23) → List (S23) → Int → Int → Int → Int → Int → Int → Option (Int × Int × Int × Int × Bool)
  | 0, _, _, _, _, _, _, _, _ => none
  | k + 1, x0, x7, x8, x9, x158000, x158001, x159000, x159001 => if x9 < x8 then (if 0 ≤ x9 then (if x9 < (x7.length : Int) then ((pt_Near.f ((rd_T23 x7 x9).f0) ((rd_T23 x7 x9).f1)).bind fun bt161 => (if x9 = 0 then (pt_Box.l0 k x0 x7 x8 (wrap64 (x9 + 1)) (mn bt161.1 bt161.1) (mn bt161.2 bt161.2) (mx bt161.1 bt161.1) (mx bt161.2 bt161.2)) else (pt_Box.l0 k x0 x7 x8 (wrap64 (x9 + 1)) (mn x158000 bt161.1) (mn x158001 bt161.2) (mx x159000 bt161.1) (mx x159001 bt161.2)))) else (none)) else (none)) else (some (x158000, x158001, x159000, x159001, decide ((x0.length : Int) > 0)))
def pt_Box.f (k : Nat) (l0 : List (S23)) : Option (Int × Int × Int × Int × Bool) := pt_Box.l0 k l0 l0 (l0.length : Int) 0 0 0 0 0
theorem pt_Box.mono_l : ∀ k, (∀ y0 y1 y2 y3 y4 y5 y6 y7, LeO (pt_Box.l0 k y0 y1 y2 y3 y4 y5 y6 y7) (pt_Box.l0 (k + 1) y0 y1 y2 y3 y4 y5 y6 y7))
  | 0 => fun _ _ _ _ _ _ _ _ r h => by simp [pt_Box.l0] at h
  | k + 1 => by
    have ih0 := pt_Box.mono_l k
    · intro y0 y1 y2 y3 y4 y5 y6 y7
      unfold pt_Box.l0
      repeat' first
      | (with_reducible exact ih0 _ _ _ _ _ _ _ _)
      | (with_reducible exact LeO.refl _)
      | (with_reducible exact LeO.none _)
      | (with_reducible refine LeO.ite ?_ ?_)
      | (with_reducible refine LeO.bind ?_ (fun _ => ?_))
      | exact ih0 _ _ _ _ _ _ _ _
      | exact LeO.none _
      | refine LeO.ite ?_ ?_
      | refine LeO.bind ?_ (fun _ => ?_)
theorem pt_Box.mono : ∀ a0 k, LeO (pt_Box.f k a0) (pt_Box.f (k + 1) a0) := by
  intro a0 k
  have ih0 := pt_Box.mono_l k
  unfold pt_Box.f
  repeat' first
      | (with_reducible exact ih0 _ _ _ _ _ _ _ _)
      | (with_reducible exact LeO.refl _)
      | (with_reducible exact LeO.none _)
      | (with_reducible refine LeO.ite ?_ ?_)
      | (with_reducible refine LeO.bind ?_ (fun _ => ?_))
      | exact ih0 _ _ _ _ _ _ _ _
      | exact LeO.none _
      | refine LeO.ite ?_ ?_
      | refine LeO.bind ?_ (fun _ => ?_)
set_option maxHeartbeats 8000000 in
set_option maxRecDepth 100000 in
theorem pt_Box.calls (k : Nat) (A0 : Option Addr) (c0 : Nat) (l0 : List (S23)) (r1 : Int) (r2 : Int) (r3 : Int) (r4 : Int) (r5 : Bool) (w : World) (hr0 : Kd.C k23 w A0 l0.length l0) (hc0 : l0.length ≤ c0) (h : pt_Box.f k l0 = some (r1, r2, r3, r4, r5)) :
    Calls Try.prog 31 #[.slice A0 l0.length c0] w fun e w' => e = .returned (.tuple #[.agg #[.int .i64 r1, .int .i64 r2], .agg #[.int .i64 r3, .int .i64 r4], .bool r5]) ∧ Below w.heap.size w w' := by
  have hu23 := Try.underlying23
  have HR0 := Aside0.mk hr0
  have HC0 := Aside0.mk hc0
  clear hr0 hc0
  have HB := Aside0.mk (Below.refl w.heap.size w)
  have H : (pt_Box.l0 k l0 l0 (l0.length : Int) 0 0 0 0 0) = some (r1, r2, r3, r4, r5) := h
  clear h
  have H' := Aside0.mk H
  clear H
  go_enter Try.func31, Try.ntmps31
  go_wp2_with (first | ((with_reducible refine gate_dst (N := 2) rfl ?_); refine box_event ?hg (N := 2) ?hd (cs := #[.int .i64 0, .int .i64 0]) (t := 23) ?hr ?_; (case hd => rfl); (case hg => rfl); (case hr => first | (go_simp; done) | (go_simp; rfl)); intro gb157 hg w2 hbox hb; have n0_ := Aside0.mk (below_step (by repeat (first | (with_reducible first | exact HB.out | apply below_alloc | apply pw_below_drewN | apply below_drew1) | exact HB.out)) hb); have n1_ := Aside0.mk (hbox); have n2_ := Aside0.mk ((by rw [hg]; exact (below_size (by repeat (first | (with_reducible first | exact HB.out | apply below_alloc | apply pw_below_drewN | apply below_drew1) | exact HB.out))) : w.heap.size ≤ gb157)); have n3_ := Aside0.mk ((by rw [hg]; exact (below_size (by repeat (first | (with_reducible first | exact HB.out | apply below_alloc | apply pw_below_drewN | apply below_drew1) | exact HB.out))) : w.heap.size ≤ gb157)); clear HB; have HB := n0_; have BK157 := n1_; have GW157 := n2_; have GE157 := n3_; clear n0_ n1_ n2_ n3_; clear hb hbox hg) | ((with_reducible refine gate_dst (N := 3) rfl ?_); refine box_event ?hg (N := 3) ?hd (cs := #[.int .i64 0, .int .i64 0]) (t := 23) ?hr ?_; (case hd => rfl); (case hg => rfl); (case hr => first | (go_simp; done) | (go_simp; rfl)); intro gb158 hg w3 hbox hb; have n0_ := Aside0.mk (blk_below (g := gb157) (o := .cells #[.int .i64 0, .int .i64 0] 23 (0, 0)) (by (with_reducible repeat (first | refine blk_drewN ?_ _ | refine blk_drew ?_ | refine blk_alloc ?_ _)); exact BK157.out) hb); have n1_ := Aside0.mk (below_step (by repeat (first | (with_reducible first | exact HB.out | apply below_alloc | apply pw_below_drewN | apply below_drew1 | refine below_set ?_ GE157.out) | exact HB.out)) hb); have n2_ := Aside0.mk (hbox); have n3_ := Aside0.mk ((by rw [hg]; exact (below_size (by repeat (first | (with_reducible first | exact HB.out | apply below_alloc | apply pw_below_drewN | apply below_drew1 | refine below_set ?_ GE157.out) | exact HB.out))) : w.heap.size ≤ gb158)); have n4_ := Aside0.mk ((by rw [hg]; exact (below_size (by repeat (first | (with_reducible first | exact HB.out | apply below_alloc | apply pw_below_drewN | apply below_drew1 | refine below_set ?_ GE157.out) | exact HB.out))) : w.heap.size ≤ gb158)); have n5_ := Aside0.mk ((by rw [hg]; exact Nat.ne_of_lt (blk_lt (g := gb157) (o := .cells #[.int .i64 0, .int .i64 0] 23 (0, 0)) (by (with_reducible repeat (first | refine blk_drewN ?_ _ | refine blk_drew ?_ | refine blk_alloc ?_ _)); exact BK157.out)) : gb157 ≠ gb158)); have n6_ := Aside0.mk ((by rw [hg]; exact Nat.ne_of_gt (blk_lt (g := gb157) (o := .cells #[.int .i64 0, .int .i64 0] 23 (0, 0)) (by (with_reducible repeat (first | refine blk_drewN ?_ _ | refine blk_drew ?_ | refine blk_alloc ?_ _)); exact BK157.out)) : gb158 ≠ gb157)); clear BK157; clear HB; have BK157 := n0_; have HB := n1_; have BK158 := n2_; have GW158 := n3_; have GE158 := n4_; have NB157_158 := n5_; have NB158_157 := n6_; clear n0_ n1_ n2_ n3_ n4_ n5_ n6_; clear hb hbox hg))
  go_loopg [9] k (fun kq v9 w' => ∃ (x9_1 : Int) (x158000_1 : Int) (x158001_1 : Int) (x159000_1 : Int) (x159001_1 : Int), v9 = .int .i64 x9_1 ∧ Aside0 (pt_Box.l0 kq l0 l0 (l0.length : Int) x9_1 x158000_1 x158001_1 x159000_1 x159001_1 = some (r1, r2, r3, r4, r5)) ∧ Aside0 (kq ≤ k) ∧ Aside0 (w'.heap[gb157]? = some (.cells #[.int .i64 x158000_1, .int .i64 x158001_1] 23 (0, 0))) ∧ Aside0 (w'.heap[gb158]? = some (.cells #[.int .i64 x159000_1, .int .i64 x159001_1] 23 (0, 0))) ∧ Aside0 (Below w.heap.size w w'))
  case atStart => exact ⟨(0), (0), (0), (0), (0), (by first | rfl | (simp; done) | (simp [*]; done)), H', ⟨Nat.le_refl _⟩, ⟨by (with_reducible repeat (first | refine blk_drewN ?_ _ | refine blk_drew ?_ | refine blk_alloc ?_ _)); exact BK157.out⟩, ⟨by (with_reducible repeat (first | refine blk_drewN ?_ _ | refine blk_drew ?_ | refine blk_alloc ?_ _)); exact BK158.out⟩, ⟨by repeat (first | (with_reducible first | exact HB.out | apply below_alloc | apply pw_below_drewN | apply below_drew1 | refine below_set ?_ GE157.out | refine below_set ?_ GE158.out) | exact HB.out)⟩⟩
  case round =>
    clear H'
    try clear p2
    try clear c3
    obtain ⟨x9_1, x158000_1, x158001_1, x159000_1, x159001_1, rfl, HA, HK1, BK157, BK158, HB⟩ := hrel
    cases gk with
    | zero => exact absurd HA.out (by simp [pt_Box.l0])
    | succ k1 =>
      have H := HA.out
      clear HA
      simp only [pt_Box.l0] at H
      by_cases c4 : x9_1 < (l0.length : Int)
      · rw [if_pos c4] at H
        have c4b0 : decide (x9_1 < (l0.length : Int)) = true := decide_eq_true c4
        clear c4
        by_cases c5 : 0 ≤ x9_1
        · rw [if_pos c5] at H
          have c5b0 : decide (0 ≤ x9_1) = true := decide_eq_true c5
          clear c5
          by_cases c6 : x9_1 < (l0.length : Int)
          · rw [if_pos c6] at H
            have c6b0 : decide (x9_1 < (l0.length : Int)) = true := decide_eq_true c6
            clear c6
            replace H := Option.bind_eq_some_iff.mp H
            obtain ⟨⟨t161, t162⟩, A70, H⟩ := H
            replace H : (if x9_1 = 0 then (pt_Box.l0 k1 l0 l0 (l0.length : Int) (wrap64 (x9_1 + 1)) (mn t161 t161) (mn t162 t162) (mx t161 t161) (mx t162 t162)) else (pt_Box.l0 k1 l0 l0 (l0.length : Int) (wrap64 (x9_1 + 1)) (mn x158000_1 t161) (mn x158001_1 t162) (mx x159000_1 t161) (mx x159001_1 t162))) = some (r1, r2, r3, r4, r5) := H
            have A7 := Aside0.mk A70
            clear A70
            by_cases c8 : x9_1 = 0
            · rw [if_pos c8] at H
              have c8b0 : (x9_1 == 0) = true := beq_iff_eq.mpr c8
              have c8b1 : (x9_1 != 0) = false := bne_eq_false_iff_eq.mpr c8
              clear c8
              obtain ⟨ji9, hji9⟩ : ∃ j_ : Int, (mn t161 t161) = j_ := ⟨_, rfl⟩
              replace H : (pt_Box.l0 k1 l0 l0 (l0.length : Int) (wrap64 (x9_1 + 1)) ji9 (mn t162 t162) (mx t161 t161) (mx t162 t162)) = some (r1, r2, r3, r4, r5) := by first | (rw [hji9] at H; exact H) | (simp only [hji9] at H ⊢; exact H)
              (try rw [hji9] at A7)
              have hji9_ : (if t161 < t161 then t161 else t161) = ji9 := hji9
              obtain ⟨ji10, hji10⟩ : ∃ j_ : Int, (mn t162 t162) = j_ := ⟨_, rfl⟩
              replace H : (pt_Box.l0 k1 l0 l0 (l0.length : Int) (wrap64 (x9_1 + 1)) ji9 ji10 (mx t161 t161) (mx t162 t162)) = some (r1, r2, r3, r4, r5) := by first | (rw [hji10] at H; exact H) | (simp only [hji10] at H ⊢; exact H)
              (try rw [hji10] at A7)
              have hji10_ : (if t162 < t162 then t162 else t162) = ji10 := hji10
              obtain ⟨ji11, hji11⟩ : ∃ j_ : Int, (mx t161 t161) = j_ := ⟨_, rfl⟩
              replace H : (pt_Box.l0 k1 l0 l0 (l0.length : Int) (wrap64 (x9_1 + 1)) ji9 ji10 ji11 (mx t162 t162)) = some (r1, r2, r3, r4, r5) := by first | (rw [hji11] at H; exact H) | (simp only [hji11] at H ⊢; exact H)
              (try rw [hji11] at A7)
              have hji11_ : (if t161 < t161 then t161 else t161) = ji11 := hji11
              obtain ⟨ji12, hji12⟩ : ∃ j_ : Int, (mx t162 t162) = j_ := ⟨_, rfl⟩
              replace H : (pt_Box.l0 k1 l0 l0 (l0.length : Int) (wrap64 (x9_1 + 1)) ji9 ji10 ji11 ji12) = some (r1, r2, r3, r4, r5) := by first | (rw [hji12] at H; exact H) | (simp only [hji12] at H ⊢; exact H)
              (try rw [hji12] at A7)
              have hji12_ : (if t162 < t162 then t162 else t162) = ji12 := hji12
              have H' := Aside0.mk H
              clear H
              have p159 : 0 ≤ (x9_1 : Int) := of_decide_eq_true (by first | (with_reducible assumption) | assumption)
              have q159 : x9_1 < (l0.length : Int) := of_decide_eq_true (by first | (with_reducible assumption) | assumption)
              obtain ⟨ad159, e159, hx159_0, hx159_1⟩ := at_T23 HR0.out x9_1 p159 q159
              cases e159
              replace hx159_0 := (HB.out.cell (World.block_lt_of_cell? w _ hx159_0)).trans hx159_0
              replace hx159_1 := (HB.out.cell (World.block_lt_of_cell? w _ hx159_1)).trans hx159_1
              replace p159 := eq_true p159
              replace q159 := eq_true q159
              go_wp2_with (first | ((with_reducible refine gate_dst (N := 6) rfl ?_); refine box_event ?hg (N := 6) ?hd (cs := #[.int .i64 0, .int .i64 0]) (t := 23) ?hr ?_; (case hd => rfl); (case hg => rfl); (case hr => first | (go_simp; done) | (go_simp; rfl)); intro gb160 hg w13 hbox hb; have n0_ := Aside0.mk (blk_below (g := gb157) (o := .cells #[.int .i64 x158000_1, .int .i64 x158001_1] 23 (0, 0)) (by (with_reducible repeat (first | refine blk_drewN ?_ _ | refine blk_drew ?_ | refine blk_alloc ?_ _)); exact BK157.out) hb); have n1_ := Aside0.mk (blk_below (g := gb158) (o := .cells #[.int .i64 x159000_1, .int .i64 x159001_1] 23 (0, 0)) (by (with_reducible repeat (first | refine blk_drewN ?_ _ | refine blk_drew ?_ | refine blk_alloc ?_ _)); exact BK158.out) hb); have n2_ := Aside0.mk (below_step (by repeat (first | (with_reducible first | exact HB.out | apply below_alloc | apply pw_below_drewN | apply below_drew1 | refine below_set ?_ GE157.out | refine below_set ?_ GE158.out) | exact HB.out)) hb); have n3_ := Aside0.mk (hbox); have n4_ := Aside0.mk ((by rw [hg]; exact (below_size (by repeat (first | (with_reducible first | exact HB.out | apply below_alloc | apply pw_below_drewN | apply below_drew1 | refine below_set ?_ GE157.out | refine below_set ?_ GE158.out) | exact HB.out))) : w.heap.size ≤ gb160)); have n5_ := Aside0.mk ((by rw [hg]; exact (below_size (by repeat (first | (with_reducible first | exact HB.out | apply below_alloc | apply pw_below_drewN | apply below_drew1 | refine below_set ?_ GE157.out | refine below_set ?_ GE158.out) | exact HB.out))) : w.heap.size ≤ gb160)); have n6_ := Aside0.mk ((by rw [hg]; exact Nat.ne_of_lt (blk_lt (g := gb157) (o := .cells #[.int .i64 x158000_1, .int .i64 x158001_1] 23 (0, 0)) (by (with_reducible repeat (first | refine blk_drewN ?_ _ | refine blk_drew ?_ | refine blk_alloc ?_ _)); exact BK157.out)) : gb157 ≠ gb160)); have n7_ := Aside0.mk ((by rw [hg]; exact Nat.ne_of_gt (blk_lt (g := gb157) (o := .cells #[.int .i64 x158000_1, .int .i64 x158001_1] 23 (0, 0)) (by (with_reducible repeat (first | refine blk_drewN ?_ _ | refine blk_drew ?_ | refine blk_alloc ?_ _)); exact BK157.out)) : gb160 ≠ gb157)); have n8_ := Aside0.mk ((by rw [hg]; exact Nat.ne_of_lt (blk_lt (g := gb158) (o := .cells #[.int .i64 x159000_1, .int .i64 x159001_1] 23 (0, 0)) (by (with_reducible repeat (first | refine blk_drewN ?_ _ | refine blk_drew ?_ | refine blk_alloc ?_ _)); exact BK158.out)) : gb158 ≠ gb160)); have n9_ := Aside0.mk ((by rw [hg]; exact Nat.ne_of_gt (blk_lt (g := gb158) (o := .cells #[.int .i64 x159000_1, .int .i64 x159001_1] 23 (0, 0)) (by (with_reducible repeat (first | refine blk_drewN ?_ _ | refine blk_drew ?_ | refine blk_alloc ?_ _)); exact BK158.out)) : gb160 ≠ gb158)); clear BK157; clear BK158; clear HB; have BK157 := n0_; have BK158 := n1_; have HB := n2_; have BK160 := n3_; have GW160 := n4_; have GE160 := n5_; have NB157_160 := n6_; have NB160_157 := n7_; have NB158_160 := n8_; have NB160_158 := n9_; clear n0_ n1_ n2_ n3_ n4_ n5_ n6_ n7_ n8_ n9_; clear hb hbox hg; have hnb14 := NB160_157.out; have hnc14 := NB157_160.out; have hnb15 := NB160_158.out; have hnc15 := NB158_160.out; have hcz16_0 : w13.cell? ⟨gb160, 0, none⟩ = some (.int .i64 0) := (blk_cell BK160.out 0).trans rfl; have hcz16_1 : w13.cell? ⟨gb160, 1, none⟩ = some (.int .i64 0) := (blk_cell BK160.out 1).trans rfl; have hfz16_0 := blk_frozen BK160.out 0; have hfz16_1 := blk_frozen BK160.out 1) | ((with_reducible refine gate_callee (f := 35) rfl ?_); refine goesL_ (some 15) rfl rfl Try.func35 (by kernel_rfl) rfl #[.agg #[.int .i64 ((rd_T23 l0 x9_1).f0), .int .i64 ((rd_T23 l0 x9_1).f1)]] rfl (by (try simp only [List.map_toArray, List.map_cons, List.map_nil]); first | done | rfl | (simp only [List.length_drop, List.length_take]; rfl)) ?_; (with_reducible refine (pt_Near.calls ((rd_T23 l0 x9_1).f0) ((rd_T23 l0 x9_1).f1) t161 t162 _ A7.out).mono ?_); rintro e w17 ⟨rfl, hb⟩; refine ⟨_, rfl, ?_⟩; have n0_ := Aside0.mk (blk_below (g := gb157) (o := .cells #[.int .i64 x158000_1, .int .i64 x158001_1] 23 (0, 0)) (by (with_reducible repeat (first | refine blk_drewN ?_ _ | refine blk_drew ?_ | refine blk_alloc ?_ _)); refine blk_far ?_ NB157_160.out _; (with_reducible repeat (first | refine blk_drewN ?_ _ | refine blk_drew ?_ | refine blk_alloc ?_ _)); refine blk_far ?_ NB157_160.out _; (with_reducible repeat (first | refine blk_drewN ?_ _ | refine blk_drew ?_ | refine blk_alloc ?_ _)); exact BK157.out) hb); have n1_ := Aside0.mk (blk_below (g := gb158) (o := .cells #[.int .i64 x159000_1, .int .i64 x159001_1] 23 (0, 0)) (by (with_reducible repeat (first | refine blk_drewN ?_ _ | refine blk_drew ?_ | refine blk_alloc ?_ _)); refine blk_far ?_ NB158_160.out _; (with_reducible repeat (first | refine blk_drewN ?_ _ | refine blk_drew ?_ | refine blk_alloc ?_ _)); refine blk_far ?_ NB158_160.out _; (with_reducible repeat (first | refine blk_drewN ?_ _ | refine blk_drew ?_ | refine blk_alloc ?_ _)); exact BK158.out) hb); have n2_ := Aside0.mk (blk_below (g := gb160) (o := .cells #[.int .i64 ((rd_T23 l0 x9_1).f0), .int .i64 ((rd_T23 l0 x9_1).f1)] 23 (0, 0)) (by (with_reducible repeat (first | refine blk_drewN ?_ _ | refine blk_drew ?_ | refine blk_alloc ?_ _)); refine blk_put (cs := #[.int .i64 ((rd_T23 l0 x9_1).f0), .int .i64 0]) ?_ 1 _ rfl; (with_reducible repeat (first | refine blk_drewN ?_ _ | refine blk_drew ?_ | refine blk_alloc ?_ _)); refine blk_put (cs := #[.int .i64 0, .int .i64 0]) ?_ 0 _ rfl; (with_reducible repeat (first | refine blk_drewN ?_ _ | refine blk_drew ?_ | refine blk_alloc ?_ _)); exact BK160.out) hb); have n3_ := Aside0.mk (below_step (by repeat (first | (with_reducible first | exact HB.out | apply below_alloc | apply pw_below_drewN | apply below_drew1 | refine below_set ?_ GE157.out | refine below_set ?_ GE158.out | refine below_set ?_ GE160.out) | exact HB.out)) hb); clear BK157; clear BK158; clear BK160; clear HB; have BK157 := n0_; have BK158 := n1_; have BK160 := n2_; have HB := n3_; clear n0_ n1_ n2_ n3_; (try clear hb); (try clear hb2); (try clear hk); (try clear hi); have hcz18_0 : w17.cell? ⟨gb160, 0, none⟩ = some (.int .i64 ((rd_T23 l0 x9_1).f0)) := (blk_cell BK160.out 0).trans rfl; have hcz18_1 : w17.cell? ⟨gb160, 1, none⟩ = some (.int .i64 ((rd_T23 l0 x9_1).f1)) := (blk_cell BK160.out 1).trans rfl; have hfz18_0 := blk_frozen BK160.out 0; have hfz18_1 := blk_frozen BK160.out 1; have hnb19 := NB157_158.out; have hnc19 := NB158_157.out; have hcz20_0 : w17.cell? ⟨gb157, 0, none⟩ = some (.int .i64 x158000_1) := (blk_cell BK157.out 0).trans rfl; have hcz20_1 : w17.cell? ⟨gb157, 1, none⟩ = some (.int .i64 x158001_1) := (blk_cell BK157.out 1).trans rfl; have hfz20_0 := blk_frozen BK157.out 0; have hfz20_1 := blk_frozen BK157.out 1; have hcz21_0 : w17.cell? ⟨gb158, 0, none⟩ = some (.int .i64 x159000_1) := (blk_cell BK158.out 0).trans rfl; have hcz21_1 : w17.cell? ⟨gb158, 1, none⟩ = some (.int .i64 x159001_1) := (blk_cell BK158.out 1).trans rfl; have hfz21_0 := blk_frozen BK158.out 0; have hfz21_1 := blk_frozen BK158.out 1))
              go_cut [] from 18 to 19 (fun wx => wx.heap[gb157]? = some (.cells #[.int .i64 t161, .int .i64 t162] 23 (0, 0)) ∧ wx.heap[gb158]? = some (.cells #[.int .i64 t161, .int .i64 t162] 23 (0, 0)) ∧ wx.heap[gb160]? = some (.cells #[.int .i64 t161, .int .i64 t162] 23 (0, 0)) ∧ Below w.heap.size w wx)
              case first =>
                have hvb := NB160_157.out
                have hvc := NB160_158.out
                have hvd := NB157_160.out
                have hve := NB158_160.out
                go_region
                all_goals (go_wp2_with fail; go_meet)
                all_goals exact ⟨by (repeat (with_reducible first | refine blk_drewN ?_ _ | refine blk_drew ?_ | refine blk_alloc ?_ _ | refine blk_far ?_ NB157_158.out _ | refine blk_far ?_ NB157_160.out _)); refine blk_put (cs := #[.int .i64 t161, .int .i64 x158001_1]) ?_ 1 _ rfl; (repeat (with_reducible first | refine blk_drewN ?_ _ | refine blk_drew ?_ | refine blk_alloc ?_ _ | refine blk_far ?_ NB157_158.out _ | refine blk_far ?_ NB157_160.out _)); refine blk_put (cs := #[.int .i64 x158000_1, .int .i64 x158001_1]) ?_ 0 _ rfl; (repeat (with_reducible first | refine blk_drewN ?_ _ | refine blk_drew ?_ | refine blk_alloc ?_ _ | refine blk_far ?_ NB157_158.out _ | refine blk_far ?_ NB157_160.out _)); exact BK157.out, by (repeat (with_reducible first | refine blk_drewN ?_ _ | refine blk_drew ?_ | refine blk_alloc ?_ _ | refine blk_far ?_ NB158_157.out _ | refine blk_far ?_ NB158_160.out _)); refine blk_put (cs := #[.int .i64 t161, .int .i64 x159001_1]) ?_ 1 _ rfl; (repeat (with_reducible first | refine blk_drewN ?_ _ | refine blk_drew ?_ | refine blk_alloc ?_ _ | refine blk_far ?_ NB158_157.out _ | refine blk_far ?_ NB158_160.out _)); refine blk_put (cs := #[.int .i64 x159000_1, .int .i64 x159001_1]) ?_ 0 _ rfl; (repeat (with_reducible first | refine blk_drewN ?_ _ | refine blk_drew ?_ | refine blk_alloc ?_ _ | refine blk_far ?_ NB158_157.out _ | refine blk_far ?_ NB158_160.out _)); exact BK158.out, by (repeat (with_reducible first | refine blk_drewN ?_ _ | refine blk_drew ?_ | refine blk_alloc ?_ _ | refine blk_far ?_ NB160_157.out _ | refine blk_far ?_ NB160_158.out _)); refine blk_put (cs := #[.int .i64 t161, .int .i64 ((rd_T23 l0 x9_1).f1)]) ?_ 1 _ rfl; (repeat (with_reducible first | refine blk_drewN ?_ _ | refine blk_drew ?_ | refine blk_alloc ?_ _ | refine blk_far ?_ NB160_157.out _ | refine blk_far ?_ NB160_158.out _)); refine blk_put (cs := #[.int .i64 ((rd_T23 l0 x9_1).f0), .int .i64 ((rd_T23 l0 x9_1).f1)]) ?_ 0 _ rfl; (repeat (with_reducible first | refine blk_drewN ?_ _ | refine blk_drew ?_ | refine blk_alloc ?_ _ | refine blk_far ?_ NB160_157.out _ | refine blk_far ?_ NB160_158.out _)); exact BK160.out, by repeat (first | (with_reducible first | exact HB.out | apply below_alloc | apply pw_below_drewN | apply below_drew1 | refine below_set ?_ GE157.out | refine below_set ?_ GE158.out | refine below_set ?_ GE160.out) | exact HB.out)⟩
              case rest =>
              clear BK157 BK158 BK160 HB
              obtain ⟨BK157, BK158, BK160, HB⟩ := hcut
              replace BK157 := Aside0.mk BK157
              replace BK158 := Aside0.mk BK158
              replace BK160 := Aside0.mk BK160
              replace HB := Aside0.mk HB
              have hy157_0 := (blk_cell BK157.out 0).trans (show _ = some (Value.int .i64 t161) from rfl)
              have hf157_0 := blk_frozen BK157.out 0
              have hy157_1 := (blk_cell BK157.out 1).trans (show _ = some (Value.int .i64 t162) from rfl)
              have hf157_1 := blk_frozen BK157.out 1
              have hy158_0 := (blk_cell BK158.out 0).trans (show _ = some (Value.int .i64 t161) from rfl)
              have hf158_0 := blk_frozen BK158.out 0
              have hy158_1 := (blk_cell BK158.out 1).trans (show _ = some (Value.int .i64 t162) from rfl)
              have hf158_1 := blk_frozen BK158.out 1
              have hy160_0 := (blk_cell BK160.out 0).trans (show _ = some (Value.int .i64 t161) from rfl)
              have hf160_0 := blk_frozen BK160.out 0
              have hy160_1 := (blk_cell BK160.out 1).trans (show _ = some (Value.int .i64 t162) from rfl)
              have hf160_1 := blk_frozen BK160.out 1
              have hwa := NB160_157.out
              have hwb := NB157_160.out
              have hwc := NB160_158.out
              have hwd := NB158_160.out
              have hwe := NB157_158.out
              have hwf := NB158_157.out
              go_wp2
              go_roundg k1
              case measure => have := HK1.out; omega
              case rel => exact ⟨(wrap64 (x9_1 + 1)), (t161), (t162), (t161), (t162), (by first | rfl | (simp; done) | (simp [*]; done)), ⟨by have e9 : ji9 = t161 := (by rw [← hji9_]; simp); have e10 : ji10 = t162 := (by rw [← hji10_]; simp); have e11 : ji11 = t161 := (by rw [← hji11_]; simp); have e12 : ji12 = t162 := (by rw [← hji12_]; simp); rw [e9, e10, e11, e12] at H'; exact H'.out⟩, ⟨by have := HK1.out; omega⟩, ⟨by (repeat (with_reducible first | refine blk_drewN ?_ _ | refine blk_drew ?_ | refine blk_alloc ?_ _ | refine blk_far ?_ NB157_158.out _ | refine blk_far ?_ NB157_160.out _)); refine blk_put (cs := #[.int .i64 t161, .int .i64 t162]) ?_ 1 _ rfl; (repeat (with_reducible first | refine blk_drewN ?_ _ | refine blk_drew ?_ | refine blk_alloc ?_ _ | refine blk_far ?_ NB157_158.out _ | refine blk_far ?_ NB157_160.out _)); refine blk_put (cs := #[.int .i64 t161, .int .i64 t162]) ?_ 0 _ rfl; (repeat (with_reducible first | refine blk_drewN ?_ _ | refine blk_drew ?_ | refine blk_alloc ?_ _ | refine blk_far ?_ NB157_158.out _ | refine blk_far ?_ NB157_160.out _)); exact BK157.out⟩, ⟨by (repeat (with_reducible first | refine blk_drewN ?_ _ | refine blk_drew ?_ | refine blk_alloc ?_ _ | refine blk_far ?_ NB158_157.out _ | refine blk_far ?_ NB158_160.out _)); refine blk_put (cs := #[.int .i64 t161, .int .i64 t162]) ?_ 1 _ rfl; (repeat (with_reducible first | refine blk_drewN ?_ _ | refine blk_drew ?_ | refine blk_alloc ?_ _ | refine blk_far ?_ NB158_157.out _ | refine blk_far ?_ NB158_160.out _)); refine blk_put (cs := #[.int .i64 t161, .int .i64 t162]) ?_ 0 _ rfl; (repeat (with_reducible first | refine blk_drewN ?_ _ | refine blk_drew ?_ | refine blk_alloc ?_ _ | refine blk_far ?_ NB158_157.out _ | refine blk_far ?_ NB158_160.out _)); exact BK158.out⟩, ⟨by repeat (first | (with_reducible first | exact HB.out | apply below_alloc | apply pw_below_drewN | apply below_drew1 | refine below_set ?_ GE157.out | refine below_set ?_ GE158.out | refine below_set ?_ GE160.out) | exact HB.out)⟩⟩
            · rw [if_neg c8] at H
              have c8b0 : (x9_1 == 0) = false := beq_eq_false_iff_ne.mpr c8
              have c8b1 : (x9_1 != 0) = true := bne_iff_ne.mpr c8
              obtain ⟨ji22, hji22⟩ : ∃ j_ : Int, (mn x158000_1 t161) = j_ := ⟨_, rfl⟩
              replace H : (pt_Box.l0 k1 l0 l0 (l0.length : Int) (wrap64 (x9_1 + 1)) ji22 (mn x158001_1 t162) (mx x159000_1 t161) (mx x159001_1 t162)) = some (r1, r2, r3, r4, r5) := by first | (rw [hji22] at H; exact H) | (simp only [hji22] at H ⊢; exact H)
              (try rw [hji22] at A7)
              have hji22_ : (if t161 < x158000_1 then t161 else x158000_1) = ji22 := hji22
              obtain ⟨ji23, hji23⟩ : ∃ j_ : Int, (mn x158001_1 t162) = j_ := ⟨_, rfl⟩
              replace H : (pt_Box.l0 k1 l0 l0 (l0.length : Int) (wrap64 (x9_1 + 1)) ji22 ji23 (mx x159000_1 t161) (mx x159001_1 t162)) = some (r1, r2, r3, r4, r5) := by first | (rw [hji23] at H; exact H) | (simp only [hji23] at H ⊢; exact H)
              (try rw [hji23] at A7)
              have hji23_ : (if t162 < x158001_1 then t162 else x158001_1) = ji23 := hji23
              obtain ⟨ji24, hji24⟩ : ∃ j_ : Int, (mx x159000_1 t161) = j_ := ⟨_, rfl⟩
              replace H : (pt_Box.l0 k1 l0 l0 (l0.length : Int) (wrap64 (x9_1 + 1)) ji22 ji23 ji24 (mx x159001_1 t162)) = some (r1, r2, r3, r4, r5) := by first | (rw [hji24] at H; exact H) | (simp only [hji24] at H ⊢; exact H)
              (try rw [hji24] at A7)
              have hji24_ : (if x159000_1 < t161 then t161 else x159000_1) = ji24 := hji24
              obtain ⟨ji25, hji25⟩ : ∃ j_ : Int, (mx x159001_1 t162) = j_ := ⟨_, rfl⟩
              replace H : (pt_Box.l0 k1 l0 l0 (l0.length : Int) (wrap64 (x9_1 + 1)) ji22 ji23 ji24 ji25) = some (r1, r2, r3, r4, r5) := by first | (rw [hji25] at H; exact H) | (simp only [hji25] at H ⊢; exact H)
              (try rw [hji25] at A7)
              have hji25_ : (if x159001_1 < t162 then t162 else x159001_1) = ji25 := hji25
              have H' := Aside0.mk H
              clear H
              have p159 : 0 ≤ (x9_1 : Int) := of_decide_eq_true (by first | (with_reducible assumption) | assumption)
              have q159 : x9_1 < (l0.length : Int) := of_decide_eq_true (by first | (with_reducible assumption) | assumption)
              obtain ⟨ad159, e159, hx159_0, hx159_1⟩ := at_T23 HR0.out x9_1 p159 q159
              cases e159
              replace hx159_0 := (HB.out.cell (World.block_lt_of_cell? w _ hx159_0)).trans hx159_0
              replace hx159_1 := (HB.out.cell (World.block_lt_of_cell? w _ hx159_1)).trans hx159_1
              replace p159 := eq_true p159
              replace q159 := eq_true q159
              go_wp2_with (first | ((with_reducible refine gate_dst (N := 6) rfl ?_); refine box_event ?hg (N := 6) ?hd (cs := #[.int .i64 0, .int .i64 0]) (t := 23) ?hr ?_; (case hd => rfl); (case hg => rfl); (case hr => first | (go_simp; done) | (go_simp; rfl)); intro gb160 hg w26 hbox hb; have n0_ := Aside0.mk (blk_below (g := gb157) (o := .cells #[.int .i64 x158000_1, .int .i64 x158001_1] 23 (0, 0)) (by (with_reducible repeat (first | refine blk_drewN ?_ _ | refine blk_drew ?_ | refine blk_alloc ?_ _)); exact BK157.out) hb); have n1_ := Aside0.mk (blk_below (g := gb158) (o := .cells #[.int .i64 x159000_1, .int .i64 x159001_1] 23 (0, 0)) (by (with_reducible repeat (first | refine blk_drewN ?_ _ | refine blk_drew ?_ | refine blk_alloc ?_ _)); exact BK158.out) hb); have n2_ := Aside0.mk (below_step (by repeat (first | (with_reducible first | exact HB.out | apply below_alloc | apply pw_below_drewN | apply below_drew1 | refine below_set ?_ GE157.out | refine below_set ?_ GE158.out) | exact HB.out)) hb); have n3_ := Aside0.mk (hbox); have n4_ := Aside0.mk ((by rw [hg]; exact (below_size (by repeat (first | (with_reducible first | exact HB.out | apply below_alloc | apply pw_below_drewN | apply below_drew1 | refine below_set ?_ GE157.out | refine below_set ?_ GE158.out) | exact HB.out))) : w.heap.size ≤ gb160)); have n5_ := Aside0.mk ((by rw [hg]; exact (below_size (by repeat (first | (with_reducible first | exact HB.out | apply below_alloc | apply pw_below_drewN | apply below_drew1 | refine below_set ?_ GE157.out | refine below_set ?_ GE158.out) | exact HB.out))) : w.heap.size ≤ gb160)); have n6_ := Aside0.mk ((by rw [hg]; exact Nat.ne_of_lt (blk_lt (g := gb157) (o := .cells #[.int .i64 x158000_1, .int .i64 x158001_1] 23 (0, 0)) (by (with_reducible repeat (first | refine blk_drewN ?_ _ | refine blk_drew ?_ | refine blk_alloc ?_ _)); exact BK157.out)) : gb157 ≠ gb160)); have n7_ := Aside0.mk ((by rw [hg]; exact Nat.ne_of_gt (blk_lt (g := gb157) (o := .cells #[.int .i64 x158000_1, .int .i64 x158001_1] 23 (0, 0)) (by (with_reducible repeat (first | refine blk_drewN ?_ _ | refine blk_drew ?_ | refine blk_alloc ?_ _)); exact BK157.out)) : gb160 ≠ gb157)); have n8_ := Aside0.mk ((by rw [hg]; exact Nat.ne_of_lt (blk_lt (g := gb158) (o := .cells #[.int .i64 x159000_1, .int .i64 x159001_1] 23 (0, 0)) (by (with_reducible repeat (first | refine blk_drewN ?_ _ | refine blk_drew ?_ | refine blk_alloc ?_ _)); exact BK158.out)) : gb158 ≠ gb160)); have n9_ := Aside0.mk ((by rw [hg]; exact Nat.ne_of_gt (blk_lt (g := gb158) (o := .cells #[.int .i64 x159000_1, .int .i64 x159001_1] 23 (0, 0)) (by (with_reducible repeat (first | refine blk_drewN ?_ _ | refine blk_drew ?_ | refine blk_alloc ?_ _)); exact BK158.out)) : gb160 ≠ gb158)); clear BK157; clear BK158; clear HB; have BK157 := n0_; have BK158 := n1_; have HB := n2_; have BK160 := n3_; have GW160 := n4_; have GE160 := n5_; have NB157_160 := n6_; have NB160_157 := n7_; have NB158_160 := n8_; have NB160_158 := n9_; clear n0_ n1_ n2_ n3_ n4_ n5_ n6_ n7_ n8_ n9_; clear hb hbox hg; have hnb27 := NB160_157.out; have hnc27 := NB157_160.out; have hnb28 := NB160_158.out; have hnc28 := NB158_160.out; have hcz29_0 : w26.cell? ⟨gb160, 0, none⟩ = some (.int .i64 0) := (blk_cell BK160.out 0).trans rfl; have hcz29_1 : w26.cell? ⟨gb160, 1, none⟩ = some (.int .i64 0) := (blk_cell BK160.out 1).trans rfl; have hfz29_0 := blk_frozen BK160.out 0; have hfz29_1 := blk_frozen BK160.out 1) | ((with_reducible refine gate_callee (f := 35) rfl ?_); refine goesL_ (some 15) rfl rfl Try.func35 (by kernel_rfl) rfl #[.agg #[.int .i64 ((rd_T23 l0 x9_1).f0), .int .i64 ((rd_T23 l0 x9_1).f1)]] rfl (by (try simp only [List.map_toArray, List.map_cons, List.map_nil]); first | done | rfl | (simp only [List.length_drop, List.length_take]; rfl)) ?_; (with_reducible refine (pt_Near.calls ((rd_T23 l0 x9_1).f0) ((rd_T23 l0 x9_1).f1) t161 t162 _ A7.out).mono ?_); rintro e w30 ⟨rfl, hb⟩; refine ⟨_, rfl, ?_⟩; have n0_ := Aside0.mk (blk_below (g := gb157) (o := .cells #[.int .i64 x158000_1, .int .i64 x158001_1] 23 (0, 0)) (by (with_reducible repeat (first | refine blk_drewN ?_ _ | refine blk_drew ?_ | refine blk_alloc ?_ _)); refine blk_far ?_ NB157_160.out _; (with_reducible repeat (first | refine blk_drewN ?_ _ | refine blk_drew ?_ | refine blk_alloc ?_ _)); refine blk_far ?_ NB157_160.out _; (with_reducible repeat (first | refine blk_drewN ?_ _ | refine blk_drew ?_ | refine blk_alloc ?_ _)); exact BK157.out) hb); have n1_ := Aside0.mk (blk_below (g := gb158) (o := .cells #[.int .i64 x159000_1, .int .i64 x159001_1] 23 (0, 0)) (by (with_reducible repeat (first | refine blk_drewN ?_ _ | refine blk_drew ?_ | refine blk_alloc ?_ _)); refine blk_far ?_ NB158_160.out _; (with_reducible repeat (first | refine blk_drewN ?_ _ | refine blk_drew ?_ | refine blk_alloc ?_ _)); refine blk_far ?_ NB158_160.out _; (with_reducible repeat (first | refine blk_drewN ?_ _ | refine blk_drew ?_ | refine blk_alloc ?_ _)); exact BK158.out) hb); have n2_ := Aside0.mk (blk_below (g := gb160) (o := .cells #[.int .i64 ((rd_T23 l0 x9_1).f0), .int .i64 ((rd_T23 l0 x9_1).f1)] 23 (0, 0)) (by (with_reducible repeat (first | refine blk_drewN ?_ _ | refine blk_drew ?_ | refine blk_alloc ?_ _)); refine blk_put (cs := #[.int .i64 ((rd_T23 l0 x9_1).f0), .int .i64 0]) ?_ 1 _ rfl; (with_reducible repeat (first | refine blk_drewN ?_ _ | refine blk_drew ?_ | refine blk_alloc ?_ _)); refine blk_put (cs := #[.int .i64 0, .int .i64 0]) ?_ 0 _ rfl; (with_reducible repeat (first | refine blk_drewN ?_ _ | refine blk_drew ?_ | refine blk_alloc ?_ _)); exact BK160.out) hb); have n3_ := Aside0.mk (below_step (by repeat (first | (with_reducible first | exact HB.out | apply below_alloc | apply pw_below_drewN | apply below_drew1 | refine below_set ?_ GE157.out | refine below_set ?_ GE158.out | refine below_set ?_ GE160.out) | exact HB.out)) hb); clear BK157; clear BK158; clear BK160; clear HB; have BK157 := n0_; have BK158 := n1_; have BK160 := n2_; have HB := n3_; clear n0_ n1_ n2_ n3_; (try clear hb); (try clear hb2); (try clear hk); (try clear hi); have hcz31_0 : w30.cell? ⟨gb160, 0, none⟩ = some (.int .i64 ((rd_T23 l0 x9_1).f0)) := (blk_cell BK160.out 0).trans rfl; have hcz31_1 : w30.cell? ⟨gb160, 1, none⟩ = some (.int .i64 ((rd_T23 l0 x9_1).f1)) := (blk_cell BK160.out 1).trans rfl; have hfz31_0 := blk_frozen BK160.out 0; have hfz31_1 := blk_frozen BK160.out 1; have hnb32 := NB157_158.out; have hnc32 := NB158_157.out; have hcz33_0 : w30.cell? ⟨gb157, 0, none⟩ = some (.int .i64 x158000_1) := (blk_cell BK157.out 0).trans rfl; have hcz33_1 : w30.cell? ⟨gb157, 1, none⟩ = some (.int .i64 x158001_1) := (blk_cell BK157.out 1).trans rfl; have hfz33_0 := blk_frozen BK157.out 0; have hfz33_1 := blk_frozen BK157.out 1; have hcz34_0 : w30.cell? ⟨gb158, 0, none⟩ = some (.int .i64 x159000_1) := (blk_cell BK158.out 0).trans rfl; have hcz34_1 : w30.cell? ⟨gb158, 1, none⟩ = some (.int .i64 x159001_1) := (blk_cell BK158.out 1).trans rfl; have hfz34_0 := blk_frozen BK158.out 0; have hfz34_1 := blk_frozen BK158.out 1))
              go_roundg k1
              case measure => have := HK1.out; omega
              case rel => exact ⟨(wrap64 (x9_1 + 1)), (ji22), (ji23), (ji24), (ji25), (by first | rfl | (simp; done) | (simp [*]; done)), H', ⟨by have := HK1.out; omega⟩, ⟨by (with_reducible repeat (first | refine blk_drewN ?_ _ | refine blk_drew ?_ | refine blk_alloc ?_ _)); refine blk_far ?_ NB157_158.out _; (with_reducible repeat (first | refine blk_drewN ?_ _ | refine blk_drew ?_ | refine blk_alloc ?_ _)); refine blk_far ?_ NB157_158.out _; (with_reducible repeat (first | refine blk_drewN ?_ _ | refine blk_drew ?_ | refine blk_alloc ?_ _)); refine blk_put (cs := #[.int .i64 ji22, .int .i64 x158001_1]) ?_ 1 _ rfl; (with_reducible repeat (first | refine blk_drewN ?_ _ | refine blk_drew ?_ | refine blk_alloc ?_ _)); refine blk_put (cs := #[.int .i64 x158000_1, .int .i64 x158001_1]) ?_ 0 _ rfl; (with_reducible repeat (first | refine blk_drewN ?_ _ | refine blk_drew ?_ | refine blk_alloc ?_ _)); refine blk_far ?_ NB157_160.out _; (with_reducible repeat (first | refine blk_drewN ?_ _ | refine blk_drew ?_ | refine blk_alloc ?_ _)); refine blk_far ?_ NB157_160.out _; (with_reducible repeat (first | refine blk_drewN ?_ _ | refine blk_drew ?_ | refine blk_alloc ?_ _)); exact BK157.out⟩, ⟨by (with_reducible repeat (first | refine blk_drewN ?_ _ | refine blk_drew ?_ | refine blk_alloc ?_ _)); refine blk_put (cs := #[.int .i64 ji24, .int .i64 x159001_1]) ?_ 1 _ rfl; (with_reducible repeat (first | refine blk_drewN ?_ _ | refine blk_drew ?_ | refine blk_alloc ?_ _)); refine blk_put (cs := #[.int .i64 x159000_1, .int .i64 x159001_1]) ?_ 0 _ rfl; (with_reducible repeat (first | refine blk_drewN ?_ _ | refine blk_drew ?_ | refine blk_alloc ?_ _)); refine blk_far ?_ NB158_157.out _; (with_reducible repeat (first | refine blk_drewN ?_ _ | refine blk_drew ?_ | refine blk_alloc ?_ _)); refine blk_far ?_ NB158_157.out _; (with_reducible repeat (first | refine blk_drewN ?_ _ | refine blk_drew ?_ | refine blk_alloc ?_ _)); refine blk_far ?_ NB158_160.out _; (with_reducible repeat (first | refine blk_drewN ?_ _ | refine blk_drew ?_ | refine blk_alloc ?_ _)); refine blk_far ?_ NB158_160.out _; (with_reducible repeat (first | refine blk_drewN ?_ _ | refine blk_drew ?_ | refine blk_alloc ?_ _)); exact BK158.out⟩, ⟨by repeat (first | (with_reducible first | exact HB.out | apply below_alloc | apply pw_below_drewN | apply below_drew1 | refine below_set ?_ GE157.out | refine below_set ?_ GE158.out | refine below_set ?_ GE160.out) | exact HB.out)⟩⟩
          · rw [if_neg c6] at H
            exact absurd H (by simp)
        · rw [if_neg c5] at H
          exact absurd H (by simp)
      · rw [if_neg c4] at H
        have c4b0 : decide (x9_1 < (l0.length : Int)) = false := decide_eq_false c4
        clear c4
        simp only [Option.some.injEq, Prod.mk.injEq] at H
        obtain ⟨rfl, rfl, rfl, rfl, rfl⟩ := H
        have hy157_0 := (blk_cell BK157.out 0).trans (show _ = some (Value.int .i64 x158000_1) from rfl)
        have hf157_0 := blk_frozen BK157.out 0
        have hy157_1 := (blk_cell BK157.out 1).trans (show _ = some (Value.int .i64 x158001_1) from rfl)
        have hf157_1 := blk_frozen BK157.out 1
        have hy158_0 := (blk_cell BK158.out 0).trans (show _ = some (Value.int .i64 x159000_1) from rfl)
        have hf158_0 := blk_frozen BK158.out 0
        have hy158_1 := (blk_cell BK158.out 1).trans (show _ = some (Value.int .i64 x159001_1) from rfl)
        have hf158_1 := blk_frozen BK158.out 1
        have hwe := NB157_158.out
        have hwf := NB158_157.out
        go_upto_region 10 with fail
        go_cut [4] from 43 to 47 (fun s4 wx => s4 = .bool (decide ((l0.length : Int) > 0)) ∧ wx.heap[gb157]? = some (.cells #[.int .i64 x158000_1, .int .i64 x158001_1] 23 (0, 0)) ∧ wx.heap[gb158]? = some (.cells #[.int .i64 x159000_1, .int .i64 x159001_1] 23 (0, 0)) ∧ Below w.heap.size w wx)
        case first =>
          go_region
          all_goals (go_wp2_with fail; go_meet)
          all_goals exact ⟨by first | rfl | (simp; done) | (simp [*]; done), by (repeat (with_reducible first | refine blk_drewN ?_ _ | refine blk_drew ?_ | refine blk_alloc ?_ _ | refine blk_far ?_ NB157_158.out _)); refine blk_put (cs := #[.int .i64 x158000_1, .int .i64 x158001_1]) ?_ 1 _ rfl; (repeat (with_reducible first | refine blk_drewN ?_ _ | refine blk_drew ?_ | refine blk_alloc ?_ _ | refine blk_far ?_ NB157_158.out _)); refine blk_put (cs := #[.int .i64 x158000_1, .int .i64 x158001_1]) ?_ 0 _ rfl; (repeat (with_reducible first | refine blk_drewN ?_ _ | refine blk_drew ?_ | refine blk_alloc ?_ _ | refine blk_far ?_ NB157_158.out _)); exact BK157.out, by (repeat (with_reducible first | refine blk_drewN ?_ _ | refine blk_drew ?_ | refine blk_alloc ?_ _ | refine blk_far ?_ NB158_157.out _)); refine blk_put (cs := #[.int .i64 x159000_1, .int .i64 x159001_1]) ?_ 1 _ rfl; (repeat (with_reducible first | refine blk_drewN ?_ _ | refine blk_drew ?_ | refine blk_alloc ?_ _ | refine blk_far ?_ NB158_157.out _)); refine blk_put (cs := #[.int .i64 x159000_1, .int .i64 x159001_1]) ?_ 0 _ rfl; (repeat (with_reducible first | refine blk_drewN ?_ _ | refine blk_drew ?_ | refine blk_alloc ?_ _ | refine blk_far ?_ NB158_157.out _)); exact BK158.out, by repeat (first | (with_reducible first | exact HB.out | apply below_alloc | apply pw_below_drewN | apply below_drew1 | refine below_set ?_ GE157.out | refine below_set ?_ GE158.out) | exact HB.out)⟩
        case rest =>
        clear BK157 BK158 HB
        obtain ⟨rfl, BK157, BK158, HB⟩ := hcut
        replace BK157 := Aside0.mk BK157
        replace BK158 := Aside0.mk BK158
        replace HB := Aside0.mk HB
        go_wp2
        refine bodyPost_ret (results_list (rs := [.cell 2 23, .cell 3 23, .tmp 4]) rfl (by simp) (.cell gb157 23 #[.int .i64 x158000_1, .int .i64 x158001_1] (0, 0) _ rfl (by (with_reducible repeat (first | refine blk_drewN ?_ _ | refine blk_drew ?_ | refine blk_alloc ?_ _)); exact BK157.out) Try.underlying23 rfl (by kernel_rfl) (.cell gb158 23 #[.int .i64 x159000_1, .int .i64 x159001_1] (0, 0) _ rfl (by (with_reducible repeat (first | refine blk_drewN ?_ _ | refine blk_drew ?_ | refine blk_alloc ?_ _)); exact BK158.out) Try.underlying23 rfl (by kernel_rfl) (.tmp .nil)))) rfl ?_
        exact ⟨by first | rfl | (simp [errW_none, errW_some] <;> rfl) | (simp [*, errW_none, errW_some] <;> rfl), by repeat (first | (with_reducible first | exact HB.out | apply below_alloc | apply pw_below_drewN | apply below_drew1 | refine below_set ?_ GE157.out | refine below_set ?_ GE158.out) | exact HB.out)⟩
end Go.Proofs.Ytabblkckapdpoaa.PPtBoxes
