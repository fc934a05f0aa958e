-- PRINTED BY print.sh 35421559b90ae4d0a3588c463048766b98c2df88dd9212a6774a882060cdf62d: not written by this session
import Derived.Test.YtabblkckapdpoaaPPtBoxesx0
import Derived.Test.YtabblkckapdpoaaPPtBoxesx3
namespace Go.Proofs.Ytabblkckapdpoaa.PPtBoxes
open Go.RowKit Go.Proofs.YtabblkckapdpoaaW.PrintWords Go.Proofs.YtabblkckapdpoaaW.PrintLast Go.Proofs.YtabblkckapdpoaaW.PrintMore
attribute [local go_sem] max2_int min2_int max_two min_two max_three min_three max_four min_four   -- for this text's walks alone
set_option linter.unusedVariables false
set_option linter.unusedSimpArgs false

/-! ### terrierref9_Box: function 32 -/
def terrierref9_Box.l0 : Nat → List (S23) → Int → Int → Int → Int → Int → Option (Int × Int × Int × Int × Bool)
  | 0, _, _, _, _, _, _ => none
  | k + 1, x0, x7, x176000, x176001, x177000, x177001 => if x7 < (x0.length : Int) then (if 0 ≤ x7 then ((terrierref9_Clean.f ((rd_T23 x0 x7).f0) ((rd_T23 x0 x7).f1)).bind fun bt178 => (terrierref9_Box.l0 k x0 (wrap64 (x7 + 1)) (mn x176000 bt178.1) (mn x176001 bt178.2) (mx x177000 bt178.1) (mx x177001 bt178.2))) else (none)) else (some (x176000, x176001, x177000, x177001, true))
def terrierref9_Box.f (k : Nat) (l0 : List (S23)) : Option (Int × Int × Int × Int × Bool) := if (l0.length : Int) = 0 then (some (0, 0, 0, 0, false)) else (if 0 < (l0.length : Int) then ((terrierref9_Clean.f ((rd_T23 l0 0).f0) ((rd_T23 l0 0).f1)).bind fun bt170 => ((terrierref9_Clean.f ((rd_T23 l0 0).f0) ((rd_T23 l0 0).f1)).bind fun bt173 => (terrierref9_Box.l0 k l0 0 bt170.1 bt170.2 bt173.1 bt173.2))) else (none))
theorem terrierref9_Box.mono_l : ∀ k, (∀ y0 y1 y2 y3 y4 y5, LeO (terrierref9_Box.l0 k y0 y1 y2 y3 y4 y5) (terrierref9_Box.l0 (k + 1) y0 y1 y2 y3 y4 y5))
  | 0 => fun _ _ _ _ _ _ r h => by simp [terrierref9_Box.l0] at h
  | k + 1 => by
    have ih0 := terrierref9_Box.mono_l k
    · intro y0 y1 y2 y3 y4 y5
      unfold terrierref9_Box.l0
      repeat' first
      | (with_reducible exact ih0 _ _ _ _ _ _)
      | (with_reducible exact LeO.refl _)
      | (with_reducible exact LeO.none _)
      | (with_reducible refine LeO.ite ?_ ?_)
      | (with_reducible refine LeO.bind ?_ (fun _ => ?_))
      | exact ih0 _ _ _ _ _ _
      | exact LeO.none _
      | refine LeO.ite ?_ ?_
      | refine LeO.bind ?_ (fun _ => ?_)
theorem terrierref9_Box.mono : ∀ a0 k, LeO (terrierref9_Box.f k a0) (terrierref9_Box.f (k + 1) a0) := by
  intro a0 k
  have ih0 := terrierref9_Box.mono_l k
  unfold terrierref9_Box.f
  repeat' first
      | (with_reducible exact ih0 _ _ _ _ _ _)
      | (with_reducible exact LeO.refl _)
      | (with_reducible exact LeO.none _)
      | (with_reducible refine LeO.ite ?_ ?_)
      | (with_reducible refine LeO.bind ?_ (fun _ => ?_))
      | exact ih0 _ _ _ _ _ _
      | exact LeO.none _
      | refine LeO.ite ?_ ?_
      | refine LeO.bind ?_ (fun _ => ?_)
def terrierref9_Box.T3 : Bool × List (List Nat × List Nat) := (true, [([], []), ([0], [0]), ([1], [1]), ([2], [2]), ([], []), ([4], [4]), ([5], [5]), ([6, 3], [6]), ([], []), ([], []), ([8, 3, 7, 0, 1, 2, 3, 8, 9], [3, 8]), ([9, 7, 10, 0, 1, 2, 3, 4, 5, 6, 7, 8, 9, 10], [7, 9])])
def terrierref9_Box.B3 : List Nat := [0, 1, 3, 7, 0, 16, 48, 127, 0, 0, 1023, 2047]
theorem terrierref9_Box.tab3 : rtab .any (opsOf Try.f32 3) = terrierref9_Box.T3 := by kernel_rfl
theorem terrierref9_Box.bits3 : waitsOk terrierref9_Box.T3.2 terrierref9_Box.B3 = true := by kernel_rfl
set_option maxHeartbeats 8000000 in
set_option maxRecDepth 100000 in
theorem terrierref9_Box.calls (k : Nat) (A0 : Option Addr) (c0 : Nat) (l0 : List (S23)) (r1 : Int) (r2 : Int) (r3 : Int) (r4 : Int) (r5 : Bool) (w : World) (hr0 : Kd.C k23 w A0 l0.length l0) (hc0 : l0.length ≤ c0) (h : terrierref9_Box.f k l0 = some (r1, r2, r3, r4, r5)) :
    Calls Try.prog 32 #[.slice A0 l0.length c0] w fun e w' => e = .returned (.tuple #[.agg #[.int .i64 r1, .int .i64 r2], .agg #[.int .i64 r3, .int .i64 r4], .bool r5]) ∧ Below w.heap.size w w' := by
  have hu23 := Try.underlying23
  have HR0 := Aside0.mk hr0
  have HC0 := Aside0.mk hc0
  clear hr0 hc0
  have HB := Aside0.mk (Below.refl w.heap.size w)
  have H : (if (l0.length : Int) = 0 then (some (0, 0, 0, 0, false)) else (if 0 < (l0.length : Int) then ((terrierref9_Clean.f ((rd_T23 l0 0).f0) ((rd_T23 l0 0).f1)).bind fun bt170 => ((terrierref9_Clean.f ((rd_T23 l0 0).f0) ((rd_T23 l0 0).f1)).bind fun bt173 => (terrierref9_Box.l0 k l0 0 bt170.1 bt170.2 bt173.1 bt173.2))) else (none))) = some (r1, r2, r3, r4, r5) := h
  clear h
  by_cases c2 : (l0.length : Int) = 0
  · rw [if_pos c2] at H
    have c2b0 : ((l0.length : Int) == 0) = true := beq_iff_eq.mpr c2
    have c2b1 : ((l0.length : Int) != 0) = false := bne_eq_false_iff_eq.mpr c2
    clear c2
    simp only [Option.some.injEq, Prod.mk.injEq] at H
    obtain ⟨rfl, rfl, rfl, rfl, rfl⟩ := H
    go_enter Try.func32, Try.ntmps32
    go_wp2_with (first | ((with_reducible refine gate_dst (N := 2) rfl ?_); refine box_event ?hg (N := 2) ?hd (cs := #[.int .i64 0, .int .i64 0]) (t := 23) ?hr ?_; (case hd => rfl); (case hg => rfl); (case hr => first | (go_simp; done) | (go_simp; rfl)); intro gb167 hg w3 hbox hb; have n0_ := Aside0.mk (below_step (by repeat (first | (with_reducible first | exact HB.out | apply below_alloc | apply pw_below_drewN | apply below_drew1) | exact HB.out)) hb); have n1_ := Aside0.mk (hbox); have n2_ := Aside0.mk ((by rw [hg]; exact (below_size (by repeat (first | (with_reducible first | exact HB.out | apply below_alloc | apply pw_below_drewN | apply below_drew1) | exact HB.out))) : w.heap.size ≤ gb167)); have n3_ := Aside0.mk ((by rw [hg]; exact (below_size (by repeat (first | (with_reducible first | exact HB.out | apply below_alloc | apply pw_below_drewN | apply below_drew1) | exact HB.out))) : w.heap.size ≤ gb167)); clear HB; have HB := n0_; have BK167 := n1_; have GW167 := n2_; have GE167 := n3_; clear n0_ n1_ n2_ n3_; clear hb hbox hg) | ((with_reducible refine gate_dst (N := 3) rfl ?_); refine box_event ?hg (N := 3) ?hd (cs := #[.int .i64 0, .int .i64 0]) (t := 23) ?hr ?_; (case hd => rfl); (case hg => rfl); (case hr => first | (go_simp; done) | (go_simp; rfl)); intro gb168 hg w4 hbox hb; have n0_ := Aside0.mk (blk_below (g := gb167) (o := .cells #[.int .i64 0, .int .i64 0] 23 (0, 0)) (by (with_reducible repeat (first | refine blk_drewN ?_ _ | refine blk_drew ?_ | refine blk_alloc ?_ _)); exact BK167.out) hb); have n1_ := Aside0.mk (below_step (by repeat (first | (with_reducible first | exact HB.out | apply below_alloc | apply pw_below_drewN | apply below_drew1 | refine below_set ?_ GE167.out) | exact HB.out)) hb); have n2_ := Aside0.mk (hbox); have n3_ := Aside0.mk ((by rw [hg]; exact (below_size (by repeat (first | (with_reducible first | exact HB.out | apply below_alloc | apply pw_below_drewN | apply below_drew1 | refine below_set ?_ GE167.out) | exact HB.out))) : w.heap.size ≤ gb168)); have n4_ := Aside0.mk ((by rw [hg]; exact (below_size (by repeat (first | (with_reducible first | exact HB.out | apply below_alloc | apply pw_below_drewN | apply below_drew1 | refine below_set ?_ GE167.out) | exact HB.out))) : w.heap.size ≤ gb168)); have n5_ := Aside0.mk ((by rw [hg]; exact Nat.ne_of_lt (blk_lt (g := gb167) (o := .cells #[.int .i64 0, .int .i64 0] 23 (0, 0)) (by (with_reducible repeat (first | refine blk_drewN ?_ _ | refine blk_drew ?_ | refine blk_alloc ?_ _)); exact BK167.out)) : gb167 ≠ gb168)); have n6_ := Aside0.mk ((by rw [hg]; exact Nat.ne_of_gt (blk_lt (g := gb167) (o := .cells #[.int .i64 0, .int .i64 0] 23 (0, 0)) (by (with_reducible repeat (first | refine blk_drewN ?_ _ | refine blk_drew ?_ | refine blk_alloc ?_ _)); exact BK167.out)) : gb168 ≠ gb167)); clear BK167; clear HB; have BK167 := n0_; have HB := n1_; have BK168 := n2_; have GW168 := n3_; have GE168 := n4_; have NB167_168 := n5_; have NB168_167 := n6_; clear n0_ n1_ n2_ n3_ n4_ n5_ n6_; clear hb hbox hg; have hnb5 := NB167_168.out; have hnc5 := NB168_167.out; have hcz6_0 : w4.cell? ⟨gb167, 0, none⟩ = some (.int .i64 0) := (blk_cell BK167.out 0).trans rfl; have hcz6_1 : w4.cell? ⟨gb167, 1, none⟩ = some (.int .i64 0) := (blk_cell BK167.out 1).trans rfl; have hfz6_0 := blk_frozen BK167.out 0; have hfz6_1 := blk_frozen BK167.out 1; have hcz7_0 : w4.cell? ⟨gb168, 0, none⟩ = some (.int .i64 0) := (blk_cell BK168.out 0).trans rfl; have hcz7_1 : w4.cell? ⟨gb168, 1, none⟩ = some (.int .i64 0) := (blk_cell BK168.out 1).trans rfl; have hfz7_0 := blk_frozen BK168.out 0; have hfz7_1 := blk_frozen BK168.out 1))
    refine bodyPost_ret (results_list (rs := [.cell 2 23, .cell 3 23, .tmp 4]) rfl (by simp) (.cell gb167 23 #[.int .i64 0, .int .i64 0] (0, 0) _ rfl (by (with_reducible repeat (first | refine blk_drewN ?_ _ | refine blk_drew ?_ | refine blk_alloc ?_ _)); refine blk_far ?_ NB167_168.out _; (with_reducible repeat (first | refine blk_drewN ?_ _ | refine blk_drew ?_ | refine blk_alloc ?_ _)); refine blk_far ?_ NB167_168.out _; (with_reducible repeat (first | refine blk_drewN ?_ _ | refine blk_drew ?_ | refine blk_alloc ?_ _)); refine blk_put (cs := #[.int .i64 0, .int .i64 0]) ?_ 1 _ rfl; (with_reducible repeat (first | refine blk_drewN ?_ _ | refine blk_drew ?_ | refine blk_alloc ?_ _)); refine blk_put (cs := #[.int .i64 0, .int .i64 0]) ?_ 0 _ rfl; (with_reducible repeat (first | refine blk_drewN ?_ _ | refine blk_drew ?_ | refine blk_alloc ?_ _)); exact BK167.out) Try.underlying23 rfl (by kernel_rfl) (.cell gb168 23 #[.int .i64 0, .int .i64 0] (0, 0) _ rfl (by (with_reducible repeat (first | refine blk_drewN ?_ _ | refine blk_drew ?_ | refine blk_alloc ?_ _)); refine blk_put (cs := #[.int .i64 0, .int .i64 0]) ?_ 1 _ rfl; (with_reducible repeat (first | refine blk_drewN ?_ _ | refine blk_drew ?_ | refine blk_alloc ?_ _)); refine blk_put (cs := #[.int .i64 0, .int .i64 0]) ?_ 0 _ rfl; (with_reducible repeat (first | refine blk_drewN ?_ _ | refine blk_drew ?_ | refine blk_alloc ?_ _)); refine blk_far ?_ NB168_167.out _; (with_reducible repeat (first | refine blk_drewN ?_ _ | refine blk_drew ?_ | refine blk_alloc ?_ _)); refine blk_far ?_ NB168_167.out _; (with_reducible repeat (first | refine blk_drewN ?_ _ | refine blk_drew ?_ | refine blk_alloc ?_ _)); exact BK168.out) Try.underlying23 rfl (by kernel_rfl) (.tmp .nil)))) rfl ?_
    exact ⟨by first | rfl | (simp [errW_none, errW_some] <;> rfl) | (simp [*, errW_none, errW_some] <;> rfl), by repeat (first | (with_reducible first | exact HB.out | apply below_alloc | apply pw_below_drewN | apply below_drew1 | refine below_set ?_ GE167.out | refine below_set ?_ GE168.out) | exact HB.out)⟩
  · rw [if_neg c2] at H
    have c2b0 : ((l0.length : Int) == 0) = false := beq_eq_false_iff_ne.mpr c2
    have c2b1 : ((l0.length : Int) != 0) = true := bne_iff_ne.mpr c2
    have c2b2 : ¬ (l0 = []) := fun h_ => c2 (by rw [h_]; rfl)
    by_cases c8 : 0 < (l0.length : Int)
    · rw [if_pos c8] at H
      have c8b0 : decide (0 < (l0.length : Int)) = true := decide_eq_true c8
      have c8b1 : decide (0 < l0.length) = true := decide_eq_true (by omega)
      clear c8
      replace H := Option.bind_eq_some_iff.mp H
      obtain ⟨⟨t170, t171⟩, A90, H⟩ := H
      replace H : ((terrierref9_Clean.f ((rd_T23 l0 0).f0) ((rd_T23 l0 0).f1)).bind fun bt173 => (terrierref9_Box.l0 k l0 0 t170 t171 bt173.1 bt173.2)) = some (r1, r2, r3, r4, r5) := H
      have A9 := Aside0.mk A90
      clear A90
      replace H := Option.bind_eq_some_iff.mp H
      obtain ⟨⟨t173, t174⟩, A100, H⟩ := H
      replace H : (terrierref9_Box.l0 k l0 0 t170 t171 t173 t174) = some (r1, r2, r3, r4, r5) := H
      have A10 := Aside0.mk A100
      clear A100
      have H' := Aside0.mk H
      clear H
      go_enter Try.func32, Try.ntmps32
      try go_wp2_with (first | ((with_reducible refine gate_dst (N := 2) rfl ?_); refine box_event ?hg (N := 2) ?hd (cs := #[.int .i64 0, .int .i64 0]) (t := 23) ?hr ?_; (case hd => rfl); (case hg => rfl); (case hr => first | (go_simp; done) | (go_simp; rfl)); intro gb167 hg w11 hbox hb; have n0_ := Aside0.mk (below_step (by repeat (first | (with_reducible first | exact HB.out | apply below_alloc | apply pw_below_drewN | apply below_drew1) | exact HB.out)) hb); have n1_ := Aside0.mk (hbox); have n2_ := Aside0.mk ((by rw [hg]; exact (below_size (by repeat (first | (with_reducible first | exact HB.out | apply below_alloc | apply pw_below_drewN | apply below_drew1) | exact HB.out))) : w.heap.size ≤ gb167)); have n3_ := Aside0.mk ((by rw [hg]; exact (below_size (by repeat (first | (with_reducible first | exact HB.out | apply below_alloc | apply pw_below_drewN | apply below_drew1) | exact HB.out))) : w.heap.size ≤ gb167)); clear HB; have HB := n0_; have BK167 := n1_; have GW167 := n2_; have GE167 := n3_; clear n0_ n1_ n2_ n3_; clear hb hbox hg) | ((with_reducible refine gate_dst (N := 3) rfl ?_); refine box_event ?hg (N := 3) ?hd (cs := #[.int .i64 0, .int .i64 0]) (t := 23) ?hr ?_; (case hd => rfl); (case hg => rfl); (case hr => first | (go_simp; done) | (go_simp; rfl)); intro gb168 hg w12 hbox hb; have n0_ := Aside0.mk (blk_below (g := gb167) (o := .cells #[.int .i64 0, .int .i64 0] 23 (0, 0)) (by (with_reducible repeat (first | refine blk_drewN ?_ _ | refine blk_drew ?_ | refine blk_alloc ?_ _)); exact BK167.out) hb); have n1_ := Aside0.mk (below_step (by repeat (first | (with_reducible first | exact HB.out | apply below_alloc | apply pw_below_drewN | apply below_drew1 | refine below_set ?_ GE167.out) | exact HB.out)) hb); have n2_ := Aside0.mk (hbox); have n3_ := Aside0.mk ((by rw [hg]; exact (below_size (by repeat (first | (with_reducible first | exact HB.out | apply below_alloc | apply pw_below_drewN | apply below_drew1 | refine below_set ?_ GE167.out) | exact HB.out))) : w.heap.size ≤ gb168)); have n4_ := Aside0.mk ((by rw [hg]; exact (below_size (by repeat (first | (with_reducible first | exact HB.out | apply below_alloc | apply pw_below_drewN | apply below_drew1 | refine below_set ?_ GE167.out) | exact HB.out))) : w.heap.size ≤ gb168)); have n5_ := Aside0.mk ((by rw [hg]; exact Nat.ne_of_lt (blk_lt (g := gb167) (o := .cells #[.int .i64 0, .int .i64 0] 23 (0, 0)) (by (with_reducible repeat (first | refine blk_drewN ?_ _ | refine blk_drew ?_ | refine blk_alloc ?_ _)); exact BK167.out)) : gb167 ≠ gb168)); have n6_ := Aside0.mk ((by rw [hg]; exact Nat.ne_of_gt (blk_lt (g := gb167) (o := .cells #[.int .i64 0, .int .i64 0] 23 (0, 0)) (by (with_reducible repeat (first | refine blk_drewN ?_ _ | refine blk_drew ?_ | refine blk_alloc ?_ _)); exact BK167.out)) : gb168 ≠ gb167)); clear BK167; clear HB; have BK167 := n0_; have HB := n1_; have BK168 := n2_; have GW168 := n3_; have GE168 := n4_; have NB167_168 := n5_; have NB168_167 := n6_; clear n0_ n1_ n2_ n3_ n4_ n5_ n6_; clear hb hbox hg))
      have n0_ := Aside0.mk (blk_drew BK167.out)
      have n1_ := Aside0.mk (blk_drew BK168.out)
      have n2_ := Aside0.mk (below_drew1 HB.out)
      clear BK167
      clear BK168
      clear HB
      have BK167 := n0_
      have BK168 := n1_
      have HB := n2_
      clear n0_ n1_ n2_
      have p169 : 0 ≤ (0 : Int) := (by omega)
      have q169 : 0 < (l0.length : Int) := of_decide_eq_true (by first | (with_reducible assumption) | assumption)
      obtain ⟨ad169, e169, hx169_0, hx169_1⟩ := at_T23 HR0.out 0 p169 q169
      have hw169_1 := hx169_1
      (try rw [show ((0 : Int)).toNat = 0 from rfl] at hw169_1)
      (try rw [show 0 * 2 = 0 from rfl] at hw169_1)
      (try rw [Addr.add_zero'] at hw169_1)
      have hw169_0 := hx169_0
      (try rw [show ((0 : Int)).toNat = 0 from rfl] at hw169_0)
      (try rw [show 0 * 2 = 0 from rfl] at hw169_0)
      (try rw [Addr.add_zero'] at hw169_0)
      cases e169
      have qi169 : (0 < l0.length) = True := eq_true (by omega)
      (try rw [show ((0 : Int)).toNat = 0 from rfl] at hx169_0)
      (try rw [show 0 * 2 = 0 from rfl] at hx169_0)
      (try rw [Addr.add_zero'] at hx169_0)
      (try rw [show ((0 : Int)).toNat = 0 from rfl] at hx169_1)
      (try rw [show 0 * 2 = 0 from rfl] at hx169_1)
      (try rw [Addr.add_zero'] at hx169_1)
      replace hx169_0 := (HB.out.cell (World.block_lt_of_cell? w _ hx169_0)).trans hx169_0
      replace hx169_1 := (HB.out.cell (World.block_lt_of_cell? w _ hx169_1)).trans hx169_1
      replace p169 := eq_true p169
      replace q169 := eq_true q169
      have p172 : 0 ≤ (0 : Int) := (by omega)
      have q172 : 0 < (l0.length : Int) := of_decide_eq_true (by first | (with_reducible assumption) | assumption)
      obtain ⟨ad172, e172, hx172_0, hx172_1⟩ := at_T23 HR0.out 0 p172 q172
      have hw172_1 := hx172_1
      (try rw [show ((0 : Int)).toNat = 0 from rfl] at hw172_1)
      (try rw [show 0 * 2 = 0 from rfl] at hw172_1)
      (try rw [Addr.add_zero'] at hw172_1)
      have hw172_0 := hx172_0
      (try rw [show ((0 : Int)).toNat = 0 from rfl] at hw172_0)
      (try rw [show 0 * 2 = 0 from rfl] at hw172_0)
      (try rw [Addr.add_zero'] at hw172_0)
      obtain rfl : ad169 = ad172 := (by injection e172)
      have qi172 : (0 < l0.length) = True := eq_true (by omega)
      (try rw [show ((0 : Int)).toNat = 0 from rfl] at hx172_0)
      (try rw [show 0 * 2 = 0 from rfl] at hx172_0)
      (try rw [Addr.add_zero'] at hx172_0)
      (try rw [show ((0 : Int)).toNat = 0 from rfl] at hx172_1)
      (try rw [show 0 * 2 = 0 from rfl] at hx172_1)
      (try rw [Addr.add_zero'] at hx172_1)
      replace hx172_0 := (HB.out.cell (World.block_lt_of_cell? w _ hx172_0)).trans hx172_0
      replace hx172_1 := (HB.out.cell (World.block_lt_of_cell? w _ hx172_1)).trans hx172_1
      replace p172 := eq_true p172
      replace q172 := eq_true q172
      refine start_ (n := 12) (S := fun w' => w'.cell? ad169 = some (.int .i64 ((rd_T23 l0 0).f0)) ∧ w'.cell? ⟨ad169.block, ad169.off + 1, none⟩ = some (.int .i64 ((rd_T23 l0 0).f1)) ∧ w'.cell? ad169 = some (.int .i64 ((rd_T23 l0 0).f0)) ∧ w'.cell? ⟨ad169.block, ad169.off + 1, none⟩ = some (.int .i64 ((rd_T23 l0 0).f1))) (ds := []) #[false, false, false, false, false, false, false, false, false, false, false, false] (by kernel_rfl) rfl rfl ⟨((HB.out.cell (World.block_lt_of_cell? w _ hw169_0)).trans hw169_0), ((HB.out.cell (World.block_lt_of_cell? w _ hw169_1)).trans hw169_1), ((HB.out.cell (World.block_lt_of_cell? w _ hw172_0)).trans hw172_0), ((HB.out.cell (World.block_lt_of_cell? w _ hw172_1)).trans hw172_1)⟩ (fun hHeld => ?_); refine with_tabW terrierref9_Box.tab3 terrierref9_Box.bits3 (fun HT_ HW_ => ?_)
      generalize w12.drew = w13 at BK167 BK168 HB hx169_0 hx169_1 hx172_0 hx172_1 hHeld ⊢
      refine pure_ (i := 0) (N := some 14) (v := ?_) (a' := ?_) #[true, false, false, false, false, false, false, false, false, false, false, false] rfl rfl (any_of HT_.out (by kernel_rfl)) (fun _ _ _ h => h) (Or.inl ⟨by rfl, ?_⟩) ?_ ?_
      rotate_left
      · intro w'
        go_simp
        with_reducible rfl
      rotate_left
      · simp only [Act.put, List.setIfInBounds_toArray, List.set_cons_zero, List.set_cons_succ, i64_w, i32_w]
        rfl
      refine pure_ (i := 1) (N := some 15) (v := ?_) (a' := ?_) #[true, true, false, false, false, false, false, false, false, false, false, false] rfl rfl (any_of HT_.out (by kernel_rfl)) (fun _ _ _ h => h) (Or.inl ⟨by rfl, ?_⟩) ?_ ?_
      rotate_left
      · intro w'
        go_simp
        with_reducible rfl
      rotate_left
      · simp only [Act.put, List.setIfInBounds_toArray, List.set_cons_zero, List.set_cons_succ, i64_w, i32_w]
        rfl
      refine pure_ (i := 4) (N := some 18) (v := ?_) (a' := ?_) #[true, true, false, false, true, false, false, false, false, false, false, false] rfl rfl (any_of HT_.out (by kernel_rfl)) (fun _ _ _ h => h) (Or.inl ⟨by rfl, ?_⟩) ?_ ?_
      rotate_left
      · intro w'
        go_simp
        with_reducible rfl
      rotate_left
      · simp only [Act.put, List.setIfInBounds_toArray, List.set_cons_zero, List.set_cons_succ, i64_w, i32_w]
        rfl
      refine pure_ (i := 5) (N := some 19) (v := ?_) (a' := ?_) #[true, true, false, false, true, true, false, false, false, false, false, false] rfl rfl (any_of HT_.out (by kernel_rfl)) (fun _ _ _ h => h) (Or.inl ⟨by rfl, ?_⟩) ?_ ?_
      rotate_left
      · intro w'
        go_simp
        with_reducible rfl
      rotate_left
      · simp only [Act.put, List.setIfInBounds_toArray, List.set_cons_zero, List.set_cons_succ, i64_w, i32_w]
        rfl
      refine take_ (i := 2) (N := some 16) (v := ?_) (a' := ?_) #[true, true, true, false, true, true, false, false, false, false, false, false] rfl rfl (take_ofW HT_.out HW_.out (by kernel_rfl)) (fun _ _ _ h => h) (Or.inl ⟨by rfl, ?_⟩) hHeld ?_ ?_
      rotate_left
      · rintro w' ⟨s0, s1, s2, s3⟩
        go_simp
        with_reducible rfl
      rotate_left
      · simp only [Act.put, List.setIfInBounds_toArray, List.set_cons_zero, List.set_cons_succ, i64_w, i32_w]
        rfl
      refine take_ (i := 6) (N := some 20) (v := ?_) (a' := ?_) #[true, true, true, false, true, true, true, false, false, false, false, false] rfl rfl (take_ofW HT_.out HW_.out (by kernel_rfl)) (fun _ _ _ h => h) (Or.inl ⟨by rfl, ?_⟩) hHeld ?_ ?_
      rotate_left
      · rintro w' ⟨s0, s1, s2, s3⟩
        go_simp
        with_reducible rfl
      rotate_left
      · simp only [Act.put, List.setIfInBounds_toArray, List.set_cons_zero, List.set_cons_succ, i64_w, i32_w]
        rfl
      refine join_ (σ := Nat × Nat) 2 #[true, true, true, true, true, true, true, true, true, true, false, false] (fun s_ => [(17, .agg #[.int .i64 t170, .int .i64 t171]), (21, .agg #[.int .i64 t173, .int .i64 t174]), (5, .pointer (some ⟨s_.1, 0, none⟩)), (6, .pointer (some ⟨s_.2, 0, none⟩))]) (fun s_ w' => (w'.cell? ad169 = some (.int .i64 ((rd_T23 l0 0).f0)) ∧ w'.cell? ⟨ad169.block, ad169.off + 1, none⟩ = some (.int .i64 ((rd_T23 l0 0).f1)) ∧ w'.cell? ad169 = some (.int .i64 ((rd_T23 l0 0).f0)) ∧ w'.cell? ⟨ad169.block, ad169.off + 1, none⟩ = some (.int .i64 ((rd_T23 l0 0).f1))) ∧ (w'.heap[gb167]? = some (.cells #[.int .i64 0, .int .i64 0] 23 (0, 0))) ∧ (w'.heap[gb168]? = some (.cells #[.int .i64 0, .int .i64 0] 23 (0, 0))) ∧ (w'.heap[s_.1]? = some (.cells #[.int .i64 0, .int .i64 0] 23 (0, 0))) ∧ (w'.heap[s_.2]? = some (.cells #[.int .i64 0, .int .i64 0] 23 (0, 0))) ∧ (w.heap.size ≤ s_.1) ∧ (w.heap.size ≤ s_.1) ∧ (gb167 ≠ s_.1) ∧ (s_.1 ≠ gb167) ∧ (gb168 ≠ s_.1) ∧ (s_.1 ≠ gb168) ∧ (s_.2 ≠ s_.1) ∧ (s_.1 ≠ s_.2) ∧ (w.heap.size ≤ s_.2) ∧ (w.heap.size ≤ s_.2) ∧ (gb167 ≠ s_.2) ∧ (s_.2 ≠ gb167) ∧ (gb168 ≠ s_.2) ∧ (s_.2 ≠ gb168) ∧ (Below w.heap.size w w')) ?_ ?_
      rotate_left
      · intro hJ3_7_8_9
        refine join_ (σ := Nat) 3 #[true, true, true, true, true, true, true, true, true, false, false, false] (fun s_ => [(17, .agg #[.int .i64 t170, .int .i64 t171]), (21, .agg #[.int .i64 t173, .int .i64 t174]), (5, .pointer (some ⟨s_, 0, none⟩))]) (fun s_ w' => (w'.cell? ad169 = some (.int .i64 ((rd_T23 l0 0).f0)) ∧ w'.cell? ⟨ad169.block, ad169.off + 1, none⟩ = some (.int .i64 ((rd_T23 l0 0).f1)) ∧ w'.cell? ad169 = some (.int .i64 ((rd_T23 l0 0).f0)) ∧ w'.cell? ⟨ad169.block, ad169.off + 1, none⟩ = some (.int .i64 ((rd_T23 l0 0).f1))) ∧ (w'.heap[gb167]? = some (.cells #[.int .i64 0, .int .i64 0] 23 (0, 0))) ∧ (w'.heap[gb168]? = some (.cells #[.int .i64 0, .int .i64 0] 23 (0, 0))) ∧ (w'.heap[s_]? = some (.cells #[.int .i64 0, .int .i64 0] 23 (0, 0))) ∧ (w.heap.size ≤ s_) ∧ (w.heap.size ≤ s_) ∧ (gb167 ≠ s_) ∧ (s_ ≠ gb167) ∧ (gb168 ≠ s_) ∧ (s_ ≠ gb168) ∧ (Below w.heap.size w w')) ?_ ?_
        rotate_left
        · intro hJ3_7_8
          refine join_ (σ := Nat) 3 #[true, true, true, true, true, true, true, true, false, true, false, false] (fun s_ => [(17, .agg #[.int .i64 t170, .int .i64 t171]), (21, .agg #[.int .i64 t173, .int .i64 t174]), (6, .pointer (some ⟨s_, 0, none⟩))]) (fun s_ w' => (w'.cell? ad169 = some (.int .i64 ((rd_T23 l0 0).f0)) ∧ w'.cell? ⟨ad169.block, ad169.off + 1, none⟩ = some (.int .i64 ((rd_T23 l0 0).f1)) ∧ w'.cell? ad169 = some (.int .i64 ((rd_T23 l0 0).f0)) ∧ w'.cell? ⟨ad169.block, ad169.off + 1, none⟩ = some (.int .i64 ((rd_T23 l0 0).f1))) ∧ (w'.heap[gb167]? = some (.cells #[.int .i64 0, .int .i64 0] 23 (0, 0))) ∧ (w'.heap[gb168]? = some (.cells #[.int .i64 0, .int .i64 0] 23 (0, 0))) ∧ (w'.heap[s_]? = some (.cells #[.int .i64 0, .int .i64 0] 23 (0, 0))) ∧ (w.heap.size ≤ s_) ∧ (w.heap.size ≤ s_) ∧ (gb167 ≠ s_) ∧ (s_ ≠ gb167) ∧ (gb168 ≠ s_) ∧ (s_ ≠ gb168) ∧ (Below w.heap.size w w')) ?_ ?_
          rotate_left
          · intro hJ3_7_9
            refine join_ (σ := Nat × Nat) 3 #[true, true, true, true, true, true, true, false, true, true, false, false] (fun s_ => [(17, .agg #[.int .i64 t170, .int .i64 t171]), (5, .pointer (some ⟨s_.1, 0, none⟩)), (6, .pointer (some ⟨s_.2, 0, none⟩))]) (fun s_ w' => (w'.cell? ad169 = some (.int .i64 ((rd_T23 l0 0).f0)) ∧ w'.cell? ⟨ad169.block, ad169.off + 1, none⟩ = some (.int .i64 ((rd_T23 l0 0).f1)) ∧ w'.cell? ad169 = some (.int .i64 ((rd_T23 l0 0).f0)) ∧ w'.cell? ⟨ad169.block, ad169.off + 1, none⟩ = some (.int .i64 ((rd_T23 l0 0).f1))) ∧ (w'.heap[gb167]? = some (.cells #[.int .i64 0, .int .i64 0] 23 (0, 0))) ∧ (w'.heap[gb168]? = some (.cells #[.int .i64 0, .int .i64 0] 23 (0, 0))) ∧ (w'.heap[s_.1]? = some (.cells #[.int .i64 0, .int .i64 0] 23 (0, 0))) ∧ (w'.heap[s_.2]? = some (.cells #[.int .i64 0, .int .i64 0] 23 (0, 0))) ∧ (w.heap.size ≤ s_.1) ∧ (w.heap.size ≤ s_.1) ∧ (gb167 ≠ s_.1) ∧ (s_.1 ≠ gb167) ∧ (gb168 ≠ s_.1) ∧ (s_.1 ≠ gb168) ∧ (s_.2 ≠ s_.1) ∧ (s_.1 ≠ s_.2) ∧ (w.heap.size ≤ s_.2) ∧ (w.heap.size ≤ s_.2) ∧ (gb167 ≠ s_.2) ∧ (s_.2 ≠ gb167) ∧ (gb168 ≠ s_.2) ∧ (s_.2 ≠ gb168) ∧ (Below w.heap.size w w')) ?_ ?_
            rotate_left
            · intro hJ3_8_9
              refine join_ (σ := Unit) 4 #[true, true, true, true, true, true, true, true, false, false, false, false] (fun s_ => [(17, .agg #[.int .i64 t170, .int .i64 t171]), (21, .agg #[.int .i64 t173, .int .i64 t174])]) (fun s_ w' => (w'.cell? ad169 = some (.int .i64 ((rd_T23 l0 0).f0)) ∧ w'.cell? ⟨ad169.block, ad169.off + 1, none⟩ = some (.int .i64 ((rd_T23 l0 0).f1)) ∧ w'.cell? ad169 = some (.int .i64 ((rd_T23 l0 0).f0)) ∧ w'.cell? ⟨ad169.block, ad169.off + 1, none⟩ = some (.int .i64 ((rd_T23 l0 0).f1))) ∧ (w'.heap[gb167]? = some (.cells #[.int .i64 0, .int .i64 0] 23 (0, 0))) ∧ (w'.heap[gb168]? = some (.cells #[.int .i64 0, .int .i64 0] 23 (0, 0))) ∧ (Below w.heap.size w w')) ?_ ?_
              rotate_left
              · intro hJ3_7
                refine join_ (σ := Nat) 4 #[true, true, true, true, true, true, true, false, true, false, false, false] (fun s_ => [(17, .agg #[.int .i64 t170, .int .i64 t171]), (5, .pointer (some ⟨s_, 0, none⟩))]) (fun s_ w' => (w'.cell? ad169 = some (.int .i64 ((rd_T23 l0 0).f0)) ∧ w'.cell? ⟨ad169.block, ad169.off + 1, none⟩ = some (.int .i64 ((rd_T23 l0 0).f1)) ∧ w'.cell? ad169 = some (.int .i64 ((rd_T23 l0 0).f0)) ∧ w'.cell? ⟨ad169.block, ad169.off + 1, none⟩ = some (.int .i64 ((rd_T23 l0 0).f1))) ∧ (w'.heap[gb167]? = some (.cells #[.int .i64 0, .int .i64 0] 23 (0, 0))) ∧ (w'.heap[gb168]? = some (.cells #[.int .i64 0, .int .i64 0] 23 (0, 0))) ∧ (w'.heap[s_]? = some (.cells #[.int .i64 0, .int .i64 0] 23 (0, 0))) ∧ (w.heap.size ≤ s_) ∧ (w.heap.size ≤ s_) ∧ (gb167 ≠ s_) ∧ (s_ ≠ gb167) ∧ (gb168 ≠ s_) ∧ (s_ ≠ gb168) ∧ (Below w.heap.size w w')) ?_ ?_
                rotate_left
                · intro hJ3_8
                  refine join_ (σ := Nat) 4 #[true, true, true, true, true, true, true, false, false, true, false, false] (fun s_ => [(17, .agg #[.int .i64 t170, .int .i64 t171]), (6, .pointer (some ⟨s_, 0, none⟩))]) (fun s_ w' => (w'.cell? ad169 = some (.int .i64 ((rd_T23 l0 0).f0)) ∧ w'.cell? ⟨ad169.block, ad169.off + 1, none⟩ = some (.int .i64 ((rd_T23 l0 0).f1)) ∧ w'.cell? ad169 = some (.int .i64 ((rd_T23 l0 0).f0)) ∧ w'.cell? ⟨ad169.block, ad169.off + 1, none⟩ = some (.int .i64 ((rd_T23 l0 0).f1))) ∧ (w'.heap[gb167]? = some (.cells #[.int .i64 0, .int .i64 0] 23 (0, 0))) ∧ (w'.heap[gb168]? = some (.cells #[.int .i64 0, .int .i64 0] 23 (0, 0))) ∧ (w'.heap[s_]? = some (.cells #[.int .i64 0, .int .i64 0] 23 (0, 0))) ∧ (w.heap.size ≤ s_) ∧ (w.heap.size ≤ s_) ∧ (gb167 ≠ s_) ∧ (s_ ≠ gb167) ∧ (gb168 ≠ s_) ∧ (s_ ≠ gb168) ∧ (Below w.heap.size w w')) ?_ ?_
                  rotate_left
                  · intro hJ3_9
                    refine join_ (σ := Nat × Nat) 4 #[true, true, true, false, true, true, true, false, true, true, false, false] (fun s_ => [(5, .pointer (some ⟨s_.1, 0, none⟩)), (6, .pointer (some ⟨s_.2, 0, none⟩))]) (fun s_ w' => (w'.cell? ad169 = some (.int .i64 ((rd_T23 l0 0).f0)) ∧ w'.cell? ⟨ad169.block, ad169.off + 1, none⟩ = some (.int .i64 ((rd_T23 l0 0).f1)) ∧ w'.cell? ad169 = some (.int .i64 ((rd_T23 l0 0).f0)) ∧ w'.cell? ⟨ad169.block, ad169.off + 1, none⟩ = some (.int .i64 ((rd_T23 l0 0).f1))) ∧ (w'.heap[gb167]? = some (.cells #[.int .i64 0, .int .i64 0] 23 (0, 0))) ∧ (w'.heap[gb168]? = some (.cells #[.int .i64 0, .int .i64 0] 23 (0, 0))) ∧ (w'.heap[s_.1]? = some (.cells #[.int .i64 0, .int .i64 0] 23 (0, 0))) ∧ (w'.heap[s_.2]? = some (.cells #[.int .i64 0, .int .i64 0] 23 (0, 0))) ∧ (w.heap.size ≤ s_.1) ∧ (w.heap.size ≤ s_.1) ∧ (gb167 ≠ s_.1) ∧ (s_.1 ≠ gb167) ∧ (gb168 ≠ s_.1) ∧ (s_.1 ≠ gb168) ∧ (s_.2 ≠ s_.1) ∧ (s_.1 ≠ s_.2) ∧ (w.heap.size ≤ s_.2) ∧ (w.heap.size ≤ s_.2) ∧ (gb167 ≠ s_.2) ∧ (s_.2 ≠ gb167) ∧ (gb168 ≠ s_.2) ∧ (s_.2 ≠ gb168) ∧ (Below w.heap.size w w')) ?_ ?_
                    rotate_left
                    · intro hJ8_9
                      refine join_ (σ := Unit) 5 #[true, true, true, true, true, true, true, false, false, false, false, false] (fun s_ => [(17, .agg #[.int .i64 t170, .int .i64 t171])]) (fun s_ w' => (w'.cell? ad169 = some (.int .i64 ((rd_T23 l0 0).f0)) ∧ w'.cell? ⟨ad169.block, ad169.off + 1, none⟩ = some (.int .i64 ((rd_T23 l0 0).f1)) ∧ w'.cell? ad169 = some (.int .i64 ((rd_T23 l0 0).f0)) ∧ w'.cell? ⟨ad169.block, ad169.off + 1, none⟩ = some (.int .i64 ((rd_T23 l0 0).f1))) ∧ (w'.heap[gb167]? = some (.cells #[.int .i64 0, .int .i64 0] 23 (0, 0))) ∧ (w'.heap[gb168]? = some (.cells #[.int .i64 0, .int .i64 0] 23 (0, 0))) ∧ (Below w.heap.size w w')) ?_ ?_
                      rotate_left
                      · intro hJ3
                        refine join_ (σ := Nat) 5 #[true, true, true, false, true, true, true, false, true, false, false, false] (fun s_ => [(5, .pointer (some ⟨s_, 0, none⟩))]) (fun s_ w' => (w'.cell? ad169 = some (.int .i64 ((rd_T23 l0 0).f0)) ∧ w'.cell? ⟨ad169.block, ad169.off + 1, none⟩ = some (.int .i64 ((rd_T23 l0 0).f1)) ∧ w'.cell? ad169 = some (.int .i64 ((rd_T23 l0 0).f0)) ∧ w'.cell? ⟨ad169.block, ad169.off + 1, none⟩ = some (.int .i64 ((rd_T23 l0 0).f1))) ∧ (w'.heap[gb167]? = some (.cells #[.int .i64 0, .int .i64 0] 23 (0, 0))) ∧ (w'.heap[gb168]? = some (.cells #[.int .i64 0, .int .i64 0] 23 (0, 0))) ∧ (w'.heap[s_]? = some (.cells #[.int .i64 0, .int .i64 0] 23 (0, 0))) ∧ (w.heap.size ≤ s_) ∧ (w.heap.size ≤ s_) ∧ (gb167 ≠ s_) ∧ (s_ ≠ gb167) ∧ (gb168 ≠ s_) ∧ (s_ ≠ gb168) ∧ (Below w.heap.size w w')) ?_ ?_
                        rotate_left
                        · intro hJ8
                          refine join_ (σ := Nat) 5 #[true, true, true, false, true, true, true, false, false, true, false, false] (fun s_ => [(6, .pointer (some ⟨s_, 0, none⟩))]) (fun s_ w' => (w'.cell? ad169 = some (.int .i64 ((rd_T23 l0 0).f0)) ∧ w'.cell? ⟨ad169.block, ad169.off + 1, none⟩ = some (.int .i64 ((rd_T23 l0 0).f1)) ∧ w'.cell? ad169 = some (.int .i64 ((rd_T23 l0 0).f0)) ∧ w'.cell? ⟨ad169.block, ad169.off + 1, none⟩ = some (.int .i64 ((rd_T23 l0 0).f1))) ∧ (w'.heap[gb167]? = some (.cells #[.int .i64 0, .int .i64 0] 23 (0, 0))) ∧ (w'.heap[gb168]? = some (.cells #[.int .i64 0, .int .i64 0] 23 (0, 0))) ∧ (w'.heap[s_]? = some (.cells #[.int .i64 0, .int .i64 0] 23 (0, 0))) ∧ (w.heap.size ≤ s_) ∧ (w.heap.size ≤ s_) ∧ (gb167 ≠ s_) ∧ (s_ ≠ gb167) ∧ (gb168 ≠ s_) ∧ (s_ ≠ gb168) ∧ (Below w.heap.size w w')) ?_ ?_
                          rotate_left
                          · intro hJ9
                            refine three_ (i := 3) (j := 8) (k := 9) (Ni := some 17) (Nj := some 5) (Nk := some 6) #[true, true, true, true, true, true, true, false, false, false, false, false] #[true, true, true, false, true, true, true, false, true, false, false, false] #[true, true, true, false, true, true, true, false, false, true, false, false] rfl rfl rfl rfl rfl rfl (three_of HT_.out (by kernel_rfl)) (by decide) (by decide) (by decide) (fun K hK => ?_) (fun K hK => ?_) (fun K hK => ?_)
                            · skip
                              refine goes_ Try.func30 (by kernel_rfl) rfl #[.agg #[.int .i64 ((rd_T23 l0 0).f0), .int .i64 ((rd_T23 l0 0).f1)]] (by rfl) rfl rfl (by (try simp only [List.map_toArray, List.map_cons, List.map_nil]); first | done | rfl | (simp only [List.length_drop, List.length_take]; rfl)) ?_
                              with_reducible refine (terrierref9_Clean.calls ((rd_T23 l0 0).f0) ((rd_T23 l0 0).f1) t170 t171 _ A9.out).mono ?_
                              rintro e w14 ⟨rfl, hb⟩
                              refine ⟨_, rfl, ?_⟩
                              have n0_ := Aside0.mk (blk_below (g := gb167) (o := .cells #[.int .i64 0, .int .i64 0] 23 (0, 0)) (by (with_reducible repeat (first | refine blk_drewN ?_ _ | refine blk_drew ?_ | refine blk_alloc ?_ _)); exact BK167.out) hb)
                              have n1_ := Aside0.mk (blk_below (g := gb168) (o := .cells #[.int .i64 0, .int .i64 0] 23 (0, 0)) (by (with_reducible repeat (first | refine blk_drewN ?_ _ | refine blk_drew ?_ | refine blk_alloc ?_ _)); exact BK168.out) hb)
                              have n2_ := Aside0.mk (below_step (by repeat (first | (with_reducible first | exact HB.out | apply below_alloc | apply pw_below_drewN | apply below_drew1 | refine below_set ?_ GE167.out | refine below_set ?_ GE168.out) | exact HB.out)) hb)
                              clear BK167
                              clear BK168
                              clear HB
                              have BK167 := n0_
                              have BK168 := n1_
                              have HB := n2_
                              clear n0_ n1_ n2_
                              (try clear hb)
                              (try clear hb2)
                              (try clear hk)
                              (try clear hi)
                              refine hK.out _ _ ⟨((HB.out.cell (World.block_lt_of_cell? w _ hw169_0)).trans hw169_0), ((HB.out.cell (World.block_lt_of_cell? w _ hw169_1)).trans hw169_1), ((HB.out.cell (World.block_lt_of_cell? w _ hw172_0)).trans hw172_0), ((HB.out.cell (World.block_lt_of_cell? w _ hw172_1)).trans hw172_1)⟩ (fun hHeld => ?_)
                              clear hK K
                              refine norm_ (a' := ?_) ?_ ?_
                              rotate_left
                              · show Act.put _ (some 17) _ = _
                                simp only [Act.put, List.setIfInBounds_toArray, List.set_cons_zero, List.set_cons_succ, i64_w, i32_w]
                                rfl
                              exact norm_ (by first | (simp only [putAll, Act.put, List.setIfInBounds_toArray, List.set_cons_zero, List.set_cons_succ]; done) | (simp only [putAll, Act.put, List.setIfInBounds_toArray, List.set_cons_zero, List.set_cons_succ]; rfl)) (hJ3 () _ ⟨hHeld, (by (with_reducible repeat (first | refine blk_drewN ?_ _ | refine blk_drew ?_ | refine blk_alloc ?_ _)); exact BK167.out), (by (with_reducible repeat (first | refine blk_drewN ?_ _ | refine blk_drew ?_ | refine blk_alloc ?_ _)); exact BK168.out), (by repeat (first | (with_reducible first | exact HB.out | apply below_alloc | apply pw_below_drewN | apply below_drew1 | refine below_set ?_ GE167.out | refine below_set ?_ GE168.out) | exact HB.out))⟩)
                            · skip
                              refine box_step ?hg (N := 5) ?hd (cs := #[.int .i64 0, .int .i64 0]) (t := 23) ?hr ?_; (case hd => rfl); (case hg => rfl); (case hr => first | (go_simp; done) | (go_simp; rfl))
                              intro gb175 hg w14 hbox hb
                              have n0_ := Aside0.mk (blk_below (g := gb167) (o := .cells #[.int .i64 0, .int .i64 0] 23 (0, 0)) (by (with_reducible repeat (first | refine blk_drewN ?_ _ | refine blk_drew ?_ | refine blk_alloc ?_ _)); exact BK167.out) hb)
                              have n1_ := Aside0.mk (blk_below (g := gb168) (o := .cells #[.int .i64 0, .int .i64 0] 23 (0, 0)) (by (with_reducible repeat (first | refine blk_drewN ?_ _ | refine blk_drew ?_ | refine blk_alloc ?_ _)); exact BK168.out) hb)
                              have n2_ := Aside0.mk (below_step (by repeat (first | (with_reducible first | exact HB.out | apply below_alloc | apply pw_below_drewN | apply below_drew1 | refine below_set ?_ GE167.out | refine below_set ?_ GE168.out) | exact HB.out)) hb)
                              have n3_ := Aside0.mk (hbox)
                              have n4_ := Aside0.mk ((by rw [hg]; exact (below_size (by repeat (first | (with_reducible first | exact HB.out | apply below_alloc | apply pw_below_drewN | apply below_drew1 | refine below_set ?_ GE167.out | refine below_set ?_ GE168.out) | exact HB.out))) : w.heap.size ≤ gb175))
                              have n5_ := Aside0.mk ((by rw [hg]; exact (below_size (by repeat (first | (with_reducible first | exact HB.out | apply below_alloc | apply pw_below_drewN | apply below_drew1 | refine below_set ?_ GE167.out | refine below_set ?_ GE168.out) | exact HB.out))) : w.heap.size ≤ gb175))
                              have n6_ := Aside0.mk ((by rw [hg]; exact Nat.ne_of_lt (blk_lt (g := gb167) (o := .cells #[.int .i64 0, .int .i64 0] 23 (0, 0)) (by (with_reducible repeat (first | refine blk_drewN ?_ _ | refine blk_drew ?_ | refine blk_alloc ?_ _)); exact BK167.out)) : gb167 ≠ gb175))
                              have n7_ := Aside0.mk ((by rw [hg]; exact Nat.ne_of_gt (blk_lt (g := gb167) (o := .cells #[.int .i64 0, .int .i64 0] 23 (0, 0)) (by (with_reducible repeat (first | refine blk_drewN ?_ _ | refine blk_drew ?_ | refine blk_alloc ?_ _)); exact BK167.out)) : gb175 ≠ gb167))
                              have n8_ := Aside0.mk ((by rw [hg]; exact Nat.ne_of_lt (blk_lt (g := gb168) (o := .cells #[.int .i64 0, .int .i64 0] 23 (0, 0)) (by (with_reducible repeat (first | refine blk_drewN ?_ _ | refine blk_drew ?_ | refine blk_alloc ?_ _)); exact BK168.out)) : gb168 ≠ gb175))
                              have n9_ := Aside0.mk ((by rw [hg]; exact Nat.ne_of_gt (blk_lt (g := gb168) (o := .cells #[.int .i64 0, .int .i64 0] 23 (0, 0)) (by (with_reducible repeat (first | refine blk_drewN ?_ _ | refine blk_drew ?_ | refine blk_alloc ?_ _)); exact BK168.out)) : gb175 ≠ gb168))
                              clear BK167
                              clear BK168
                              clear HB
                              have BK167 := n0_
                              have BK168 := n1_
                              have HB := n2_
                              have BK175 := n3_
                              have GW175 := n4_
                              have GE175 := n5_
                              have NB167_175 := n6_
                              have NB175_167 := n7_
                              have NB168_175 := n8_
                              have NB175_168 := n9_
                              clear n0_ n1_ n2_ n3_ n4_ n5_ n6_ n7_ n8_ n9_
                              clear hb hbox hg
                              refine hK.out _ _ ⟨((HB.out.cell (World.block_lt_of_cell? w _ hw169_0)).trans hw169_0), ((HB.out.cell (World.block_lt_of_cell? w _ hw169_1)).trans hw169_1), ((HB.out.cell (World.block_lt_of_cell? w _ hw172_0)).trans hw172_0), ((HB.out.cell (World.block_lt_of_cell? w _ hw172_1)).trans hw172_1)⟩ (fun hHeld => ?_)
                              clear hK K
                              refine norm_ (a' := ?_) ?_ ?_
                              rotate_left
                              · show Act.put _ (some 5) _ = _
                                simp only [Act.put, List.setIfInBounds_toArray, List.set_cons_zero, List.set_cons_succ, i64_w, i32_w]
                                rfl
                              exact norm_ (by first | (simp only [putAll, Act.put, List.setIfInBounds_toArray, List.set_cons_zero, List.set_cons_succ]; done) | (simp only [putAll, Act.put, List.setIfInBounds_toArray, List.set_cons_zero, List.set_cons_succ]; rfl)) (hJ8 (gb175) _ ⟨hHeld, (by (with_reducible repeat (first | refine blk_drewN ?_ _ | refine blk_drew ?_ | refine blk_alloc ?_ _)); exact BK167.out), (by (with_reducible repeat (first | refine blk_drewN ?_ _ | refine blk_drew ?_ | refine blk_alloc ?_ _)); exact BK168.out), (by (with_reducible repeat (first | refine blk_drewN ?_ _ | refine blk_drew ?_ | refine blk_alloc ?_ _)); exact BK175.out), GW175.out, GE175.out, NB167_175.out, NB175_167.out, NB168_175.out, NB175_168.out, (by repeat (first | (with_reducible first | exact HB.out | apply below_alloc | apply pw_below_drewN | apply below_drew1 | refine below_set ?_ GE167.out | refine below_set ?_ GE168.out | refine below_set ?_ GE175.out) | exact HB.out))⟩)
                            · skip
                              refine box_step ?hg (N := 6) ?hd (cs := #[.int .i64 0, .int .i64 0]) (t := 23) ?hr ?_; (case hd => rfl); (case hg => rfl); (case hr => first | (go_simp; done) | (go_simp; rfl))
                              intro gb176 hg w14 hbox hb
                              have n0_ := Aside0.mk (blk_below (g := gb167) (o := .cells #[.int .i64 0, .int .i64 0] 23 (0, 0)) (by (with_reducible repeat (first | refine blk_drewN ?_ _ | refine blk_drew ?_ | refine blk_alloc ?_ _)); exact BK167.out) hb)
                              have n1_ := Aside0.mk (blk_below (g := gb168) (o := .cells #[.int .i64 0, .int .i64 0] 23 (0, 0)) (by (with_reducible repeat (first | refine blk_drewN ?_ _ | refine blk_drew ?_ | refine blk_alloc ?_ _)); exact BK168.out) hb)
                              have n2_ := Aside0.mk (below_step (by repeat (first | (with_reducible first | exact HB.out | apply below_alloc | apply pw_below_drewN | apply below_drew1 | refine below_set ?_ GE167.out | refine below_set ?_ GE168.out) | exact HB.out)) hb)
                              have n3_ := Aside0.mk (hbox)
                              have n4_ := Aside0.mk ((by rw [hg]; exact (below_size (by repeat (first | (with_reducible first | exact HB.out | apply below_alloc | apply pw_below_drewN | apply below_drew1 | refine below_set ?_ GE167.out | refine below_set ?_ GE168.out) | exact HB.out))) : w.heap.size ≤ gb176))
                              have n5_ := Aside0.mk ((by rw [hg]; exact (below_size (by repeat (first | (with_reducible first | exact HB.out | apply below_alloc | apply pw_below_drewN | apply below_drew1 | refine below_set ?_ GE167.out | refine below_set ?_ GE168.out) | exact HB.out))) : w.heap.size ≤ gb176))
                              have n6_ := Aside0.mk ((by rw [hg]; exact Nat.ne_of_lt (blk_lt (g := gb167) (o := .cells #[.int .i64 0, .int .i64 0] 23 (0, 0)) (by (with_reducible repeat (first | refine blk_drewN ?_ _ | refine blk_drew ?_ | refine blk_alloc ?_ _)); exact BK167.out)) : gb167 ≠ gb176))
                              have n7_ := Aside0.mk ((by rw [hg]; exact Nat.ne_of_gt (blk_lt (g := gb167) (o := .cells #[.int .i64 0, .int .i64 0] 23 (0, 0)) (by (with_reducible repeat (first | refine blk_drewN ?_ _ | refine blk_drew ?_ | refine blk_alloc ?_ _)); exact BK167.out)) : gb176 ≠ gb167))
                              have n8_ := Aside0.mk ((by rw [hg]; exact Nat.ne_of_lt (blk_lt (g := gb168) (o := .cells #[.int .i64 0, .int .i64 0] 23 (0, 0)) (by (with_reducible repeat (first | refine blk_drewN ?_ _ | refine blk_drew ?_ | refine blk_alloc ?_ _)); exact BK168.out)) : gb168 ≠ gb176))
                              have n9_ := Aside0.mk ((by rw [hg]; exact Nat.ne_of_gt (blk_lt (g := gb168) (o := .cells #[.int .i64 0, .int .i64 0] 23 (0, 0)) (by (with_reducible repeat (first | refine blk_drewN ?_ _ | refine blk_drew ?_ | refine blk_alloc ?_ _)); exact BK168.out)) : gb176 ≠ gb168))
                              clear BK167
                              clear BK168
                              clear HB
                              have BK167 := n0_
                              have BK168 := n1_
                              have HB := n2_
                              have BK176 := n3_
                              have GW176 := n4_
                              have GE176 := n5_
                              have NB167_176 := n6_
                              have NB176_167 := n7_
                              have NB168_176 := n8_
                              have NB176_168 := n9_
                              clear n0_ n1_ n2_ n3_ n4_ n5_ n6_ n7_ n8_ n9_
                              clear hb hbox hg
                              refine hK.out _ _ ⟨((HB.out.cell (World.block_lt_of_cell? w _ hw169_0)).trans hw169_0), ((HB.out.cell (World.block_lt_of_cell? w _ hw169_1)).trans hw169_1), ((HB.out.cell (World.block_lt_of_cell? w _ hw172_0)).trans hw172_0), ((HB.out.cell (World.block_lt_of_cell? w _ hw172_1)).trans hw172_1)⟩ (fun hHeld => ?_)
                              clear hK K
                              refine norm_ (a' := ?_) ?_ ?_
                              rotate_left
                              · show Act.put _ (some 6) _ = _
                                simp only [Act.put, List.setIfInBounds_toArray, List.set_cons_zero, List.set_cons_succ, i64_w, i32_w]
                                rfl
                              exact norm_ (by first | (simp only [putAll, Act.put, List.setIfInBounds_toArray, List.set_cons_zero, List.set_cons_succ]; done) | (simp only [putAll, Act.put, List.setIfInBounds_toArray, List.set_cons_zero, List.set_cons_succ]; rfl)) (hJ9 (gb176) _ ⟨hHeld, (by (with_reducible repeat (first | refine blk_drewN ?_ _ | refine blk_drew ?_ | refine blk_alloc ?_ _)); exact BK167.out), (by (with_reducible repeat (first | refine blk_drewN ?_ _ | refine blk_drew ?_ | refine blk_alloc ?_ _)); exact BK168.out), (by (with_reducible repeat (first | refine blk_drewN ?_ _ | refine blk_drew ?_ | refine blk_alloc ?_ _)); exact BK176.out), GW176.out, GE176.out, NB167_176.out, NB176_167.out, NB168_176.out, NB176_168.out, (by repeat (first | (with_reducible first | exact HB.out | apply below_alloc | apply pw_below_drewN | apply below_drew1 | refine below_set ?_ GE167.out | refine below_set ?_ GE168.out | refine below_set ?_ GE176.out) | exact HB.out))⟩)
                          · skip
                            rintro gb176 w15 ⟨hS_, h0_, h1_, h2_, h3_, h4_, h5_, h6_, h7_, h8_, h9_⟩
                            have n0_ : Aside0 (w15.heap[gb167]? = some (.cells #[.int .i64 0, .int .i64 0] 23 (0, 0))) := ⟨h0_⟩
                            have n1_ : Aside0 (w15.heap[gb168]? = some (.cells #[.int .i64 0, .int .i64 0] 23 (0, 0))) := ⟨h1_⟩
                            have n2_ : Aside0 (w15.heap[gb176]? = some (.cells #[.int .i64 0, .int .i64 0] 23 (0, 0))) := ⟨h2_⟩
                            have n3_ : Aside0 (w.heap.size ≤ gb176) := ⟨h3_⟩
                            have n4_ : Aside0 (w.heap.size ≤ gb176) := ⟨h4_⟩
                            have n5_ : Aside0 (gb167 ≠ gb176) := ⟨h5_⟩
                            have n6_ : Aside0 (gb176 ≠ gb167) := ⟨h6_⟩
                            have n7_ : Aside0 (gb168 ≠ gb176) := ⟨h7_⟩
                            have n8_ : Aside0 (gb176 ≠ gb168) := ⟨h8_⟩
                            have n9_ : Aside0 (Below w.heap.size w w15) := ⟨h9_⟩
                            clear BK167
                            clear BK168
                            clear HB
                            clear h0_ h1_ h2_ h3_ h4_ h5_ h6_ h7_ h8_ h9_
                            have BK167 := n0_
                            have BK168 := n1_
                            have BK176 := n2_
                            have GW176 := n3_
                            have GE176 := n4_
                            have NB167_176 := n5_
                            have NB176_167 := n6_
                            have NB168_176 := n7_
                            have NB176_168 := n8_
                            have HB := n9_
                            clear n0_ n1_ n2_ n3_ n4_ n5_ n6_ n7_ n8_ n9_
                            have hHeld : w15.cell? ad169 = some (.int .i64 ((rd_T23 l0 0).f0)) ∧ w15.cell? ⟨ad169.block, ad169.off + 1, none⟩ = some (.int .i64 ((rd_T23 l0 0).f1)) ∧ w15.cell? ad169 = some (.int .i64 ((rd_T23 l0 0).f0)) ∧ w15.cell? ⟨ad169.block, ad169.off + 1, none⟩ = some (.int .i64 ((rd_T23 l0 0).f1)) := hS_
                            refine norm_ (a' := ?_) ?_ ?_
                            rotate_left
                            · simp only [putAll, Act.put, List.setIfInBounds_toArray, List.set_cons_zero, List.set_cons_succ]
                              rfl
                            refine two_ (i := 3) (j := 8) (Ni := some 17) (Nj := some 5) #[true, true, true, true, true, true, true, false, false, true, false, false] #[true, true, true, false, true, true, true, false, true, true, false, false] rfl rfl rfl rfl (two_of HT_.out (by kernel_rfl)) (by decide) (by decide) (fun K hK => ?_) (fun K hK => ?_)
                            · skip
                              refine goes_ Try.func30 (by kernel_rfl) rfl #[.agg #[.int .i64 ((rd_T23 l0 0).f0), .int .i64 ((rd_T23 l0 0).f1)]] (by rfl) rfl rfl (by (try simp only [List.map_toArray, List.map_cons, List.map_nil]); first | done | rfl | (simp only [List.length_drop, List.length_take]; rfl)) ?_
                              with_reducible refine (terrierref9_Clean.calls ((rd_T23 l0 0).f0) ((rd_T23 l0 0).f1) t170 t171 _ A9.out).mono ?_
                              rintro e w16 ⟨rfl, hb⟩
                              refine ⟨_, rfl, ?_⟩
                              have n0_ := Aside0.mk (blk_below (g := gb167) (o := .cells #[.int .i64 0, .int .i64 0] 23 (0, 0)) (by (with_reducible repeat (first | refine blk_drewN ?_ _ | refine blk_drew ?_ | refine blk_alloc ?_ _)); exact BK167.out) hb)
                              have n1_ := Aside0.mk (blk_below (g := gb168) (o := .cells #[.int .i64 0, .int .i64 0] 23 (0, 0)) (by (with_reducible repeat (first | refine blk_drewN ?_ _ | refine blk_drew ?_ | refine blk_alloc ?_ _)); exact BK168.out) hb)
                              have n2_ := Aside0.mk (blk_below (g := gb176) (o := .cells #[.int .i64 0, .int .i64 0] 23 (0, 0)) (by (with_reducible repeat (first | refine blk_drewN ?_ _ | refine blk_drew ?_ | refine blk_alloc ?_ _)); exact BK176.out) hb)
                              have n3_ := Aside0.mk (below_step (by repeat (first | (with_reducible first | exact HB.out | apply below_alloc | apply pw_below_drewN | apply below_drew1 | refine below_set ?_ GE167.out | refine below_set ?_ GE168.out | refine below_set ?_ GE176.out) | exact HB.out)) hb)
                              clear BK167
                              clear BK168
                              clear BK176
                              clear HB
                              have BK167 := n0_
                              have BK168 := n1_
                              have BK176 := n2_
                              have HB := n3_
                              clear n0_ n1_ n2_ n3_
                              (try clear hb)
                              (try clear hb2)
                              (try clear hk)
                              (try clear hi)
                              refine hK.out _ _ ⟨((HB.out.cell (World.block_lt_of_cell? w _ hw169_0)).trans hw169_0), ((HB.out.cell (World.block_lt_of_cell? w _ hw169_1)).trans hw169_1), ((HB.out.cell (World.block_lt_of_cell? w _ hw172_0)).trans hw172_0), ((HB.out.cell (World.block_lt_of_cell? w _ hw172_1)).trans hw172_1)⟩ (fun hHeld => ?_)
                              clear hK K
                              refine norm_ (a' := ?_) ?_ ?_
                              rotate_left
                              · show Act.put _ (some 17) _ = _
                                simp only [Act.put, List.setIfInBounds_toArray, List.set_cons_zero, List.set_cons_succ, i64_w, i32_w]
                                rfl
                              exact norm_ (by first | (simp only [putAll, Act.put, List.setIfInBounds_toArray, List.set_cons_zero, List.set_cons_succ]; done) | (simp only [putAll, Act.put, List.setIfInBounds_toArray, List.set_cons_zero, List.set_cons_succ]; rfl)) (hJ3_9 (gb176) _ ⟨hHeld, (by (with_reducible repeat (first | refine blk_drewN ?_ _ | refine blk_drew ?_ | refine blk_alloc ?_ _)); exact BK167.out), (by (with_reducible repeat (first | refine blk_drewN ?_ _ | refine blk_drew ?_ | refine blk_alloc ?_ _)); exact BK168.out), (by (with_reducible repeat (first | refine blk_drewN ?_ _ | refine blk_drew ?_ | refine blk_alloc ?_ _)); exact BK176.out), GW176.out, GE176.out, NB167_176.out, NB176_167.out, NB168_176.out, NB176_168.out, (by repeat (first | (with_reducible first | exact HB.out | apply below_alloc | apply pw_below_drewN | apply below_drew1 | refine below_set ?_ GE167.out | refine below_set ?_ GE168.out | refine below_set ?_ GE176.out) | exact HB.out))⟩)
                            · skip
                              refine box_step ?hg (N := 5) ?hd (cs := #[.int .i64 0, .int .i64 0]) (t := 23) ?hr ?_; (case hd => rfl); (case hg => rfl); (case hr => first | (go_simp; done) | (go_simp; rfl))
                              intro gb175 hg w16 hbox hb
                              have n0_ := Aside0.mk (blk_below (g := gb167) (o := .cells #[.int .i64 0, .int .i64 0] 23 (0, 0)) (by (with_reducible repeat (first | refine blk_drewN ?_ _ | refine blk_drew ?_ | refine blk_alloc ?_ _)); exact BK167.out) hb)
                              have n1_ := Aside0.mk (blk_below (g := gb168) (o := .cells #[.int .i64 0, .int .i64 0] 23 (0, 0)) (by (with_reducible repeat (first | refine blk_drewN ?_ _ | refine blk_drew ?_ | refine blk_alloc ?_ _)); exact BK168.out) hb)
                              have n2_ := Aside0.mk (blk_below (g := gb176) (o := .cells #[.int .i64 0, .int .i64 0] 23 (0, 0)) (by (with_reducible repeat (first | refine blk_drewN ?_ _ | refine blk_drew ?_ | refine blk_alloc ?_ _)); exact BK176.out) hb)
                              have n3_ := Aside0.mk (below_step (by repeat (first | (with_reducible first | exact HB.out | apply below_alloc | apply pw_below_drewN | apply below_drew1 | refine below_set ?_ GE167.out | refine below_set ?_ GE168.out | refine below_set ?_ GE176.out) | exact HB.out)) hb)
                              have n4_ := Aside0.mk (hbox)
                              have n5_ := Aside0.mk ((by rw [hg]; exact (below_size (by repeat (first | (with_reducible first | exact HB.out | apply below_alloc | apply pw_below_drewN | apply below_drew1 | refine below_set ?_ GE167.out | refine below_set ?_ GE168.out | refine below_set ?_ GE176.out) | exact HB.out))) : w.heap.size ≤ gb175))
                              have n6_ := Aside0.mk ((by rw [hg]; exact (below_size (by repeat (first | (with_reducible first | exact HB.out | apply below_alloc | apply pw_below_drewN | apply below_drew1 | refine below_set ?_ GE167.out | refine below_set ?_ GE168.out | refine below_set ?_ GE176.out) | exact HB.out))) : w.heap.size ≤ gb175))
                              have n7_ := Aside0.mk ((by rw [hg]; exact Nat.ne_of_lt (blk_lt (g := gb167) (o := .cells #[.int .i64 0, .int .i64 0] 23 (0, 0)) (by (with_reducible repeat (first | refine blk_drewN ?_ _ | refine blk_drew ?_ | refine blk_alloc ?_ _)); exact BK167.out)) : gb167 ≠ gb175))
                              have n8_ := Aside0.mk ((by rw [hg]; exact Nat.ne_of_gt (blk_lt (g := gb167) (o := .cells #[.int .i64 0, .int .i64 0] 23 (0, 0)) (by (with_reducible repeat (first | refine blk_drewN ?_ _ | refine blk_drew ?_ | refine blk_alloc ?_ _)); exact BK167.out)) : gb175 ≠ gb167))
                              have n9_ := Aside0.mk ((by rw [hg]; exact Nat.ne_of_lt (blk_lt (g := gb168) (o := .cells #[.int .i64 0, .int .i64 0] 23 (0, 0)) (by (with_reducible repeat (first | refine blk_drewN ?_ _ | refine blk_drew ?_ | refine blk_alloc ?_ _)); exact BK168.out)) : gb168 ≠ gb175))
                              have n10_ := Aside0.mk ((by rw [hg]; exact Nat.ne_of_gt (blk_lt (g := gb168) (o := .cells #[.int .i64 0, .int .i64 0] 23 (0, 0)) (by (with_reducible repeat (first | refine blk_drewN ?_ _ | refine blk_drew ?_ | refine blk_alloc ?_ _)); exact BK168.out)) : gb175 ≠ gb168))
                              have n11_ := Aside0.mk ((by rw [hg]; exact Nat.ne_of_lt (blk_lt (g := gb176) (o := .cells #[.int .i64 0, .int .i64 0] 23 (0, 0)) (by (with_reducible repeat (first | refine blk_drewN ?_ _ | refine blk_drew ?_ | refine blk_alloc ?_ _)); exact BK176.out)) : gb176 ≠ gb175))
                              have n12_ := Aside0.mk ((by rw [hg]; exact Nat.ne_of_gt (blk_lt (g := gb176) (o := .cells #[.int .i64 0, .int .i64 0] 23 (0, 0)) (by (with_reducible repeat (first | refine blk_drewN ?_ _ | refine blk_drew ?_ | refine blk_alloc ?_ _)); exact BK176.out)) : gb175 ≠ gb176))
                              clear BK167
                              clear BK168
                              clear BK176
                              clear HB
                              have BK167 := n0_
                              have BK168 := n1_
                              have BK176 := n2_
                              have HB := n3_
                              have BK175 := n4_
                              have GW175 := n5_
                              have GE175 := n6_
                              have NB167_175 := n7_
                              have NB175_167 := n8_
                              have NB168_175 := n9_
                              have NB175_168 := n10_
                              have NB176_175 := n11_
                              have NB175_176 := n12_
                              clear n0_ n1_ n2_ n3_ n4_ n5_ n6_ n7_ n8_ n9_ n10_ n11_ n12_
                              clear hb hbox hg
                              refine hK.out _ _ ⟨((HB.out.cell (World.block_lt_of_cell? w _ hw169_0)).trans hw169_0), ((HB.out.cell (World.block_lt_of_cell? w _ hw169_1)).trans hw169_1), ((HB.out.cell (World.block_lt_of_cell? w _ hw172_0)).trans hw172_0), ((HB.out.cell (World.block_lt_of_cell? w _ hw172_1)).trans hw172_1)⟩ (fun hHeld => ?_)
                              clear hK K
                              refine norm_ (a' := ?_) ?_ ?_
                              rotate_left
                              · show Act.put _ (some 5) _ = _
                                simp only [Act.put, List.setIfInBounds_toArray, List.set_cons_zero, List.set_cons_succ, i64_w, i32_w]
                                rfl
                              exact norm_ (by first | (simp only [putAll, Act.put, List.setIfInBounds_toArray, List.set_cons_zero, List.set_cons_succ]; done) | (simp only [putAll, Act.put, List.setIfInBounds_toArray, List.set_cons_zero, List.set_cons_succ]; rfl)) (hJ8_9 (gb175, gb176) _ ⟨hHeld, (by (with_reducible repeat (first | refine blk_drewN ?_ _ | refine blk_drew ?_ | refine blk_alloc ?_ _)); exact BK167.out), (by (with_reducible repeat (first | refine blk_drewN ?_ _ | refine blk_drew ?_ | refine blk_alloc ?_ _)); exact BK168.out), (by (with_reducible repeat (first | refine blk_drewN ?_ _ | refine blk_drew ?_ | refine blk_alloc ?_ _)); exact BK175.out), (by (with_reducible repeat (first | refine blk_drewN ?_ _ | refine blk_drew ?_ | refine blk_alloc ?_ _)); exact BK176.out), GW175.out, GE175.out, NB167_175.out, NB175_167.out, NB168_175.out, NB175_168.out, NB176_175.out, NB175_176.out, GW176.out, GE176.out, NB167_176.out, NB176_167.out, NB168_176.out, NB176_168.out, (by repeat (first | (with_reducible first | exact HB.out | apply below_alloc | apply pw_below_drewN | apply below_drew1 | refine below_set ?_ GE167.out | refine below_set ?_ GE168.out | refine below_set ?_ GE176.out | refine below_set ?_ GE175.out) | exact HB.out))⟩)
                        · skip
                          rintro gb175 w15 ⟨hS_, h0_, h1_, h2_, h3_, h4_, h5_, h6_, h7_, h8_, h9_⟩
                          have n0_ : Aside0 (w15.heap[gb167]? = some (.cells #[.int .i64 0, .int .i64 0] 23 (0, 0))) := ⟨h0_⟩
                          have n1_ : Aside0 (w15.heap[gb168]? = some (.cells #[.int .i64 0, .int .i64 0] 23 (0, 0))) := ⟨h1_⟩
                          have n2_ : Aside0 (w15.heap[gb175]? = some (.cells #[.int .i64 0, .int .i64 0] 23 (0, 0))) := ⟨h2_⟩
                          have n3_ : Aside0 (w.heap.size ≤ gb175) := ⟨h3_⟩
                          have n4_ : Aside0 (w.heap.size ≤ gb175) := ⟨h4_⟩
                          have n5_ : Aside0 (gb167 ≠ gb175) := ⟨h5_⟩
                          have n6_ : Aside0 (gb175 ≠ gb167) := ⟨h6_⟩
                          have n7_ : Aside0 (gb168 ≠ gb175) := ⟨h7_⟩
                          have n8_ : Aside0 (gb175 ≠ gb168) := ⟨h8_⟩
                          have n9_ : Aside0 (Below w.heap.size w w15) := ⟨h9_⟩
                          clear BK167
                          clear BK168
                          clear HB
                          clear h0_ h1_ h2_ h3_ h4_ h5_ h6_ h7_ h8_ h9_
                          have BK167 := n0_
                          have BK168 := n1_
                          have BK175 := n2_
                          have GW175 := n3_
                          have GE175 := n4_
                          have NB167_175 := n5_
                          have NB175_167 := n6_
                          have NB168_175 := n7_
                          have NB175_168 := n8_
                          have HB := n9_
                          clear n0_ n1_ n2_ n3_ n4_ n5_ n6_ n7_ n8_ n9_
                          have hHeld : w15.cell? ad169 = some (.int .i64 ((rd_T23 l0 0).f0)) ∧ w15.cell? ⟨ad169.block, ad169.off + 1, none⟩ = some (.int .i64 ((rd_T23 l0 0).f1)) ∧ w15.cell? ad169 = some (.int .i64 ((rd_T23 l0 0).f0)) ∧ w15.cell? ⟨ad169.block, ad169.off + 1, none⟩ = some (.int .i64 ((rd_T23 l0 0).f1)) := hS_
                          refine norm_ (a' := ?_) ?_ ?_
                          rotate_left
                          · simp only [putAll, Act.put, List.setIfInBounds_toArray, List.set_cons_zero, List.set_cons_succ]
                            rfl
                          refine two_ (i := 3) (j := 9) (Ni := some 17) (Nj := some 6) #[true, true, true, true, true, true, true, false, true, false, false, false] #[true, true, true, false, true, true, true, false, true, true, false, false] rfl rfl rfl rfl (two_of HT_.out (by kernel_rfl)) (by decide) (by decide) (fun K hK => ?_) (fun K hK => ?_)
                          · skip
                            refine goes_ Try.func30 (by kernel_rfl) rfl #[.agg #[.int .i64 ((rd_T23 l0 0).f0), .int .i64 ((rd_T23 l0 0).f1)]] (by rfl) rfl rfl (by (try simp only [List.map_toArray, List.map_cons, List.map_nil]); first | done | rfl | (simp only [List.length_drop, List.length_take]; rfl)) ?_
                            with_reducible refine (terrierref9_Clean.calls ((rd_T23 l0 0).f0) ((rd_T23 l0 0).f1) t170 t171 _ A9.out).mono ?_
                            rintro e w16 ⟨rfl, hb⟩
                            refine ⟨_, rfl, ?_⟩
                            have n0_ := Aside0.mk (blk_below (g := gb167) (o := .cells #[.int .i64 0, .int .i64 0] 23 (0, 0)) (by (with_reducible repeat (first | refine blk_drewN ?_ _ | refine blk_drew ?_ | refine blk_alloc ?_ _)); exact BK167.out) hb)
                            have n1_ := Aside0.mk (blk_below (g := gb168) (o := .cells #[.int .i64 0, .int .i64 0] 23 (0, 0)) (by (with_reducible repeat (first | refine blk_drewN ?_ _ | refine blk_drew ?_ | refine blk_alloc ?_ _)); exact BK168.out) hb)
                            have n2_ := Aside0.mk (blk_below (g := gb175) (o := .cells #[.int .i64 0, .int .i64 0] 23 (0, 0)) (by (with_reducible repeat (first | refine blk_drewN ?_ _ | refine blk_drew ?_ | refine blk_alloc ?_ _)); exact BK175.out) hb)
                            have n3_ := Aside0.mk (below_step (by repeat (first | (with_reducible first | exact HB.out | apply below_alloc | apply pw_below_drewN | apply below_drew1 | refine below_set ?_ GE167.out | refine below_set ?_ GE168.out | refine below_set ?_ GE175.out) | exact HB.out)) hb)
                            clear BK167
                            clear BK168
                            clear BK175
                            clear HB
                            have BK167 := n0_
                            have BK168 := n1_
                            have BK175 := n2_
                            have HB := n3_
                            clear n0_ n1_ n2_ n3_
                            (try clear hb)
                            (try clear hb2)
                            (try clear hk)
                            (try clear hi)
                            refine hK.out _ _ ⟨((HB.out.cell (World.block_lt_of_cell? w _ hw169_0)).trans hw169_0), ((HB.out.cell (World.block_lt_of_cell? w _ hw169_1)).trans hw169_1), ((HB.out.cell (World.block_lt_of_cell? w _ hw172_0)).trans hw172_0), ((HB.out.cell (World.block_lt_of_cell? w _ hw172_1)).trans hw172_1)⟩ (fun hHeld => ?_)
                            clear hK K
                            refine norm_ (a' := ?_) ?_ ?_
                            rotate_left
                            · show Act.put _ (some 17) _ = _
                              simp only [Act.put, List.setIfInBounds_toArray, List.set_cons_zero, List.set_cons_succ, i64_w, i32_w]
                              rfl
                            exact norm_ (by first | (simp only [putAll, Act.put, List.setIfInBounds_toArray, List.set_cons_zero, List.set_cons_succ]; done) | (simp only [putAll, Act.put, List.setIfInBounds_toArray, List.set_cons_zero, List.set_cons_succ]; rfl)) (hJ3_8 (gb175) _ ⟨hHeld, (by (with_reducible repeat (first | refine blk_drewN ?_ _ | refine blk_drew ?_ | refine blk_alloc ?_ _)); exact BK167.out), (by (with_reducible repeat (first | refine blk_drewN ?_ _ | refine blk_drew ?_ | refine blk_alloc ?_ _)); exact BK168.out), (by (with_reducible repeat (first | refine blk_drewN ?_ _ | refine blk_drew ?_ | refine blk_alloc ?_ _)); exact BK175.out), GW175.out, GE175.out, NB167_175.out, NB175_167.out, NB168_175.out, NB175_168.out, (by repeat (first | (with_reducible first | exact HB.out | apply below_alloc | apply pw_below_drewN | apply below_drew1 | refine below_set ?_ GE167.out | refine below_set ?_ GE168.out | refine below_set ?_ GE175.out) | exact HB.out))⟩)
                          · skip
                            refine box_step ?hg (N := 6) ?hd (cs := #[.int .i64 0, .int .i64 0]) (t := 23) ?hr ?_; (case hd => rfl); (case hg => rfl); (case hr => first | (go_simp; done) | (go_simp; rfl))
                            intro gb176 hg w16 hbox hb
                            have n0_ := Aside0.mk (blk_below (g := gb167) (o := .cells #[.int .i64 0, .int .i64 0] 23 (0, 0)) (by (with_reducible repeat (first | refine blk_drewN ?_ _ | refine blk_drew ?_ | refine blk_alloc ?_ _)); exact BK167.out) hb)
                            have n1_ := Aside0.mk (blk_below (g := gb168) (o := .cells #[.int .i64 0, .int .i64 0] 23 (0, 0)) (by (with_reducible repeat (first | refine blk_drewN ?_ _ | refine blk_drew ?_ | refine blk_alloc ?_ _)); exact BK168.out) hb)
                            have n2_ := Aside0.mk (blk_below (g := gb175) (o := .cells #[.int .i64 0, .int .i64 0] 23 (0, 0)) (by (with_reducible repeat (first | refine blk_drewN ?_ _ | refine blk_drew ?_ | refine blk_alloc ?_ _)); exact BK175.out) hb)
                            have n3_ := Aside0.mk (below_step (by repeat (first | (with_reducible first | exact HB.out | apply below_alloc | apply pw_below_drewN | apply below_drew1 | refine below_set ?_ GE167.out | refine below_set ?_ GE168.out | refine below_set ?_ GE175.out) | exact HB.out)) hb)
                            have n4_ := Aside0.mk (hbox)
                            have n5_ := Aside0.mk ((by rw [hg]; exact (below_size (by repeat (first | (with_reducible first | exact HB.out | apply below_alloc | apply pw_below_drewN | apply below_drew1 | refine below_set ?_ GE167.out | refine below_set ?_ GE168.out | refine below_set ?_ GE175.out) | exact HB.out))) : w.heap.size ≤ gb176))
                            have n6_ := Aside0.mk ((by rw [hg]; exact (below_size (by repeat (first | (with_reducible first | exact HB.out | apply below_alloc | apply pw_below_drewN | apply below_drew1 | refine below_set ?_ GE167.out | refine below_set ?_ GE168.out | refine below_set ?_ GE175.out) | exact HB.out))) : w.heap.size ≤ gb176))
                            have n7_ := Aside0.mk ((by rw [hg]; exact Nat.ne_of_lt (blk_lt (g := gb167) (o := .cells #[.int .i64 0, .int .i64 0] 23 (0, 0)) (by (with_reducible repeat (first | refine blk_drewN ?_ _ | refine blk_drew ?_ | refine blk_alloc ?_ _)); exact BK167.out)) : gb167 ≠ gb176))
                            have n8_ := Aside0.mk ((by rw [hg]; exact Nat.ne_of_gt (blk_lt (g := gb167) (o := .cells #[.int .i64 0, .int .i64 0] 23 (0, 0)) (by (with_reducible repeat (first | refine blk_drewN ?_ _ | refine blk_drew ?_ | refine blk_alloc ?_ _)); exact BK167.out)) : gb176 ≠ gb167))
                            have n9_ := Aside0.mk ((by rw [hg]; exact Nat.ne_of_lt (blk_lt (g := gb168) (o := .cells #[.int .i64 0, .int .i64 0] 23 (0, 0)) (by (with_reducible repeat (first | refine blk_drewN ?_ _ | refine blk_drew ?_ | refine blk_alloc ?_ _)); exact BK168.out)) : gb168 ≠ gb176))
                            have n10_ := Aside0.mk ((by rw [hg]; exact Nat.ne_of_gt (blk_lt (g := gb168) (o := .cells #[.int .i64 0, .int .i64 0] 23 (0, 0)) (by (with_reducible repeat (first | refine blk_drewN ?_ _ | refine blk_drew ?_ | refine blk_alloc ?_ _)); exact BK168.out)) : gb176 ≠ gb168))
                            have n11_ := Aside0.mk ((by rw [hg]; exact Nat.ne_of_lt (blk_lt (g := gb175) (o := .cells #[.int .i64 0, .int .i64 0] 23 (0, 0)) (by (with_reducible repeat (first | refine blk_drewN ?_ _ | refine blk_drew ?_ | refine blk_alloc ?_ _)); exact BK175.out)) : gb175 ≠ gb176))
                            have n12_ := Aside0.mk ((by rw [hg]; exact Nat.ne_of_gt (blk_lt (g := gb175) (o := .cells #[.int .i64 0, .int .i64 0] 23 (0, 0)) (by (with_reducible repeat (first | refine blk_drewN ?_ _ | refine blk_drew ?_ | refine blk_alloc ?_ _)); exact BK175.out)) : gb176 ≠ gb175))
                            clear BK167
                            clear BK168
                            clear BK175
                            clear HB
                            have BK167 := n0_
                            have BK168 := n1_
                            have BK175 := n2_
                            have HB := n3_
                            have BK176 := n4_
                            have GW176 := n5_
                            have GE176 := n6_
                            have NB167_176 := n7_
                            have NB176_167 := n8_
                            have NB168_176 := n9_
                            have NB176_168 := n10_
                            have NB175_176 := n11_
                            have NB176_175 := n12_
                            clear n0_ n1_ n2_ n3_ n4_ n5_ n6_ n7_ n8_ n9_ n10_ n11_ n12_
                            clear hb hbox hg
                            refine hK.out _ _ ⟨((HB.out.cell (World.block_lt_of_cell? w _ hw169_0)).trans hw169_0), ((HB.out.cell (World.block_lt_of_cell? w _ hw169_1)).trans hw169_1), ((HB.out.cell (World.block_lt_of_cell? w _ hw172_0)).trans hw172_0), ((HB.out.cell (World.block_lt_of_cell? w _ hw172_1)).trans hw172_1)⟩ (fun hHeld => ?_)
                            clear hK K
                            refine norm_ (a' := ?_) ?_ ?_
                            rotate_left
                            · show Act.put _ (some 6) _ = _
                              simp only [Act.put, List.setIfInBounds_toArray, List.set_cons_zero, List.set_cons_succ, i64_w, i32_w]
                              rfl
                            exact norm_ (by first | (simp only [putAll, Act.put, List.setIfInBounds_toArray, List.set_cons_zero, List.set_cons_succ]; done) | (simp only [putAll, Act.put, List.setIfInBounds_toArray, List.set_cons_zero, List.set_cons_succ]; rfl)) (hJ8_9 (gb175, gb176) _ ⟨hHeld, (by (with_reducible repeat (first | refine blk_drewN ?_ _ | refine blk_drew ?_ | refine blk_alloc ?_ _)); exact BK167.out), (by (with_reducible repeat (first | refine blk_drewN ?_ _ | refine blk_drew ?_ | refine blk_alloc ?_ _)); exact BK168.out), (by (with_reducible repeat (first | refine blk_drewN ?_ _ | refine blk_drew ?_ | refine blk_alloc ?_ _)); exact BK175.out), (by (with_reducible repeat (first | refine blk_drewN ?_ _ | refine blk_drew ?_ | refine blk_alloc ?_ _)); exact BK176.out), GW175.out, GE175.out, NB167_175.out, NB175_167.out, NB168_175.out, NB175_168.out, NB176_175.out, NB175_176.out, GW176.out, GE176.out, NB167_176.out, NB176_167.out, NB168_176.out, NB176_168.out, (by repeat (first | (with_reducible first | exact HB.out | apply below_alloc | apply pw_below_drewN | apply below_drew1 | refine below_set ?_ GE167.out | refine below_set ?_ GE168.out | refine below_set ?_ GE175.out | refine below_set ?_ GE176.out) | exact HB.out))⟩)
                      · skip
                        rintro _ w15 ⟨hS_, h0_, h1_, h2_⟩
                        have n0_ : Aside0 (w15.heap[gb167]? = some (.cells #[.int .i64 0, .int .i64 0] 23 (0, 0))) := ⟨h0_⟩
                        have n1_ : Aside0 (w15.heap[gb168]? = some (.cells #[.int .i64 0, .int .i64 0] 23 (0, 0))) := ⟨h1_⟩
                        have n2_ : Aside0 (Below w.heap.size w w15) := ⟨h2_⟩
                        clear BK167
                        clear BK168
                        clear HB
                        clear h0_ h1_ h2_
                        have BK167 := n0_
                        have BK168 := n1_
                        have HB := n2_
                        clear n0_ n1_ n2_
                        have hHeld : w15.cell? ad169 = some (.int .i64 ((rd_T23 l0 0).f0)) ∧ w15.cell? ⟨ad169.block, ad169.off + 1, none⟩ = some (.int .i64 ((rd_T23 l0 0).f1)) ∧ w15.cell? ad169 = some (.int .i64 ((rd_T23 l0 0).f0)) ∧ w15.cell? ⟨ad169.block, ad169.off + 1, none⟩ = some (.int .i64 ((rd_T23 l0 0).f1)) := hS_
                        refine norm_ (a' := ?_) ?_ ?_
                        rotate_left
                        · simp only [putAll, Act.put, List.setIfInBounds_toArray, List.set_cons_zero, List.set_cons_succ]
                          rfl
                        refine three_ (i := 7) (j := 8) (k := 9) (Ni := some 21) (Nj := some 5) (Nk := some 6) #[true, true, true, true, true, true, true, true, false, false, false, false] #[true, true, true, true, true, true, true, false, true, false, false, false] #[true, true, true, true, true, true, true, false, false, true, false, false] rfl rfl rfl rfl rfl rfl (three_of HT_.out (by kernel_rfl)) (by decide) (by decide) (by decide) (fun K hK => ?_) (fun K hK => ?_) (fun K hK => ?_)
                        · skip
                          refine goes_ Try.func30 (by kernel_rfl) rfl #[.agg #[.int .i64 ((rd_T23 l0 0).f0), .int .i64 ((rd_T23 l0 0).f1)]] (by rfl) rfl rfl (by (try simp only [List.map_toArray, List.map_cons, List.map_nil]); first | done | rfl | (simp only [List.length_drop, List.length_take]; rfl)) ?_
                          with_reducible refine (terrierref9_Clean.calls ((rd_T23 l0 0).f0) ((rd_T23 l0 0).f1) t173 t174 _ A10.out).mono ?_
                          rintro e w16 ⟨rfl, hb⟩
                          refine ⟨_, rfl, ?_⟩
                          have n0_ := Aside0.mk (blk_below (g := gb167) (o := .cells #[.int .i64 0, .int .i64 0] 23 (0, 0)) (by (with_reducible repeat (first | refine blk_drewN ?_ _ | refine blk_drew ?_ | refine blk_alloc ?_ _)); exact BK167.out) hb)
                          have n1_ := Aside0.mk (blk_below (g := gb168) (o := .cells #[.int .i64 0, .int .i64 0] 23 (0, 0)) (by (with_reducible repeat (first | refine blk_drewN ?_ _ | refine blk_drew ?_ | refine blk_alloc ?_ _)); exact BK168.out) hb)
                          have n2_ := Aside0.mk (below_step (by repeat (first | (with_reducible first | exact HB.out | apply below_alloc | apply pw_below_drewN | apply below_drew1 | refine below_set ?_ GE167.out | refine below_set ?_ GE168.out) | exact HB.out)) hb)
                          clear BK167
                          clear BK168
                          clear HB
                          have BK167 := n0_
                          have BK168 := n1_
                          have HB := n2_
                          clear n0_ n1_ n2_
                          (try clear hb)
                          (try clear hb2)
                          (try clear hk)
                          (try clear hi)
                          refine hK.out _ _ ⟨((HB.out.cell (World.block_lt_of_cell? w _ hw169_0)).trans hw169_0), ((HB.out.cell (World.block_lt_of_cell? w _ hw169_1)).trans hw169_1), ((HB.out.cell (World.block_lt_of_cell? w _ hw172_0)).trans hw172_0), ((HB.out.cell (World.block_lt_of_cell? w _ hw172_1)).trans hw172_1)⟩ (fun hHeld => ?_)
                          clear hK K
                          refine norm_ (a' := ?_) ?_ ?_
                          rotate_left
                          · show Act.put _ (some 21) _ = _
                            simp only [Act.put, List.setIfInBounds_toArray, List.set_cons_zero, List.set_cons_succ, i64_w, i32_w]
                            rfl
                          exact norm_ (by first | (simp only [putAll, Act.put, List.setIfInBounds_toArray, List.set_cons_zero, List.set_cons_succ]; done) | (simp only [putAll, Act.put, List.setIfInBounds_toArray, List.set_cons_zero, List.set_cons_succ]; rfl)) (hJ3_7 () _ ⟨hHeld, (by (with_reducible repeat (first | refine blk_drewN ?_ _ | refine blk_drew ?_ | refine blk_alloc ?_ _)); exact BK167.out), (by (with_reducible repeat (first | refine blk_drewN ?_ _ | refine blk_drew ?_ | refine blk_alloc ?_ _)); exact BK168.out), (by repeat (first | (with_reducible first | exact HB.out | apply below_alloc | apply pw_below_drewN | apply below_drew1 | refine below_set ?_ GE167.out | refine below_set ?_ GE168.out) | exact HB.out))⟩)
                        · skip
                          refine box_step ?hg (N := 5) ?hd (cs := #[.int .i64 0, .int .i64 0]) (t := 23) ?hr ?_; (case hd => rfl); (case hg => rfl); (case hr => first | (go_simp; done) | (go_simp; rfl))
                          intro gb175 hg w16 hbox hb
                          have n0_ := Aside0.mk (blk_below (g := gb167) (o := .cells #[.int .i64 0, .int .i64 0] 23 (0, 0)) (by (with_reducible repeat (first | refine blk_drewN ?_ _ | refine blk_drew ?_ | refine blk_alloc ?_ _)); exact BK167.out) hb)
                          have n1_ := Aside0.mk (blk_below (g := gb168) (o := .cells #[.int .i64 0, .int .i64 0] 23 (0, 0)) (by (with_reducible repeat (first | refine blk_drewN ?_ _ | refine blk_drew ?_ | refine blk_alloc ?_ _)); exact BK168.out) hb)
                          have n2_ := Aside0.mk (below_step (by repeat (first | (with_reducible first | exact HB.out | apply below_alloc | apply pw_below_drewN | apply below_drew1 | refine below_set ?_ GE167.out | refine below_set ?_ GE168.out) | exact HB.out)) hb)
                          have n3_ := Aside0.mk (hbox)
                          have n4_ := Aside0.mk ((by rw [hg]; exact (below_size (by repeat (first | (with_reducible first | exact HB.out | apply below_alloc | apply pw_below_drewN | apply below_drew1 | refine below_set ?_ GE167.out | refine below_set ?_ GE168.out) | exact HB.out))) : w.heap.size ≤ gb175))
                          have n5_ := Aside0.mk ((by rw [hg]; exact (below_size (by repeat (first | (with_reducible first | exact HB.out | apply below_alloc | apply pw_below_drewN | apply below_drew1 | refine below_set ?_ GE167.out | refine below_set ?_ GE168.out) | exact HB.out))) : w.heap.size ≤ gb175))
                          have n6_ := Aside0.mk ((by rw [hg]; exact Nat.ne_of_lt (blk_lt (g := gb167) (o := .cells #[.int .i64 0, .int .i64 0] 23 (0, 0)) (by (with_reducible repeat (first | refine blk_drewN ?_ _ | refine blk_drew ?_ | refine blk_alloc ?_ _)); exact BK167.out)) : gb167 ≠ gb175))
                          have n7_ := Aside0.mk ((by rw [hg]; exact Nat.ne_of_gt (blk_lt (g := gb167) (o := .cells #[.int .i64 0, .int .i64 0] 23 (0, 0)) (by (with_reducible repeat (first | refine blk_drewN ?_ _ | refine blk_drew ?_ | refine blk_alloc ?_ _)); exact BK167.out)) : gb175 ≠ gb167))
                          have n8_ := Aside0.mk ((by rw [hg]; exact Nat.ne_of_lt (blk_lt (g := gb168) (o := .cells #[.int .i64 0, .int .i64 0] 23 (0, 0)) (by (with_reducible repeat (first | refine blk_drewN ?_ _ | refine blk_drew ?_ | refine blk_alloc ?_ _)); exact BK168.out)) : gb168 ≠ gb175))
                          have n9_ := Aside0.mk ((by rw [hg]; exact Nat.ne_of_gt (blk_lt (g := gb168) (o := .cells #[.int .i64 0, .int .i64 0] 23 (0, 0)) (by (with_reducible repeat (first | refine blk_drewN ?_ _ | refine blk_drew ?_ | refine blk_alloc ?_ _)); exact BK168.out)) : gb175 ≠ gb168))
                          clear BK167
                          clear BK168
                          clear HB
                          have BK167 := n0_
                          have BK168 := n1_
                          have HB := n2_
                          have BK175 := n3_
                          have GW175 := n4_
                          have GE175 := n5_
                          have NB167_175 := n6_
                          have NB175_167 := n7_
                          have NB168_175 := n8_
                          have NB175_168 := n9_
                          clear n0_ n1_ n2_ n3_ n4_ n5_ n6_ n7_ n8_ n9_
                          clear hb hbox hg
                          refine hK.out _ _ ⟨((HB.out.cell (World.block_lt_of_cell? w _ hw169_0)).trans hw169_0), ((HB.out.cell (World.block_lt_of_cell? w _ hw169_1)).trans hw169_1), ((HB.out.cell (World.block_lt_of_cell? w _ hw172_0)).trans hw172_0), ((HB.out.cell (World.block_lt_of_cell? w _ hw172_1)).trans hw172_1)⟩ (fun hHeld => ?_)
                          clear hK K
                          refine norm_ (a' := ?_) ?_ ?_
                          rotate_left
                          · show Act.put _ (some 5) _ = _
                            simp only [Act.put, List.setIfInBounds_toArray, List.set_cons_zero, List.set_cons_succ, i64_w, i32_w]
                            rfl
                          exact norm_ (by first | (simp only [putAll, Act.put, List.setIfInBounds_toArray, List.set_cons_zero, List.set_cons_succ]; done) | (simp only [putAll, Act.put, List.setIfInBounds_toArray, List.set_cons_zero, List.set_cons_succ]; rfl)) (hJ3_8 (gb175) _ ⟨hHeld, (by (with_reducible repeat (first | refine blk_drewN ?_ _ | refine blk_drew ?_ | refine blk_alloc ?_ _)); exact BK167.out), (by (with_reducible repeat (first | refine blk_drewN ?_ _ | refine blk_drew ?_ | refine blk_alloc ?_ _)); exact BK168.out), (by (with_reducible repeat (first | refine blk_drewN ?_ _ | refine blk_drew ?_ | refine blk_alloc ?_ _)); exact BK175.out), GW175.out, GE175.out, NB167_175.out, NB175_167.out, NB168_175.out, NB175_168.out, (by repeat (first | (with_reducible first | exact HB.out | apply below_alloc | apply pw_below_drewN | apply below_drew1 | refine below_set ?_ GE167.out | refine below_set ?_ GE168.out | refine below_set ?_ GE175.out) | exact HB.out))⟩)
                        · skip
                          refine box_step ?hg (N := 6) ?hd (cs := #[.int .i64 0, .int .i64 0]) (t := 23) ?hr ?_; (case hd => rfl); (case hg => rfl); (case hr => first | (go_simp; done) | (go_simp; rfl))
                          intro gb176 hg w16 hbox hb
                          have n0_ := Aside0.mk (blk_below (g := gb167) (o := .cells #[.int .i64 0, .int .i64 0] 23 (0, 0)) (by (with_reducible repeat (first | refine blk_drewN ?_ _ | refine blk_drew ?_ | refine blk_alloc ?_ _)); exact BK167.out) hb)
                          have n1_ := Aside0.mk (blk_below (g := gb168) (o := .cells #[.int .i64 0, .int .i64 0] 23 (0, 0)) (by (with_reducible repeat (first | refine blk_drewN ?_ _ | refine blk_drew ?_ | refine blk_alloc ?_ _)); exact BK168.out) hb)
                          have n2_ := Aside0.mk (below_step (by repeat (first | (with_reducible first | exact HB.out | apply below_alloc | apply pw_below_drewN | apply below_drew1 | refine below_set ?_ GE167.out | refine below_set ?_ GE168.out) | exact HB.out)) hb)
                          have n3_ := Aside0.mk (hbox)
                          have n4_ := Aside0.mk ((by rw [hg]; exact (below_size (by repeat (first | (with_reducible first | exact HB.out | apply below_alloc | apply pw_below_drewN | apply below_drew1 | refine below_set ?_ GE167.out | refine below_set ?_ GE168.out) | exact HB.out))) : w.heap.size ≤ gb176))
                          have n5_ := Aside0.mk ((by rw [hg]; exact (below_size (by repeat (first | (with_reducible first | exact HB.out | apply below_alloc | apply pw_below_drewN | apply below_drew1 | refine below_set ?_ GE167.out | refine below_set ?_ GE168.out) | exact HB.out))) : w.heap.size ≤ gb176))
                          have n6_ := Aside0.mk ((by rw [hg]; exact Nat.ne_of_lt (blk_lt (g := gb167) (o := .cells #[.int .i64 0, .int .i64 0] 23 (0, 0)) (by (with_reducible repeat (first | refine blk_drewN ?_ _ | refine blk_drew ?_ | refine blk_alloc ?_ _)); exact BK167.out)) : gb167 ≠ gb176))
                          have n7_ := Aside0.mk ((by rw [hg]; exact Nat.ne_of_gt (blk_lt (g := gb167) (o := .cells #[.int .i64 0, .int .i64 0] 23 (0, 0)) (by (with_reducible repeat (first | refine blk_drewN ?_ _ | refine blk_drew ?_ | refine blk_alloc ?_ _)); exact BK167.out)) : gb176 ≠ gb167))
                          have n8_ := Aside0.mk ((by rw [hg]; exact Nat.ne_of_lt (blk_lt (g := gb168) (o := .cells #[.int .i64 0, .int .i64 0] 23 (0, 0)) (by (with_reducible repeat (first | refine blk_drewN ?_ _ | refine blk_drew ?_ | refine blk_alloc ?_ _)); exact BK168.out)) : gb168 ≠ gb176))
                          have n9_ := Aside0.mk ((by rw [hg]; exact Nat.ne_of_gt (blk_lt (g := gb168) (o := .cells #[.int .i64 0, .int .i64 0] 23 (0, 0)) (by (with_reducible repeat (first | refine blk_drewN ?_ _ | refine blk_drew ?_ | refine blk_alloc ?_ _)); exact BK168.out)) : gb176 ≠ gb168))
                          clear BK167
                          clear BK168
                          clear HB
                          have BK167 := n0_
                          have BK168 := n1_
                          have HB := n2_
                          have BK176 := n3_
                          have GW176 := n4_
                          have GE176 := n5_
                          have NB167_176 := n6_
                          have NB176_167 := n7_
                          have NB168_176 := n8_
                          have NB176_168 := n9_
                          clear n0_ n1_ n2_ n3_ n4_ n5_ n6_ n7_ n8_ n9_
                          clear hb hbox hg
                          refine hK.out _ _ ⟨((HB.out.cell (World.block_lt_of_cell? w _ hw169_0)).trans hw169_0), ((HB.out.cell (World.block_lt_of_cell? w _ hw169_1)).trans hw169_1), ((HB.out.cell (World.block_lt_of_cell? w _ hw172_0)).trans hw172_0), ((HB.out.cell (World.block_lt_of_cell? w _ hw172_1)).trans hw172_1)⟩ (fun hHeld => ?_)
                          clear hK K
                          refine norm_ (a' := ?_) ?_ ?_
                          rotate_left
                          · show Act.put _ (some 6) _ = _
                            simp only [Act.put, List.setIfInBounds_toArray, List.set_cons_zero, List.set_cons_succ, i64_w, i32_w]
                            rfl
                          exact norm_ (by first | (simp only [putAll, Act.put, List.setIfInBounds_toArray, List.set_cons_zero, List.set_cons_succ]; done) | (simp only [putAll, Act.put, List.setIfInBounds_toArray, List.set_cons_zero, List.set_cons_succ]; rfl)) (hJ3_9 (gb176) _ ⟨hHeld, (by (with_reducible repeat (first | refine blk_drewN ?_ _ | refine blk_drew ?_ | refine blk_alloc ?_ _)); exact BK167.out), (by (with_reducible repeat (first | refine blk_drewN ?_ _ | refine blk_drew ?_ | refine blk_alloc ?_ _)); exact BK168.out), (by (with_reducible repeat (first | refine blk_drewN ?_ _ | refine blk_drew ?_ | refine blk_alloc ?_ _)); exact BK176.out), GW176.out, GE176.out, NB167_176.out, NB176_167.out, NB168_176.out, NB176_168.out, (by repeat (first | (with_reducible first | exact HB.out | apply below_alloc | apply pw_below_drewN | apply below_drew1 | refine below_set ?_ GE167.out | refine below_set ?_ GE168.out | refine below_set ?_ GE176.out) | exact HB.out))⟩)
                    · skip
                      rintro ⟨gb175, gb176⟩ w16 ⟨hS_, h0_, h1_, h2_, h3_, h4_, h5_, h6_, h7_, h8_, h9_, h10_, h11_, h12_, h13_, h14_, h15_, h16_, h17_, h18_⟩
                      have n0_ : Aside0 (w16.heap[gb167]? = some (.cells #[.int .i64 0, .int .i64 0] 23 (0, 0))) := ⟨h0_⟩
                      have n1_ : Aside0 (w16.heap[gb168]? = some (.cells #[.int .i64 0, .int .i64 0] 23 (0, 0))) := ⟨h1_⟩
                      have n2_ : Aside0 (w16.heap[gb175]? = some (.cells #[.int .i64 0, .int .i64 0] 23 (0, 0))) := ⟨h2_⟩
                      have n3_ : Aside0 (w16.heap[gb176]? = some (.cells #[.int .i64 0, .int .i64 0] 23 (0, 0))) := ⟨h3_⟩
                      have n4_ : Aside0 (w.heap.size ≤ gb175) := ⟨h4_⟩
                      have n5_ : Aside0 (w.heap.size ≤ gb175) := ⟨h5_⟩
                      have n6_ : Aside0 (gb167 ≠ gb175) := ⟨h6_⟩
                      have n7_ : Aside0 (gb175 ≠ gb167) := ⟨h7_⟩
                      have n8_ : Aside0 (gb168 ≠ gb175) := ⟨h8_⟩
                      have n9_ : Aside0 (gb175 ≠ gb168) := ⟨h9_⟩
                      have n10_ : Aside0 (gb176 ≠ gb175) := ⟨h10_⟩
                      have n11_ : Aside0 (gb175 ≠ gb176) := ⟨h11_⟩
                      have n12_ : Aside0 (w.heap.size ≤ gb176) := ⟨h12_⟩
                      have n13_ : Aside0 (w.heap.size ≤ gb176) := ⟨h13_⟩
                      have n14_ : Aside0 (gb167 ≠ gb176) := ⟨h14_⟩
                      have n15_ : Aside0 (gb176 ≠ gb167) := ⟨h15_⟩
                      have n16_ : Aside0 (gb168 ≠ gb176) := ⟨h16_⟩
                      have n17_ : Aside0 (gb176 ≠ gb168) := ⟨h17_⟩
                      have n18_ : Aside0 (Below w.heap.size w w16) := ⟨h18_⟩
                      clear BK167
                      clear BK168
                      clear HB
                      clear h0_ h1_ h2_ h3_ h4_ h5_ h6_ h7_ h8_ h9_ h10_ h11_ h12_ h13_ h14_ h15_ h16_ h17_ h18_
                      have BK167 := n0_
                      have BK168 := n1_
                      have BK175 := n2_
                      have BK176 := n3_
                      have GW175 := n4_
                      have GE175 := n5_
                      have NB167_175 := n6_
                      have NB175_167 := n7_
                      have NB168_175 := n8_
                      have NB175_168 := n9_
                      have NB176_175 := n10_
                      have NB175_176 := n11_
                      have GW176 := n12_
                      have GE176 := n13_
                      have NB167_176 := n14_
                      have NB176_167 := n15_
                      have NB168_176 := n16_
                      have NB176_168 := n17_
                      have HB := n18_
                      clear n0_ n1_ n2_ n3_ n4_ n5_ n6_ n7_ n8_ n9_ n10_ n11_ n12_ n13_ n14_ n15_ n16_ n17_ n18_
                      have hHeld : w16.cell? ad169 = some (.int .i64 ((rd_T23 l0 0).f0)) ∧ w16.cell? ⟨ad169.block, ad169.off + 1, none⟩ = some (.int .i64 ((rd_T23 l0 0).f1)) ∧ w16.cell? ad169 = some (.int .i64 ((rd_T23 l0 0).f0)) ∧ w16.cell? ⟨ad169.block, ad169.off + 1, none⟩ = some (.int .i64 ((rd_T23 l0 0).f1)) := hS_
                      refine norm_ (a' := ?_) ?_ ?_
                      rotate_left
                      · simp only [putAll, Act.put, List.setIfInBounds_toArray, List.set_cons_zero, List.set_cons_succ]
                        rfl
                      refine one_ (i := 3) (N := some 17) #[true, true, true, true, true, true, true, false, true, true, false, false] rfl rfl (one_of HT_.out (by kernel_rfl)) (by decide) (fun K hK => ?_)
                      refine goes_ Try.func30 (by kernel_rfl) rfl #[.agg #[.int .i64 ((rd_T23 l0 0).f0), .int .i64 ((rd_T23 l0 0).f1)]] (by rfl) rfl rfl (by (try simp only [List.map_toArray, List.map_cons, List.map_nil]); first | done | rfl | (simp only [List.length_drop, List.length_take]; rfl)) ?_
                      with_reducible refine (terrierref9_Clean.calls ((rd_T23 l0 0).f0) ((rd_T23 l0 0).f1) t170 t171 _ A9.out).mono ?_
                      rintro e w17 ⟨rfl, hb⟩
                      refine ⟨_, rfl, ?_⟩
                      have n0_ := Aside0.mk (blk_below (g := gb167) (o := .cells #[.int .i64 0, .int .i64 0] 23 (0, 0)) (by (with_reducible repeat (first | refine blk_drewN ?_ _ | refine blk_drew ?_ | refine blk_alloc ?_ _)); exact BK167.out) hb)
                      have n1_ := Aside0.mk (blk_below (g := gb168) (o := .cells #[.int .i64 0, .int .i64 0] 23 (0, 0)) (by (with_reducible repeat (first | refine blk_drewN ?_ _ | refine blk_drew ?_ | refine blk_alloc ?_ _)); exact BK168.out) hb)
                      have n2_ := Aside0.mk (blk_below (g := gb175) (o := .cells #[.int .i64 0, .int .i64 0] 23 (0, 0)) (by (with_reducible repeat (first | refine blk_drewN ?_ _ | refine blk_drew ?_ | refine blk_alloc ?_ _)); exact BK175.out) hb)
                      have n3_ := Aside0.mk (blk_below (g := gb176) (o := .cells #[.int .i64 0, .int .i64 0] 23 (0, 0)) (by (with_reducible repeat (first | refine blk_drewN ?_ _ | refine blk_drew ?_ | refine blk_alloc ?_ _)); exact BK176.out) hb)
                      have n4_ := Aside0.mk (below_step (by repeat (first | (with_reducible first | exact HB.out | apply below_alloc | apply pw_below_drewN | apply below_drew1 | refine below_set ?_ GE167.out | refine below_set ?_ GE168.out | refine below_set ?_ GE175.out | refine below_set ?_ GE176.out) | exact HB.out)) hb)
                      clear BK167
                      clear BK168
                      clear BK175
                      clear BK176
                      clear HB
                      have BK167 := n0_
                      have BK168 := n1_
                      have BK175 := n2_
                      have BK176 := n3_
                      have HB := n4_
                      clear n0_ n1_ n2_ n3_ n4_
                      (try clear hb)
                      (try clear hb2)
                      (try clear hk)
                      (try clear hi)
                      refine hK.out _ _ ⟨((HB.out.cell (World.block_lt_of_cell? w _ hw169_0)).trans hw169_0), ((HB.out.cell (World.block_lt_of_cell? w _ hw169_1)).trans hw169_1), ((HB.out.cell (World.block_lt_of_cell? w _ hw172_0)).trans hw172_0), ((HB.out.cell (World.block_lt_of_cell? w _ hw172_1)).trans hw172_1)⟩ (fun hHeld => ?_)
                      clear hK K
                      refine norm_ (a' := ?_) ?_ ?_
                      rotate_left
                      · show Act.put _ (some 17) _ = _
                        simp only [Act.put, List.setIfInBounds_toArray, List.set_cons_zero, List.set_cons_succ, i64_w, i32_w]
                        rfl
                      exact norm_ (by first | (simp only [putAll, Act.put, List.setIfInBounds_toArray, List.set_cons_zero, List.set_cons_succ]; done) | (simp only [putAll, Act.put, List.setIfInBounds_toArray, List.set_cons_zero, List.set_cons_succ]; rfl)) (hJ3_8_9 (gb175, gb176) _ ⟨hHeld, (by (with_reducible repeat (first | refine blk_drewN ?_ _ | refine blk_drew ?_ | refine blk_alloc ?_ _)); exact BK167.out), (by (with_reducible repeat (first | refine blk_drewN ?_ _ | refine blk_drew ?_ | refine blk_alloc ?_ _)); exact BK168.out), (by (with_reducible repeat (first | refine blk_drewN ?_ _ | refine blk_drew ?_ | refine blk_alloc ?_ _)); exact BK175.out), (by (with_reducible repeat (first | refine blk_drewN ?_ _ | refine blk_drew ?_ | refine blk_alloc ?_ _)); exact BK176.out), GW175.out, GE175.out, NB167_175.out, NB175_167.out, NB168_175.out, NB175_168.out, NB176_175.out, NB175_176.out, GW176.out, GE176.out, NB167_176.out, NB176_167.out, NB168_176.out, NB176_168.out, (by repeat (first | (with_reducible first | exact HB.out | apply below_alloc | apply pw_below_drewN | apply below_drew1 | refine below_set ?_ GE167.out | refine below_set ?_ GE168.out | refine below_set ?_ GE175.out | refine below_set ?_ GE176.out) | exact HB.out))⟩)
                  · skip
                    rintro gb176 w16 ⟨hS_, h0_, h1_, h2_, h3_, h4_, h5_, h6_, h7_, h8_, h9_⟩
                    have n0_ : Aside0 (w16.heap[gb167]? = some (.cells #[.int .i64 0, .int .i64 0] 23 (0, 0))) := ⟨h0_⟩
                    have n1_ : Aside0 (w16.heap[gb168]? = some (.cells #[.int .i64 0, .int .i64 0] 23 (0, 0))) := ⟨h1_⟩
                    have n2_ : Aside0 (w16.heap[gb176]? = some (.cells #[.int .i64 0, .int .i64 0] 23 (0, 0))) := ⟨h2_⟩
                    have n3_ : Aside0 (w.heap.size ≤ gb176) := ⟨h3_⟩
                    have n4_ : Aside0 (w.heap.size ≤ gb176) := ⟨h4_⟩
                    have n5_ : Aside0 (gb167 ≠ gb176) := ⟨h5_⟩
                    have n6_ : Aside0 (gb176 ≠ gb167) := ⟨h6_⟩
                    have n7_ : Aside0 (gb168 ≠ gb176) := ⟨h7_⟩
                    have n8_ : Aside0 (gb176 ≠ gb168) := ⟨h8_⟩
                    have n9_ : Aside0 (Below w.heap.size w w16) := ⟨h9_⟩
                    clear BK167
                    clear BK168
                    clear HB
                    clear h0_ h1_ h2_ h3_ h4_ h5_ h6_ h7_ h8_ h9_
                    have BK167 := n0_
                    have BK168 := n1_
                    have BK176 := n2_
                    have GW176 := n3_
                    have GE176 := n4_
                    have NB167_176 := n5_
                    have NB176_167 := n6_
                    have NB168_176 := n7_
                    have NB176_168 := n8_
                    have HB := n9_
                    clear n0_ n1_ n2_ n3_ n4_ n5_ n6_ n7_ n8_ n9_
                    have hHeld : w16.cell? ad169 = some (.int .i64 ((rd_T23 l0 0).f0)) ∧ w16.cell? ⟨ad169.block, ad169.off + 1, none⟩ = some (.int .i64 ((rd_T23 l0 0).f1)) ∧ w16.cell? ad169 = some (.int .i64 ((rd_T23 l0 0).f0)) ∧ w16.cell? ⟨ad169.block, ad169.off + 1, none⟩ = some (.int .i64 ((rd_T23 l0 0).f1)) := hS_
                    refine norm_ (a' := ?_) ?_ ?_
                    rotate_left
                    · simp only [putAll, Act.put, List.setIfInBounds_toArray, List.set_cons_zero, List.set_cons_succ]
                      rfl
                    refine two_ (i := 7) (j := 8) (Ni := some 21) (Nj := some 5) #[true, true, true, true, true, true, true, true, false, true, false, false] #[true, true, true, true, true, true, true, false, true, true, false, false] rfl rfl rfl rfl (two_of HT_.out (by kernel_rfl)) (by decide) (by decide) (fun K hK => ?_) (fun K hK => ?_)
                    · skip
                      refine goes_ Try.func30 (by kernel_rfl) rfl #[.agg #[.int .i64 ((rd_T23 l0 0).f0), .int .i64 ((rd_T23 l0 0).f1)]] (by rfl) rfl rfl (by (try simp only [List.map_toArray, List.map_cons, List.map_nil]); first | done | rfl | (simp only [List.length_drop, List.length_take]; rfl)) ?_
                      with_reducible refine (terrierref9_Clean.calls ((rd_T23 l0 0).f0) ((rd_T23 l0 0).f1) t173 t174 _ A10.out).mono ?_
                      rintro e w17 ⟨rfl, hb⟩
                      refine ⟨_, rfl, ?_⟩
                      have n0_ := Aside0.mk (blk_below (g := gb167) (o := .cells #[.int .i64 0, .int .i64 0] 23 (0, 0)) (by (with_reducible repeat (first | refine blk_drewN ?_ _ | refine blk_drew ?_ | refine blk_alloc ?_ _)); exact BK167.out) hb)
                      have n1_ := Aside0.mk (blk_below (g := gb168) (o := .cells #[.int .i64 0, .int .i64 0] 23 (0, 0)) (by (with_reducible repeat (first | refine blk_drewN ?_ _ | refine blk_drew ?_ | refine blk_alloc ?_ _)); exact BK168.out) hb)
                      have n2_ := Aside0.mk (blk_below (g := gb176) (o := .cells #[.int .i64 0, .int .i64 0] 23 (0, 0)) (by (with_reducible repeat (first | refine blk_drewN ?_ _ | refine blk_drew ?_ | refine blk_alloc ?_ _)); exact BK176.out) hb)
                      have n3_ := Aside0.mk (below_step (by repeat (first | (with_reducible first | exact HB.out | apply below_alloc | apply pw_below_drewN | apply below_drew1 | refine below_set ?_ GE167.out | refine below_set ?_ GE168.out | refine below_set ?_ GE176.out) | exact HB.out)) hb)
                      clear BK167
                      clear BK168
                      clear BK176
                      clear HB
                      have BK167 := n0_
                      have BK168 := n1_
                      have BK176 := n2_
                      have HB := n3_
                      clear n0_ n1_ n2_ n3_
                      (try clear hb)
                      (try clear hb2)
                      (try clear hk)
                      (try clear hi)
                      refine hK.out _ _ ⟨((HB.out.cell (World.block_lt_of_cell? w _ hw169_0)).trans hw169_0), ((HB.out.cell (World.block_lt_of_cell? w _ hw169_1)).trans hw169_1), ((HB.out.cell (World.block_lt_of_cell? w _ hw172_0)).trans hw172_0), ((HB.out.cell (World.block_lt_of_cell? w _ hw172_1)).trans hw172_1)⟩ (fun hHeld => ?_)
                      clear hK K
                      refine norm_ (a' := ?_) ?_ ?_
                      rotate_left
                      · show Act.put _ (some 21) _ = _
                        simp only [Act.put, List.setIfInBounds_toArray, List.set_cons_zero, List.set_cons_succ, i64_w, i32_w]
                        rfl
                      exact norm_ (by first | (simp only [putAll, Act.put, List.setIfInBounds_toArray, List.set_cons_zero, List.set_cons_succ]; done) | (simp only [putAll, Act.put, List.setIfInBounds_toArray, List.set_cons_zero, List.set_cons_succ]; rfl)) (hJ3_7_9 (gb176) _ ⟨hHeld, (by (with_reducible repeat (first | refine blk_drewN ?_ _ | refine blk_drew ?_ | refine blk_alloc ?_ _)); exact BK167.out), (by (with_reducible repeat (first | refine blk_drewN ?_ _ | refine blk_drew ?_ | refine blk_alloc ?_ _)); exact BK168.out), (by (with_reducible repeat (first | refine blk_drewN ?_ _ | refine blk_drew ?_ | refine blk_alloc ?_ _)); exact BK176.out), GW176.out, GE176.out, NB167_176.out, NB176_167.out, NB168_176.out, NB176_168.out, (by repeat (first | (with_reducible first | exact HB.out | apply below_alloc | apply pw_below_drewN | apply below_drew1 | refine below_set ?_ GE167.out | refine below_set ?_ GE168.out | refine below_set ?_ GE176.out) | exact HB.out))⟩)
                    · skip
                      refine box_step ?hg (N := 5) ?hd (cs := #[.int .i64 0, .int .i64 0]) (t := 23) ?hr ?_; (case hd => rfl); (case hg => rfl); (case hr => first | (go_simp; done) | (go_simp; rfl))
                      intro gb175 hg w17 hbox hb
                      have n0_ := Aside0.mk (blk_below (g := gb167) (o := .cells #[.int .i64 0, .int .i64 0] 23 (0, 0)) (by (with_reducible repeat (first | refine blk_drewN ?_ _ | refine blk_drew ?_ | refine blk_alloc ?_ _)); exact BK167.out) hb)
                      have n1_ := Aside0.mk (blk_below (g := gb168) (o := .cells #[.int .i64 0, .int .i64 0] 23 (0, 0)) (by (with_reducible repeat (first | refine blk_drewN ?_ _ | refine blk_drew ?_ | refine blk_alloc ?_ _)); exact BK168.out) hb)
                      have n2_ := Aside0.mk (blk_below (g := gb176) (o := .cells #[.int .i64 0, .int .i64 0] 23 (0, 0)) (by (with_reducible repeat (first | refine blk_drewN ?_ _ | refine blk_drew ?_ | refine blk_alloc ?_ _)); exact BK176.out) hb)
                      have n3_ := Aside0.mk (below_step (by repeat (first | (with_reducible first | exact HB.out | apply below_alloc | apply pw_below_drewN | apply below_drew1 | refine below_set ?_ GE167.out | refine below_set ?_ GE168.out | refine below_set ?_ GE176.out) | exact HB.out)) hb)
                      have n4_ := Aside0.mk (hbox)
                      have n5_ := Aside0.mk ((by rw [hg]; exact (below_size (by repeat (first | (with_reducible first | exact HB.out | apply below_alloc | apply pw_below_drewN | apply below_drew1 | refine below_set ?_ GE167.out | refine below_set ?_ GE168.out | refine below_set ?_ GE176.out) | exact HB.out))) : w.heap.size ≤ gb175))
                      have n6_ := Aside0.mk ((by rw [hg]; exact (below_size (by repeat (first | (with_reducible first | exact HB.out | apply below_alloc | apply pw_below_drewN | apply below_drew1 | refine below_set ?_ GE167.out | refine below_set ?_ GE168.out | refine below_set ?_ GE176.out) | exact HB.out))) : w.heap.size ≤ gb175))
                      have n7_ := Aside0.mk ((by rw [hg]; exact Nat.ne_of_lt (blk_lt (g := gb167) (o := .cells #[.int .i64 0, .int .i64 0] 23 (0, 0)) (by (with_reducible repeat (first | refine blk_drewN ?_ _ | refine blk_drew ?_ | refine blk_alloc ?_ _)); exact BK167.out)) : gb167 ≠ gb175))
                      have n8_ := Aside0.mk ((by rw [hg]; exact Nat.ne_of_gt (blk_lt (g := gb167) (o := .cells #[.int .i64 0, .int .i64 0] 23 (0, 0)) (by (with_reducible repeat (first | refine blk_drewN ?_ _ | refine blk_drew ?_ | refine blk_alloc ?_ _)); exact BK167.out)) : gb175 ≠ gb167))
                      have n9_ := Aside0.mk ((by rw [hg]; exact Nat.ne_of_lt (blk_lt (g := gb168) (o := .cells #[.int .i64 0, .int .i64 0] 23 (0, 0)) (by (with_reducible repeat (first | refine blk_drewN ?_ _ | refine blk_drew ?_ | refine blk_alloc ?_ _)); exact BK168.out)) : gb168 ≠ gb175))
                      have n10_ := Aside0.mk ((by rw [hg]; exact Nat.ne_of_gt (blk_lt (g := gb168) (o := .cells #[.int .i64 0, .int .i64 0] 23 (0, 0)) (by (with_reducible repeat (first | refine blk_drewN ?_ _ | refine blk_drew ?_ | refine blk_alloc ?_ _)); exact BK168.out)) : gb175 ≠ gb168))
                      have n11_ := Aside0.mk ((by rw [hg]; exact Nat.ne_of_lt (blk_lt (g := gb176) (o := .cells #[.int .i64 0, .int .i64 0] 23 (0, 0)) (by (with_reducible repeat (first | refine blk_drewN ?_ _ | refine blk_drew ?_ | refine blk_alloc ?_ _)); exact BK176.out)) : gb176 ≠ gb175))
                      have n12_ := Aside0.mk ((by rw [hg]; exact Nat.ne_of_gt (blk_lt (g := gb176) (o := .cells #[.int .i64 0, .int .i64 0] 23 (0, 0)) (by (with_reducible repeat (first | refine blk_drewN ?_ _ | refine blk_drew ?_ | refine blk_alloc ?_ _)); exact BK176.out)) : gb175 ≠ gb176))
                      clear BK167
                      clear BK168
                      clear BK176
                      clear HB
                      have BK167 := n0_
                      have BK168 := n1_
                      have BK176 := n2_
                      have HB := n3_
                      have BK175 := n4_
                      have GW175 := n5_
                      have GE175 := n6_
                      have NB167_175 := n7_
                      have NB175_167 := n8_
                      have NB168_175 := n9_
                      have NB175_168 := n10_
                      have NB176_175 := n11_
                      have NB175_176 := n12_
                      clear n0_ n1_ n2_ n3_ n4_ n5_ n6_ n7_ n8_ n9_ n10_ n11_ n12_
                      clear hb hbox hg
                      refine hK.out _ _ ⟨((HB.out.cell (World.block_lt_of_cell? w _ hw169_0)).trans hw169_0), ((HB.out.cell (World.block_lt_of_cell? w _ hw169_1)).trans hw169_1), ((HB.out.cell (World.block_lt_of_cell? w _ hw172_0)).trans hw172_0), ((HB.out.cell (World.block_lt_of_cell? w _ hw172_1)).trans hw172_1)⟩ (fun hHeld => ?_)
                      clear hK K
                      refine norm_ (a' := ?_) ?_ ?_
                      rotate_left
                      · show Act.put _ (some 5) _ = _
                        simp only [Act.put, List.setIfInBounds_toArray, List.set_cons_zero, List.set_cons_succ, i64_w, i32_w]
                        rfl
                      exact norm_ (by first | (simp only [putAll, Act.put, List.setIfInBounds_toArray, List.set_cons_zero, List.set_cons_succ]; done) | (simp only [putAll, Act.put, List.setIfInBounds_toArray, List.set_cons_zero, List.set_cons_succ]; rfl)) (hJ3_8_9 (gb175, gb176) _ ⟨hHeld, (by (with_reducible repeat (first | refine blk_drewN ?_ _ | refine blk_drew ?_ | refine blk_alloc ?_ _)); exact BK167.out), (by (with_reducible repeat (first | refine blk_drewN ?_ _ | refine blk_drew ?_ | refine blk_alloc ?_ _)); exact BK168.out), (by (with_reducible repeat (first | refine blk_drewN ?_ _ | refine blk_drew ?_ | refine blk_alloc ?_ _)); exact BK175.out), (by (with_reducible repeat (first | refine blk_drewN ?_ _ | refine blk_drew ?_ | refine blk_alloc ?_ _)); exact BK176.out), GW175.out, GE175.out, NB167_175.out, NB175_167.out, NB168_175.out, NB175_168.out, NB176_175.out, NB175_176.out, GW176.out, GE176.out, NB167_176.out, NB176_167.out, NB168_176.out, NB176_168.out, (by repeat (first | (with_reducible first | exact HB.out | apply below_alloc | apply pw_below_drewN | apply below_drew1 | refine below_set ?_ GE167.out | refine below_set ?_ GE168.out | refine below_set ?_ GE176.out | refine below_set ?_ GE175.out) | exact HB.out))⟩)
                · skip
                  rintro gb175 w16 ⟨hS_, h0_, h1_, h2_, h3_, h4_, h5_, h6_, h7_, h8_, h9_⟩
                  have n0_ : Aside0 (w16.heap[gb167]? = some (.cells #[.int .i64 0, .int .i64 0] 23 (0, 0))) := ⟨h0_⟩
                  have n1_ : Aside0 (w16.heap[gb168]? = some (.cells #[.int .i64 0, .int .i64 0] 23 (0, 0))) := ⟨h1_⟩
                  have n2_ : Aside0 (w16.heap[gb175]? = some (.cells #[.int .i64 0, .int .i64 0] 23 (0, 0))) := ⟨h2_⟩
                  have n3_ : Aside0 (w.heap.size ≤ gb175) := ⟨h3_⟩
                  have n4_ : Aside0 (w.heap.size ≤ gb175) := ⟨h4_⟩
                  have n5_ : Aside0 (gb167 ≠ gb175) := ⟨h5_⟩
                  have n6_ : Aside0 (gb175 ≠ gb167) := ⟨h6_⟩
                  have n7_ : Aside0 (gb168 ≠ gb175) := ⟨h7_⟩
                  have n8_ : Aside0 (gb175 ≠ gb168) := ⟨h8_⟩
                  have n9_ : Aside0 (Below w.heap.size w w16) := ⟨h9_⟩
                  clear BK167
                  clear BK168
                  clear HB
                  clear h0_ h1_ h2_ h3_ h4_ h5_ h6_ h7_ h8_ h9_
                  have BK167 := n0_
                  have BK168 := n1_
                  have BK175 := n2_
                  have GW175 := n3_
                  have GE175 := n4_
                  have NB167_175 := n5_
                  have NB175_167 := n6_
                  have NB168_175 := n7_
                  have NB175_168 := n8_
                  have HB := n9_
                  clear n0_ n1_ n2_ n3_ n4_ n5_ n6_ n7_ n8_ n9_
                  have hHeld : w16.cell? ad169 = some (.int .i64 ((rd_T23 l0 0).f0)) ∧ w16.cell? ⟨ad169.block, ad169.off + 1, none⟩ = some (.int .i64 ((rd_T23 l0 0).f1)) ∧ w16.cell? ad169 = some (.int .i64 ((rd_T23 l0 0).f0)) ∧ w16.cell? ⟨ad169.block, ad169.off + 1, none⟩ = some (.int .i64 ((rd_T23 l0 0).f1)) := hS_
                  refine norm_ (a' := ?_) ?_ ?_
                  rotate_left
                  · simp only [putAll, Act.put, List.setIfInBounds_toArray, List.set_cons_zero, List.set_cons_succ]
                    rfl
                  refine two_ (i := 7) (j := 9) (Ni := some 21) (Nj := some 6) #[true, true, true, true, true, true, true, true, true, false, false, false] #[true, true, true, true, true, true, true, false, true, true, false, false] rfl rfl rfl rfl (two_of HT_.out (by kernel_rfl)) (by decide) (by decide) (fun K hK => ?_) (fun K hK => ?_)
                  · skip
                    refine goes_ Try.func30 (by kernel_rfl) rfl #[.agg #[.int .i64 ((rd_T23 l0 0).f0), .int .i64 ((rd_T23 l0 0).f1)]] (by rfl) rfl rfl (by (try simp only [List.map_toArray, List.map_cons, List.map_nil]); first | done | rfl | (simp only [List.length_drop, List.length_take]; rfl)) ?_
                    with_reducible refine (terrierref9_Clean.calls ((rd_T23 l0 0).f0) ((rd_T23 l0 0).f1) t173 t174 _ A10.out).mono ?_
                    rintro e w17 ⟨rfl, hb⟩
                    refine ⟨_, rfl, ?_⟩
                    have n0_ := Aside0.mk (blk_below (g := gb167) (o := .cells #[.int .i64 0, .int .i64 0] 23 (0, 0)) (by (with_reducible repeat (first | refine blk_drewN ?_ _ | refine blk_drew ?_ | refine blk_alloc ?_ _)); exact BK167.out) hb)
                    have n1_ := Aside0.mk (blk_below (g := gb168) (o := .cells #[.int .i64 0, .int .i64 0] 23 (0, 0)) (by (with_reducible repeat (first | refine blk_drewN ?_ _ | refine blk_drew ?_ | refine blk_alloc ?_ _)); exact BK168.out) hb)
                    have n2_ := Aside0.mk (blk_below (g := gb175) (o := .cells #[.int .i64 0, .int .i64 0] 23 (0, 0)) (by (with_reducible repeat (first | refine blk_drewN ?_ _ | refine blk_drew ?_ | refine blk_alloc ?_ _)); exact BK175.out) hb)
                    have n3_ := Aside0.mk (below_step (by repeat (first | (with_reducible first | exact HB.out | apply below_alloc | apply pw_below_drewN | apply below_drew1 | refine below_set ?_ GE167.out | refine below_set ?_ GE168.out | refine below_set ?_ GE175.out) | exact HB.out)) hb)
                    clear BK167
                    clear BK168
                    clear BK175
                    clear HB
                    have BK167 := n0_
                    have BK168 := n1_
                    have BK175 := n2_
                    have HB := n3_
                    clear n0_ n1_ n2_ n3_
                    (try clear hb)
                    (try clear hb2)
                    (try clear hk)
                    (try clear hi)
                    refine hK.out _ _ ⟨((HB.out.cell (World.block_lt_of_cell? w _ hw169_0)).trans hw169_0), ((HB.out.cell (World.block_lt_of_cell? w _ hw169_1)).trans hw169_1), ((HB.out.cell (World.block_lt_of_cell? w _ hw172_0)).trans hw172_0), ((HB.out.cell (World.block_lt_of_cell? w _ hw172_1)).trans hw172_1)⟩ (fun hHeld => ?_)
                    clear hK K
                    refine norm_ (a' := ?_) ?_ ?_
                    rotate_left
                    · show Act.put _ (some 21) _ = _
                      simp only [Act.put, List.setIfInBounds_toArray, List.set_cons_zero, List.set_cons_succ, i64_w, i32_w]
                      rfl
                    exact norm_ (by first | (simp only [putAll, Act.put, List.setIfInBounds_toArray, List.set_cons_zero, List.set_cons_succ]; done) | (simp only [putAll, Act.put, List.setIfInBounds_toArray, List.set_cons_zero, List.set_cons_succ]; rfl)) (hJ3_7_8 (gb175) _ ⟨hHeld, (by (with_reducible repeat (first | refine blk_drewN ?_ _ | refine blk_drew ?_ | refine blk_alloc ?_ _)); exact BK167.out), (by (with_reducible repeat (first | refine blk_drewN ?_ _ | refine blk_drew ?_ | refine blk_alloc ?_ _)); exact BK168.out), (by (with_reducible repeat (first | refine blk_drewN ?_ _ | refine blk_drew ?_ | refine blk_alloc ?_ _)); exact BK175.out), GW175.out, GE175.out, NB167_175.out, NB175_167.out, NB168_175.out, NB175_168.out, (by repeat (first | (with_reducible first | exact HB.out | apply below_alloc | apply pw_below_drewN | apply below_drew1 | refine below_set ?_ GE167.out | refine below_set ?_ GE168.out | refine below_set ?_ GE175.out) | exact HB.out))⟩)
                  · skip
                    refine box_step ?hg (N := 6) ?hd (cs := #[.int .i64 0, .int .i64 0]) (t := 23) ?hr ?_; (case hd => rfl); (case hg => rfl); (case hr => first | (go_simp; done) | (go_simp; rfl))
                    intro gb176 hg w17 hbox hb
                    have n0_ := Aside0.mk (blk_below (g := gb167) (o := .cells #[.int .i64 0, .int .i64 0] 23 (0, 0)) (by (with_reducible repeat (first | refine blk_drewN ?_ _ | refine blk_drew ?_ | refine blk_alloc ?_ _)); exact BK167.out) hb)
                    have n1_ := Aside0.mk (blk_below (g := gb168) (o := .cells #[.int .i64 0, .int .i64 0] 23 (0, 0)) (by (with_reducible repeat (first | refine blk_drewN ?_ _ | refine blk_drew ?_ | refine blk_alloc ?_ _)); exact BK168.out) hb)
                    have n2_ := Aside0.mk (blk_below (g := gb175) (o := .cells #[.int .i64 0, .int .i64 0] 23 (0, 0)) (by (with_reducible repeat (first | refine blk_drewN ?_ _ | refine blk_drew ?_ | refine blk_alloc ?_ _)); exact BK175.out) hb)
                    have n3_ := Aside0.mk (below_step (by repeat (first | (with_reducible first | exact HB.out | apply below_alloc | apply pw_below_drewN | apply below_drew1 | refine below_set ?_ GE167.out | refine below_set ?_ GE168.out | refine below_set ?_ GE175.out) | exact HB.out)) hb)
                    have n4_ := Aside0.mk (hbox)
                    have n5_ := Aside0.mk ((by rw [hg]; exact (below_size (by repeat (first | (with_reducible first | exact HB.out | apply below_alloc | apply pw_below_drewN | apply below_drew1 | refine below_set ?_ GE167.out | refine below_set ?_ GE168.out | refine below_set ?_ GE175.out) | exact HB.out))) : w.heap.size ≤ gb176))
                    have n6_ := Aside0.mk ((by rw [hg]; exact (below_size (by repeat (first | (with_reducible first | exact HB.out | apply below_alloc | apply pw_below_drewN | apply below_drew1 | refine below_set ?_ GE167.out | refine below_set ?_ GE168.out | refine below_set ?_ GE175.out) | exact HB.out))) : w.heap.size ≤ gb176))
                    have n7_ := Aside0.mk ((by rw [hg]; exact Nat.ne_of_lt (blk_lt (g := gb167) (o := .cells #[.int .i64 0, .int .i64 0] 23 (0, 0)) (by (with_reducible repeat (first | refine blk_drewN ?_ _ | refine blk_drew ?_ | refine blk_alloc ?_ _)); exact BK167.out)) : gb167 ≠ gb176))
                    have n8_ := Aside0.mk ((by rw [hg]; exact Nat.ne_of_gt (blk_lt (g := gb167) (o := .cells #[.int .i64 0, .int .i64 0] 23 (0, 0)) (by (with_reducible repeat (first | refine blk_drewN ?_ _ | refine blk_drew ?_ | refine blk_alloc ?_ _)); exact BK167.out)) : gb176 ≠ gb167))
                    have n9_ := Aside0.mk ((by rw [hg]; exact Nat.ne_of_lt (blk_lt (g := gb168) (o := .cells #[.int .i64 0, .int .i64 0] 23 (0, 0)) (by (with_reducible repeat (first | refine blk_drewN ?_ _ | refine blk_drew ?_ | refine blk_alloc ?_ _)); exact BK168.out)) : gb168 ≠ gb176))
                    have n10_ := Aside0.mk ((by rw [hg]; exact Nat.ne_of_gt (blk_lt (g := gb168) (o := .cells #[.int .i64 0, .int .i64 0] 23 (0, 0)) (by (with_reducible repeat (first | refine blk_drewN ?_ _ | refine blk_drew ?_ | refine blk_alloc ?_ _)); exact BK168.out)) : gb176 ≠ gb168))
                    have n11_ := Aside0.mk ((by rw [hg]; exact Nat.ne_of_lt (blk_lt (g := gb175) (o := .cells #[.int .i64 0, .int .i64 0] 23 (0, 0)) (by (with_reducible repeat (first | refine blk_drewN ?_ _ | refine blk_drew ?_ | refine blk_alloc ?_ _)); exact BK175.out)) : gb175 ≠ gb176))
                    have n12_ := Aside0.mk ((by rw [hg]; exact Nat.ne_of_gt (blk_lt (g := gb175) (o := .cells #[.int .i64 0, .int .i64 0] 23 (0, 0)) (by (with_reducible repeat (first | refine blk_drewN ?_ _ | refine blk_drew ?_ | refine blk_alloc ?_ _)); exact BK175.out)) : gb176 ≠ gb175))
                    clear BK167
                    clear BK168
                    clear BK175
                    clear HB
                    have BK167 := n0_
                    have BK168 := n1_
                    have BK175 := n2_
                    have HB := n3_
                    have BK176 := n4_
                    have GW176 := n5_
                    have GE176 := n6_
                    have NB167_176 := n7_
                    have NB176_167 := n8_
                    have NB168_176 := n9_
                    have NB176_168 := n10_
                    have NB175_176 := n11_
                    have NB176_175 := n12_
                    clear n0_ n1_ n2_ n3_ n4_ n5_ n6_ n7_ n8_ n9_ n10_ n11_ n12_
                    clear hb hbox hg
                    refine hK.out _ _ ⟨((HB.out.cell (World.block_lt_of_cell? w _ hw169_0)).trans hw169_0), ((HB.out.cell (World.block_lt_of_cell? w _ hw169_1)).trans hw169_1), ((HB.out.cell (World.block_lt_of_cell? w _ hw172_0)).trans hw172_0), ((HB.out.cell (World.block_lt_of_cell? w _ hw172_1)).trans hw172_1)⟩ (fun hHeld => ?_)
                    clear hK K
                    refine norm_ (a' := ?_) ?_ ?_
                    rotate_left
                    · show Act.put _ (some 6) _ = _
                      simp only [Act.put, List.setIfInBounds_toArray, List.set_cons_zero, List.set_cons_succ, i64_w, i32_w]
                      rfl
                    exact norm_ (by first | (simp only [putAll, Act.put, List.setIfInBounds_toArray, List.set_cons_zero, List.set_cons_succ]; done) | (simp only [putAll, Act.put, List.setIfInBounds_toArray, List.set_cons_zero, List.set_cons_succ]; rfl)) (hJ3_8_9 (gb175, gb176) _ ⟨hHeld, (by (with_reducible repeat (first | refine blk_drewN ?_ _ | refine blk_drew ?_ | refine blk_alloc ?_ _)); exact BK167.out), (by (with_reducible repeat (first | refine blk_drewN ?_ _ | refine blk_drew ?_ | refine blk_alloc ?_ _)); exact BK168.out), (by (with_reducible repeat (first | refine blk_drewN ?_ _ | refine blk_drew ?_ | refine blk_alloc ?_ _)); exact BK175.out), (by (with_reducible repeat (first | refine blk_drewN ?_ _ | refine blk_drew ?_ | refine blk_alloc ?_ _)); exact BK176.out), GW175.out, GE175.out, NB167_175.out, NB175_167.out, NB168_175.out, NB175_168.out, NB176_175.out, NB175_176.out, GW176.out, GE176.out, NB167_176.out, NB176_167.out, NB168_176.out, NB176_168.out, (by repeat (first | (with_reducible first | exact HB.out | apply below_alloc | apply pw_below_drewN | apply below_drew1 | refine below_set ?_ GE167.out | refine below_set ?_ GE168.out | refine below_set ?_ GE175.out | refine below_set ?_ GE176.out) | exact HB.out))⟩)
              · skip
                rintro _ w16 ⟨hS_, h0_, h1_, h2_⟩
                have n0_ : Aside0 (w16.heap[gb167]? = some (.cells #[.int .i64 0, .int .i64 0] 23 (0, 0))) := ⟨h0_⟩
                have n1_ : Aside0 (w16.heap[gb168]? = some (.cells #[.int .i64 0, .int .i64 0] 23 (0, 0))) := ⟨h1_⟩
                have n2_ : Aside0 (Below w.heap.size w w16) := ⟨h2_⟩
                clear BK167
                clear BK168
                clear HB
                clear h0_ h1_ h2_
                have BK167 := n0_
                have BK168 := n1_
                have HB := n2_
                clear n0_ n1_ n2_
                have hHeld : w16.cell? ad169 = some (.int .i64 ((rd_T23 l0 0).f0)) ∧ w16.cell? ⟨ad169.block, ad169.off + 1, none⟩ = some (.int .i64 ((rd_T23 l0 0).f1)) ∧ w16.cell? ad169 = some (.int .i64 ((rd_T23 l0 0).f0)) ∧ w16.cell? ⟨ad169.block, ad169.off + 1, none⟩ = some (.int .i64 ((rd_T23 l0 0).f1)) := hS_
                refine norm_ (a' := ?_) ?_ ?_
                rotate_left
                · simp only [putAll, Act.put, List.setIfInBounds_toArray, List.set_cons_zero, List.set_cons_succ]
                  rfl
                refine two_ (i := 8) (j := 9) (Ni := some 5) (Nj := some 6) #[true, true, true, true, true, true, true, true, true, false, false, false] #[true, true, true, true, true, true, true, true, false, true, false, false] rfl rfl rfl rfl (two_of HT_.out (by kernel_rfl)) (by decide) (by decide) (fun K hK => ?_) (fun K hK => ?_)
                · skip
                  refine box_step ?hg (N := 5) ?hd (cs := #[.int .i64 0, .int .i64 0]) (t := 23) ?hr ?_; (case hd => rfl); (case hg => rfl); (case hr => first | (go_simp; done) | (go_simp; rfl))
                  intro gb175 hg w17 hbox hb
                  have n0_ := Aside0.mk (blk_below (g := gb167) (o := .cells #[.int .i64 0, .int .i64 0] 23 (0, 0)) (by (with_reducible repeat (first | refine blk_drewN ?_ _ | refine blk_drew ?_ | refine blk_alloc ?_ _)); exact BK167.out) hb)
                  have n1_ := Aside0.mk (blk_below (g := gb168) (o := .cells #[.int .i64 0, .int .i64 0] 23 (0, 0)) (by (with_reducible repeat (first | refine blk_drewN ?_ _ | refine blk_drew ?_ | refine blk_alloc ?_ _)); exact BK168.out) hb)
                  have n2_ := Aside0.mk (below_step (by repeat (first | (with_reducible first | exact HB.out | apply below_alloc | apply pw_below_drewN | apply below_drew1 | refine below_set ?_ GE167.out | refine below_set ?_ GE168.out) | exact HB.out)) hb)
                  have n3_ := Aside0.mk (hbox)
                  have n4_ := Aside0.mk ((by rw [hg]; exact (below_size (by repeat (first | (with_reducible first | exact HB.out | apply below_alloc | apply pw_below_drewN | apply below_drew1 | refine below_set ?_ GE167.out | refine below_set ?_ GE168.out) | exact HB.out))) : w.heap.size ≤ gb175))
                  have n5_ := Aside0.mk ((by rw [hg]; exact (below_size (by repeat (first | (with_reducible first | exact HB.out | apply below_alloc | apply pw_below_drewN | apply below_drew1 | refine below_set ?_ GE167.out | refine below_set ?_ GE168.out) | exact HB.out))) : w.heap.size ≤ gb175))
                  have n6_ := Aside0.mk ((by rw [hg]; exact Nat.ne_of_lt (blk_lt (g := gb167) (o := .cells #[.int .i64 0, .int .i64 0] 23 (0, 0)) (by (with_reducible repeat (first | refine blk_drewN ?_ _ | refine blk_drew ?_ | refine blk_alloc ?_ _)); exact BK167.out)) : gb167 ≠ gb175))
                  have n7_ := Aside0.mk ((by rw [hg]; exact Nat.ne_of_gt (blk_lt (g := gb167) (o := .cells #[.int .i64 0, .int .i64 0] 23 (0, 0)) (by (with_reducible repeat (first | refine blk_drewN ?_ _ | refine blk_drew ?_ | refine blk_alloc ?_ _)); exact BK167.out)) : gb175 ≠ gb167))
                  have n8_ := Aside0.mk ((by rw [hg]; exact Nat.ne_of_lt (blk_lt (g := gb168) (o := .cells #[.int .i64 0, .int .i64 0] 23 (0, 0)) (by (with_reducible repeat (first | refine blk_drewN ?_ _ | refine blk_drew ?_ | refine blk_alloc ?_ _)); exact BK168.out)) : gb168 ≠ gb175))
                  have n9_ := Aside0.mk ((by rw [hg]; exact Nat.ne_of_gt (blk_lt (g := gb168) (o := .cells #[.int .i64 0, .int .i64 0] 23 (0, 0)) (by (with_reducible repeat (first | refine blk_drewN ?_ _ | refine blk_drew ?_ | refine blk_alloc ?_ _)); exact BK168.out)) : gb175 ≠ gb168))
                  clear BK167
                  clear BK168
                  clear HB
                  have BK167 := n0_
                  have BK168 := n1_
                  have HB := n2_
                  have BK175 := n3_
                  have GW175 := n4_
                  have GE175 := n5_
                  have NB167_175 := n6_
                  have NB175_167 := n7_
                  have NB168_175 := n8_
                  have NB175_168 := n9_
                  clear n0_ n1_ n2_ n3_ n4_ n5_ n6_ n7_ n8_ n9_
                  clear hb hbox hg
                  refine hK.out _ _ ⟨((HB.out.cell (World.block_lt_of_cell? w _ hw169_0)).trans hw169_0), ((HB.out.cell (World.block_lt_of_cell? w _ hw169_1)).trans hw169_1), ((HB.out.cell (World.block_lt_of_cell? w _ hw172_0)).trans hw172_0), ((HB.out.cell (World.block_lt_of_cell? w _ hw172_1)).trans hw172_1)⟩ (fun hHeld => ?_)
                  clear hK K
                  refine norm_ (a' := ?_) ?_ ?_
                  rotate_left
                  · show Act.put _ (some 5) _ = _
                    simp only [Act.put, List.setIfInBounds_toArray, List.set_cons_zero, List.set_cons_succ, i64_w, i32_w]
                    rfl
                  exact norm_ (by first | (simp only [putAll, Act.put, List.setIfInBounds_toArray, List.set_cons_zero, List.set_cons_succ]; done) | (simp only [putAll, Act.put, List.setIfInBounds_toArray, List.set_cons_zero, List.set_cons_succ]; rfl)) (hJ3_7_8 (gb175) _ ⟨hHeld, (by (with_reducible repeat (first | refine blk_drewN ?_ _ | refine blk_drew ?_ | refine blk_alloc ?_ _)); exact BK167.out), (by (with_reducible repeat (first | refine blk_drewN ?_ _ | refine blk_drew ?_ | refine blk_alloc ?_ _)); exact BK168.out), (by (with_reducible repeat (first | refine blk_drewN ?_ _ | refine blk_drew ?_ | refine blk_alloc ?_ _)); exact BK175.out), GW175.out, GE175.out, NB167_175.out, NB175_167.out, NB168_175.out, NB175_168.out, (by repeat (first | (with_reducible first | exact HB.out | apply below_alloc | apply pw_below_drewN | apply below_drew1 | refine below_set ?_ GE167.out | refine below_set ?_ GE168.out | refine below_set ?_ GE175.out) | exact HB.out))⟩)
                · skip
                  refine box_step ?hg (N := 6) ?hd (cs := #[.int .i64 0, .int .i64 0]) (t := 23) ?hr ?_; (case hd => rfl); (case hg => rfl); (case hr => first | (go_simp; done) | (go_simp; rfl))
                  intro gb176 hg w17 hbox hb
                  have n0_ := Aside0.mk (blk_below (g := gb167) (o := .cells #[.int .i64 0, .int .i64 0] 23 (0, 0)) (by (with_reducible repeat (first | refine blk_drewN ?_ _ | refine blk_drew ?_ | refine blk_alloc ?_ _)); exact BK167.out) hb)
                  have n1_ := Aside0.mk (blk_below (g := gb168) (o := .cells #[.int .i64 0, .int .i64 0] 23 (0, 0)) (by (with_reducible repeat (first | refine blk_drewN ?_ _ | refine blk_drew ?_ | refine blk_alloc ?_ _)); exact BK168.out) hb)
                  have n2_ := Aside0.mk (below_step (by repeat (first | (with_reducible first | exact HB.out | apply below_alloc | apply pw_below_drewN | apply below_drew1 | refine below_set ?_ GE167.out | refine below_set ?_ GE168.out) | exact HB.out)) hb)
                  have n3_ := Aside0.mk (hbox)
                  have n4_ := Aside0.mk ((by rw [hg]; exact (below_size (by repeat (first | (with_reducible first | exact HB.out | apply below_alloc | apply pw_below_drewN | apply below_drew1 | refine below_set ?_ GE167.out | refine below_set ?_ GE168.out) | exact HB.out))) : w.heap.size ≤ gb176))
                  have n5_ := Aside0.mk ((by rw [hg]; exact (below_size (by repeat (first | (with_reducible first | exact HB.out | apply below_alloc | apply pw_below_drewN | apply below_drew1 | refine below_set ?_ GE167.out | refine below_set ?_ GE168.out) | exact HB.out))) : w.heap.size ≤ gb176))
                  have n6_ := Aside0.mk ((by rw [hg]; exact Nat.ne_of_lt (blk_lt (g := gb167) (o := .cells #[.int .i64 0, .int .i64 0] 23 (0, 0)) (by (with_reducible repeat (first | refine blk_drewN ?_ _ | refine blk_drew ?_ | refine blk_alloc ?_ _)); exact BK167.out)) : gb167 ≠ gb176))
                  have n7_ := Aside0.mk ((by rw [hg]; exact Nat.ne_of_gt (blk_lt (g := gb167) (o := .cells #[.int .i64 0, .int .i64 0] 23 (0, 0)) (by (with_reducible repeat (first | refine blk_drewN ?_ _ | refine blk_drew ?_ | refine blk_alloc ?_ _)); exact BK167.out)) : gb176 ≠ gb167))
                  have n8_ := Aside0.mk ((by rw [hg]; exact Nat.ne_of_lt (blk_lt (g := gb168) (o := .cells #[.int .i64 0, .int .i64 0] 23 (0, 0)) (by (with_reducible repeat (first | refine blk_drewN ?_ _ | refine blk_drew ?_ | refine blk_alloc ?_ _)); exact BK168.out)) : gb168 ≠ gb176))
                  have n9_ := Aside0.mk ((by rw [hg]; exact Nat.ne_of_gt (blk_lt (g := gb168) (o := .cells #[.int .i64 0, .int .i64 0] 23 (0, 0)) (by (with_reducible repeat (first | refine blk_drewN ?_ _ | refine blk_drew ?_ | refine blk_alloc ?_ _)); exact BK168.out)) : gb176 ≠ gb168))
                  clear BK167
                  clear BK168
                  clear HB
                  have BK167 := n0_
                  have BK168 := n1_
                  have HB := n2_
                  have BK176 := n3_
                  have GW176 := n4_
                  have GE176 := n5_
                  have NB167_176 := n6_
                  have NB176_167 := n7_
                  have NB168_176 := n8_
                  have NB176_168 := n9_
                  clear n0_ n1_ n2_ n3_ n4_ n5_ n6_ n7_ n8_ n9_
                  clear hb hbox hg
                  refine hK.out _ _ ⟨((HB.out.cell (World.block_lt_of_cell? w _ hw169_0)).trans hw169_0), ((HB.out.cell (World.block_lt_of_cell? w _ hw169_1)).trans hw169_1), ((HB.out.cell (World.block_lt_of_cell? w _ hw172_0)).trans hw172_0), ((HB.out.cell (World.block_lt_of_cell? w _ hw172_1)).trans hw172_1)⟩ (fun hHeld => ?_)
                  clear hK K
                  refine norm_ (a' := ?_) ?_ ?_
                  rotate_left
                  · show Act.put _ (some 6) _ = _
                    simp only [Act.put, List.setIfInBounds_toArray, List.set_cons_zero, List.set_cons_succ, i64_w, i32_w]
                    rfl
                  exact norm_ (by first | (simp only [putAll, Act.put, List.setIfInBounds_toArray, List.set_cons_zero, List.set_cons_succ]; done) | (simp only [putAll, Act.put, List.setIfInBounds_toArray, List.set_cons_zero, List.set_cons_succ]; rfl)) (hJ3_7_9 (gb176) _ ⟨hHeld, (by (with_reducible repeat (first | refine blk_drewN ?_ _ | refine blk_drew ?_ | refine blk_alloc ?_ _)); exact BK167.out), (by (with_reducible repeat (first | refine blk_drewN ?_ _ | refine blk_drew ?_ | refine blk_alloc ?_ _)); exact BK168.out), (by (with_reducible repeat (first | refine blk_drewN ?_ _ | refine blk_drew ?_ | refine blk_alloc ?_ _)); exact BK176.out), GW176.out, GE176.out, NB167_176.out, NB176_167.out, NB168_176.out, NB176_168.out, (by repeat (first | (with_reducible first | exact HB.out | apply below_alloc | apply pw_below_drewN | apply below_drew1 | refine below_set ?_ GE167.out | refine below_set ?_ GE168.out | refine below_set ?_ GE176.out) | exact HB.out))⟩)
            · skip
              rintro ⟨gb175, gb176⟩ w17 ⟨hS_, h0_, h1_, h2_, h3_, h4_, h5_, h6_, h7_, h8_, h9_, h10_, h11_, h12_, h13_, h14_, h15_, h16_, h17_, h18_⟩
              have n0_ : Aside0 (w17.heap[gb167]? = some (.cells #[.int .i64 0, .int .i64 0] 23 (0, 0))) := ⟨h0_⟩
              have n1_ : Aside0 (w17.heap[gb168]? = some (.cells #[.int .i64 0, .int .i64 0] 23 (0, 0))) := ⟨h1_⟩
              have n2_ : Aside0 (w17.heap[gb175]? = some (.cells #[.int .i64 0, .int .i64 0] 23 (0, 0))) := ⟨h2_⟩
              have n3_ : Aside0 (w17.heap[gb176]? = some (.cells #[.int .i64 0, .int .i64 0] 23 (0, 0))) := ⟨h3_⟩
              have n4_ : Aside0 (w.heap.size ≤ gb175) := ⟨h4_⟩
              have n5_ : Aside0 (w.heap.size ≤ gb175) := ⟨h5_⟩
              have n6_ : Aside0 (gb167 ≠ gb175) := ⟨h6_⟩
              have n7_ : Aside0 (gb175 ≠ gb167) := ⟨h7_⟩
              have n8_ : Aside0 (gb168 ≠ gb175) := ⟨h8_⟩
              have n9_ : Aside0 (gb175 ≠ gb168) := ⟨h9_⟩
              have n10_ : Aside0 (gb176 ≠ gb175) := ⟨h10_⟩
              have n11_ : Aside0 (gb175 ≠ gb176) := ⟨h11_⟩
              have n12_ : Aside0 (w.heap.size ≤ gb176) := ⟨h12_⟩
              have n13_ : Aside0 (w.heap.size ≤ gb176) := ⟨h13_⟩
              have n14_ : Aside0 (gb167 ≠ gb176) := ⟨h14_⟩
              have n15_ : Aside0 (gb176 ≠ gb167) := ⟨h15_⟩
              have n16_ : Aside0 (gb168 ≠ gb176) := ⟨h16_⟩
              have n17_ : Aside0 (gb176 ≠ gb168) := ⟨h17_⟩
              have n18_ : Aside0 (Below w.heap.size w w17) := ⟨h18_⟩
              clear BK167
              clear BK168
              clear HB
              clear h0_ h1_ h2_ h3_ h4_ h5_ h6_ h7_ h8_ h9_ h10_ h11_ h12_ h13_ h14_ h15_ h16_ h17_ h18_
              have BK167 := n0_
              have BK168 := n1_
              have BK175 := n2_
              have BK176 := n3_
              have GW175 := n4_
              have GE175 := n5_
              have NB167_175 := n6_
              have NB175_167 := n7_
              have NB168_175 := n8_
              have NB175_168 := n9_
              have NB176_175 := n10_
              have NB175_176 := n11_
              have GW176 := n12_
              have GE176 := n13_
              have NB167_176 := n14_
              have NB176_167 := n15_
              have NB168_176 := n16_
              have NB176_168 := n17_
              have HB := n18_
              clear n0_ n1_ n2_ n3_ n4_ n5_ n6_ n7_ n8_ n9_ n10_ n11_ n12_ n13_ n14_ n15_ n16_ n17_ n18_
              have hHeld : w17.cell? ad169 = some (.int .i64 ((rd_T23 l0 0).f0)) ∧ w17.cell? ⟨ad169.block, ad169.off + 1, none⟩ = some (.int .i64 ((rd_T23 l0 0).f1)) ∧ w17.cell? ad169 = some (.int .i64 ((rd_T23 l0 0).f0)) ∧ w17.cell? ⟨ad169.block, ad169.off + 1, none⟩ = some (.int .i64 ((rd_T23 l0 0).f1)) := hS_
              refine norm_ (a' := ?_) ?_ ?_
              rotate_left
              · simp only [putAll, Act.put, List.setIfInBounds_toArray, List.set_cons_zero, List.set_cons_succ]
                rfl
              refine one_ (i := 7) (N := some 21) #[true, true, true, true, true, true, true, true, true, true, false, false] rfl rfl (one_of HT_.out (by kernel_rfl)) (by decide) (fun K hK => ?_)
              refine goes_ Try.func30 (by kernel_rfl) rfl #[.agg #[.int .i64 ((rd_T23 l0 0).f0), .int .i64 ((rd_T23 l0 0).f1)]] (by rfl) rfl rfl (by (try simp only [List.map_toArray, List.map_cons, List.map_nil]); first | done | rfl | (simp only [List.length_drop, List.length_take]; rfl)) ?_
              with_reducible refine (terrierref9_Clean.calls ((rd_T23 l0 0).f0) ((rd_T23 l0 0).f1) t173 t174 _ A10.out).mono ?_
              rintro e w18 ⟨rfl, hb⟩
              refine ⟨_, rfl, ?_⟩
              have n0_ := Aside0.mk (blk_below (g := gb167) (o := .cells #[.int .i64 0, .int .i64 0] 23 (0, 0)) (by (with_reducible repeat (first | refine blk_drewN ?_ _ | refine blk_drew ?_ | refine blk_alloc ?_ _)); exact BK167.out) hb)
              have n1_ := Aside0.mk (blk_below (g := gb168) (o := .cells #[.int .i64 0, .int .i64 0] 23 (0, 0)) (by (with_reducible repeat (first | refine blk_drewN ?_ _ | refine blk_drew ?_ | refine blk_alloc ?_ _)); exact BK168.out) hb)
              have n2_ := Aside0.mk (blk_below (g := gb175) (o := .cells #[.int .i64 0, .int .i64 0] 23 (0, 0)) (by (with_reducible repeat (first | refine blk_drewN ?_ _ | refine blk_drew ?_ | refine blk_alloc ?_ _)); exact BK175.out) hb)
              have n3_ := Aside0.mk (blk_below (g := gb176) (o := .cells #[.int .i64 0, .int .i64 0] 23 (0, 0)) (by (with_reducible repeat (first | refine blk_drewN ?_ _ | refine blk_drew ?_ | refine blk_alloc ?_ _)); exact BK176.out) hb)
              have n4_ := Aside0.mk (below_step (by repeat (first | (with_reducible first | exact HB.out | apply below_alloc | apply pw_below_drewN | apply below_drew1 | refine below_set ?_ GE167.out | refine below_set ?_ GE168.out | refine below_set ?_ GE175.out | refine below_set ?_ GE176.out) | exact HB.out)) hb)
              clear BK167
              clear BK168
              clear BK175
              clear BK176
              clear HB
              have BK167 := n0_
              have BK168 := n1_
              have BK175 := n2_
              have BK176 := n3_
              have HB := n4_
              clear n0_ n1_ n2_ n3_ n4_
              (try clear hb)
              (try clear hb2)
              (try clear hk)
              (try clear hi)
              refine hK.out _ _ ⟨((HB.out.cell (World.block_lt_of_cell? w _ hw169_0)).trans hw169_0), ((HB.out.cell (World.block_lt_of_cell? w _ hw169_1)).trans hw169_1), ((HB.out.cell (World.block_lt_of_cell? w _ hw172_0)).trans hw172_0), ((HB.out.cell (World.block_lt_of_cell? w _ hw172_1)).trans hw172_1)⟩ (fun hHeld => ?_)
              clear hK K
              refine norm_ (a' := ?_) ?_ ?_
              rotate_left
              · show Act.put _ (some 21) _ = _
                simp only [Act.put, List.setIfInBounds_toArray, List.set_cons_zero, List.set_cons_succ, i64_w, i32_w]
                rfl
              exact norm_ (by first | (simp only [putAll, Act.put, List.setIfInBounds_toArray, List.set_cons_zero, List.set_cons_succ]; done) | (simp only [putAll, Act.put, List.setIfInBounds_toArray, List.set_cons_zero, List.set_cons_succ]; rfl)) (hJ3_7_8_9 (gb175, gb176) _ ⟨hHeld, (by (with_reducible repeat (first | refine blk_drewN ?_ _ | refine blk_drew ?_ | refine blk_alloc ?_ _)); exact BK167.out), (by (with_reducible repeat (first | refine blk_drewN ?_ _ | refine blk_drew ?_ | refine blk_alloc ?_ _)); exact BK168.out), (by (with_reducible repeat (first | refine blk_drewN ?_ _ | refine blk_drew ?_ | refine blk_alloc ?_ _)); exact BK175.out), (by (with_reducible repeat (first | refine blk_drewN ?_ _ | refine blk_drew ?_ | refine blk_alloc ?_ _)); exact BK176.out), GW175.out, GE175.out, NB167_175.out, NB175_167.out, NB168_175.out, NB175_168.out, NB176_175.out, NB175_176.out, GW176.out, GE176.out, NB167_176.out, NB176_167.out, NB168_176.out, NB176_168.out, (by repeat (first | (with_reducible first | exact HB.out | apply below_alloc | apply pw_below_drewN | apply below_drew1 | refine below_set ?_ GE167.out | refine below_set ?_ GE168.out | refine below_set ?_ GE175.out | refine below_set ?_ GE176.out) | exact HB.out))⟩)
          · skip
            rintro gb176 w17 ⟨hS_, h0_, h1_, h2_, h3_, h4_, h5_, h6_, h7_, h8_, h9_⟩
            have n0_ : Aside0 (w17.heap[gb167]? = some (.cells #[.int .i64 0, .int .i64 0] 23 (0, 0))) := ⟨h0_⟩
            have n1_ : Aside0 (w17.heap[gb168]? = some (.cells #[.int .i64 0, .int .i64 0] 23 (0, 0))) := ⟨h1_⟩
            have n2_ : Aside0 (w17.heap[gb176]? = some (.cells #[.int .i64 0, .int .i64 0] 23 (0, 0))) := ⟨h2_⟩
            have n3_ : Aside0 (w.heap.size ≤ gb176) := ⟨h3_⟩
            have n4_ : Aside0 (w.heap.size ≤ gb176) := ⟨h4_⟩
            have n5_ : Aside0 (gb167 ≠ gb176) := ⟨h5_⟩
            have n6_ : Aside0 (gb176 ≠ gb167) := ⟨h6_⟩
            have n7_ : Aside0 (gb168 ≠ gb176) := ⟨h7_⟩
            have n8_ : Aside0 (gb176 ≠ gb168) := ⟨h8_⟩
            have n9_ : Aside0 (Below w.heap.size w w17) := ⟨h9_⟩
            clear BK167
            clear BK168
            clear HB
            clear h0_ h1_ h2_ h3_ h4_ h5_ h6_ h7_ h8_ h9_
            have BK167 := n0_
            have BK168 := n1_
            have BK176 := n2_
            have GW176 := n3_
            have GE176 := n4_
            have NB167_176 := n5_
            have NB176_167 := n6_
            have NB168_176 := n7_
            have NB176_168 := n8_
            have HB := n9_
            clear n0_ n1_ n2_ n3_ n4_ n5_ n6_ n7_ n8_ n9_
            have hHeld : w17.cell? ad169 = some (.int .i64 ((rd_T23 l0 0).f0)) ∧ w17.cell? ⟨ad169.block, ad169.off + 1, none⟩ = some (.int .i64 ((rd_T23 l0 0).f1)) ∧ w17.cell? ad169 = some (.int .i64 ((rd_T23 l0 0).f0)) ∧ w17.cell? ⟨ad169.block, ad169.off + 1, none⟩ = some (.int .i64 ((rd_T23 l0 0).f1)) := hS_
            refine norm_ (a' := ?_) ?_ ?_
            rotate_left
            · simp only [putAll, Act.put, List.setIfInBounds_toArray, List.set_cons_zero, List.set_cons_succ]
              rfl
            refine one_ (i := 8) (N := some 5) #[true, true, true, true, true, true, true, true, true, true, false, false] rfl rfl (one_of HT_.out (by kernel_rfl)) (by decide) (fun K hK => ?_)
            refine box_step ?hg (N := 5) ?hd (cs := #[.int .i64 0, .int .i64 0]) (t := 23) ?hr ?_; (case hd => rfl); (case hg => rfl); (case hr => first | (go_simp; done) | (go_simp; rfl))
            intro gb175 hg w18 hbox hb
            have n0_ := Aside0.mk (blk_below (g := gb167) (o := .cells #[.int .i64 0, .int .i64 0] 23 (0, 0)) (by (with_reducible repeat (first | refine blk_drewN ?_ _ | refine blk_drew ?_ | refine blk_alloc ?_ _)); exact BK167.out) hb)
            have n1_ := Aside0.mk (blk_below (g := gb168) (o := .cells #[.int .i64 0, .int .i64 0] 23 (0, 0)) (by (with_reducible repeat (first | refine blk_drewN ?_ _ | refine blk_drew ?_ | refine blk_alloc ?_ _)); exact BK168.out) hb)
            have n2_ := Aside0.mk (blk_below (g := gb176) (o := .cells #[.int .i64 0, .int .i64 0] 23 (0, 0)) (by (with_reducible repeat (first | refine blk_drewN ?_ _ | refine blk_drew ?_ | refine blk_alloc ?_ _)); exact BK176.out) hb)
            have n3_ := Aside0.mk (below_step (by repeat (first | (with_reducible first | exact HB.out | apply below_alloc | apply pw_below_drewN | apply below_drew1 | refine below_set ?_ GE167.out | refine below_set ?_ GE168.out | refine below_set ?_ GE176.out) | exact HB.out)) hb)
            have n4_ := Aside0.mk (hbox)
            have n5_ := Aside0.mk ((by rw [hg]; exact (below_size (by repeat (first | (with_reducible first | exact HB.out | apply below_alloc | apply pw_below_drewN | apply below_drew1 | refine below_set ?_ GE167.out | refine below_set ?_ GE168.out | refine below_set ?_ GE176.out) | exact HB.out))) : w.heap.size ≤ gb175))
            have n6_ := Aside0.mk ((by rw [hg]; exact (below_size (by repeat (first | (with_reducible first | exact HB.out | apply below_alloc | apply pw_below_drewN | apply below_drew1 | refine below_set ?_ GE167.out | refine below_set ?_ GE168.out | refine below_set ?_ GE176.out) | exact HB.out))) : w.heap.size ≤ gb175))
            have n7_ := Aside0.mk ((by rw [hg]; exact Nat.ne_of_lt (blk_lt (g := gb167) (o := .cells #[.int .i64 0, .int .i64 0] 23 (0, 0)) (by (with_reducible repeat (first | refine blk_drewN ?_ _ | refine blk_drew ?_ | refine blk_alloc ?_ _)); exact BK167.out)) : gb167 ≠ gb175))
            have n8_ := Aside0.mk ((by rw [hg]; exact Nat.ne_of_gt (blk_lt (g := gb167) (o := .cells #[.int .i64 0, .int .i64 0] 23 (0, 0)) (by (with_reducible repeat (first | refine blk_drewN ?_ _ | refine blk_drew ?_ | refine blk_alloc ?_ _)); exact BK167.out)) : gb175 ≠ gb167))
            have n9_ := Aside0.mk ((by rw [hg]; exact Nat.ne_of_lt (blk_lt (g := gb168) (o := .cells #[.int .i64 0, .int .i64 0] 23 (0, 0)) (by (with_reducible repeat (first | refine blk_drewN ?_ _ | refine blk_drew ?_ | refine blk_alloc ?_ _)); exact BK168.out)) : gb168 ≠ gb175))
            have n10_ := Aside0.mk ((by rw [hg]; exact Nat.ne_of_gt (blk_lt (g := gb168) (o := .cells #[.int .i64 0, .int .i64 0] 23 (0, 0)) (by (with_reducible repeat (first | refine blk_drewN ?_ _ | refine blk_drew ?_ | refine blk_alloc ?_ _)); exact BK168.out)) : gb175 ≠ gb168))
            have n11_ := Aside0.mk ((by rw [hg]; exact Nat.ne_of_lt (blk_lt (g := gb176) (o := .cells #[.int .i64 0, .int .i64 0] 23 (0, 0)) (by (with_reducible repeat (first | refine blk_drewN ?_ _ | refine blk_drew ?_ | refine blk_alloc ?_ _)); exact BK176.out)) : gb176 ≠ gb175))
            have n12_ := Aside0.mk ((by rw [hg]; exact Nat.ne_of_gt (blk_lt (g := gb176) (o := .cells #[.int .i64 0, .int .i64 0] 23 (0, 0)) (by (with_reducible repeat (first | refine blk_drewN ?_ _ | refine blk_drew ?_ | refine blk_alloc ?_ _)); exact BK176.out)) : gb175 ≠ gb176))
            clear BK167
            clear BK168
            clear BK176
            clear HB
            have BK167 := n0_
            have BK168 := n1_
            have BK176 := n2_
            have HB := n3_
            have BK175 := n4_
            have GW175 := n5_
            have GE175 := n6_
            have NB167_175 := n7_
            have NB175_167 := n8_
            have NB168_175 := n9_
            have NB175_168 := n10_
            have NB176_175 := n11_
            have NB175_176 := n12_
            clear n0_ n1_ n2_ n3_ n4_ n5_ n6_ n7_ n8_ n9_ n10_ n11_ n12_
            clear hb hbox hg
            refine hK.out _ _ ⟨((HB.out.cell (World.block_lt_of_cell? w _ hw169_0)).trans hw169_0), ((HB.out.cell (World.block_lt_of_cell? w _ hw169_1)).trans hw169_1), ((HB.out.cell (World.block_lt_of_cell? w _ hw172_0)).trans hw172_0), ((HB.out.cell (World.block_lt_of_cell? w _ hw172_1)).trans hw172_1)⟩ (fun hHeld => ?_)
            clear hK K
            refine norm_ (a' := ?_) ?_ ?_
            rotate_left
            · show Act.put _ (some 5) _ = _
              simp only [Act.put, List.setIfInBounds_toArray, List.set_cons_zero, List.set_cons_succ, i64_w, i32_w]
              rfl
            exact norm_ (by first | (simp only [putAll, Act.put, List.setIfInBounds_toArray, List.set_cons_zero, List.set_cons_succ]; done) | (simp only [putAll, Act.put, List.setIfInBounds_toArray, List.set_cons_zero, List.set_cons_succ]; rfl)) (hJ3_7_8_9 (gb175, gb176) _ ⟨hHeld, (by (with_reducible repeat (first | refine blk_drewN ?_ _ | refine blk_drew ?_ | refine blk_alloc ?_ _)); exact BK167.out), (by (with_reducible repeat (first | refine blk_drewN ?_ _ | refine blk_drew ?_ | refine blk_alloc ?_ _)); exact BK168.out), (by (with_reducible repeat (first | refine blk_drewN ?_ _ | refine blk_drew ?_ | refine blk_alloc ?_ _)); exact BK175.out), (by (with_reducible repeat (first | refine blk_drewN ?_ _ | refine blk_drew ?_ | refine blk_alloc ?_ _)); exact BK176.out), GW175.out, GE175.out, NB167_175.out, NB175_167.out, NB168_175.out, NB175_168.out, NB176_175.out, NB175_176.out, GW176.out, GE176.out, NB167_176.out, NB176_167.out, NB168_176.out, NB176_168.out, (by repeat (first | (with_reducible first | exact HB.out | apply below_alloc | apply pw_below_drewN | apply below_drew1 | refine below_set ?_ GE167.out | refine below_set ?_ GE168.out | refine below_set ?_ GE176.out | refine below_set ?_ GE175.out) | exact HB.out))⟩)
        · skip
          rintro gb175 w17 ⟨hS_, h0_, h1_, h2_, h3_, h4_, h5_, h6_, h7_, h8_, h9_⟩
          have n0_ : Aside0 (w17.heap[gb167]? = some (.cells #[.int .i64 0, .int .i64 0] 23 (0, 0))) := ⟨h0_⟩
          have n1_ : Aside0 (w17.heap[gb168]? = some (.cells #[.int .i64 0, .int .i64 0] 23 (0, 0))) := ⟨h1_⟩
          have n2_ : Aside0 (w17.heap[gb175]? = some (.cells #[.int .i64 0, .int .i64 0] 23 (0, 0))) := ⟨h2_⟩
          have n3_ : Aside0 (w.heap.size ≤ gb175) := ⟨h3_⟩
          have n4_ : Aside0 (w.heap.size ≤ gb175) := ⟨h4_⟩
          have n5_ : Aside0 (gb167 ≠ gb175) := ⟨h5_⟩
          have n6_ : Aside0 (gb175 ≠ gb167) := ⟨h6_⟩
          have n7_ : Aside0 (gb168 ≠ gb175) := ⟨h7_⟩
          have n8_ : Aside0 (gb175 ≠ gb168) := ⟨h8_⟩
          have n9_ : Aside0 (Below w.heap.size w w17) := ⟨h9_⟩
          clear BK167
          clear BK168
          clear HB
          clear h0_ h1_ h2_ h3_ h4_ h5_ h6_ h7_ h8_ h9_
          have BK167 := n0_
          have BK168 := n1_
          have BK175 := n2_
          have GW175 := n3_
          have GE175 := n4_
          have NB167_175 := n5_
          have NB175_167 := n6_
          have NB168_175 := n7_
          have NB175_168 := n8_
          have HB := n9_
          clear n0_ n1_ n2_ n3_ n4_ n5_ n6_ n7_ n8_ n9_
          have hHeld : w17.cell? ad169 = some (.int .i64 ((rd_T23 l0 0).f0)) ∧ w17.cell? ⟨ad169.block, ad169.off + 1, none⟩ = some (.int .i64 ((rd_T23 l0 0).f1)) ∧ w17.cell? ad169 = some (.int .i64 ((rd_T23 l0 0).f0)) ∧ w17.cell? ⟨ad169.block, ad169.off + 1, none⟩ = some (.int .i64 ((rd_T23 l0 0).f1)) := hS_
          refine norm_ (a' := ?_) ?_ ?_
          rotate_left
          · simp only [putAll, Act.put, List.setIfInBounds_toArray, List.set_cons_zero, List.set_cons_succ]
            rfl
          refine one_ (i := 9) (N := some 6) #[true, true, true, true, true, true, true, true, true, true, false, false] rfl rfl (one_of HT_.out (by kernel_rfl)) (by decide) (fun K hK => ?_)
          refine box_step ?hg (N := 6) ?hd (cs := #[.int .i64 0, .int .i64 0]) (t := 23) ?hr ?_; (case hd => rfl); (case hg => rfl); (case hr => first | (go_simp; done) | (go_simp; rfl))
          intro gb176 hg w18 hbox hb
          have n0_ := Aside0.mk (blk_below (g := gb167) (o := .cells #[.int .i64 0, .int .i64 0] 23 (0, 0)) (by (with_reducible repeat (first | refine blk_drewN ?_ _ | refine blk_drew ?_ | refine blk_alloc ?_ _)); exact BK167.out) hb)
          have n1_ := Aside0.mk (blk_below (g := gb168) (o := .cells #[.int .i64 0, .int .i64 0] 23 (0, 0)) (by (with_reducible repeat (first | refine blk_drewN ?_ _ | refine blk_drew ?_ | refine blk_alloc ?_ _)); exact BK168.out) hb)
          have n2_ := Aside0.mk (blk_below (g := gb175) (o := .cells #[.int .i64 0, .int .i64 0] 23 (0, 0)) (by (with_reducible repeat (first | refine blk_drewN ?_ _ | refine blk_drew ?_ | refine blk_alloc ?_ _)); exact BK175.out) hb)
          have n3_ := Aside0.mk (below_step (by repeat (first | (with_reducible first | exact HB.out | apply below_alloc | apply pw_below_drewN | apply below_drew1 | refine below_set ?_ GE167.out | refine below_set ?_ GE168.out | refine below_set ?_ GE175.out) | exact HB.out)) hb)
          have n4_ := Aside0.mk (hbox)
          have n5_ := Aside0.mk ((by rw [hg]; exact (below_size (by repeat (first | (with_reducible first | exact HB.out | apply below_alloc | apply pw_below_drewN | apply below_drew1 | refine below_set ?_ GE167.out | refine below_set ?_ GE168.out | refine below_set ?_ GE175.out) | exact HB.out))) : w.heap.size ≤ gb176))
          have n6_ := Aside0.mk ((by rw [hg]; exact (below_size (by repeat (first | (with_reducible first | exact HB.out | apply below_alloc | apply pw_below_drewN | apply below_drew1 | refine below_set ?_ GE167.out | refine below_set ?_ GE168.out | refine below_set ?_ GE175.out) | exact HB.out))) : w.heap.size ≤ gb176))
          have n7_ := Aside0.mk ((by rw [hg]; exact Nat.ne_of_lt (blk_lt (g := gb167) (o := .cells #[.int .i64 0, .int .i64 0] 23 (0, 0)) (by (with_reducible repeat (first | refine blk_drewN ?_ _ | refine blk_drew ?_ | refine blk_alloc ?_ _)); exact BK167.out)) : gb167 ≠ gb176))
          have n8_ := Aside0.mk ((by rw [hg]; exact Nat.ne_of_gt (blk_lt (g := gb167) (o := .cells #[.int .i64 0, .int .i64 0] 23 (0, 0)) (by (with_reducible repeat (first | refine blk_drewN ?_ _ | refine blk_drew ?_ | refine blk_alloc ?_ _)); exact BK167.out)) : gb176 ≠ gb167))
          have n9_ := Aside0.mk ((by rw [hg]; exact Nat.ne_of_lt (blk_lt (g := gb168) (o := .cells #[.int .i64 0, .int .i64 0] 23 (0, 0)) (by (with_reducible repeat (first | refine blk_drewN ?_ _ | refine blk_drew ?_ | refine blk_alloc ?_ _)); exact BK168.out)) : gb168 ≠ gb176))
          have n10_ := Aside0.mk ((by rw [hg]; exact Nat.ne_of_gt (blk_lt (g := gb168) (o := .cells #[.int .i64 0, .int .i64 0] 23 (0, 0)) (by (with_reducible repeat (first | refine blk_drewN ?_ _ | refine blk_drew ?_ | refine blk_alloc ?_ _)); exact BK168.out)) : gb176 ≠ gb168))
          have n11_ := Aside0.mk ((by rw [hg]; exact Nat.ne_of_lt (blk_lt (g := gb175) (o := .cells #[.int .i64 0, .int .i64 0] 23 (0, 0)) (by (with_reducible repeat (first | refine blk_drewN ?_ _ | refine blk_drew ?_ | refine blk_alloc ?_ _)); exact BK175.out)) : gb175 ≠ gb176))
          have n12_ := Aside0.mk ((by rw [hg]; exact Nat.ne_of_gt (blk_lt (g := gb175) (o := .cells #[.int .i64 0, .int .i64 0] 23 (0, 0)) (by (with_reducible repeat (first | refine blk_drewN ?_ _ | refine blk_drew ?_ | refine blk_alloc ?_ _)); exact BK175.out)) : gb176 ≠ gb175))
          clear BK167
          clear BK168
          clear BK175
          clear HB
          have BK167 := n0_
          have BK168 := n1_
          have BK175 := n2_
          have HB := n3_
          have BK176 := n4_
          have GW176 := n5_
          have GE176 := n6_
          have NB167_176 := n7_
          have NB176_167 := n8_
          have NB168_176 := n9_
          have NB176_168 := n10_
          have NB175_176 := n11_
          have NB176_175 := n12_
          clear n0_ n1_ n2_ n3_ n4_ n5_ n6_ n7_ n8_ n9_ n10_ n11_ n12_
          clear hb hbox hg
          refine hK.out _ _ ⟨((HB.out.cell (World.block_lt_of_cell? w _ hw169_0)).trans hw169_0), ((HB.out.cell (World.block_lt_of_cell? w _ hw169_1)).trans hw169_1), ((HB.out.cell (World.block_lt_of_cell? w _ hw172_0)).trans hw172_0), ((HB.out.cell (World.block_lt_of_cell? w _ hw172_1)).trans hw172_1)⟩ (fun hHeld => ?_)
          clear hK K
          refine norm_ (a' := ?_) ?_ ?_
          rotate_left
          · show Act.put _ (some 6) _ = _
            simp only [Act.put, List.setIfInBounds_toArray, List.set_cons_zero, List.set_cons_succ, i64_w, i32_w]
            rfl
          exact norm_ (by first | (simp only [putAll, Act.put, List.setIfInBounds_toArray, List.set_cons_zero, List.set_cons_succ]; done) | (simp only [putAll, Act.put, List.setIfInBounds_toArray, List.set_cons_zero, List.set_cons_succ]; rfl)) (hJ3_7_8_9 (gb175, gb176) _ ⟨hHeld, (by (with_reducible repeat (first | refine blk_drewN ?_ _ | refine blk_drew ?_ | refine blk_alloc ?_ _)); exact BK167.out), (by (with_reducible repeat (first | refine blk_drewN ?_ _ | refine blk_drew ?_ | refine blk_alloc ?_ _)); exact BK168.out), (by (with_reducible repeat (first | refine blk_drewN ?_ _ | refine blk_drew ?_ | refine blk_alloc ?_ _)); exact BK175.out), (by (with_reducible repeat (first | refine blk_drewN ?_ _ | refine blk_drew ?_ | refine blk_alloc ?_ _)); exact BK176.out), GW175.out, GE175.out, NB167_175.out, NB175_167.out, NB168_175.out, NB175_168.out, NB176_175.out, NB175_176.out, GW176.out, GE176.out, NB167_176.out, NB176_167.out, NB168_176.out, NB176_168.out, (by repeat (first | (with_reducible first | exact HB.out | apply below_alloc | apply pw_below_drewN | apply below_drew1 | refine below_set ?_ GE167.out | refine below_set ?_ GE168.out | refine below_set ?_ GE175.out | refine below_set ?_ GE176.out) | exact HB.out))⟩)
      rintro ⟨gb175, gb176⟩ w18 ⟨hS_, h0_, h1_, h2_, h3_, h4_, h5_, h6_, h7_, h8_, h9_, h10_, h11_, h12_, h13_, h14_, h15_, h16_, h17_, h18_⟩
      have n0_ : Aside0 (w18.heap[gb167]? = some (.cells #[.int .i64 0, .int .i64 0] 23 (0, 0))) := ⟨h0_⟩
      have n1_ : Aside0 (w18.heap[gb168]? = some (.cells #[.int .i64 0, .int .i64 0] 23 (0, 0))) := ⟨h1_⟩
      have n2_ : Aside0 (w18.heap[gb175]? = some (.cells #[.int .i64 0, .int .i64 0] 23 (0, 0))) := ⟨h2_⟩
      have n3_ : Aside0 (w18.heap[gb176]? = some (.cells #[.int .i64 0, .int .i64 0] 23 (0, 0))) := ⟨h3_⟩
      have n4_ : Aside0 (w.heap.size ≤ gb175) := ⟨h4_⟩
      have n5_ : Aside0 (w.heap.size ≤ gb175) := ⟨h5_⟩
      have n6_ : Aside0 (gb167 ≠ gb175) := ⟨h6_⟩
      have n7_ : Aside0 (gb175 ≠ gb167) := ⟨h7_⟩
      have n8_ : Aside0 (gb168 ≠ gb175) := ⟨h8_⟩
      have n9_ : Aside0 (gb175 ≠ gb168) := ⟨h9_⟩
      have n10_ : Aside0 (gb176 ≠ gb175) := ⟨h10_⟩
      have n11_ : Aside0 (gb175 ≠ gb176) := ⟨h11_⟩
      have n12_ : Aside0 (w.heap.size ≤ gb176) := ⟨h12_⟩
      have n13_ : Aside0 (w.heap.size ≤ gb176) := ⟨h13_⟩
      have n14_ : Aside0 (gb167 ≠ gb176) := ⟨h14_⟩
      have n15_ : Aside0 (gb176 ≠ gb167) := ⟨h15_⟩
      have n16_ : Aside0 (gb168 ≠ gb176) := ⟨h16_⟩
      have n17_ : Aside0 (gb176 ≠ gb168) := ⟨h17_⟩
      have n18_ : Aside0 (Below w.heap.size w w18) := ⟨h18_⟩
      clear BK167
      clear BK168
      clear HB
      clear h0_ h1_ h2_ h3_ h4_ h5_ h6_ h7_ h8_ h9_ h10_ h11_ h12_ h13_ h14_ h15_ h16_ h17_ h18_
      have BK167 := n0_
      have BK168 := n1_
      have BK175 := n2_
      have BK176 := n3_
      have GW175 := n4_
      have GE175 := n5_
      have NB167_175 := n6_
      have NB175_167 := n7_
      have NB168_175 := n8_
      have NB175_168 := n9_
      have NB176_175 := n10_
      have NB175_176 := n11_
      have GW176 := n12_
      have GE176 := n13_
      have NB167_176 := n14_
      have NB176_167 := n15_
      have NB168_176 := n16_
      have NB176_168 := n17_
      have HB := n18_
      clear n0_ n1_ n2_ n3_ n4_ n5_ n6_ n7_ n8_ n9_ n10_ n11_ n12_ n13_ n14_ n15_ n16_ n17_ n18_
      have hHeld : w18.cell? ad169 = some (.int .i64 ((rd_T23 l0 0).f0)) ∧ w18.cell? ⟨ad169.block, ad169.off + 1, none⟩ = some (.int .i64 ((rd_T23 l0 0).f1)) ∧ w18.cell? ad169 = some (.int .i64 ((rd_T23 l0 0).f0)) ∧ w18.cell? ⟨ad169.block, ad169.off + 1, none⟩ = some (.int .i64 ((rd_T23 l0 0).f1)) := hS_
      refine norm_ (a' := ?_) ?_ ?_
      rotate_left
      · simp only [putAll, Act.put, List.setIfInBounds_toArray, List.set_cons_zero, List.set_cons_succ]
        rfl
      refine one_ (i := 10) (N := none) #[true, true, true, true, true, true, true, true, true, true, true, false] rfl rfl (one_of HT_.out (by kernel_rfl)) (by decide) (fun K hK => ?_)
      have hs19 : w18.cell? ⟨gb175, 0, none⟩ = some (.int .i64 0) := (blk_cell BK175.out 0).trans rfl
      have hfs19 := blk_frozen BK175.out 0
      have hns19_0 := NB167_175.out
      have hns19_1 := NB168_175.out
      have hns19_3 := NB176_175.out
      have hms19_0 := NB175_167.out
      have hms19_1 := NB175_168.out
      have hms19_3 := NB175_176.out
      have hs20 : w18.cell? ⟨gb175, 1, none⟩ = some (.int .i64 0) := (blk_cell BK175.out 1).trans rfl
      have hfs20 := blk_frozen BK175.out 1
      have hns20_0 := NB167_175.out
      have hns20_1 := NB168_175.out
      have hns20_3 := NB176_175.out
      have hms20_0 := NB175_167.out
      have hms20_1 := NB175_168.out
      have hms20_3 := NB175_176.out
      refine skip_ (w1 := ?_) (by rfl) rfl ?_ ?_
      rotate_left
      · go_simp
        rfl
      refine hK.out _ _ ⟨((cell_far (p := ⟨gb175, _, none⟩) (by first | exact Nat.ne_of_lt (Nat.lt_of_lt_of_le (by have := World.block_lt_of_cell? _ _ hw169_0; first | rwa [add_block] at this | exact this) GW175.out) | (rw [add_block]; exact Nat.ne_of_lt (Nat.lt_of_lt_of_le (by have := World.block_lt_of_cell? _ _ hw169_0; first | rwa [add_block] at this | exact this) GW175.out)) | (show (Addr.add _ _).block ≠ _; rw [add_block]; exact Nat.ne_of_lt (Nat.lt_of_lt_of_le (by have := World.block_lt_of_cell? _ _ hw169_0; first | rwa [add_block] at this | exact this) GW175.out)) | (dsimp only; exact Nat.ne_of_lt (Nat.lt_of_lt_of_le (by have := World.block_lt_of_cell? _ _ hw169_0; first | rwa [add_block] at this | exact this) GW175.out))) _).trans (((cell_far (p := ⟨gb175, _, none⟩) (by first | exact Nat.ne_of_lt (Nat.lt_of_lt_of_le (by have := World.block_lt_of_cell? _ _ hw169_0; first | rwa [add_block] at this | exact this) GW175.out) | (rw [add_block]; exact Nat.ne_of_lt (Nat.lt_of_lt_of_le (by have := World.block_lt_of_cell? _ _ hw169_0; first | rwa [add_block] at this | exact this) GW175.out)) | (show (Addr.add _ _).block ≠ _; rw [add_block]; exact Nat.ne_of_lt (Nat.lt_of_lt_of_le (by have := World.block_lt_of_cell? _ _ hw169_0; first | rwa [add_block] at this | exact this) GW175.out)) | (dsimp only; exact Nat.ne_of_lt (Nat.lt_of_lt_of_le (by have := World.block_lt_of_cell? _ _ hw169_0; first | rwa [add_block] at this | exact this) GW175.out))) _).trans (hHeld.1)))), ((cell_far (p := ⟨gb175, _, none⟩) (by first | exact Nat.ne_of_lt (Nat.lt_of_lt_of_le (by have := World.block_lt_of_cell? _ _ hw169_1; first | rwa [add_block] at this | exact this) GW175.out) | (rw [add_block]; exact Nat.ne_of_lt (Nat.lt_of_lt_of_le (by have := World.block_lt_of_cell? _ _ hw169_1; first | rwa [add_block] at this | exact this) GW175.out)) | (show (Addr.add _ _).block ≠ _; rw [add_block]; exact Nat.ne_of_lt (Nat.lt_of_lt_of_le (by have := World.block_lt_of_cell? _ _ hw169_1; first | rwa [add_block] at this | exact this) GW175.out)) | (dsimp only; exact Nat.ne_of_lt (Nat.lt_of_lt_of_le (by have := World.block_lt_of_cell? _ _ hw169_1; first | rwa [add_block] at this | exact this) GW175.out))) _).trans (((cell_far (p := ⟨gb175, _, none⟩) (by first | exact Nat.ne_of_lt (Nat.lt_of_lt_of_le (by have := World.block_lt_of_cell? _ _ hw169_1; first | rwa [add_block] at this | exact this) GW175.out) | (rw [add_block]; exact Nat.ne_of_lt (Nat.lt_of_lt_of_le (by have := World.block_lt_of_cell? _ _ hw169_1; first | rwa [add_block] at this | exact this) GW175.out)) | (show (Addr.add _ _).block ≠ _; rw [add_block]; exact Nat.ne_of_lt (Nat.lt_of_lt_of_le (by have := World.block_lt_of_cell? _ _ hw169_1; first | rwa [add_block] at this | exact this) GW175.out)) | (dsimp only; exact Nat.ne_of_lt (Nat.lt_of_lt_of_le (by have := World.block_lt_of_cell? _ _ hw169_1; first | rwa [add_block] at this | exact this) GW175.out))) _).trans (hHeld.2.1)))), ((cell_far (p := ⟨gb175, _, none⟩) (by first | exact Nat.ne_of_lt (Nat.lt_of_lt_of_le (by have := World.block_lt_of_cell? _ _ hw172_0; first | rwa [add_block] at this | exact this) GW175.out) | (rw [add_block]; exact Nat.ne_of_lt (Nat.lt_of_lt_of_le (by have := World.block_lt_of_cell? _ _ hw172_0; first | rwa [add_block] at this | exact this) GW175.out)) | (show (Addr.add _ _).block ≠ _; rw [add_block]; exact Nat.ne_of_lt (Nat.lt_of_lt_of_le (by have := World.block_lt_of_cell? _ _ hw172_0; first | rwa [add_block] at this | exact this) GW175.out)) | (dsimp only; exact Nat.ne_of_lt (Nat.lt_of_lt_of_le (by have := World.block_lt_of_cell? _ _ hw172_0; first | rwa [add_block] at this | exact this) GW175.out))) _).trans (((cell_far (p := ⟨gb175, _, none⟩) (by first | exact Nat.ne_of_lt (Nat.lt_of_lt_of_le (by have := World.block_lt_of_cell? _ _ hw172_0; first | rwa [add_block] at this | exact this) GW175.out) | (rw [add_block]; exact Nat.ne_of_lt (Nat.lt_of_lt_of_le (by have := World.block_lt_of_cell? _ _ hw172_0; first | rwa [add_block] at this | exact this) GW175.out)) | (show (Addr.add _ _).block ≠ _; rw [add_block]; exact Nat.ne_of_lt (Nat.lt_of_lt_of_le (by have := World.block_lt_of_cell? _ _ hw172_0; first | rwa [add_block] at this | exact this) GW175.out)) | (dsimp only; exact Nat.ne_of_lt (Nat.lt_of_lt_of_le (by have := World.block_lt_of_cell? _ _ hw172_0; first | rwa [add_block] at this | exact this) GW175.out))) _).trans (hHeld.2.2.1)))), ((cell_far (p := ⟨gb175, _, none⟩) (by first | exact Nat.ne_of_lt (Nat.lt_of_lt_of_le (by have := World.block_lt_of_cell? _ _ hw172_1; first | rwa [add_block] at this | exact this) GW175.out) | (rw [add_block]; exact Nat.ne_of_lt (Nat.lt_of_lt_of_le (by have := World.block_lt_of_cell? _ _ hw172_1; first | rwa [add_block] at this | exact this) GW175.out)) | (show (Addr.add _ _).block ≠ _; rw [add_block]; exact Nat.ne_of_lt (Nat.lt_of_lt_of_le (by have := World.block_lt_of_cell? _ _ hw172_1; first | rwa [add_block] at this | exact this) GW175.out)) | (dsimp only; exact Nat.ne_of_lt (Nat.lt_of_lt_of_le (by have := World.block_lt_of_cell? _ _ hw172_1; first | rwa [add_block] at this | exact this) GW175.out))) _).trans (((cell_far (p := ⟨gb175, _, none⟩) (by first | exact Nat.ne_of_lt (Nat.lt_of_lt_of_le (by have := World.block_lt_of_cell? _ _ hw172_1; first | rwa [add_block] at this | exact this) GW175.out) | (rw [add_block]; exact Nat.ne_of_lt (Nat.lt_of_lt_of_le (by have := World.block_lt_of_cell? _ _ hw172_1; first | rwa [add_block] at this | exact this) GW175.out)) | (show (Addr.add _ _).block ≠ _; rw [add_block]; exact Nat.ne_of_lt (Nat.lt_of_lt_of_le (by have := World.block_lt_of_cell? _ _ hw172_1; first | rwa [add_block] at this | exact this) GW175.out)) | (dsimp only; exact Nat.ne_of_lt (Nat.lt_of_lt_of_le (by have := World.block_lt_of_cell? _ _ hw172_1; first | rwa [add_block] at this | exact this) GW175.out))) _).trans (hHeld.2.2.2))))⟩ (fun hHeld => ?_)
      clear hK K
      refine one_ (i := 11) (N := none) #[true, true, true, true, true, true, true, true, true, true, true, true] rfl rfl (one_of HT_.out (by kernel_rfl)) (by decide) (fun K hK => ?_)
      have hs21 : w18.cell? ⟨gb176, 0, none⟩ = some (.int .i64 0) := (blk_cell BK176.out 0).trans rfl
      have hfs21 := blk_frozen BK176.out 0
      have hns21_0 := NB167_176.out
      have hns21_1 := NB168_176.out
      have hns21_2 := NB175_176.out
      have hms21_0 := NB176_167.out
      have hms21_1 := NB176_168.out
      have hms21_2 := NB176_175.out
      have hs22 : w18.cell? ⟨gb176, 1, none⟩ = some (.int .i64 0) := (blk_cell BK176.out 1).trans rfl
      have hfs22 := blk_frozen BK176.out 1
      have hns22_0 := NB167_176.out
      have hns22_1 := NB168_176.out
      have hns22_2 := NB175_176.out
      have hms22_0 := NB176_167.out
      have hms22_1 := NB176_168.out
      have hms22_2 := NB176_175.out
      refine skip_ (w1 := ?_) (by rfl) rfl ?_ ?_
      rotate_left
      · go_simp
        rfl
      refine hK.out _ _ ⟨((cell_far (p := ⟨gb176, _, none⟩) (by first | exact Nat.ne_of_lt (Nat.lt_of_lt_of_le (by have := World.block_lt_of_cell? _ _ hw169_0; first | rwa [add_block] at this | exact this) GW176.out) | (rw [add_block]; exact Nat.ne_of_lt (Nat.lt_of_lt_of_le (by have := World.block_lt_of_cell? _ _ hw169_0; first | rwa [add_block] at this | exact this) GW176.out)) | (show (Addr.add _ _).block ≠ _; rw [add_block]; exact Nat.ne_of_lt (Nat.lt_of_lt_of_le (by have := World.block_lt_of_cell? _ _ hw169_0; first | rwa [add_block] at this | exact this) GW176.out)) | (dsimp only; exact Nat.ne_of_lt (Nat.lt_of_lt_of_le (by have := World.block_lt_of_cell? _ _ hw169_0; first | rwa [add_block] at this | exact this) GW176.out))) _).trans (((cell_far (p := ⟨gb176, _, none⟩) (by first | exact Nat.ne_of_lt (Nat.lt_of_lt_of_le (by have := World.block_lt_of_cell? _ _ hw169_0; first | rwa [add_block] at this | exact this) GW176.out) | (rw [add_block]; exact Nat.ne_of_lt (Nat.lt_of_lt_of_le (by have := World.block_lt_of_cell? _ _ hw169_0; first | rwa [add_block] at this | exact this) GW176.out)) | (show (Addr.add _ _).block ≠ _; rw [add_block]; exact Nat.ne_of_lt (Nat.lt_of_lt_of_le (by have := World.block_lt_of_cell? _ _ hw169_0; first | rwa [add_block] at this | exact this) GW176.out)) | (dsimp only; exact Nat.ne_of_lt (Nat.lt_of_lt_of_le (by have := World.block_lt_of_cell? _ _ hw169_0; first | rwa [add_block] at this | exact this) GW176.out))) _).trans (hHeld.1)))), ((cell_far (p := ⟨gb176, _, none⟩) (by first | exact Nat.ne_of_lt (Nat.lt_of_lt_of_le (by have := World.block_lt_of_cell? _ _ hw169_1; first | rwa [add_block] at this | exact this) GW176.out) | (rw [add_block]; exact Nat.ne_of_lt (Nat.lt_of_lt_of_le (by have := World.block_lt_of_cell? _ _ hw169_1; first | rwa [add_block] at this | exact this) GW176.out)) | (show (Addr.add _ _).block ≠ _; rw [add_block]; exact Nat.ne_of_lt (Nat.lt_of_lt_of_le (by have := World.block_lt_of_cell? _ _ hw169_1; first | rwa [add_block] at this | exact this) GW176.out)) | (dsimp only; exact Nat.ne_of_lt (Nat.lt_of_lt_of_le (by have := World.block_lt_of_cell? _ _ hw169_1; first | rwa [add_block] at this | exact this) GW176.out))) _).trans (((cell_far (p := ⟨gb176, _, none⟩) (by first | exact Nat.ne_of_lt (Nat.lt_of_lt_of_le (by have := World.block_lt_of_cell? _ _ hw169_1; first | rwa [add_block] at this | exact this) GW176.out) | (rw [add_block]; exact Nat.ne_of_lt (Nat.lt_of_lt_of_le (by have := World.block_lt_of_cell? _ _ hw169_1; first | rwa [add_block] at this | exact this) GW176.out)) | (show (Addr.add _ _).block ≠ _; rw [add_block]; exact Nat.ne_of_lt (Nat.lt_of_lt_of_le (by have := World.block_lt_of_cell? _ _ hw169_1; first | rwa [add_block] at this | exact this) GW176.out)) | (dsimp only; exact Nat.ne_of_lt (Nat.lt_of_lt_of_le (by have := World.block_lt_of_cell? _ _ hw169_1; first | rwa [add_block] at this | exact this) GW176.out))) _).trans (hHeld.2.1)))), ((cell_far (p := ⟨gb176, _, none⟩) (by first | exact Nat.ne_of_lt (Nat.lt_of_lt_of_le (by have := World.block_lt_of_cell? _ _ hw172_0; first | rwa [add_block] at this | exact this) GW176.out) | (rw [add_block]; exact Nat.ne_of_lt (Nat.lt_of_lt_of_le (by have := World.block_lt_of_cell? _ _ hw172_0; first | rwa [add_block] at this | exact this) GW176.out)) | (show (Addr.add _ _).block ≠ _; rw [add_block]; exact Nat.ne_of_lt (Nat.lt_of_lt_of_le (by have := World.block_lt_of_cell? _ _ hw172_0; first | rwa [add_block] at this | exact this) GW176.out)) | (dsimp only; exact Nat.ne_of_lt (Nat.lt_of_lt_of_le (by have := World.block_lt_of_cell? _ _ hw172_0; first | rwa [add_block] at this | exact this) GW176.out))) _).trans (((cell_far (p := ⟨gb176, _, none⟩) (by first | exact Nat.ne_of_lt (Nat.lt_of_lt_of_le (by have := World.block_lt_of_cell? _ _ hw172_0; first | rwa [add_block] at this | exact this) GW176.out) | (rw [add_block]; exact Nat.ne_of_lt (Nat.lt_of_lt_of_le (by have := World.block_lt_of_cell? _ _ hw172_0; first | rwa [add_block] at this | exact this) GW176.out)) | (show (Addr.add _ _).block ≠ _; rw [add_block]; exact Nat.ne_of_lt (Nat.lt_of_lt_of_le (by have := World.block_lt_of_cell? _ _ hw172_0; first | rwa [add_block] at this | exact this) GW176.out)) | (dsimp only; exact Nat.ne_of_lt (Nat.lt_of_lt_of_le (by have := World.block_lt_of_cell? _ _ hw172_0; first | rwa [add_block] at this | exact this) GW176.out))) _).trans (hHeld.2.2.1)))), ((cell_far (p := ⟨gb176, _, none⟩) (by first | exact Nat.ne_of_lt (Nat.lt_of_lt_of_le (by have := World.block_lt_of_cell? _ _ hw172_1; first | rwa [add_block] at this | exact this) GW176.out) | (rw [add_block]; exact Nat.ne_of_lt (Nat.lt_of_lt_of_le (by have := World.block_lt_of_cell? _ _ hw172_1; first | rwa [add_block] at this | exact this) GW176.out)) | (show (Addr.add _ _).block ≠ _; rw [add_block]; exact Nat.ne_of_lt (Nat.lt_of_lt_of_le (by have := World.block_lt_of_cell? _ _ hw172_1; first | rwa [add_block] at this | exact this) GW176.out)) | (dsimp only; exact Nat.ne_of_lt (Nat.lt_of_lt_of_le (by have := World.block_lt_of_cell? _ _ hw172_1; first | rwa [add_block] at this | exact this) GW176.out))) _).trans (((cell_far (p := ⟨gb176, _, none⟩) (by first | exact Nat.ne_of_lt (Nat.lt_of_lt_of_le (by have := World.block_lt_of_cell? _ _ hw172_1; first | rwa [add_block] at this | exact this) GW176.out) | (rw [add_block]; exact Nat.ne_of_lt (Nat.lt_of_lt_of_le (by have := World.block_lt_of_cell? _ _ hw172_1; first | rwa [add_block] at this | exact this) GW176.out)) | (show (Addr.add _ _).block ≠ _; rw [add_block]; exact Nat.ne_of_lt (Nat.lt_of_lt_of_le (by have := World.block_lt_of_cell? _ _ hw172_1; first | rwa [add_block] at this | exact this) GW176.out)) | (dsimp only; exact Nat.ne_of_lt (Nat.lt_of_lt_of_le (by have := World.block_lt_of_cell? _ _ hw172_1; first | rwa [add_block] at this | exact this) GW176.out))) _).trans (hHeld.2.2.2))))⟩ (fun hHeld => ?_)
      clear hK K
      refine done_ (done_of HT_.out (by kernel_rfl)) ?_
      try go_wp2
      go_loopg [7] k (fun kq v7 w' => ∃ (x7_1 : Int) (x176000_1 : Int) (x176001_1 : Int) (x177000_1 : Int) (x177001_1 : Int), v7 = .int .i64 x7_1 ∧ Aside0 (terrierref9_Box.l0 kq l0 x7_1 x176000_1 x176001_1 x177000_1 x177001_1 = some (r1, r2, r3, r4, r5)) ∧ Aside0 (kq ≤ k) ∧ Aside0 (w'.heap[gb167]? = some (.cells #[.int .i64 0, .int .i64 0] 23 (0, 0))) ∧ Aside0 (w'.heap[gb168]? = some (.cells #[.int .i64 0, .int .i64 0] 23 (0, 0))) ∧ Aside0 (w'.heap[gb175]? = some (.cells #[.int .i64 x176000_1, .int .i64 x176001_1] 23 (0, 0))) ∧ Aside0 (w'.heap[gb176]? = some (.cells #[.int .i64 x177000_1, .int .i64 x177001_1] 23 (0, 0))) ∧ Aside0 (Below w.heap.size w w'))
      case atStart => exact ⟨(0), (t170), (t171), (t173), (t174), (by first | rfl | (simp; done) | (simp [*]; done)), H', ⟨Nat.le_refl _⟩, ⟨by (with_reducible repeat (first | refine blk_drewN ?_ _ | refine blk_drew ?_ | refine blk_alloc ?_ _)); refine blk_far ?_ NB167_176.out _; (with_reducible repeat (first | refine blk_drewN ?_ _ | refine blk_drew ?_ | refine blk_alloc ?_ _)); refine blk_far ?_ NB167_176.out _; (with_reducible repeat (first | refine blk_drewN ?_ _ | refine blk_drew ?_ | refine blk_alloc ?_ _)); refine blk_far ?_ NB167_175.out _; (with_reducible repeat (first | refine blk_drewN ?_ _ | refine blk_drew ?_ | refine blk_alloc ?_ _)); refine blk_far ?_ NB167_175.out _; (with_reducible repeat (first | refine blk_drewN ?_ _ | refine blk_drew ?_ | refine blk_alloc ?_ _)); exact BK167.out⟩, ⟨by (with_reducible repeat (first | refine blk_drewN ?_ _ | refine blk_drew ?_ | refine blk_alloc ?_ _)); refine blk_far ?_ NB168_176.out _; (with_reducible repeat (first | refine blk_drewN ?_ _ | refine blk_drew ?_ | refine blk_alloc ?_ _)); refine blk_far ?_ NB168_176.out _; (with_reducible repeat (first | refine blk_drewN ?_ _ | refine blk_drew ?_ | refine blk_alloc ?_ _)); refine blk_far ?_ NB168_175.out _; (with_reducible repeat (first | refine blk_drewN ?_ _ | refine blk_drew ?_ | refine blk_alloc ?_ _)); refine blk_far ?_ NB168_175.out _; (with_reducible repeat (first | refine blk_drewN ?_ _ | refine blk_drew ?_ | refine blk_alloc ?_ _)); exact BK168.out⟩, ⟨by (with_reducible repeat (first | refine blk_drewN ?_ _ | refine blk_drew ?_ | refine blk_alloc ?_ _)); refine blk_far ?_ NB175_176.out _; (with_reducible repeat (first | refine blk_drewN ?_ _ | refine blk_drew ?_ | refine blk_alloc ?_ _)); refine blk_far ?_ NB175_176.out _; (with_reducible repeat (first | refine blk_drewN ?_ _ | refine blk_drew ?_ | refine blk_alloc ?_ _)); refine blk_put (cs := #[.int .i64 t170, .int .i64 0]) ?_ 1 _ rfl; (with_reducible repeat (first | refine blk_drewN ?_ _ | refine blk_drew ?_ | refine blk_alloc ?_ _)); refine blk_put (cs := #[.int .i64 0, .int .i64 0]) ?_ 0 _ rfl; (with_reducible repeat (first | refine blk_drewN ?_ _ | refine blk_drew ?_ | refine blk_alloc ?_ _)); exact BK175.out⟩, ⟨by (with_reducible repeat (first | refine blk_drewN ?_ _ | refine blk_drew ?_ | refine blk_alloc ?_ _)); refine blk_put (cs := #[.int .i64 t173, .int .i64 0]) ?_ 1 _ rfl; (with_reducible repeat (first | refine blk_drewN ?_ _ | refine blk_drew ?_ | refine blk_alloc ?_ _)); refine blk_put (cs := #[.int .i64 0, .int .i64 0]) ?_ 0 _ rfl; (with_reducible repeat (first | refine blk_drewN ?_ _ | refine blk_drew ?_ | refine blk_alloc ?_ _)); refine blk_far ?_ NB176_175.out _; (with_reducible repeat (first | refine blk_drewN ?_ _ | refine blk_drew ?_ | refine blk_alloc ?_ _)); refine blk_far ?_ NB176_175.out _; (with_reducible repeat (first | refine blk_drewN ?_ _ | refine blk_drew ?_ | refine blk_alloc ?_ _)); exact BK176.out⟩, ⟨by repeat (first | (with_reducible first | exact HB.out | apply below_alloc | apply pw_below_drewN | apply below_drew1 | refine below_set ?_ GE167.out | refine below_set ?_ GE168.out | refine below_set ?_ GE175.out | refine below_set ?_ GE176.out) | exact HB.out)⟩⟩
      case round =>
        clear H'
        try clear p2
        try clear c3
        obtain ⟨x7_1, x176000_1, x176001_1, x177000_1, x177001_1, rfl, HA, HK1, BK167, BK168, BK175, BK176, HB⟩ := hrel
        cases gk with
        | zero => exact absurd HA.out (by simp [terrierref9_Box.l0])
        | succ k1 =>
          have H := HA.out
          clear HA
          simp only [terrierref9_Box.l0] at H
          by_cases c23 : x7_1 < (l0.length : Int)
          · rw [if_pos c23] at H
            have c23b0 : decide (x7_1 < (l0.length : Int)) = true := decide_eq_true c23
            clear c23
            by_cases c24 : 0 ≤ x7_1
            · rw [if_pos c24] at H
              have c24b0 : decide (0 ≤ x7_1) = true := decide_eq_true c24
              clear c24
              replace H := Option.bind_eq_some_iff.mp H
              obtain ⟨⟨t178, t179⟩, A250, H⟩ := H
              replace H : (terrierref9_Box.l0 k1 l0 (wrap64 (x7_1 + 1)) (mn x176000_1 t178) (mn x176001_1 t179) (mx x177000_1 t178) (mx x177001_1 t179)) = some (r1, r2, r3, r4, r5) := H
              have A25 := Aside0.mk A250
              clear A250
              obtain ⟨ji26, hji26⟩ : ∃ j_ : Int, (mn x176000_1 t178) = j_ := ⟨_, rfl⟩
              replace H : (terrierref9_Box.l0 k1 l0 (wrap64 (x7_1 + 1)) ji26 (mn x176001_1 t179) (mx x177000_1 t178) (mx x177001_1 t179)) = some (r1, r2, r3, r4, r5) := by first | (rw [hji26] at H; exact H) | (simp only [hji26] at H ⊢; exact H)
              (try rw [hji26] at A25)
              have hji26_ : (if t178 < x176000_1 then t178 else x176000_1) = ji26 := hji26
              obtain ⟨ji27, hji27⟩ : ∃ j_ : Int, (mn x176001_1 t179) = j_ := ⟨_, rfl⟩
              replace H : (terrierref9_Box.l0 k1 l0 (wrap64 (x7_1 + 1)) ji26 ji27 (mx x177000_1 t178) (mx x177001_1 t179)) = some (r1, r2, r3, r4, r5) := by first | (rw [hji27] at H; exact H) | (simp only [hji27] at H ⊢; exact H)
              (try rw [hji27] at A25)
              have hji27_ : (if t179 < x176001_1 then t179 else x176001_1) = ji27 := hji27
              obtain ⟨ji28, hji28⟩ : ∃ j_ : Int, (mx x177000_1 t178) = j_ := ⟨_, rfl⟩
              replace H : (terrierref9_Box.l0 k1 l0 (wrap64 (x7_1 + 1)) ji26 ji27 ji28 (mx x177001_1 t179)) = some (r1, r2, r3, r4, r5) := by first | (rw [hji28] at H; exact H) | (simp only [hji28] at H ⊢; exact H)
              (try rw [hji28] at A25)
              have hji28_ : (if x177000_1 < t178 then t178 else x177000_1) = ji28 := hji28
              obtain ⟨ji29, hji29⟩ : ∃ j_ : Int, (mx x177001_1 t179) = j_ := ⟨_, rfl⟩
              replace H : (terrierref9_Box.l0 k1 l0 (wrap64 (x7_1 + 1)) ji26 ji27 ji28 ji29) = some (r1, r2, r3, r4, r5) := by first | (rw [hji29] at H; exact H) | (simp only [hji29] at H ⊢; exact H)
              (try rw [hji29] at A25)
              have hji29_ : (if x177001_1 < t179 then t179 else x177001_1) = ji29 := hji29
              have H' := Aside0.mk H
              clear H
              have p177 : 0 ≤ (x7_1 : Int) := of_decide_eq_true (by first | (with_reducible assumption) | assumption)
              have q177 : x7_1 < (l0.length : Int) := of_decide_eq_true (by first | (with_reducible assumption) | assumption)
              obtain ⟨ad177, e177, hx177_0, hx177_1⟩ := at_T23 HR0.out x7_1 p177 q177
              obtain rfl : ad169 = ad177 := (by injection e177)
              replace hx177_0 := (HB.out.cell (World.block_lt_of_cell? w _ hx177_0)).trans hx177_0
              replace hx177_1 := (HB.out.cell (World.block_lt_of_cell? w _ hx177_1)).trans hx177_1
              replace p177 := eq_true p177
              replace q177 := eq_true q177
              go_wp2_with (first | ((with_reducible refine gate_callee (f := 30) rfl ?_); refine goesL_ (some 32) rfl rfl Try.func30 (by kernel_rfl) rfl #[.agg #[.int .i64 ((rd_T23 l0 x7_1).f0), .int .i64 ((rd_T23 l0 x7_1).f1)]] rfl (by (try simp only [List.map_toArray, List.map_cons, List.map_nil]); first | done | rfl | (simp only [List.length_drop, List.length_take]; rfl)) ?_; (with_reducible refine (terrierref9_Clean.calls ((rd_T23 l0 x7_1).f0) ((rd_T23 l0 x7_1).f1) t178 t179 _ A25.out).mono ?_); rintro e w30 ⟨rfl, hb⟩; refine ⟨_, rfl, ?_⟩; have n0_ := Aside0.mk (blk_below (g := gb167) (o := .cells #[.int .i64 0, .int .i64 0] 23 (0, 0)) (by (with_reducible repeat (first | refine blk_drewN ?_ _ | refine blk_drew ?_ | refine blk_alloc ?_ _)); exact BK167.out) hb); have n1_ := Aside0.mk (blk_below (g := gb168) (o := .cells #[.int .i64 0, .int .i64 0] 23 (0, 0)) (by (with_reducible repeat (first | refine blk_drewN ?_ _ | refine blk_drew ?_ | refine blk_alloc ?_ _)); exact BK168.out) hb); have n2_ := Aside0.mk (blk_below (g := gb175) (o := .cells #[.int .i64 x176000_1, .int .i64 x176001_1] 23 (0, 0)) (by (with_reducible repeat (first | refine blk_drewN ?_ _ | refine blk_drew ?_ | refine blk_alloc ?_ _)); exact BK175.out) hb); have n3_ := Aside0.mk (blk_below (g := gb176) (o := .cells #[.int .i64 x177000_1, .int .i64 x177001_1] 23 (0, 0)) (by (with_reducible repeat (first | refine blk_drewN ?_ _ | refine blk_drew ?_ | refine blk_alloc ?_ _)); exact BK176.out) hb); have n4_ := Aside0.mk (below_step (by repeat (first | (with_reducible first | exact HB.out | apply below_alloc | apply pw_below_drewN | apply below_drew1 | refine below_set ?_ GE167.out | refine below_set ?_ GE168.out | refine below_set ?_ GE175.out | refine below_set ?_ GE176.out) | exact HB.out)) hb); clear BK167; clear BK168; clear BK175; clear BK176; clear HB; have BK167 := n0_; have BK168 := n1_; have BK175 := n2_; have BK176 := n3_; have HB := n4_; clear n0_ n1_ n2_ n3_ n4_; (try clear hb); (try clear hb2); (try clear hk); (try clear hi)) | ((with_reducible refine gate_dst (N := 8) rfl ?_); refine box_event ?hg (N := 8) ?hd (cs := #[.int .i64 0, .int .i64 0]) (t := 23) ?hr ?_; (case hd => rfl); (case hg => rfl); (case hr => first | (go_simp; done) | (go_simp; rfl)); intro gb180 hg w31 hbox hb; have n0_ := Aside0.mk (blk_below (g := gb167) (o := .cells #[.int .i64 0, .int .i64 0] 23 (0, 0)) (by (with_reducible repeat (first | refine blk_drewN ?_ _ | refine blk_drew ?_ | refine blk_alloc ?_ _)); exact BK167.out) hb); have n1_ := Aside0.mk (blk_below (g := gb168) (o := .cells #[.int .i64 0, .int .i64 0] 23 (0, 0)) (by (with_reducible repeat (first | refine blk_drewN ?_ _ | refine blk_drew ?_ | refine blk_alloc ?_ _)); exact BK168.out) hb); have n2_ := Aside0.mk (blk_below (g := gb175) (o := .cells #[.int .i64 x176000_1, .int .i64 x176001_1] 23 (0, 0)) (by (with_reducible repeat (first | refine blk_drewN ?_ _ | refine blk_drew ?_ | refine blk_alloc ?_ _)); exact BK175.out) hb); have n3_ := Aside0.mk (blk_below (g := gb176) (o := .cells #[.int .i64 x177000_1, .int .i64 x177001_1] 23 (0, 0)) (by (with_reducible repeat (first | refine blk_drewN ?_ _ | refine blk_drew ?_ | refine blk_alloc ?_ _)); exact BK176.out) hb); have n4_ := Aside0.mk (below_step (by repeat (first | (with_reducible first | exact HB.out | apply below_alloc | apply pw_below_drewN | apply below_drew1 | refine below_set ?_ GE167.out | refine below_set ?_ GE168.out | refine below_set ?_ GE175.out | refine below_set ?_ GE176.out) | exact HB.out)) hb); have n5_ := Aside0.mk (hbox); have n6_ := Aside0.mk ((by rw [hg]; exact (below_size (by repeat (first | (with_reducible first | exact HB.out | apply below_alloc | apply pw_below_drewN | apply below_drew1 | refine below_set ?_ GE167.out | refine below_set ?_ GE168.out | refine below_set ?_ GE175.out | refine below_set ?_ GE176.out) | exact HB.out))) : w.heap.size ≤ gb180)); have n7_ := Aside0.mk ((by rw [hg]; exact (below_size (by repeat (first | (with_reducible first | exact HB.out | apply below_alloc | apply pw_below_drewN | apply below_drew1 | refine below_set ?_ GE167.out | refine below_set ?_ GE168.out | refine below_set ?_ GE175.out | refine below_set ?_ GE176.out) | exact HB.out))) : w.heap.size ≤ gb180)); have n8_ := Aside0.mk ((by rw [hg]; exact Nat.ne_of_lt (blk_lt (g := gb167) (o := .cells #[.int .i64 0, .int .i64 0] 23 (0, 0)) (by (with_reducible repeat (first | refine blk_drewN ?_ _ | refine blk_drew ?_ | refine blk_alloc ?_ _)); exact BK167.out)) : gb167 ≠ gb180)); have n9_ := Aside0.mk ((by rw [hg]; exact Nat.ne_of_gt (blk_lt (g := gb167) (o := .cells #[.int .i64 0, .int .i64 0] 23 (0, 0)) (by (with_reducible repeat (first | refine blk_drewN ?_ _ | refine blk_drew ?_ | refine blk_alloc ?_ _)); exact BK167.out)) : gb180 ≠ gb167)); have n10_ := Aside0.mk ((by rw [hg]; exact Nat.ne_of_lt (blk_lt (g := gb168) (o := .cells #[.int .i64 0, .int .i64 0] 23 (0, 0)) (by (with_reducible repeat (first | refine blk_drewN ?_ _ | refine blk_drew ?_ | refine blk_alloc ?_ _)); exact BK168.out)) : gb168 ≠ gb180)); have n11_ := Aside0.mk ((by rw [hg]; exact Nat.ne_of_gt (blk_lt (g := gb168) (o := .cells #[.int .i64 0, .int .i64 0] 23 (0, 0)) (by (with_reducible repeat (first | refine blk_drewN ?_ _ | refine blk_drew ?_ | refine blk_alloc ?_ _)); exact BK168.out)) : gb180 ≠ gb168)); have n12_ := Aside0.mk ((by rw [hg]; exact Nat.ne_of_lt (blk_lt (g := gb175) (o := .cells #[.int .i64 x176000_1, .int .i64 x176001_1] 23 (0, 0)) (by (with_reducible repeat (first | refine blk_drewN ?_ _ | refine blk_drew ?_ | refine blk_alloc ?_ _)); exact BK175.out)) : gb175 ≠ gb180)); have n13_ := Aside0.mk ((by rw [hg]; exact Nat.ne_of_gt (blk_lt (g := gb175) (o := .cells #[.int .i64 x176000_1, .int .i64 x176001_1] 23 (0, 0)) (by (with_reducible repeat (first | refine blk_drewN ?_ _ | refine blk_drew ?_ | refine blk_alloc ?_ _)); exact BK175.out)) : gb180 ≠ gb175)); have n14_ := Aside0.mk ((by rw [hg]; exact Nat.ne_of_lt (blk_lt (g := gb176) (o := .cells #[.int .i64 x177000_1, .int .i64 x177001_1] 23 (0, 0)) (by (with_reducible repeat (first | refine blk_drewN ?_ _ | refine blk_drew ?_ | refine blk_alloc ?_ _)); exact BK176.out)) : gb176 ≠ gb180)); have n15_ := Aside0.mk ((by rw [hg]; exact Nat.ne_of_gt (blk_lt (g := gb176) (o := .cells #[.int .i64 x177000_1, .int .i64 x177001_1] 23 (0, 0)) (by (with_reducible repeat (first | refine blk_drewN ?_ _ | refine blk_drew ?_ | refine blk_alloc ?_ _)); exact BK176.out)) : gb180 ≠ gb176)); clear BK167; clear BK168; clear BK175; clear BK176; clear HB; have BK167 := n0_; have BK168 := n1_; have BK175 := n2_; have BK176 := n3_; have HB := n4_; have BK180 := n5_; have GW180 := n6_; have GE180 := n7_; have NB167_180 := n8_; have NB180_167 := n9_; have NB168_180 := n10_; have NB180_168 := n11_; have NB175_180 := n12_; have NB180_175 := n13_; have NB176_180 := n14_; have NB180_176 := n15_; clear n0_ n1_ n2_ n3_ n4_ n5_ n6_ n7_ n8_ n9_ n10_ n11_ n12_ n13_ n14_ n15_; clear hb hbox hg; have hnb32 := NB180_167.out; have hnc32 := NB167_180.out; have hnb33 := NB180_168.out; have hnc33 := NB168_180.out; have hnb34 := NB180_175.out; have hnc34 := NB175_180.out; have hnb35 := NB180_176.out; have hnc35 := NB176_180.out; have hcz36_0 : w31.cell? ⟨gb180, 0, none⟩ = some (.int .i64 0) := (blk_cell BK180.out 0).trans rfl; have hcz36_1 : w31.cell? ⟨gb180, 1, none⟩ = some (.int .i64 0) := (blk_cell BK180.out 1).trans rfl; have hfz36_0 := blk_frozen BK180.out 0; have hfz36_1 := blk_frozen BK180.out 1; have hnb37 := NB175_167.out; have hnc37 := NB167_175.out; have hnb38 := NB175_168.out; have hnc38 := NB168_175.out; have hnb39 := NB175_176.out; have hnc39 := NB176_175.out; have hcz40_0 : w31.cell? ⟨gb175, 0, none⟩ = some (.int .i64 x176000_1) := (blk_cell BK175.out 0).trans rfl; have hcz40_1 : w31.cell? ⟨gb175, 1, none⟩ = some (.int .i64 x176001_1) := (blk_cell BK175.out 1).trans rfl; have hfz40_0 := blk_frozen BK175.out 0; have hfz40_1 := blk_frozen BK175.out 1; have hnb41 := NB176_167.out; have hnc41 := NB167_176.out; have hnb42 := NB176_168.out; have hnc42 := NB168_176.out; have hcz43_0 : w31.cell? ⟨gb176, 0, none⟩ = some (.int .i64 x177000_1) := (blk_cell BK176.out 0).trans rfl; have hcz43_1 : w31.cell? ⟨gb176, 1, none⟩ = some (.int .i64 x177001_1) := (blk_cell BK176.out 1).trans rfl; have hfz43_0 := blk_frozen BK176.out 0; have hfz43_1 := blk_frozen BK176.out 1))
              go_roundg k1
              case measure => have := HK1.out; omega
              case rel => exact ⟨(wrap64 (x7_1 + 1)), (ji26), (ji27), (ji28), (ji29), (by first | rfl | (simp; done) | (simp [*]; done)), H', ⟨by have := HK1.out; omega⟩, ⟨by (with_reducible repeat (first | refine blk_drewN ?_ _ | refine blk_drew ?_ | refine blk_alloc ?_ _)); refine blk_far ?_ NB167_176.out _; (with_reducible repeat (first | refine blk_drewN ?_ _ | refine blk_drew ?_ | refine blk_alloc ?_ _)); refine blk_far ?_ NB167_176.out _; (with_reducible repeat (first | refine blk_drewN ?_ _ | refine blk_drew ?_ | refine blk_alloc ?_ _)); refine blk_far ?_ NB167_175.out _; (with_reducible repeat (first | refine blk_drewN ?_ _ | refine blk_drew ?_ | refine blk_alloc ?_ _)); refine blk_far ?_ NB167_175.out _; (with_reducible repeat (first | refine blk_drewN ?_ _ | refine blk_drew ?_ | refine blk_alloc ?_ _)); refine blk_far ?_ NB167_180.out _; (with_reducible repeat (first | refine blk_drewN ?_ _ | refine blk_drew ?_ | refine blk_alloc ?_ _)); refine blk_far ?_ NB167_180.out _; (with_reducible repeat (first | refine blk_drewN ?_ _ | refine blk_drew ?_ | refine blk_alloc ?_ _)); exact BK167.out⟩, ⟨by (with_reducible repeat (first | refine blk_drewN ?_ _ | refine blk_drew ?_ | refine blk_alloc ?_ _)); refine blk_far ?_ NB168_176.out _; (with_reducible repeat (first | refine blk_drewN ?_ _ | refine blk_drew ?_ | refine blk_alloc ?_ _)); refine blk_far ?_ NB168_176.out _; (with_reducible repeat (first | refine blk_drewN ?_ _ | refine blk_drew ?_ | refine blk_alloc ?_ _)); refine blk_far ?_ NB168_175.out _; (with_reducible repeat (first | refine blk_drewN ?_ _ | refine blk_drew ?_ | refine blk_alloc ?_ _)); refine blk_far ?_ NB168_175.out _; (with_reducible repeat (first | refine blk_drewN ?_ _ | refine blk_drew ?_ | refine blk_alloc ?_ _)); refine blk_far ?_ NB168_180.out _; (with_reducible repeat (first | refine blk_drewN ?_ _ | refine blk_drew ?_ | refine blk_alloc ?_ _)); refine blk_far ?_ NB168_180.out _; (with_reducible repeat (first | refine blk_drewN ?_ _ | refine blk_drew ?_ | refine blk_alloc ?_ _)); exact BK168.out⟩, ⟨by (with_reducible repeat (first | refine blk_drewN ?_ _ | refine blk_drew ?_ | refine blk_alloc ?_ _)); refine blk_far ?_ NB175_176.out _; (with_reducible repeat (first | refine blk_drewN ?_ _ | refine blk_drew ?_ | refine blk_alloc ?_ _)); refine blk_far ?_ NB175_176.out _; (with_reducible repeat (first | refine blk_drewN ?_ _ | refine blk_drew ?_ | refine blk_alloc ?_ _)); refine blk_put (cs := #[.int .i64 ji26, .int .i64 x176001_1]) ?_ 1 _ rfl; (with_reducible repeat (first | refine blk_drewN ?_ _ | refine blk_drew ?_ | refine blk_alloc ?_ _)); refine blk_put (cs := #[.int .i64 x176000_1, .int .i64 x176001_1]) ?_ 0 _ rfl; (with_reducible repeat (first | refine blk_drewN ?_ _ | refine blk_drew ?_ | refine blk_alloc ?_ _)); refine blk_far ?_ NB175_180.out _; (with_reducible repeat (first | refine blk_drewN ?_ _ | refine blk_drew ?_ | refine blk_alloc ?_ _)); refine blk_far ?_ NB175_180.out _; (with_reducible repeat (first | refine blk_drewN ?_ _ | refine blk_drew ?_ | refine blk_alloc ?_ _)); exact BK175.out⟩, ⟨by (with_reducible repeat (first | refine blk_drewN ?_ _ | refine blk_drew ?_ | refine blk_alloc ?_ _)); refine blk_put (cs := #[.int .i64 ji28, .int .i64 x177001_1]) ?_ 1 _ rfl; (with_reducible repeat (first | refine blk_drewN ?_ _ | refine blk_drew ?_ | refine blk_alloc ?_ _)); refine blk_put (cs := #[.int .i64 x177000_1, .int .i64 x177001_1]) ?_ 0 _ rfl; (with_reducible repeat (first | refine blk_drewN ?_ _ | refine blk_drew ?_ | refine blk_alloc ?_ _)); refine blk_far ?_ NB176_175.out _; (with_reducible repeat (first | refine blk_drewN ?_ _ | refine blk_drew ?_ | refine blk_alloc ?_ _)); refine blk_far ?_ NB176_175.out _; (with_reducible repeat (first | refine blk_drewN ?_ _ | refine blk_drew ?_ | refine blk_alloc ?_ _)); refine blk_far ?_ NB176_180.out _; (with_reducible repeat (first | refine blk_drewN ?_ _ | refine blk_drew ?_ | refine blk_alloc ?_ _)); refine blk_far ?_ NB176_180.out _; (with_reducible repeat (first | refine blk_drewN ?_ _ | refine blk_drew ?_ | refine blk_alloc ?_ _)); exact BK176.out⟩, ⟨by repeat (first | (with_reducible first | exact HB.out | apply below_alloc | apply pw_below_drewN | apply below_drew1 | refine below_set ?_ GE167.out | refine below_set ?_ GE168.out | refine below_set ?_ GE175.out | refine below_set ?_ GE176.out | refine below_set ?_ GE180.out) | exact HB.out)⟩⟩
            · rw [if_neg c24] at H
              exact absurd H (by simp)
          · rw [if_neg c23] at H
            have c23b0 : decide (x7_1 < (l0.length : Int)) = false := decide_eq_false c23
            clear c23
            simp only [Option.some.injEq, Prod.mk.injEq] at H
            obtain ⟨rfl, rfl, rfl, rfl, rfl⟩ := H
            try go_wp2
            have n0_ := Aside0.mk (blk_drew BK167.out)
            have n1_ := Aside0.mk (blk_drew BK168.out)
            have n2_ := Aside0.mk (blk_drew BK175.out)
            have n3_ := Aside0.mk (blk_drew BK176.out)
            have n4_ := Aside0.mk (below_drew1 HB.out)
            clear BK167
            clear BK168
            clear BK175
            clear BK176
            clear HB
            have BK167 := n0_
            have BK168 := n1_
            have BK175 := n2_
            have BK176 := n3_
            have HB := n4_
            clear n0_ n1_ n2_ n3_ n4_
            refine start_ (n := 5) (S := fun w' => w'.cell? ⟨gb175, 0, none⟩ = some (.int .i64 x176000_1) ∧ w'.cell? ⟨gb175, 1, none⟩ = some (.int .i64 x176001_1) ∧ w'.cell? ⟨gb176, 0, none⟩ = some (.int .i64 x177000_1) ∧ w'.cell? ⟨gb176, 1, none⟩ = some (.int .i64 x177001_1)) (ds := []) #[false, false, false, false, false] (by kernel_rfl) rfl rfl ⟨(blk_cell BK175.out 0).trans rfl, (blk_cell BK175.out 1).trans rfl, (blk_cell BK176.out 0).trans rfl, (blk_cell BK176.out 1).trans rfl⟩ (fun hHeld => ?_)
            generalize wr.drew = w44 at BK167 BK168 BK175 BK176 HB hHeld ⊢
            refine take_ (i := 0) (N := some 55) (v := ?_) (a' := ?_) #[true, false, false, false, false] rfl rfl (by kernel_rfl) (fun _ _ _ h => h) (Or.inl ⟨by rfl, ?_⟩) hHeld ?_ ?_
            rotate_left
            · rintro w' ⟨s0, s1, s2, s3⟩
              go_simp
              with_reducible rfl
            rotate_left
            · simp only [Act.put, List.setIfInBounds_toArray, List.set_cons_zero, List.set_cons_succ, i64_w, i32_w]
              rfl
            refine take_ (i := 1) (N := some 56) (v := ?_) (a' := ?_) #[true, true, false, false, false] rfl rfl (by kernel_rfl) (fun _ _ _ h => h) (Or.inl ⟨by rfl, ?_⟩) hHeld ?_ ?_
            rotate_left
            · rintro w' ⟨s0, s1, s2, s3⟩
              go_simp
              with_reducible rfl
            rotate_left
            · simp only [Act.put, List.setIfInBounds_toArray, List.set_cons_zero, List.set_cons_succ, i64_w, i32_w]
              rfl
            refine one_ (i := 2) (N := none) #[true, true, true, false, false] rfl rfl (by kernel_rfl) (by decide) (fun K hK => ?_)
            have hs45 : w44.cell? ⟨gb167, 0, none⟩ = some (.int .i64 0) := (blk_cell BK167.out 0).trans rfl
            have hfs45 := blk_frozen BK167.out 0
            have hns45_1 := NB168_167.out
            have hns45_2 := NB175_167.out
            have hns45_3 := NB176_167.out
            have hms45_1 := NB167_168.out
            have hms45_2 := NB167_175.out
            have hms45_3 := NB167_176.out
            have hs46 : w44.cell? ⟨gb167, 1, none⟩ = some (.int .i64 0) := (blk_cell BK167.out 1).trans rfl
            have hfs46 := blk_frozen BK167.out 1
            have hns46_1 := NB168_167.out
            have hns46_2 := NB175_167.out
            have hns46_3 := NB176_167.out
            have hms46_1 := NB167_168.out
            have hms46_2 := NB167_175.out
            have hms46_3 := NB167_176.out
            refine skip_ (w1 := ?_) (by rfl) rfl ?_ ?_
            rotate_left
            · go_simp
              rfl
            refine hK.out _ _ ⟨((cell_far (p := ⟨gb167, _, none⟩) NB175_167.out _).trans (((cell_far (p := ⟨gb167, _, none⟩) NB175_167.out _).trans (hHeld.1)))), ((cell_far (p := ⟨gb167, _, none⟩) NB175_167.out _).trans (((cell_far (p := ⟨gb167, _, none⟩) NB175_167.out _).trans (hHeld.2.1)))), ((cell_far (p := ⟨gb167, _, none⟩) NB176_167.out _).trans (((cell_far (p := ⟨gb167, _, none⟩) NB176_167.out _).trans (hHeld.2.2.1)))), ((cell_far (p := ⟨gb167, _, none⟩) NB176_167.out _).trans (((cell_far (p := ⟨gb167, _, none⟩) NB176_167.out _).trans (hHeld.2.2.2))))⟩ (fun hHeld => ?_)
            clear hK K
            refine one_ (i := 3) (N := none) #[true, true, true, true, false] rfl rfl (by kernel_rfl) (by decide) (fun K hK => ?_)
            have hs47 : w44.cell? ⟨gb168, 0, none⟩ = some (.int .i64 0) := (blk_cell BK168.out 0).trans rfl
            have hfs47 := blk_frozen BK168.out 0
            have hns47_0 := NB167_168.out
            have hns47_2 := NB175_168.out
            have hns47_3 := NB176_168.out
            have hms47_0 := NB168_167.out
            have hms47_2 := NB168_175.out
            have hms47_3 := NB168_176.out
            have hs48 : w44.cell? ⟨gb168, 1, none⟩ = some (.int .i64 0) := (blk_cell BK168.out 1).trans rfl
            have hfs48 := blk_frozen BK168.out 1
            have hns48_0 := NB167_168.out
            have hns48_2 := NB175_168.out
            have hns48_3 := NB176_168.out
            have hms48_0 := NB168_167.out
            have hms48_2 := NB168_175.out
            have hms48_3 := NB168_176.out
            refine skip_ (w1 := ?_) (by rfl) rfl ?_ ?_
            rotate_left
            · go_simp
              rfl
            refine hK.out _ _ ⟨((cell_far (p := ⟨gb168, _, none⟩) NB175_168.out _).trans (((cell_far (p := ⟨gb168, _, none⟩) NB175_168.out _).trans (hHeld.1)))), ((cell_far (p := ⟨gb168, _, none⟩) NB175_168.out _).trans (((cell_far (p := ⟨gb168, _, none⟩) NB175_168.out _).trans (hHeld.2.1)))), ((cell_far (p := ⟨gb168, _, none⟩) NB176_168.out _).trans (((cell_far (p := ⟨gb168, _, none⟩) NB176_168.out _).trans (hHeld.2.2.1)))), ((cell_far (p := ⟨gb168, _, none⟩) NB176_168.out _).trans (((cell_far (p := ⟨gb168, _, none⟩) NB176_168.out _).trans (hHeld.2.2.2))))⟩ (fun hHeld => ?_)
            clear hK K
            refine pure_ (i := 4) (N := some 4) (v := ?_) (a' := ?_) #[true, true, true, true, true] rfl rfl (by kernel_rfl) (fun _ _ _ h => h) (Or.inl ⟨by rfl, ?_⟩) ?_ ?_
            rotate_left
            · intro w'
              go_simp
              with_reducible rfl
            rotate_left
            · simp only [Act.put, List.setIfInBounds_toArray, List.set_cons_zero, List.set_cons_succ, i64_w, i32_w]
              rfl
            refine done_ (by kernel_rfl) ?_
            try go_wp2
            refine bodyPost_ret (results_list (rs := [.cell 2 23, .cell 3 23, .tmp 4]) rfl (by simp) (.cell gb167 23 #[.int .i64 x176000_1, .int .i64 x176001_1] (0, 0) _ rfl (by (with_reducible repeat (first | refine blk_drewN ?_ _ | refine blk_drew ?_ | refine blk_alloc ?_ _)); refine blk_far ?_ NB167_168.out _; (with_reducible repeat (first | refine blk_drewN ?_ _ | refine blk_drew ?_ | refine blk_alloc ?_ _)); refine blk_far ?_ NB167_168.out _; (with_reducible repeat (first | refine blk_drewN ?_ _ | refine blk_drew ?_ | refine blk_alloc ?_ _)); refine blk_put (cs := #[.int .i64 x176000_1, .int .i64 0]) ?_ 1 _ rfl; (with_reducible repeat (first | refine blk_drewN ?_ _ | refine blk_drew ?_ | refine blk_alloc ?_ _)); refine blk_put (cs := #[.int .i64 0, .int .i64 0]) ?_ 0 _ rfl; (with_reducible repeat (first | refine blk_drewN ?_ _ | refine blk_drew ?_ | refine blk_alloc ?_ _)); exact BK167.out) Try.underlying23 rfl (by kernel_rfl) (.cell gb168 23 #[.int .i64 x177000_1, .int .i64 x177001_1] (0, 0) _ rfl (by (with_reducible repeat (first | refine blk_drewN ?_ _ | refine blk_drew ?_ | refine blk_alloc ?_ _)); refine blk_put (cs := #[.int .i64 x177000_1, .int .i64 0]) ?_ 1 _ rfl; (with_reducible repeat (first | refine blk_drewN ?_ _ | refine blk_drew ?_ | refine blk_alloc ?_ _)); refine blk_put (cs := #[.int .i64 0, .int .i64 0]) ?_ 0 _ rfl; (with_reducible repeat (first | refine blk_drewN ?_ _ | refine blk_drew ?_ | refine blk_alloc ?_ _)); refine blk_far ?_ NB168_167.out _; (with_reducible repeat (first | refine blk_drewN ?_ _ | refine blk_drew ?_ | refine blk_alloc ?_ _)); refine blk_far ?_ NB168_167.out _; (with_reducible repeat (first | refine blk_drewN ?_ _ | refine blk_drew ?_ | refine blk_alloc ?_ _)); exact BK168.out) Try.underlying23 rfl (by kernel_rfl) (.tmp .nil)))) rfl ?_
            exact ⟨by first | rfl | (simp [errW_none, errW_some] <;> rfl) | (simp [*, errW_none, errW_some] <;> rfl), by repeat (first | (with_reducible first | exact HB.out | apply below_alloc | apply pw_below_drewN | apply below_drew1 | refine below_set ?_ GE167.out | refine below_set ?_ GE168.out | refine below_set ?_ GE175.out | refine below_set ?_ GE176.out) | exact HB.out)⟩
    · rw [if_neg c8] at H
      exact absurd H (by simp)

end Go.Proofs.Ytabblkckapdpoaa.PPtBoxes
