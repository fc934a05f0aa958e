/- Proved: the law's function PtMidst tells true wherever its printed form does; a text of print.sh's, cut to that one way, its great region walked by an invariant. -/
import Derived.Test.YtabblkckapdpoaaPPtMidstx0
import Derived.Test.YtabblkckapdpoaaPPtMidstx2
import Derived.Test.YtabblkckapdpoaaPPtMidstx3
import Derived.Test.YtabblkckapdpoaaPPtMidstx4
import Derived.Test.YtabblkckapdpoaaPPtMidstx5
import Derived.Test.YtabblkckapdpoaaLat
namespace Go.Proofs.Ytabblkckapdpoaa.PPtMidst
open Go.RowKit Go.Proofs.YtabblkckapdpoaaW.PrintWords Go.Proofs.YtabblkckapdpoaaW.PrintLast Go.Proofs.YtabblkckapdpoaaW.PrintMore
attribute [local go_sem] max2_int min2_int max_two min_two max_three min_three max_four min_four   -- for this text's walks alone
set_option linter.unusedVariables false
set_option linter.unusedSimpArgs false

/-! ### terrierlaw9_PtMidst: function 7 -/
def terrierlaw9_PtMidst.j0 : Nat → Bool → Int → Int → Int → Int → Int → Int → Int → Int → Option (Bool)
  | 0, _, _, _, _, _, _, _, _, _ => none
  | k + 1, x59, x170000, x170001, x179000, x179001, x180000, x180001, x181000, x181001 => if x59 = true then ((pt_On.f x170000 x170001 x180000 x180001 x179000 x179001).bind fun t181 => (if t181 = true then ((pt_Within.f x170000 x170001 x180000 x180001 x179000 x179001).bind fun t182 => (if t182 = true then (some false) else ((pt_On.f x170000 x170001 x180000 x180001 x181000 x181001).bind fun t183 => (if t183 = true then ((terrierlaw9_awake.f k).bind fun t184 => (some t184)) else (some false))))) else (some false))) else ((pt_On.f x170000 x170001 x180000 x180001 x179000 x179001).bind fun t185 => (if t185 = true then ((pt_Within.f x170000 x170001 x180000 x180001 x179000 x179001).bind fun t186 => (if t186 = true then ((pt_On.f x170000 x170001 x180000 x180001 x180000 x180001).bind fun t187 => (if t187 = true then ((pt_Within.f x170000 x170001 x180000 x180001 x180000 x180001).bind fun t188 => (if t188 = true then (some false) else ((pt_On.f x170000 x170001 x180000 x180001 x181000 x181001).bind fun t189 => (if t189 = true then (some false) else ((pt_Turn.f x170000 x170001 x180000 x180001 x181000 x181001).bind fun t190 => (if t190 = 0 then ((terrierlaw9_awake.f k).bind fun t191 => (some t191)) else (some false))))))) else (some false))) else (some false))) else (some false)))
def terrierlaw9_PtMidst.f (k : Nat) (a0_0 : Int) (a0_1 : Int) (a1 : Int) (a2 : Int) : Option (Bool) := (terrierlaw9_P.f (Int.tmod a0_0 1000) (Int.tmod a0_1 1000)).bind fun bt170 => ((terrierlaw9_P.f (wrap64 (bt170.1 + (Int.tmod a1 1000))) (wrap64 (bt170.2 + (Int.tmod a2 1000)))).bind fun bt172 => ((terrierlaw9_P.f (wrap64 (bt170.1 + (wrap64 (2 * (Int.tmod a1 1000))))) (wrap64 (bt170.2 + (wrap64 (2 * (Int.tmod a2 1000)))))).bind fun bt174 => ((terrierlaw9_P.f (wrap64 (bt170.1 + (wrap64 (3 * (Int.tmod a1 1000))))) (wrap64 (bt170.2 + (wrap64 (3 * (Int.tmod a2 1000)))))).bind fun bt176 => (if (Int.tmod a1 1000) = 0 then (terrierlaw9_PtMidst.j0 k ((Int.tmod a2 1000) == 0) bt170.1 bt170.2 bt172.1 bt172.2 bt174.1 bt174.2 bt176.1 bt176.2) else (terrierlaw9_PtMidst.j0 k false bt170.1 bt170.2 bt172.1 bt172.2 bt174.1 bt174.2 bt176.1 bt176.2)))))
theorem terrierlaw9_PtMidst.mono_l : ∀ k, (∀ y0 y1 y2 y3 y4 y5 y6 y7 y8, LeO (terrierlaw9_PtMidst.j0 k y0 y1 y2 y3 y4 y5 y6 y7 y8) (terrierlaw9_PtMidst.j0 (k + 1) y0 y1 y2 y3 y4 y5 y6 y7 y8))
  | 0 => fun _ _ _ _ _ _ _ _ _ r h => by simp [terrierlaw9_PtMidst.j0] at h
  | k + 1 => by
    have ih0 := terrierlaw9_PtMidst.mono_l k
    · intro y0 y1 y2 y3 y4 y5 y6 y7 y8
      unfold terrierlaw9_PtMidst.j0
      repeat' first
      | (with_reducible exact ih0 _ _ _ _ _ _ _ _ _)
      | (with_reducible exact terrierlaw9_awake.mono _)
      | (with_reducible exact LeO.refl _)
      | (with_reducible exact LeO.none _)
      | (with_reducible refine LeO.ite ?_ ?_)
      | (with_reducible refine LeO.bind ?_ (fun _ => ?_))
      | exact ih0 _ _ _ _ _ _ _ _ _
      | exact terrierlaw9_awake.mono _
      | exact LeO.none _
      | refine LeO.ite ?_ ?_
      | refine LeO.bind ?_ (fun _ => ?_)
theorem terrierlaw9_PtMidst.mono : ∀ a0 a1 a2 a3 k, LeO (terrierlaw9_PtMidst.f k a0 a1 a2 a3) (terrierlaw9_PtMidst.f (k + 1) a0 a1 a2 a3) := by
  intro a0 a1 a2 a3 k
  have ih0 := terrierlaw9_PtMidst.mono_l k
  unfold terrierlaw9_PtMidst.f
  repeat' first
      | (with_reducible exact ih0 _ _ _ _ _ _ _ _ _)
      | (with_reducible exact terrierlaw9_awake.mono _)
      | (with_reducible exact LeO.refl _)
      | (with_reducible exact LeO.none _)
      | (with_reducible refine LeO.ite ?_ ?_)
      | (with_reducible refine LeO.bind ?_ (fun _ => ?_))
      | exact ih0 _ _ _ _ _ _ _ _ _
      | exact terrierlaw9_awake.mono _
      | exact LeO.none _
      | refine LeO.ite ?_ ?_
      | refine LeO.bind ?_ (fun _ => ?_)
def terrierlaw9_PtMidst.T3 : Bool × List (List Nat × List Nat) := (true, [([], []), ([0], [0]), ([], []), ([1, 2], [1, 2]), ([], []), ([4], [4]), ([], []), ([5, 6], [5, 6]), ([3, 7], [3, 7]), ([], []), ([9], [9]), ([], []), ([11], [11]), ([10, 12], [10, 12]), ([], []), ([14], [14]), ([], []), ([16], [16]), ([15, 17], [15, 17]), ([13, 18, 8], [13, 18]), ([], []), ([20], [20]), ([], []), ([22], [22]), ([21, 23], [21, 23]), ([], []), ([25], [25]), ([], []), ([27], [27]), ([26, 28], [26, 28]), ([24, 29, 19], [24, 29]), ([], []), ([], []), ([], []), ([31, 8, 30, 0, 1, 2, 3, 4, 5, 6, 7, 8, 31, 32, 33], [8, 31]), ([32, 19, 34, 0, 1, 2, 3, 4, 5, 6, 7, 8, 9, 10, 11, 12, 13, 14, 15, 16, 17, 18, 19, 31, 32, 33, 34], [19, 32]), ([33, 30, 35, 0, 1, 2, 3, 4, 5, 6, 7, 8, 9, 10, 11, 12, 13, 14, 15, 16, 17, 18, 19, 20, 21, 22, 23, 24, 25, 26, 27, 28, 29, 30, 31, 32, 33, 34, 35], [30, 33])])
def terrierlaw9_PtMidst.B3 : List Nat := [0, 1, 0, 7, 0, 16, 0, 112, 255, 0, 512, 0, 2048, 7680, 0, 16384, 0, 65536, 245760, 524287, 0, 1048576, 0, 4194304, 15728640, 0, 33554432, 0, 134217728, 503316480, 1073741823, 0, 0, 0, 17179869183, 34359738367, 68719476735]
theorem terrierlaw9_PtMidst.tab3 : rtab .any (opsOf Try.f7 3) = terrierlaw9_PtMidst.T3 := by kernel_rfl
theorem terrierlaw9_PtMidst.bits3 : waitsOk terrierlaw9_PtMidst.T3.2 terrierlaw9_PtMidst.B3 = true := by kernel_rfl
set_option maxHeartbeats 8000000 in
set_option maxRecDepth 100000 in
theorem terrierlaw9_PtMidst.calls (k : Nat) (a0_0 : Int) (a0_1 : Int) (a1 : Int) (a2 : Int) (r : Bool) (hr : r = true) (w : World) (h : terrierlaw9_PtMidst.f k a0_0 a0_1 a1 a2 = some r) :
    Calls Try.prog 7 #[.agg #[.int .i64 a0_0, .int .i64 a0_1], .int .i64 a1, .int .i64 a2] w fun e w' => e = .returned (.bool r) ∧ Below w.heap.size w w' := by
  have hu23 := Try.underlying23
  have HB := Aside0.mk (Below.refl w.heap.size w)
  have HR := Aside0.mk hr
  clear hr
  have H : ((terrierlaw9_P.f (Int.tmod a0_0 1000) (Int.tmod a0_1 1000)).bind fun bt170 => ((terrierlaw9_P.f (wrap64 (bt170.1 + (Int.tmod a1 1000))) (wrap64 (bt170.2 + (Int.tmod a2 1000)))).bind fun bt172 => ((terrierlaw9_P.f (wrap64 (bt170.1 + (wrap64 (2 * (Int.tmod a1 1000))))) (wrap64 (bt170.2 + (wrap64 (2 * (Int.tmod a2 1000)))))).bind fun bt174 => ((terrierlaw9_P.f (wrap64 (bt170.1 + (wrap64 (3 * (Int.tmod a1 1000))))) (wrap64 (bt170.2 + (wrap64 (3 * (Int.tmod a2 1000)))))).bind fun bt176 => (if (Int.tmod a1 1000) = 0 then (terrierlaw9_PtMidst.j0 k ((Int.tmod a2 1000) == 0) bt170.1 bt170.2 bt172.1 bt172.2 bt174.1 bt174.2 bt176.1 bt176.2) else (terrierlaw9_PtMidst.j0 k false bt170.1 bt170.2 bt172.1 bt172.2 bt174.1 bt174.2 bt176.1 bt176.2)))))) = some r := h
  clear h
  replace H := Option.bind_eq_some_iff.mp H
  obtain ⟨⟨t170, t171⟩, A40, H⟩ := H
  replace H : ((terrierlaw9_P.f (wrap64 (t170 + (Int.tmod a1 1000))) (wrap64 (t171 + (Int.tmod a2 1000)))).bind fun bt172 => ((terrierlaw9_P.f (wrap64 (t170 + (wrap64 (2 * (Int.tmod a1 1000))))) (wrap64 (t171 + (wrap64 (2 * (Int.tmod a2 1000)))))).bind fun bt174 => ((terrierlaw9_P.f (wrap64 (t170 + (wrap64 (3 * (Int.tmod a1 1000))))) (wrap64 (t171 + (wrap64 (3 * (Int.tmod a2 1000)))))).bind fun bt176 => (if (Int.tmod a1 1000) = 0 then (terrierlaw9_PtMidst.j0 k ((Int.tmod a2 1000) == 0) t170 t171 bt172.1 bt172.2 bt174.1 bt174.2 bt176.1 bt176.2) else (terrierlaw9_PtMidst.j0 k false t170 t171 bt172.1 bt172.2 bt174.1 bt174.2 bt176.1 bt176.2))))) = some r := H
  have A4 := Aside0.mk A40
  clear A40
  replace H := Option.bind_eq_some_iff.mp H
  obtain ⟨⟨t172, t173⟩, A50, H⟩ := H
  replace H : ((terrierlaw9_P.f (wrap64 (t170 + (wrap64 (2 * (Int.tmod a1 1000))))) (wrap64 (t171 + (wrap64 (2 * (Int.tmod a2 1000)))))).bind fun bt174 => ((terrierlaw9_P.f (wrap64 (t170 + (wrap64 (3 * (Int.tmod a1 1000))))) (wrap64 (t171 + (wrap64 (3 * (Int.tmod a2 1000)))))).bind fun bt176 => (if (Int.tmod a1 1000) = 0 then (terrierlaw9_PtMidst.j0 k ((Int.tmod a2 1000) == 0) t170 t171 t172 t173 bt174.1 bt174.2 bt176.1 bt176.2) else (terrierlaw9_PtMidst.j0 k false t170 t171 t172 t173 bt174.1 bt174.2 bt176.1 bt176.2)))) = some r := H
  have A5 := Aside0.mk A50
  clear A50
  replace H := Option.bind_eq_some_iff.mp H
  obtain ⟨⟨t174, t175⟩, A60, H⟩ := H
  replace H : ((terrierlaw9_P.f (wrap64 (t170 + (wrap64 (3 * (Int.tmod a1 1000))))) (wrap64 (t171 + (wrap64 (3 * (Int.tmod a2 1000)))))).bind fun bt176 => (if (Int.tmod a1 1000) = 0 then (terrierlaw9_PtMidst.j0 k ((Int.tmod a2 1000) == 0) t170 t171 t172 t173 t174 t175 bt176.1 bt176.2) else (terrierlaw9_PtMidst.j0 k false t170 t171 t172 t173 t174 t175 bt176.1 bt176.2))) = some r := H
  have A6 := Aside0.mk A60
  clear A60
  replace H := Option.bind_eq_some_iff.mp H
  obtain ⟨⟨t176, t177⟩, A70, H⟩ := H
  replace H : (if (Int.tmod a1 1000) = 0 then (terrierlaw9_PtMidst.j0 k ((Int.tmod a2 1000) == 0) t170 t171 t172 t173 t174 t175 t176 t177) else (terrierlaw9_PtMidst.j0 k false t170 t171 t172 t173 t174 t175 t176 t177)) = some r := H
  have A7 := Aside0.mk A70
  clear A70
  have HC8 := Aside0.mk H
  clear H
  go_enter Try.func7, Try.ntmps7
  try go_wp2_with (first | ((with_reducible refine gate_dst (N := 3) rfl ?_); refine box_event ?hg (N := 3) ?hd (cs := #[.int .i64 a0_0, .int .i64 a0_1]) (t := 23) ?hr ?_; (case hd => rfl); (case hg => rfl); (case hr => first | (go_simp; done) | (go_simp; rfl)); intro gb169 hg w9 hbox hb; have n0_ := Aside0.mk (below_step (by repeat (first | (with_reducible first | exact HB.out | apply below_alloc | apply pw_below_drewN | apply below_drew1) | exact HB.out)) hb); have n1_ := Aside0.mk (hbox); have n2_ := Aside0.mk ((by rw [hg]; exact (below_size (by repeat (first | (with_reducible first | exact HB.out | apply below_alloc | apply pw_below_drewN | apply below_drew1) | exact HB.out))) : w.heap.size ≤ gb169)); have n3_ := Aside0.mk ((by rw [hg]; exact (below_size (by repeat (first | (with_reducible first | exact HB.out | apply below_alloc | apply pw_below_drewN | apply below_drew1) | exact HB.out))) : w.heap.size ≤ gb169)); clear HB; have HB := n0_; have BK169 := n1_; have GW169 := n2_; have GE169 := n3_; clear n0_ n1_ n2_ n3_; clear hb hbox hg; have hcz10_0 : w9.cell? ⟨gb169, 0, none⟩ = some (.int .i64 a0_0) := (blk_cell BK169.out 0).trans rfl; have hcz10_1 : w9.cell? ⟨gb169, 1, none⟩ = some (.int .i64 a0_1) := (blk_cell BK169.out 1).trans rfl; have hfz10_0 := blk_frozen BK169.out 0; have hfz10_1 := blk_frozen BK169.out 1) | ((with_reducible refine gate_callee (f := 12) rfl ?_); refine goesL_ (some 18) rfl rfl Try.func12 (by kernel_rfl) rfl #[.int .i64 (Int.tmod a0_0 1000), .int .i64 (Int.tmod a0_1 1000)] rfl (by (try simp only [List.map_toArray, List.map_cons, List.map_nil]); first | done | rfl | (simp only [List.length_drop, List.length_take]; rfl)) ?_; (with_reducible refine (terrierlaw9_P.calls (Int.tmod a0_0 1000) (Int.tmod a0_1 1000) t170 t171 _ A4.out).mono ?_); rintro e w11 ⟨rfl, hb⟩; refine ⟨_, rfl, ?_⟩; have n0_ := Aside0.mk (blk_below (g := gb169) (o := .cells #[.int .i64 a0_0, .int .i64 a0_1] 23 (0, 0)) (by (with_reducible repeat (first | refine blk_drewN ?_ _ | refine blk_drew ?_ | refine blk_alloc ?_ _)); exact BK169.out) hb); have n1_ := Aside0.mk (below_step (by repeat (first | (with_reducible first | exact HB.out | apply below_alloc | apply pw_below_drewN | apply below_drew1 | refine below_set ?_ GE169.out) | exact HB.out)) hb); clear BK169; clear HB; have BK169 := n0_; have HB := n1_; clear n0_ n1_; (try clear hb); (try clear hb2); (try clear hk); (try clear hi); have hcz12_0 : w11.cell? ⟨gb169, 0, none⟩ = some (.int .i64 a0_0) := (blk_cell BK169.out 0).trans rfl; have hcz12_1 : w11.cell? ⟨gb169, 1, none⟩ = some (.int .i64 a0_1) := (blk_cell BK169.out 1).trans rfl; have hfz12_0 := blk_frozen BK169.out 0; have hfz12_1 := blk_frozen BK169.out 1))
  have n0_ : Aside0 (((w11.setCell ⟨gb169, 0, none⟩ (.int .i64 t170)).setCell ⟨gb169, 1, none⟩ (.int .i64 t171)).heap[gb169]? = some (.cells #[.int .i64 t170, .int .i64 t171] 23 (0, 0))) := ⟨by (with_reducible repeat (first | refine blk_drewN ?_ _ | refine blk_drew ?_ | refine blk_alloc ?_ _)); refine blk_put (cs := #[.int .i64 t170, .int .i64 a0_1]) ?_ 1 _ rfl; (with_reducible repeat (first | refine blk_drewN ?_ _ | refine blk_drew ?_ | refine blk_alloc ?_ _)); refine blk_put (cs := #[.int .i64 a0_0, .int .i64 a0_1]) ?_ 0 _ rfl; (with_reducible repeat (first | refine blk_drewN ?_ _ | refine blk_drew ?_ | refine blk_alloc ?_ _)); exact BK169.out⟩
  have n1_ : Aside0 (Below w.heap.size w ((w11.setCell ⟨gb169, 0, none⟩ (.int .i64 t170)).setCell ⟨gb169, 1, none⟩ (.int .i64 t171))) := ⟨by repeat (first | (with_reducible first | exact HB.out | apply below_alloc | apply pw_below_drewN | apply below_drew1 | refine below_set ?_ GE169.out) | exact HB.out)⟩
  (try clear BK169)
  (try clear HB)
  generalize ((w11.setCell ⟨gb169, 0, none⟩ (.int .i64 t170)).setCell ⟨gb169, 1, none⟩ (.int .i64 t171)) = w13 at n0_ n1_ ⊢
  have BK169 := n0_
  have HB := n1_
  clear n0_ n1_
  have n0_ := Aside0.mk (blk_drew BK169.out)
  have n1_ := Aside0.mk (below_drew1 HB.out)
  clear BK169
  clear HB
  have BK169 := n0_
  have HB := n1_
  clear n0_ n1_
  refine start_ (n := 37) (S := fun w' => w'.cell? ⟨gb169, 0, none⟩ = some (.int .i64 t170) ∧ w'.cell? ⟨gb169, 1, none⟩ = some (.int .i64 t171)) (ds := []) #[false, false, false, false, false, false, false, false, false, false, false, false, false, false, false, false, false, false, false, false, false, false, false, false, false, false, false, false, false, false, false, false, false, false, false, false, false] (by kernel_rfl) rfl rfl ⟨(blk_cell BK169.out 0).trans rfl, (blk_cell BK169.out 1).trans rfl⟩ (fun hHeld => ?_); refine with_tabW terrierlaw9_PtMidst.tab3 terrierlaw9_PtMidst.bits3 (fun HT_ HW_ => ?_)
  generalize w13.drew = w14 at BK169 HB hHeld ⊢
  refine pure_ (i := 0) (N := some 23) (v := ?_) (a' := ?_) #[true, false, false, false, false, false, false, false, false, false, false, false, false, false, false, false, false, false, false, false, false, false, false, false, false, false, false, false, false, false, false, false, false, false, false, false, false] rfl rfl (any_of HT_.out (by kernel_rfl)) (fun _ _ _ h => h) (Or.inl ⟨by rfl, ?_⟩) ?_ ?_
  rotate_left
  · intro w'
    go_simp
    with_reducible rfl
  rotate_left
  · simp only [Act.put, List.setIfInBounds_toArray, List.set_cons_zero, List.set_cons_succ, i64_w, i32_w]
    rfl
  refine pure_ (i := 2) (N := some 25) (v := ?_) (a' := ?_) #[true, false, true, false, false, false, false, false, false, false, false, false, false, false, false, false, false, false, false, false, false, false, false, false, false, false, false, false, false, false, false, false, false, false, false, false, false] rfl rfl (any_of HT_.out (by kernel_rfl)) (fun _ _ _ h => h) (Or.inl ⟨by rfl, ?_⟩) ?_ ?_
  rotate_left
  · intro w'
    go_simp
    with_reducible rfl
  rotate_left
  · simp only [Act.put, List.setIfInBounds_toArray, List.set_cons_zero, List.set_cons_succ, i64_w, i32_w]
    rfl
  refine pure_ (i := 4) (N := some 27) (v := ?_) (a' := ?_) #[true, false, true, false, true, false, false, false, false, false, false, false, false, false, false, false, false, false, false, false, false, false, false, false, false, false, false, false, false, false, false, false, false, false, false, false, false] rfl rfl (any_of HT_.out (by kernel_rfl)) (fun _ _ _ h => h) (Or.inl ⟨by rfl, ?_⟩) ?_ ?_
  rotate_left
  · intro w'
    go_simp
    with_reducible rfl
  rotate_left
  · simp only [Act.put, List.setIfInBounds_toArray, List.set_cons_zero, List.set_cons_succ, i64_w, i32_w]
    rfl
  refine pure_ (i := 6) (N := some 29) (v := ?_) (a' := ?_) #[true, false, true, false, true, false, true, false, false, false, false, false, false, false, false, false, false, false, false, false, false, false, false, false, false, false, false, false, false, false, false, false, false, false, false, false, false] rfl rfl (any_of HT_.out (by kernel_rfl)) (fun _ _ _ h => h) (Or.inl ⟨by rfl, ?_⟩) ?_ ?_
  rotate_left
  · intro w'
    go_simp
    with_reducible rfl
  rotate_left
  · simp only [Act.put, List.setIfInBounds_toArray, List.set_cons_zero, List.set_cons_succ, i64_w, i32_w]
    rfl
  refine pure_ (i := 9) (N := some 32) (v := ?_) (a' := ?_) #[true, false, true, false, true, false, true, false, false, true, false, false, false, false, false, false, false, false, false, false, false, false, false, false, false, false, false, false, false, false, false, false, false, false, false, false, false] rfl rfl (any_of HT_.out (by kernel_rfl)) (fun _ _ _ h => h) (Or.inl ⟨by rfl, ?_⟩) ?_ ?_
  rotate_left
  · intro w'
    go_simp
    with_reducible rfl
  rotate_left
  · simp only [Act.put, List.setIfInBounds_toArray, List.set_cons_zero, List.set_cons_succ, i64_w, i32_w]
    rfl
  refine pure_ (i := 11) (N := some 34) (v := ?_) (a' := ?_) #[true, false, true, false, true, false, true, false, false, true, false, true, false, false, false, false, false, false, false, false, false, false, false, false, false, false, false, false, false, false, false, false, false, false, false, false, false] rfl rfl (any_of HT_.out (by kernel_rfl)) (fun _ _ _ h => h) (Or.inl ⟨by rfl, ?_⟩) ?_ ?_
  rotate_left
  · intro w'
    go_simp
    with_reducible rfl
  rotate_left
  · simp only [Act.put, List.setIfInBounds_toArray, List.set_cons_zero, List.set_cons_succ, i64_w, i32_w]
    rfl
  refine pure_ (i := 12) (N := some 35) (v := ?_) (a' := ?_) #[true, false, true, false, true, false, true, false, false, true, false, true, true, false, false, false, false, false, false, false, false, false, false, false, false, false, false, false, false, false, false, false, false, false, false, false, false] rfl rfl (any_of HT_.out (by kernel_rfl)) (fun _ _ _ h => h) (Or.inl ⟨by rfl, ?_⟩) ?_ ?_
  rotate_left
  · intro w'
    go_simp
    with_reducible rfl
  rotate_left
  · simp only [Act.put, List.setIfInBounds_toArray, List.set_cons_zero, List.set_cons_succ, i64_w, i32_w]
    rfl
  refine pure_ (i := 14) (N := some 37) (v := ?_) (a' := ?_) #[true, false, true, false, true, false, true, false, false, true, false, true, true, false, true, false, false, false, false, false, false, false, false, false, false, false, false, false, false, false, false, false, false, false, false, false, false] rfl rfl (any_of HT_.out (by kernel_rfl)) (fun _ _ _ h => h) (Or.inl ⟨by rfl, ?_⟩) ?_ ?_
  rotate_left
  · intro w'
    go_simp
    with_reducible rfl
  rotate_left
  · simp only [Act.put, List.setIfInBounds_toArray, List.set_cons_zero, List.set_cons_succ, i64_w, i32_w]
    rfl
  refine pure_ (i := 16) (N := some 39) (v := ?_) (a' := ?_) #[true, false, true, false, true, false, true, false, false, true, false, true, true, false, true, false, true, false, false, false, false, false, false, false, false, false, false, false, false, false, false, false, false, false, false, false, false] rfl rfl (any_of HT_.out (by kernel_rfl)) (fun _ _ _ h => h) (Or.inl ⟨by rfl, ?_⟩) ?_ ?_
  rotate_left
  · intro w'
    go_simp
    with_reducible rfl
  rotate_left
  · simp only [Act.put, List.setIfInBounds_toArray, List.set_cons_zero, List.set_cons_succ, i64_w, i32_w]
    rfl
  refine pure_ (i := 17) (N := some 40) (v := ?_) (a' := ?_) #[true, false, true, false, true, false, true, false, false, true, false, true, true, false, true, false, true, true, false, false, false, false, false, false, false, false, false, false, false, false, false, false, false, false, false, false, false] rfl rfl (any_of HT_.out (by kernel_rfl)) (fun _ _ _ h => h) (Or.inl ⟨by rfl, ?_⟩) ?_ ?_
  rotate_left
  · intro w'
    go_simp
    with_reducible rfl
  rotate_left
  · simp only [Act.put, List.setIfInBounds_toArray, List.set_cons_zero, List.set_cons_succ, i64_w, i32_w]
    rfl
  refine pure_ (i := 20) (N := some 43) (v := ?_) (a' := ?_) #[true, false, true, false, true, false, true, false, false, true, false, true, true, false, true, false, true, true, false, false, true, false, false, false, false, false, false, false, false, false, false, false, false, false, false, false, false] rfl rfl (any_of HT_.out (by kernel_rfl)) (fun _ _ _ h => h) (Or.inl ⟨by rfl, ?_⟩) ?_ ?_
  rotate_left
  · intro w'
    go_simp
    with_reducible rfl
  rotate_left
  · simp only [Act.put, List.setIfInBounds_toArray, List.set_cons_zero, List.set_cons_succ, i64_w, i32_w]
    rfl
  refine pure_ (i := 22) (N := some 45) (v := ?_) (a' := ?_) #[true, false, true, false, true, false, true, false, false, true, false, true, true, false, true, false, true, true, false, false, true, false, true, false, false, false, false, false, false, false, false, false, false, false, false, false, false] rfl rfl (any_of HT_.out (by kernel_rfl)) (fun _ _ _ h => h) (Or.inl ⟨by rfl, ?_⟩) ?_ ?_
  rotate_left
  · intro w'
    go_simp
    with_reducible rfl
  rotate_left
  · simp only [Act.put, List.setIfInBounds_toArray, List.set_cons_zero, List.set_cons_succ, i64_w, i32_w]
    rfl
  refine pure_ (i := 23) (N := some 46) (v := ?_) (a' := ?_) #[true, false, true, false, true, false, true, false, false, true, false, true, true, false, true, false, true, true, false, false, true, false, true, true, false, false, false, false, false, false, false, false, false, false, false, false, false] rfl rfl (any_of HT_.out (by kernel_rfl)) (fun _ _ _ h => h) (Or.inl ⟨by rfl, ?_⟩) ?_ ?_
  rotate_left
  · intro w'
    go_simp
    with_reducible rfl
  rotate_left
  · simp only [Act.put, List.setIfInBounds_toArray, List.set_cons_zero, List.set_cons_succ, i64_w, i32_w]
    rfl
  refine pure_ (i := 25) (N := some 48) (v := ?_) (a' := ?_) #[true, false, true, false, true, false, true, false, false, true, false, true, true, false, true, false, true, true, false, false, true, false, true, true, false, true, false, false, false, false, false, false, false, false, false, false, false] rfl rfl (any_of HT_.out (by kernel_rfl)) (fun _ _ _ h => h) (Or.inl ⟨by rfl, ?_⟩) ?_ ?_
  rotate_left
  · intro w'
    go_simp
    with_reducible rfl
  rotate_left
  · simp only [Act.put, List.setIfInBounds_toArray, List.set_cons_zero, List.set_cons_succ, i64_w, i32_w]
    rfl
  refine pure_ (i := 27) (N := some 50) (v := ?_) (a' := ?_) #[true, false, true, false, true, false, true, false, false, true, false, true, true, false, true, false, true, true, false, false, true, false, true, true, false, true, false, true, false, false, false, false, false, false, false, false, false] rfl rfl (any_of HT_.out (by kernel_rfl)) (fun _ _ _ h => h) (Or.inl ⟨by rfl, ?_⟩) ?_ ?_
  rotate_left
  · intro w'
    go_simp
    with_reducible rfl
  rotate_left
  · simp only [Act.put, List.setIfInBounds_toArray, List.set_cons_zero, List.set_cons_succ, i64_w, i32_w]
    rfl
  refine pure_ (i := 28) (N := some 51) (v := ?_) (a' := ?_) #[true, false, true, false, true, false, true, false, false, true, false, true, true, false, true, false, true, true, false, false, true, false, true, true, false, true, false, true, true, false, false, false, false, false, false, false, false] rfl rfl (any_of HT_.out (by kernel_rfl)) (fun _ _ _ h => h) (Or.inl ⟨by rfl, ?_⟩) ?_ ?_
  rotate_left
  · intro w'
    go_simp
    with_reducible rfl
  rotate_left
  · simp only [Act.put, List.setIfInBounds_toArray, List.set_cons_zero, List.set_cons_succ, i64_w, i32_w]
    rfl
  refine take_ (i := 1) (N := some 24) (v := ?_) (a' := ?_) #[true, true, true, false, true, false, true, false, false, true, false, true, true, false, true, false, true, true, false, false, true, false, true, true, false, true, false, true, true, false, false, false, false, false, false, false, false] rfl rfl (take_ofW HT_.out HW_.out (by kernel_rfl)) (fun _ _ _ h => h) (Or.inl ⟨by rfl, ?_⟩) hHeld ?_ ?_
  rotate_left
  · rintro w' ⟨s0, s1⟩
    go_simp
    with_reducible rfl
  rotate_left
  · simp only [Act.put, List.setIfInBounds_toArray, List.set_cons_zero, List.set_cons_succ, i64_w, i32_w]
    rfl
  refine pure_ (i := 3) (N := some 26) (v := ?_) (a' := ?_) #[true, true, true, true, true, false, true, false, false, true, false, true, true, false, true, false, true, true, false, false, true, false, true, true, false, true, false, true, true, false, false, false, false, false, false, false, false] rfl rfl (any_of HT_.out (by kernel_rfl)) (fun _ _ _ h => h) (Or.inl ⟨by rfl, ?_⟩) ?_ ?_
  rotate_left
  · intro w'
    go_simp
    with_reducible rfl
  rotate_left
  · simp only [Act.put, List.setIfInBounds_toArray, List.set_cons_zero, List.set_cons_succ, i64_w, i32_w]
    rfl
  refine take_ (i := 5) (N := some 28) (v := ?_) (a' := ?_) #[true, true, true, true, true, true, true, false, false, true, false, true, true, false, true, false, true, true, false, false, true, false, true, true, false, true, false, true, true, false, false, false, false, false, false, false, false] rfl rfl (take_ofW HT_.out HW_.out (by kernel_rfl)) (fun _ _ _ h => h) (Or.inl ⟨by rfl, ?_⟩) hHeld ?_ ?_
  rotate_left
  · rintro w' ⟨s0, s1⟩
    go_simp
    with_reducible rfl
  rotate_left
  · simp only [Act.put, List.setIfInBounds_toArray, List.set_cons_zero, List.set_cons_succ, i64_w, i32_w]
    rfl
  refine pure_ (i := 7) (N := some 30) (v := ?_) (a' := ?_) #[true, true, true, true, true, true, true, true, false, true, false, true, true, false, true, false, true, true, false, false, true, false, true, true, false, true, false, true, true, false, false, false, false, false, false, false, false] rfl rfl (any_of HT_.out (by kernel_rfl)) (fun _ _ _ h => h) (Or.inl ⟨by rfl, ?_⟩) ?_ ?_
  rotate_left
  · intro w'
    go_simp
    with_reducible rfl
  rotate_left
  · simp only [Act.put, List.setIfInBounds_toArray, List.set_cons_zero, List.set_cons_succ, i64_w, i32_w]
    rfl
  refine take_ (i := 10) (N := some 33) (v := ?_) (a' := ?_) #[true, true, true, true, true, true, true, true, false, true, true, true, true, false, true, false, true, true, false, false, true, false, true, true, false, true, false, true, true, false, false, false, false, false, false, false, false] rfl rfl (take_ofW HT_.out HW_.out (by kernel_rfl)) (fun _ _ _ h => h) (Or.inl ⟨by rfl, ?_⟩) hHeld ?_ ?_
  rotate_left
  · rintro w' ⟨s0, s1⟩
    go_simp
    with_reducible rfl
  rotate_left
  · simp only [Act.put, List.setIfInBounds_toArray, List.set_cons_zero, List.set_cons_succ, i64_w, i32_w]
    rfl
  refine pure_ (i := 13) (N := some 36) (v := ?_) (a' := ?_) #[true, true, true, true, true, true, true, true, false, true, true, true, true, true, true, false, true, true, false, false, true, false, true, true, false, true, false, true, true, false, false, false, false, false, false, false, false] rfl rfl (any_of HT_.out (by kernel_rfl)) (fun _ _ _ h => h) (Or.inl ⟨by rfl, ?_⟩) ?_ ?_
  rotate_left
  · intro w'
    go_simp
    with_reducible rfl
  rotate_left
  · simp only [Act.put, List.setIfInBounds_toArray, List.set_cons_zero, List.set_cons_succ, i64_w, i32_w]
    rfl
  refine take_ (i := 15) (N := some 38) (v := ?_) (a' := ?_) #[true, true, true, true, true, true, true, true, false, true, true, true, true, true, true, true, true, true, false, false, true, false, true, true, false, true, false, true, true, false, false, false, false, false, false, false, false] rfl rfl (take_ofW HT_.out HW_.out (by kernel_rfl)) (fun _ _ _ h => h) (Or.inl ⟨by rfl, ?_⟩) hHeld ?_ ?_
  rotate_left
  · rintro w' ⟨s0, s1⟩
    go_simp
    with_reducible rfl
  rotate_left
  · simp only [Act.put, List.setIfInBounds_toArray, List.set_cons_zero, List.set_cons_succ, i64_w, i32_w]
    rfl
  refine pure_ (i := 18) (N := some 41) (v := ?_) (a' := ?_) #[true, true, true, true, true, true, true, true, false, true, true, true, true, true, true, true, true, true, true, false, true, false, true, true, false, true, false, true, true, false, false, false, false, false, false, false, false] rfl rfl (any_of HT_.out (by kernel_rfl)) (fun _ _ _ h => h) (Or.inl ⟨by rfl, ?_⟩) ?_ ?_
  rotate_left
  · intro w'
    go_simp
    with_reducible rfl
  rotate_left
  · simp only [Act.put, List.setIfInBounds_toArray, List.set_cons_zero, List.set_cons_succ, i64_w, i32_w]
    rfl
  refine take_ (i := 21) (N := some 44) (v := ?_) (a' := ?_) #[true, true, true, true, true, true, true, true, false, true, true, true, true, true, true, true, true, true, true, false, true, true, true, true, false, true, false, true, true, false, false, false, false, false, false, false, false] rfl rfl (take_ofW HT_.out HW_.out (by kernel_rfl)) (fun _ _ _ h => h) (Or.inl ⟨by rfl, ?_⟩) hHeld ?_ ?_
  rotate_left
  · rintro w' ⟨s0, s1⟩
    go_simp
    with_reducible rfl
  rotate_left
  · simp only [Act.put, List.setIfInBounds_toArray, List.set_cons_zero, List.set_cons_succ, i64_w, i32_w]
    rfl
  refine pure_ (i := 24) (N := some 47) (v := ?_) (a' := ?_) #[true, true, true, true, true, true, true, true, false, true, true, true, true, true, true, true, true, true, true, false, true, true, true, true, true, true, false, true, true, false, false, false, false, false, false, false, false] rfl rfl (any_of HT_.out (by kernel_rfl)) (fun _ _ _ h => h) (Or.inl ⟨by rfl, ?_⟩) ?_ ?_
  rotate_left
  · intro w'
    go_simp
    with_reducible rfl
  rotate_left
  · simp only [Act.put, List.setIfInBounds_toArray, List.set_cons_zero, List.set_cons_succ, i64_w, i32_w]
    rfl
  refine take_ (i := 26) (N := some 49) (v := ?_) (a' := ?_) #[true, true, true, true, true, true, true, true, false, true, true, true, true, true, true, true, true, true, true, false, true, true, true, true, true, true, true, true, true, false, false, false, false, false, false, false, false] rfl rfl (take_ofW HT_.out HW_.out (by kernel_rfl)) (fun _ _ _ h => h) (Or.inl ⟨by rfl, ?_⟩) hHeld ?_ ?_
  rotate_left
  · rintro w' ⟨s0, s1⟩
    go_simp
    with_reducible rfl
  rotate_left
  · simp only [Act.put, List.setIfInBounds_toArray, List.set_cons_zero, List.set_cons_succ, i64_w, i32_w]
    rfl
  refine pure_ (i := 29) (N := some 52) (v := ?_) (a' := ?_) #[true, true, true, true, true, true, true, true, false, true, true, true, true, true, true, true, true, true, true, false, true, true, true, true, true, true, true, true, true, true, false, false, false, false, false, false, false] rfl rfl (any_of HT_.out (by kernel_rfl)) (fun _ _ _ h => h) (Or.inl ⟨by rfl, ?_⟩) ?_ ?_
  rotate_left
  · intro w'
    go_simp
    with_reducible rfl
  rotate_left
  · simp only [Act.put, List.setIfInBounds_toArray, List.set_cons_zero, List.set_cons_succ, i64_w, i32_w]
    rfl
  refine Lat.lat_ (fun c p0 p1 p2 => #[true, true, true, true, true, true, true, true, Lat.done 0 c, true, true, true, true, true, true, true, true, true, true, Lat.done 1 c, true, true, true, true, true, true, true, true, true, true, Lat.done 2 c, p0.isSome, p1.isSome, p2.isSome, false, false, false]) (fun c p0 p1 p2 => Lat.nsC (.agg #[.int .i64 t172, .int .i64 t173]) (.agg #[.int .i64 t174, .int .i64 t175]) (.agg #[.int .i64 t176, .int .i64 t177]) c ++ Lat.nsP 9 p0 ++ Lat.nsP 10 p1 ++ Lat.nsP 11 p2) w gb169 (.cells #[.int .i64 t170, .int .i64 t171] 23 (0, 0)) ?hfin ?hstep (Lat.F.start BK169.out HB.out) rfl rfl
  case hstep =>
    clear BK169 HB hHeld HC8
    intro n c p0 p1 p2 w' hc hm hF ih
    have hS : ∀ {q0 q1 q2 : Option Nat} {v : World}, Lat.F w gb169 (.cells #[.int .i64 t170, .int .i64 t171] 23 (0, 0)) q0 q1 q2 v → v.cell? ⟨gb169, 0, none⟩ = some (.int .i64 t170) ∧ v.cell? ⟨gb169, 1, none⟩ = some (.int .i64 t171) := fun h => ⟨(blk_cell h.1 0).trans rfl, (blk_cell h.1 1).trans rfl⟩
    have hS := Aside0.mk @hS
    have hc4 : c = 0 ∨ c = 1 ∨ c = 2 ∨ c = 3 := by omega
    clear hc
    rcases hc4 with rfl | rfl | rfl | rfl <;> rcases p0 with _ | g0 <;> rcases p1 with _ | g1 <;> rcases p2 with _ | g2
    · -- 0 None None None
      have hm' := Aside0.mk hm
      clear hm
      refine norm_ (a' := ?_) ?_ ?_
      rotate_left
      · simp only [Lat.nsC, Lat.nsP, List.nil_append, List.cons_append, List.append_nil, putAll, Act.put, List.setIfInBounds_toArray, List.set_cons_zero, List.set_cons_succ]
        rfl
      refine wpAnyLast_ready (rs := [8, 31, 32, 33]) (Lat.ready_of HT_.out (by kernel_rfl)) (by simp) (AllReadyL.cons rfl (by decide) (fun K hK => ?_) (AllReadyL.cons rfl (by decide) (fun K hK => ?_) (AllReadyL.cons rfl (by decide) (fun K hK => ?_) (AllReadyL.cons rfl (by decide) (fun K hK => ?_) AllReadyL.nil))))
      · refine goes_ Try.func12 (by kernel_rfl) rfl #[.int .i64 (wrap64 (t170 + (Int.tmod a1 1000))), .int .i64 (wrap64 (t171 + (Int.tmod a2 1000)))] (by rfl) rfl rfl (by (try simp only [List.map_toArray, List.map_cons, List.map_nil]); rfl) ?_
        with_reducible refine (terrierlaw9_P.calls (wrap64 (t170 + (Int.tmod a1 1000))) (wrap64 (t171 + (Int.tmod a2 1000))) t172 t173 _ A5.out).mono ?_
        rintro e w15 ⟨rfl, hb⟩
        refine ⟨_, rfl, ?_⟩
        have hF1 := hF.call hb
        refine hK.out _ _ (hS.out hF1) (fun _ => ?_)
        refine norm_ ?_ (ih 1 none none none _ (by omega) (by have := hm'.out; simp [Lat.left] at this ⊢; omega) hF1)
        simp only [Lat.nsC, Lat.nsP, List.nil_append, List.cons_append, List.append_nil, putAll, Act.put, List.setIfInBounds_toArray, List.set_cons_zero, List.set_cons_succ]
        try rfl
      · refine box_step ?hg (N := 9) ?hd (cs := #[.int .i64 0, .int .i64 0]) (t := 23) ?hr ?_; (case hd => rfl); (case hg => rfl); (case hr => first | (go_simp; done) | (go_simp; rfl))
        intro gn hg w15 hbox hb
        have hF1 := hF.new0 hg hbox hb
        refine hK.out _ _ (hS.out hF1) (fun _ => ?_)
        refine norm_ ?_ (ih 0 (some gn) none none _ (by omega) (by have := hm'.out; simp [Lat.left] at this ⊢; omega) hF1)
        simp only [Lat.nsC, Lat.nsP, List.nil_append, List.cons_append, List.append_nil, putAll, Act.put, List.setIfInBounds_toArray, List.set_cons_zero, List.set_cons_succ]
        try rfl
      · refine box_step ?hg (N := 10) ?hd (cs := #[.int .i64 0, .int .i64 0]) (t := 23) ?hr ?_; (case hd => rfl); (case hg => rfl); (case hr => first | (go_simp; done) | (go_simp; rfl))
        intro gn hg w15 hbox hb
        have hF1 := hF.new1 hg hbox hb
        refine hK.out _ _ (hS.out hF1) (fun _ => ?_)
        refine norm_ ?_ (ih 0 none (some gn) none _ (by omega) (by have := hm'.out; simp [Lat.left] at this ⊢; omega) hF1)
        simp only [Lat.nsC, Lat.nsP, List.nil_append, List.cons_append, List.append_nil, putAll, Act.put, List.setIfInBounds_toArray, List.set_cons_zero, List.set_cons_succ]
        try rfl
      · refine box_step ?hg (N := 11) ?hd (cs := #[.int .i64 0, .int .i64 0]) (t := 23) ?hr ?_; (case hd => rfl); (case hg => rfl); (case hr => first | (go_simp; done) | (go_simp; rfl))
        intro gn hg w15 hbox hb
        have hF1 := hF.new2 hg hbox hb
        refine hK.out _ _ (hS.out hF1) (fun _ => ?_)
        refine norm_ ?_ (ih 0 none none (some gn) _ (by omega) (by have := hm'.out; simp [Lat.left] at this ⊢; omega) hF1)
        simp only [Lat.nsC, Lat.nsP, List.nil_append, List.cons_append, List.append_nil, putAll, Act.put, List.setIfInBounds_toArray, List.set_cons_zero, List.set_cons_succ]
        try rfl
    · -- 0 None None g2
      have hm' := Aside0.mk hm
      clear hm
      refine norm_ (a' := ?_) ?_ ?_
      rotate_left
      · simp only [Lat.nsC, Lat.nsP, List.nil_append, List.cons_append, List.append_nil, putAll, Act.put, List.setIfInBounds_toArray, List.set_cons_zero, List.set_cons_succ]
        rfl
      refine wpAnyLast_ready (rs := [8, 31, 32]) (Lat.ready_of HT_.out (by kernel_rfl)) (by simp) (AllReadyL.cons rfl (by decide) (fun K hK => ?_) (AllReadyL.cons rfl (by decide) (fun K hK => ?_) (AllReadyL.cons rfl (by decide) (fun K hK => ?_) AllReadyL.nil)))
      · refine goes_ Try.func12 (by kernel_rfl) rfl #[.int .i64 (wrap64 (t170 + (Int.tmod a1 1000))), .int .i64 (wrap64 (t171 + (Int.tmod a2 1000)))] (by rfl) rfl rfl (by (try simp only [List.map_toArray, List.map_cons, List.map_nil]); rfl) ?_
        with_reducible refine (terrierlaw9_P.calls (wrap64 (t170 + (Int.tmod a1 1000))) (wrap64 (t171 + (Int.tmod a2 1000))) t172 t173 _ A5.out).mono ?_
        rintro e w15 ⟨rfl, hb⟩
        refine ⟨_, rfl, ?_⟩
        have hF1 := hF.call hb
        refine hK.out _ _ (hS.out hF1) (fun _ => ?_)
        refine norm_ ?_ (ih 1 none none (some g2) _ (by omega) (by have := hm'.out; simp [Lat.left] at this ⊢; omega) hF1)
        simp only [Lat.nsC, Lat.nsP, List.nil_append, List.cons_append, List.append_nil, putAll, Act.put, List.setIfInBounds_toArray, List.set_cons_zero, List.set_cons_succ]
        try rfl
      · refine box_step ?hg (N := 9) ?hd (cs := #[.int .i64 0, .int .i64 0]) (t := 23) ?hr ?_; (case hd => rfl); (case hg => rfl); (case hr => first | (go_simp; done) | (go_simp; rfl))
        intro gn hg w15 hbox hb
        have hF1 := hF.new0 hg hbox hb
        refine hK.out _ _ (hS.out hF1) (fun _ => ?_)
        refine norm_ ?_ (ih 0 (some gn) none (some g2) _ (by omega) (by have := hm'.out; simp [Lat.left] at this ⊢; omega) hF1)
        simp only [Lat.nsC, Lat.nsP, List.nil_append, List.cons_append, List.append_nil, putAll, Act.put, List.setIfInBounds_toArray, List.set_cons_zero, List.set_cons_succ]
        try rfl
      · refine box_step ?hg (N := 10) ?hd (cs := #[.int .i64 0, .int .i64 0]) (t := 23) ?hr ?_; (case hd => rfl); (case hg => rfl); (case hr => first | (go_simp; done) | (go_simp; rfl))
        intro gn hg w15 hbox hb
        have hF1 := hF.new1 hg hbox hb
        refine hK.out _ _ (hS.out hF1) (fun _ => ?_)
        refine norm_ ?_ (ih 0 none (some gn) (some g2) _ (by omega) (by have := hm'.out; simp [Lat.left] at this ⊢; omega) hF1)
        simp only [Lat.nsC, Lat.nsP, List.nil_append, List.cons_append, List.append_nil, putAll, Act.put, List.setIfInBounds_toArray, List.set_cons_zero, List.set_cons_succ]
        try rfl
    · -- 0 None g1 None
      have hm' := Aside0.mk hm
      clear hm
      refine norm_ (a' := ?_) ?_ ?_
      rotate_left
      · simp only [Lat.nsC, Lat.nsP, List.nil_append, List.cons_append, List.append_nil, putAll, Act.put, List.setIfInBounds_toArray, List.set_cons_zero, List.set_cons_succ]
        rfl
      refine wpAnyLast_ready (rs := [8, 31, 33]) (Lat.ready_of HT_.out (by kernel_rfl)) (by simp) (AllReadyL.cons rfl (by decide) (fun K hK => ?_) (AllReadyL.cons rfl (by decide) (fun K hK => ?_) (AllReadyL.cons rfl (by decide) (fun K hK => ?_) AllReadyL.nil)))
      · refine goes_ Try.func12 (by kernel_rfl) rfl #[.int .i64 (wrap64 (t170 + (Int.tmod a1 1000))), .int .i64 (wrap64 (t171 + (Int.tmod a2 1000)))] (by rfl) rfl rfl (by (try simp only [List.map_toArray, List.map_cons, List.map_nil]); rfl) ?_
        with_reducible refine (terrierlaw9_P.calls (wrap64 (t170 + (Int.tmod a1 1000))) (wrap64 (t171 + (Int.tmod a2 1000))) t172 t173 _ A5.out).mono ?_
        rintro e w15 ⟨rfl, hb⟩
        refine ⟨_, rfl, ?_⟩
        have hF1 := hF.call hb
        refine hK.out _ _ (hS.out hF1) (fun _ => ?_)
        refine norm_ ?_ (ih 1 none (some g1) none _ (by omega) (by have := hm'.out; simp [Lat.left] at this ⊢; omega) hF1)
        simp only [Lat.nsC, Lat.nsP, List.nil_append, List.cons_append, List.append_nil, putAll, Act.put, List.setIfInBounds_toArray, List.set_cons_zero, List.set_cons_succ]
        try rfl
      · refine box_step ?hg (N := 9) ?hd (cs := #[.int .i64 0, .int .i64 0]) (t := 23) ?hr ?_; (case hd => rfl); (case hg => rfl); (case hr => first | (go_simp; done) | (go_simp; rfl))
        intro gn hg w15 hbox hb
        have hF1 := hF.new0 hg hbox hb
        refine hK.out _ _ (hS.out hF1) (fun _ => ?_)
        refine norm_ ?_ (ih 0 (some gn) (some g1) none _ (by omega) (by have := hm'.out; simp [Lat.left] at this ⊢; omega) hF1)
        simp only [Lat.nsC, Lat.nsP, List.nil_append, List.cons_append, List.append_nil, putAll, Act.put, List.setIfInBounds_toArray, List.set_cons_zero, List.set_cons_succ]
        try rfl
      · refine box_step ?hg (N := 11) ?hd (cs := #[.int .i64 0, .int .i64 0]) (t := 23) ?hr ?_; (case hd => rfl); (case hg => rfl); (case hr => first | (go_simp; done) | (go_simp; rfl))
        intro gn hg w15 hbox hb
        have hF1 := hF.new2 hg hbox hb
        refine hK.out _ _ (hS.out hF1) (fun _ => ?_)
        refine norm_ ?_ (ih 0 none (some g1) (some gn) _ (by omega) (by have := hm'.out; simp [Lat.left] at this ⊢; omega) hF1)
        simp only [Lat.nsC, Lat.nsP, List.nil_append, List.cons_append, List.append_nil, putAll, Act.put, List.setIfInBounds_toArray, List.set_cons_zero, List.set_cons_succ]
        try rfl
    · -- 0 None g1 g2
      have hm' := Aside0.mk hm
      clear hm
      refine norm_ (a' := ?_) ?_ ?_
      rotate_left
      · simp only [Lat.nsC, Lat.nsP, List.nil_append, List.cons_append, List.append_nil, putAll, Act.put, List.setIfInBounds_toArray, List.set_cons_zero, List.set_cons_succ]
        rfl
      refine wpAnyLast_ready (rs := [8, 31]) (Lat.ready_of HT_.out (by kernel_rfl)) (by simp) (AllReadyL.cons rfl (by decide) (fun K hK => ?_) (AllReadyL.cons rfl (by decide) (fun K hK => ?_) AllReadyL.nil))
      · refine goes_ Try.func12 (by kernel_rfl) rfl #[.int .i64 (wrap64 (t170 + (Int.tmod a1 1000))), .int .i64 (wrap64 (t171 + (Int.tmod a2 1000)))] (by rfl) rfl rfl (by (try simp only [List.map_toArray, List.map_cons, List.map_nil]); rfl) ?_
        with_reducible refine (terrierlaw9_P.calls (wrap64 (t170 + (Int.tmod a1 1000))) (wrap64 (t171 + (Int.tmod a2 1000))) t172 t173 _ A5.out).mono ?_
        rintro e w15 ⟨rfl, hb⟩
        refine ⟨_, rfl, ?_⟩
        have hF1 := hF.call hb
        refine hK.out _ _ (hS.out hF1) (fun _ => ?_)
        refine norm_ ?_ (ih 1 none (some g1) (some g2) _ (by omega) (by have := hm'.out; simp [Lat.left] at this ⊢; omega) hF1)
        simp only [Lat.nsC, Lat.nsP, List.nil_append, List.cons_append, List.append_nil, putAll, Act.put, List.setIfInBounds_toArray, List.set_cons_zero, List.set_cons_succ]
        try rfl
      · refine box_step ?hg (N := 9) ?hd (cs := #[.int .i64 0, .int .i64 0]) (t := 23) ?hr ?_; (case hd => rfl); (case hg => rfl); (case hr => first | (go_simp; done) | (go_simp; rfl))
        intro gn hg w15 hbox hb
        have hF1 := hF.new0 hg hbox hb
        refine hK.out _ _ (hS.out hF1) (fun _ => ?_)
        refine norm_ ?_ (ih 0 (some gn) (some g1) (some g2) _ (by omega) (by have := hm'.out; simp [Lat.left] at this ⊢; omega) hF1)
        simp only [Lat.nsC, Lat.nsP, List.nil_append, List.cons_append, List.append_nil, putAll, Act.put, List.setIfInBounds_toArray, List.set_cons_zero, List.set_cons_succ]
        try rfl
    · -- 0 g0 None None
      have hm' := Aside0.mk hm
      clear hm
      refine norm_ (a' := ?_) ?_ ?_
      rotate_left
      · simp only [Lat.nsC, Lat.nsP, List.nil_append, List.cons_append, List.append_nil, putAll, Act.put, List.setIfInBounds_toArray, List.set_cons_zero, List.set_cons_succ]
        rfl
      refine wpAnyLast_ready (rs := [8, 32, 33]) (Lat.ready_of HT_.out (by kernel_rfl)) (by simp) (AllReadyL.cons rfl (by decide) (fun K hK => ?_) (AllReadyL.cons rfl (by decide) (fun K hK => ?_) (AllReadyL.cons rfl (by decide) (fun K hK => ?_) AllReadyL.nil)))
      · refine goes_ Try.func12 (by kernel_rfl) rfl #[.int .i64 (wrap64 (t170 + (Int.tmod a1 1000))), .int .i64 (wrap64 (t171 + (Int.tmod a2 1000)))] (by rfl) rfl rfl (by (try simp only [List.map_toArray, List.map_cons, List.map_nil]); rfl) ?_
        with_reducible refine (terrierlaw9_P.calls (wrap64 (t170 + (Int.tmod a1 1000))) (wrap64 (t171 + (Int.tmod a2 1000))) t172 t173 _ A5.out).mono ?_
        rintro e w15 ⟨rfl, hb⟩
        refine ⟨_, rfl, ?_⟩
        have hF1 := hF.call hb
        refine hK.out _ _ (hS.out hF1) (fun _ => ?_)
        refine norm_ ?_ (ih 1 (some g0) none none _ (by omega) (by have := hm'.out; simp [Lat.left] at this ⊢; omega) hF1)
        simp only [Lat.nsC, Lat.nsP, List.nil_append, List.cons_append, List.append_nil, putAll, Act.put, List.setIfInBounds_toArray, List.set_cons_zero, List.set_cons_succ]
        try rfl
      · refine box_step ?hg (N := 10) ?hd (cs := #[.int .i64 0, .int .i64 0]) (t := 23) ?hr ?_; (case hd => rfl); (case hg => rfl); (case hr => first | (go_simp; done) | (go_simp; rfl))
        intro gn hg w15 hbox hb
        have hF1 := hF.new1 hg hbox hb
        refine hK.out _ _ (hS.out hF1) (fun _ => ?_)
        refine norm_ ?_ (ih 0 (some g0) (some gn) none _ (by omega) (by have := hm'.out; simp [Lat.left] at this ⊢; omega) hF1)
        simp only [Lat.nsC, Lat.nsP, List.nil_append, List.cons_append, List.append_nil, putAll, Act.put, List.setIfInBounds_toArray, List.set_cons_zero, List.set_cons_succ]
        try rfl
      · refine box_step ?hg (N := 11) ?hd (cs := #[.int .i64 0, .int .i64 0]) (t := 23) ?hr ?_; (case hd => rfl); (case hg => rfl); (case hr => first | (go_simp; done) | (go_simp; rfl))
        intro gn hg w15 hbox hb
        have hF1 := hF.new2 hg hbox hb
        refine hK.out _ _ (hS.out hF1) (fun _ => ?_)
        refine norm_ ?_ (ih 0 (some g0) none (some gn) _ (by omega) (by have := hm'.out; simp [Lat.left] at this ⊢; omega) hF1)
        simp only [Lat.nsC, Lat.nsP, List.nil_append, List.cons_append, List.append_nil, putAll, Act.put, List.setIfInBounds_toArray, List.set_cons_zero, List.set_cons_succ]
        try rfl
    · -- 0 g0 None g2
      have hm' := Aside0.mk hm
      clear hm
      refine norm_ (a' := ?_) ?_ ?_
      rotate_left
      · simp only [Lat.nsC, Lat.nsP, List.nil_append, List.cons_append, List.append_nil, putAll, Act.put, List.setIfInBounds_toArray, List.set_cons_zero, List.set_cons_succ]
        rfl
      refine wpAnyLast_ready (rs := [8, 32]) (Lat.ready_of HT_.out (by kernel_rfl)) (by simp) (AllReadyL.cons rfl (by decide) (fun K hK => ?_) (AllReadyL.cons rfl (by decide) (fun K hK => ?_) AllReadyL.nil))
      · refine goes_ Try.func12 (by kernel_rfl) rfl #[.int .i64 (wrap64 (t170 + (Int.tmod a1 1000))), .int .i64 (wrap64 (t171 + (Int.tmod a2 1000)))] (by rfl) rfl rfl (by (try simp only [List.map_toArray, List.map_cons, List.map_nil]); rfl) ?_
        with_reducible refine (terrierlaw9_P.calls (wrap64 (t170 + (Int.tmod a1 1000))) (wrap64 (t171 + (Int.tmod a2 1000))) t172 t173 _ A5.out).mono ?_
        rintro e w15 ⟨rfl, hb⟩
        refine ⟨_, rfl, ?_⟩
        have hF1 := hF.call hb
        refine hK.out _ _ (hS.out hF1) (fun _ => ?_)
        refine norm_ ?_ (ih 1 (some g0) none (some g2) _ (by omega) (by have := hm'.out; simp [Lat.left] at this ⊢; omega) hF1)
        simp only [Lat.nsC, Lat.nsP, List.nil_append, List.cons_append, List.append_nil, putAll, Act.put, List.setIfInBounds_toArray, List.set_cons_zero, List.set_cons_succ]
        try rfl
      · refine box_step ?hg (N := 10) ?hd (cs := #[.int .i64 0, .int .i64 0]) (t := 23) ?hr ?_; (case hd => rfl); (case hg => rfl); (case hr => first | (go_simp; done) | (go_simp; rfl))
        intro gn hg w15 hbox hb
        have hF1 := hF.new1 hg hbox hb
        refine hK.out _ _ (hS.out hF1) (fun _ => ?_)
        refine norm_ ?_ (ih 0 (some g0) (some gn) (some g2) _ (by omega) (by have := hm'.out; simp [Lat.left] at this ⊢; omega) hF1)
        simp only [Lat.nsC, Lat.nsP, List.nil_append, List.cons_append, List.append_nil, putAll, Act.put, List.setIfInBounds_toArray, List.set_cons_zero, List.set_cons_succ]
        try rfl
    · -- 0 g0 g1 None
      have hm' := Aside0.mk hm
      clear hm
      refine norm_ (a' := ?_) ?_ ?_
      rotate_left
      · simp only [Lat.nsC, Lat.nsP, List.nil_append, List.cons_append, List.append_nil, putAll, Act.put, List.setIfInBounds_toArray, List.set_cons_zero, List.set_cons_succ]
        rfl
      refine wpAnyLast_ready (rs := [8, 33]) (Lat.ready_of HT_.out (by kernel_rfl)) (by simp) (AllReadyL.cons rfl (by decide) (fun K hK => ?_) (AllReadyL.cons rfl (by decide) (fun K hK => ?_) AllReadyL.nil))
      · refine goes_ Try.func12 (by kernel_rfl) rfl #[.int .i64 (wrap64 (t170 + (Int.tmod a1 1000))), .int .i64 (wrap64 (t171 + (Int.tmod a2 1000)))] (by rfl) rfl rfl (by (try simp only [List.map_toArray, List.map_cons, List.map_nil]); rfl) ?_
        with_reducible refine (terrierlaw9_P.calls (wrap64 (t170 + (Int.tmod a1 1000))) (wrap64 (t171 + (Int.tmod a2 1000))) t172 t173 _ A5.out).mono ?_
        rintro e w15 ⟨rfl, hb⟩
        refine ⟨_, rfl, ?_⟩
        have hF1 := hF.call hb
        refine hK.out _ _ (hS.out hF1) (fun _ => ?_)
        refine norm_ ?_ (ih 1 (some g0) (some g1) none _ (by omega) (by have := hm'.out; simp [Lat.left] at this ⊢; omega) hF1)
        simp only [Lat.nsC, Lat.nsP, List.nil_append, List.cons_append, List.append_nil, putAll, Act.put, List.setIfInBounds_toArray, List.set_cons_zero, List.set_cons_succ]
        try rfl
      · refine box_step ?hg (N := 11) ?hd (cs := #[.int .i64 0, .int .i64 0]) (t := 23) ?hr ?_; (case hd => rfl); (case hg => rfl); (case hr => first | (go_simp; done) | (go_simp; rfl))
        intro gn hg w15 hbox hb
        have hF1 := hF.new2 hg hbox hb
        refine hK.out _ _ (hS.out hF1) (fun _ => ?_)
        refine norm_ ?_ (ih 0 (some g0) (some g1) (some gn) _ (by omega) (by have := hm'.out; simp [Lat.left] at this ⊢; omega) hF1)
        simp only [Lat.nsC, Lat.nsP, List.nil_append, List.cons_append, List.append_nil, putAll, Act.put, List.setIfInBounds_toArray, List.set_cons_zero, List.set_cons_succ]
        try rfl
    · -- 0 g0 g1 g2
      have hm' := Aside0.mk hm
      clear hm
      refine norm_ (a' := ?_) ?_ ?_
      rotate_left
      · simp only [Lat.nsC, Lat.nsP, List.nil_append, List.cons_append, List.append_nil, putAll, Act.put, List.setIfInBounds_toArray, List.set_cons_zero, List.set_cons_succ]
        rfl
      refine wpAnyLast_ready (rs := [8]) (Lat.ready_of HT_.out (by kernel_rfl)) (by simp) (AllReadyL.cons rfl (by decide) (fun K hK => ?_) AllReadyL.nil)
      · refine goes_ Try.func12 (by kernel_rfl) rfl #[.int .i64 (wrap64 (t170 + (Int.tmod a1 1000))), .int .i64 (wrap64 (t171 + (Int.tmod a2 1000)))] (by rfl) rfl rfl (by (try simp only [List.map_toArray, List.map_cons, List.map_nil]); rfl) ?_
        with_reducible refine (terrierlaw9_P.calls (wrap64 (t170 + (Int.tmod a1 1000))) (wrap64 (t171 + (Int.tmod a2 1000))) t172 t173 _ A5.out).mono ?_
        rintro e w15 ⟨rfl, hb⟩
        refine ⟨_, rfl, ?_⟩
        have hF1 := hF.call hb
        refine hK.out _ _ (hS.out hF1) (fun _ => ?_)
        refine norm_ ?_ (ih 1 (some g0) (some g1) (some g2) _ (by omega) (by have := hm'.out; simp [Lat.left] at this ⊢; omega) hF1)
        simp only [Lat.nsC, Lat.nsP, List.nil_append, List.cons_append, List.append_nil, putAll, Act.put, List.setIfInBounds_toArray, List.set_cons_zero, List.set_cons_succ]
        try rfl
    · -- 1 None None None
      have hm' := Aside0.mk hm
      clear hm
      refine norm_ (a' := ?_) ?_ ?_
      rotate_left
      · simp only [Lat.nsC, Lat.nsP, List.nil_append, List.cons_append, List.append_nil, putAll, Act.put, List.setIfInBounds_toArray, List.set_cons_zero, List.set_cons_succ]
        rfl
      refine wpAnyLast_ready (rs := [19, 31, 32, 33]) (Lat.ready_of HT_.out (by kernel_rfl)) (by simp) (AllReadyL.cons rfl (by decide) (fun K hK => ?_) (AllReadyL.cons rfl (by decide) (fun K hK => ?_) (AllReadyL.cons rfl (by decide) (fun K hK => ?_) (AllReadyL.cons rfl (by decide) (fun K hK => ?_) AllReadyL.nil))))
      · refine goes_ Try.func12 (by kernel_rfl) rfl #[.int .i64 (wrap64 (t170 + (wrap64 (2 * (Int.tmod a1 1000))))), .int .i64 (wrap64 (t171 + (wrap64 (2 * (Int.tmod a2 1000)))))] (by rfl) rfl rfl (by (try simp only [List.map_toArray, List.map_cons, List.map_nil]); rfl) ?_
        with_reducible refine (terrierlaw9_P.calls (wrap64 (t170 + (wrap64 (2 * (Int.tmod a1 1000))))) (wrap64 (t171 + (wrap64 (2 * (Int.tmod a2 1000))))) t174 t175 _ A6.out).mono ?_
        rintro e w15 ⟨rfl, hb⟩
        refine ⟨_, rfl, ?_⟩
        have hF1 := hF.call hb
        refine hK.out _ _ (hS.out hF1) (fun _ => ?_)
        refine norm_ ?_ (ih 2 none none none _ (by omega) (by have := hm'.out; simp [Lat.left] at this ⊢; omega) hF1)
        simp only [Lat.nsC, Lat.nsP, List.nil_append, List.cons_append, List.append_nil, putAll, Act.put, List.setIfInBounds_toArray, List.set_cons_zero, List.set_cons_succ]
        try rfl
      · refine box_step ?hg (N := 9) ?hd (cs := #[.int .i64 0, .int .i64 0]) (t := 23) ?hr ?_; (case hd => rfl); (case hg => rfl); (case hr => first | (go_simp; done) | (go_simp; rfl))
        intro gn hg w15 hbox hb
        have hF1 := hF.new0 hg hbox hb
        refine hK.out _ _ (hS.out hF1) (fun _ => ?_)
        refine norm_ ?_ (ih 1 (some gn) none none _ (by omega) (by have := hm'.out; simp [Lat.left] at this ⊢; omega) hF1)
        simp only [Lat.nsC, Lat.nsP, List.nil_append, List.cons_append, List.append_nil, putAll, Act.put, List.setIfInBounds_toArray, List.set_cons_zero, List.set_cons_succ]
        try rfl
      · refine box_step ?hg (N := 10) ?hd (cs := #[.int .i64 0, .int .i64 0]) (t := 23) ?hr ?_; (case hd => rfl); (case hg => rfl); (case hr => first | (go_simp; done) | (go_simp; rfl))
        intro gn hg w15 hbox hb
        have hF1 := hF.new1 hg hbox hb
        refine hK.out _ _ (hS.out hF1) (fun _ => ?_)
        refine norm_ ?_ (ih 1 none (some gn) none _ (by omega) (by have := hm'.out; simp [Lat.left] at this ⊢; omega) hF1)
        simp only [Lat.nsC, Lat.nsP, List.nil_append, List.cons_append, List.append_nil, putAll, Act.put, List.setIfInBounds_toArray, List.set_cons_zero, List.set_cons_succ]
        try rfl
      · refine box_step ?hg (N := 11) ?hd (cs := #[.int .i64 0, .int .i64 0]) (t := 23) ?hr ?_; (case hd => rfl); (case hg => rfl); (case hr => first | (go_simp; done) | (go_simp; rfl))
        intro gn hg w15 hbox hb
        have hF1 := hF.new2 hg hbox hb
        refine hK.out _ _ (hS.out hF1) (fun _ => ?_)
        refine norm_ ?_ (ih 1 none none (some gn) _ (by omega) (by have := hm'.out; simp [Lat.left] at this ⊢; omega) hF1)
        simp only [Lat.nsC, Lat.nsP, List.nil_append, List.cons_append, List.append_nil, putAll, Act.put, List.setIfInBounds_toArray, List.set_cons_zero, List.set_cons_succ]
        try rfl
    · -- 1 None None g2
      have hm' := Aside0.mk hm
      clear hm
      refine norm_ (a' := ?_) ?_ ?_
      rotate_left
      · simp only [Lat.nsC, Lat.nsP, List.nil_append, List.cons_append, List.append_nil, putAll, Act.put, List.setIfInBounds_toArray, List.set_cons_zero, List.set_cons_succ]
        rfl
      refine wpAnyLast_ready (rs := [19, 31, 32]) (Lat.ready_of HT_.out (by kernel_rfl)) (by simp) (AllReadyL.cons rfl (by decide) (fun K hK => ?_) (AllReadyL.cons rfl (by decide) (fun K hK => ?_) (AllReadyL.cons rfl (by decide) (fun K hK => ?_) AllReadyL.nil)))
      · refine goes_ Try.func12 (by kernel_rfl) rfl #[.int .i64 (wrap64 (t170 + (wrap64 (2 * (Int.tmod a1 1000))))), .int .i64 (wrap64 (t171 + (wrap64 (2 * (Int.tmod a2 1000)))))] (by rfl) rfl rfl (by (try simp only [List.map_toArray, List.map_cons, List.map_nil]); rfl) ?_
        with_reducible refine (terrierlaw9_P.calls (wrap64 (t170 + (wrap64 (2 * (Int.tmod a1 1000))))) (wrap64 (t171 + (wrap64 (2 * (Int.tmod a2 1000))))) t174 t175 _ A6.out).mono ?_
        rintro e w15 ⟨rfl, hb⟩
        refine ⟨_, rfl, ?_⟩
        have hF1 := hF.call hb
        refine hK.out _ _ (hS.out hF1) (fun _ => ?_)
        refine norm_ ?_ (ih 2 none none (some g2) _ (by omega) (by have := hm'.out; simp [Lat.left] at this ⊢; omega) hF1)
        simp only [Lat.nsC, Lat.nsP, List.nil_append, List.cons_append, List.append_nil, putAll, Act.put, List.setIfInBounds_toArray, List.set_cons_zero, List.set_cons_succ]
        try rfl
      · refine box_step ?hg (N := 9) ?hd (cs := #[.int .i64 0, .int .i64 0]) (t := 23) ?hr ?_; (case hd => rfl); (case hg => rfl); (case hr => first | (go_simp; done) | (go_simp; rfl))
        intro gn hg w15 hbox hb
        have hF1 := hF.new0 hg hbox hb
        refine hK.out _ _ (hS.out hF1) (fun _ => ?_)
        refine norm_ ?_ (ih 1 (some gn) none (some g2) _ (by omega) (by have := hm'.out; simp [Lat.left] at this ⊢; omega) hF1)
        simp only [Lat.nsC, Lat.nsP, List.nil_append, List.cons_append, List.append_nil, putAll, Act.put, List.setIfInBounds_toArray, List.set_cons_zero, List.set_cons_succ]
        try rfl
      · refine box_step ?hg (N := 10) ?hd (cs := #[.int .i64 0, .int .i64 0]) (t := 23) ?hr ?_; (case hd => rfl); (case hg => rfl); (case hr => first | (go_simp; done) | (go_simp; rfl))
        intro gn hg w15 hbox hb
        have hF1 := hF.new1 hg hbox hb
        refine hK.out _ _ (hS.out hF1) (fun _ => ?_)
        refine norm_ ?_ (ih 1 none (some gn) (some g2) _ (by omega) (by have := hm'.out; simp [Lat.left] at this ⊢; omega) hF1)
        simp only [Lat.nsC, Lat.nsP, List.nil_append, List.cons_append, List.append_nil, putAll, Act.put, List.setIfInBounds_toArray, List.set_cons_zero, List.set_cons_succ]
        try rfl
    · -- 1 None g1 None
      have hm' := Aside0.mk hm
      clear hm
      refine norm_ (a' := ?_) ?_ ?_
      rotate_left
      · simp only [Lat.nsC, Lat.nsP, List.nil_append, List.cons_append, List.append_nil, putAll, Act.put, List.setIfInBounds_toArray, List.set_cons_zero, List.set_cons_succ]
        rfl
      refine wpAnyLast_ready (rs := [19, 31, 33]) (Lat.ready_of HT_.out (by kernel_rfl)) (by simp) (AllReadyL.cons rfl (by decide) (fun K hK => ?_) (AllReadyL.cons rfl (by decide) (fun K hK => ?_) (AllReadyL.cons rfl (by decide) (fun K hK => ?_) AllReadyL.nil)))
      · refine goes_ Try.func12 (by kernel_rfl) rfl #[.int .i64 (wrap64 (t170 + (wrap64 (2 * (Int.tmod a1 1000))))), .int .i64 (wrap64 (t171 + (wrap64 (2 * (Int.tmod a2 1000)))))] (by rfl) rfl rfl (by (try simp only [List.map_toArray, List.map_cons, List.map_nil]); rfl) ?_
        with_reducible refine (terrierlaw9_P.calls (wrap64 (t170 + (wrap64 (2 * (Int.tmod a1 1000))))) (wrap64 (t171 + (wrap64 (2 * (Int.tmod a2 1000))))) t174 t175 _ A6.out).mono ?_
        rintro e w15 ⟨rfl, hb⟩
        refine ⟨_, rfl, ?_⟩
        have hF1 := hF.call hb
        refine hK.out _ _ (hS.out hF1) (fun _ => ?_)
        refine norm_ ?_ (ih 2 none (some g1) none _ (by omega) (by have := hm'.out; simp [Lat.left] at this ⊢; omega) hF1)
        simp only [Lat.nsC, Lat.nsP, List.nil_append, List.cons_append, List.append_nil, putAll, Act.put, List.setIfInBounds_toArray, List.set_cons_zero, List.set_cons_succ]
        try rfl
      · refine box_step ?hg (N := 9) ?hd (cs := #[.int .i64 0, .int .i64 0]) (t := 23) ?hr ?_; (case hd => rfl); (case hg => rfl); (case hr => first | (go_simp; done) | (go_simp; rfl))
        intro gn hg w15 hbox hb
        have hF1 := hF.new0 hg hbox hb
        refine hK.out _ _ (hS.out hF1) (fun _ => ?_)
        refine norm_ ?_ (ih 1 (some gn) (some g1) none _ (by omega) (by have := hm'.out; simp [Lat.left] at this ⊢; omega) hF1)
        simp only [Lat.nsC, Lat.nsP, List.nil_append, List.cons_append, List.append_nil, putAll, Act.put, List.setIfInBounds_toArray, List.set_cons_zero, List.set_cons_succ]
        try rfl
      · refine box_step ?hg (N := 11) ?hd (cs := #[.int .i64 0, .int .i64 0]) (t := 23) ?hr ?_; (case hd => rfl); (case hg => rfl); (case hr => first | (go_simp; done) | (go_simp; rfl))
        intro gn hg w15 hbox hb
        have hF1 := hF.new2 hg hbox hb
        refine hK.out _ _ (hS.out hF1) (fun _ => ?_)
        refine norm_ ?_ (ih 1 none (some g1) (some gn) _ (by omega) (by have := hm'.out; simp [Lat.left] at this ⊢; omega) hF1)
        simp only [Lat.nsC, Lat.nsP, List.nil_append, List.cons_append, List.append_nil, putAll, Act.put, List.setIfInBounds_toArray, List.set_cons_zero, List.set_cons_succ]
        try rfl
    · -- 1 None g1 g2
      have hm' := Aside0.mk hm
      clear hm
      refine norm_ (a' := ?_) ?_ ?_
      rotate_left
      · simp only [Lat.nsC, Lat.nsP, List.nil_append, List.cons_append, List.append_nil, putAll, Act.put, List.setIfInBounds_toArray, List.set_cons_zero, List.set_cons_succ]
        rfl
      refine wpAnyLast_ready (rs := [19, 31]) (Lat.ready_of HT_.out (by kernel_rfl)) (by simp) (AllReadyL.cons rfl (by decide) (fun K hK => ?_) (AllReadyL.cons rfl (by decide) (fun K hK => ?_) AllReadyL.nil))
      · refine goes_ Try.func12 (by kernel_rfl) rfl #[.int .i64 (wrap64 (t170 + (wrap64 (2 * (Int.tmod a1 1000))))), .int .i64 (wrap64 (t171 + (wrap64 (2 * (Int.tmod a2 1000)))))] (by rfl) rfl rfl (by (try simp only [List.map_toArray, List.map_cons, List.map_nil]); rfl) ?_
        with_reducible refine (terrierlaw9_P.calls (wrap64 (t170 + (wrap64 (2 * (Int.tmod a1 1000))))) (wrap64 (t171 + (wrap64 (2 * (Int.tmod a2 1000))))) t174 t175 _ A6.out).mono ?_
        rintro e w15 ⟨rfl, hb⟩
        refine ⟨_, rfl, ?_⟩
        have hF1 := hF.call hb
        refine hK.out _ _ (hS.out hF1) (fun _ => ?_)
        refine norm_ ?_ (ih 2 none (some g1) (some g2) _ (by omega) (by have := hm'.out; simp [Lat.left] at this ⊢; omega) hF1)
        simp only [Lat.nsC, Lat.nsP, List.nil_append, List.cons_append, List.append_nil, putAll, Act.put, List.setIfInBounds_toArray, List.set_cons_zero, List.set_cons_succ]
        try rfl
      · refine box_step ?hg (N := 9) ?hd (cs := #[.int .i64 0, .int .i64 0]) (t := 23) ?hr ?_; (case hd => rfl); (case hg => rfl); (case hr => first | (go_simp; done) | (go_simp; rfl))
        intro gn hg w15 hbox hb
        have hF1 := hF.new0 hg hbox hb
        refine hK.out _ _ (hS.out hF1) (fun _ => ?_)
        refine norm_ ?_ (ih 1 (some gn) (some g1) (some g2) _ (by omega) (by have := hm'.out; simp [Lat.left] at this ⊢; omega) hF1)
        simp only [Lat.nsC, Lat.nsP, List.nil_append, List.cons_append, List.append_nil, putAll, Act.put, List.setIfInBounds_toArray, List.set_cons_zero, List.set_cons_succ]
        try rfl
    · -- 1 g0 None None
      have hm' := Aside0.mk hm
      clear hm
      refine norm_ (a' := ?_) ?_ ?_
      rotate_left
      · simp only [Lat.nsC, Lat.nsP, List.nil_append, List.cons_append, List.append_nil, putAll, Act.put, List.setIfInBounds_toArray, List.set_cons_zero, List.set_cons_succ]
        rfl
      refine wpAnyLast_ready (rs := [19, 32, 33]) (Lat.ready_of HT_.out (by kernel_rfl)) (by simp) (AllReadyL.cons rfl (by decide) (fun K hK => ?_) (AllReadyL.cons rfl (by decide) (fun K hK => ?_) (AllReadyL.cons rfl (by decide) (fun K hK => ?_) AllReadyL.nil)))
      · refine goes_ Try.func12 (by kernel_rfl) rfl #[.int .i64 (wrap64 (t170 + (wrap64 (2 * (Int.tmod a1 1000))))), .int .i64 (wrap64 (t171 + (wrap64 (2 * (Int.tmod a2 1000)))))] (by rfl) rfl rfl (by (try simp only [List.map_toArray, List.map_cons, List.map_nil]); rfl) ?_
        with_reducible refine (terrierlaw9_P.calls (wrap64 (t170 + (wrap64 (2 * (Int.tmod a1 1000))))) (wrap64 (t171 + (wrap64 (2 * (Int.tmod a2 1000))))) t174 t175 _ A6.out).mono ?_
        rintro e w15 ⟨rfl, hb⟩
        refine ⟨_, rfl, ?_⟩
        have hF1 := hF.call hb
        refine hK.out _ _ (hS.out hF1) (fun _ => ?_)
        refine norm_ ?_ (ih 2 (some g0) none none _ (by omega) (by have := hm'.out; simp [Lat.left] at this ⊢; omega) hF1)
        simp only [Lat.nsC, Lat.nsP, List.nil_append, List.cons_append, List.append_nil, putAll, Act.put, List.setIfInBounds_toArray, List.set_cons_zero, List.set_cons_succ]
        try rfl
      · refine box_step ?hg (N := 10) ?hd (cs := #[.int .i64 0, .int .i64 0]) (t := 23) ?hr ?_; (case hd => rfl); (case hg => rfl); (case hr => first | (go_simp; done) | (go_simp; rfl))
        intro gn hg w15 hbox hb
        have hF1 := hF.new1 hg hbox hb
        refine hK.out _ _ (hS.out hF1) (fun _ => ?_)
        refine norm_ ?_ (ih 1 (some g0) (some gn) none _ (by omega) (by have := hm'.out; simp [Lat.left] at this ⊢; omega) hF1)
        simp only [Lat.nsC, Lat.nsP, List.nil_append, List.cons_append, List.append_nil, putAll, Act.put, List.setIfInBounds_toArray, List.set_cons_zero, List.set_cons_succ]
        try rfl
      · refine box_step ?hg (N := 11) ?hd (cs := #[.int .i64 0, .int .i64 0]) (t := 23) ?hr ?_; (case hd => rfl); (case hg => rfl); (case hr => first | (go_simp; done) | (go_simp; rfl))
        intro gn hg w15 hbox hb
        have hF1 := hF.new2 hg hbox hb
        refine hK.out _ _ (hS.out hF1) (fun _ => ?_)
        refine norm_ ?_ (ih 1 (some g0) none (some gn) _ (by omega) (by have := hm'.out; simp [Lat.left] at this ⊢; omega) hF1)
        simp only [Lat.nsC, Lat.nsP, List.nil_append, List.cons_append, List.append_nil, putAll, Act.put, List.setIfInBounds_toArray, List.set_cons_zero, List.set_cons_succ]
        try rfl
    · -- 1 g0 None g2
      have hm' := Aside0.mk hm
      clear hm
      refine norm_ (a' := ?_) ?_ ?_
      rotate_left
      · simp only [Lat.nsC, Lat.nsP, List.nil_append, List.cons_append, List.append_nil, putAll, Act.put, List.setIfInBounds_toArray, List.set_cons_zero, List.set_cons_succ]
        rfl
      refine wpAnyLast_ready (rs := [19, 32]) (Lat.ready_of HT_.out (by kernel_rfl)) (by simp) (AllReadyL.cons rfl (by decide) (fun K hK => ?_) (AllReadyL.cons rfl (by decide) (fun K hK => ?_) AllReadyL.nil))
      · refine goes_ Try.func12 (by kernel_rfl) rfl #[.int .i64 (wrap64 (t170 + (wrap64 (2 * (Int.tmod a1 1000))))), .int .i64 (wrap64 (t171 + (wrap64 (2 * (Int.tmod a2 1000)))))] (by rfl) rfl rfl (by (try simp only [List.map_toArray, List.map_cons, List.map_nil]); rfl) ?_
        with_reducible refine (terrierlaw9_P.calls (wrap64 (t170 + (wrap64 (2 * (Int.tmod a1 1000))))) (wrap64 (t171 + (wrap64 (2 * (Int.tmod a2 1000))))) t174 t175 _ A6.out).mono ?_
        rintro e w15 ⟨rfl, hb⟩
        refine ⟨_, rfl, ?_⟩
        have hF1 := hF.call hb
        refine hK.out _ _ (hS.out hF1) (fun _ => ?_)
        refine norm_ ?_ (ih 2 (some g0) none (some g2) _ (by omega) (by have := hm'.out; simp [Lat.left] at this ⊢; omega) hF1)
        simp only [Lat.nsC, Lat.nsP, List.nil_append, List.cons_append, List.append_nil, putAll, Act.put, List.setIfInBounds_toArray, List.set_cons_zero, List.set_cons_succ]
        try rfl
      · refine box_step ?hg (N := 10) ?hd (cs := #[.int .i64 0, .int .i64 0]) (t := 23) ?hr ?_; (case hd => rfl); (case hg => rfl); (case hr => first | (go_simp; done) | (go_simp; rfl))
        intro gn hg w15 hbox hb
        have hF1 := hF.new1 hg hbox hb
        refine hK.out _ _ (hS.out hF1) (fun _ => ?_)
        refine norm_ ?_ (ih 1 (some g0) (some gn) (some g2) _ (by omega) (by have := hm'.out; simp [Lat.left] at this ⊢; omega) hF1)
        simp only [Lat.nsC, Lat.nsP, List.nil_append, List.cons_append, List.append_nil, putAll, Act.put, List.setIfInBounds_toArray, List.set_cons_zero, List.set_cons_succ]
        try rfl
    · -- 1 g0 g1 None
      have hm' := Aside0.mk hm
      clear hm
      refine norm_ (a' := ?_) ?_ ?_
      rotate_left
      · simp only [Lat.nsC, Lat.nsP, List.nil_append, List.cons_append, List.append_nil, putAll, Act.put, List.setIfInBounds_toArray, List.set_cons_zero, List.set_cons_succ]
        rfl
      refine wpAnyLast_ready (rs := [19, 33]) (Lat.ready_of HT_.out (by kernel_rfl)) (by simp) (AllReadyL.cons rfl (by decide) (fun K hK => ?_) (AllReadyL.cons rfl (by decide) (fun K hK => ?_) AllReadyL.nil))
      · refine goes_ Try.func12 (by kernel_rfl) rfl #[.int .i64 (wrap64 (t170 + (wrap64 (2 * (Int.tmod a1 1000))))), .int .i64 (wrap64 (t171 + (wrap64 (2 * (Int.tmod a2 1000)))))] (by rfl) rfl rfl (by (try simp only [List.map_toArray, List.map_cons, List.map_nil]); rfl) ?_
        with_reducible refine (terrierlaw9_P.calls (wrap64 (t170 + (wrap64 (2 * (Int.tmod a1 1000))))) (wrap64 (t171 + (wrap64 (2 * (Int.tmod a2 1000))))) t174 t175 _ A6.out).mono ?_
        rintro e w15 ⟨rfl, hb⟩
        refine ⟨_, rfl, ?_⟩
        have hF1 := hF.call hb
        refine hK.out _ _ (hS.out hF1) (fun _ => ?_)
        refine norm_ ?_ (ih 2 (some g0) (some g1) none _ (by omega) (by have := hm'.out; simp [Lat.left] at this ⊢; omega) hF1)
        simp only [Lat.nsC, Lat.nsP, List.nil_append, List.cons_append, List.append_nil, putAll, Act.put, List.setIfInBounds_toArray, List.set_cons_zero, List.set_cons_succ]
        try rfl
      · refine box_step ?hg (N := 11) ?hd (cs := #[.int .i64 0, .int .i64 0]) (t := 23) ?hr ?_; (case hd => rfl); (case hg => rfl); (case hr => first | (go_simp; done) | (go_simp; rfl))
        intro gn hg w15 hbox hb
        have hF1 := hF.new2 hg hbox hb
        refine hK.out _ _ (hS.out hF1) (fun _ => ?_)
        refine norm_ ?_ (ih 1 (some g0) (some g1) (some gn) _ (by omega) (by have := hm'.out; simp [Lat.left] at this ⊢; omega) hF1)
        simp only [Lat.nsC, Lat.nsP, List.nil_append, List.cons_append, List.append_nil, putAll, Act.put, List.setIfInBounds_toArray, List.set_cons_zero, List.set_cons_succ]
        try rfl
    · -- 1 g0 g1 g2
      have hm' := Aside0.mk hm
      clear hm
      refine norm_ (a' := ?_) ?_ ?_
      rotate_left
      · simp only [Lat.nsC, Lat.nsP, List.nil_append, List.cons_append, List.append_nil, putAll, Act.put, List.setIfInBounds_toArray, List.set_cons_zero, List.set_cons_succ]
        rfl
      refine wpAnyLast_ready (rs := [19]) (Lat.ready_of HT_.out (by kernel_rfl)) (by simp) (AllReadyL.cons rfl (by decide) (fun K hK => ?_) AllReadyL.nil)
      · refine goes_ Try.func12 (by kernel_rfl) rfl #[.int .i64 (wrap64 (t170 + (wrap64 (2 * (Int.tmod a1 1000))))), .int .i64 (wrap64 (t171 + (wrap64 (2 * (Int.tmod a2 1000)))))] (by rfl) rfl rfl (by (try simp only [List.map_toArray, List.map_cons, List.map_nil]); rfl) ?_
        with_reducible refine (terrierlaw9_P.calls (wrap64 (t170 + (wrap64 (2 * (Int.tmod a1 1000))))) (wrap64 (t171 + (wrap64 (2 * (Int.tmod a2 1000))))) t174 t175 _ A6.out).mono ?_
        rintro e w15 ⟨rfl, hb⟩
        refine ⟨_, rfl, ?_⟩
        have hF1 := hF.call hb
        refine hK.out _ _ (hS.out hF1) (fun _ => ?_)
        refine norm_ ?_ (ih 2 (some g0) (some g1) (some g2) _ (by omega) (by have := hm'.out; simp [Lat.left] at this ⊢; omega) hF1)
        simp only [Lat.nsC, Lat.nsP, List.nil_append, List.cons_append, List.append_nil, putAll, Act.put, List.setIfInBounds_toArray, List.set_cons_zero, List.set_cons_succ]
        try rfl
    · -- 2 None None None
      have hm' := Aside0.mk hm
      clear hm
      refine norm_ (a' := ?_) ?_ ?_
      rotate_left
      · simp only [Lat.nsC, Lat.nsP, List.nil_append, List.cons_append, List.append_nil, putAll, Act.put, List.setIfInBounds_toArray, List.set_cons_zero, List.set_cons_succ]
        rfl
      refine wpAnyLast_ready (rs := [30, 31, 32, 33]) (Lat.ready_of HT_.out (by kernel_rfl)) (by simp) (AllReadyL.cons rfl (by decide) (fun K hK => ?_) (AllReadyL.cons rfl (by decide) (fun K hK => ?_) (AllReadyL.cons rfl (by decide) (fun K hK => ?_) (AllReadyL.cons rfl (by decide) (fun K hK => ?_) AllReadyL.nil))))
      · refine goes_ Try.func12 (by kernel_rfl) rfl #[.int .i64 (wrap64 (t170 + (wrap64 (3 * (Int.tmod a1 1000))))), .int .i64 (wrap64 (t171 + (wrap64 (3 * (Int.tmod a2 1000)))))] (by rfl) rfl rfl (by (try simp only [List.map_toArray, List.map_cons, List.map_nil]); rfl) ?_
        with_reducible refine (terrierlaw9_P.calls (wrap64 (t170 + (wrap64 (3 * (Int.tmod a1 1000))))) (wrap64 (t171 + (wrap64 (3 * (Int.tmod a2 1000))))) t176 t177 _ A7.out).mono ?_
        rintro e w15 ⟨rfl, hb⟩
        refine ⟨_, rfl, ?_⟩
        have hF1 := hF.call hb
        refine hK.out _ _ (hS.out hF1) (fun _ => ?_)
        refine norm_ ?_ (ih 3 none none none _ (by omega) (by have := hm'.out; simp [Lat.left] at this ⊢; omega) hF1)
        simp only [Lat.nsC, Lat.nsP, List.nil_append, List.cons_append, List.append_nil, putAll, Act.put, List.setIfInBounds_toArray, List.set_cons_zero, List.set_cons_succ]
        try rfl
      · refine box_step ?hg (N := 9) ?hd (cs := #[.int .i64 0, .int .i64 0]) (t := 23) ?hr ?_; (case hd => rfl); (case hg => rfl); (case hr => first | (go_simp; done) | (go_simp; rfl))
        intro gn hg w15 hbox hb
        have hF1 := hF.new0 hg hbox hb
        refine hK.out _ _ (hS.out hF1) (fun _ => ?_)
        refine norm_ ?_ (ih 2 (some gn) none none _ (by omega) (by have := hm'.out; simp [Lat.left] at this ⊢; omega) hF1)
        simp only [Lat.nsC, Lat.nsP, List.nil_append, List.cons_append, List.append_nil, putAll, Act.put, List.setIfInBounds_toArray, List.set_cons_zero, List.set_cons_succ]
        try rfl
      · refine box_step ?hg (N := 10) ?hd (cs := #[.int .i64 0, .int .i64 0]) (t := 23) ?hr ?_; (case hd => rfl); (case hg => rfl); (case hr => first | (go_simp; done) | (go_simp; rfl))
        intro gn hg w15 hbox hb
        have hF1 := hF.new1 hg hbox hb
        refine hK.out _ _ (hS.out hF1) (fun _ => ?_)
        refine norm_ ?_ (ih 2 none (some gn) none _ (by omega) (by have := hm'.out; simp [Lat.left] at this ⊢; omega) hF1)
        simp only [Lat.nsC, Lat.nsP, List.nil_append, List.cons_append, List.append_nil, putAll, Act.put, List.setIfInBounds_toArray, List.set_cons_zero, List.set_cons_succ]
        try rfl
      · refine box_step ?hg (N := 11) ?hd (cs := #[.int .i64 0, .int .i64 0]) (t := 23) ?hr ?_; (case hd => rfl); (case hg => rfl); (case hr => first | (go_simp; done) | (go_simp; rfl))
        intro gn hg w15 hbox hb
        have hF1 := hF.new2 hg hbox hb
        refine hK.out _ _ (hS.out hF1) (fun _ => ?_)
        refine norm_ ?_ (ih 2 none none (some gn) _ (by omega) (by have := hm'.out; simp [Lat.left] at this ⊢; omega) hF1)
        simp only [Lat.nsC, Lat.nsP, List.nil_append, List.cons_append, List.append_nil, putAll, Act.put, List.setIfInBounds_toArray, List.set_cons_zero, List.set_cons_succ]
        try rfl
    · -- 2 None None g2
      have hm' := Aside0.mk hm
      clear hm
      refine norm_ (a' := ?_) ?_ ?_
      rotate_left
      · simp only [Lat.nsC, Lat.nsP, List.nil_append, List.cons_append, List.append_nil, putAll, Act.put, List.setIfInBounds_toArray, List.set_cons_zero, List.set_cons_succ]
        rfl
      refine wpAnyLast_ready (rs := [30, 31, 32]) (Lat.ready_of HT_.out (by kernel_rfl)) (by simp) (AllReadyL.cons rfl (by decide) (fun K hK => ?_) (AllReadyL.cons rfl (by decide) (fun K hK => ?_) (AllReadyL.cons rfl (by decide) (fun K hK => ?_) AllReadyL.nil)))
      · refine goes_ Try.func12 (by kernel_rfl) rfl #[.int .i64 (wrap64 (t170 + (wrap64 (3 * (Int.tmod a1 1000))))), .int .i64 (wrap64 (t171 + (wrap64 (3 * (Int.tmod a2 1000)))))] (by rfl) rfl rfl (by (try simp only [List.map_toArray, List.map_cons, List.map_nil]); rfl) ?_
        with_reducible refine (terrierlaw9_P.calls (wrap64 (t170 + (wrap64 (3 * (Int.tmod a1 1000))))) (wrap64 (t171 + (wrap64 (3 * (Int.tmod a2 1000))))) t176 t177 _ A7.out).mono ?_
        rintro e w15 ⟨rfl, hb⟩
        refine ⟨_, rfl, ?_⟩
        have hF1 := hF.call hb
        refine hK.out _ _ (hS.out hF1) (fun _ => ?_)
        refine norm_ ?_ (ih 3 none none (some g2) _ (by omega) (by have := hm'.out; simp [Lat.left] at this ⊢; omega) hF1)
        simp only [Lat.nsC, Lat.nsP, List.nil_append, List.cons_append, List.append_nil, putAll, Act.put, List.setIfInBounds_toArray, List.set_cons_zero, List.set_cons_succ]
        try rfl
      · refine box_step ?hg (N := 9) ?hd (cs := #[.int .i64 0, .int .i64 0]) (t := 23) ?hr ?_; (case hd => rfl); (case hg => rfl); (case hr => first | (go_simp; done) | (go_simp; rfl))
        intro gn hg w15 hbox hb
        have hF1 := hF.new0 hg hbox hb
        refine hK.out _ _ (hS.out hF1) (fun _ => ?_)
        refine norm_ ?_ (ih 2 (some gn) none (some g2) _ (by omega) (by have := hm'.out; simp [Lat.left] at this ⊢; omega) hF1)
        simp only [Lat.nsC, Lat.nsP, List.nil_append, List.cons_append, List.append_nil, putAll, Act.put, List.setIfInBounds_toArray, List.set_cons_zero, List.set_cons_succ]
        try rfl
      · refine box_step ?hg (N := 10) ?hd (cs := #[.int .i64 0, .int .i64 0]) (t := 23) ?hr ?_; (case hd => rfl); (case hg => rfl); (case hr => first | (go_simp; done) | (go_simp; rfl))
        intro gn hg w15 hbox hb
        have hF1 := hF.new1 hg hbox hb
        refine hK.out _ _ (hS.out hF1) (fun _ => ?_)
        refine norm_ ?_ (ih 2 none (some gn) (some g2) _ (by omega) (by have := hm'.out; simp [Lat.left] at this ⊢; omega) hF1)
        simp only [Lat.nsC, Lat.nsP, List.nil_append, List.cons_append, List.append_nil, putAll, Act.put, List.setIfInBounds_toArray, List.set_cons_zero, List.set_cons_succ]
        try rfl
    · -- 2 None g1 None
      have hm' := Aside0.mk hm
      clear hm
      refine norm_ (a' := ?_) ?_ ?_
      rotate_left
      · simp only [Lat.nsC, Lat.nsP, List.nil_append, List.cons_append, List.append_nil, putAll, Act.put, List.setIfInBounds_toArray, List.set_cons_zero, List.set_cons_succ]
        rfl
      refine wpAnyLast_ready (rs := [30, 31, 33]) (Lat.ready_of HT_.out (by kernel_rfl)) (by simp) (AllReadyL.cons rfl (by decide) (fun K hK => ?_) (AllReadyL.cons rfl (by decide) (fun K hK => ?_) (AllReadyL.cons rfl (by decide) (fun K hK => ?_) AllReadyL.nil)))
      · refine goes_ Try.func12 (by kernel_rfl) rfl #[.int .i64 (wrap64 (t170 + (wrap64 (3 * (Int.tmod a1 1000))))), .int .i64 (wrap64 (t171 + (wrap64 (3 * (Int.tmod a2 1000)))))] (by rfl) rfl rfl (by (try simp only [List.map_toArray, List.map_cons, List.map_nil]); rfl) ?_
        with_reducible refine (terrierlaw9_P.calls (wrap64 (t170 + (wrap64 (3 * (Int.tmod a1 1000))))) (wrap64 (t171 + (wrap64 (3 * (Int.tmod a2 1000))))) t176 t177 _ A7.out).mono ?_
        rintro e w15 ⟨rfl, hb⟩
        refine ⟨_, rfl, ?_⟩
        have hF1 := hF.call hb
        refine hK.out _ _ (hS.out hF1) (fun _ => ?_)
        refine norm_ ?_ (ih 3 none (some g1) none _ (by omega) (by have := hm'.out; simp [Lat.left] at this ⊢; omega) hF1)
        simp only [Lat.nsC, Lat.nsP, List.nil_append, List.cons_append, List.append_nil, putAll, Act.put, List.setIfInBounds_toArray, List.set_cons_zero, List.set_cons_succ]
        try rfl
      · refine box_step ?hg (N := 9) ?hd (cs := #[.int .i64 0, .int .i64 0]) (t := 23) ?hr ?_; (case hd => rfl); (case hg => rfl); (case hr => first | (go_simp; done) | (go_simp; rfl))
        intro gn hg w15 hbox hb
        have hF1 := hF.new0 hg hbox hb
        refine hK.out _ _ (hS.out hF1) (fun _ => ?_)
        refine norm_ ?_ (ih 2 (some gn) (some g1) none _ (by omega) (by have := hm'.out; simp [Lat.left] at this ⊢; omega) hF1)
        simp only [Lat.nsC, Lat.nsP, List.nil_append, List.cons_append, List.append_nil, putAll, Act.put, List.setIfInBounds_toArray, List.set_cons_zero, List.set_cons_succ]
        try rfl
      · refine box_step ?hg (N := 11) ?hd (cs := #[.int .i64 0, .int .i64 0]) (t := 23) ?hr ?_; (case hd => rfl); (case hg => rfl); (case hr => first | (go_simp; done) | (go_simp; rfl))
        intro gn hg w15 hbox hb
        have hF1 := hF.new2 hg hbox hb
        refine hK.out _ _ (hS.out hF1) (fun _ => ?_)
        refine norm_ ?_ (ih 2 none (some g1) (some gn) _ (by omega) (by have := hm'.out; simp [Lat.left] at this ⊢; omega) hF1)
        simp only [Lat.nsC, Lat.nsP, List.nil_append, List.cons_append, List.append_nil, putAll, Act.put, List.setIfInBounds_toArray, List.set_cons_zero, List.set_cons_succ]
        try rfl
    · -- 2 None g1 g2
      have hm' := Aside0.mk hm
      clear hm
      refine norm_ (a' := ?_) ?_ ?_
      rotate_left
      · simp only [Lat.nsC, Lat.nsP, List.nil_append, List.cons_append, List.append_nil, putAll, Act.put, List.setIfInBounds_toArray, List.set_cons_zero, List.set_cons_succ]
        rfl
      refine wpAnyLast_ready (rs := [30, 31]) (Lat.ready_of HT_.out (by kernel_rfl)) (by simp) (AllReadyL.cons rfl (by decide) (fun K hK => ?_) (AllReadyL.cons rfl (by decide) (fun K hK => ?_) AllReadyL.nil))
      · refine goes_ Try.func12 (by kernel_rfl) rfl #[.int .i64 (wrap64 (t170 + (wrap64 (3 * (Int.tmod a1 1000))))), .int .i64 (wrap64 (t171 + (wrap64 (3 * (Int.tmod a2 1000)))))] (by rfl) rfl rfl (by (try simp only [List.map_toArray, List.map_cons, List.map_nil]); rfl) ?_
        with_reducible refine (terrierlaw9_P.calls (wrap64 (t170 + (wrap64 (3 * (Int.tmod a1 1000))))) (wrap64 (t171 + (wrap64 (3 * (Int.tmod a2 1000))))) t176 t177 _ A7.out).mono ?_
        rintro e w15 ⟨rfl, hb⟩
        refine ⟨_, rfl, ?_⟩
        have hF1 := hF.call hb
        refine hK.out _ _ (hS.out hF1) (fun _ => ?_)
        refine norm_ ?_ (ih 3 none (some g1) (some g2) _ (by omega) (by have := hm'.out; simp [Lat.left] at this ⊢; omega) hF1)
        simp only [Lat.nsC, Lat.nsP, List.nil_append, List.cons_append, List.append_nil, putAll, Act.put, List.setIfInBounds_toArray, List.set_cons_zero, List.set_cons_succ]
        try rfl
      · refine box_step ?hg (N := 9) ?hd (cs := #[.int .i64 0, .int .i64 0]) (t := 23) ?hr ?_; (case hd => rfl); (case hg => rfl); (case hr => first | (go_simp; done) | (go_simp; rfl))
        intro gn hg w15 hbox hb
        have hF1 := hF.new0 hg hbox hb
        refine hK.out _ _ (hS.out hF1) (fun _ => ?_)
        refine norm_ ?_ (ih 2 (some gn) (some g1) (some g2) _ (by omega) (by have := hm'.out; simp [Lat.left] at this ⊢; omega) hF1)
        simp only [Lat.nsC, Lat.nsP, List.nil_append, List.cons_append, List.append_nil, putAll, Act.put, List.setIfInBounds_toArray, List.set_cons_zero, List.set_cons_succ]
        try rfl
    · -- 2 g0 None None
      have hm' := Aside0.mk hm
      clear hm
      refine norm_ (a' := ?_) ?_ ?_
      rotate_left
      · simp only [Lat.nsC, Lat.nsP, List.nil_append, List.cons_append, List.append_nil, putAll, Act.put, List.setIfInBounds_toArray, List.set_cons_zero, List.set_cons_succ]
        rfl
      refine wpAnyLast_ready (rs := [30, 32, 33]) (Lat.ready_of HT_.out (by kernel_rfl)) (by simp) (AllReadyL.cons rfl (by decide) (fun K hK => ?_) (AllReadyL.cons rfl (by decide) (fun K hK => ?_) (AllReadyL.cons rfl (by decide) (fun K hK => ?_) AllReadyL.nil)))
      · refine goes_ Try.func12 (by kernel_rfl) rfl #[.int .i64 (wrap64 (t170 + (wrap64 (3 * (Int.tmod a1 1000))))), .int .i64 (wrap64 (t171 + (wrap64 (3 * (Int.tmod a2 1000)))))] (by rfl) rfl rfl (by (try simp only [List.map_toArray, List.map_cons, List.map_nil]); rfl) ?_
        with_reducible refine (terrierlaw9_P.calls (wrap64 (t170 + (wrap64 (3 * (Int.tmod a1 1000))))) (wrap64 (t171 + (wrap64 (3 * (Int.tmod a2 1000))))) t176 t177 _ A7.out).mono ?_
        rintro e w15 ⟨rfl, hb⟩
        refine ⟨_, rfl, ?_⟩
        have hF1 := hF.call hb
        refine hK.out _ _ (hS.out hF1) (fun _ => ?_)
        refine norm_ ?_ (ih 3 (some g0) none none _ (by omega) (by have := hm'.out; simp [Lat.left] at this ⊢; omega) hF1)
        simp only [Lat.nsC, Lat.nsP, List.nil_append, List.cons_append, List.append_nil, putAll, Act.put, List.setIfInBounds_toArray, List.set_cons_zero, List.set_cons_succ]
        try rfl
      · refine box_step ?hg (N := 10) ?hd (cs := #[.int .i64 0, .int .i64 0]) (t := 23) ?hr ?_; (case hd => rfl); (case hg => rfl); (case hr => first | (go_simp; done) | (go_simp; rfl))
        intro gn hg w15 hbox hb
        have hF1 := hF.new1 hg hbox hb
        refine hK.out _ _ (hS.out hF1) (fun _ => ?_)
        refine norm_ ?_ (ih 2 (some g0) (some gn) none _ (by omega) (by have := hm'.out; simp [Lat.left] at this ⊢; omega) hF1)
        simp only [Lat.nsC, Lat.nsP, List.nil_append, List.cons_append, List.append_nil, putAll, Act.put, List.setIfInBounds_toArray, List.set_cons_zero, List.set_cons_succ]
        try rfl
      · refine box_step ?hg (N := 11) ?hd (cs := #[.int .i64 0, .int .i64 0]) (t := 23) ?hr ?_; (case hd => rfl); (case hg => rfl); (case hr => first | (go_simp; done) | (go_simp; rfl))
        intro gn hg w15 hbox hb
        have hF1 := hF.new2 hg hbox hb
        refine hK.out _ _ (hS.out hF1) (fun _ => ?_)
        refine norm_ ?_ (ih 2 (some g0) none (some gn) _ (by omega) (by have := hm'.out; simp [Lat.left] at this ⊢; omega) hF1)
        simp only [Lat.nsC, Lat.nsP, List.nil_append, List.cons_append, List.append_nil, putAll, Act.put, List.setIfInBounds_toArray, List.set_cons_zero, List.set_cons_succ]
        try rfl
    · -- 2 g0 None g2
      have hm' := Aside0.mk hm
      clear hm
      refine norm_ (a' := ?_) ?_ ?_
      rotate_left
      · simp only [Lat.nsC, Lat.nsP, List.nil_append, List.cons_append, List.append_nil, putAll, Act.put, List.setIfInBounds_toArray, List.set_cons_zero, List.set_cons_succ]
        rfl
      refine wpAnyLast_ready (rs := [30, 32]) (Lat.ready_of HT_.out (by kernel_rfl)) (by simp) (AllReadyL.cons rfl (by decide) (fun K hK => ?_) (AllReadyL.cons rfl (by decide) (fun K hK => ?_) AllReadyL.nil))
      · refine goes_ Try.func12 (by kernel_rfl) rfl #[.int .i64 (wrap64 (t170 + (wrap64 (3 * (Int.tmod a1 1000))))), .int .i64 (wrap64 (t171 + (wrap64 (3 * (Int.tmod a2 1000)))))] (by rfl) rfl rfl (by (try simp only [List.map_toArray, List.map_cons, List.map_nil]); rfl) ?_
        with_reducible refine (terrierlaw9_P.calls (wrap64 (t170 + (wrap64 (3 * (Int.tmod a1 1000))))) (wrap64 (t171 + (wrap64 (3 * (Int.tmod a2 1000))))) t176 t177 _ A7.out).mono ?_
        rintro e w15 ⟨rfl, hb⟩
        refine ⟨_, rfl, ?_⟩
        have hF1 := hF.call hb
        refine hK.out _ _ (hS.out hF1) (fun _ => ?_)
        refine norm_ ?_ (ih 3 (some g0) none (some g2) _ (by omega) (by have := hm'.out; simp [Lat.left] at this ⊢; omega) hF1)
        simp only [Lat.nsC, Lat.nsP, List.nil_append, List.cons_append, List.append_nil, putAll, Act.put, List.setIfInBounds_toArray, List.set_cons_zero, List.set_cons_succ]
        try rfl
      · refine box_step ?hg (N := 10) ?hd (cs := #[.int .i64 0, .int .i64 0]) (t := 23) ?hr ?_; (case hd => rfl); (case hg => rfl); (case hr => first | (go_simp; done) | (go_simp; rfl))
        intro gn hg w15 hbox hb
        have hF1 := hF.new1 hg hbox hb
        refine hK.out _ _ (hS.out hF1) (fun _ => ?_)
        refine norm_ ?_ (ih 2 (some g0) (some gn) (some g2) _ (by omega) (by have := hm'.out; simp [Lat.left] at this ⊢; omega) hF1)
        simp only [Lat.nsC, Lat.nsP, List.nil_append, List.cons_append, List.append_nil, putAll, Act.put, List.setIfInBounds_toArray, List.set_cons_zero, List.set_cons_succ]
        try rfl
    · -- 2 g0 g1 None
      have hm' := Aside0.mk hm
      clear hm
      refine norm_ (a' := ?_) ?_ ?_
      rotate_left
      · simp only [Lat.nsC, Lat.nsP, List.nil_append, List.cons_append, List.append_nil, putAll, Act.put, List.setIfInBounds_toArray, List.set_cons_zero, List.set_cons_succ]
        rfl
      refine wpAnyLast_ready (rs := [30, 33]) (Lat.ready_of HT_.out (by kernel_rfl)) (by simp) (AllReadyL.cons rfl (by decide) (fun K hK => ?_) (AllReadyL.cons rfl (by decide) (fun K hK => ?_) AllReadyL.nil))
      · refine goes_ Try.func12 (by kernel_rfl) rfl #[.int .i64 (wrap64 (t170 + (wrap64 (3 * (Int.tmod a1 1000))))), .int .i64 (wrap64 (t171 + (wrap64 (3 * (Int.tmod a2 1000)))))] (by rfl) rfl rfl (by (try simp only [List.map_toArray, List.map_cons, List.map_nil]); rfl) ?_
        with_reducible refine (terrierlaw9_P.calls (wrap64 (t170 + (wrap64 (3 * (Int.tmod a1 1000))))) (wrap64 (t171 + (wrap64 (3 * (Int.tmod a2 1000))))) t176 t177 _ A7.out).mono ?_
        rintro e w15 ⟨rfl, hb⟩
        refine ⟨_, rfl, ?_⟩
        have hF1 := hF.call hb
        refine hK.out _ _ (hS.out hF1) (fun _ => ?_)
        refine norm_ ?_ (ih 3 (some g0) (some g1) none _ (by omega) (by have := hm'.out; simp [Lat.left] at this ⊢; omega) hF1)
        simp only [Lat.nsC, Lat.nsP, List.nil_append, List.cons_append, List.append_nil, putAll, Act.put, List.setIfInBounds_toArray, List.set_cons_zero, List.set_cons_succ]
        try rfl
      · refine box_step ?hg (N := 11) ?hd (cs := #[.int .i64 0, .int .i64 0]) (t := 23) ?hr ?_; (case hd => rfl); (case hg => rfl); (case hr => first | (go_simp; done) | (go_simp; rfl))
        intro gn hg w15 hbox hb
        have hF1 := hF.new2 hg hbox hb
        refine hK.out _ _ (hS.out hF1) (fun _ => ?_)
        refine norm_ ?_ (ih 2 (some g0) (some g1) (some gn) _ (by omega) (by have := hm'.out; simp [Lat.left] at this ⊢; omega) hF1)
        simp only [Lat.nsC, Lat.nsP, List.nil_append, List.cons_append, List.append_nil, putAll, Act.put, List.setIfInBounds_toArray, List.set_cons_zero, List.set_cons_succ]
        try rfl
    · -- 2 g0 g1 g2
      have hm' := Aside0.mk hm
      clear hm
      refine norm_ (a' := ?_) ?_ ?_
      rotate_left
      · simp only [Lat.nsC, Lat.nsP, List.nil_append, List.cons_append, List.append_nil, putAll, Act.put, List.setIfInBounds_toArray, List.set_cons_zero, List.set_cons_succ]
        rfl
      refine wpAnyLast_ready (rs := [30]) (Lat.ready_of HT_.out (by kernel_rfl)) (by simp) (AllReadyL.cons rfl (by decide) (fun K hK => ?_) AllReadyL.nil)
      · refine goes_ Try.func12 (by kernel_rfl) rfl #[.int .i64 (wrap64 (t170 + (wrap64 (3 * (Int.tmod a1 1000))))), .int .i64 (wrap64 (t171 + (wrap64 (3 * (Int.tmod a2 1000)))))] (by rfl) rfl rfl (by (try simp only [List.map_toArray, List.map_cons, List.map_nil]); rfl) ?_
        with_reducible refine (terrierlaw9_P.calls (wrap64 (t170 + (wrap64 (3 * (Int.tmod a1 1000))))) (wrap64 (t171 + (wrap64 (3 * (Int.tmod a2 1000))))) t176 t177 _ A7.out).mono ?_
        rintro e w15 ⟨rfl, hb⟩
        refine ⟨_, rfl, ?_⟩
        have hF1 := hF.call hb
        refine hK.out _ _ (hS.out hF1) (fun _ => ?_)
        refine norm_ ?_ (ih 3 (some g0) (some g1) (some g2) _ (by omega) (by have := hm'.out; simp [Lat.left] at this ⊢; omega) hF1)
        simp only [Lat.nsC, Lat.nsP, List.nil_append, List.cons_append, List.append_nil, putAll, Act.put, List.setIfInBounds_toArray, List.set_cons_zero, List.set_cons_succ]
        try rfl
    · -- 3 None None None
      have hm' := Aside0.mk hm
      clear hm
      refine norm_ (a' := ?_) ?_ ?_
      rotate_left
      · simp only [Lat.nsC, Lat.nsP, List.nil_append, List.cons_append, List.append_nil, putAll, Act.put, List.setIfInBounds_toArray, List.set_cons_zero, List.set_cons_succ]
        rfl
      refine wpAnyLast_ready (rs := [31, 32, 33]) (Lat.ready_of HT_.out (by kernel_rfl)) (by simp) (AllReadyL.cons rfl (by decide) (fun K hK => ?_) (AllReadyL.cons rfl (by decide) (fun K hK => ?_) (AllReadyL.cons rfl (by decide) (fun K hK => ?_) AllReadyL.nil)))
      · refine box_step ?hg (N := 9) ?hd (cs := #[.int .i64 0, .int .i64 0]) (t := 23) ?hr ?_; (case hd => rfl); (case hg => rfl); (case hr => first | (go_simp; done) | (go_simp; rfl))
        intro gn hg w15 hbox hb
        have hF1 := hF.new0 hg hbox hb
        refine hK.out _ _ (hS.out hF1) (fun _ => ?_)
        refine norm_ ?_ (ih 3 (some gn) none none _ (by omega) (by have := hm'.out; simp [Lat.left] at this ⊢; omega) hF1)
        simp only [Lat.nsC, Lat.nsP, List.nil_append, List.cons_append, List.append_nil, putAll, Act.put, List.setIfInBounds_toArray, List.set_cons_zero, List.set_cons_succ]
        try rfl
      · refine box_step ?hg (N := 10) ?hd (cs := #[.int .i64 0, .int .i64 0]) (t := 23) ?hr ?_; (case hd => rfl); (case hg => rfl); (case hr => first | (go_simp; done) | (go_simp; rfl))
        intro gn hg w15 hbox hb
        have hF1 := hF.new1 hg hbox hb
        refine hK.out _ _ (hS.out hF1) (fun _ => ?_)
        refine norm_ ?_ (ih 3 none (some gn) none _ (by omega) (by have := hm'.out; simp [Lat.left] at this ⊢; omega) hF1)
        simp only [Lat.nsC, Lat.nsP, List.nil_append, List.cons_append, List.append_nil, putAll, Act.put, List.setIfInBounds_toArray, List.set_cons_zero, List.set_cons_succ]
        try rfl
      · refine box_step ?hg (N := 11) ?hd (cs := #[.int .i64 0, .int .i64 0]) (t := 23) ?hr ?_; (case hd => rfl); (case hg => rfl); (case hr => first | (go_simp; done) | (go_simp; rfl))
        intro gn hg w15 hbox hb
        have hF1 := hF.new2 hg hbox hb
        refine hK.out _ _ (hS.out hF1) (fun _ => ?_)
        refine norm_ ?_ (ih 3 none none (some gn) _ (by omega) (by have := hm'.out; simp [Lat.left] at this ⊢; omega) hF1)
        simp only [Lat.nsC, Lat.nsP, List.nil_append, List.cons_append, List.append_nil, putAll, Act.put, List.setIfInBounds_toArray, List.set_cons_zero, List.set_cons_succ]
        try rfl
    · -- 3 None None g2
      have hm' := Aside0.mk hm
      clear hm
      refine norm_ (a' := ?_) ?_ ?_
      rotate_left
      · simp only [Lat.nsC, Lat.nsP, List.nil_append, List.cons_append, List.append_nil, putAll, Act.put, List.setIfInBounds_toArray, List.set_cons_zero, List.set_cons_succ]
        rfl
      refine wpAnyLast_ready (rs := [31, 32]) (Lat.ready_of HT_.out (by kernel_rfl)) (by simp) (AllReadyL.cons rfl (by decide) (fun K hK => ?_) (AllReadyL.cons rfl (by decide) (fun K hK => ?_) AllReadyL.nil))
      · refine box_step ?hg (N := 9) ?hd (cs := #[.int .i64 0, .int .i64 0]) (t := 23) ?hr ?_; (case hd => rfl); (case hg => rfl); (case hr => first | (go_simp; done) | (go_simp; rfl))
        intro gn hg w15 hbox hb
        have hF1 := hF.new0 hg hbox hb
        refine hK.out _ _ (hS.out hF1) (fun _ => ?_)
        refine norm_ ?_ (ih 3 (some gn) none (some g2) _ (by omega) (by have := hm'.out; simp [Lat.left] at this ⊢; omega) hF1)
        simp only [Lat.nsC, Lat.nsP, List.nil_append, List.cons_append, List.append_nil, putAll, Act.put, List.setIfInBounds_toArray, List.set_cons_zero, List.set_cons_succ]
        try rfl
      · refine box_step ?hg (N := 10) ?hd (cs := #[.int .i64 0, .int .i64 0]) (t := 23) ?hr ?_; (case hd => rfl); (case hg => rfl); (case hr => first | (go_simp; done) | (go_simp; rfl))
        intro gn hg w15 hbox hb
        have hF1 := hF.new1 hg hbox hb
        refine hK.out _ _ (hS.out hF1) (fun _ => ?_)
        refine norm_ ?_ (ih 3 none (some gn) (some g2) _ (by omega) (by have := hm'.out; simp [Lat.left] at this ⊢; omega) hF1)
        simp only [Lat.nsC, Lat.nsP, List.nil_append, List.cons_append, List.append_nil, putAll, Act.put, List.setIfInBounds_toArray, List.set_cons_zero, List.set_cons_succ]
        try rfl
    · -- 3 None g1 None
      have hm' := Aside0.mk hm
      clear hm
      refine norm_ (a' := ?_) ?_ ?_
      rotate_left
      · simp only [Lat.nsC, Lat.nsP, List.nil_append, List.cons_append, List.append_nil, putAll, Act.put, List.setIfInBounds_toArray, List.set_cons_zero, List.set_cons_succ]
        rfl
      refine wpAnyLast_ready (rs := [31, 33]) (Lat.ready_of HT_.out (by kernel_rfl)) (by simp) (AllReadyL.cons rfl (by decide) (fun K hK => ?_) (AllReadyL.cons rfl (by decide) (fun K hK => ?_) AllReadyL.nil))
      · refine box_step ?hg (N := 9) ?hd (cs := #[.int .i64 0, .int .i64 0]) (t := 23) ?hr ?_; (case hd => rfl); (case hg => rfl); (case hr => first | (go_simp; done) | (go_simp; rfl))
        intro gn hg w15 hbox hb
        have hF1 := hF.new0 hg hbox hb
        refine hK.out _ _ (hS.out hF1) (fun _ => ?_)
        refine norm_ ?_ (ih 3 (some gn) (some g1) none _ (by omega) (by have := hm'.out; simp [Lat.left] at this ⊢; omega) hF1)
        simp only [Lat.nsC, Lat.nsP, List.nil_append, List.cons_append, List.append_nil, putAll, Act.put, List.setIfInBounds_toArray, List.set_cons_zero, List.set_cons_succ]
        try rfl
      · refine box_step ?hg (N := 11) ?hd (cs := #[.int .i64 0, .int .i64 0]) (t := 23) ?hr ?_; (case hd => rfl); (case hg => rfl); (case hr => first | (go_simp; done) | (go_simp; rfl))
        intro gn hg w15 hbox hb
        have hF1 := hF.new2 hg hbox hb
        refine hK.out _ _ (hS.out hF1) (fun _ => ?_)
        refine norm_ ?_ (ih 3 none (some g1) (some gn) _ (by omega) (by have := hm'.out; simp [Lat.left] at this ⊢; omega) hF1)
        simp only [Lat.nsC, Lat.nsP, List.nil_append, List.cons_append, List.append_nil, putAll, Act.put, List.setIfInBounds_toArray, List.set_cons_zero, List.set_cons_succ]
        try rfl
    · -- 3 None g1 g2
      have hm' := Aside0.mk hm
      clear hm
      refine norm_ (a' := ?_) ?_ ?_
      rotate_left
      · simp only [Lat.nsC, Lat.nsP, List.nil_append, List.cons_append, List.append_nil, putAll, Act.put, List.setIfInBounds_toArray, List.set_cons_zero, List.set_cons_succ]
        rfl
      refine wpAnyLast_ready (rs := [31]) (Lat.ready_of HT_.out (by kernel_rfl)) (by simp) (AllReadyL.cons rfl (by decide) (fun K hK => ?_) AllReadyL.nil)
      · refine box_step ?hg (N := 9) ?hd (cs := #[.int .i64 0, .int .i64 0]) (t := 23) ?hr ?_; (case hd => rfl); (case hg => rfl); (case hr => first | (go_simp; done) | (go_simp; rfl))
        intro gn hg w15 hbox hb
        have hF1 := hF.new0 hg hbox hb
        refine hK.out _ _ (hS.out hF1) (fun _ => ?_)
        refine norm_ ?_ (ih 3 (some gn) (some g1) (some g2) _ (by omega) (by have := hm'.out; simp [Lat.left] at this ⊢; omega) hF1)
        simp only [Lat.nsC, Lat.nsP, List.nil_append, List.cons_append, List.append_nil, putAll, Act.put, List.setIfInBounds_toArray, List.set_cons_zero, List.set_cons_succ]
        try rfl
    · -- 3 g0 None None
      have hm' := Aside0.mk hm
      clear hm
      refine norm_ (a' := ?_) ?_ ?_
      rotate_left
      · simp only [Lat.nsC, Lat.nsP, List.nil_append, List.cons_append, List.append_nil, putAll, Act.put, List.setIfInBounds_toArray, List.set_cons_zero, List.set_cons_succ]
        rfl
      refine wpAnyLast_ready (rs := [32, 33]) (Lat.ready_of HT_.out (by kernel_rfl)) (by simp) (AllReadyL.cons rfl (by decide) (fun K hK => ?_) (AllReadyL.cons rfl (by decide) (fun K hK => ?_) AllReadyL.nil))
      · refine box_step ?hg (N := 10) ?hd (cs := #[.int .i64 0, .int .i64 0]) (t := 23) ?hr ?_; (case hd => rfl); (case hg => rfl); (case hr => first | (go_simp; done) | (go_simp; rfl))
        intro gn hg w15 hbox hb
        have hF1 := hF.new1 hg hbox hb
        refine hK.out _ _ (hS.out hF1) (fun _ => ?_)
        refine norm_ ?_ (ih 3 (some g0) (some gn) none _ (by omega) (by have := hm'.out; simp [Lat.left] at this ⊢; omega) hF1)
        simp only [Lat.nsC, Lat.nsP, List.nil_append, List.cons_append, List.append_nil, putAll, Act.put, List.setIfInBounds_toArray, List.set_cons_zero, List.set_cons_succ]
        try rfl
      · refine box_step ?hg (N := 11) ?hd (cs := #[.int .i64 0, .int .i64 0]) (t := 23) ?hr ?_; (case hd => rfl); (case hg => rfl); (case hr => first | (go_simp; done) | (go_simp; rfl))
        intro gn hg w15 hbox hb
        have hF1 := hF.new2 hg hbox hb
        refine hK.out _ _ (hS.out hF1) (fun _ => ?_)
        refine norm_ ?_ (ih 3 (some g0) none (some gn) _ (by omega) (by have := hm'.out; simp [Lat.left] at this ⊢; omega) hF1)
        simp only [Lat.nsC, Lat.nsP, List.nil_append, List.cons_append, List.append_nil, putAll, Act.put, List.setIfInBounds_toArray, List.set_cons_zero, List.set_cons_succ]
        try rfl
    · -- 3 g0 None g2
      have hm' := Aside0.mk hm
      clear hm
      refine norm_ (a' := ?_) ?_ ?_
      rotate_left
      · simp only [Lat.nsC, Lat.nsP, List.nil_append, List.cons_append, List.append_nil, putAll, Act.put, List.setIfInBounds_toArray, List.set_cons_zero, List.set_cons_succ]
        rfl
      refine wpAnyLast_ready (rs := [32]) (Lat.ready_of HT_.out (by kernel_rfl)) (by simp) (AllReadyL.cons rfl (by decide) (fun K hK => ?_) AllReadyL.nil)
      · refine box_step ?hg (N := 10) ?hd (cs := #[.int .i64 0, .int .i64 0]) (t := 23) ?hr ?_; (case hd => rfl); (case hg => rfl); (case hr => first | (go_simp; done) | (go_simp; rfl))
        intro gn hg w15 hbox hb
        have hF1 := hF.new1 hg hbox hb
        refine hK.out _ _ (hS.out hF1) (fun _ => ?_)
        refine norm_ ?_ (ih 3 (some g0) (some gn) (some g2) _ (by omega) (by have := hm'.out; simp [Lat.left] at this ⊢; omega) hF1)
        simp only [Lat.nsC, Lat.nsP, List.nil_append, List.cons_append, List.append_nil, putAll, Act.put, List.setIfInBounds_toArray, List.set_cons_zero, List.set_cons_succ]
        try rfl
    · -- 3 g0 g1 None
      have hm' := Aside0.mk hm
      clear hm
      refine norm_ (a' := ?_) ?_ ?_
      rotate_left
      · simp only [Lat.nsC, Lat.nsP, List.nil_append, List.cons_append, List.append_nil, putAll, Act.put, List.setIfInBounds_toArray, List.set_cons_zero, List.set_cons_succ]
        rfl
      refine wpAnyLast_ready (rs := [33]) (Lat.ready_of HT_.out (by kernel_rfl)) (by simp) (AllReadyL.cons rfl (by decide) (fun K hK => ?_) AllReadyL.nil)
      · refine box_step ?hg (N := 11) ?hd (cs := #[.int .i64 0, .int .i64 0]) (t := 23) ?hr ?_; (case hd => rfl); (case hg => rfl); (case hr => first | (go_simp; done) | (go_simp; rfl))
        intro gn hg w15 hbox hb
        have hF1 := hF.new2 hg hbox hb
        refine hK.out _ _ (hS.out hF1) (fun _ => ?_)
        refine norm_ ?_ (ih 3 (some g0) (some g1) (some gn) _ (by omega) (by have := hm'.out; simp [Lat.left] at this ⊢; omega) hF1)
        simp only [Lat.nsC, Lat.nsP, List.nil_append, List.cons_append, List.append_nil, putAll, Act.put, List.setIfInBounds_toArray, List.set_cons_zero, List.set_cons_succ]
        try rfl
    · exact absurd hm (by simp [Lat.left])
  clear BK169 HB hHeld
  intro gb178 gb179 gb180 w21 hF_
  have BK169 := Aside0.mk hF_.1
  have BK178 : Aside0 (w21.heap[gb178]? = some (.cells #[.int .i64 0, .int .i64 0] 23 (0, 0))) := ⟨(hF_.2.2.1 _ rfl).1⟩
  have GW178 := Aside0.mk (hF_.2.2.1 _ rfl).2.1
  have GE178 := Aside0.mk (hF_.2.2.1 _ rfl).2.1
  have NB169_178 := Aside0.mk (hF_.2.2.1 _ rfl).2.2
  have NB178_169 := Aside0.mk (hF_.2.2.1 _ rfl).2.2.symm
  have BK179 : Aside0 (w21.heap[gb179]? = some (.cells #[.int .i64 0, .int .i64 0] 23 (0, 0))) := ⟨(hF_.2.2.2.1 _ rfl).1⟩
  have GW179 := Aside0.mk (hF_.2.2.2.1 _ rfl).2.1
  have GE179 := Aside0.mk (hF_.2.2.2.1 _ rfl).2.1
  have NB169_179 := Aside0.mk (hF_.2.2.2.1 _ rfl).2.2
  have NB179_169 := Aside0.mk (hF_.2.2.2.1 _ rfl).2.2.symm
  have BK180 : Aside0 (w21.heap[gb180]? = some (.cells #[.int .i64 0, .int .i64 0] 23 (0, 0))) := ⟨(hF_.2.2.2.2.1 _ rfl).1⟩
  have GW180 := Aside0.mk (hF_.2.2.2.2.1 _ rfl).2.1
  have GE180 := Aside0.mk (hF_.2.2.2.2.1 _ rfl).2.1
  have NB169_180 := Aside0.mk (hF_.2.2.2.2.1 _ rfl).2.2
  have NB180_169 := Aside0.mk (hF_.2.2.2.2.1 _ rfl).2.2.symm
  have NB178_179 := Aside0.mk (hF_.2.2.2.2.2.1 _ _ rfl rfl)
  have NB179_178 := Aside0.mk (hF_.2.2.2.2.2.1 _ _ rfl rfl).symm
  have NB178_180 := Aside0.mk (hF_.2.2.2.2.2.2.1 _ _ rfl rfl)
  have NB180_178 := Aside0.mk (hF_.2.2.2.2.2.2.1 _ _ rfl rfl).symm
  have NB179_180 := Aside0.mk (hF_.2.2.2.2.2.2.2 _ _ rfl rfl)
  have NB180_179 := Aside0.mk (hF_.2.2.2.2.2.2.2 _ _ rfl rfl).symm
  have HB := Aside0.mk hF_.2.1
  clear hF_
  have hHeld : w21.cell? ⟨gb169, 0, none⟩ = some (.int .i64 t170) ∧ w21.cell? ⟨gb169, 1, none⟩ = some (.int .i64 t171) := ⟨(blk_cell BK169.out 0).trans rfl, (blk_cell BK169.out 1).trans rfl⟩
  refine norm_ (a' := ?_) ?_ ?_
  rotate_left
  · simp only [Lat.nsC, Lat.nsP, List.nil_append, List.cons_append, List.append_nil, putAll, Act.put, List.setIfInBounds_toArray, List.set_cons_zero, List.set_cons_succ]
    rfl
  refine one_ (i := 34) (N := none) #[true, true, true, true, true, true, true, true, true, true, true, true, true, true, true, true, true, true, true, true, true, true, true, true, true, true, true, true, true, true, true, true, true, true, true, false, false] rfl rfl (one_of HT_.out (by kernel_rfl)) (by decide) (fun K hK => ?_)
  have hs22 : w21.cell? ⟨gb178, 0, none⟩ = some (.int .i64 0) := (blk_cell BK178.out 0).trans rfl
  have hfs22 := blk_frozen BK178.out 0
  have hns22_0 := NB169_178.out
  have hns22_2 := NB179_178.out
  have hns22_3 := NB180_178.out
  have hms22_0 := NB178_169.out
  have hms22_2 := NB178_179.out
  have hms22_3 := NB178_180.out
  have hs23 : w21.cell? ⟨gb178, 1, none⟩ = some (.int .i64 0) := (blk_cell BK178.out 1).trans rfl
  have hfs23 := blk_frozen BK178.out 1
  have hns23_0 := NB169_178.out
  have hns23_2 := NB179_178.out
  have hns23_3 := NB180_178.out
  have hms23_0 := NB178_169.out
  have hms23_2 := NB178_179.out
  have hms23_3 := NB178_180.out
  refine skip_ (w1 := ?_) (by rfl) rfl ?_ ?_
  rotate_left
  · go_simp
    rfl
  refine hK.out _ _ ⟨((cell_far (p := ⟨gb178, _, none⟩) NB169_178.out _).trans (((cell_far (p := ⟨gb178, _, none⟩) NB169_178.out _).trans (hHeld.1)))), ((cell_far (p := ⟨gb178, _, none⟩) NB169_178.out _).trans (((cell_far (p := ⟨gb178, _, none⟩) NB169_178.out _).trans (hHeld.2))))⟩ (fun hHeld => ?_)
  clear hK K
  refine one_ (i := 35) (N := none) #[true, true, true, true, true, true, true, true, true, true, true, true, true, true, true, true, true, true, true, true, true, true, true, true, true, true, true, true, true, true, true, true, true, true, true, true, false] rfl rfl (one_of HT_.out (by kernel_rfl)) (by decide) (fun K hK => ?_)
  have hs24 : w21.cell? ⟨gb179, 0, none⟩ = some (.int .i64 0) := (blk_cell BK179.out 0).trans rfl
  have hfs24 := blk_frozen BK179.out 0
  have hns24_0 := NB169_179.out
  have hns24_1 := NB178_179.out
  have hns24_3 := NB180_179.out
  have hms24_0 := NB179_169.out
  have hms24_1 := NB179_178.out
  have hms24_3 := NB179_180.out
  have hs25 : w21.cell? ⟨gb179, 1, none⟩ = some (.int .i64 0) := (blk_cell BK179.out 1).trans rfl
  have hfs25 := blk_frozen BK179.out 1
  have hns25_0 := NB169_179.out
  have hns25_1 := NB178_179.out
  have hns25_3 := NB180_179.out
  have hms25_0 := NB179_169.out
  have hms25_1 := NB179_178.out
  have hms25_3 := NB179_180.out
  refine skip_ (w1 := ?_) (by rfl) rfl ?_ ?_
  rotate_left
  · go_simp
    rfl
  refine hK.out _ _ ⟨((cell_far (p := ⟨gb179, _, none⟩) NB169_179.out _).trans (((cell_far (p := ⟨gb179, _, none⟩) NB169_179.out _).trans (hHeld.1)))), ((cell_far (p := ⟨gb179, _, none⟩) NB169_179.out _).trans (((cell_far (p := ⟨gb179, _, none⟩) NB169_179.out _).trans (hHeld.2))))⟩ (fun hHeld => ?_)
  clear hK K
  refine one_ (i := 36) (N := none) #[true, true, true, true, true, true, true, true, true, true, true, true, true, true, true, true, true, true, true, true, true, true, true, true, true, true, true, true, true, true, true, true, true, true, true, true, true] rfl rfl (one_of HT_.out (by kernel_rfl)) (by decide) (fun K hK => ?_)
  have hs26 : w21.cell? ⟨gb180, 0, none⟩ = some (.int .i64 0) := (blk_cell BK180.out 0).trans rfl
  have hfs26 := blk_frozen BK180.out 0
  have hns26_0 := NB169_180.out
  have hns26_1 := NB178_180.out
  have hns26_2 := NB179_180.out
  have hms26_0 := NB180_169.out
  have hms26_1 := NB180_178.out
  have hms26_2 := NB180_179.out
  have hs27 : w21.cell? ⟨gb180, 1, none⟩ = some (.int .i64 0) := (blk_cell BK180.out 1).trans rfl
  have hfs27 := blk_frozen BK180.out 1
  have hns27_0 := NB169_180.out
  have hns27_1 := NB178_180.out
  have hns27_2 := NB179_180.out
  have hms27_0 := NB180_169.out
  have hms27_1 := NB180_178.out
  have hms27_2 := NB180_179.out
  refine skip_ (w1 := ?_) (by rfl) rfl ?_ ?_
  rotate_left
  · go_simp
    rfl
  refine hK.out _ _ ⟨((cell_far (p := ⟨gb180, _, none⟩) NB169_180.out _).trans (((cell_far (p := ⟨gb180, _, none⟩) NB169_180.out _).trans (hHeld.1)))), ((cell_far (p := ⟨gb180, _, none⟩) NB169_180.out _).trans (((cell_far (p := ⟨gb180, _, none⟩) NB169_180.out _).trans (hHeld.2))))⟩ (fun hHeld => ?_)
  clear hK K
  refine done_ (done_of HT_.out (by kernel_rfl)) ?_
  go_upto_region 4 with (fail)
  go_cut [59] (fun v59 wc => ∃ (kq : Nat) (x59_7 : Bool), v59 = .bool x59_7 ∧ Aside0 (terrierlaw9_PtMidst.j0 kq x59_7 t170 t171 t172 t173 t174 t175 t176 t177 = some r) ∧ Aside0 (kq ≤ k) ∧ Aside0 (wc.heap[gb169]? = some (.cells #[.int .i64 t170, .int .i64 t171] 23 (0, 0))) ∧ Aside0 (wc.heap[gb178]? = some (.cells #[.int .i64 t172, .int .i64 t173] 23 (0, 0))) ∧ Aside0 (wc.heap[gb179]? = some (.cells #[.int .i64 t174, .int .i64 t175] 23 (0, 0))) ∧ Aside0 (wc.heap[gb180]? = some (.cells #[.int .i64 t176, .int .i64 t177] 23 (0, 0))) ∧ Aside0 (Below w.heap.size w wc))
  case first =>
    have H := HC8.out
    clear HC8
    by_cases c28 : (Int.tmod a1 1000) = 0
    · rw [if_pos c28] at H
      have c28b0 : ((Int.tmod a1 1000) == 0) = true := beq_iff_eq.mpr c28
      have c28b1 : ((Int.tmod a1 1000) != 0) = false := bne_eq_false_iff_eq.mpr c28
      clear c28
      (first | rw [c28b0] | (simp only [i64_w, i32_w]; rw [c28b0]) | skip)
      have H' := Aside0.mk H
      clear H
      go_wp2
      go_meet
      case rel => exact ⟨_, (((Int.tmod a2 1000) == 0)), (by first | rfl | (simp; done) | (simp [*]; done)), H', ⟨by first | omega | exact Nat.le_refl _⟩, ⟨by (with_reducible repeat (first | refine blk_drewN ?_ _ | refine blk_drew ?_ | refine blk_alloc ?_ _)); refine blk_far ?_ NB169_180.out _; (with_reducible repeat (first | refine blk_drewN ?_ _ | refine blk_drew ?_ | refine blk_alloc ?_ _)); refine blk_far ?_ NB169_180.out _; (with_reducible repeat (first | refine blk_drewN ?_ _ | refine blk_drew ?_ | refine blk_alloc ?_ _)); refine blk_far ?_ NB169_179.out _; (with_reducible repeat (first | refine blk_drewN ?_ _ | refine blk_drew ?_ | refine blk_alloc ?_ _)); refine blk_far ?_ NB169_179.out _; (with_reducible repeat (first | refine blk_drewN ?_ _ | refine blk_drew ?_ | refine blk_alloc ?_ _)); refine blk_far ?_ NB169_178.out _; (with_reducible repeat (first | refine blk_drewN ?_ _ | refine blk_drew ?_ | refine blk_alloc ?_ _)); refine blk_far ?_ NB169_178.out _; (with_reducible repeat (first | refine blk_drewN ?_ _ | refine blk_drew ?_ | refine blk_alloc ?_ _)); exact BK169.out⟩, ⟨by (with_reducible repeat (first | refine blk_drewN ?_ _ | refine blk_drew ?_ | refine blk_alloc ?_ _)); refine blk_far ?_ NB178_180.out _; (with_reducible repeat (first | refine blk_drewN ?_ _ | refine blk_drew ?_ | refine blk_alloc ?_ _)); refine blk_far ?_ NB178_180.out _; (with_reducible repeat (first | refine blk_drewN ?_ _ | refine blk_drew ?_ | refine blk_alloc ?_ _)); refine blk_far ?_ NB178_179.out _; (with_reducible repeat (first | refine blk_drewN ?_ _ | refine blk_drew ?_ | refine blk_alloc ?_ _)); refine blk_far ?_ NB178_179.out _; (with_reducible repeat (first | refine blk_drewN ?_ _ | refine blk_drew ?_ | refine blk_alloc ?_ _)); refine blk_put (cs := #[.int .i64 t172, .int .i64 0]) ?_ 1 _ rfl; (with_reducible repeat (first | refine blk_drewN ?_ _ | refine blk_drew ?_ | refine blk_alloc ?_ _)); refine blk_put (cs := #[.int .i64 0, .int .i64 0]) ?_ 0 _ rfl; (with_reducible repeat (first | refine blk_drewN ?_ _ | refine blk_drew ?_ | refine blk_alloc ?_ _)); exact BK178.out⟩, ⟨by (with_reducible repeat (first | refine blk_drewN ?_ _ | refine blk_drew ?_ | refine blk_alloc ?_ _)); refine blk_far ?_ NB179_180.out _; (with_reducible repeat (first | refine blk_drewN ?_ _ | refine blk_drew ?_ | refine blk_alloc ?_ _)); refine blk_far ?_ NB179_180.out _; (with_reducible repeat (first | refine blk_drewN ?_ _ | refine blk_drew ?_ | refine blk_alloc ?_ _)); refine blk_put (cs := #[.int .i64 t174, .int .i64 0]) ?_ 1 _ rfl; (with_reducible repeat (first | refine blk_drewN ?_ _ | refine blk_drew ?_ | refine blk_alloc ?_ _)); refine blk_put (cs := #[.int .i64 0, .int .i64 0]) ?_ 0 _ rfl; (with_reducible repeat (first | refine blk_drewN ?_ _ | refine blk_drew ?_ | refine blk_alloc ?_ _)); refine blk_far ?_ NB179_178.out _; (with_reducible repeat (first | refine blk_drewN ?_ _ | refine blk_drew ?_ | refine blk_alloc ?_ _)); refine blk_far ?_ NB179_178.out _; (with_reducible repeat (first | refine blk_drewN ?_ _ | refine blk_drew ?_ | refine blk_alloc ?_ _)); exact BK179.out⟩, ⟨by (with_reducible repeat (first | refine blk_drewN ?_ _ | refine blk_drew ?_ | refine blk_alloc ?_ _)); refine blk_put (cs := #[.int .i64 t176, .int .i64 0]) ?_ 1 _ rfl; (with_reducible repeat (first | refine blk_drewN ?_ _ | refine blk_drew ?_ | refine blk_alloc ?_ _)); refine blk_put (cs := #[.int .i64 0, .int .i64 0]) ?_ 0 _ rfl; (with_reducible repeat (first | refine blk_drewN ?_ _ | refine blk_drew ?_ | refine blk_alloc ?_ _)); refine blk_far ?_ NB180_179.out _; (with_reducible repeat (first | refine blk_drewN ?_ _ | refine blk_drew ?_ | refine blk_alloc ?_ _)); refine blk_far ?_ NB180_179.out _; (with_reducible repeat (first | refine blk_drewN ?_ _ | refine blk_drew ?_ | refine blk_alloc ?_ _)); refine blk_far ?_ NB180_178.out _; (with_reducible repeat (first | refine blk_drewN ?_ _ | refine blk_drew ?_ | refine blk_alloc ?_ _)); refine blk_far ?_ NB180_178.out _; (with_reducible repeat (first | refine blk_drewN ?_ _ | refine blk_drew ?_ | refine blk_alloc ?_ _)); exact BK180.out⟩, ⟨by repeat (first | (with_reducible first | exact HB.out | apply below_alloc | apply pw_below_drewN | apply below_drew1 | refine below_set ?_ GE169.out | refine below_set ?_ GE178.out | refine below_set ?_ GE179.out | refine below_set ?_ GE180.out) | exact HB.out)⟩⟩
    · rw [if_neg c28] at H
      have c28b0 : ((Int.tmod a1 1000) == 0) = false := beq_eq_false_iff_ne.mpr c28
      have c28b1 : ((Int.tmod a1 1000) != 0) = true := bne_iff_ne.mpr c28
      (first | rw [c28b0] | (simp only [i64_w, i32_w]; rw [c28b0]) | skip)
      have H' := Aside0.mk H
      clear H
      go_wp2
      go_meet
      case rel => exact ⟨_, (false), (by first | rfl | (simp; done) | (simp [*]; done)), H', ⟨by first | omega | exact Nat.le_refl _⟩, ⟨by (with_reducible repeat (first | refine blk_drewN ?_ _ | refine blk_drew ?_ | refine blk_alloc ?_ _)); refine blk_far ?_ NB169_180.out _; (with_reducible repeat (first | refine blk_drewN ?_ _ | refine blk_drew ?_ | refine blk_alloc ?_ _)); refine blk_far ?_ NB169_180.out _; (with_reducible repeat (first | refine blk_drewN ?_ _ | refine blk_drew ?_ | refine blk_alloc ?_ _)); refine blk_far ?_ NB169_179.out _; (with_reducible repeat (first | refine blk_drewN ?_ _ | refine blk_drew ?_ | refine blk_alloc ?_ _)); refine blk_far ?_ NB169_179.out _; (with_reducible repeat (first | refine blk_drewN ?_ _ | refine blk_drew ?_ | refine blk_alloc ?_ _)); refine blk_far ?_ NB169_178.out _; (with_reducible repeat (first | refine blk_drewN ?_ _ | refine blk_drew ?_ | refine blk_alloc ?_ _)); refine blk_far ?_ NB169_178.out _; (with_reducible repeat (first | refine blk_drewN ?_ _ | refine blk_drew ?_ | refine blk_alloc ?_ _)); exact BK169.out⟩, ⟨by (with_reducible repeat (first | refine blk_drewN ?_ _ | refine blk_drew ?_ | refine blk_alloc ?_ _)); refine blk_far ?_ NB178_180.out _; (with_reducible repeat (first | refine blk_drewN ?_ _ | refine blk_drew ?_ | refine blk_alloc ?_ _)); refine blk_far ?_ NB178_180.out _; (with_reducible repeat (first | refine blk_drewN ?_ _ | refine blk_drew ?_ | refine blk_alloc ?_ _)); refine blk_far ?_ NB178_179.out _; (with_reducible repeat (first | refine blk_drewN ?_ _ | refine blk_drew ?_ | refine blk_alloc ?_ _)); refine blk_far ?_ NB178_179.out _; (with_reducible repeat (first | refine blk_drewN ?_ _ | refine blk_drew ?_ | refine blk_alloc ?_ _)); refine blk_put (cs := #[.int .i64 t172, .int .i64 0]) ?_ 1 _ rfl; (with_reducible repeat (first | refine blk_drewN ?_ _ | refine blk_drew ?_ | refine blk_alloc ?_ _)); refine blk_put (cs := #[.int .i64 0, .int .i64 0]) ?_ 0 _ rfl; (with_reducible repeat (first | refine blk_drewN ?_ _ | refine blk_drew ?_ | refine blk_alloc ?_ _)); exact BK178.out⟩, ⟨by (with_reducible repeat (first | refine blk_drewN ?_ _ | refine blk_drew ?_ | refine blk_alloc ?_ _)); refine blk_far ?_ NB179_180.out _; (with_reducible repeat (first | refine blk_drewN ?_ _ | refine blk_drew ?_ | refine blk_alloc ?_ _)); refine blk_far ?_ NB179_180.out _; (with_reducible repeat (first | refine blk_drewN ?_ _ | refine blk_drew ?_ | refine blk_alloc ?_ _)); refine blk_put (cs := #[.int .i64 t174, .int .i64 0]) ?_ 1 _ rfl; (with_reducible repeat (first | refine blk_drewN ?_ _ | refine blk_drew ?_ | refine blk_alloc ?_ _)); refine blk_put (cs := #[.int .i64 0, .int .i64 0]) ?_ 0 _ rfl; (with_reducible repeat (first | refine blk_drewN ?_ _ | refine blk_drew ?_ | refine blk_alloc ?_ _)); refine blk_far ?_ NB179_178.out _; (with_reducible repeat (first | refine blk_drewN ?_ _ | refine blk_drew ?_ | refine blk_alloc ?_ _)); refine blk_far ?_ NB179_178.out _; (with_reducible repeat (first | refine blk_drewN ?_ _ | refine blk_drew ?_ | refine blk_alloc ?_ _)); exact BK179.out⟩, ⟨by (with_reducible repeat (first | refine blk_drewN ?_ _ | refine blk_drew ?_ | refine blk_alloc ?_ _)); refine blk_put (cs := #[.int .i64 t176, .int .i64 0]) ?_ 1 _ rfl; (with_reducible repeat (first | refine blk_drewN ?_ _ | refine blk_drew ?_ | refine blk_alloc ?_ _)); refine blk_put (cs := #[.int .i64 0, .int .i64 0]) ?_ 0 _ rfl; (with_reducible repeat (first | refine blk_drewN ?_ _ | refine blk_drew ?_ | refine blk_alloc ?_ _)); refine blk_far ?_ NB180_179.out _; (with_reducible repeat (first | refine blk_drewN ?_ _ | refine blk_drew ?_ | refine blk_alloc ?_ _)); refine blk_far ?_ NB180_179.out _; (with_reducible repeat (first | refine blk_drewN ?_ _ | refine blk_drew ?_ | refine blk_alloc ?_ _)); refine blk_far ?_ NB180_178.out _; (with_reducible repeat (first | refine blk_drewN ?_ _ | refine blk_drew ?_ | refine blk_alloc ?_ _)); refine blk_far ?_ NB180_178.out _; (with_reducible repeat (first | refine blk_drewN ?_ _ | refine blk_drew ?_ | refine blk_alloc ?_ _)); exact BK180.out⟩, ⟨by repeat (first | (with_reducible first | exact HB.out | apply below_alloc | apply pw_below_drewN | apply below_drew1 | refine below_set ?_ GE169.out | refine below_set ?_ GE178.out | refine below_set ?_ GE179.out | refine below_set ?_ GE180.out) | exact HB.out)⟩⟩
  case rest =>
    clear HC8
    try clear c1
    try clear c2
    try clear p2
    try clear p6
    try clear c12
    try clear c28
    try clear c28b0
    try clear c28b1
    obtain ⟨kq, x59_7, rfl, HA, HJ7, BK169, BK178, BK179, BK180, HB⟩ := hcut
    cases kq with
    | zero => exact absurd HA.out (by simp [terrierlaw9_PtMidst.j0])
    | succ kj7 =>
      have H := HA.out
      clear HA
      simp only [terrierlaw9_PtMidst.j0] at H
      by_cases c29 : x59_7 = true
      · subst c29
        have H1 : ((pt_On.f t170 t171 t174 t175 t172 t173).bind fun t181 => (if t181 = true then ((pt_Within.f t170 t171 t174 t175 t172 t173).bind fun t182 => (if t182 = true then (some false) else ((pt_On.f t170 t171 t174 t175 t176 t177).bind fun t183 => (if t183 = true then ((terrierlaw9_awake.f kj7).bind fun t184 => (some t184)) else (some false))))) else (some false))) = some r := by rw [if_pos rfl] at H; exact H
        clear H
        have H := H1
        clear H1
        replace H := Option.bind_eq_some_iff.mp H
        obtain ⟨t181, A300, H⟩ := H
        replace H : (if t181 = true then ((pt_Within.f t170 t171 t174 t175 t172 t173).bind fun t182 => (if t182 = true then (some false) else ((pt_On.f t170 t171 t174 t175 t176 t177).bind fun t183 => (if t183 = true then ((terrierlaw9_awake.f kj7).bind fun t184 => (some t184)) else (some false))))) else (some false)) = some r := H
        have A30 := Aside0.mk A300
        clear A300
        by_cases c31 : t181 = true
        · subst c31
          have H1 : ((pt_Within.f t170 t171 t174 t175 t172 t173).bind fun t182 => (if t182 = true then (some false) else ((pt_On.f t170 t171 t174 t175 t176 t177).bind fun t183 => (if t183 = true then ((terrierlaw9_awake.f kj7).bind fun t184 => (some t184)) else (some false))))) = some r := by rw [if_pos rfl] at H; exact H
          clear H
          have H := H1
          clear H1
          replace H := Option.bind_eq_some_iff.mp H
          obtain ⟨t182, A320, H⟩ := H
          replace H : (if t182 = true then (some false) else ((pt_On.f t170 t171 t174 t175 t176 t177).bind fun t183 => (if t183 = true then ((terrierlaw9_awake.f kj7).bind fun t184 => (some t184)) else (some false)))) = some r := H
          have A32 := Aside0.mk A320
          clear A320
          by_cases c33 : t182 = true
          · subst c33
            have H1 : (some false) = some r := by rw [if_pos rfl] at H; exact H
            clear H
            have H := H1
            clear H1
            exact absurd (Option.some.inj (H.trans (congrArg some HR.out))) (by decide)
          · replace c33 := Bool.eq_false_iff.mpr c33
            subst c33
            have H1 : ((pt_On.f t170 t171 t174 t175 t176 t177).bind fun t183 => (if t183 = true then ((terrierlaw9_awake.f kj7).bind fun t184 => (some t184)) else (some false))) = some r := by rw [if_neg (show ¬ (false = true) by decide)] at H; exact H
            clear H
            have H := H1
            clear H1
            replace H := Option.bind_eq_some_iff.mp H
            obtain ⟨t183, A480, H⟩ := H
            replace H : (if t183 = true then ((terrierlaw9_awake.f kj7).bind fun t184 => (some t184)) else (some false)) = some r := H
            have A48 := Aside0.mk A480
            clear A480
            by_cases c49 : t183 = true
            · subst c49
              have H1 : ((terrierlaw9_awake.f kj7).bind fun t184 => (some t184)) = some r := by rw [if_pos rfl] at H; exact H
              clear H
              have H := H1
              clear H1
              replace H := Option.bind_eq_some_iff.mp H
              obtain ⟨t184, A500, H⟩ := H
              replace H : (some t184) = some r := H
              have A50 := Aside0.mk A500
              clear A500
              obtain rfl := Option.some.inj H
              have hnb51 := NB169_178.out
              have hnc51 := NB178_169.out
              have hnb52 := NB169_179.out
              have hnc52 := NB179_169.out
              have hnb53 := NB169_180.out
              have hnc53 := NB180_169.out
              have hcz54_0 : wc.cell? ⟨gb169, 0, none⟩ = some (.int .i64 t170) := (blk_cell BK169.out 0).trans rfl
              have hcz54_1 : wc.cell? ⟨gb169, 1, none⟩ = some (.int .i64 t171) := (blk_cell BK169.out 1).trans rfl
              have hfz54_0 := blk_frozen BK169.out 0
              have hfz54_1 := blk_frozen BK169.out 1
              have hnb55 := NB179_178.out
              have hnc55 := NB178_179.out
              have hnb56 := NB179_180.out
              have hnc56 := NB180_179.out
              have hcz57_0 : wc.cell? ⟨gb179, 0, none⟩ = some (.int .i64 t174) := (blk_cell BK179.out 0).trans rfl
              have hcz57_1 : wc.cell? ⟨gb179, 1, none⟩ = some (.int .i64 t175) := (blk_cell BK179.out 1).trans rfl
              have hfz57_0 := blk_frozen BK179.out 0
              have hfz57_1 := blk_frozen BK179.out 1
              have hnb58 := NB178_180.out
              have hnc58 := NB180_178.out
              have hcz59_0 : wc.cell? ⟨gb178, 0, none⟩ = some (.int .i64 t172) := (blk_cell BK178.out 0).trans rfl
              have hcz59_1 : wc.cell? ⟨gb178, 1, none⟩ = some (.int .i64 t173) := (blk_cell BK178.out 1).trans rfl
              have hfz59_0 := blk_frozen BK178.out 0
              have hfz59_1 := blk_frozen BK178.out 1
              go_wp2_with (first | ((with_reducible refine gate_callee (f := 19) rfl ?_); refine goesL_ (some 63) rfl rfl Try.func19 (by kernel_rfl) rfl #[.agg #[.int .i64 t170, .int .i64 t171], .agg #[.int .i64 t174, .int .i64 t175], .agg #[.int .i64 t172, .int .i64 t173]] rfl (by (try simp only [List.map_toArray, List.map_cons, List.map_nil]); first | done | rfl | (simp only [List.length_drop, List.length_take]; rfl)) ?_; (with_reducible refine (pt_On.calls t170 t171 t174 t175 t172 t173 true _ A30.out).mono ?_); rintro e w60 ⟨rfl, hb⟩; refine ⟨_, rfl, ?_⟩; have n0_ := Aside0.mk (blk_below (g := gb169) (o := .cells #[.int .i64 t170, .int .i64 t171] 23 (0, 0)) (by (with_reducible repeat (first | refine blk_drewN ?_ _ | refine blk_drew ?_ | refine blk_alloc ?_ _)); exact BK169.out) hb); have n1_ := Aside0.mk (blk_below (g := gb178) (o := .cells #[.int .i64 t172, .int .i64 t173] 23 (0, 0)) (by (with_reducible repeat (first | refine blk_drewN ?_ _ | refine blk_drew ?_ | refine blk_alloc ?_ _)); exact BK178.out) hb); have n2_ := Aside0.mk (blk_below (g := gb179) (o := .cells #[.int .i64 t174, .int .i64 t175] 23 (0, 0)) (by (with_reducible repeat (first | refine blk_drewN ?_ _ | refine blk_drew ?_ | refine blk_alloc ?_ _)); exact BK179.out) hb); have n3_ := Aside0.mk (blk_below (g := gb180) (o := .cells #[.int .i64 t176, .int .i64 t177] 23 (0, 0)) (by (with_reducible repeat (first | refine blk_drewN ?_ _ | refine blk_drew ?_ | refine blk_alloc ?_ _)); exact BK180.out) hb); have n4_ := Aside0.mk (below_step (by repeat (first | (with_reducible first | exact HB.out | apply below_alloc | apply pw_below_drewN | apply below_drew1 | refine below_set ?_ GE169.out | refine below_set ?_ GE178.out | refine below_set ?_ GE179.out | refine below_set ?_ GE180.out) | exact HB.out)) hb); clear BK169; clear BK178; clear BK179; clear BK180; clear HB; have BK169 := n0_; have BK178 := n1_; have BK179 := n2_; have BK180 := n3_; have HB := n4_; clear n0_ n1_ n2_ n3_ n4_; (try clear hb); (try clear hb2); (try clear hk); (try clear hi); have hcz61_0 : w60.cell? ⟨gb169, 0, none⟩ = some (.int .i64 t170) := (blk_cell BK169.out 0).trans rfl; have hcz61_1 : w60.cell? ⟨gb169, 1, none⟩ = some (.int .i64 t171) := (blk_cell BK169.out 1).trans rfl; have hfz61_0 := blk_frozen BK169.out 0; have hfz61_1 := blk_frozen BK169.out 1; have hcz62_0 : w60.cell? ⟨gb179, 0, none⟩ = some (.int .i64 t174) := (blk_cell BK179.out 0).trans rfl; have hcz62_1 : w60.cell? ⟨gb179, 1, none⟩ = some (.int .i64 t175) := (blk_cell BK179.out 1).trans rfl; have hfz62_0 := blk_frozen BK179.out 0; have hfz62_1 := blk_frozen BK179.out 1; have hcz63_0 : w60.cell? ⟨gb178, 0, none⟩ = some (.int .i64 t172) := (blk_cell BK178.out 0).trans rfl; have hcz63_1 : w60.cell? ⟨gb178, 1, none⟩ = some (.int .i64 t173) := (blk_cell BK178.out 1).trans rfl; have hfz63_0 := blk_frozen BK178.out 0; have hfz63_1 := blk_frozen BK178.out 1) | (go_at_call 20; (with_reducible refine (pt_Within.calls t170 t171 t174 t175 t172 t173 false _ A32.out).mono ?_); rintro e w64 ⟨rfl, hb⟩; have n0_ := Aside0.mk (blk_below (g := gb169) (o := .cells #[.int .i64 t170, .int .i64 t171] 23 (0, 0)) (by (with_reducible repeat (first | refine blk_drewN ?_ _ | refine blk_drew ?_ | refine blk_alloc ?_ _)); exact BK169.out) hb); have n1_ := Aside0.mk (blk_below (g := gb178) (o := .cells #[.int .i64 t172, .int .i64 t173] 23 (0, 0)) (by (with_reducible repeat (first | refine blk_drewN ?_ _ | refine blk_drew ?_ | refine blk_alloc ?_ _)); exact BK178.out) hb); have n2_ := Aside0.mk (blk_below (g := gb179) (o := .cells #[.int .i64 t174, .int .i64 t175] 23 (0, 0)) (by (with_reducible repeat (first | refine blk_drewN ?_ _ | refine blk_drew ?_ | refine blk_alloc ?_ _)); exact BK179.out) hb); have n3_ := Aside0.mk (blk_below (g := gb180) (o := .cells #[.int .i64 t176, .int .i64 t177] 23 (0, 0)) (by (with_reducible repeat (first | refine blk_drewN ?_ _ | refine blk_drew ?_ | refine blk_alloc ?_ _)); exact BK180.out) hb); have n4_ := Aside0.mk (below_step (by repeat (first | (with_reducible first | exact HB.out | apply below_alloc | apply pw_below_drewN | apply below_drew1 | refine below_set ?_ GE169.out | refine below_set ?_ GE178.out | refine below_set ?_ GE179.out | refine below_set ?_ GE180.out) | exact HB.out)) hb); clear BK169; clear BK178; clear BK179; clear BK180; clear HB; have BK169 := n0_; have BK178 := n1_; have BK179 := n2_; have BK180 := n3_; have HB := n4_; clear n0_ n1_ n2_ n3_ n4_; (try clear hb); (try clear hb2); (try clear hk); (try clear hi); have hcz65_0 : w64.cell? ⟨gb169, 0, none⟩ = some (.int .i64 t170) := (blk_cell BK169.out 0).trans rfl; have hcz65_1 : w64.cell? ⟨gb169, 1, none⟩ = some (.int .i64 t171) := (blk_cell BK169.out 1).trans rfl; have hfz65_0 := blk_frozen BK169.out 0; have hfz65_1 := blk_frozen BK169.out 1; have hcz66_0 : w64.cell? ⟨gb179, 0, none⟩ = some (.int .i64 t174) := (blk_cell BK179.out 0).trans rfl; have hcz66_1 : w64.cell? ⟨gb179, 1, none⟩ = some (.int .i64 t175) := (blk_cell BK179.out 1).trans rfl; have hfz66_0 := blk_frozen BK179.out 0; have hfz66_1 := blk_frozen BK179.out 1; have hcz67_0 : w64.cell? ⟨gb180, 0, none⟩ = some (.int .i64 t176) := (blk_cell BK180.out 0).trans rfl; have hcz67_1 : w64.cell? ⟨gb180, 1, none⟩ = some (.int .i64 t177) := (blk_cell BK180.out 1).trans rfl; have hfz67_0 := blk_frozen BK180.out 0; have hfz67_1 := blk_frozen BK180.out 1) | (go_at_call 19; (with_reducible refine (pt_On.calls t170 t171 t174 t175 t176 t177 true _ A48.out).mono ?_); rintro e w68 ⟨rfl, hb⟩; have n0_ := Aside0.mk (blk_below (g := gb169) (o := .cells #[.int .i64 t170, .int .i64 t171] 23 (0, 0)) (by (with_reducible repeat (first | refine blk_drewN ?_ _ | refine blk_drew ?_ | refine blk_alloc ?_ _)); exact BK169.out) hb); have n1_ := Aside0.mk (blk_below (g := gb178) (o := .cells #[.int .i64 t172, .int .i64 t173] 23 (0, 0)) (by (with_reducible repeat (first | refine blk_drewN ?_ _ | refine blk_drew ?_ | refine blk_alloc ?_ _)); exact BK178.out) hb); have n2_ := Aside0.mk (blk_below (g := gb179) (o := .cells #[.int .i64 t174, .int .i64 t175] 23 (0, 0)) (by (with_reducible repeat (first | refine blk_drewN ?_ _ | refine blk_drew ?_ | refine blk_alloc ?_ _)); exact BK179.out) hb); have n3_ := Aside0.mk (blk_below (g := gb180) (o := .cells #[.int .i64 t176, .int .i64 t177] 23 (0, 0)) (by (with_reducible repeat (first | refine blk_drewN ?_ _ | refine blk_drew ?_ | refine blk_alloc ?_ _)); exact BK180.out) hb); have n4_ := Aside0.mk (below_step (by repeat (first | (with_reducible first | exact HB.out | apply below_alloc | apply pw_below_drewN | apply below_drew1 | refine below_set ?_ GE169.out | refine below_set ?_ GE178.out | refine below_set ?_ GE179.out | refine below_set ?_ GE180.out) | exact HB.out)) hb); clear BK169; clear BK178; clear BK179; clear BK180; clear HB; have BK169 := n0_; have BK178 := n1_; have BK179 := n2_; have BK180 := n3_; have HB := n4_; clear n0_ n1_ n2_ n3_ n4_; (try clear hb); (try clear hb2); (try clear hk); (try clear hi)) | (go_at_call 14; (with_reducible refine (terrierlaw9_awake.calls kj7  t184 _ A50.out).mono ?_); rintro e w69 ⟨rfl, hb⟩; have n0_ := Aside0.mk (blk_below (g := gb169) (o := .cells #[.int .i64 t170, .int .i64 t171] 23 (0, 0)) (by (with_reducible repeat (first | refine blk_drewN ?_ _ | refine blk_drew ?_ | refine blk_alloc ?_ _)); exact BK169.out) hb); have n1_ := Aside0.mk (blk_below (g := gb178) (o := .cells #[.int .i64 t172, .int .i64 t173] 23 (0, 0)) (by (with_reducible repeat (first | refine blk_drewN ?_ _ | refine blk_drew ?_ | refine blk_alloc ?_ _)); exact BK178.out) hb); have n2_ := Aside0.mk (blk_below (g := gb179) (o := .cells #[.int .i64 t174, .int .i64 t175] 23 (0, 0)) (by (with_reducible repeat (first | refine blk_drewN ?_ _ | refine blk_drew ?_ | refine blk_alloc ?_ _)); exact BK179.out) hb); have n3_ := Aside0.mk (blk_below (g := gb180) (o := .cells #[.int .i64 t176, .int .i64 t177] 23 (0, 0)) (by (with_reducible repeat (first | refine blk_drewN ?_ _ | refine blk_drew ?_ | refine blk_alloc ?_ _)); exact BK180.out) hb); have n4_ := Aside0.mk (below_step (by repeat (first | (with_reducible first | exact HB.out | apply below_alloc | apply pw_below_drewN | apply below_drew1 | refine below_set ?_ GE169.out | refine below_set ?_ GE178.out | refine below_set ?_ GE179.out | refine below_set ?_ GE180.out) | exact HB.out)) hb); clear BK169; clear BK178; clear BK179; clear BK180; clear HB; have BK169 := n0_; have BK178 := n1_; have BK179 := n2_; have BK180 := n3_; have HB := n4_; clear n0_ n1_ n2_ n3_ n4_; (try clear hb); (try clear hb2); (try clear hk); (try clear hi)))
              go_ret
              exact ⟨by first | rfl | (simp [errW_none, errW_some] <;> rfl) | (simp [*, errW_none, errW_some] <;> rfl), by repeat (first | (with_reducible first | exact HB.out | apply below_alloc | apply pw_below_drewN | apply below_drew1 | refine below_set ?_ GE169.out | refine below_set ?_ GE178.out | refine below_set ?_ GE179.out | refine below_set ?_ GE180.out) | exact HB.out)⟩
            · replace c49 := Bool.eq_false_iff.mpr c49
              subst c49
              have H1 : (some false) = some r := by rw [if_neg (show ¬ (false = true) by decide)] at H; exact H
              clear H
              have H := H1
              clear H1
              exact absurd (Option.some.inj (H.trans (congrArg some HR.out))) (by decide)
        · replace c31 := Bool.eq_false_iff.mpr c31
          subst c31
          have H1 : (some false) = some r := by rw [if_neg (show ¬ (false = true) by decide)] at H; exact H
          clear H
          have H := H1
          clear H1
          exact absurd (Option.some.inj (H.trans (congrArg some HR.out))) (by decide)
      · replace c29 := Bool.eq_false_iff.mpr c29
        subst c29
        have H1 : ((pt_On.f t170 t171 t174 t175 t172 t173).bind fun t185 => (if t185 = true then ((pt_Within.f t170 t171 t174 t175 t172 t173).bind fun t186 => (if t186 = true then ((pt_On.f t170 t171 t174 t175 t174 t175).bind fun t187 => (if t187 = true then ((pt_Within.f t170 t171 t174 t175 t174 t175).bind fun t188 => (if t188 = true then (some false) else ((pt_On.f t170 t171 t174 t175 t176 t177).bind fun t189 => (if t189 = true then (some false) else ((pt_Turn.f t170 t171 t174 t175 t176 t177).bind fun t190 => (if t190 = 0 then ((terrierlaw9_awake.f kj7).bind fun t191 => (some t191)) else (some false))))))) else (some false))) else (some false))) else (some false))) = some r := by rw [if_neg (show ¬ (false = true) by decide)] at H; exact H
        clear H
        have H := H1
        clear H1
        replace H := Option.bind_eq_some_iff.mp H
        obtain ⟨t185, A980, H⟩ := H
        replace H : (if t185 = true then ((pt_Within.f t170 t171 t174 t175 t172 t173).bind fun t186 => (if t186 = true then ((pt_On.f t170 t171 t174 t175 t174 t175).bind fun t187 => (if t187 = true then ((pt_Within.f t170 t171 t174 t175 t174 t175).bind fun t188 => (if t188 = true then (some false) else ((pt_On.f t170 t171 t174 t175 t176 t177).bind fun t189 => (if t189 = true then (some false) else ((pt_Turn.f t170 t171 t174 t175 t176 t177).bind fun t190 => (if t190 = 0 then ((terrierlaw9_awake.f kj7).bind fun t191 => (some t191)) else (some false))))))) else (some false))) else (some false))) else (some false)) = some r := H
        have A98 := Aside0.mk A980
        clear A980
        by_cases c99 : t185 = true
        · subst c99
          have H1 : ((pt_Within.f t170 t171 t174 t175 t172 t173).bind fun t186 => (if t186 = true then ((pt_On.f t170 t171 t174 t175 t174 t175).bind fun t187 => (if t187 = true then ((pt_Within.f t170 t171 t174 t175 t174 t175).bind fun t188 => (if t188 = true then (some false) else ((pt_On.f t170 t171 t174 t175 t176 t177).bind fun t189 => (if t189 = true then (some false) else ((pt_Turn.f t170 t171 t174 t175 t176 t177).bind fun t190 => (if t190 = 0 then ((terrierlaw9_awake.f kj7).bind fun t191 => (some t191)) else (some false))))))) else (some false))) else (some false))) = some r := by rw [if_pos rfl] at H; exact H
          clear H
          have H := H1
          clear H1
          replace H := Option.bind_eq_some_iff.mp H
          obtain ⟨t186, A1000, H⟩ := H
          replace H : (if t186 = true then ((pt_On.f t170 t171 t174 t175 t174 t175).bind fun t187 => (if t187 = true then ((pt_Within.f t170 t171 t174 t175 t174 t175).bind fun t188 => (if t188 = true then (some false) else ((pt_On.f t170 t171 t174 t175 t176 t177).bind fun t189 => (if t189 = true then (some false) else ((pt_Turn.f t170 t171 t174 t175 t176 t177).bind fun t190 => (if t190 = 0 then ((terrierlaw9_awake.f kj7).bind fun t191 => (some t191)) else (some false))))))) else (some false))) else (some false)) = some r := H
          have A100 := Aside0.mk A1000
          clear A1000
          by_cases c101 : t186 = true
          · subst c101
            have H1 : ((pt_On.f t170 t171 t174 t175 t174 t175).bind fun t187 => (if t187 = true then ((pt_Within.f t170 t171 t174 t175 t174 t175).bind fun t188 => (if t188 = true then (some false) else ((pt_On.f t170 t171 t174 t175 t176 t177).bind fun t189 => (if t189 = true then (some false) else ((pt_Turn.f t170 t171 t174 t175 t176 t177).bind fun t190 => (if t190 = 0 then ((terrierlaw9_awake.f kj7).bind fun t191 => (some t191)) else (some false))))))) else (some false))) = some r := by rw [if_pos rfl] at H; exact H
            clear H
            have H := H1
            clear H1
            replace H := Option.bind_eq_some_iff.mp H
            obtain ⟨t187, A1020, H⟩ := H
            replace H : (if t187 = true then ((pt_Within.f t170 t171 t174 t175 t174 t175).bind fun t188 => (if t188 = true then (some false) else ((pt_On.f t170 t171 t174 t175 t176 t177).bind fun t189 => (if t189 = true then (some false) else ((pt_Turn.f t170 t171 t174 t175 t176 t177).bind fun t190 => (if t190 = 0 then ((terrierlaw9_awake.f kj7).bind fun t191 => (some t191)) else (some false))))))) else (some false)) = some r := H
            have A102 := Aside0.mk A1020
            clear A1020
            by_cases c103 : t187 = true
            · subst c103
              have H1 : ((pt_Within.f t170 t171 t174 t175 t174 t175).bind fun t188 => (if t188 = true then (some false) else ((pt_On.f t170 t171 t174 t175 t176 t177).bind fun t189 => (if t189 = true then (some false) else ((pt_Turn.f t170 t171 t174 t175 t176 t177).bind fun t190 => (if t190 = 0 then ((terrierlaw9_awake.f kj7).bind fun t191 => (some t191)) else (some false))))))) = some r := by rw [if_pos rfl] at H; exact H
              clear H
              have H := H1
              clear H1
              replace H := Option.bind_eq_some_iff.mp H
              obtain ⟨t188, A1040, H⟩ := H
              replace H : (if t188 = true then (some false) else ((pt_On.f t170 t171 t174 t175 t176 t177).bind fun t189 => (if t189 = true then (some false) else ((pt_Turn.f t170 t171 t174 t175 t176 t177).bind fun t190 => (if t190 = 0 then ((terrierlaw9_awake.f kj7).bind fun t191 => (some t191)) else (some false)))))) = some r := H
              have A104 := Aside0.mk A1040
              clear A1040
              by_cases c105 : t188 = true
              · subst c105
                have H1 : (some false) = some r := by rw [if_pos rfl] at H; exact H
                clear H
                have H := H1
                clear H1
                exact absurd (Option.some.inj (H.trans (congrArg some HR.out))) (by decide)
              · replace c105 := Bool.eq_false_iff.mpr c105
                subst c105
                have H1 : ((pt_On.f t170 t171 t174 t175 t176 t177).bind fun t189 => (if t189 = true then (some false) else ((pt_Turn.f t170 t171 t174 t175 t176 t177).bind fun t190 => (if t190 = 0 then ((terrierlaw9_awake.f kj7).bind fun t191 => (some t191)) else (some false))))) = some r := by rw [if_neg (show ¬ (false = true) by decide)] at H; exact H
                clear H
                have H := H1
                clear H1
                replace H := Option.bind_eq_some_iff.mp H
                obtain ⟨t189, A1260, H⟩ := H
                replace H : (if t189 = true then (some false) else ((pt_Turn.f t170 t171 t174 t175 t176 t177).bind fun t190 => (if t190 = 0 then ((terrierlaw9_awake.f kj7).bind fun t191 => (some t191)) else (some false)))) = some r := H
                have A126 := Aside0.mk A1260
                clear A1260
                by_cases c127 : t189 = true
                · subst c127
                  have H1 : (some false) = some r := by rw [if_pos rfl] at H; exact H
                  clear H
                  have H := H1
                  clear H1
                  exact absurd (Option.some.inj (H.trans (congrArg some HR.out))) (by decide)
                · replace c127 := Bool.eq_false_iff.mpr c127
                  subst c127
                  have H1 : ((pt_Turn.f t170 t171 t174 t175 t176 t177).bind fun t190 => (if t190 = 0 then ((terrierlaw9_awake.f kj7).bind fun t191 => (some t191)) else (some false))) = some r := by rw [if_neg (show ¬ (false = true) by decide)] at H; exact H
                  clear H
                  have H := H1
                  clear H1
                  replace H := Option.bind_eq_some_iff.mp H
                  obtain ⟨t190, A1520, H⟩ := H
                  replace H : (if t190 = 0 then ((terrierlaw9_awake.f kj7).bind fun t191 => (some t191)) else (some false)) = some r := H
                  have A152 := Aside0.mk A1520
                  clear A1520
                  by_cases c153 : t190 = 0
                  · rw [if_pos c153] at H
                    have c153b0 : (t190 == 0) = true := beq_iff_eq.mpr c153
                    have c153b1 : (t190 != 0) = false := bne_eq_false_iff_eq.mpr c153
                    clear c153
                    replace H := Option.bind_eq_some_iff.mp H
                    obtain ⟨t191, A1540, H⟩ := H
                    replace H : (some t191) = some r := H
                    have A154 := Aside0.mk A1540
                    clear A1540
                    obtain rfl := Option.some.inj H
                    have hnb155 := NB169_178.out
                    have hnc155 := NB178_169.out
                    have hnb156 := NB169_179.out
                    have hnc156 := NB179_169.out
                    have hnb157 := NB169_180.out
                    have hnc157 := NB180_169.out
                    have hcz158_0 : wc.cell? ⟨gb169, 0, none⟩ = some (.int .i64 t170) := (blk_cell BK169.out 0).trans rfl
                    have hcz158_1 : wc.cell? ⟨gb169, 1, none⟩ = some (.int .i64 t171) := (blk_cell BK169.out 1).trans rfl
                    have hfz158_0 := blk_frozen BK169.out 0
                    have hfz158_1 := blk_frozen BK169.out 1
                    have hnb159 := NB179_178.out
                    have hnc159 := NB178_179.out
                    have hnb160 := NB179_180.out
                    have hnc160 := NB180_179.out
                    have hcz161_0 : wc.cell? ⟨gb179, 0, none⟩ = some (.int .i64 t174) := (blk_cell BK179.out 0).trans rfl
                    have hcz161_1 : wc.cell? ⟨gb179, 1, none⟩ = some (.int .i64 t175) := (blk_cell BK179.out 1).trans rfl
                    have hfz161_0 := blk_frozen BK179.out 0
                    have hfz161_1 := blk_frozen BK179.out 1
                    have hnb162 := NB178_180.out
                    have hnc162 := NB180_178.out
                    have hcz163_0 : wc.cell? ⟨gb178, 0, none⟩ = some (.int .i64 t172) := (blk_cell BK178.out 0).trans rfl
                    have hcz163_1 : wc.cell? ⟨gb178, 1, none⟩ = some (.int .i64 t173) := (blk_cell BK178.out 1).trans rfl
                    have hfz163_0 := blk_frozen BK178.out 0
                    have hfz163_1 := blk_frozen BK178.out 1
                    go_wp2_with (first | ((with_reducible refine gate_callee (f := 19) rfl ?_); refine goesL_ (some 83) rfl rfl Try.func19 (by kernel_rfl) rfl #[.agg #[.int .i64 t170, .int .i64 t171], .agg #[.int .i64 t174, .int .i64 t175], .agg #[.int .i64 t172, .int .i64 t173]] rfl (by (try simp only [List.map_toArray, List.map_cons, List.map_nil]); first | done | rfl | (simp only [List.length_drop, List.length_take]; rfl)) ?_; (with_reducible refine (pt_On.calls t170 t171 t174 t175 t172 t173 true _ A98.out).mono ?_); rintro e w164 ⟨rfl, hb⟩; refine ⟨_, rfl, ?_⟩; have n0_ := Aside0.mk (blk_below (g := gb169) (o := .cells #[.int .i64 t170, .int .i64 t171] 23 (0, 0)) (by (with_reducible repeat (first | refine blk_drewN ?_ _ | refine blk_drew ?_ | refine blk_alloc ?_ _)); exact BK169.out) hb); have n1_ := Aside0.mk (blk_below (g := gb178) (o := .cells #[.int .i64 t172, .int .i64 t173] 23 (0, 0)) (by (with_reducible repeat (first | refine blk_drewN ?_ _ | refine blk_drew ?_ | refine blk_alloc ?_ _)); exact BK178.out) hb); have n2_ := Aside0.mk (blk_below (g := gb179) (o := .cells #[.int .i64 t174, .int .i64 t175] 23 (0, 0)) (by (with_reducible repeat (first | refine blk_drewN ?_ _ | refine blk_drew ?_ | refine blk_alloc ?_ _)); exact BK179.out) hb); have n3_ := Aside0.mk (blk_below (g := gb180) (o := .cells #[.int .i64 t176, .int .i64 t177] 23 (0, 0)) (by (with_reducible repeat (first | refine blk_drewN ?_ _ | refine blk_drew ?_ | refine blk_alloc ?_ _)); exact BK180.out) hb); have n4_ := Aside0.mk (below_step (by repeat (first | (with_reducible first | exact HB.out | apply below_alloc | apply pw_below_drewN | apply below_drew1 | refine below_set ?_ GE169.out | refine below_set ?_ GE178.out | refine below_set ?_ GE179.out | refine below_set ?_ GE180.out) | exact HB.out)) hb); clear BK169; clear BK178; clear BK179; clear BK180; clear HB; have BK169 := n0_; have BK178 := n1_; have BK179 := n2_; have BK180 := n3_; have HB := n4_; clear n0_ n1_ n2_ n3_ n4_; (try clear hb); (try clear hb2); (try clear hk); (try clear hi); have hcz165_0 : w164.cell? ⟨gb169, 0, none⟩ = some (.int .i64 t170) := (blk_cell BK169.out 0).trans rfl; have hcz165_1 : w164.cell? ⟨gb169, 1, none⟩ = some (.int .i64 t171) := (blk_cell BK169.out 1).trans rfl; have hfz165_0 := blk_frozen BK169.out 0; have hfz165_1 := blk_frozen BK169.out 1; have hcz166_0 : w164.cell? ⟨gb179, 0, none⟩ = some (.int .i64 t174) := (blk_cell BK179.out 0).trans rfl; have hcz166_1 : w164.cell? ⟨gb179, 1, none⟩ = some (.int .i64 t175) := (blk_cell BK179.out 1).trans rfl; have hfz166_0 := blk_frozen BK179.out 0; have hfz166_1 := blk_frozen BK179.out 1; have hcz167_0 : w164.cell? ⟨gb178, 0, none⟩ = some (.int .i64 t172) := (blk_cell BK178.out 0).trans rfl; have hcz167_1 : w164.cell? ⟨gb178, 1, none⟩ = some (.int .i64 t173) := (blk_cell BK178.out 1).trans rfl; have hfz167_0 := blk_frozen BK178.out 0; have hfz167_1 := blk_frozen BK178.out 1) | (go_at_call 20; (with_reducible refine (pt_Within.calls t170 t171 t174 t175 t172 t173 true _ A100.out).mono ?_); rintro e w168 ⟨rfl, hb⟩; have n0_ := Aside0.mk (blk_below (g := gb169) (o := .cells #[.int .i64 t170, .int .i64 t171] 23 (0, 0)) (by (with_reducible repeat (first | refine blk_drewN ?_ _ | refine blk_drew ?_ | refine blk_alloc ?_ _)); exact BK169.out) hb); have n1_ := Aside0.mk (blk_below (g := gb178) (o := .cells #[.int .i64 t172, .int .i64 t173] 23 (0, 0)) (by (with_reducible repeat (first | refine blk_drewN ?_ _ | refine blk_drew ?_ | refine blk_alloc ?_ _)); exact BK178.out) hb); have n2_ := Aside0.mk (blk_below (g := gb179) (o := .cells #[.int .i64 t174, .int .i64 t175] 23 (0, 0)) (by (with_reducible repeat (first | refine blk_drewN ?_ _ | refine blk_drew ?_ | refine blk_alloc ?_ _)); exact BK179.out) hb); have n3_ := Aside0.mk (blk_below (g := gb180) (o := .cells #[.int .i64 t176, .int .i64 t177] 23 (0, 0)) (by (with_reducible repeat (first | refine blk_drewN ?_ _ | refine blk_drew ?_ | refine blk_alloc ?_ _)); exact BK180.out) hb); have n4_ := Aside0.mk (below_step (by repeat (first | (with_reducible first | exact HB.out | apply below_alloc | apply pw_below_drewN | apply below_drew1 | refine below_set ?_ GE169.out | refine below_set ?_ GE178.out | refine below_set ?_ GE179.out | refine below_set ?_ GE180.out) | exact HB.out)) hb); clear BK169; clear BK178; clear BK179; clear BK180; clear HB; have BK169 := n0_; have BK178 := n1_; have BK179 := n2_; have BK180 := n3_; have HB := n4_; clear n0_ n1_ n2_ n3_ n4_; (try clear hb); (try clear hb2); (try clear hk); (try clear hi); have hcz169_0 : w168.cell? ⟨gb169, 0, none⟩ = some (.int .i64 t170) := (blk_cell BK169.out 0).trans rfl; have hcz169_1 : w168.cell? ⟨gb169, 1, none⟩ = some (.int .i64 t171) := (blk_cell BK169.out 1).trans rfl; have hfz169_0 := blk_frozen BK169.out 0; have hfz169_1 := blk_frozen BK169.out 1; have hcz170_0 : w168.cell? ⟨gb179, 0, none⟩ = some (.int .i64 t174) := (blk_cell BK179.out 0).trans rfl; have hcz170_1 : w168.cell? ⟨gb179, 1, none⟩ = some (.int .i64 t175) := (blk_cell BK179.out 1).trans rfl; have hfz170_0 := blk_frozen BK179.out 0; have hfz170_1 := blk_frozen BK179.out 1) | (go_at_call 19; (with_reducible refine (pt_On.calls t170 t171 t174 t175 t174 t175 true _ A102.out).mono ?_); rintro e w171 ⟨rfl, hb⟩; have n0_ := Aside0.mk (blk_below (g := gb169) (o := .cells #[.int .i64 t170, .int .i64 t171] 23 (0, 0)) (by (with_reducible repeat (first | refine blk_drewN ?_ _ | refine blk_drew ?_ | refine blk_alloc ?_ _)); exact BK169.out) hb); have n1_ := Aside0.mk (blk_below (g := gb178) (o := .cells #[.int .i64 t172, .int .i64 t173] 23 (0, 0)) (by (with_reducible repeat (first | refine blk_drewN ?_ _ | refine blk_drew ?_ | refine blk_alloc ?_ _)); exact BK178.out) hb); have n2_ := Aside0.mk (blk_below (g := gb179) (o := .cells #[.int .i64 t174, .int .i64 t175] 23 (0, 0)) (by (with_reducible repeat (first | refine blk_drewN ?_ _ | refine blk_drew ?_ | refine blk_alloc ?_ _)); exact BK179.out) hb); have n3_ := Aside0.mk (blk_below (g := gb180) (o := .cells #[.int .i64 t176, .int .i64 t177] 23 (0, 0)) (by (with_reducible repeat (first | refine blk_drewN ?_ _ | refine blk_drew ?_ | refine blk_alloc ?_ _)); exact BK180.out) hb); have n4_ := Aside0.mk (below_step (by repeat (first | (with_reducible first | exact HB.out | apply below_alloc | apply pw_below_drewN | apply below_drew1 | refine below_set ?_ GE169.out | refine below_set ?_ GE178.out | refine below_set ?_ GE179.out | refine below_set ?_ GE180.out) | exact HB.out)) hb); clear BK169; clear BK178; clear BK179; clear BK180; clear HB; have BK169 := n0_; have BK178 := n1_; have BK179 := n2_; have BK180 := n3_; have HB := n4_; clear n0_ n1_ n2_ n3_ n4_; (try clear hb); (try clear hb2); (try clear hk); (try clear hi); have hcz172_0 : w171.cell? ⟨gb169, 0, none⟩ = some (.int .i64 t170) := (blk_cell BK169.out 0).trans rfl; have hcz172_1 : w171.cell? ⟨gb169, 1, none⟩ = some (.int .i64 t171) := (blk_cell BK169.out 1).trans rfl; have hfz172_0 := blk_frozen BK169.out 0; have hfz172_1 := blk_frozen BK169.out 1; have hcz173_0 : w171.cell? ⟨gb179, 0, none⟩ = some (.int .i64 t174) := (blk_cell BK179.out 0).trans rfl; have hcz173_1 : w171.cell? ⟨gb179, 1, none⟩ = some (.int .i64 t175) := (blk_cell BK179.out 1).trans rfl; have hfz173_0 := blk_frozen BK179.out 0; have hfz173_1 := blk_frozen BK179.out 1) | (go_at_call 20; (with_reducible refine (pt_Within.calls t170 t171 t174 t175 t174 t175 false _ A104.out).mono ?_); rintro e w174 ⟨rfl, hb⟩; have n0_ := Aside0.mk (blk_below (g := gb169) (o := .cells #[.int .i64 t170, .int .i64 t171] 23 (0, 0)) (by (with_reducible repeat (first | refine blk_drewN ?_ _ | refine blk_drew ?_ | refine blk_alloc ?_ _)); exact BK169.out) hb); have n1_ := Aside0.mk (blk_below (g := gb178) (o := .cells #[.int .i64 t172, .int .i64 t173] 23 (0, 0)) (by (with_reducible repeat (first | refine blk_drewN ?_ _ | refine blk_drew ?_ | refine blk_alloc ?_ _)); exact BK178.out) hb); have n2_ := Aside0.mk (blk_below (g := gb179) (o := .cells #[.int .i64 t174, .int .i64 t175] 23 (0, 0)) (by (with_reducible repeat (first | refine blk_drewN ?_ _ | refine blk_drew ?_ | refine blk_alloc ?_ _)); exact BK179.out) hb); have n3_ := Aside0.mk (blk_below (g := gb180) (o := .cells #[.int .i64 t176, .int .i64 t177] 23 (0, 0)) (by (with_reducible repeat (first | refine blk_drewN ?_ _ | refine blk_drew ?_ | refine blk_alloc ?_ _)); exact BK180.out) hb); have n4_ := Aside0.mk (below_step (by repeat (first | (with_reducible first | exact HB.out | apply below_alloc | apply pw_below_drewN | apply below_drew1 | refine below_set ?_ GE169.out | refine below_set ?_ GE178.out | refine below_set ?_ GE179.out | refine below_set ?_ GE180.out) | exact HB.out)) hb); clear BK169; clear BK178; clear BK179; clear BK180; clear HB; have BK169 := n0_; have BK178 := n1_; have BK179 := n2_; have BK180 := n3_; have HB := n4_; clear n0_ n1_ n2_ n3_ n4_; (try clear hb); (try clear hb2); (try clear hk); (try clear hi); have hcz175_0 : w174.cell? ⟨gb169, 0, none⟩ = some (.int .i64 t170) := (blk_cell BK169.out 0).trans rfl; have hcz175_1 : w174.cell? ⟨gb169, 1, none⟩ = some (.int .i64 t171) := (blk_cell BK169.out 1).trans rfl; have hfz175_0 := blk_frozen BK169.out 0; have hfz175_1 := blk_frozen BK169.out 1; have hcz176_0 : w174.cell? ⟨gb179, 0, none⟩ = some (.int .i64 t174) := (blk_cell BK179.out 0).trans rfl; have hcz176_1 : w174.cell? ⟨gb179, 1, none⟩ = some (.int .i64 t175) := (blk_cell BK179.out 1).trans rfl; have hfz176_0 := blk_frozen BK179.out 0; have hfz176_1 := blk_frozen BK179.out 1; have hcz177_0 : w174.cell? ⟨gb180, 0, none⟩ = some (.int .i64 t176) := (blk_cell BK180.out 0).trans rfl; have hcz177_1 : w174.cell? ⟨gb180, 1, none⟩ = some (.int .i64 t177) := (blk_cell BK180.out 1).trans rfl; have hfz177_0 := blk_frozen BK180.out 0; have hfz177_1 := blk_frozen BK180.out 1) | (go_at_call 19; (with_reducible refine (pt_On.calls t170 t171 t174 t175 t176 t177 false _ A126.out).mono ?_); rintro e w178 ⟨rfl, hb⟩; have n0_ := Aside0.mk (blk_below (g := gb169) (o := .cells #[.int .i64 t170, .int .i64 t171] 23 (0, 0)) (by (with_reducible repeat (first | refine blk_drewN ?_ _ | refine blk_drew ?_ | refine blk_alloc ?_ _)); exact BK169.out) hb); have n1_ := Aside0.mk (blk_below (g := gb178) (o := .cells #[.int .i64 t172, .int .i64 t173] 23 (0, 0)) (by (with_reducible repeat (first | refine blk_drewN ?_ _ | refine blk_drew ?_ | refine blk_alloc ?_ _)); exact BK178.out) hb); have n2_ := Aside0.mk (blk_below (g := gb179) (o := .cells #[.int .i64 t174, .int .i64 t175] 23 (0, 0)) (by (with_reducible repeat (first | refine blk_drewN ?_ _ | refine blk_drew ?_ | refine blk_alloc ?_ _)); exact BK179.out) hb); have n3_ := Aside0.mk (blk_below (g := gb180) (o := .cells #[.int .i64 t176, .int .i64 t177] 23 (0, 0)) (by (with_reducible repeat (first | refine blk_drewN ?_ _ | refine blk_drew ?_ | refine blk_alloc ?_ _)); exact BK180.out) hb); have n4_ := Aside0.mk (below_step (by repeat (first | (with_reducible first | exact HB.out | apply below_alloc | apply pw_below_drewN | apply below_drew1 | refine below_set ?_ GE169.out | refine below_set ?_ GE178.out | refine below_set ?_ GE179.out | refine below_set ?_ GE180.out) | exact HB.out)) hb); clear BK169; clear BK178; clear BK179; clear BK180; clear HB; have BK169 := n0_; have BK178 := n1_; have BK179 := n2_; have BK180 := n3_; have HB := n4_; clear n0_ n1_ n2_ n3_ n4_; (try clear hb); (try clear hb2); (try clear hk); (try clear hi); have hcz179_0 : w178.cell? ⟨gb169, 0, none⟩ = some (.int .i64 t170) := (blk_cell BK169.out 0).trans rfl; have hcz179_1 : w178.cell? ⟨gb169, 1, none⟩ = some (.int .i64 t171) := (blk_cell BK169.out 1).trans rfl; have hfz179_0 := blk_frozen BK169.out 0; have hfz179_1 := blk_frozen BK169.out 1; have hcz180_0 : w178.cell? ⟨gb179, 0, none⟩ = some (.int .i64 t174) := (blk_cell BK179.out 0).trans rfl; have hcz180_1 : w178.cell? ⟨gb179, 1, none⟩ = some (.int .i64 t175) := (blk_cell BK179.out 1).trans rfl; have hfz180_0 := blk_frozen BK179.out 0; have hfz180_1 := blk_frozen BK179.out 1; have hcz181_0 : w178.cell? ⟨gb180, 0, none⟩ = some (.int .i64 t176) := (blk_cell BK180.out 0).trans rfl; have hcz181_1 : w178.cell? ⟨gb180, 1, none⟩ = some (.int .i64 t177) := (blk_cell BK180.out 1).trans rfl; have hfz181_0 := blk_frozen BK180.out 0; have hfz181_1 := blk_frozen BK180.out 1) | (go_at_call 17; (with_reducible refine (pt_Turn.calls t170 t171 t174 t175 t176 t177 t190 _ A152.out).mono ?_); rintro e w182 ⟨rfl, hb⟩; have n0_ := Aside0.mk (blk_below (g := gb169) (o := .cells #[.int .i64 t170, .int .i64 t171] 23 (0, 0)) (by (with_reducible repeat (first | refine blk_drewN ?_ _ | refine blk_drew ?_ | refine blk_alloc ?_ _)); exact BK169.out) hb); have n1_ := Aside0.mk (blk_below (g := gb178) (o := .cells #[.int .i64 t172, .int .i64 t173] 23 (0, 0)) (by (with_reducible repeat (first | refine blk_drewN ?_ _ | refine blk_drew ?_ | refine blk_alloc ?_ _)); exact BK178.out) hb); have n2_ := Aside0.mk (blk_below (g := gb179) (o := .cells #[.int .i64 t174, .int .i64 t175] 23 (0, 0)) (by (with_reducible repeat (first | refine blk_drewN ?_ _ | refine blk_drew ?_ | refine blk_alloc ?_ _)); exact BK179.out) hb); have n3_ := Aside0.mk (blk_below (g := gb180) (o := .cells #[.int .i64 t176, .int .i64 t177] 23 (0, 0)) (by (with_reducible repeat (first | refine blk_drewN ?_ _ | refine blk_drew ?_ | refine blk_alloc ?_ _)); exact BK180.out) hb); have n4_ := Aside0.mk (below_step (by repeat (first | (with_reducible first | exact HB.out | apply below_alloc | apply pw_below_drewN | apply below_drew1 | refine below_set ?_ GE169.out | refine below_set ?_ GE178.out | refine below_set ?_ GE179.out | refine below_set ?_ GE180.out) | exact HB.out)) hb); clear BK169; clear BK178; clear BK179; clear BK180; clear HB; have BK169 := n0_; have BK178 := n1_; have BK179 := n2_; have BK180 := n3_; have HB := n4_; clear n0_ n1_ n2_ n3_ n4_; (try clear hb); (try clear hb2); (try clear hk); (try clear hi)) | (go_at_call 14; (with_reducible refine (terrierlaw9_awake.calls kj7  t191 _ A154.out).mono ?_); rintro e w183 ⟨rfl, hb⟩; have n0_ := Aside0.mk (blk_below (g := gb169) (o := .cells #[.int .i64 t170, .int .i64 t171] 23 (0, 0)) (by (with_reducible repeat (first | refine blk_drewN ?_ _ | refine blk_drew ?_ | refine blk_alloc ?_ _)); exact BK169.out) hb); have n1_ := Aside0.mk (blk_below (g := gb178) (o := .cells #[.int .i64 t172, .int .i64 t173] 23 (0, 0)) (by (with_reducible repeat (first | refine blk_drewN ?_ _ | refine blk_drew ?_ | refine blk_alloc ?_ _)); exact BK178.out) hb); have n2_ := Aside0.mk (blk_below (g := gb179) (o := .cells #[.int .i64 t174, .int .i64 t175] 23 (0, 0)) (by (with_reducible repeat (first | refine blk_drewN ?_ _ | refine blk_drew ?_ | refine blk_alloc ?_ _)); exact BK179.out) hb); have n3_ := Aside0.mk (blk_below (g := gb180) (o := .cells #[.int .i64 t176, .int .i64 t177] 23 (0, 0)) (by (with_reducible repeat (first | refine blk_drewN ?_ _ | refine blk_drew ?_ | refine blk_alloc ?_ _)); exact BK180.out) hb); have n4_ := Aside0.mk (below_step (by repeat (first | (with_reducible first | exact HB.out | apply below_alloc | apply pw_below_drewN | apply below_drew1 | refine below_set ?_ GE169.out | refine below_set ?_ GE178.out | refine below_set ?_ GE179.out | refine below_set ?_ GE180.out) | exact HB.out)) hb); clear BK169; clear BK178; clear BK179; clear BK180; clear HB; have BK169 := n0_; have BK178 := n1_; have BK179 := n2_; have BK180 := n3_; have HB := n4_; clear n0_ n1_ n2_ n3_ n4_; (try clear hb); (try clear hb2); (try clear hk); (try clear hi)))
                    go_ret
                    exact ⟨by first | rfl | (simp [errW_none, errW_some] <;> rfl) | (simp [*, errW_none, errW_some] <;> rfl), by repeat (first | (with_reducible first | exact HB.out | apply below_alloc | apply pw_below_drewN | apply below_drew1 | refine below_set ?_ GE169.out | refine below_set ?_ GE178.out | refine below_set ?_ GE179.out | refine below_set ?_ GE180.out) | exact HB.out)⟩
                  · rw [if_neg c153] at H
                    have c153b0 : (t190 == 0) = false := beq_eq_false_iff_ne.mpr c153
                    have c153b1 : (t190 != 0) = true := bne_iff_ne.mpr c153
                    exact absurd (Option.some.inj (H.trans (congrArg some HR.out))) (by decide)
            · replace c103 := Bool.eq_false_iff.mpr c103
              subst c103
              have H1 : (some false) = some r := by rw [if_neg (show ¬ (false = true) by decide)] at H; exact H
              clear H
              have H := H1
              clear H1
              exact absurd (Option.some.inj (H.trans (congrArg some HR.out))) (by decide)
          · replace c101 := Bool.eq_false_iff.mpr c101
            subst c101
            have H1 : (some false) = some r := by rw [if_neg (show ¬ (false = true) by decide)] at H; exact H
            clear H
            have H := H1
            clear H1
            exact absurd (Option.some.inj (H.trans (congrArg some HR.out))) (by decide)
        · replace c99 := Bool.eq_false_iff.mpr c99
          subst c99
          have H1 : (some false) = some r := by rw [if_neg (show ¬ (false = true) by decide)] at H; exact H
          clear H
          have H := H1
          clear H1
          exact absurd (Option.some.inj (H.trans (congrArg some HR.out))) (by decide)
end Go.Proofs.Ytabblkckapdpoaa.PPtMidst
