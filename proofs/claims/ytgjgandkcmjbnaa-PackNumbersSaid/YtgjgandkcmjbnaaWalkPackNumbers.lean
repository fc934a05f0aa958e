/- Proved: the law's function PackNumbers tells true wherever its printed form does, by its walk. -/
import Derived.Test.YtgjgandkcmjbnaaB3
import Derived.Test.YtgjgandkcmjbnaaB4
import Derived.Test.YtgjgandkcmjbnaaB5
namespace Go.Proofs.Ytgjgandkcmjbnaa.PB
open Go.RowKit Go.Proofs.YtgjgandkcmjbnaaW.PrintWords Go.Proofs.YtgjgandkcmjbnaaW.PrintLast Go.Proofs.YtgjgandkcmjbnaaW.PrintMore
attribute [local go_sem] max2_int min2_int max_two min_two max_three min_three max_four min_four   -- for this text's walks alone
set_option linter.unusedVariables false
set_option linter.unusedSimpArgs false

/-! ### terrierlaw1_PackNumbers: function 6 -/
def terrierlaw1_PackNumbers.j0 : Nat → Int → Int → List Int → List Int → List Int → Bool → Option (Bool)
  | 0, _, _, _, _, _, _ => none
  | k + 1, x0, x1, x2, x7, x8, x30 => if x30 = true then (some false) else ((some (([] : List Int) : List Int)).bind fun y159 => (if y159.length + x7.length < 140737488355328 then ((some (y159 ++ x7 : List Int)).bind fun y162 => (if y162.length + x2.length < 140737488355328 then ((pack_Var.f k (y162 ++ x2)).bind fun bt168 => ((some (([] : List Int) : List Int)).bind fun y171 => (if y171.length + x8.length < 140737488355328 then ((some (y171 ++ x8 : List Int)).bind fun y174 => (if y174.length + x2.length < 140737488355328 then ((pack_IntOf.f k (y174 ++ x2)).bind fun bt180 => (if bt168.1 = x0 then (if bt168.2.1 = (x7.length : Int) then (if bt168.2.2 = 0 then (if bt180.1 = x1 then (if bt180.2.1 = (x8.length : Int) then (if bt180.2.2 = 0 then ((terrierlaw1_awake.f k).bind fun t183 => (some t183)) else (some false)) else (some false)) else (some false)) else (some false)) else (some false)) else (some false))) else (none))) else (none)))) else (none))) else (none)))
def terrierlaw1_PackNumbers.f (k : Nat) (a0 : Int) (a1 : Int) (l2 : List Int) : Option (Bool) := (pack_Uvar.f k a0).bind fun t151 => ((pack_Int.f k a1).bind fun t154 => ((terrierref1_Uvar.f k a0).bind fun t157 => (if (strOfNums t151).toList = t157.toList then ((terrierref1_Int.f k a1).bind fun t158 => (terrierlaw1_PackNumbers.j0 k a0 a1 l2 t151 t154 ((strOfNums t154).toList != t158.toList))) else (terrierlaw1_PackNumbers.j0 k a0 a1 l2 t151 t154 true))))
theorem terrierlaw1_PackNumbers.mono_l : ∀ k, (∀ y0 y1 y2 y3 y4 y5, LeO (terrierlaw1_PackNumbers.j0 k y0 y1 y2 y3 y4 y5) (terrierlaw1_PackNumbers.j0 (k + 1) y0 y1 y2 y3 y4 y5))
  | 0 => fun _ _ _ _ _ _ r h => by simp [terrierlaw1_PackNumbers.j0] at h
  | k + 1 => by
    have ih0 := terrierlaw1_PackNumbers.mono_l k
    · intro y0 y1 y2 y3 y4 y5
      unfold terrierlaw1_PackNumbers.j0
      repeat' first
      | (with_reducible exact ih0 _ _ _ _ _ _)
      | (with_reducible exact pack_Int.mono _ _)
      | (with_reducible exact pack_IntOf.mono _ _)
      | (with_reducible exact pack_Uvar.mono _ _)
      | (with_reducible exact pack_Var.mono _ _)
      | (with_reducible exact terrierlaw1_awake.mono _)
      | (with_reducible exact terrierref1_Int.mono _ _)
      | (with_reducible exact terrierref1_Uvar.mono _ _)
      | (with_reducible exact LeO.refl _)
      | (with_reducible exact LeO.none _)
      | (with_reducible refine LeO.ite ?_ ?_)
      | (with_reducible refine LeO.bind ?_ (fun _ => ?_))
      | exact ih0 _ _ _ _ _ _
      | exact pack_Int.mono _ _
      | exact pack_IntOf.mono _ _
      | exact pack_Uvar.mono _ _
      | exact pack_Var.mono _ _
      | exact terrierlaw1_awake.mono _
      | exact terrierref1_Int.mono _ _
      | exact terrierref1_Uvar.mono _ _
      | exact LeO.none _
      | refine LeO.ite ?_ ?_
      | refine LeO.bind ?_ (fun _ => ?_)
theorem terrierlaw1_PackNumbers.mono : ∀ a0 a1 a2 k, LeO (terrierlaw1_PackNumbers.f k a0 a1 a2) (terrierlaw1_PackNumbers.f (k + 1) a0 a1 a2) := by
  intro a0 a1 a2 k
  have ih0 := terrierlaw1_PackNumbers.mono_l k
  unfold terrierlaw1_PackNumbers.f
  repeat' first
      | (with_reducible exact ih0 _ _ _ _ _ _)
      | (with_reducible exact pack_Int.mono _ _)
      | (with_reducible exact pack_IntOf.mono _ _)
      | (with_reducible exact pack_Uvar.mono _ _)
      | (with_reducible exact pack_Var.mono _ _)
      | (with_reducible exact terrierlaw1_awake.mono _)
      | (with_reducible exact terrierref1_Int.mono _ _)
      | (with_reducible exact terrierref1_Uvar.mono _ _)
      | (with_reducible exact LeO.refl _)
      | (with_reducible exact LeO.none _)
      | (with_reducible refine LeO.ite ?_ ?_)
      | (with_reducible refine LeO.bind ?_ (fun _ => ?_))
      | exact ih0 _ _ _ _ _ _
      | exact pack_Int.mono _ _
      | exact pack_IntOf.mono _ _
      | exact pack_Uvar.mono _ _
      | exact pack_Var.mono _ _
      | exact terrierlaw1_awake.mono _
      | exact terrierref1_Int.mono _ _
      | exact terrierref1_Uvar.mono _ _
      | exact LeO.none _
      | refine LeO.ite ?_ ?_
      | refine LeO.bind ?_ (fun _ => ?_)
def terrierlaw1_PackNumbers.T2 : Bool × List (List Nat × List Nat) := (true, [([], []), ([0], [0]), ([], []), ([2], [2]), ([1, 3], [1, 3]), ([4, 3], [4]), ([5], [5]), ([6, 5], [5, 6]), ([5], [5]), ([8, 5, 5], [5, 8]), ([7, 9, 5], [5, 7, 9]), ([5, 10], [5, 10])])
def terrierlaw1_PackNumbers.B2 : List Nat := [0, 1, 0, 4, 15, 31, 63, 127, 63, 319, 1023, 2047]
theorem terrierlaw1_PackNumbers.tab2 : rtab .any (opsOf Try.f6 2) = terrierlaw1_PackNumbers.T2 := by kernel_rfl
theorem terrierlaw1_PackNumbers.bits2 : waitsOk terrierlaw1_PackNumbers.T2.2 terrierlaw1_PackNumbers.B2 = true := by kernel_rfl
set_option maxHeartbeats 8000000 in
set_option maxRecDepth 100000 in
theorem terrierlaw1_PackNumbers.calls (k : Nat) (a0 : Int) (a1 : Int) (A2 : Option Addr) (c2 : Nat) (l2 : List Int) (r : Bool) (hr : r = true) (w : World) (hr2 : Kd.C (Kd.int .u8) w A2 l2.length l2) (hc2 : l2.length ≤ c2) (h : terrierlaw1_PackNumbers.f k a0 a1 l2 = some r) :
    Calls Try.prog 6 #[.int .u64 a0, .int .i64 a1, .slice A2 l2.length c2] w fun e w' => e = .returned (.bool r) ∧ Below w.heap.size w w' := by
  have HR2 := Aside0.mk hr2
  have HC2 := Aside0.mk hc2
  clear hr2 hc2
  have HB := Aside0.mk (Below.refl w.heap.size w)
  have HR := Aside0.mk hr
  clear hr
  have H : ((pack_Uvar.f k a0).bind fun t151 => ((pack_Int.f k a1).bind fun t154 => ((terrierref1_Uvar.f k a0).bind fun t157 => (if (strOfNums t151).toList = t157.toList then ((terrierref1_Int.f k a1).bind fun t158 => (terrierlaw1_PackNumbers.j0 k a0 a1 l2 t151 t154 ((strOfNums t154).toList != t158.toList))) else (terrierlaw1_PackNumbers.j0 k a0 a1 l2 t151 t154 true))))) = some r := h
  clear h
  replace H := Option.bind_eq_some_iff.mp H
  obtain ⟨t151, A40, H⟩ := H
  replace H : ((pack_Int.f k a1).bind fun t154 => ((terrierref1_Uvar.f k a0).bind fun t157 => (if (strOfNums t151).toList = t157.toList then ((terrierref1_Int.f k a1).bind fun t158 => (terrierlaw1_PackNumbers.j0 k a0 a1 l2 t151 t154 ((strOfNums t154).toList != t158.toList))) else (terrierlaw1_PackNumbers.j0 k a0 a1 l2 t151 t154 true)))) = some r := H
  have A4 := Aside0.mk A40
  clear A40
  replace H := Option.bind_eq_some_iff.mp H
  obtain ⟨t154, A50, H⟩ := H
  replace H : ((terrierref1_Uvar.f k a0).bind fun t157 => (if (strOfNums t151).toList = t157.toList then ((terrierref1_Int.f k a1).bind fun t158 => (terrierlaw1_PackNumbers.j0 k a0 a1 l2 t151 t154 ((strOfNums t154).toList != t158.toList))) else (terrierlaw1_PackNumbers.j0 k a0 a1 l2 t151 t154 true))) = some r := H
  have A5 := Aside0.mk A50
  clear A50
  have HC6 := Aside0.mk H
  clear H
  go_enter Try.func6, Try.ntmps6
  go_upto_region 2 with (first | ((with_reducible refine gate_callee (f := 12) rfl ?_); refine goesL_ (some 16) rfl rfl Try.func12 (by kernel_rfl) rfl #[.int .u64 a0] rfl (by (try simp only [List.map_toArray, List.map_cons, List.map_nil]); first | done | rfl | (simp only [List.length_drop, List.length_take]; rfl)) ?_; (with_reducible refine (pack_Uvar.calls k a0 t151 _ A4.out).mono ?_); rintro e w7 ⟨_, u152, rfl, ⟨A152_, n152_, c152_, d152_, rfl, rfl, hc152_, hd152_⟩, ho0, hb⟩; obtain rfl : n152_ = t151.length := cap_len ho0; refine ⟨_, rfl, ?_⟩; have n0_ := Aside0.mk (Kd.R_lower ho0 (below_size (by repeat (first | (with_reducible first | exact HB.out | apply below_alloc | apply pw_below_drewN | apply below_drew1) | exact HB.out)))); have n1_ := Aside0.mk (below_step (by repeat (first | (with_reducible first | exact HB.out | apply below_alloc | apply pw_below_drewN | apply below_drew1) | exact HB.out)) hb); clear HB; have HO153 := n0_; have HB := n1_; clear n0_ n1_; (try clear hb); (try clear hb2); (try clear hk); (try clear hi); (try clear ho0)) | ((with_reducible refine gate_callee (f := 13) rfl ?_); refine goesL_ (some 18) rfl rfl Try.func13 (by kernel_rfl) rfl #[.int .i64 a1] rfl (by (try simp only [List.map_toArray, List.map_cons, List.map_nil]); first | done | rfl | (simp only [List.length_drop, List.length_take]; rfl)) ?_; (with_reducible refine (pack_Int.calls k a1 t154 _ A5.out).mono ?_); rintro e w8 ⟨_, u155, rfl, ⟨A155_, n155_, c155_, d155_, rfl, rfl, hc155_, hd155_⟩, ho0, hb⟩; obtain rfl : n155_ = t154.length := cap_len ho0; refine ⟨_, rfl, ?_⟩; have n0_ := Aside0.mk (Kd.R_elder' (by (with_reducible repeat (first | apply Kd.R_alloc | apply Kd.R_drewN | apply Kd.R_drew)); exact HO153.out) (Kd.R_base ho0) hb); have n1_ := Aside0.mk (Kd.R_lower (Kd.R_new' ho0 (Kd.R_lt (by (with_reducible repeat (first | apply Kd.R_alloc | apply Kd.R_drewN | apply Kd.R_drew)); exact HO153.out))) (below_size (by repeat (first | (with_reducible first | exact HB.out | apply below_alloc | apply pw_below_drewN | apply below_drew1) | exact HB.out)))); have n2_ := Aside0.mk (below_step (by repeat (first | (with_reducible first | exact HB.out | apply below_alloc | apply pw_below_drewN | apply below_drew1) | exact HB.out)) hb); clear HO153; clear HB; have HO153 := n0_; have HO156 := n1_; have HB := n2_; clear n0_ n1_ n2_; (try clear hb); (try clear hb2); (try clear hk); (try clear hi); (try clear ho0)))
  (try simp only [Act.put, List.setIfInBounds_toArray, List.set_cons_zero, List.set_cons_succ])
  go_cut [30] (fun v30 wc => ∃ (kq : Nat) (x30_5 : Bool), v30 = .bool x30_5 ∧ Aside0 (terrierlaw1_PackNumbers.j0 kq a0 a1 l2 t151 t154 x30_5 = some r) ∧ Aside0 (kq ≤ k) ∧ Aside0 (Kd.R (Kd.int .u8) 5 wc w.heap.size (fun k_ => some k_ ≠ ((.slice A155_ t154.length d155_) : Value).ownBlock) (.slice A152_ t151.length d152_) t151) ∧ Aside0 (Kd.R (Kd.int .u8) 5 wc w.heap.size (fun k_ => some k_ ≠ ((.slice A152_ t151.length d152_) : Value).ownBlock) (.slice A155_ t154.length d155_) t154) ∧ Aside0 (Below w.heap.size w wc))
  case first =>
    have H := HC6.out
    clear HC6
    replace H := Option.bind_eq_some_iff.mp H
    obtain ⟨t157, A90, H⟩ := H
    replace H : (if (strOfNums t151).toList = t157.toList then ((terrierref1_Int.f k a1).bind fun t158 => (terrierlaw1_PackNumbers.j0 k a0 a1 l2 t151 t154 ((strOfNums t154).toList != t158.toList))) else (terrierlaw1_PackNumbers.j0 k a0 a1 l2 t151 t154 true)) = some r := H
    have A9 := Aside0.mk A90
    clear A90
    by_cases c10 : (strOfNums t151).toList = t157.toList
    · rw [if_pos c10] at H
      have c10b0 : ((strOfNums t151).toList == t157.toList) = true := beq_iff_eq.mpr c10
      have c10b1 : ((strOfNums t151).toList != t157.toList) = false := bne_eq_false_iff_eq.mpr c10
      clear c10
      (first | rw [c10b0] | (simp only [i64_w, i32_w]; rw [c10b0]) | skip)
      replace H := Option.bind_eq_some_iff.mp H
      obtain ⟨t158, A110, H⟩ := H
      replace H : (terrierlaw1_PackNumbers.j0 k a0 a1 l2 t151 t154 ((strOfNums t154).toList != t158.toList)) = some r := H
      have A11 := Aside0.mk A110
      clear A110
      have H' := Aside0.mk H
      clear H
      try go_wp2
      have n0_ := Aside0.mk (Kd.R_drew HO153.out)
      have n1_ := Aside0.mk (Kd.R_drew HO156.out)
      have n2_ := Aside0.mk (below_drew1 HB.out)
      clear HO153
      clear HO156
      clear HB
      have HO153 := n0_
      have HO156 := n1_
      have HB := n2_
      clear n0_ n1_ n2_
      have hcv13 := cap_string (P := Try.prog) (c := c152_) Try.underlying22 Try.underlying5 Try.underlying9 (Kd.own_of_R HO153.out)
      refine start_ (n := 12) (S := fun w' => Sem.run Try.prog (convert 22 9 (.slice A152_ t151.length c152_)) w' = .ok (.string (strOfNums t151)) w' ∧ Sem.run Try.prog (convert 22 9 (.slice A155_ t154.length c155_)) w' = .ok (.string (strOfNums t154)) w') (ds := []) #[false, false, false, false, false, false, false, false, false, false, false, false] (by kernel_rfl) rfl rfl ⟨cap_string (P := Try.prog) (c := c152_) Try.underlying22 Try.underlying5 Try.underlying9 (Kd.own_of_R HO153.out), cap_string (P := Try.prog) (c := c155_) Try.underlying22 Try.underlying5 Try.underlying9 (Kd.own_of_R HO156.out)⟩ (fun hHeld => ?_); refine with_tabW terrierlaw1_PackNumbers.tab2 terrierlaw1_PackNumbers.bits2 (fun HT_ HW_ => ?_)
      generalize w8.drew = w12 at HO153 HO156 HB hHeld ⊢
      refine pure_ (i := 0) (N := some 19) (v := ?_) (a' := ?_) #[true, false, false, false, false, false, false, false, false, false, false, false] rfl rfl (any_of HT_.out (by kernel_rfl)) (fun _ _ _ h => h) (Or.inl ⟨by rfl, ?_⟩) ?_ ?_
      rotate_left
      · intro w'
        go_simp
        with_reducible rfl
      rotate_left
      · simp only [Act.put, List.setIfInBounds_toArray, List.set_cons_zero, List.set_cons_succ, i64_w, i32_w]
        rfl
      refine take_ (i := 1) (N := some 20) (v := ?_) (a' := ?_) #[true, true, false, false, false, false, false, false, false, false, false, false] rfl rfl (take_ofW HT_.out HW_.out (by kernel_rfl)) (fun _ _ _ h => h) (Or.inl ⟨by rfl, ?_⟩) hHeld ?_ ?_
      rotate_left
      · rintro w' ⟨s0, s1⟩
        go_simp
        with_reducible rfl
      rotate_left
      · simp only [Act.put, List.setIfInBounds_toArray, List.set_cons_zero, List.set_cons_succ, i64_w, i32_w]
        rfl
      refine pure_ (i := 2) (N := some 21) (v := ?_) (a' := ?_) #[true, true, true, false, false, false, false, false, false, false, false, false] rfl rfl (any_of HT_.out (by kernel_rfl)) (fun _ _ _ h => h) (Or.inl ⟨by rfl, ?_⟩) ?_ ?_
      rotate_left
      · intro w'
        go_simp
        with_reducible rfl
      rotate_left
      · simp only [Act.put, List.setIfInBounds_toArray, List.set_cons_zero, List.set_cons_succ, i64_w, i32_w]
        rfl
      refine one_ (i := 3) (N := some 22) #[true, true, true, true, false, false, false, false, false, false, false, false] rfl rfl (one_of HT_.out (by kernel_rfl)) (by decide) (fun K hK => ?_)
      refine goes_ Try.func15 (by kernel_rfl) rfl #[.int .u64 a0] (by rfl) rfl rfl (by (try simp only [List.map_toArray, List.map_cons, List.map_nil]); first | done | rfl | (simp only [List.length_drop, List.length_take]; rfl)) ?_
      with_reducible refine (terrierref1_Uvar.calls k a0 t157 _ A9.out).mono ?_
      rintro e w14 ⟨rfl, hb⟩
      refine ⟨_, rfl, ?_⟩
      have n0_ := Aside0.mk (Kd.R_below (by (with_reducible repeat (first | apply Kd.R_alloc | apply Kd.R_drewN | apply Kd.R_drew)); exact HO153.out) hb)
      have n1_ := Aside0.mk (Kd.R_below (by (with_reducible repeat (first | apply Kd.R_alloc | apply Kd.R_drewN | apply Kd.R_drew)); exact HO156.out) hb)
      have n2_ := Aside0.mk (below_step (by repeat (first | (with_reducible first | exact HB.out | apply below_alloc | apply pw_below_drewN | apply below_drew1) | exact HB.out)) hb)
      clear HO153
      clear HO156
      clear HB
      have HO153 := n0_
      have HO156 := n1_
      have HB := n2_
      clear n0_ n1_ n2_
      (try clear hb)
      (try clear hb2)
      (try clear hk)
      (try clear hi)
      have hcv15 := cap_string (P := Try.prog) (c := c155_) Try.underlying22 Try.underlying5 Try.underlying9 (Kd.own_of_R HO156.out)
      refine hK.out _ _ ⟨cap_string (P := Try.prog) (c := c152_) Try.underlying22 Try.underlying5 Try.underlying9 (Kd.own_of_R HO153.out), cap_string (P := Try.prog) (c := c155_) Try.underlying22 Try.underlying5 Try.underlying9 (Kd.own_of_R HO156.out)⟩ (fun hHeld => ?_)
      clear hK K
      refine norm_ (a' := ?_) ?_ ?_
      rotate_left
      · show Act.put _ (some 22) _ = _
        simp only [Act.put, List.setIfInBounds_toArray, List.set_cons_zero, List.set_cons_succ, i64_w, i32_w]
        rfl
      refine pure_ (i := 4) (N := some 23) (v := ?_) (a' := ?_) #[true, true, true, true, true, false, false, false, false, false, false, false] rfl rfl (any_of HT_.out (by kernel_rfl)) (fun _ _ _ h => h) (Or.inl ⟨by rfl, ?_⟩) ?_ ?_
      rotate_left
      · intro w'
        go_simp
        with_reducible rfl
      rotate_left
      · simp only [Act.put, List.setIfInBounds_toArray, List.set_cons_zero, List.set_cons_succ, i64_w, i32_w]
        rfl
      refine pure_ (i := 5) (N := some 24) (v := ?_) (a' := ?_) #[true, true, true, true, true, true, false, false, false, false, false, false] rfl rfl (any_of HT_.out (by kernel_rfl)) (fun _ _ _ h => h) (Or.inl ⟨by rfl, ?_⟩) ?_ ?_
      rotate_left
      · intro w'
        go_simp
        with_reducible rfl
      rotate_left
      · simp only [Act.put, List.setIfInBounds_toArray, List.set_cons_zero, List.set_cons_succ, i64_w, i32_w]
        rfl
      refine pure_ (i := 6) (N := some 25) (v := ?_) (a' := ?_) #[true, true, true, true, true, true, true, false, false, false, false, false] rfl rfl (any_of HT_.out (by kernel_rfl)) (fun _ _ _ h => h) (Or.inl ⟨by rfl, ?_⟩) ?_ ?_
      rotate_left
      · intro w'
        go_simp
        with_reducible rfl
      rotate_left
      · simp only [Act.put, List.setIfInBounds_toArray, List.set_cons_zero, List.set_cons_succ, i64_w, i32_w]
        rfl
      refine take_ (i := 7) (N := some 26) (v := ?_) (a' := ?_) #[true, true, true, true, true, true, true, true, false, false, false, false] rfl rfl (take_ofW HT_.out HW_.out (by kernel_rfl)) (fun _ _ _ h => h) (Or.inl ⟨by rfl, ?_⟩) hHeld ?_ ?_
      rotate_left
      · rintro w' ⟨s0, s1⟩
        go_simp
        with_reducible rfl
      rotate_left
      · simp only [Act.put, List.setIfInBounds_toArray, List.set_cons_zero, List.set_cons_succ, i64_w, i32_w]
        rfl
      refine pure_ (i := 8) (N := some 27) (v := ?_) (a' := ?_) #[true, true, true, true, true, true, true, true, true, false, false, false] rfl rfl (any_of HT_.out (by kernel_rfl)) (fun _ _ _ h => h) (Or.inl ⟨by rfl, ?_⟩) ?_ ?_
      rotate_left
      · intro w'
        go_simp
        with_reducible rfl
      rotate_left
      · simp only [Act.put, List.setIfInBounds_toArray, List.set_cons_zero, List.set_cons_succ, i64_w, i32_w]
        rfl
      refine one_ (i := 9) (N := some 28) #[true, true, true, true, true, true, true, true, true, true, false, false] rfl rfl (one_of HT_.out (by kernel_rfl)) (by decide) (fun K hK => ?_)
      refine goes_ Try.func16 (by kernel_rfl) rfl #[.int .i64 a1] (by rfl) rfl rfl (by (try simp only [List.map_toArray, List.map_cons, List.map_nil]); first | done | rfl | (simp only [List.length_drop, List.length_take]; rfl)) ?_
      with_reducible refine (terrierref1_Int.calls k a1 t158 _ A11.out).mono ?_
      rintro e w16 ⟨rfl, hb⟩
      refine ⟨_, rfl, ?_⟩
      have n0_ := Aside0.mk (Kd.R_below (by (with_reducible repeat (first | apply Kd.R_alloc | apply Kd.R_drewN | apply Kd.R_drew)); exact HO153.out) hb)
      have n1_ := Aside0.mk (Kd.R_below (by (with_reducible repeat (first | apply Kd.R_alloc | apply Kd.R_drewN | apply Kd.R_drew)); exact HO156.out) hb)
      have n2_ := Aside0.mk (below_step (by repeat (first | (with_reducible first | exact HB.out | apply below_alloc | apply pw_below_drewN | apply below_drew1) | exact HB.out)) hb)
      clear HO153
      clear HO156
      clear HB
      have HO153 := n0_
      have HO156 := n1_
      have HB := n2_
      clear n0_ n1_ n2_
      (try clear hb)
      (try clear hb2)
      (try clear hk)
      (try clear hi)
      refine hK.out _ _ ⟨cap_string (P := Try.prog) (c := c152_) Try.underlying22 Try.underlying5 Try.underlying9 (Kd.own_of_R HO153.out), cap_string (P := Try.prog) (c := c155_) Try.underlying22 Try.underlying5 Try.underlying9 (Kd.own_of_R HO156.out)⟩ (fun hHeld => ?_)
      clear hK K
      refine norm_ (a' := ?_) ?_ ?_
      rotate_left
      · show Act.put _ (some 28) _ = _
        simp only [Act.put, List.setIfInBounds_toArray, List.set_cons_zero, List.set_cons_succ, i64_w, i32_w]
        rfl
      refine pure_ (i := 10) (N := some 29) (v := ?_) (a' := ?_) #[true, true, true, true, true, true, true, true, true, true, true, false] rfl rfl (any_of HT_.out (by kernel_rfl)) (fun _ _ _ h => h) (Or.inl ⟨by rfl, ?_⟩) ?_ ?_
      rotate_left
      · intro w'
        go_simp
        with_reducible rfl
      rotate_left
      · simp only [Act.put, List.setIfInBounds_toArray, List.set_cons_zero, List.set_cons_succ, i64_w, i32_w]
        rfl
      refine pure_ (i := 11) (N := some 30) (v := ?_) (a' := ?_) #[true, true, true, true, true, true, true, true, true, true, true, true] rfl rfl (any_of HT_.out (by kernel_rfl)) (fun _ _ _ h => h) (Or.inl ⟨by rfl, ?_⟩) ?_ ?_
      rotate_left
      · intro w'
        go_simp
        with_reducible rfl
      rotate_left
      · simp only [Act.put, List.setIfInBounds_toArray, List.set_cons_zero, List.set_cons_succ, i64_w, i32_w]
        rfl
      refine done_ (done_of HT_.out (by kernel_rfl)) ?_
      try go_wp2
      go_meet
      case rel => exact ⟨_, (((strOfNums t154).toList != t158.toList)), (by first | rfl | (simp; done) | (simp [*]; done)), H', ⟨by first | omega | exact Nat.le_refl _⟩, ⟨by (with_reducible repeat (first | apply Kd.R_alloc | apply Kd.R_drewN | apply Kd.R_drew)); exact Kd.R_mono HO153.out (fun _ h_ => by first | exact h_ | exact h_.2)⟩, ⟨by (with_reducible repeat (first | apply Kd.R_alloc | apply Kd.R_drewN | apply Kd.R_drew)); exact Kd.R_mono HO156.out (fun _ h_ => by first | exact h_ | exact h_.2)⟩, ⟨by repeat (first | (with_reducible first | exact HB.out | apply below_alloc | apply pw_below_drewN | apply below_drew1) | exact HB.out)⟩⟩
    · rw [if_neg c10] at H
      have c10b0 : ((strOfNums t151).toList == t157.toList) = false := beq_eq_false_iff_ne.mpr c10
      have c10b1 : ((strOfNums t151).toList != t157.toList) = true := bne_iff_ne.mpr c10
      (first | rw [c10b0] | (simp only [i64_w, i32_w]; rw [c10b0]) | skip)
      have H' := Aside0.mk H
      clear H
      try go_wp2
      have n0_ := Aside0.mk (Kd.R_drew HO153.out)
      have n1_ := Aside0.mk (Kd.R_drew HO156.out)
      have n2_ := Aside0.mk (below_drew1 HB.out)
      clear HO153
      clear HO156
      clear HB
      have HO153 := n0_
      have HO156 := n1_
      have HB := n2_
      clear n0_ n1_ n2_
      have hcv19 := cap_string (P := Try.prog) (c := c152_) Try.underlying22 Try.underlying5 Try.underlying9 (Kd.own_of_R HO153.out)
      refine start_ (n := 12) (S := fun w' => Sem.run Try.prog (convert 22 9 (.slice A152_ t151.length c152_)) w' = .ok (.string (strOfNums t151)) w' ∧ Sem.run Try.prog (convert 22 9 (.slice A155_ t154.length c155_)) w' = .ok (.string (strOfNums t154)) w') (ds := []) #[false, false, false, false, false, false, false, false, false, false, false, false] (by kernel_rfl) rfl rfl ⟨cap_string (P := Try.prog) (c := c152_) Try.underlying22 Try.underlying5 Try.underlying9 (Kd.own_of_R HO153.out), cap_string (P := Try.prog) (c := c155_) Try.underlying22 Try.underlying5 Try.underlying9 (Kd.own_of_R HO156.out)⟩ (fun hHeld => ?_); refine with_tabW terrierlaw1_PackNumbers.tab2 terrierlaw1_PackNumbers.bits2 (fun HT_ HW_ => ?_)
      generalize w8.drew = w18 at HO153 HO156 HB hHeld ⊢
      refine pure_ (i := 0) (N := some 19) (v := ?_) (a' := ?_) #[true, false, false, false, false, false, false, false, false, false, false, false] rfl rfl (any_of HT_.out (by kernel_rfl)) (fun _ _ _ h => h) (Or.inl ⟨by rfl, ?_⟩) ?_ ?_
      rotate_left
      · intro w'
        go_simp
        with_reducible rfl
      rotate_left
      · simp only [Act.put, List.setIfInBounds_toArray, List.set_cons_zero, List.set_cons_succ, i64_w, i32_w]
        rfl
      refine take_ (i := 1) (N := some 20) (v := ?_) (a' := ?_) #[true, true, false, false, false, false, false, false, false, false, false, false] rfl rfl (take_ofW HT_.out HW_.out (by kernel_rfl)) (fun _ _ _ h => h) (Or.inl ⟨by rfl, ?_⟩) hHeld ?_ ?_
      rotate_left
      · rintro w' ⟨s0, s1⟩
        go_simp
        with_reducible rfl
      rotate_left
      · simp only [Act.put, List.setIfInBounds_toArray, List.set_cons_zero, List.set_cons_succ, i64_w, i32_w]
        rfl
      refine pure_ (i := 2) (N := some 21) (v := ?_) (a' := ?_) #[true, true, true, false, false, false, false, false, false, false, false, false] rfl rfl (any_of HT_.out (by kernel_rfl)) (fun _ _ _ h => h) (Or.inl ⟨by rfl, ?_⟩) ?_ ?_
      rotate_left
      · intro w'
        go_simp
        with_reducible rfl
      rotate_left
      · simp only [Act.put, List.setIfInBounds_toArray, List.set_cons_zero, List.set_cons_succ, i64_w, i32_w]
        rfl
      refine one_ (i := 3) (N := some 22) #[true, true, true, true, false, false, false, false, false, false, false, false] rfl rfl (one_of HT_.out (by kernel_rfl)) (by decide) (fun K hK => ?_)
      refine goes_ Try.func15 (by kernel_rfl) rfl #[.int .u64 a0] (by rfl) rfl rfl (by (try simp only [List.map_toArray, List.map_cons, List.map_nil]); first | done | rfl | (simp only [List.length_drop, List.length_take]; rfl)) ?_
      with_reducible refine (terrierref1_Uvar.calls k a0 t157 _ A9.out).mono ?_
      rintro e w20 ⟨rfl, hb⟩
      refine ⟨_, rfl, ?_⟩
      have n0_ := Aside0.mk (Kd.R_below (by (with_reducible repeat (first | apply Kd.R_alloc | apply Kd.R_drewN | apply Kd.R_drew)); exact HO153.out) hb)
      have n1_ := Aside0.mk (Kd.R_below (by (with_reducible repeat (first | apply Kd.R_alloc | apply Kd.R_drewN | apply Kd.R_drew)); exact HO156.out) hb)
      have n2_ := Aside0.mk (below_step (by repeat (first | (with_reducible first | exact HB.out | apply below_alloc | apply pw_below_drewN | apply below_drew1) | exact HB.out)) hb)
      clear HO153
      clear HO156
      clear HB
      have HO153 := n0_
      have HO156 := n1_
      have HB := n2_
      clear n0_ n1_ n2_
      (try clear hb)
      (try clear hb2)
      (try clear hk)
      (try clear hi)
      refine hK.out _ _ ⟨cap_string (P := Try.prog) (c := c152_) Try.underlying22 Try.underlying5 Try.underlying9 (Kd.own_of_R HO153.out), cap_string (P := Try.prog) (c := c155_) Try.underlying22 Try.underlying5 Try.underlying9 (Kd.own_of_R HO156.out)⟩ (fun hHeld => ?_)
      clear hK K
      refine norm_ (a' := ?_) ?_ ?_
      rotate_left
      · show Act.put _ (some 22) _ = _
        simp only [Act.put, List.setIfInBounds_toArray, List.set_cons_zero, List.set_cons_succ, i64_w, i32_w]
        rfl
      refine pure_ (i := 4) (N := some 23) (v := ?_) (a' := ?_) #[true, true, true, true, true, false, false, false, false, false, false, false] rfl rfl (any_of HT_.out (by kernel_rfl)) (fun _ _ _ h => h) (Or.inl ⟨by rfl, ?_⟩) ?_ ?_
      rotate_left
      · intro w'
        go_simp
        with_reducible rfl
      rotate_left
      · simp only [Act.put, List.setIfInBounds_toArray, List.set_cons_zero, List.set_cons_succ, i64_w, i32_w]
        rfl
      refine pure_ (i := 5) (N := some 24) (v := ?_) (a' := ?_) #[true, true, true, true, true, true, false, false, false, false, false, false] rfl rfl (any_of HT_.out (by kernel_rfl)) (fun _ _ _ h => h) (Or.inl ⟨by rfl, ?_⟩) ?_ ?_
      rotate_left
      · intro w'
        go_simp
        with_reducible rfl
      rotate_left
      · simp only [Act.put, List.setIfInBounds_toArray, List.set_cons_zero, List.set_cons_succ, i64_w, i32_w]
        rfl
      refine pure_ (i := 6) (N := some 25) (v := undef) (a' := ?_) #[true, true, true, true, true, true, true, false, false, false, false, false] rfl rfl (any_of HT_.out (by kernel_rfl)) (fun _ _ _ h => h) (Or.inr ⟨by rfl, rfl⟩) ?_ ?_
      rotate_left
      · simp only [Act.put, List.setIfInBounds_toArray, List.set_cons_zero, List.set_cons_succ, i64_w, i32_w]
        rfl
      refine pure_ (i := 7) (N := some 26) (v := undef) (a' := ?_) #[true, true, true, true, true, true, true, true, false, false, false, false] rfl rfl (any_of HT_.out (by kernel_rfl)) (fun _ _ _ h => h) (Or.inr ⟨by rfl, rfl⟩) ?_ ?_
      rotate_left
      · simp only [Act.put, List.setIfInBounds_toArray, List.set_cons_zero, List.set_cons_succ, i64_w, i32_w]
        rfl
      refine pure_ (i := 8) (N := some 27) (v := undef) (a' := ?_) #[true, true, true, true, true, true, true, true, true, false, false, false] rfl rfl (any_of HT_.out (by kernel_rfl)) (fun _ _ _ h => h) (Or.inr ⟨by rfl, rfl⟩) ?_ ?_
      rotate_left
      · simp only [Act.put, List.setIfInBounds_toArray, List.set_cons_zero, List.set_cons_succ, i64_w, i32_w]
        rfl
      refine pure_ (i := 9) (N := some 28) (v := undef) (a' := ?_) #[true, true, true, true, true, true, true, true, true, true, false, false] rfl rfl (any_of HT_.out (by kernel_rfl)) (fun _ _ _ h => h) (Or.inr ⟨by rfl, rfl⟩) ?_ ?_
      rotate_left
      · simp only [Act.put, List.setIfInBounds_toArray, List.set_cons_zero, List.set_cons_succ, i64_w, i32_w]
        rfl
      refine pure_ (i := 10) (N := some 29) (v := undef) (a' := ?_) #[true, true, true, true, true, true, true, true, true, true, true, false] rfl rfl (any_of HT_.out (by kernel_rfl)) (fun _ _ _ h => h) (Or.inr ⟨by rfl, rfl⟩) ?_ ?_
      rotate_left
      · simp only [Act.put, List.setIfInBounds_toArray, List.set_cons_zero, List.set_cons_succ, i64_w, i32_w]
        rfl
      refine pure_ (i := 11) (N := some 30) (v := ?_) (a' := ?_) #[true, true, true, true, true, true, true, true, true, true, true, true] rfl rfl (any_of HT_.out (by kernel_rfl)) (fun _ _ _ h => h) (Or.inl ⟨by rfl, ?_⟩) ?_ ?_
      rotate_left
      · intro w'
        go_simp
        with_reducible rfl
      rotate_left
      · simp only [Act.put, List.setIfInBounds_toArray, List.set_cons_zero, List.set_cons_succ, i64_w, i32_w]
        rfl
      refine done_ (done_of HT_.out (by kernel_rfl)) ?_
      try go_wp2
      go_meet
      case rel => exact ⟨_, (true), (by first | rfl | (simp; done) | (simp [*]; done)), H', ⟨by first | omega | exact Nat.le_refl _⟩, ⟨by (with_reducible repeat (first | apply Kd.R_alloc | apply Kd.R_drewN | apply Kd.R_drew)); exact Kd.R_mono HO153.out (fun _ h_ => by first | exact h_ | exact h_.2)⟩, ⟨by (with_reducible repeat (first | apply Kd.R_alloc | apply Kd.R_drewN | apply Kd.R_drew)); exact Kd.R_mono HO156.out (fun _ h_ => by first | exact h_ | exact h_.2)⟩, ⟨by repeat (first | (with_reducible first | exact HB.out | apply below_alloc | apply pw_below_drewN | apply below_drew1) | exact HB.out)⟩⟩
  case rest =>
    clear HC6
    try clear c1
    try clear hcv1
    try clear c2
    try clear p2
    try clear c6
    try clear c10
    try clear c10b0
    try clear c10b1
    try clear c12
    try clear c13
    try clear hcv13
    try clear c15
    try clear hcv15
    try clear c16
    try clear hcv19
    obtain ⟨kq, x30_5, rfl, HA, HJ5, HO_7, HO_8, HB⟩ := hcut
    cases kq with
    | zero => exact absurd HA.out (by simp [terrierlaw1_PackNumbers.j0])
    | succ kj5 =>
      have H := HA.out
      clear HA
      simp only [terrierlaw1_PackNumbers.j0] at H
      by_cases c22 : x30_5 = true
      · subst c22
        have H1 : (some false) = some r := by rw [if_pos rfl] at H; exact H
        clear H
        have H := H1
        clear H1
        exact absurd (Option.some.inj (H.trans (congrArg some HR.out))) (by decide)
      · replace c22 := Bool.eq_false_iff.mpr c22
        subst c22
        have H1 : ((some (([] : List Int) : List Int)).bind fun y159 => (if y159.length + t151.length < 140737488355328 then ((some (y159 ++ t151 : List Int)).bind fun y162 => (if y162.length + l2.length < 140737488355328 then ((pack_Var.f kj5 (y162 ++ l2)).bind fun bt168 => ((some (([] : List Int) : List Int)).bind fun y171 => (if y171.length + t154.length < 140737488355328 then ((some (y171 ++ t154 : List Int)).bind fun y174 => (if y174.length + l2.length < 140737488355328 then ((pack_IntOf.f kj5 (y174 ++ l2)).bind fun bt180 => (if bt168.1 = a0 then (if bt168.2.1 = (t151.length : Int) then (if bt168.2.2 = 0 then (if bt180.1 = a1 then (if bt180.2.1 = (t154.length : Int) then (if bt180.2.2 = 0 then ((terrierlaw1_awake.f kj5).bind fun t183 => (some t183)) else (some false)) else (some false)) else (some false)) else (some false)) else (some false)) else (some false))) else (none))) else (none)))) else (none))) else (none))) = some r := by rw [if_neg (show ¬ (false = true) by decide)] at H; exact H
        clear H
        have H := H1
        clear H1
        obtain ⟨y159, hy159⟩ : ∃ y_ : List Int, y_ = (([] : List Int)) := ⟨_, rfl⟩
        replace H : (if y159.length + t151.length < 140737488355328 then ((some (y159 ++ t151 : List Int)).bind fun y162 => (if y162.length + l2.length < 140737488355328 then ((pack_Var.f kj5 (y162 ++ l2)).bind fun bt168 => ((some (([] : List Int) : List Int)).bind fun y171 => (if y171.length + t154.length < 140737488355328 then ((some (y171 ++ t154 : List Int)).bind fun y174 => (if y174.length + l2.length < 140737488355328 then ((pack_IntOf.f kj5 (y174 ++ l2)).bind fun bt180 => (if bt168.1 = a0 then (if bt168.2.1 = (t151.length : Int) then (if bt168.2.2 = 0 then (if bt180.1 = a1 then (if bt180.2.1 = (t154.length : Int) then (if bt180.2.2 = 0 then ((terrierlaw1_awake.f kj5).bind fun t183 => (some t183)) else (some false)) else (some false)) else (some false)) else (some false)) else (some false)) else (some false))) else (none))) else (none)))) else (none))) else (none)) = some r := by first | (rw [hy159]; with_reducible exact H) | (have H2_ := (Option.bind_some _ _).symm.trans H; rw [hy159]; with_reducible exact H2_) | (have H2_ := (Option.bind_some _ _).symm.trans H; with_reducible exact H2_) | with_reducible exact H | (rw [hy159]; exact H) | exact H
        have Ny159 := Aside0.mk hy159
        clear hy159
        by_cases c23 : y159.length + t151.length < 140737488355328
        · rw [if_pos c23] at H
          have LMc23 := Aside0.mk c23
          clear c23
          obtain ⟨y162, hy162⟩ : ∃ y_ : List Int, y_ = (y159 ++ t151) := ⟨_, rfl⟩
          replace H : (if y162.length + l2.length < 140737488355328 then ((pack_Var.f kj5 (y162 ++ l2)).bind fun bt168 => ((some (([] : List Int) : List Int)).bind fun y171 => (if y171.length + t154.length < 140737488355328 then ((some (y171 ++ t154 : List Int)).bind fun y174 => (if y174.length + l2.length < 140737488355328 then ((pack_IntOf.f kj5 (y174 ++ l2)).bind fun bt180 => (if bt168.1 = a0 then (if bt168.2.1 = (t151.length : Int) then (if bt168.2.2 = 0 then (if bt180.1 = a1 then (if bt180.2.1 = (t154.length : Int) then (if bt180.2.2 = 0 then ((terrierlaw1_awake.f kj5).bind fun t183 => (some t183)) else (some false)) else (some false)) else (some false)) else (some false)) else (some false)) else (some false))) else (none))) else (none)))) else (none)) = some r := by first | (rw [hy162]; with_reducible exact H) | (have H2_ := (Option.bind_some _ _).symm.trans H; rw [hy162]; with_reducible exact H2_) | (have H2_ := (Option.bind_some _ _).symm.trans H; with_reducible exact H2_) | with_reducible exact H | (rw [hy162]; exact H) | exact H
          have Ny162 := Aside0.mk hy162
          clear hy162
          by_cases c24 : y162.length + l2.length < 140737488355328
          · rw [if_pos c24] at H
            have LMc24 := Aside0.mk c24
            clear c24
            obtain ⟨y165, hy165⟩ : ∃ y_ : List Int, y_ = (y162 ++ l2) := ⟨_, rfl⟩
            replace H : ((pack_Var.f kj5 y165).bind fun bt168 => ((some (([] : List Int) : List Int)).bind fun y171 => (if y171.length + t154.length < 140737488355328 then ((some (y171 ++ t154 : List Int)).bind fun y174 => (if y174.length + l2.length < 140737488355328 then ((pack_IntOf.f kj5 (y174 ++ l2)).bind fun bt180 => (if bt168.1 = a0 then (if bt168.2.1 = (t151.length : Int) then (if bt168.2.2 = 0 then (if bt180.1 = a1 then (if bt180.2.1 = (t154.length : Int) then (if bt180.2.2 = 0 then ((terrierlaw1_awake.f kj5).bind fun t183 => (some t183)) else (some false)) else (some false)) else (some false)) else (some false)) else (some false)) else (some false))) else (none))) else (none)))) = some r := by first | (rw [hy165]; with_reducible exact H) | (have H2_ := (Option.bind_some _ _).symm.trans H; rw [hy165]; with_reducible exact H2_) | (have H2_ := (Option.bind_some _ _).symm.trans H; with_reducible exact H2_) | with_reducible exact H | (rw [hy165]; exact H) | exact H
            have Ny165 := Aside0.mk hy165
            clear hy165
            replace H := Option.bind_eq_some_iff.mp H
            obtain ⟨⟨t168, t169, t170⟩, A250, H⟩ := H
            replace H : ((some (([] : List Int) : List Int)).bind fun y171 => (if y171.length + t154.length < 140737488355328 then ((some (y171 ++ t154 : List Int)).bind fun y174 => (if y174.length + l2.length < 140737488355328 then ((pack_IntOf.f kj5 (y174 ++ l2)).bind fun bt180 => (if t168 = a0 then (if t169 = (t151.length : Int) then (if t170 = 0 then (if bt180.1 = a1 then (if bt180.2.1 = (t154.length : Int) then (if bt180.2.2 = 0 then ((terrierlaw1_awake.f kj5).bind fun t183 => (some t183)) else (some false)) else (some false)) else (some false)) else (some false)) else (some false)) else (some false))) else (none))) else (none))) = some r := H
            have A25 := Aside0.mk A250
            clear A250
            obtain ⟨y171, hy171⟩ : ∃ y_ : List Int, y_ = (([] : List Int)) := ⟨_, rfl⟩
            replace H : (if y171.length + t154.length < 140737488355328 then ((some (y171 ++ t154 : List Int)).bind fun y174 => (if y174.length + l2.length < 140737488355328 then ((pack_IntOf.f kj5 (y174 ++ l2)).bind fun bt180 => (if t168 = a0 then (if t169 = (t151.length : Int) then (if t170 = 0 then (if bt180.1 = a1 then (if bt180.2.1 = (t154.length : Int) then (if bt180.2.2 = 0 then ((terrierlaw1_awake.f kj5).bind fun t183 => (some t183)) else (some false)) else (some false)) else (some false)) else (some false)) else (some false)) else (some false))) else (none))) else (none)) = some r := by first | (rw [hy171]; with_reducible exact H) | (have H2_ := (Option.bind_some _ _).symm.trans H; rw [hy171]; with_reducible exact H2_) | (have H2_ := (Option.bind_some _ _).symm.trans H; with_reducible exact H2_) | with_reducible exact H | (rw [hy171]; exact H) | exact H
            have Ny171 := Aside0.mk hy171
            clear hy171
            by_cases c26 : y171.length + t154.length < 140737488355328
            · rw [if_pos c26] at H
              have LMc26 := Aside0.mk c26
              clear c26
              obtain ⟨y174, hy174⟩ : ∃ y_ : List Int, y_ = (y171 ++ t154) := ⟨_, rfl⟩
              replace H : (if y174.length + l2.length < 140737488355328 then ((pack_IntOf.f kj5 (y174 ++ l2)).bind fun bt180 => (if t168 = a0 then (if t169 = (t151.length : Int) then (if t170 = 0 then (if bt180.1 = a1 then (if bt180.2.1 = (t154.length : Int) then (if bt180.2.2 = 0 then ((terrierlaw1_awake.f kj5).bind fun t183 => (some t183)) else (some false)) else (some false)) else (some false)) else (some false)) else (some false)) else (some false))) else (none)) = some r := by first | (rw [hy174]; with_reducible exact H) | (have H2_ := (Option.bind_some _ _).symm.trans H; rw [hy174]; with_reducible exact H2_) | (have H2_ := (Option.bind_some _ _).symm.trans H; with_reducible exact H2_) | with_reducible exact H | (rw [hy174]; exact H) | exact H
              have Ny174 := Aside0.mk hy174
              clear hy174
              by_cases c27 : y174.length + l2.length < 140737488355328
              · rw [if_pos c27] at H
                have LMc27 := Aside0.mk c27
                clear c27
                obtain ⟨y177, hy177⟩ : ∃ y_ : List Int, y_ = (y174 ++ l2) := ⟨_, rfl⟩
                replace H : ((pack_IntOf.f kj5 y177).bind fun bt180 => (if t168 = a0 then (if t169 = (t151.length : Int) then (if t170 = 0 then (if bt180.1 = a1 then (if bt180.2.1 = (t154.length : Int) then (if bt180.2.2 = 0 then ((terrierlaw1_awake.f kj5).bind fun t183 => (some t183)) else (some false)) else (some false)) else (some false)) else (some false)) else (some false)) else (some false))) = some r := by first | (rw [hy177]; with_reducible exact H) | (have H2_ := (Option.bind_some _ _).symm.trans H; rw [hy177]; with_reducible exact H2_) | (have H2_ := (Option.bind_some _ _).symm.trans H; with_reducible exact H2_) | with_reducible exact H | (rw [hy177]; exact H) | exact H
                have Ny177 := Aside0.mk hy177
                clear hy177
                replace H := Option.bind_eq_some_iff.mp H
                obtain ⟨⟨t180, t181, t182⟩, A280, H⟩ := H
                replace H : (if t168 = a0 then (if t169 = (t151.length : Int) then (if t170 = 0 then (if t180 = a1 then (if t181 = (t154.length : Int) then (if t182 = 0 then ((terrierlaw1_awake.f kj5).bind fun t183 => (some t183)) else (some false)) else (some false)) else (some false)) else (some false)) else (some false)) else (some false)) = some r := H
                have A28 := Aside0.mk A280
                clear A280
                by_cases c29 : t168 = a0
                · rw [if_pos c29] at H
                  have c29b0 : (t168 == a0) = true := beq_iff_eq.mpr c29
                  have c29b1 : (t168 != a0) = false := bne_eq_false_iff_eq.mpr c29
                  clear c29
                  by_cases c30 : t169 = (t151.length : Int)
                  · rw [if_pos c30] at H
                    have c30b0 : (t169 == (t151.length : Int)) = true := beq_iff_eq.mpr c30
                    have c30b1 : (t169 != (t151.length : Int)) = false := bne_eq_false_iff_eq.mpr c30
                    clear c30
                    by_cases c31 : t170 = 0
                    · rw [if_pos c31] at H
                      have c31b0 : (t170 == 0) = true := beq_iff_eq.mpr c31
                      have c31b1 : (t170 != 0) = false := bne_eq_false_iff_eq.mpr c31
                      clear c31
                      by_cases c32 : t180 = a1
                      · rw [if_pos c32] at H
                        have c32b0 : (t180 == a1) = true := beq_iff_eq.mpr c32
                        have c32b1 : (t180 != a1) = false := bne_eq_false_iff_eq.mpr c32
                        clear c32
                        by_cases c33 : t181 = (t154.length : Int)
                        · rw [if_pos c33] at H
                          have c33b0 : (t181 == (t154.length : Int)) = true := beq_iff_eq.mpr c33
                          have c33b1 : (t181 != (t154.length : Int)) = false := bne_eq_false_iff_eq.mpr c33
                          clear c33
                          by_cases c34 : t182 = 0
                          · rw [if_pos c34] at H
                            have c34b0 : (t182 == 0) = true := beq_iff_eq.mpr c34
                            have c34b1 : (t182 != 0) = false := bne_eq_false_iff_eq.mpr c34
                            clear c34
                            replace H := Option.bind_eq_some_iff.mp H
                            obtain ⟨t183, A350, H⟩ := H
                            replace H : (some t183) = some r := H
                            have A35 := Aside0.mk A350
                            clear A350
                            obtain rfl := Option.some.inj H
                            go_wp2_with (first | ((with_reducible refine gate_dst (N := 32) rfl ?_); (try (refine gate_guard (by rfl) ?_; dsimp only)); refine Kd.R_lit (Kd.int .u8) _ 5 ?hg (N := 32) ?hd (xs := ([] : List Int)) (inner := []) (ok := fun _ => True) (okp := fun _ => True) ?hr ?hp (fun _ hk => hk) trivial (Below.refl _ _) (Nat.le_refl _) (by simp) ?_; (case hd => rfl); (case hg => rfl); (case hr => first | (go_simp; done) | (go_simp; rfl) | (go_simp; simp [storeCells]; done) | (go_simp; simp [storeCells]; rfl)); (case hp => exact (Reps.none _ _)); intro v160 w36 ho37 hb hg_ hnew_; clear hg_ hnew_; (first | rw [← Ny159.out] at ho37 | (simp only [Int.reduceToNat] at ho37; rw [← Ny159.out] at ho37)); have n0_ := Aside0.mk (Kd.R_elder' (by (with_reducible repeat (first | apply Kd.R_alloc | apply Kd.R_drewN | apply Kd.R_drew)); exact HO_7.out) (Kd.R_base ho37) hb); have n1_ := Aside0.mk (Kd.R_elder' (by (with_reducible repeat (first | apply Kd.R_alloc | apply Kd.R_drewN | apply Kd.R_drew)); exact HO_8.out) (Kd.R_base ho37) hb); have n2_ := Aside0.mk (Kd.R_lower (Kd.R_new' (Kd.R_new' ho37 (Kd.R_lt (by (with_reducible repeat (first | apply Kd.R_alloc | apply Kd.R_drewN | apply Kd.R_drew)); exact HO_7.out))) (Kd.R_lt (by (with_reducible repeat (first | apply Kd.R_alloc | apply Kd.R_drewN | apply Kd.R_drew)); exact HO_8.out))) (below_size (by repeat (first | (with_reducible first | exact HB.out | apply below_alloc | apply pw_below_drewN | apply below_drew1) | exact HB.out)))); have n3_ := Aside0.mk (below_step (by repeat (first | (with_reducible first | exact HB.out | apply below_alloc | apply pw_below_drewN | apply below_drew1) | exact HB.out)) hb); clear HO_7; clear HO_8; clear HB; have HO_7 := n0_; have HO_8 := n1_; have HO161 := n2_; have HB := n3_; clear n0_ n1_ n2_ n3_; clear hb ho37) | ((with_reducible refine gate_builtin (b := .append) (xs := #[.tmp 32, .tmp 33]) rfl ?_); (try (refine gate_guard (by rfl) ?_; dsimp only)); at_builtin; refine Kd.R_append_rows (Kd.int .u8) (w0 := w) w.heap.size rfl (.tmp 32) (.tmp 33) 22 5 (.int .u8 0) 1 rfl Try.underlying22 info5 rfl (by decide) (by omega) v160 y159 t151 _ _ _ (fun k_ => some k_ ≠ (.slice A152_ t151.length d152_ : Value).ownBlock ∧ some k_ ≠ ((.slice A155_ t154.length d155_) : Value).ownBlock) (fun _ => False) rfl rfl ?aO ?aR (fun _ _ h => h) (fun _ h => h.elim) ?aF ?aB ?aS ?aL ?_; (case aR => repeat (first | exact (Kd.R_reads' HO_7.out).2.2 | (with_reducible refine Kd.C_alloc ?_ _) | (with_reducible refine Kd.C_drewN ?_ _) | (with_reducible refine Kd.C_drew ?_))); (case aB => exact (by repeat (first | (with_reducible first | exact HB.out | apply below_alloc | apply pw_below_drewN | apply below_drew1) | exact HB.out))); (case aF => exact (fun k_ hk => ⟨Kd.fresh' (Kd.R_lt (by (with_reducible repeat (first | apply Kd.R_alloc | apply Kd.R_drewN | apply Kd.R_drew)); exact HO_7.out)) k_ hk, Kd.fresh' (Kd.R_lt (by (with_reducible repeat (first | apply Kd.R_alloc | apply Kd.R_drewN | apply Kd.R_drew)); exact HO_8.out)) k_ hk⟩)); (case aO => exact (by (with_reducible repeat (first | apply Kd.R_alloc | apply Kd.R_drewN | apply Kd.R_drew)); exact Kd.R_mono HO161.out (fun _ hk => ⟨hk.1.2, hk.2⟩))); (case aS => exact (below_size (by repeat (first | (with_reducible first | exact HB.out | apply below_alloc | apply pw_below_drewN | apply below_drew1) | exact HB.out)))); (case aL => have := LMc23.out; omega); intro v163 w38 ho hb hg hat; rw [← Ny162.out] at ho; have n0_ := Aside0.mk (Kd.R_after (ok := (fun k_ => some k_ ≠ ((.slice A155_ t154.length d155_) : Value).ownBlock)) (by (with_reducible repeat (first | apply Kd.R_alloc | apply Kd.R_drewN | apply Kd.R_drew)); exact HO_7.out) hg hat); have n1_ := Aside0.mk (Kd.R_after (ok := (fun k_ => some k_ ≠ (.slice A152_ t151.length d152_ : Value).ownBlock)) (by (with_reducible repeat (first | apply Kd.R_alloc | apply Kd.R_drewN | apply Kd.R_drew)); exact HO_8.out) hg hat); have n2_ := Aside0.mk (hb); have n3_ := Aside0.mk (ho); clear HO_7; clear HO_8; clear HB; clear HO161; have HO_7 := n0_; have HO_8 := n1_; have HB := n2_; have HO164 := n3_; clear n0_ n1_ n2_ n3_; clear ho hb hg hat) | ((with_reducible refine gate_builtin (b := .append) (xs := #[.tmp 34, .tmp 35]) rfl ?_); (try (refine gate_guard (by rfl) ?_; dsimp only)); at_builtin; refine Kd.R_append_rows (Kd.int .u8) (w0 := w) w.heap.size rfl (.tmp 34) (.tmp 35) 22 5 (.int .u8 0) 1 rfl Try.underlying22 info5 rfl (by decide) (by omega) v163 y162 l2 _ _ _ (fun k_ => some k_ ≠ (.slice A152_ t151.length d152_ : Value).ownBlock ∧ some k_ ≠ ((.slice A155_ t154.length d155_) : Value).ownBlock) (fun _ => False) rfl rfl ?aO ?aR (fun _ _ h => h) (fun _ h => h.elim) ?aF ?aB ?aS ?aL ?_; (case aR => repeat (first | exact (Kd.C_below HR2.out HB.out) | (with_reducible refine Kd.C_alloc ?_ _) | (with_reducible refine Kd.C_drewN ?_ _) | (with_reducible refine Kd.C_drew ?_))); (case aB => exact (by repeat (first | (with_reducible first | exact HB.out | apply below_alloc | apply pw_below_drewN | apply below_drew1) | exact HB.out))); (case aF => exact (fun k_ hk => ⟨Kd.fresh' (Kd.R_lt (by (with_reducible repeat (first | apply Kd.R_alloc | apply Kd.R_drewN | apply Kd.R_drew)); exact HO_7.out)) k_ hk, Kd.fresh' (Kd.R_lt (by (with_reducible repeat (first | apply Kd.R_alloc | apply Kd.R_drewN | apply Kd.R_drew)); exact HO_8.out)) k_ hk⟩)); (case aO => exact (by (with_reducible repeat (first | apply Kd.R_alloc | apply Kd.R_drewN | apply Kd.R_drew)); exact HO164.out)); (case aS => exact (below_size (by repeat (first | (with_reducible first | exact HB.out | apply below_alloc | apply pw_below_drewN | apply below_drew1) | exact HB.out)))); (case aL => have := LMc24.out; omega); intro v166 w40 ho hb hg hat; rw [← Ny165.out] at ho; have n0_ := Aside0.mk (Kd.R_after (ok := (fun k_ => some k_ ≠ ((.slice A155_ t154.length d155_) : Value).ownBlock)) (by (with_reducible repeat (first | apply Kd.R_alloc | apply Kd.R_drewN | apply Kd.R_drew)); exact HO_7.out) hg hat); have n1_ := Aside0.mk (Kd.R_after (ok := (fun k_ => some k_ ≠ (.slice A152_ t151.length d152_ : Value).ownBlock)) (by (with_reducible repeat (first | apply Kd.R_alloc | apply Kd.R_drewN | apply Kd.R_drew)); exact HO_8.out) hg hat); have n2_ := Aside0.mk (hb); have n3_ := Aside0.mk (ho); clear HO_7; clear HO_8; clear HB; clear HO164; have HO_7 := n0_; have HO_8 := n1_; have HB := n2_; have HO167 := n3_; clear n0_ n1_ n2_ n3_; clear ho hb hg hat; obtain ⟨Ao41, co41, eo41⟩ := Kd.R_slice HO167.out; subst eo41) | ((with_reducible refine gate_callee (f := 17) rfl ?_); refine goesL_ (some 37) rfl rfl Try.func17 (by kernel_rfl) rfl #[.slice Ao41 y165.length co41] rfl (by (try simp only [List.map_toArray, List.map_cons, List.map_nil]); first | done | rfl | (simp only [List.length_drop, List.length_take]; rfl)) ?_; (with_reducible refine (pack_Var.calls kj5 _ _ y165 t168 t169 t170 _ ?side1 ?side2 A25.out).mono ?_); (case side1 => repeat (first | exact (Kd.R_reads' HO167.out).2.2 | (with_reducible refine Kd.C_alloc ?_ _) | (with_reducible refine Kd.C_drewN ?_ _) | (with_reducible refine Kd.C_drew ?_))); (case side2 => exact (Kd.R_reads' HO167.out).2.1); rintro e w' ⟨rfl, ⟨nd, rfl⟩⟩; refine ⟨_, rfl, ?_⟩) | ((with_reducible refine gate_dst (N := 42) rfl ?_); (try (refine gate_guard (by rfl) ?_; dsimp only)); refine Kd.R_lit (Kd.int .u8) _ 5 ?hg (N := 42) ?hd (xs := ([] : List Int)) (inner := []) (ok := fun _ => True) (okp := fun _ => True) ?hr ?hp (fun _ hk => hk) trivial (Below.refl _ _) (Nat.le_refl _) (by simp) ?_; (case hd => rfl); (case hg => rfl); (case hr => first | (go_simp; done) | (go_simp; rfl) | (go_simp; simp [storeCells]; done) | (go_simp; simp [storeCells]; rfl)); (case hp => exact (Reps.none _ _)); intro v172 w42 ho43 hb hg_ hnew_; clear hg_ hnew_; (first | rw [← Ny171.out] at ho43 | (simp only [Int.reduceToNat] at ho43; rw [← Ny171.out] at ho43)); have n0_ := Aside0.mk (Kd.R_elder' (by (with_reducible repeat (first | apply Kd.R_alloc | apply Kd.R_drewN | apply Kd.R_drew)); exact HO_7.out) (Kd.R_base ho43) hb); have n1_ := Aside0.mk (Kd.R_elder' (by (with_reducible repeat (first | apply Kd.R_alloc | apply Kd.R_drewN | apply Kd.R_drew)); exact HO_8.out) (Kd.R_base ho43) hb); have n2_ := Aside0.mk (Kd.R_elder' (by (with_reducible repeat (first | apply Kd.R_alloc | apply Kd.R_drewN | apply Kd.R_drew)); exact HO167.out) (Kd.R_base ho43) hb); have n3_ := Aside0.mk (Kd.R_lower (Kd.R_new' (Kd.R_new' (Kd.R_new' ho43 (Kd.R_lt (by (with_reducible repeat (first | apply Kd.R_alloc | apply Kd.R_drewN | apply Kd.R_drew)); exact HO_7.out))) (Kd.R_lt (by (with_reducible repeat (first | apply Kd.R_alloc | apply Kd.R_drewN | apply Kd.R_drew)); exact HO_8.out))) (Kd.R_lt (by (with_reducible repeat (first | apply Kd.R_alloc | apply Kd.R_drewN | apply Kd.R_drew)); exact HO167.out))) (below_size (by repeat (first | (with_reducible first | exact HB.out | apply below_alloc | apply pw_below_drewN | apply below_drew1) | exact HB.out)))); have n4_ := Aside0.mk (below_step (by repeat (first | (with_reducible first | exact HB.out | apply below_alloc | apply pw_below_drewN | apply below_drew1) | exact HB.out)) hb); clear HO_7; clear HO_8; clear HO167; clear HB; have HO_7 := n0_; have HO_8 := n1_; have HO167 := n2_; have HO173 := n3_; have HB := n4_; clear n0_ n1_ n2_ n3_ n4_; clear hb ho43) | ((with_reducible refine gate_builtin (b := .append) (xs := #[.tmp 42, .tmp 43]) rfl ?_); (try (refine gate_guard (by rfl) ?_; dsimp only)); at_builtin; refine Kd.R_append_rows (Kd.int .u8) (w0 := w) w.heap.size rfl (.tmp 42) (.tmp 43) 22 5 (.int .u8 0) 1 rfl Try.underlying22 info5 rfl (by decide) (by omega) v172 y171 t154 _ _ _ (fun k_ => some k_ ≠ (.slice A152_ t151.length d152_ : Value).ownBlock ∧ some k_ ≠ (.slice A155_ t154.length d155_ : Value).ownBlock ∧ some k_ ≠ (.slice Ao41 y165.length co41 : Value).ownBlock) (fun _ => False) rfl rfl ?aO ?aR (fun _ _ h => h) (fun _ h => h.elim) ?aF ?aB ?aS ?aL ?_; (case aR => repeat (first | exact (Kd.R_reads' HO_8.out).2.2 | (with_reducible refine Kd.C_alloc ?_ _) | (with_reducible refine Kd.C_drewN ?_ _) | (with_reducible refine Kd.C_drew ?_))); (case aB => exact (by repeat (first | (with_reducible first | exact HB.out | apply below_alloc | apply pw_below_drewN | apply below_drew1) | exact HB.out))); (case aF => exact (fun k_ hk => ⟨Kd.fresh' (Kd.R_lt (by (with_reducible repeat (first | apply Kd.R_alloc | apply Kd.R_drewN | apply Kd.R_drew)); exact HO_7.out)) k_ hk, Kd.fresh' (Kd.R_lt (by (with_reducible repeat (first | apply Kd.R_alloc | apply Kd.R_drewN | apply Kd.R_drew)); exact HO_8.out)) k_ hk, Kd.fresh' (Kd.R_lt (by (with_reducible repeat (first | apply Kd.R_alloc | apply Kd.R_drewN | apply Kd.R_drew)); exact HO167.out)) k_ hk⟩)); (case aO => exact (by (with_reducible repeat (first | apply Kd.R_alloc | apply Kd.R_drewN | apply Kd.R_drew)); exact Kd.R_mono HO173.out (fun _ hk => ⟨hk.1.1.2, ⟨hk.1.2, hk.2⟩⟩))); (case aS => exact (below_size (by repeat (first | (with_reducible first | exact HB.out | apply below_alloc | apply pw_below_drewN | apply below_drew1) | exact HB.out)))); (case aL => have := LMc26.out; omega); intro v175 w44 ho hb hg hat; rw [← Ny174.out] at ho; have n0_ := Aside0.mk (Kd.R_after (ok := (fun k_ => some k_ ≠ (.slice A155_ t154.length d155_ : Value).ownBlock ∧ some k_ ≠ (.slice Ao41 y165.length co41 : Value).ownBlock)) (by (with_reducible repeat (first | apply Kd.R_alloc | apply Kd.R_drewN | apply Kd.R_drew)); exact HO_7.out) hg hat); have n1_ := Aside0.mk (Kd.R_after (ok := (fun k_ => some k_ ≠ (.slice A152_ t151.length d152_ : Value).ownBlock ∧ some k_ ≠ (.slice Ao41 y165.length co41 : Value).ownBlock)) (by (with_reducible repeat (first | apply Kd.R_alloc | apply Kd.R_drewN | apply Kd.R_drew)); exact HO_8.out) hg hat); have n2_ := Aside0.mk (Kd.R_after (ok := (fun k_ => some k_ ≠ (.slice A152_ t151.length d152_ : Value).ownBlock ∧ some k_ ≠ (.slice A155_ t154.length d155_ : Value).ownBlock)) (by (with_reducible repeat (first | apply Kd.R_alloc | apply Kd.R_drewN | apply Kd.R_drew)); exact HO167.out) hg hat); have n3_ := Aside0.mk (hb); have n4_ := Aside0.mk (ho); clear HO_7; clear HO_8; clear HO167; clear HB; clear HO173; have HO_7 := n0_; have HO_8 := n1_; have HO167 := n2_; have HB := n3_; have HO176 := n4_; clear n0_ n1_ n2_ n3_ n4_; clear ho hb hg hat) | ((with_reducible refine gate_builtin (b := .append) (xs := #[.tmp 44, .tmp 45]) rfl ?_); (try (refine gate_guard (by rfl) ?_; dsimp only)); at_builtin; refine Kd.R_append_rows (Kd.int .u8) (w0 := w) w.heap.size rfl (.tmp 44) (.tmp 45) 22 5 (.int .u8 0) 1 rfl Try.underlying22 info5 rfl (by decide) (by omega) v175 y174 l2 _ _ _ (fun k_ => some k_ ≠ (.slice A152_ t151.length d152_ : Value).ownBlock ∧ some k_ ≠ (.slice A155_ t154.length d155_ : Value).ownBlock ∧ some k_ ≠ (.slice Ao41 y165.length co41 : Value).ownBlock) (fun _ => False) rfl rfl ?aO ?aR (fun _ _ h => h) (fun _ h => h.elim) ?aF ?aB ?aS ?aL ?_; (case aR => repeat (first | exact (Kd.C_below HR2.out HB.out) | (with_reducible refine Kd.C_alloc ?_ _) | (with_reducible refine Kd.C_drewN ?_ _) | (with_reducible refine Kd.C_drew ?_))); (case aB => exact (by repeat (first | (with_reducible first | exact HB.out | apply below_alloc | apply pw_below_drewN | apply below_drew1) | exact HB.out))); (case aF => exact (fun k_ hk => ⟨Kd.fresh' (Kd.R_lt (by (with_reducible repeat (first | apply Kd.R_alloc | apply Kd.R_drewN | apply Kd.R_drew)); exact HO_7.out)) k_ hk, Kd.fresh' (Kd.R_lt (by (with_reducible repeat (first | apply Kd.R_alloc | apply Kd.R_drewN | apply Kd.R_drew)); exact HO_8.out)) k_ hk, Kd.fresh' (Kd.R_lt (by (with_reducible repeat (first | apply Kd.R_alloc | apply Kd.R_drewN | apply Kd.R_drew)); exact HO167.out)) k_ hk⟩)); (case aO => exact (by (with_reducible repeat (first | apply Kd.R_alloc | apply Kd.R_drewN | apply Kd.R_drew)); exact HO176.out)); (case aS => exact (below_size (by repeat (first | (with_reducible first | exact HB.out | apply below_alloc | apply pw_below_drewN | apply below_drew1) | exact HB.out)))); (case aL => have := LMc27.out; omega); intro v178 w46 ho hb hg hat; rw [← Ny177.out] at ho; have n0_ := Aside0.mk (Kd.R_after (ok := (fun k_ => some k_ ≠ (.slice A155_ t154.length d155_ : Value).ownBlock ∧ some k_ ≠ (.slice Ao41 y165.length co41 : Value).ownBlock)) (by (with_reducible repeat (first | apply Kd.R_alloc | apply Kd.R_drewN | apply Kd.R_drew)); exact HO_7.out) hg hat); have n1_ := Aside0.mk (Kd.R_after (ok := (fun k_ => some k_ ≠ (.slice A152_ t151.length d152_ : Value).ownBlock ∧ some k_ ≠ (.slice Ao41 y165.length co41 : Value).ownBlock)) (by (with_reducible repeat (first | apply Kd.R_alloc | apply Kd.R_drewN | apply Kd.R_drew)); exact HO_8.out) hg hat); have n2_ := Aside0.mk (Kd.R_after (ok := (fun k_ => some k_ ≠ (.slice A152_ t151.length d152_ : Value).ownBlock ∧ some k_ ≠ (.slice A155_ t154.length d155_ : Value).ownBlock)) (by (with_reducible repeat (first | apply Kd.R_alloc | apply Kd.R_drewN | apply Kd.R_drew)); exact HO167.out) hg hat); have n3_ := Aside0.mk (hb); have n4_ := Aside0.mk (ho); clear HO_7; clear HO_8; clear HO167; clear HB; clear HO176; have HO_7 := n0_; have HO_8 := n1_; have HO167 := n2_; have HB := n3_; have HO179 := n4_; clear n0_ n1_ n2_ n3_ n4_; clear ho hb hg hat; obtain ⟨Ao47, co47, eo47⟩ := Kd.R_slice HO179.out; subst eo47) | ((with_reducible refine gate_callee (f := 14) rfl ?_); refine goesL_ (some 47) rfl rfl Try.func14 (by kernel_rfl) rfl #[.slice Ao47 y177.length co47] rfl (by (try simp only [List.map_toArray, List.map_cons, List.map_nil]); first | done | rfl | (simp only [List.length_drop, List.length_take]; rfl)) ?_; (with_reducible refine (pack_IntOf.calls kj5 _ _ y177 t180 t181 t182 _ ?side1 ?side2 A28.out).mono ?_); (case side1 => repeat (first | exact (Kd.R_reads' HO179.out).2.2 | (with_reducible refine Kd.C_alloc ?_ _) | (with_reducible refine Kd.C_drewN ?_ _) | (with_reducible refine Kd.C_drew ?_))); (case side2 => exact (Kd.R_reads' HO179.out).2.1); rintro e w' ⟨rfl, ⟨nd, rfl⟩⟩; refine ⟨_, rfl, ?_⟩) | (go_at_call 11; (with_reducible refine (terrierlaw1_awake.calls kj5  t183 _ A35.out).mono ?_); rintro e w48 ⟨rfl, hb⟩; have n0_ := Aside0.mk (Kd.R_below (by (with_reducible repeat (first | apply Kd.R_alloc | apply Kd.R_drewN | apply Kd.R_drew)); exact HO_7.out) hb); have n1_ := Aside0.mk (Kd.R_below (by (with_reducible repeat (first | apply Kd.R_alloc | apply Kd.R_drewN | apply Kd.R_drew)); exact HO_8.out) hb); have n2_ := Aside0.mk (Kd.R_below (by (with_reducible repeat (first | apply Kd.R_alloc | apply Kd.R_drewN | apply Kd.R_drew)); exact HO167.out) hb); have n3_ := Aside0.mk (Kd.R_below (by (with_reducible repeat (first | apply Kd.R_alloc | apply Kd.R_drewN | apply Kd.R_drew)); exact HO179.out) hb); have n4_ := Aside0.mk (below_step (by repeat (first | (with_reducible first | exact HB.out | apply below_alloc | apply pw_below_drewN | apply below_drew1) | exact HB.out)) hb); clear HO_7; clear HO_8; clear HO167; clear HO179; clear HB; have HO_7 := n0_; have HO_8 := n1_; have HO167 := n2_; have HO179 := n3_; have HB := n4_; clear n0_ n1_ n2_ n3_ n4_; (try clear hb); (try clear hb2); (try clear hk); (try clear hi)))
                            go_ret
                            exact ⟨by first | rfl | (simp [errW_none, errW_some] <;> rfl) | (simp [*, errW_none, errW_some] <;> rfl), by repeat (first | (with_reducible first | exact HB.out | apply below_alloc | apply pw_below_drewN | apply below_drew1) | exact HB.out)⟩
                          · rw [if_neg c34] at H
                            have c34b0 : (t182 == 0) = false := beq_eq_false_iff_ne.mpr c34
                            have c34b1 : (t182 != 0) = true := bne_iff_ne.mpr c34
                            exact absurd (Option.some.inj (H.trans (congrArg some HR.out))) (by decide)
                        · rw [if_neg c33] at H
                          have c33b0 : (t181 == (t154.length : Int)) = false := beq_eq_false_iff_ne.mpr c33
                          have c33b1 : (t181 != (t154.length : Int)) = true := bne_iff_ne.mpr c33
                          exact absurd (Option.some.inj (H.trans (congrArg some HR.out))) (by decide)
                      · rw [if_neg c32] at H
                        have c32b0 : (t180 == a1) = false := beq_eq_false_iff_ne.mpr c32
                        have c32b1 : (t180 != a1) = true := bne_iff_ne.mpr c32
                        exact absurd (Option.some.inj (H.trans (congrArg some HR.out))) (by decide)
                    · rw [if_neg c31] at H
                      have c31b0 : (t170 == 0) = false := beq_eq_false_iff_ne.mpr c31
                      have c31b1 : (t170 != 0) = true := bne_iff_ne.mpr c31
                      exact absurd (Option.some.inj (H.trans (congrArg some HR.out))) (by decide)
                  · rw [if_neg c30] at H
                    have c30b0 : (t169 == (t151.length : Int)) = false := beq_eq_false_iff_ne.mpr c30
                    have c30b1 : (t169 != (t151.length : Int)) = true := bne_iff_ne.mpr c30
                    exact absurd (Option.some.inj (H.trans (congrArg some HR.out))) (by decide)
                · rw [if_neg c29] at H
                  have c29b0 : (t168 == a0) = false := beq_eq_false_iff_ne.mpr c29
                  have c29b1 : (t168 != a0) = true := bne_iff_ne.mpr c29
                  exact absurd (Option.some.inj (H.trans (congrArg some HR.out))) (by decide)
              · rw [if_neg c27] at H
                exact absurd H (by simp)
            · rw [if_neg c26] at H
              exact absurd H (by simp)
          · rw [if_neg c24] at H
            exact absurd H (by simp)
        · rw [if_neg c23] at H
          exact absurd H (by simp)

/-- THE ONE PURE STATEMENT of terrierlaw1_PackNumbers: yours. -/
def terrierlaw1_PackNumbers.Pure : Prop := ∀ (a0 : Int) (a1 : Int) (l2 : List Int), (Lit.int .u64 a0).wf = true → (Lit.int .i64 a1).wf = true → l2.length ≤ maxLen → l2.length * 1 ≤ 140737488351232 → (∀ x ∈ l2, (Lit.int .u8 x).wf = true) → ∃ k, terrierlaw1_PackNumbers.f k a0 a1 l2 = some true
theorem terrierlaw1_PackNumbers.walk (P : terrierlaw1_PackNumbers.Pure) (a0 : Int) (a1 : Int) (a2 : Option Addr) (len2 cap2 : Nat) (z2 : List Int) (w : World) (w0 : (Lit.int .u64 a0).wf = true) (w1 : (Lit.int .i64 a1).wf = true) (w2 : (a2 = none ∧ len2 = 0 ∧ cap2 = 0 ∧ z2 = []) ∨ ∃ x, a2 = some x ∧ len2 ≤ cap2 ∧ cap2 ≤ maxLen ∧ z2.length = cap2 ∧ (∀ i, i < z2.length → w.cell? (x.add i) = some (.int .u8 (z2.getD i 0))) ∧ ∀ n ∈ z2, (Lit.int .u8 n).wf = true) (y2 : len2 * 1 ≤ 140737488351232) :
    Calls Try.prog 6 #[.int .u64 a0, .int .i64 a1, .slice a2 len2 cap2] w fun e w' => e = .returned (.bool true) ∧ Below w.heap.size w w' := by
  obtain ⟨l2, rfl, hr2, hm2, hw2, hc2⟩ := ReadsInt.ofRowC w2
  obtain ⟨k, h⟩ := P a0 a1 l2 w0 w1 hm2 y2 hw2
  refine (terrierlaw1_PackNumbers.calls k a0 a1 _ _ l2 true rfl w (Kd.C_of_reads (d := (0 : Int)) (h1 := fun _ => rfl) hr2) hc2 h).mono ?_
  rintro e w' ⟨rfl, hd⟩
  exact ⟨rfl, hd⟩
end Go.Proofs.Ytgjgandkcmjbnaa.PB
