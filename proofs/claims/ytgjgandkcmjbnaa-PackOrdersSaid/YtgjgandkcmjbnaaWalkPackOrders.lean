/- Proved: the law's function PackOrders tells true wherever its printed form does, by its walk. -/
import Derived.Test.YtgjgandkcmjbnaaB3
namespace Go.Proofs.Ytgjgandkcmjbnaa.PB
open Go.RowKit Go.Proofs.YtgjgandkcmjbnaaW.PrintWords Go.Proofs.YtgjgandkcmjbnaaW.PrintLast Go.Proofs.YtgjgandkcmjbnaaW.PrintMore
attribute [local go_sem] max2_int min2_int max_two min_two max_three min_three max_four min_four   -- for this text's walks alone
set_option linter.unusedVariables false
set_option linter.unusedSimpArgs false

/-! ### terrierlaw1_PackOrders: function 4 -/
def terrierlaw1_PackOrders.l0 : Nat → Int → Int → Int → Int → Option (Bool)
  | 0, _, _, _, _ => none
  | k + 1, x0, x1, x5, x6 => if x6 ≥ 128 then (terrierlaw1_PackOrders.l0 k x0 x1 (wrap64 (x5 + 1)) (x6 / 128)) else ((pack_Uvar.f k x0).bind fun t140 => ((pack_Uvar.f k x1).bind fun t143 => (if (t140.length : Int) = x5 then (if (((strOfNums t140).toList == (strOfNums t143).toList) == (x0 == x1)) = true then ((terrierlaw1_awake.f k).bind fun t146 => (some t146)) else (some false)) else (some false))))
def terrierlaw1_PackOrders.f (k : Nat) (a0 : Int) (a1 : Int) : Option (Bool) := terrierlaw1_PackOrders.l0 k a0 a1 1 a0
theorem terrierlaw1_PackOrders.mono_l : ∀ k, (∀ y0 y1 y2 y3, LeO (terrierlaw1_PackOrders.l0 k y0 y1 y2 y3) (terrierlaw1_PackOrders.l0 (k + 1) y0 y1 y2 y3))
  | 0 => fun _ _ _ _ r h => by simp [terrierlaw1_PackOrders.l0] at h
  | k + 1 => by
    have ih0 := terrierlaw1_PackOrders.mono_l k
    · intro y0 y1 y2 y3
      unfold terrierlaw1_PackOrders.l0
      repeat' first
      | (with_reducible exact ih0 _ _ _ _)
      | (with_reducible exact pack_Uvar.mono _ _)
      | (with_reducible exact terrierlaw1_awake.mono _)
      | (with_reducible exact LeO.refl _)
      | (with_reducible exact LeO.none _)
      | (with_reducible refine LeO.ite ?_ ?_)
      | (with_reducible refine LeO.bind ?_ (fun _ => ?_))
      | exact ih0 _ _ _ _
      | exact pack_Uvar.mono _ _
      | exact terrierlaw1_awake.mono _
      | exact LeO.none _
      | refine LeO.ite ?_ ?_
      | refine LeO.bind ?_ (fun _ => ?_)
theorem terrierlaw1_PackOrders.mono : ∀ a0 a1 k, LeO (terrierlaw1_PackOrders.f k a0 a1) (terrierlaw1_PackOrders.f (k + 1) a0 a1) := by
  intro a0 a1 k
  have ih0 := terrierlaw1_PackOrders.mono_l k
  unfold terrierlaw1_PackOrders.f
  repeat' first
      | (with_reducible exact ih0 _ _ _ _)
      | (with_reducible exact pack_Uvar.mono _ _)
      | (with_reducible exact terrierlaw1_awake.mono _)
      | (with_reducible exact LeO.refl _)
      | (with_reducible exact LeO.none _)
      | (with_reducible refine LeO.ite ?_ ?_)
      | (with_reducible refine LeO.bind ?_ (fun _ => ?_))
      | exact ih0 _ _ _ _
      | exact pack_Uvar.mono _ _
      | exact terrierlaw1_awake.mono _
      | exact LeO.none _
      | refine LeO.ite ?_ ?_
      | refine LeO.bind ?_ (fun _ => ?_)
set_option maxHeartbeats 8000000 in
set_option maxRecDepth 100000 in
theorem terrierlaw1_PackOrders.calls (k : Nat) (a0 : Int) (a1 : Int) (r : Bool) (hr : r = true) (w : World) (h : terrierlaw1_PackOrders.f k a0 a1 = some r) :
    Calls Try.prog 4 #[.int .u64 a0, .int .u64 a1] w fun e w' => e = .returned (.bool r) ∧ Below w.heap.size w w' := by
  have HB := Aside0.mk (Below.refl w.heap.size w)
  have HR := Aside0.mk hr
  clear hr
  have H : (terrierlaw1_PackOrders.l0 k a0 a1 1 a0) = some r := h
  clear h
  have H' := Aside0.mk H
  clear H
  go_enter Try.func4, Try.ntmps4
  go_wp2
  go_loopg [5, 6] k (fun kq v5 v6 w' => ∃ (x5_1 : Int) (x6_1 : Int), v5 = .int .i64 x5_1 ∧ v6 = .int .u64 x6_1 ∧ Aside0 (terrierlaw1_PackOrders.l0 kq a0 a1 x5_1 x6_1 = some r) ∧ Aside0 (kq ≤ k) ∧ Aside0 (Below w.heap.size w w'))
  case atStart => exact ⟨(1), (a0), (by first | rfl | (simp; done) | (simp [*]; done)), (by first | rfl | (simp; done) | (simp [*]; done)), H', ⟨Nat.le_refl _⟩, ⟨by repeat (first | (with_reducible first | exact HB.out | apply below_alloc | apply pw_below_drewN | apply below_drew1) | exact HB.out)⟩⟩
  case round =>
    clear H'
    try clear p2
    obtain ⟨x5_1, x6_1, rfl, rfl, HA, HK1, HB⟩ := hrel
    cases gk with
    | zero => exact absurd HA.out (by simp [terrierlaw1_PackOrders.l0])
    | succ k1 =>
      have H := HA.out
      clear HA
      simp only [terrierlaw1_PackOrders.l0] at H
      by_cases c3 : x6_1 ≥ 128
      · rw [if_pos c3] at H
        have c3b0 : decide (128 ≤ x6_1) = true := decide_eq_true c3
        clear c3
        have H' := Aside0.mk H
        clear H
        go_wp2
        go_roundg k1
        case measure => have := HK1.out; omega
        case rel => exact ⟨(wrap64 (x5_1 + 1)), (x6_1 / 128), (by first | rfl | (simp; done) | (simp [*]; done)), (by first | rfl | (simp; done) | (simp [*]; done)), H', ⟨by have := HK1.out; omega⟩, ⟨by repeat (first | (with_reducible first | exact HB.out | apply below_alloc | apply pw_below_drewN | apply below_drew1) | exact HB.out)⟩⟩
      · rw [if_neg c3] at H
        have c3b0 : decide (128 ≤ x6_1) = false := decide_eq_false c3
        clear c3
        replace H := Option.bind_eq_some_iff.mp H
        obtain ⟨t140, A40, H⟩ := H
        replace H : ((pack_Uvar.f k1 a1).bind fun t143 => (if (t140.length : Int) = x5_1 then (if (((strOfNums t140).toList == (strOfNums t143).toList) == (a0 == a1)) = true then ((terrierlaw1_awake.f k1).bind fun t146 => (some t146)) else (some false)) else (some false))) = some r := H
        have A4 := Aside0.mk A40
        clear A40
        replace H := Option.bind_eq_some_iff.mp H
        obtain ⟨t143, A50, H⟩ := H
        replace H : (if (t140.length : Int) = x5_1 then (if (((strOfNums t140).toList == (strOfNums t143).toList) == (a0 == a1)) = true then ((terrierlaw1_awake.f k1).bind fun t146 => (some t146)) else (some false)) else (some false)) = some r := H
        have A5 := Aside0.mk A50
        clear A50
        by_cases c6 : (t140.length : Int) = x5_1
        · rw [if_pos c6] at H
          have c6b0 : ((t140.length : Int) == x5_1) = true := beq_iff_eq.mpr c6
          have c6b1 : ((t140.length : Int) != x5_1) = false := bne_eq_false_iff_eq.mpr c6
          clear c6
          by_cases c7 : (((strOfNums t140).toList == (strOfNums t143).toList) == (a0 == a1)) = true
          · rw [if_pos c7] at H
            have c7b0 : (((strOfNums t140).toList == (strOfNums t143).toList) == (a0 == a1)) = true := c7
            (try (have c7b1 : decide (((strOfNums t140).toList == (strOfNums t143).toList) = (a0 == a1)) = true := by simpa using c7))
            (try (have c7b2 : (((strOfNums t140).toList == (strOfNums t143).toList) == (a0 == a1)) = true := by simpa using c7))
            clear c7
            replace H := Option.bind_eq_some_iff.mp H
            obtain ⟨t146, A80, H⟩ := H
            replace H : (some t146) = some r := H
            have A8 := Aside0.mk A80
            clear A80
            obtain rfl := Option.some.inj H
            go_wp2_with (first | ((with_reducible refine gate_callee (f := 12) rfl ?_); refine goesL_ (some 17) rfl rfl Try.func12 (by kernel_rfl) rfl #[.int .u64 a0] rfl (by (try simp only [List.map_toArray, List.map_cons, List.map_nil]); first | done | rfl | (simp only [List.length_drop, List.length_take]; rfl)) ?_; (with_reducible refine (pack_Uvar.calls k1 a0 t140 _ A4.out).mono ?_); rintro e w9 ⟨_, u141, rfl, ⟨A141_, n141_, c141_, d141_, rfl, rfl, hc141_, hd141_⟩, ho0, hb⟩; obtain rfl : n141_ = t140.length := cap_len ho0; refine ⟨_, rfl, ?_⟩; have n0_ := Aside0.mk (Kd.R_lower ho0 (below_size (by repeat (first | (with_reducible first | exact HB.out | apply below_alloc | apply pw_below_drewN | apply below_drew1) | exact HB.out)))); have n1_ := Aside0.mk (below_step (by repeat (first | (with_reducible first | exact HB.out | apply below_alloc | apply pw_below_drewN | apply below_drew1) | exact HB.out)) hb); clear HB; have HO142 := n0_; have HB := n1_; clear n0_ n1_; (try clear hb); (try clear hb2); (try clear hk); (try clear hi); (try clear ho0)) | ((with_reducible refine gate_callee (f := 12) rfl ?_); refine goesL_ (some 19) rfl rfl Try.func12 (by kernel_rfl) rfl #[.int .u64 a1] rfl (by (try simp only [List.map_toArray, List.map_cons, List.map_nil]); first | done | rfl | (simp only [List.length_drop, List.length_take]; rfl)) ?_; (with_reducible refine (pack_Uvar.calls k1 a1 t143 _ A5.out).mono ?_); rintro e w10 ⟨_, u144, rfl, ⟨A144_, n144_, c144_, d144_, rfl, rfl, hc144_, hd144_⟩, ho0, hb⟩; obtain rfl : n144_ = t143.length := cap_len ho0; refine ⟨_, rfl, ?_⟩; have n0_ := Aside0.mk (Kd.R_elder' (by (with_reducible repeat (first | apply Kd.R_alloc | apply Kd.R_drewN | apply Kd.R_drew)); exact HO142.out) (Kd.R_base ho0) hb); have n1_ := Aside0.mk (Kd.R_lower (Kd.R_new' ho0 (Kd.R_lt (by (with_reducible repeat (first | apply Kd.R_alloc | apply Kd.R_drewN | apply Kd.R_drew)); exact HO142.out))) (below_size (by repeat (first | (with_reducible first | exact HB.out | apply below_alloc | apply pw_below_drewN | apply below_drew1) | exact HB.out)))); have n2_ := Aside0.mk (below_step (by repeat (first | (with_reducible first | exact HB.out | apply below_alloc | apply pw_below_drewN | apply below_drew1) | exact HB.out)) hb); clear HO142; clear HB; have HO142 := n0_; have HO145 := n1_; have HB := n2_; clear n0_ n1_ n2_; (try clear hb); (try clear hb2); (try clear hk); (try clear hi); (try clear ho0); have hcv12 := cap_string (P := Try.prog) (c := c141_) Try.underlying22 Try.underlying5 Try.underlying9 (Kd.own_of_R HO142.out); have hcv13 := cap_string (P := Try.prog) (c := c144_) Try.underlying22 Try.underlying5 Try.underlying9 (Kd.own_of_R HO145.out)) | (go_at_call 11; (with_reducible refine (terrierlaw1_awake.calls k1  t146 _ A8.out).mono ?_); rintro e w14 ⟨rfl, hb⟩; have n0_ := Aside0.mk (Kd.R_below (by (with_reducible repeat (first | apply Kd.R_alloc | apply Kd.R_drewN | apply Kd.R_drew)); exact HO142.out) hb); have n1_ := Aside0.mk (Kd.R_below (by (with_reducible repeat (first | apply Kd.R_alloc | apply Kd.R_drewN | apply Kd.R_drew)); exact HO145.out) hb); have n2_ := Aside0.mk (below_step (by repeat (first | (with_reducible first | exact HB.out | apply below_alloc | apply pw_below_drewN | apply below_drew1) | exact HB.out)) hb); clear HO142; clear HO145; clear HB; have HO142 := n0_; have HO145 := n1_; have HB := n2_; clear n0_ n1_ n2_; (try clear hb); (try clear hb2); (try clear hk); (try clear hi)))
            go_ret
            exact ⟨by first | rfl | (simp [errW_none, errW_some] <;> rfl) | (simp [*, errW_none, errW_some] <;> rfl), by repeat (first | (with_reducible first | exact HB.out | apply below_alloc | apply pw_below_drewN | apply below_drew1) | exact HB.out)⟩
          · rw [if_neg c7] at H
            have c7b0 : (((strOfNums t140).toList == (strOfNums t143).toList) == (a0 == a1)) = false := by simpa using c7
            (try (have c7b1 : decide (((strOfNums t140).toList == (strOfNums t143).toList) = (a0 == a1)) = false := by simpa using c7))
            (try (have c7b2 : (((strOfNums t140).toList == (strOfNums t143).toList) == (a0 == a1)) = false := by simpa using c7))
            (try (have c7b3 : ¬ (((strOfNums t140).toList == (strOfNums t143).toList) = (a0 == a1)) := by simpa using c7))
            clear c7
            exact absurd (Option.some.inj (H.trans (congrArg some HR.out))) (by decide)
        · rw [if_neg c6] at H
          have c6b0 : ((t140.length : Int) == x5_1) = false := beq_eq_false_iff_ne.mpr c6
          have c6b1 : ((t140.length : Int) != x5_1) = true := bne_iff_ne.mpr c6
          exact absurd (Option.some.inj (H.trans (congrArg some HR.out))) (by decide)
/-- THE ONE PURE STATEMENT of terrierlaw1_PackOrders: yours. -/
def terrierlaw1_PackOrders.Pure : Prop := ∀ (a0 : Int) (a1 : Int), (Lit.int .u64 a0).wf = true → (Lit.int .u64 a1).wf = true → ∃ k, terrierlaw1_PackOrders.f k a0 a1 = some true
theorem terrierlaw1_PackOrders.walk (P : terrierlaw1_PackOrders.Pure) (a0 : Int) (a1 : Int) (w : World) (w0 : (Lit.int .u64 a0).wf = true) (w1 : (Lit.int .u64 a1).wf = true) :
    Calls Try.prog 4 #[.int .u64 a0, .int .u64 a1] w fun e w' => e = .returned (.bool true) ∧ Below w.heap.size w w' := by
  obtain ⟨k, h⟩ := P a0 a1 w0 w1
  refine (terrierlaw1_PackOrders.calls k a0 a1 true rfl w h).mono ?_
  rintro e w' ⟨rfl, hd⟩
  exact ⟨rfl, hd⟩
end Go.Proofs.Ytgjgandkcmjbnaa.PB
