/- Proved: the law's function PackMany tells true wherever its printed form does, by its walk. -/
import Derived.Test.YtgjgandkcmjbnaaB3
import Derived.Test.YtgjgandkcmjbnaaB4
namespace Go.Proofs.Ytgjgandkcmjbnaa.PB
open Go.RowKit Go.Proofs.YtgjgandkcmjbnaaW.PrintWords Go.Proofs.YtgjgandkcmjbnaaW.PrintLast Go.Proofs.YtgjgandkcmjbnaaW.PrintMore
attribute [local go_sem] max2_int min2_int max_two min_two max_three min_three max_four min_four   -- for this text's walks alone
set_option linter.unusedVariables false
set_option linter.unusedSimpArgs false

/-! ### terrierlaw1_PackMany: function 5 -/
mutual
def terrierlaw1_PackMany.l0 : Nat → List Int → Int → List Int → List Int → Int → Option (Bool)
  | 0, _, _, _, _, _ => none
  | k + 1, x0, x1, x5, x6, x7 => if x7 < (x0.length : Int) then (if 0 ≤ x7 then ((pack_Int.f k (rd x0 x7)).bind fun t145 => (if x5.length + t145.length < 140737488355328 then ((some (x5 ++ t145 : List Int)).bind fun y148 => (if x6.length < 17592186044416 then (terrierlaw1_PackMany.l0 k x0 x1 y148 (x6 ++ [(y148.length : Int)]) (wrap64 (x7 + 1))) else (none))) else (none))) else (none)) else (if (wrap64 ((x5.length : Int) + 1)) = 0 then (none) else (terrierlaw1_PackMany.l1 k x0 x5 x6 (Int.tmod (wrap64 ((wrap64 ((Int.tmod x1 (wrap64 ((x5.length : Int) + 1))) + (x5.length : Int))) + 1)) (wrap64 ((x5.length : Int) + 1))) 0 0))
def terrierlaw1_PackMany.l1 : Nat → List Int → List Int → List Int → Int → Int → Int → Option (Bool)
  | 0, _, _, _, _, _, _ => none
  | k + 1, x0, x5, x6, x8, x9, x10 => if x10 < (x0.length : Int) then (if 0 ≤ x9 then (if x9 ≤ x8 then (if x8 ≤ (x5.length : Int) then ((pack_IntOf.f k ((x5.take (x8 : Int).toNat).drop (x9 : Int).toNat)).bind fun bt159 => (if 0 ≤ x10 then (if x10 < (x6.length : Int) then (if (rd x6 x10) > x8 then (if bt159.2.2 = 4 then (if bt159.1 = 0 then (if bt159.2.1 = 0 then ((terrierlaw1_awake.f k).bind fun t163 => (some t163)) else (some false)) else (some false)) else (some false)) else (if bt159.2.2 = 0 then (if bt159.1 = (rd x0 x10) then (if (wrap64 (x9 + bt159.2.1)) = (rd x6 x10) then (terrierlaw1_PackMany.l1 k x0 x5 x6 x8 (rd x6 x10) (wrap64 (x10 + 1))) else (some false)) else (some false)) else (some false))) else (none)) else (none))) else (none)) else (none)) else (none)) else (if x9 = (x5.length : Int) then ((terrierlaw1_awake.f k).bind fun t154 => (some t154)) else (some false))
end
def terrierlaw1_PackMany.f (k : Nat) (l0 : List Int) (a1 : Int) : Option (Bool) := if (l0.length : Int) > 40 then ((terrierlaw1_awake.f k).bind fun t143 => (some t143)) else (terrierlaw1_PackMany.l0 k l0 a1 ([] : List Int) ([] : List Int) 0)
theorem terrierlaw1_PackMany.mono_l : ∀ k, (∀ y0 y1 y2 y3 y4, LeO (terrierlaw1_PackMany.l0 k y0 y1 y2 y3 y4) (terrierlaw1_PackMany.l0 (k + 1) y0 y1 y2 y3 y4)) ∧ (∀ y0 y1 y2 y3 y4 y5, LeO (terrierlaw1_PackMany.l1 k y0 y1 y2 y3 y4 y5) (terrierlaw1_PackMany.l1 (k + 1) y0 y1 y2 y3 y4 y5))
  | 0 => ⟨fun _ _ _ _ _ r h => by simp [terrierlaw1_PackMany.l0] at h, fun _ _ _ _ _ _ r h => by simp [terrierlaw1_PackMany.l1] at h⟩
  | k + 1 => by
    obtain ⟨ih0, ih1⟩ := terrierlaw1_PackMany.mono_l k
    refine ⟨?_, ?_⟩
    · intro y0 y1 y2 y3 y4
      unfold terrierlaw1_PackMany.l0
      repeat' first
      | (with_reducible exact ih0 _ _ _ _ _)
      | (with_reducible exact ih1 _ _ _ _ _ _)
      | (with_reducible exact pack_Int.mono _ _)
      | (with_reducible exact pack_IntOf.mono _ _)
      | (with_reducible exact terrierlaw1_awake.mono _)
      | (with_reducible exact LeO.refl _)
      | (with_reducible exact LeO.none _)
      | (with_reducible refine LeO.ite ?_ ?_)
      | (with_reducible refine LeO.bind ?_ (fun _ => ?_))
      | exact ih0 _ _ _ _ _
      | exact ih1 _ _ _ _ _ _
      | exact pack_Int.mono _ _
      | exact pack_IntOf.mono _ _
      | exact terrierlaw1_awake.mono _
      | exact LeO.none _
      | refine LeO.ite ?_ ?_
      | refine LeO.bind ?_ (fun _ => ?_)
    · intro y0 y1 y2 y3 y4 y5
      unfold terrierlaw1_PackMany.l1
      repeat' first
      | (with_reducible exact ih0 _ _ _ _ _)
      | (with_reducible exact ih1 _ _ _ _ _ _)
      | (with_reducible exact pack_Int.mono _ _)
      | (with_reducible exact pack_IntOf.mono _ _)
      | (with_reducible exact terrierlaw1_awake.mono _)
      | (with_reducible exact LeO.refl _)
      | (with_reducible exact LeO.none _)
      | (with_reducible refine LeO.ite ?_ ?_)
      | (with_reducible refine LeO.bind ?_ (fun _ => ?_))
      | exact ih0 _ _ _ _ _
      | exact ih1 _ _ _ _ _ _
      | exact pack_Int.mono _ _
      | exact pack_IntOf.mono _ _
      | exact terrierlaw1_awake.mono _
      | exact LeO.none _
      | refine LeO.ite ?_ ?_
      | refine LeO.bind ?_ (fun _ => ?_)
theorem terrierlaw1_PackMany.mono : ∀ a0 a1 k, LeO (terrierlaw1_PackMany.f k a0 a1) (terrierlaw1_PackMany.f (k + 1) a0 a1) := by
  intro a0 a1 k
  obtain ⟨ih0, ih1⟩ := terrierlaw1_PackMany.mono_l k
  unfold terrierlaw1_PackMany.f
  repeat' first
      | (with_reducible exact ih0 _ _ _ _ _)
      | (with_reducible exact ih1 _ _ _ _ _ _)
      | (with_reducible exact pack_Int.mono _ _)
      | (with_reducible exact pack_IntOf.mono _ _)
      | (with_reducible exact terrierlaw1_awake.mono _)
      | (with_reducible exact LeO.refl _)
      | (with_reducible exact LeO.none _)
      | (with_reducible refine LeO.ite ?_ ?_)
      | (with_reducible refine LeO.bind ?_ (fun _ => ?_))
      | exact ih0 _ _ _ _ _
      | exact ih1 _ _ _ _ _ _
      | exact pack_Int.mono _ _
      | exact pack_IntOf.mono _ _
      | exact terrierlaw1_awake.mono _
      | exact LeO.none _
      | refine LeO.ite ?_ ?_
      | refine LeO.bind ?_ (fun _ => ?_)
set_option maxHeartbeats 8000000 in
set_option maxRecDepth 100000 in
theorem terrierlaw1_PackMany.calls (k : Nat) (A0 : Option Addr) (c0 : Nat) (l0 : List Int) (a1 : Int) (r : Bool) (hr : r = true) (w : World) (hr0 : Kd.C (Kd.int .i64) w A0 l0.length l0) (hc0 : l0.length ≤ c0) (h : terrierlaw1_PackMany.f k l0 a1 = some r) :
    Calls Try.prog 5 #[.slice A0 l0.length c0, .int .i64 a1] w fun e w' => e = .returned (.bool r) ∧ Below w.heap.size w w' := by
  have HR0 := Aside0.mk hr0
  have HC0 := Aside0.mk hc0
  clear hr0 hc0
  have HB := Aside0.mk (Below.refl w.heap.size w)
  have HR := Aside0.mk hr
  clear hr
  have H : (if (l0.length : Int) > 40 then ((terrierlaw1_awake.f k).bind fun t143 => (some t143)) else (terrierlaw1_PackMany.l0 k l0 a1 ([] : List Int) ([] : List Int) 0)) = some r := h
  clear h
  by_cases c3 : (l0.length : Int) > 40
  · rw [if_pos c3] at H
    have c3b0 : decide (40 < (l0.length : Int)) = true := decide_eq_true c3
    have c3b1 : decide (40 < l0.length) = true := decide_eq_true (by omega)
    clear c3
    replace H := Option.bind_eq_some_iff.mp H
    obtain ⟨t143, A40, H⟩ := H
    replace H : (some t143) = some r := H
    have A4 := Aside0.mk A40
    clear A40
    obtain rfl := Option.some.inj H
    go_enter Try.func5, Try.ntmps5
    go_wp2_with (first | ((with_reducible refine gate_callee (f := 11) rfl ?_); refine goesL_ (some 17) rfl rfl Try.func11 (by kernel_rfl) rfl #[] rfl (by (try simp only [List.map_toArray, List.map_cons, List.map_nil]); first | done | rfl | (simp only [List.length_drop, List.length_take]; rfl)) ?_; (with_reducible refine (terrierlaw1_awake.calls k  t143 _ A4.out).mono ?_); rintro e w5 ⟨rfl, hb⟩; refine ⟨_, rfl, ?_⟩; have n0_ := Aside0.mk (below_step (by repeat (first | (with_reducible first | exact HB.out | apply below_alloc | apply pw_below_drewN | apply below_drew1) | exact HB.out)) hb); clear HB; have HB := n0_; clear n0_; (try clear hb); (try clear hb2); (try clear hk); (try clear hi)))
    go_ret
    exact ⟨by first | rfl | (simp [errW_none, errW_some] <;> rfl) | (simp [*, errW_none, errW_some] <;> rfl), by repeat (first | (with_reducible first | exact HB.out | apply below_alloc | apply pw_below_drewN | apply below_drew1) | exact HB.out)⟩
  · rw [if_neg c3] at H
    have c3b0 : decide (40 < (l0.length : Int)) = false := decide_eq_false c3
    have c3b1 : decide (40 < l0.length) = false := decide_eq_false (by omega)
    clear c3
    have H' := Aside0.mk H
    clear H
    go_enter Try.func5, Try.ntmps5
    go_wp2
    go_loopg [5, 6, 7] k (fun kq v5 v6 v7 w' => ∃ (x5_1 : List Int) (x6_1 : List Int) (x7_1 : Int), v7 = .int .i64 x7_1 ∧ Aside0 (terrierlaw1_PackMany.l0 kq l0 a1 x5_1 x6_1 x7_1 = some r) ∧ Aside0 (kq ≤ k) ∧ Aside0 (Kd.R (Kd.int .u8) 5 w' w.heap.size (fun _ => True) v5 x5_1) ∧ Aside0 (Kd.R (Kd.int .i64) 3 w' w.heap.size (fun _ => True) v6 x6_1) ∧ Aside0 (Below w.heap.size w w'))
    case atStart => exact ⟨(([] : List Int)), (([] : List Int)), (0), (by first | rfl | (simp; done) | (simp [*]; done)), H', ⟨Nat.le_refl _⟩, ⟨by first | exact Kd.R_nil _ _ _ _ _ | exact Kd.N_nil _ _ _ _ _ | exact Kd.V_nil _ _ _ _ _ | exact Kd.Q_nil _ _ _ _ _ | exact Kd.S_nil _ _ _ _ _⟩, ⟨by first | exact Kd.R_nil _ _ _ _ _ | exact Kd.N_nil _ _ _ _ _ | exact Kd.V_nil _ _ _ _ _ | exact Kd.Q_nil _ _ _ _ _ | exact Kd.S_nil _ _ _ _ _⟩, ⟨by repeat (first | (with_reducible first | exact HB.out | apply below_alloc | apply pw_below_drewN | apply below_drew1) | exact HB.out)⟩⟩
    case round =>
      clear H'
      try clear c1
      try clear p2
      try clear c3
      try clear c3b0
      try clear c3b1
      try clear c5
      obtain ⟨x5_1, x6_1, x7_1, rfl, HA, HK1, HO_5, HO_6, HB⟩ := hrel
      cases gk with
      | zero => exact absurd HA.out (by simp [terrierlaw1_PackMany.l0])
      | succ k1 =>
        have H := HA.out
        clear HA
        simp only [terrierlaw1_PackMany.l0] at H
        by_cases c6 : x7_1 < (l0.length : Int)
        · rw [if_pos c6] at H
          have c6b0 : decide (x7_1 < (l0.length : Int)) = true := decide_eq_true c6
          clear c6
          by_cases c7 : 0 ≤ x7_1
          · rw [if_pos c7] at H
            have c7b0 : decide (0 ≤ x7_1) = true := decide_eq_true c7
            clear c7
            replace H := Option.bind_eq_some_iff.mp H
            obtain ⟨t145, A80, H⟩ := H
            replace H : (if x5_1.length + t145.length < 140737488355328 then ((some (x5_1 ++ t145 : List Int)).bind fun y148 => (if x6_1.length < 17592186044416 then (terrierlaw1_PackMany.l0 k1 l0 a1 y148 (x6_1 ++ [(y148.length : Int)]) (wrap64 (x7_1 + 1))) else (none))) else (none)) = some r := H
            have A8 := Aside0.mk A80
            clear A80
            by_cases c9 : x5_1.length + t145.length < 140737488355328
            · rw [if_pos c9] at H
              have LMc9 := Aside0.mk c9
              clear c9
              obtain ⟨y148, hy148⟩ : ∃ y_ : List Int, y_ = (x5_1 ++ t145) := ⟨_, rfl⟩
              replace H : (if x6_1.length < 17592186044416 then (terrierlaw1_PackMany.l0 k1 l0 a1 y148 (x6_1 ++ [(y148.length : Int)]) (wrap64 (x7_1 + 1))) else (none)) = some r := by first | (rw [hy148]; with_reducible exact H) | (have H2_ := (Option.bind_some _ _).symm.trans H; rw [hy148]; with_reducible exact H2_) | (have H2_ := (Option.bind_some _ _).symm.trans H; with_reducible exact H2_) | with_reducible exact H | (rw [hy148]; exact H) | exact H
              have Ny148 := Aside0.mk hy148
              clear hy148
              by_cases c10 : x6_1.length < 17592186044416
              · rw [if_pos c10] at H
                have LMc10 := Aside0.mk c10
                clear c10
                obtain ⟨y151, hy151⟩ : ∃ y_ : List Int, y_ = (x6_1 ++ [(y148.length : Int)]) := ⟨_, rfl⟩
                replace H : (terrierlaw1_PackMany.l0 k1 l0 a1 y148 y151 (wrap64 (x7_1 + 1))) = some r := by first | (rw [hy151]; with_reducible exact H) | (have H2_ := (Option.bind_some _ _).symm.trans H; rw [hy151]; with_reducible exact H2_) | (have H2_ := (Option.bind_some _ _).symm.trans H; with_reducible exact H2_) | with_reducible exact H | (rw [hy151]; exact H) | exact H
                have Ny151 := Aside0.mk hy151
                clear hy151
                have H' := Aside0.mk H
                clear H
                have p144 : 0 ≤ (x7_1 : Int) := of_decide_eq_true (by first | (with_reducible assumption) | assumption)
                have q144 : x7_1 < (l0.length : Int) := of_decide_eq_true (by first | (with_reducible assumption) | assumption)
                obtain ⟨ad144, e144, hx144_0⟩ := Kd.at_int HR0.out x7_1 p144 q144
                cases e144
                replace hx144_0 := (HB.out.cell (World.block_lt_of_cell? w _ hx144_0)).trans hx144_0
                replace p144 := eq_true p144
                replace q144 := eq_true q144
                go_wp2_with (first | ((with_reducible refine gate_callee (f := 13) rfl ?_); refine goesL_ (some 29) rfl rfl Try.func13 (by kernel_rfl) rfl #[.int .i64 (rd l0 x7_1)] rfl (by (try simp only [List.map_toArray, List.map_cons, List.map_nil]); first | done | rfl | (simp only [List.length_drop, List.length_take]; rfl)) ?_; (with_reducible refine (pack_Int.calls k1 (rd l0 x7_1) t145 _ A8.out).mono ?_); rintro e w11 ⟨_, u146, rfl, ⟨A146_, n146_, c146_, d146_, rfl, rfl, hc146_, hd146_⟩, ho0, hb⟩; obtain rfl : n146_ = t145.length := cap_len ho0; refine ⟨_, rfl, ?_⟩; have n0_ := Aside0.mk (Kd.R_elder' (by (with_reducible repeat (first | apply Kd.R_alloc | apply Kd.R_drewN | apply Kd.R_drew)); exact HO_5.out) (Kd.R_base ho0) hb); have n1_ := Aside0.mk (Kd.R_below (by (with_reducible repeat (first | apply Kd.R_alloc | apply Kd.R_drewN | apply Kd.R_drew)); exact HO_6.out) hb); have n2_ := Aside0.mk (Kd.R_lower (Kd.R_new' ho0 (Kd.R_lt (by (with_reducible repeat (first | apply Kd.R_alloc | apply Kd.R_drewN | apply Kd.R_drew)); exact HO_5.out))) (below_size (by repeat (first | (with_reducible first | exact HB.out | apply below_alloc | apply pw_below_drewN | apply below_drew1) | exact HB.out)))); have n3_ := Aside0.mk (below_step (by repeat (first | (with_reducible first | exact HB.out | apply below_alloc | apply pw_below_drewN | apply below_drew1) | exact HB.out)) hb); clear HO_5; clear HO_6; clear HB; have HO_5 := n0_; have HO_6 := n1_; have HO147 := n2_; have HB := n3_; clear n0_ n1_ n2_ n3_; (try clear hb); (try clear hb2); (try clear hk); (try clear hi); (try clear ho0)) | ((with_reducible refine gate_builtin (b := .append) (xs := #[.tmp 24, .tmp 29]) rfl ?_); at_builtin; refine Kd.R_append_rows (Kd.int .u8) (w0 := w) w.heap.size rfl (.tmp 24) (.tmp 29) 22 5 (.int .u8 0) 1 rfl Try.underlying22 info5 rfl (by decide) (by omega) u5 x5_1 t145 _ _ _ (fun k_ => some k_ ≠ (.slice A146_ t145.length d146_ : Value).ownBlock) (fun _ => False) rfl rfl ?aO ?aR (fun _ _ h => h) (fun _ h => h.elim) ?aF ?aB ?aS ?aL ?_; (case aR => repeat (first | exact (Kd.R_reads' HO147.out).2.2 | (with_reducible refine Kd.C_alloc ?_ _) | (with_reducible refine Kd.C_drewN ?_ _) | (with_reducible refine Kd.C_drew ?_))); (case aB => exact (by repeat (first | (with_reducible first | exact HB.out | apply below_alloc | apply pw_below_drewN | apply below_drew1) | exact HB.out))); (case aF => exact (fun k_ hk => Kd.fresh' (Kd.R_lt (by (with_reducible repeat (first | apply Kd.R_alloc | apply Kd.R_drewN | apply Kd.R_drew)); exact HO147.out)) k_ hk)); (case aO => exact (by (with_reducible repeat (first | apply Kd.R_alloc | apply Kd.R_drewN | apply Kd.R_drew)); exact Kd.R_mono HO_5.out (fun _ hk => hk.2))); (case aS => exact (below_size (by repeat (first | (with_reducible first | exact HB.out | apply below_alloc | apply pw_below_drewN | apply below_drew1) | exact HB.out)))); (case aL => have := LMc9.out; omega); intro v149 w12 ho hb hg hat; rw [← Ny148.out] at ho; have n0_ := Aside0.mk (Kd.R_over' (by (with_reducible repeat (first | apply Kd.R_alloc | apply Kd.R_drewN | apply Kd.R_drew)); exact HO_6.out) (Kd.R_typed (by (with_reducible repeat (first | apply Kd.R_alloc | apply Kd.R_drewN | apply Kd.R_drew)); exact HO_5.out)) (by decide) hg); have n1_ := Aside0.mk (Kd.R_after (ok := (fun _ => True)) (by (with_reducible repeat (first | apply Kd.R_alloc | apply Kd.R_drewN | apply Kd.R_drew)); exact HO147.out) hg hat); have n2_ := Aside0.mk (hb); have n3_ := Aside0.mk (ho); clear HO_6; clear HO147; clear HB; clear HO_5; have HO_6 := n0_; have HO147 := n1_; have HB := n2_; have HO150 := n3_; clear n0_ n1_ n2_ n3_; clear ho hb hg hat; obtain ⟨Ao14, co14, eo14⟩ := Kd.R_slice HO150.out; subst eo14) | ((with_reducible refine gate_builtin (b := .append) (xs := #[.tmp 31, .tmp 34]) rfl ?_); at_builtin; refine Kd.R_append (Kd.int .i64) (w0 := w) w.heap.size rfl (.tmp 31) (.tmp 34) 32 3 (.int .i64 0) 8 rfl Try.underlying32 info3 rfl (by decide) (by omega) u6 x6_1 (y148.length : Int) [.int .i64 (y148.length : Int)] (fun _ => True) (fun _ => False) rfl rfl ?aP (fun _ hk => hk.elim) ?aF ?aO ?aB ?aS ?aL ?_; (case aP => exact rfl); (case aB => exact (by repeat (first | (with_reducible first | exact HB.out | apply below_alloc | apply pw_below_drewN | apply below_drew1) | exact HB.out))); (case aF => exact (fun _ _ => trivial)); (case aO => exact (by (with_reducible repeat (first | apply Kd.R_alloc | apply Kd.R_drewN | apply Kd.R_drew)); exact HO_6.out)); (case aS => exact (below_size (by repeat (first | (with_reducible first | exact HB.out | apply below_alloc | apply pw_below_drewN | apply below_drew1) | exact HB.out)))); (case aL => have := LMc10.out; omega); intro v152 w15 ho hb hg hat; rw [← Ny151.out] at ho; have n0_ := Aside0.mk (Kd.R_over' (by (with_reducible repeat (first | apply Kd.R_alloc | apply Kd.R_drewN | apply Kd.R_drew)); exact HO147.out) (Kd.R_typed (by (with_reducible repeat (first | apply Kd.R_alloc | apply Kd.R_drewN | apply Kd.R_drew)); exact HO_6.out)) (by decide) hg); have n1_ := Aside0.mk (Kd.R_over' (by (with_reducible repeat (first | apply Kd.R_alloc | apply Kd.R_drewN | apply Kd.R_drew)); exact HO150.out) (Kd.R_typed (by (with_reducible repeat (first | apply Kd.R_alloc | apply Kd.R_drewN | apply Kd.R_drew)); exact HO_6.out)) (by decide) hg); have n2_ := Aside0.mk (hb); have n3_ := Aside0.mk (ho); clear HO147; clear HO150; clear HB; clear HO_6; have HO147 := n0_; have HO150 := n1_; have HB := n2_; have HO153 := n3_; clear n0_ n1_ n2_ n3_; clear ho hb hg hat))
                go_roundg k1
                case measure => have := HK1.out; omega
                case rel => exact ⟨(y148), (y151), (wrap64 (x7_1 + 1)), (by first | rfl | (simp; done) | (simp [*]; done)), H', ⟨by have := HK1.out; omega⟩, ⟨by (with_reducible repeat (first | apply Kd.R_alloc | apply Kd.R_drewN | apply Kd.R_drew)); exact Kd.R_mono HO150.out (fun _ hk => trivial)⟩, ⟨by (with_reducible repeat (first | apply Kd.R_alloc | apply Kd.R_drewN | apply Kd.R_drew)); exact HO153.out⟩, ⟨by repeat (first | (with_reducible first | exact HB.out | apply below_alloc | apply pw_below_drewN | apply below_drew1) | exact HB.out)⟩⟩
              · rw [if_neg c10] at H
                exact absurd H (by simp)
            · rw [if_neg c9] at H
              exact absurd H (by simp)
          · rw [if_neg c7] at H
            exact absurd H (by simp)
        · rw [if_neg c6] at H
          have c6b0 : decide (x7_1 < (l0.length : Int)) = false := decide_eq_false c6
          clear c6
          by_cases c16 : (wrap64 ((x5_1.length : Int) + 1)) = 0
          · rw [if_pos c16] at H
            exact absurd H (by simp)
          · rw [if_neg c16] at H
            have c16b0 : ((wrap64 ((x5_1.length : Int) + 1)) == 0) = false := beq_eq_false_iff_ne.mpr c16
            have c16b1 : ((wrap64 ((x5_1.length : Int) + 1)) != 0) = true := bne_iff_ne.mpr c16
            have H' := Aside0.mk H
            clear H
            obtain ⟨Ao17, co17, eo17⟩ := Kd.R_slice HO_5.out
            subst eo17
            go_wp2
            go_loopg [9, 10] k1 (fun kq v9 v10 w' => ∃ (x9_2 : Int) (x10_2 : Int), v9 = .int .i64 x9_2 ∧ v10 = .int .i64 x10_2 ∧ Aside0 (terrierlaw1_PackMany.l1 kq l0 x5_1 x6_1 (Int.tmod (wrap64 ((wrap64 ((Int.tmod a1 (wrap64 ((x5_1.length : Int) + 1))) + (x5_1.length : Int))) + 1)) (wrap64 ((x5_1.length : Int) + 1))) x9_2 x10_2 = some r) ∧ Aside0 (kq ≤ k1) ∧ Aside0 (Kd.R (Kd.int .u8) 5 w' w.heap.size (fun _ => True) (.slice Ao17 x5_1.length co17) x5_1) ∧ Aside0 (Kd.R (Kd.int .i64) 3 w' w.heap.size (fun _ => True) u6 x6_1) ∧ Aside0 (Below w.heap.size w w'))
            case atStart => exact ⟨(0), (0), (by first | rfl | (simp; done) | (simp [*]; done)), (by first | rfl | (simp; done) | (simp [*]; done)), H', ⟨Nat.le_refl _⟩, ⟨by (with_reducible repeat (first | apply Kd.R_alloc | apply Kd.R_drewN | apply Kd.R_drew)); exact HO_5.out⟩, ⟨by (with_reducible repeat (first | apply Kd.R_alloc | apply Kd.R_drewN | apply Kd.R_drew)); exact HO_6.out⟩, ⟨by repeat (first | (with_reducible first | exact HB.out | apply below_alloc | apply pw_below_drewN | apply below_drew1) | exact HB.out)⟩⟩
            case round =>
              clear H'
              try clear c1
              try clear p1
              try clear q1
              try clear hx1
              try clear p2
              try clear c3
              try clear c3b0
              try clear c3b1
              try clear c5
              try clear c6
              try clear c6b0
              try clear p6
              try clear c7
              try clear c7b0
              try clear c9
              try clear c10
              try clear c11
              try clear c13
              try clear p14
              try clear q14
              try clear hx14
              try clear c16
              try clear c16b0
              try clear c16b1
              try clear hx144_0
              try clear p144
              try clear p2
              try clear q144
              obtain ⟨x9_2, x10_2, rfl, rfl, HA, HK2, HO_5, HO_6, HB⟩ := hrel
              cases gk with
              | zero => exact absurd HA.out (by simp [terrierlaw1_PackMany.l1])
              | succ k2 =>
                have H := HA.out
                clear HA
                simp only [terrierlaw1_PackMany.l1] at H
                by_cases c18 : x10_2 < (l0.length : Int)
                · rw [if_pos c18] at H
                  have c18b0 : decide (x10_2 < (l0.length : Int)) = true := decide_eq_true c18
                  clear c18
                  by_cases c19 : 0 ≤ x9_2
                  · rw [if_pos c19] at H
                    have c19b0 := eq_true c19
                    have c19b1 : decide (0 ≤ x9_2) = true := decide_eq_true c19
                    clear c19
                    by_cases c20 : x9_2 ≤ (Int.tmod (wrap64 ((wrap64 ((Int.tmod a1 (wrap64 ((x5_1.length : Int) + 1))) + (x5_1.length : Int))) + 1)) (wrap64 ((x5_1.length : Int) + 1)))
                    · rw [if_pos c20] at H
                      have c20b0 := eq_true c20
                      have c20b1 : decide (x9_2 ≤ (Int.tmod (wrap64 ((wrap64 ((Int.tmod a1 (wrap64 ((x5_1.length : Int) + 1))) + (x5_1.length : Int))) + 1)) (wrap64 ((x5_1.length : Int) + 1)))) = true := decide_eq_true c20
                      by_cases c21 : (Int.tmod (wrap64 ((wrap64 ((Int.tmod a1 (wrap64 ((x5_1.length : Int) + 1))) + (x5_1.length : Int))) + 1)) (wrap64 ((x5_1.length : Int) + 1))) ≤ (x5_1.length : Int)
                      · rw [if_pos c21] at H
                        have c21b0 := eq_true c21
                        have c21b1 : decide ((Int.tmod (wrap64 ((wrap64 ((Int.tmod a1 (wrap64 ((x5_1.length : Int) + 1))) + (x5_1.length : Int))) + 1)) (wrap64 ((x5_1.length : Int) + 1))) ≤ (x5_1.length : Int)) = true := decide_eq_true c21
                        obtain ⟨y155, hy155⟩ : ∃ y_ : List Int, y_ = ((x5_1.take ((Int.tmod (wrap64 ((wrap64 ((Int.tmod a1 (wrap64 ((x5_1.length : Int) + 1))) + (x5_1.length : Int))) + 1)) (wrap64 ((x5_1.length : Int) + 1))) : Int).toNat).drop (x9_2 : Int).toNat) := ⟨_, rfl⟩
                        replace H : ((pack_IntOf.f k2 y155).bind fun bt159 => (if 0 ≤ x10_2 then (if x10_2 < (x6_1.length : Int) then (if (rd x6_1 x10_2) > (Int.tmod (wrap64 ((wrap64 ((Int.tmod a1 (wrap64 ((x5_1.length : Int) + 1))) + (x5_1.length : Int))) + 1)) (wrap64 ((x5_1.length : Int) + 1))) then (if bt159.2.2 = 4 then (if bt159.1 = 0 then (if bt159.2.1 = 0 then ((terrierlaw1_awake.f k2).bind fun t163 => (some t163)) else (some false)) else (some false)) else (some false)) else (if bt159.2.2 = 0 then (if bt159.1 = (rd l0 x10_2) then (if (wrap64 (x9_2 + bt159.2.1)) = (rd x6_1 x10_2) then (terrierlaw1_PackMany.l1 k2 l0 x5_1 x6_1 (Int.tmod (wrap64 ((wrap64 ((Int.tmod a1 (wrap64 ((x5_1.length : Int) + 1))) + (x5_1.length : Int))) + 1)) (wrap64 ((x5_1.length : Int) + 1))) (rd x6_1 x10_2) (wrap64 (x10_2 + 1))) else (some false)) else (some false)) else (some false))) else (none)) else (none))) = some r := by first | (rw [hy155]; with_reducible exact H) | (have H2_ := (Option.bind_some _ _).symm.trans H; rw [hy155]; with_reducible exact H2_) | (have H2_ := (Option.bind_some _ _).symm.trans H; with_reducible exact H2_) | with_reducible exact H | (rw [hy155]; exact H) | exact H
                        have Ny155 := Aside0.mk hy155
                        clear hy155
                        replace H := Option.bind_eq_some_iff.mp H
                        obtain ⟨⟨t159, t160, t161⟩, A220, H⟩ := H
                        replace H : (if 0 ≤ x10_2 then (if x10_2 < (x6_1.length : Int) then (if (rd x6_1 x10_2) > (Int.tmod (wrap64 ((wrap64 ((Int.tmod a1 (wrap64 ((x5_1.length : Int) + 1))) + (x5_1.length : Int))) + 1)) (wrap64 ((x5_1.length : Int) + 1))) then (if t161 = 4 then (if t159 = 0 then (if t160 = 0 then ((terrierlaw1_awake.f k2).bind fun t163 => (some t163)) else (some false)) else (some false)) else (some false)) else (if t161 = 0 then (if t159 = (rd l0 x10_2) then (if (wrap64 (x9_2 + t160)) = (rd x6_1 x10_2) then (terrierlaw1_PackMany.l1 k2 l0 x5_1 x6_1 (Int.tmod (wrap64 ((wrap64 ((Int.tmod a1 (wrap64 ((x5_1.length : Int) + 1))) + (x5_1.length : Int))) + 1)) (wrap64 ((x5_1.length : Int) + 1))) (rd x6_1 x10_2) (wrap64 (x10_2 + 1))) else (some false)) else (some false)) else (some false))) else (none)) else (none)) = some r := H
                        have A22 := Aside0.mk A220
                        clear A220
                        by_cases c23 : 0 ≤ x10_2
                        · rw [if_pos c23] at H
                          have c23b0 : decide (0 ≤ x10_2) = true := decide_eq_true c23
                          clear c23
                          by_cases c24 : x10_2 < (x6_1.length : Int)
                          · rw [if_pos c24] at H
                            have c24b0 : decide (x10_2 < (x6_1.length : Int)) = true := decide_eq_true c24
                            clear c24
                            by_cases c25 : (rd x6_1 x10_2) > (Int.tmod (wrap64 ((wrap64 ((Int.tmod a1 (wrap64 ((x5_1.length : Int) + 1))) + (x5_1.length : Int))) + 1)) (wrap64 ((x5_1.length : Int) + 1)))
                            · rw [if_pos c25] at H
                              have c25b0 : decide ((Int.tmod (wrap64 ((wrap64 ((Int.tmod a1 (wrap64 ((x5_1.length : Int) + 1))) + (x5_1.length : Int))) + 1)) (wrap64 ((x5_1.length : Int) + 1))) < (rd x6_1 x10_2)) = true := decide_eq_true c25
                              clear c25
                              by_cases c26 : t161 = 4
                              · rw [if_pos c26] at H
                                have c26b0 : (t161 == 4) = true := beq_iff_eq.mpr c26
                                have c26b1 : (t161 != 4) = false := bne_eq_false_iff_eq.mpr c26
                                clear c26
                                by_cases c27 : t159 = 0
                                · rw [if_pos c27] at H
                                  have c27b0 : (t159 == 0) = true := beq_iff_eq.mpr c27
                                  have c27b1 : (t159 != 0) = false := bne_eq_false_iff_eq.mpr c27
                                  clear c27
                                  by_cases c28 : t160 = 0
                                  · rw [if_pos c28] at H
                                    have c28b0 : (t160 == 0) = true := beq_iff_eq.mpr c28
                                    have c28b1 : (t160 != 0) = false := bne_eq_false_iff_eq.mpr c28
                                    clear c28
                                    replace H := Option.bind_eq_some_iff.mp H
                                    obtain ⟨t163, A290, H⟩ := H
                                    replace H : (some t163) = some r := H
                                    have A29 := Aside0.mk A290
                                    clear A290
                                    obtain rfl := Option.some.inj H
                                    have q30 : ((Int.tmod (wrap64 ((wrap64 ((Int.tmod a1 (wrap64 ((x5_1.length : Int) + 1))) + (x5_1.length : Int))) + 1)) (wrap64 ((x5_1.length : Int) + 1))) : Int) ≤ ((x5_1.length : Int) : Int) := of_decide_eq_true (by first | (with_reducible assumption) | assumption)
                                    obtain ⟨i030, hi030, _, hsz30, _⟩ := info_parts info5
                                    have hroom30 : x5_1.length ≤ co17 := (Kd.R_reads' HO_5.out).2.1
                                    have hC30 : Kd.C (Kd.int .u8) _ Ao17 x5_1.length x5_1 := (Kd.R_reads' HO_5.out).2.2
                                    have ql30 : (x9_2 : Int) ≤ ((Int.tmod (wrap64 ((wrap64 ((Int.tmod a1 (wrap64 ((x5_1.length : Int) + 1))) + (x5_1.length : Int))) + 1)) (wrap64 ((x5_1.length : Int) + 1))) : Int) := of_decide_eq_true (by first | (with_reducible assumption) | assumption)
                                    have q030 : (0 : Int) ≤ (x9_2 : Int) := of_decide_eq_true (by first | (with_reducible assumption) | assumption)
                                    have hcut30 := cut_mid (P := Try.prog) 22 5 .i64 .i64 Try.underlying22 hi030 1 hsz30 Ao17 x5_1.length co17 x9_2 (Int.tmod (wrap64 ((wrap64 ((Int.tmod a1 (wrap64 ((x5_1.length : Int) + 1))) + (x5_1.length : Int))) + 1)) (wrap64 ((x5_1.length : Int) + 1))) q030 ql30 q30 hroom30
                                    have hr30 := Kd.C_mid (lo := (x9_2 : Int).toNat) (hi := ((Int.tmod (wrap64 ((wrap64 ((Int.tmod a1 (wrap64 ((x5_1.length : Int) + 1))) + (x5_1.length : Int))) + 1)) (wrap64 ((x5_1.length : Int) + 1))) : Int).toNat) (c := co17) hC30 (by omega) (by omega) hroom30
                                    obtain ⟨A30, hA30⟩ : ∃ A1, A1 = (if co17 = (x9_2 : Int).toNat then Ao17 else (Ao17 : Option Addr).map (·.add ((x9_2 : Int).toNat * 1))) := ⟨_, rfl⟩
                                    obtain ⟨c30, hc30⟩ : ∃ c1, c1 = co17 - (x9_2 : Int).toNat := ⟨_, rfl⟩
                                    have hy30 : y155.length = ((Int.tmod (wrap64 ((wrap64 ((Int.tmod a1 (wrap64 ((x5_1.length : Int) + 1))) + (x5_1.length : Int))) + 1)) (wrap64 ((x5_1.length : Int) + 1))) : Int).toNat - (x9_2 : Int).toNat := (by rw [Ny155.out, List.length_drop, List.length_take] <;> omega)
                                    rw [show ((x5_1).take ((Int.tmod (wrap64 ((wrap64 ((Int.tmod a1 (wrap64 ((x5_1.length : Int) + 1))) + (x5_1.length : Int))) + 1)) (wrap64 ((x5_1.length : Int) + 1))) : Int).toNat).drop (x9_2 : Int).toNat = y155 from Ny155.out.symm] at hr30
                                    replace hr30 : Kd.C (Kd.int .u8) _ A30 y155.length y155 := (by rw [hA30]; exact hr30)
                                    rw [← hy30, ← hA30, ← hc30] at hcut30
                                    have HR158 := Aside0.mk hr30
                                    have HC158 := Aside0.mk (show y155.length ≤ c30 from by rw [hy30, hc30]; exact Nat.sub_le_sub_right (Nat.le_trans (by omega) hroom30) _)
                                    clear hr30 hC30 hroom30 hi030 hsz30 hc30
                                    have KY30 := Aside0.mk hy30
                                    have KA30 := Aside0.mk hA30
                                    clear hy30 hA30
                                    have KL30 := Aside0.mk (show ((Int.tmod (wrap64 ((wrap64 ((Int.tmod a1 (wrap64 ((x5_1.length : Int) + 1))) + (x5_1.length : Int))) + 1)) (wrap64 ((x5_1.length : Int) + 1))) : Int).toNat ≤ x5_1.length from by omega)
                                    have KM30 := Aside0.mk (show (x9_2 : Int).toNat ≤ ((Int.tmod (wrap64 ((wrap64 ((Int.tmod a1 (wrap64 ((x5_1.length : Int) + 1))) + (x5_1.length : Int))) + 1)) (wrap64 ((x5_1.length : Int) + 1))) : Int).toNat from by omega)
                                    replace q30 := eq_true q30
                                    go_wp2_with (first | ((with_reducible refine gate_callee (f := 14) rfl ?_); refine goesL_ (some 60) rfl rfl Try.func14 (by kernel_rfl) rfl #[.slice A30 y155.length c30] rfl (by (try simp only [List.map_toArray, List.map_cons, List.map_nil]); first | done | rfl | (simp only [List.length_drop, List.length_take]; rfl)) ?_; (with_reducible refine (pack_IntOf.calls k2 _ _ y155 t159 t160 t161 _ ?side1 ?side2 A22.out).mono ?_); (case side1 => repeat (first | exact (by repeat (first | (with_reducible exact HR158.out) | (with_reducible refine Kd.C_alloc ?_ _) | (with_reducible refine Kd.C_drewN ?_ _) | (with_reducible refine Kd.C_drew ?_) | exact HR158.out)) | (with_reducible refine Kd.C_alloc ?_ _) | (with_reducible refine Kd.C_drewN ?_ _) | (with_reducible refine Kd.C_drew ?_))); (case side2 => exact HC158.out); rintro e w' ⟨rfl, ⟨nd, rfl⟩⟩; refine ⟨_, rfl, ?_⟩; obtain ⟨Ao31, co31, eo31⟩ := Kd.R_slice HO_6.out; subst eo31; have p162 : 0 ≤ (x10_2 : Int) := of_decide_eq_true (by first | (with_reducible assumption) | assumption); have q162 : x10_2 < (x6_1.length : Int) := of_decide_eq_true (by first | (with_reducible assumption) | assumption); obtain ⟨ad162, e162, hx162_0⟩ := Kd.at_int (Kd.R_reads' HO_6.out).2.2 x10_2 p162 q162; cases e162; replace p162 := eq_true p162; replace q162 := eq_true q162) | (go_at_call 11; (with_reducible refine (terrierlaw1_awake.calls k2  t163 _ A29.out).mono ?_); rintro e w32 ⟨rfl, hb⟩; have n0_ := Aside0.mk (Kd.R_below (by (with_reducible repeat (first | apply Kd.R_alloc | apply Kd.R_drewN | apply Kd.R_drew)); exact HO_5.out) hb); have n1_ := Aside0.mk (Kd.R_below (by (with_reducible repeat (first | apply Kd.R_alloc | apply Kd.R_drewN | apply Kd.R_drew)); exact HO_6.out) hb); have n2_ := Aside0.mk (Kd.C_below (by repeat (first | (with_reducible exact HR158.out) | (with_reducible refine Kd.C_alloc ?_ _) | (with_reducible refine Kd.C_drewN ?_ _) | (with_reducible refine Kd.C_drew ?_) | exact HR158.out)) hb); have n3_ := Aside0.mk (below_step (by repeat (first | (with_reducible first | exact HB.out | apply below_alloc | apply pw_below_drewN | apply below_drew1) | exact HB.out)) hb); clear HO_5; clear HO_6; clear HR158; clear HB; have HO_5 := n0_; have HO_6 := n1_; have HR158 := n2_; have HB := n3_; clear n0_ n1_ n2_ n3_; (try clear hb); (try clear hb2); (try clear hk); (try clear hi)))
                                    go_ret
                                    exact ⟨by first | rfl | (simp [errW_none, errW_some] <;> rfl) | (simp [*, errW_none, errW_some] <;> rfl), by repeat (first | (with_reducible first | exact HB.out | apply below_alloc | apply pw_below_drewN | apply below_drew1) | exact HB.out)⟩
                                  · rw [if_neg c28] at H
                                    have c28b0 : (t160 == 0) = false := beq_eq_false_iff_ne.mpr c28
                                    have c28b1 : (t160 != 0) = true := bne_iff_ne.mpr c28
                                    exact absurd (Option.some.inj (H.trans (congrArg some HR.out))) (by decide)
                                · rw [if_neg c27] at H
                                  have c27b0 : (t159 == 0) = false := beq_eq_false_iff_ne.mpr c27
                                  have c27b1 : (t159 != 0) = true := bne_iff_ne.mpr c27
                                  exact absurd (Option.some.inj (H.trans (congrArg some HR.out))) (by decide)
                              · rw [if_neg c26] at H
                                have c26b0 : (t161 == 4) = false := beq_eq_false_iff_ne.mpr c26
                                have c26b1 : (t161 != 4) = true := bne_iff_ne.mpr c26
                                exact absurd (Option.some.inj (H.trans (congrArg some HR.out))) (by decide)
                            · rw [if_neg c25] at H
                              have c25b0 : decide ((Int.tmod (wrap64 ((wrap64 ((Int.tmod a1 (wrap64 ((x5_1.length : Int) + 1))) + (x5_1.length : Int))) + 1)) (wrap64 ((x5_1.length : Int) + 1))) < (rd x6_1 x10_2)) = false := decide_eq_false c25
                              clear c25
                              by_cases c39 : t161 = 0
                              · rw [if_pos c39] at H
                                have c39b0 : (t161 == 0) = true := beq_iff_eq.mpr c39
                                have c39b1 : (t161 != 0) = false := bne_eq_false_iff_eq.mpr c39
                                clear c39
                                by_cases c40 : t159 = (rd l0 x10_2)
                                · rw [if_pos c40] at H
                                  have c40b0 : (t159 == (rd l0 x10_2)) = true := beq_iff_eq.mpr c40
                                  have c40b1 : (t159 != (rd l0 x10_2)) = false := bne_eq_false_iff_eq.mpr c40
                                  clear c40
                                  by_cases c41 : (wrap64 (x9_2 + t160)) = (rd x6_1 x10_2)
                                  · rw [if_pos c41] at H
                                    have c41b0 : ((wrap64 (x9_2 + t160)) == (rd x6_1 x10_2)) = true := beq_iff_eq.mpr c41
                                    have c41b1 : ((wrap64 (x9_2 + t160)) != (rd x6_1 x10_2)) = false := bne_eq_false_iff_eq.mpr c41
                                    clear c41
                                    have H' := Aside0.mk H
                                    clear H
                                    have q42 : ((Int.tmod (wrap64 ((wrap64 ((Int.tmod a1 (wrap64 ((x5_1.length : Int) + 1))) + (x5_1.length : Int))) + 1)) (wrap64 ((x5_1.length : Int) + 1))) : Int) ≤ ((x5_1.length : Int) : Int) := of_decide_eq_true (by first | (with_reducible assumption) | assumption)
                                    obtain ⟨i042, hi042, _, hsz42, _⟩ := info_parts info5
                                    have hroom42 : x5_1.length ≤ co17 := (Kd.R_reads' HO_5.out).2.1
                                    have hC42 : Kd.C (Kd.int .u8) _ Ao17 x5_1.length x5_1 := (Kd.R_reads' HO_5.out).2.2
                                    have ql42 : (x9_2 : Int) ≤ ((Int.tmod (wrap64 ((wrap64 ((Int.tmod a1 (wrap64 ((x5_1.length : Int) + 1))) + (x5_1.length : Int))) + 1)) (wrap64 ((x5_1.length : Int) + 1))) : Int) := of_decide_eq_true (by first | (with_reducible assumption) | assumption)
                                    have q042 : (0 : Int) ≤ (x9_2 : Int) := of_decide_eq_true (by first | (with_reducible assumption) | assumption)
                                    have hcut42 := cut_mid (P := Try.prog) 22 5 .i64 .i64 Try.underlying22 hi042 1 hsz42 Ao17 x5_1.length co17 x9_2 (Int.tmod (wrap64 ((wrap64 ((Int.tmod a1 (wrap64 ((x5_1.length : Int) + 1))) + (x5_1.length : Int))) + 1)) (wrap64 ((x5_1.length : Int) + 1))) q042 ql42 q42 hroom42
                                    have hr42 := Kd.C_mid (lo := (x9_2 : Int).toNat) (hi := ((Int.tmod (wrap64 ((wrap64 ((Int.tmod a1 (wrap64 ((x5_1.length : Int) + 1))) + (x5_1.length : Int))) + 1)) (wrap64 ((x5_1.length : Int) + 1))) : Int).toNat) (c := co17) hC42 (by omega) (by omega) hroom42
                                    obtain ⟨A42, hA42⟩ : ∃ A1, A1 = (if co17 = (x9_2 : Int).toNat then Ao17 else (Ao17 : Option Addr).map (·.add ((x9_2 : Int).toNat * 1))) := ⟨_, rfl⟩
                                    obtain ⟨c42, hc42⟩ : ∃ c1, c1 = co17 - (x9_2 : Int).toNat := ⟨_, rfl⟩
                                    have hy42 : y155.length = ((Int.tmod (wrap64 ((wrap64 ((Int.tmod a1 (wrap64 ((x5_1.length : Int) + 1))) + (x5_1.length : Int))) + 1)) (wrap64 ((x5_1.length : Int) + 1))) : Int).toNat - (x9_2 : Int).toNat := (by rw [Ny155.out, List.length_drop, List.length_take] <;> omega)
                                    rw [show ((x5_1).take ((Int.tmod (wrap64 ((wrap64 ((Int.tmod a1 (wrap64 ((x5_1.length : Int) + 1))) + (x5_1.length : Int))) + 1)) (wrap64 ((x5_1.length : Int) + 1))) : Int).toNat).drop (x9_2 : Int).toNat = y155 from Ny155.out.symm] at hr42
                                    replace hr42 : Kd.C (Kd.int .u8) _ A42 y155.length y155 := (by rw [hA42]; exact hr42)
                                    rw [← hy42, ← hA42, ← hc42] at hcut42
                                    have HR158 := Aside0.mk hr42
                                    have HC158 := Aside0.mk (show y155.length ≤ c42 from by rw [hy42, hc42]; exact Nat.sub_le_sub_right (Nat.le_trans (by omega) hroom42) _)
                                    clear hr42 hC42 hroom42 hi042 hsz42 hc42
                                    have KY42 := Aside0.mk hy42
                                    have KA42 := Aside0.mk hA42
                                    clear hy42 hA42
                                    have KL42 := Aside0.mk (show ((Int.tmod (wrap64 ((wrap64 ((Int.tmod a1 (wrap64 ((x5_1.length : Int) + 1))) + (x5_1.length : Int))) + 1)) (wrap64 ((x5_1.length : Int) + 1))) : Int).toNat ≤ x5_1.length from by omega)
                                    have KM42 := Aside0.mk (show (x9_2 : Int).toNat ≤ ((Int.tmod (wrap64 ((wrap64 ((Int.tmod a1 (wrap64 ((x5_1.length : Int) + 1))) + (x5_1.length : Int))) + 1)) (wrap64 ((x5_1.length : Int) + 1))) : Int).toNat from by omega)
                                    replace q42 := eq_true q42
                                    go_wp2_with (first | ((with_reducible refine gate_callee (f := 14) rfl ?_); refine goesL_ (some 60) rfl rfl Try.func14 (by kernel_rfl) rfl #[.slice A42 y155.length c42] rfl (by (try simp only [List.map_toArray, List.map_cons, List.map_nil]); first | done | rfl | (simp only [List.length_drop, List.length_take]; rfl)) ?_; (with_reducible refine (pack_IntOf.calls k2 _ _ y155 t159 t160 t161 _ ?side1 ?side2 A22.out).mono ?_); (case side1 => repeat (first | exact (by repeat (first | (with_reducible exact HR158.out) | (with_reducible refine Kd.C_alloc ?_ _) | (with_reducible refine Kd.C_drewN ?_ _) | (with_reducible refine Kd.C_drew ?_) | exact HR158.out)) | (with_reducible refine Kd.C_alloc ?_ _) | (with_reducible refine Kd.C_drewN ?_ _) | (with_reducible refine Kd.C_drew ?_))); (case side2 => exact HC158.out); rintro e w' ⟨rfl, ⟨nd, rfl⟩⟩; refine ⟨_, rfl, ?_⟩; obtain ⟨Ao43, co43, eo43⟩ := Kd.R_slice HO_6.out; subst eo43; have p162 : 0 ≤ (x10_2 : Int) := of_decide_eq_true (by first | (with_reducible assumption) | assumption); have q162 : x10_2 < (x6_1.length : Int) := of_decide_eq_true (by first | (with_reducible assumption) | assumption); obtain ⟨ad162, e162, hx162_0⟩ := Kd.at_int (Kd.R_reads' HO_6.out).2.2 x10_2 p162 q162; cases e162; replace p162 := eq_true p162; replace q162 := eq_true q162; have p164 : 0 ≤ (x10_2 : Int) := of_decide_eq_true (by first | (with_reducible assumption) | assumption); have q164 : x10_2 < (l0.length : Int) := of_decide_eq_true (by first | (with_reducible assumption) | assumption); obtain ⟨ad164, e164, hx164_0⟩ := Kd.at_int HR0.out x10_2 p164 q164; cases e164; replace hx164_0 := (HB.out.cell (World.block_lt_of_cell? w _ hx164_0)).trans hx164_0; replace p164 := eq_true p164; replace q164 := eq_true q164; have p165 : 0 ≤ (x10_2 : Int) := of_decide_eq_true (by first | (with_reducible assumption) | assumption); have q165 : x10_2 < (x6_1.length : Int) := of_decide_eq_true (by first | (with_reducible assumption) | assumption); obtain ⟨ad165, e165, hx165_0⟩ := Kd.at_int (Kd.R_reads' HO_6.out).2.2 x10_2 p165 q165; obtain rfl : ad162 = ad165 := (by injection e165); replace p165 := eq_true p165; replace q165 := eq_true q165; have p166 : 0 ≤ (x10_2 : Int) := of_decide_eq_true (by first | (with_reducible assumption) | assumption); have q166 : x10_2 < (x6_1.length : Int) := of_decide_eq_true (by first | (with_reducible assumption) | assumption); obtain ⟨ad166, e166, hx166_0⟩ := Kd.at_int (Kd.R_reads' HO_6.out).2.2 x10_2 p166 q166; obtain rfl : ad162 = ad166 := (by injection e166); replace p166 := eq_true p166; replace q166 := eq_true q166))
                                    go_roundg k2
                                    case measure => have := HK1.out; have := HK2.out; omega
                                    case rel => exact ⟨(rd x6_1 x10_2), (wrap64 (x10_2 + 1)), (by first | rfl | (simp; done) | (simp [*]; done)), (by first | rfl | (simp; done) | (simp [*]; done)), H', ⟨by have := HK1.out; have := HK2.out; omega⟩, ⟨by (with_reducible repeat (first | apply Kd.R_alloc | apply Kd.R_drewN | apply Kd.R_drew)); exact HO_5.out⟩, ⟨by (with_reducible repeat (first | apply Kd.R_alloc | apply Kd.R_drewN | apply Kd.R_drew)); exact HO_6.out⟩, ⟨by repeat (first | (with_reducible first | exact HB.out | apply below_alloc | apply pw_below_drewN | apply below_drew1) | exact HB.out)⟩⟩
                                  · rw [if_neg c41] at H
                                    have c41b0 : ((wrap64 (x9_2 + t160)) == (rd x6_1 x10_2)) = false := beq_eq_false_iff_ne.mpr c41
                                    have c41b1 : ((wrap64 (x9_2 + t160)) != (rd x6_1 x10_2)) = true := bne_iff_ne.mpr c41
                                    exact absurd (Option.some.inj (H.trans (congrArg some HR.out))) (by decide)
                                · rw [if_neg c40] at H
                                  have c40b0 : (t159 == (rd l0 x10_2)) = false := beq_eq_false_iff_ne.mpr c40
                                  have c40b1 : (t159 != (rd l0 x10_2)) = true := bne_iff_ne.mpr c40
                                  exact absurd (Option.some.inj (H.trans (congrArg some HR.out))) (by decide)
                              · rw [if_neg c39] at H
                                have c39b0 : (t161 == 0) = false := beq_eq_false_iff_ne.mpr c39
                                have c39b1 : (t161 != 0) = true := bne_iff_ne.mpr c39
                                exact absurd (Option.some.inj (H.trans (congrArg some HR.out))) (by decide)
                          · rw [if_neg c24] at H
                            exact absurd H (by simp)
                        · rw [if_neg c23] at H
                          exact absurd H (by simp)
                      · rw [if_neg c21] at H
                        exact absurd H (by simp)
                    · rw [if_neg c20] at H
                      exact absurd H (by simp)
                  · rw [if_neg c19] at H
                    exact absurd H (by simp)
                · rw [if_neg c18] at H
                  have c18b0 : decide (x10_2 < (l0.length : Int)) = false := decide_eq_false c18
                  clear c18
                  by_cases c50 : x9_2 = (x5_1.length : Int)
                  · rw [if_pos c50] at H
                    have c50b0 : (x9_2 == (x5_1.length : Int)) = true := beq_iff_eq.mpr c50
                    have c50b1 : (x9_2 != (x5_1.length : Int)) = false := bne_eq_false_iff_eq.mpr c50
                    clear c50
                    replace H := Option.bind_eq_some_iff.mp H
                    obtain ⟨t154, A510, H⟩ := H
                    replace H : (some t154) = some r := H
                    have A51 := Aside0.mk A510
                    clear A510
                    obtain rfl := Option.some.inj H
                    go_wp2_with (first | (go_at_call 11; (with_reducible refine (terrierlaw1_awake.calls k2  t154 _ A51.out).mono ?_); rintro e w52 ⟨rfl, hb⟩; have n0_ := Aside0.mk (Kd.R_below (by (with_reducible repeat (first | apply Kd.R_alloc | apply Kd.R_drewN | apply Kd.R_drew)); exact HO_5.out) hb); have n1_ := Aside0.mk (Kd.R_below (by (with_reducible repeat (first | apply Kd.R_alloc | apply Kd.R_drewN | apply Kd.R_drew)); exact HO_6.out) hb); have n2_ := Aside0.mk (below_step (by repeat (first | (with_reducible first | exact HB.out | apply below_alloc | apply pw_below_drewN | apply below_drew1) | exact HB.out)) hb); clear HO_5; clear HO_6; clear HB; have HO_5 := n0_; have HO_6 := n1_; have HB := n2_; clear n0_ n1_ n2_; (try clear hb); (try clear hb2); (try clear hk); (try clear hi)))
                    go_ret
                    exact ⟨by first | rfl | (simp [errW_none, errW_some] <;> rfl) | (simp [*, errW_none, errW_some] <;> rfl), by repeat (first | (with_reducible first | exact HB.out | apply below_alloc | apply pw_below_drewN | apply below_drew1) | exact HB.out)⟩
                  · rw [if_neg c50] at H
                    have c50b0 : (x9_2 == (x5_1.length : Int)) = false := beq_eq_false_iff_ne.mpr c50
                    have c50b1 : (x9_2 != (x5_1.length : Int)) = true := bne_iff_ne.mpr c50
                    exact absurd (Option.some.inj (H.trans (congrArg some HR.out))) (by decide)
/-- THE ONE PURE STATEMENT of terrierlaw1_PackMany: yours. -/
def terrierlaw1_PackMany.Pure : Prop := ∀ (l0 : List Int) (a1 : Int), l0.length ≤ maxLen → l0.length * 8 ≤ 140737488351232 → (∀ x ∈ l0, (Lit.int .i64 x).wf = true) → (Lit.int .i64 a1).wf = true → ∃ k, terrierlaw1_PackMany.f k l0 a1 = some true
theorem terrierlaw1_PackMany.walk (P : terrierlaw1_PackMany.Pure) (a0 : Option Addr) (len0 cap0 : Nat) (z0 : List Int) (a1 : Int) (w : World) (w0 : (a0 = none ∧ len0 = 0 ∧ cap0 = 0 ∧ z0 = []) ∨ ∃ x, a0 = some x ∧ len0 ≤ cap0 ∧ cap0 ≤ maxLen ∧ z0.length = cap0 ∧ (∀ i, i < z0.length → w.cell? (x.add i) = some (.int .i64 (z0.getD i 0))) ∧ ∀ n ∈ z0, (Lit.int .i64 n).wf = true) (y0 : len0 * 8 ≤ 140737488351232) (w1 : (Lit.int .i64 a1).wf = true) :
    Calls Try.prog 5 #[.slice a0 len0 cap0, .int .i64 a1] w fun e w' => e = .returned (.bool true) ∧ Below w.heap.size w w' := by
  obtain ⟨l0, rfl, hr0, hm0, hw0, hc0⟩ := ReadsInt.ofRowC w0
  obtain ⟨k, h⟩ := P l0 a1 hm0 y0 hw0 w1
  refine (terrierlaw1_PackMany.calls k _ _ l0 a1 true rfl w (Kd.C_of_reads (d := (0 : Int)) (h1 := fun _ => rfl) hr0) hc0 h).mono ?_
  rintro e w' ⟨rfl, hd⟩
  exact ⟨rfl, hd⟩
end Go.Proofs.Ytgjgandkcmjbnaa.PB
