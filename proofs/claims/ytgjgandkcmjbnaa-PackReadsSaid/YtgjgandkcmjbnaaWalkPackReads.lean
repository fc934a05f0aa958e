/- Proved: the law's function PackReads tells true wherever its printed form does, by its walk. -/
import Derived.Test.YtgjgandkcmjbnaaB3
import Derived.Test.YtgjgandkcmjbnaaB4
namespace Go.Proofs.Ytgjgandkcmjbnaa.PB
open Go.RowKit Go.Proofs.YtgjgandkcmjbnaaW.PrintWords Go.Proofs.YtgjgandkcmjbnaaW.PrintLast Go.Proofs.YtgjgandkcmjbnaaW.PrintMore
attribute [local go_sem] max2_int min2_int max_two min_two max_three min_three max_four min_four   -- for this text's walks alone
set_option linter.unusedVariables false
set_option linter.unusedSimpArgs false

/-! ### terrierlaw1_PackReads: function 7 -/
def terrierlaw1_PackReads.f (k : Nat) (l0 : List Int) : Option (Bool) := (pack_Var.f k l0).bind fun bt146 => ((terrierref1_Var.f k (strOfNums l0)).bind fun bt149 => ((pack_IntOf.f k l0).bind fun bt152 => ((terrierref1_IntOf.f k (strOfNums l0)).bind fun bt155 => (if bt146.1 = bt149.1 then (if bt146.2.1 = bt149.2.1 then (if bt146.2.2 = bt149.2.2 then (if bt152.1 = bt155.1 then (if bt152.2.1 = bt155.2.1 then (if bt152.2.2 = bt155.2.2 then ((terrierlaw1_awake.f k).bind fun t158 => (some t158)) else (some false)) else (some false)) else (some false)) else (some false)) else (some false)) else (some false)))))
theorem terrierlaw1_PackReads.mono : ∀ a0 k, LeO (terrierlaw1_PackReads.f k a0) (terrierlaw1_PackReads.f (k + 1) a0) := by
  intro a0 k
  unfold terrierlaw1_PackReads.f
  repeat' first
      | (with_reducible exact pack_IntOf.mono _ _)
      | (with_reducible exact pack_Var.mono _ _)
      | (with_reducible exact terrierlaw1_awake.mono _)
      | (with_reducible exact terrierref1_IntOf.mono _ _)
      | (with_reducible exact terrierref1_Var.mono _ _)
      | (with_reducible exact LeO.refl _)
      | (with_reducible exact LeO.none _)
      | (with_reducible refine LeO.ite ?_ ?_)
      | (with_reducible refine LeO.bind ?_ (fun _ => ?_))
      | exact pack_IntOf.mono _ _
      | exact pack_Var.mono _ _
      | exact terrierlaw1_awake.mono _
      | exact terrierref1_IntOf.mono _ _
      | exact terrierref1_Var.mono _ _
      | exact LeO.none _
      | refine LeO.ite ?_ ?_
      | refine LeO.bind ?_ (fun _ => ?_)
set_option maxHeartbeats 8000000 in
set_option maxRecDepth 100000 in
theorem terrierlaw1_PackReads.calls (k : Nat) (A0 : Option Addr) (c0 : Nat) (l0 : List Int) (r : Bool) (hr : r = true) (w : World) (hr0 : Kd.C (Kd.int .u8) w A0 l0.length l0) (hc0 : l0.length ≤ c0) (h : terrierlaw1_PackReads.f k l0 = some r) :
    Calls Try.prog 7 #[.slice A0 l0.length c0] w fun e w' => e = .returned (.bool r) ∧ Below w.heap.size w w' := by
  have HR0 := Aside0.mk hr0
  have HC0 := Aside0.mk hc0
  clear hr0 hc0
  have HB := Aside0.mk (Below.refl w.heap.size w)
  have HR := Aside0.mk hr
  clear hr
  have H : ((pack_Var.f k l0).bind fun bt146 => ((terrierref1_Var.f k (strOfNums l0)).bind fun bt149 => ((pack_IntOf.f k l0).bind fun bt152 => ((terrierref1_IntOf.f k (strOfNums l0)).bind fun bt155 => (if bt146.1 = bt149.1 then (if bt146.2.1 = bt149.2.1 then (if bt146.2.2 = bt149.2.2 then (if bt152.1 = bt155.1 then (if bt152.2.1 = bt155.2.1 then (if bt152.2.2 = bt155.2.2 then ((terrierlaw1_awake.f k).bind fun t158 => (some t158)) else (some false)) else (some false)) else (some false)) else (some false)) else (some false)) else (some false)))))) = some r := h
  clear h
  replace H := Option.bind_eq_some_iff.mp H
  obtain ⟨⟨t146, t147, t148⟩, A20, H⟩ := H
  replace H : ((terrierref1_Var.f k (strOfNums l0)).bind fun bt149 => ((pack_IntOf.f k l0).bind fun bt152 => ((terrierref1_IntOf.f k (strOfNums l0)).bind fun bt155 => (if t146 = bt149.1 then (if t147 = bt149.2.1 then (if t148 = bt149.2.2 then (if bt152.1 = bt155.1 then (if bt152.2.1 = bt155.2.1 then (if bt152.2.2 = bt155.2.2 then ((terrierlaw1_awake.f k).bind fun t158 => (some t158)) else (some false)) else (some false)) else (some false)) else (some false)) else (some false)) else (some false))))) = some r := H
  have A2 := Aside0.mk A20
  clear A20
  replace H := Option.bind_eq_some_iff.mp H
  obtain ⟨⟨t149, t150, t151⟩, A30, H⟩ := H
  replace H : ((pack_IntOf.f k l0).bind fun bt152 => ((terrierref1_IntOf.f k (strOfNums l0)).bind fun bt155 => (if t146 = t149 then (if t147 = t150 then (if t148 = t151 then (if bt152.1 = bt155.1 then (if bt152.2.1 = bt155.2.1 then (if bt152.2.2 = bt155.2.2 then ((terrierlaw1_awake.f k).bind fun t158 => (some t158)) else (some false)) else (some false)) else (some false)) else (some false)) else (some false)) else (some false)))) = some r := H
  have A3 := Aside0.mk A30
  clear A30
  replace H := Option.bind_eq_some_iff.mp H
  obtain ⟨⟨t152, t153, t154⟩, A40, H⟩ := H
  replace H : ((terrierref1_IntOf.f k (strOfNums l0)).bind fun bt155 => (if t146 = t149 then (if t147 = t150 then (if t148 = t151 then (if t152 = bt155.1 then (if t153 = bt155.2.1 then (if t154 = bt155.2.2 then ((terrierlaw1_awake.f k).bind fun t158 => (some t158)) else (some false)) else (some false)) else (some false)) else (some false)) else (some false)) else (some false))) = some r := H
  have A4 := Aside0.mk A40
  clear A40
  replace H := Option.bind_eq_some_iff.mp H
  obtain ⟨⟨t155, t156, t157⟩, A50, H⟩ := H
  replace H : (if t146 = t149 then (if t147 = t150 then (if t148 = t151 then (if t152 = t155 then (if t153 = t156 then (if t154 = t157 then ((terrierlaw1_awake.f k).bind fun t158 => (some t158)) else (some false)) else (some false)) else (some false)) else (some false)) else (some false)) else (some false)) = some r := H
  have A5 := Aside0.mk A50
  clear A50
  by_cases c6 : t146 = t149
  · rw [if_pos c6] at H
    have c6b0 : (t146 == t149) = true := beq_iff_eq.mpr c6
    have c6b1 : (t146 != t149) = false := bne_eq_false_iff_eq.mpr c6
    clear c6
    by_cases c7 : t147 = t150
    · rw [if_pos c7] at H
      have c7b0 : (t147 == t150) = true := beq_iff_eq.mpr c7
      have c7b1 : (t147 != t150) = false := bne_eq_false_iff_eq.mpr c7
      clear c7
      by_cases c8 : t148 = t151
      · rw [if_pos c8] at H
        have c8b0 : (t148 == t151) = true := beq_iff_eq.mpr c8
        have c8b1 : (t148 != t151) = false := bne_eq_false_iff_eq.mpr c8
        clear c8
        by_cases c9 : t152 = t155
        · rw [if_pos c9] at H
          have c9b0 : (t152 == t155) = true := beq_iff_eq.mpr c9
          have c9b1 : (t152 != t155) = false := bne_eq_false_iff_eq.mpr c9
          clear c9
          by_cases c10 : t153 = t156
          · rw [if_pos c10] at H
            have c10b0 : (t153 == t156) = true := beq_iff_eq.mpr c10
            have c10b1 : (t153 != t156) = false := bne_eq_false_iff_eq.mpr c10
            clear c10
            by_cases c11 : t154 = t157
            · rw [if_pos c11] at H
              have c11b0 : (t154 == t157) = true := beq_iff_eq.mpr c11
              have c11b1 : (t154 != t157) = false := bne_eq_false_iff_eq.mpr c11
              clear c11
              replace H := Option.bind_eq_some_iff.mp H
              obtain ⟨t158, A120, H⟩ := H
              replace H : (some t158) = some r := H
              have A12 := Aside0.mk A120
              clear A120
              obtain rfl := Option.some.inj H
              have hcA := fun (m : Nat) => Kd.C_string (P := Try.prog) (A := A0) (c := c0) Try.underlying22 Try.underlying5 Try.underlying9 (Kd.C_drewN HR0.out m)
              have hcB := fun (m n : Nat) => Kd.C_string (P := Try.prog) (A := A0) (c := c0) Try.underlying22 Try.underlying5 Try.underlying9 (Kd.C_drewN (Kd.C_drewN HR0.out m) n)
              have hcC := fun (m n o : Nat) => Kd.C_string (P := Try.prog) (A := A0) (c := c0) Try.underlying22 Try.underlying5 Try.underlying9 (Kd.C_drewN (Kd.C_drewN (Kd.C_drewN HR0.out m) n) o)
              go_enter Try.func7, Try.ntmps7
              go_wp2_with (first | ((with_reducible refine gate_callee (f := 17) rfl ?_); refine goesL_ (some 17) rfl rfl Try.func17 (by kernel_rfl) rfl #[.slice A0 l0.length c0] rfl (by (try simp only [List.map_toArray, List.map_cons, List.map_nil]); first | done | rfl | (simp only [List.length_drop, List.length_take]; rfl)) ?_; (with_reducible refine (pack_Var.calls k _ _ l0 t146 t147 t148 _ ?side1 ?side2 A2.out).mono ?_); (case side1 => repeat (first | exact HR0.out | (with_reducible refine Kd.C_alloc ?_ _) | (with_reducible refine Kd.C_drewN ?_ _) | (with_reducible refine Kd.C_drew ?_))); (case side2 => exact HC0.out); rintro e w' ⟨rfl, ⟨nd, rfl⟩⟩; refine ⟨_, rfl, ?_⟩; have hcv13 := Kd.C_string (P := Try.prog) (A := A0) (c := c0) Try.underlying22 Try.underlying5 Try.underlying9 HR0.out) | ((with_reducible refine gate_callee (f := 18) rfl ?_); refine goesL_ (some 24) rfl rfl Try.func18 (by kernel_rfl) rfl #[.string (strOfNums l0)] rfl (by (try simp only [List.map_toArray, List.map_cons, List.map_nil]); first | done | rfl | (simp only [List.length_drop, List.length_take]; rfl)) ?_; (with_reducible refine (terrierref1_Var.calls k (strOfNums l0) t149 t150 t151 _ A3.out).mono ?_); rintro e w' ⟨rfl, ⟨nd, rfl⟩⟩; refine ⟨_, rfl, ?_⟩) | ((with_reducible refine gate_callee (f := 14) rfl ?_); refine goesL_ (some 30) rfl rfl Try.func14 (by kernel_rfl) rfl #[.slice A0 l0.length c0] rfl (by (try simp only [List.map_toArray, List.map_cons, List.map_nil]); first | done | rfl | (simp only [List.length_drop, List.length_take]; rfl)) ?_; (with_reducible refine (pack_IntOf.calls k _ _ l0 t152 t153 t154 _ ?side1 ?side2 A4.out).mono ?_); (case side1 => repeat (first | exact HR0.out | (with_reducible refine Kd.C_alloc ?_ _) | (with_reducible refine Kd.C_drewN ?_ _) | (with_reducible refine Kd.C_drew ?_))); (case side2 => exact HC0.out); rintro e w' ⟨rfl, ⟨nd, rfl⟩⟩; refine ⟨_, rfl, ?_⟩; have hcv14 := Kd.C_string (P := Try.prog) (A := A0) (c := c0) Try.underlying22 Try.underlying5 Try.underlying9 HR0.out) | ((with_reducible refine gate_callee (f := 19) rfl ?_); refine goesL_ (some 37) rfl rfl Try.func19 (by kernel_rfl) rfl #[.string (strOfNums l0)] rfl (by (try simp only [List.map_toArray, List.map_cons, List.map_nil]); first | done | rfl | (simp only [List.length_drop, List.length_take]; rfl)) ?_; (with_reducible refine (terrierref1_IntOf.calls k (strOfNums l0) t155 t156 t157 _ A5.out).mono ?_); rintro e w' ⟨rfl, ⟨nd, rfl⟩⟩; refine ⟨_, rfl, ?_⟩) | (go_at_call 11; (with_reducible refine (terrierlaw1_awake.calls k  t158 _ A12.out).mono ?_); rintro e w15 ⟨rfl, hb⟩; have n0_ := Aside0.mk (below_step (by repeat (first | (with_reducible first | exact HB.out | apply below_alloc | apply pw_below_drewN | apply below_drew1) | exact HB.out)) hb); clear HB; have HB := n0_; clear n0_; (try clear hb); (try clear hb2); (try clear hk); (try clear hi)))
              go_ret
              exact ⟨by first | rfl | (simp [errW_none, errW_some] <;> rfl) | (simp [*, errW_none, errW_some] <;> rfl), by repeat (first | (with_reducible first | exact HB.out | apply below_alloc | apply pw_below_drewN | apply below_drew1) | exact HB.out)⟩
            · rw [if_neg c11] at H
              have c11b0 : (t154 == t157) = false := beq_eq_false_iff_ne.mpr c11
              have c11b1 : (t154 != t157) = true := bne_iff_ne.mpr c11
              exact absurd (Option.some.inj (H.trans (congrArg some HR.out))) (by decide)
          · rw [if_neg c10] at H
            have c10b0 : (t153 == t156) = false := beq_eq_false_iff_ne.mpr c10
            have c10b1 : (t153 != t156) = true := bne_iff_ne.mpr c10
            exact absurd (Option.some.inj (H.trans (congrArg some HR.out))) (by decide)
        · rw [if_neg c9] at H
          have c9b0 : (t152 == t155) = false := beq_eq_false_iff_ne.mpr c9
          have c9b1 : (t152 != t155) = true := bne_iff_ne.mpr c9
          exact absurd (Option.some.inj (H.trans (congrArg some HR.out))) (by decide)
      · rw [if_neg c8] at H
        have c8b0 : (t148 == t151) = false := beq_eq_false_iff_ne.mpr c8
        have c8b1 : (t148 != t151) = true := bne_iff_ne.mpr c8
        exact absurd (Option.some.inj (H.trans (congrArg some HR.out))) (by decide)
    · rw [if_neg c7] at H
      have c7b0 : (t147 == t150) = false := beq_eq_false_iff_ne.mpr c7
      have c7b1 : (t147 != t150) = true := bne_iff_ne.mpr c7
      exact absurd (Option.some.inj (H.trans (congrArg some HR.out))) (by decide)
  · rw [if_neg c6] at H
    have c6b0 : (t146 == t149) = false := beq_eq_false_iff_ne.mpr c6
    have c6b1 : (t146 != t149) = true := bne_iff_ne.mpr c6
    exact absurd (Option.some.inj (H.trans (congrArg some HR.out))) (by decide)
/-- THE ONE PURE STATEMENT of terrierlaw1_PackReads: yours. -/
def terrierlaw1_PackReads.Pure : Prop := ∀ (l0 : List Int), l0.length ≤ maxLen → l0.length * 1 ≤ 140737488351232 → (∀ x ∈ l0, (Lit.int .u8 x).wf = true) → ∃ k, terrierlaw1_PackReads.f k l0 = some true
theorem terrierlaw1_PackReads.walk (P : terrierlaw1_PackReads.Pure) (a0 : Option Addr) (len0 cap0 : Nat) (z0 : List Int) (w : World) (w0 : (a0 = none ∧ len0 = 0 ∧ cap0 = 0 ∧ z0 = []) ∨ ∃ x, a0 = some x ∧ len0 ≤ cap0 ∧ cap0 ≤ maxLen ∧ z0.length = cap0 ∧ (∀ i, i < z0.length → w.cell? (x.add i) = some (.int .u8 (z0.getD i 0))) ∧ ∀ n ∈ z0, (Lit.int .u8 n).wf = true) (y0 : len0 * 1 ≤ 140737488351232) :
    Calls Try.prog 7 #[.slice a0 len0 cap0] w fun e w' => e = .returned (.bool true) ∧ Below w.heap.size w w' := by
  obtain ⟨l0, rfl, hr0, hm0, hw0, hc0⟩ := ReadsInt.ofRowC w0
  obtain ⟨k, h⟩ := P l0 hm0 y0 hw0
  refine (terrierlaw1_PackReads.calls k _ _ l0 true rfl w (Kd.C_of_reads (d := (0 : Int)) (h1 := fun _ => rfl) hr0) hc0 h).mono ?_
  rintro e w' ⟨rfl, hd⟩
  exact ⟨rfl, hd⟩
end Go.Proofs.Ytgjgandkcmjbnaa.PB
