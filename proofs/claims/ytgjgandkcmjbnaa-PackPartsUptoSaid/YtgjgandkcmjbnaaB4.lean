/- Proved: what IntOf, and the reference's Var and IntOf, tell, by their walks; no condition. -/
import Derived.Test.YtgjgandkcmjbnaaB1
namespace Go.Proofs.Ytgjgandkcmjbnaa.PB
open Go.RowKit Go.Proofs.YtgjgandkcmjbnaaW.PrintWords Go.Proofs.YtgjgandkcmjbnaaW.PrintLast Go.Proofs.YtgjgandkcmjbnaaW.PrintMore
attribute [local go_sem] max2_int min2_int max_two min_two max_three min_three max_four min_four   -- for this text's walks alone
set_option linter.unusedVariables false
set_option linter.unusedSimpArgs false

/-! ### pack_IntOf: function 14 -/
def pack_IntOf.f (k : Nat) (l0 : List Int) : Option (Int × Int × Int) := (pack_Var.f k l0).bind fun bt140 => (if bt140.2.2 = 0 then (if (Go.bits .and .u64 bt140.1 1) > 0 then (some (wrap64 ((wrap64 (-(wrap64 (bt140.1 / 2)))) - 1), bt140.2.1, 0)) else (some (wrap64 (bt140.1 / 2), bt140.2.1, 0))) else (some (0, 0, bt140.2.2)))
theorem pack_IntOf.mono : ∀ a0 k, LeO (pack_IntOf.f k a0) (pack_IntOf.f (k + 1) a0) := by
  intro a0 k
  unfold pack_IntOf.f
  repeat' first
      | (with_reducible exact pack_Var.mono _ _)
      | (with_reducible exact LeO.refl _)
      | (with_reducible exact LeO.none _)
      | (with_reducible refine LeO.ite ?_ ?_)
      | (with_reducible refine LeO.bind ?_ (fun _ => ?_))
      | exact pack_Var.mono _ _
      | exact LeO.none _
      | refine LeO.ite ?_ ?_
      | refine LeO.bind ?_ (fun _ => ?_)
set_option maxHeartbeats 8000000 in
set_option maxRecDepth 100000 in
theorem pack_IntOf.calls (k : Nat) (A0 : Option Addr) (c0 : Nat) (l0 : List Int) (r1 : Int) (r2 : Int) (r3 : Int) (w : World) (hr0 : Kd.C (Kd.int .u8) w A0 l0.length l0) (hc0 : l0.length ≤ c0) (h : pack_IntOf.f k l0 = some (r1, r2, r3)) :
    Calls Try.prog 14 #[.slice A0 l0.length c0] w fun e w' => e = .returned (.tuple #[.int .i64 r1, .int .i64 r2, .int .i64 r3]) ∧ Drawn0 w w' := by
  have HR0 := Aside0.mk hr0
  have HC0 := Aside0.mk hc0
  clear hr0 hc0
  have H : ((pack_Var.f k l0).bind fun bt140 => (if bt140.2.2 = 0 then (if (Go.bits .and .u64 bt140.1 1) > 0 then (some (wrap64 ((wrap64 (-(wrap64 (bt140.1 / 2)))) - 1), bt140.2.1, 0)) else (some (wrap64 (bt140.1 / 2), bt140.2.1, 0))) else (some (0, 0, bt140.2.2)))) = some (r1, r2, r3) := h
  clear h
  replace H := Option.bind_eq_some_iff.mp H
  obtain ⟨⟨t140, t141, t142⟩, A20, H⟩ := H
  replace H : (if t142 = 0 then (if (Go.bits .and .u64 t140 1) > 0 then (some (wrap64 ((wrap64 (-(wrap64 (t140 / 2)))) - 1), t141, 0)) else (some (wrap64 (t140 / 2), t141, 0))) else (some (0, 0, t142))) = some (r1, r2, r3) := H
  have A2 := Aside0.mk A20
  clear A20
  by_cases c3 : t142 = 0
  · rw [if_pos c3] at H
    have c3b0 : (t142 == 0) = true := beq_iff_eq.mpr c3
    have c3b1 : (t142 != 0) = false := bne_eq_false_iff_eq.mpr c3
    clear c3
    by_cases c4 : (Go.bits .and .u64 t140 1) > 0
    · rw [if_pos c4] at H
      have c4b0 : decide (0 < (Go.bits .and .u64 t140 1)) = true := decide_eq_true c4
      clear c4
      simp only [Option.some.injEq, Prod.mk.injEq] at H
      obtain ⟨rfl, rfl, rfl⟩ := H
      go_enter Try.func14, Try.ntmps14
      go_wp2_with (first | ((with_reducible refine gate_callee (f := 17) rfl ?_); refine goesL_ (some 8) rfl rfl Try.func17 (by kernel_rfl) rfl #[.slice A0 l0.length c0] rfl (by (try simp only [List.map_toArray, List.map_cons, List.map_nil]); first | done | rfl | (simp only [List.length_drop, List.length_take]; rfl)) ?_; (with_reducible refine (pack_Var.calls k _ _ l0 t140 t141 t142 _ ?side1 ?side2 A2.out).mono ?_); (case side1 => repeat (first | exact HR0.out | (with_reducible refine Kd.C_alloc ?_ _) | (with_reducible refine Kd.C_drewN ?_ _) | (with_reducible refine Kd.C_drew ?_))); (case side2 => exact HC0.out); rintro e w' ⟨rfl, ⟨nd, rfl⟩⟩; refine ⟨_, rfl, ?_⟩))
      go_ret3
      exact ⟨by first | rfl | (simp; done) | (simp [*]; done), by repeat (first | exact Drawn0.refl _ | apply Drawn0.step)⟩
    · rw [if_neg c4] at H
      have c4b0 : decide (0 < (Go.bits .and .u64 t140 1)) = false := decide_eq_false c4
      clear c4
      simp only [Option.some.injEq, Prod.mk.injEq] at H
      obtain ⟨rfl, rfl, rfl⟩ := H
      go_enter Try.func14, Try.ntmps14
      go_wp2_with (first | ((with_reducible refine gate_callee (f := 17) rfl ?_); refine goesL_ (some 8) rfl rfl Try.func17 (by kernel_rfl) rfl #[.slice A0 l0.length c0] rfl (by (try simp only [List.map_toArray, List.map_cons, List.map_nil]); first | done | rfl | (simp only [List.length_drop, List.length_take]; rfl)) ?_; (with_reducible refine (pack_Var.calls k _ _ l0 t140 t141 t142 _ ?side1 ?side2 A2.out).mono ?_); (case side1 => repeat (first | exact HR0.out | (with_reducible refine Kd.C_alloc ?_ _) | (with_reducible refine Kd.C_drewN ?_ _) | (with_reducible refine Kd.C_drew ?_))); (case side2 => exact HC0.out); rintro e w' ⟨rfl, ⟨nd, rfl⟩⟩; refine ⟨_, rfl, ?_⟩))
      go_ret3
      exact ⟨by first | rfl | (simp; done) | (simp [*]; done), by repeat (first | exact Drawn0.refl _ | apply Drawn0.step)⟩
  · rw [if_neg c3] at H
    have c3b0 : (t142 == 0) = false := beq_eq_false_iff_ne.mpr c3
    have c3b1 : (t142 != 0) = true := bne_iff_ne.mpr c3
    simp only [Option.some.injEq, Prod.mk.injEq] at H
    obtain ⟨rfl, rfl, rfl⟩ := H
    go_enter Try.func14, Try.ntmps14
    go_wp2_with (first | ((with_reducible refine gate_callee (f := 17) rfl ?_); refine goesL_ (some 8) rfl rfl Try.func17 (by kernel_rfl) rfl #[.slice A0 l0.length c0] rfl (by (try simp only [List.map_toArray, List.map_cons, List.map_nil]); first | done | rfl | (simp only [List.length_drop, List.length_take]; rfl)) ?_; (with_reducible refine (pack_Var.calls k _ _ l0 t140 t141 t142 _ ?side1 ?side2 A2.out).mono ?_); (case side1 => repeat (first | exact HR0.out | (with_reducible refine Kd.C_alloc ?_ _) | (with_reducible refine Kd.C_drewN ?_ _) | (with_reducible refine Kd.C_drew ?_))); (case side2 => exact HC0.out); rintro e w' ⟨rfl, ⟨nd, rfl⟩⟩; refine ⟨_, rfl, ?_⟩))
    go_ret3
    exact ⟨by first | rfl | (simp; done) | (simp [*]; done), by repeat (first | exact Drawn0.refl _ | apply Drawn0.step)⟩

/-! ### terrierref1_Var: function 18 -/
mutual
def terrierref1_Var.l0 : Nat → ByteArray → Int → Int → Option (Int × Int × Int)
  | 0, _, _, _ => none
  | k + 1, x0, x5, x6 => if x6 < 10 then (if x6 = (x0.size : Int) then (some (0, 0, 4)) else (if x6 = 9 then (if 0 ≤ x6 then (if x6 < (x0.size : Int) then (terrierref1_Var.j1 k x0 x5 x6 (decide ((bt x0 x6) > 1))) else (none)) else (none)) else (terrierref1_Var.j1 k x0 x5 x6 false))) else (some (0, 0, 5))
def terrierref1_Var.j1 : Nat → ByteArray → Int → Int → Bool → Option (Int × Int × Int)
  | 0, _, _, _, _ => none
  | k + 1, x0, x5, x6, x22 => if x22 = true then (some (0, 0, 5)) else (if 0 ≤ x6 then (if x6 < (x0.size : Int) then (if 0 ≤ (wrap64 (7 * x6)) then (if (bt x0 x6) < 128 then (if (bt x0 x6) = 0 then (if x6 > 0 then (some (0, 0, 3)) else (some (Go.bits .or .u64 x5 (shl .u64 (IntKind.u64.wrap (Go.bits .and .u8 (bt x0 x6) 127)) (wrap64 (7 * x6))), wrap64 (x6 + 1), 0))) else (some (Go.bits .or .u64 x5 (shl .u64 (IntKind.u64.wrap (Go.bits .and .u8 (bt x0 x6) 127)) (wrap64 (7 * x6))), wrap64 (x6 + 1), 0))) else (terrierref1_Var.l0 k x0 (Go.bits .or .u64 x5 (shl .u64 (IntKind.u64.wrap (Go.bits .and .u8 (bt x0 x6) 127)) (wrap64 (7 * x6)))) (wrap64 (x6 + 1)))) else (none)) else (none)) else (none))
end
def terrierref1_Var.f (k : Nat) (a0 : ByteArray) : Option (Int × Int × Int) := terrierref1_Var.l0 k a0 0 0
theorem terrierref1_Var.mono_l : ∀ k, (∀ y0 y1 y2, LeO (terrierref1_Var.l0 k y0 y1 y2) (terrierref1_Var.l0 (k + 1) y0 y1 y2)) ∧ (∀ y0 y1 y2 y3, LeO (terrierref1_Var.j1 k y0 y1 y2 y3) (terrierref1_Var.j1 (k + 1) y0 y1 y2 y3))
  | 0 => ⟨fun _ _ _ r h => by simp [terrierref1_Var.l0] at h, fun _ _ _ _ r h => by simp [terrierref1_Var.j1] at h⟩
  | k + 1 => by
    obtain ⟨ih0, ih1⟩ := terrierref1_Var.mono_l k
    refine ⟨?_, ?_⟩
    · intro y0 y1 y2
      unfold terrierref1_Var.l0
      repeat' first
      | (with_reducible exact ih0 _ _ _)
      | (with_reducible exact ih1 _ _ _ _)
      | (with_reducible exact LeO.refl _)
      | (with_reducible exact LeO.none _)
      | (with_reducible refine LeO.ite ?_ ?_)
      | (with_reducible refine LeO.bind ?_ (fun _ => ?_))
      | exact ih0 _ _ _
      | exact ih1 _ _ _ _
      | exact LeO.none _
      | refine LeO.ite ?_ ?_
      | refine LeO.bind ?_ (fun _ => ?_)
    · intro y0 y1 y2 y3
      unfold terrierref1_Var.j1
      repeat' first
      | (with_reducible exact ih0 _ _ _)
      | (with_reducible exact ih1 _ _ _ _)
      | (with_reducible exact LeO.refl _)
      | (with_reducible exact LeO.none _)
      | (with_reducible refine LeO.ite ?_ ?_)
      | (with_reducible refine LeO.bind ?_ (fun _ => ?_))
      | exact ih0 _ _ _
      | exact ih1 _ _ _ _
      | exact LeO.none _
      | refine LeO.ite ?_ ?_
      | refine LeO.bind ?_ (fun _ => ?_)
theorem terrierref1_Var.mono : ∀ a0 k, LeO (terrierref1_Var.f k a0) (terrierref1_Var.f (k + 1) a0) := by
  intro a0 k
  obtain ⟨ih0, ih1⟩ := terrierref1_Var.mono_l k
  unfold terrierref1_Var.f
  repeat' first
      | (with_reducible exact ih0 _ _ _)
      | (with_reducible exact ih1 _ _ _ _)
      | (with_reducible exact LeO.refl _)
      | (with_reducible exact LeO.none _)
      | (with_reducible refine LeO.ite ?_ ?_)
      | (with_reducible refine LeO.bind ?_ (fun _ => ?_))
      | exact ih0 _ _ _
      | exact ih1 _ _ _ _
      | exact LeO.none _
      | refine LeO.ite ?_ ?_
      | refine LeO.bind ?_ (fun _ => ?_)
set_option maxHeartbeats 8000000 in
set_option maxRecDepth 100000 in
theorem terrierref1_Var.calls (k : Nat) (a0 : ByteArray) (r1 : Int) (r2 : Int) (r3 : Int) (w : World) (h : terrierref1_Var.f k a0 = some (r1, r2, r3)) :
    Calls Try.prog 18 #[.string a0] w fun e w' => e = .returned (.tuple #[.int .u64 r1, .int .i64 r2, .int .i64 r3]) ∧ Drawn0 w w' := by
  have H : (terrierref1_Var.l0 k a0 0 0) = some (r1, r2, r3) := h
  clear h
  have H' := Aside0.mk H
  clear H
  go_enter Try.func18, Try.ntmps18
  go_wp2
  go_loopg [5, 6] k (fun kq v5 v6 w' => ∃ (x5_1 : Int) (x6_1 : Int), v5 = .int .u64 x5_1 ∧ v6 = .int .i64 x6_1 ∧ Aside0 (terrierref1_Var.l0 kq a0 x5_1 x6_1 = some (r1, r2, r3)) ∧ Aside0 (kq ≤ k) ∧ Drawn0 w w')
  case atStart => exact ⟨(0), (0), (by first | rfl | (simp; done) | (simp [*]; done)), (by first | rfl | (simp; done) | (simp [*]; done)), H', ⟨Nat.le_refl _⟩, by repeat (first | exact Drawn0.refl _ | apply Drawn0.step)⟩
  case round =>
    clear H'
    try clear c1
    obtain ⟨x5_1, x6_1, rfl, rfl, HA, HK1, ⟨m1, rfl⟩⟩ := hrel
    cases gk with
    | zero => exact absurd HA.out (by simp [terrierref1_Var.l0])
    | succ k1 =>
      have H := HA.out
      clear HA
      simp only [terrierref1_Var.l0] at H
      by_cases c2 : x6_1 < 10
      · rw [if_pos c2] at H
        have c2b0 : decide (x6_1 < 10) = true := decide_eq_true c2
        clear c2
        by_cases c3 : x6_1 = (a0.size : Int)
        · rw [if_pos c3] at H
          have c3b0 : (x6_1 == (a0.size : Int)) = true := beq_iff_eq.mpr c3
          have c3b1 : (x6_1 != (a0.size : Int)) = false := bne_eq_false_iff_eq.mpr c3
          clear c3
          simp only [Option.some.injEq, Prod.mk.injEq] at H
          obtain ⟨rfl, rfl, rfl⟩ := H
          go_wp2
          go_ret3
          exact ⟨by first | rfl | (simp; done) | (simp [*]; done), by repeat (first | exact Drawn0.refl _ | apply Drawn0.step)⟩
        · rw [if_neg c3] at H
          have c3b0 : (x6_1 == (a0.size : Int)) = false := beq_eq_false_iff_ne.mpr c3
          have c3b1 : (x6_1 != (a0.size : Int)) = true := bne_iff_ne.mpr c3
          have HC4 := Aside0.mk H
          clear H
          go_upto_region 7 with (fail)
          go_cut [22] (fun v22 wc => ∃ (kq : Nat) (x22_3 : Bool), v22 = .bool x22_3 ∧ Aside0 (terrierref1_Var.j1 kq a0 x5_1 x6_1 x22_3 = some (r1, r2, r3)) ∧ Aside0 (kq ≤ k1) ∧ Drawn0 w wc)
          case first =>
            have H := HC4.out
            clear HC4
            by_cases c5 : x6_1 = 9
            · rw [if_pos c5] at H
              have c5b0 : (x6_1 == 9) = true := beq_iff_eq.mpr c5
              have c5b1 : (x6_1 != 9) = false := bne_eq_false_iff_eq.mpr c5
              clear c5
              (first | rw [c5b0] | (simp only [i64_w, i32_w]; rw [c5b0]) | skip)
              by_cases c6 : 0 ≤ x6_1
              · rw [if_pos c6] at H
                have c6b0 : decide (0 ≤ x6_1) = true := decide_eq_true c6
                clear c6
                by_cases c7 : x6_1 < (a0.size : Int)
                · rw [if_pos c7] at H
                  have c7b0 : decide (x6_1 < (a0.size : Int)) = true := decide_eq_true c7
                  clear c7
                  have H' := Aside0.mk H
                  clear H
                  have p8 : 0 ≤ (x6_1 : Int) := of_decide_eq_true (by first | (with_reducible assumption) | assumption)
                  have q8 : x6_1 < (a0.size : Int) := of_decide_eq_true (by first | (with_reducible assumption) | assumption)
                  have hx8 := bt_at a0 x6_1
                  replace p8 := eq_true p8
                  replace q8 := eq_true q8
                  go_wp2
                  go_meet
                  case rel => exact ⟨_, (decide ((bt a0 x6_1) > 1)), (by first | rfl | (simp; done) | (simp [*]; done)), H', ⟨by have := HK1.out; first | omega | exact Nat.le_refl _⟩, by repeat (first | exact Drawn0.refl _ | apply Drawn0.step)⟩
                · rw [if_neg c7] at H
                  exact absurd H (by simp)
              · rw [if_neg c6] at H
                exact absurd H (by simp)
            · rw [if_neg c5] at H
              have c5b0 : (x6_1 == 9) = false := beq_eq_false_iff_ne.mpr c5
              have c5b1 : (x6_1 != 9) = true := bne_iff_ne.mpr c5
              (first | rw [c5b0] | (simp only [i64_w, i32_w]; rw [c5b0]) | skip)
              have H' := Aside0.mk H
              clear H
              go_wp2
              go_meet
              case rel => exact ⟨_, (false), (by first | rfl | (simp; done) | (simp [*]; done)), H', ⟨by have := HK1.out; first | omega | exact Nat.le_refl _⟩, by repeat (first | exact Drawn0.refl _ | apply Drawn0.step)⟩
          case rest =>
            clear HC4
            try clear c1
            try clear c2
            try clear c2b0
            try clear p2
            try clear c3
            try clear c3b0
            try clear c3b1
            try clear c5
            try clear c5b0
            try clear c5b1
            try clear c6
            try clear c6b0
            try clear c7
            try clear c7b0
            try clear p8
            try clear q8
            try clear hx8
            try clear p8
            try clear q8
            obtain ⟨kq, x22_3, rfl, HA, HJ3, ⟨mc3, rfl⟩⟩ := hcut
            cases kq with
            | zero => exact absurd HA.out (by simp [terrierref1_Var.j1])
            | succ kj3 =>
              have H := HA.out
              clear HA
              simp only [terrierref1_Var.j1] at H
              by_cases c9 : x22_3 = true
              · subst c9
                have H1 : (some (0, 0, 5)) = some (r1, r2, r3) := by rw [if_pos rfl] at H; exact H
                clear H
                have H := H1
                clear H1
                simp only [Option.some.injEq, Prod.mk.injEq] at H
                obtain ⟨rfl, rfl, rfl⟩ := H
                go_wp2
                go_ret3
                exact ⟨by first | rfl | (simp; done) | (simp [*]; done), by repeat (first | exact Drawn0.refl _ | apply Drawn0.step)⟩
              · replace c9 := Bool.eq_false_iff.mpr c9
                subst c9
                have H1 : (if 0 ≤ x6_1 then (if x6_1 < (a0.size : Int) then (if 0 ≤ (wrap64 (7 * x6_1)) then (if (bt a0 x6_1) < 128 then (if (bt a0 x6_1) = 0 then (if x6_1 > 0 then (some (0, 0, 3)) else (some (Go.bits .or .u64 x5_1 (shl .u64 (IntKind.u64.wrap (Go.bits .and .u8 (bt a0 x6_1) 127)) (wrap64 (7 * x6_1))), wrap64 (x6_1 + 1), 0))) else (some (Go.bits .or .u64 x5_1 (shl .u64 (IntKind.u64.wrap (Go.bits .and .u8 (bt a0 x6_1) 127)) (wrap64 (7 * x6_1))), wrap64 (x6_1 + 1), 0))) else (terrierref1_Var.l0 kj3 a0 (Go.bits .or .u64 x5_1 (shl .u64 (IntKind.u64.wrap (Go.bits .and .u8 (bt a0 x6_1) 127)) (wrap64 (7 * x6_1)))) (wrap64 (x6_1 + 1)))) else (none)) else (none)) else (none)) = some (r1, r2, r3) := by rw [if_neg (show ¬ (false = true) by decide)] at H; exact H
                clear H
                have H := H1
                clear H1
                by_cases c10 : 0 ≤ x6_1
                · rw [if_pos c10] at H
                  have c10b0 : decide (0 ≤ x6_1) = true := decide_eq_true c10
                  clear c10
                  by_cases c11 : x6_1 < (a0.size : Int)
                  · rw [if_pos c11] at H
                    have c11b0 : decide (x6_1 < (a0.size : Int)) = true := decide_eq_true c11
                    clear c11
                    obtain ⟨ji13, hji13⟩ : ∃ j_ : Int, (wrap64 (7 * x6_1)) = j_ := ⟨_, rfl⟩
                    replace H : (if 0 ≤ (ji13) then (if (bt a0 x6_1) < 128 then (if (bt a0 x6_1) = 0 then (if x6_1 > 0 then (some (0, 0, 3)) else (some (Go.bits .or .u64 x5_1 (shl .u64 (IntKind.u64.wrap (Go.bits .and .u8 (bt a0 x6_1) 127)) (ji13)), wrap64 (x6_1 + 1), 0))) else (some (Go.bits .or .u64 x5_1 (shl .u64 (IntKind.u64.wrap (Go.bits .and .u8 (bt a0 x6_1) 127)) (ji13)), wrap64 (x6_1 + 1), 0))) else (terrierref1_Var.l0 kj3 a0 (Go.bits .or .u64 x5_1 (shl .u64 (IntKind.u64.wrap (Go.bits .and .u8 (bt a0 x6_1) 127)) (ji13))) (wrap64 (x6_1 + 1)))) else (none)) = some (r1, r2, r3) := by first | (rw [hji13] at H; exact H) | (simp only [hji13] at H ⊢; exact H)
                    have hji13w : (IntKind.i64.wrap (7 * x6_1)) = ji13 := (i64_w _).trans hji13
                    by_cases c14 : 0 ≤ (ji13)
                    · rw [if_pos c14] at H
                      have c14b0 := eq_true c14
                      have c14b1 : decide (0 ≤ (ji13)) = true := decide_eq_true c14
                      clear c14
                      obtain ⟨ji15, hji15⟩ : ∃ j_ : Int, (shl .u64 (IntKind.u64.wrap (Go.bits .and .u8 (bt a0 x6_1) 127)) (ji13)) = j_ := ⟨_, rfl⟩
                      replace H : (if (bt a0 x6_1) < 128 then (if (bt a0 x6_1) = 0 then (if x6_1 > 0 then (some (0, 0, 3)) else (some (Go.bits .or .u64 x5_1 (ji15), wrap64 (x6_1 + 1), 0))) else (some (Go.bits .or .u64 x5_1 (ji15), wrap64 (x6_1 + 1), 0))) else (terrierref1_Var.l0 kj3 a0 (Go.bits .or .u64 x5_1 (ji15)) (wrap64 (x6_1 + 1)))) = some (r1, r2, r3) := by first | (rw [hji15] at H; exact H) | (simp only [hji15] at H ⊢; exact H)
                      have hji15_ : (IntKind.u64.wrap ((IntKind.u64.wrap (Go.bits .and .u8 (bt a0 x6_1) 127)) * 2 ^ min (ji13).toNat 64)) = ji15 := hji15
                      have hji15z : (ji13) ≤ 64 → (IntKind.u64.wrap ((IntKind.u64.wrap (Go.bits .and .u8 (bt a0 x6_1) 127)) * 2 ^ (ji13).toNat)) = ji15 := shl_small hji15
                      by_cases c17 : (bt a0 x6_1) < 128
                      · rw [if_pos c17] at H
                        have c17b0 : decide ((bt a0 x6_1) < 128) = true := decide_eq_true c17
                        clear c17
                        by_cases c19 : (bt a0 x6_1) = 0
                        · rw [if_pos c19] at H
                          have c19b0 : ((bt a0 x6_1) == 0) = true := beq_iff_eq.mpr c19
                          have c19b1 : ((bt a0 x6_1) != 0) = false := bne_eq_false_iff_eq.mpr c19
                          clear c19
                          by_cases c20 : x6_1 > 0
                          · rw [if_pos c20] at H
                            have c20b0 : decide (0 < x6_1) = true := decide_eq_true c20
                            clear c20
                            simp only [Option.some.injEq, Prod.mk.injEq] at H
                            obtain ⟨rfl, rfl, rfl⟩ := H
                            have p12 : 0 ≤ (x6_1 : Int) := of_decide_eq_true (by first | (with_reducible assumption) | assumption)
                            have q12 : x6_1 < (a0.size : Int) := of_decide_eq_true (by first | (with_reducible assumption) | assumption)
                            have hx12 := bt_at a0 x6_1
                            replace p12 := eq_true p12
                            replace q12 := eq_true q12
                            have p16 : 0 ≤ (x6_1 : Int) := of_decide_eq_true (by first | (with_reducible assumption) | assumption)
                            have q16 : x6_1 < (a0.size : Int) := of_decide_eq_true (by first | (with_reducible assumption) | assumption)
                            have hx16 := bt_at a0 x6_1
                            replace p16 := eq_true p16
                            replace q16 := eq_true q16
                            have p18 : 0 ≤ (x6_1 : Int) := of_decide_eq_true (by first | (with_reducible assumption) | assumption)
                            have q18 : x6_1 < (a0.size : Int) := of_decide_eq_true (by first | (with_reducible assumption) | assumption)
                            have hx18 := bt_at a0 x6_1
                            replace p18 := eq_true p18
                            replace q18 := eq_true q18
                            go_wp2
                            go_ret3
                            exact ⟨by first | rfl | (simp; done) | (simp only [← hji13, ← hji15] <;> (first | rfl | simp)) | (simp [*]; done), by repeat (first | exact Drawn0.refl _ | apply Drawn0.step)⟩
                          · rw [if_neg c20] at H
                            have c20b0 : decide (0 < x6_1) = false := decide_eq_false c20
                            clear c20
                            simp only [Option.some.injEq, Prod.mk.injEq] at H
                            obtain ⟨rfl, rfl, rfl⟩ := H
                            have p12 : 0 ≤ (x6_1 : Int) := of_decide_eq_true (by first | (with_reducible assumption) | assumption)
                            have q12 : x6_1 < (a0.size : Int) := of_decide_eq_true (by first | (with_reducible assumption) | assumption)
                            have hx12 := bt_at a0 x6_1
                            replace p12 := eq_true p12
                            replace q12 := eq_true q12
                            have p16 : 0 ≤ (x6_1 : Int) := of_decide_eq_true (by first | (with_reducible assumption) | assumption)
                            have q16 : x6_1 < (a0.size : Int) := of_decide_eq_true (by first | (with_reducible assumption) | assumption)
                            have hx16 := bt_at a0 x6_1
                            replace p16 := eq_true p16
                            replace q16 := eq_true q16
                            have p18 : 0 ≤ (x6_1 : Int) := of_decide_eq_true (by first | (with_reducible assumption) | assumption)
                            have q18 : x6_1 < (a0.size : Int) := of_decide_eq_true (by first | (with_reducible assumption) | assumption)
                            have hx18 := bt_at a0 x6_1
                            replace p18 := eq_true p18
                            replace q18 := eq_true q18
                            go_wp2
                            go_ret3
                            exact ⟨by first | rfl | (simp; done) | (simp only [← hji13, ← hji15] <;> (first | rfl | simp)) | (simp [*]; done), by repeat (first | exact Drawn0.refl _ | apply Drawn0.step)⟩
                        · rw [if_neg c19] at H
                          have c19b0 : ((bt a0 x6_1) == 0) = false := beq_eq_false_iff_ne.mpr c19
                          have c19b1 : ((bt a0 x6_1) != 0) = true := bne_iff_ne.mpr c19
                          simp only [Option.some.injEq, Prod.mk.injEq] at H
                          obtain ⟨rfl, rfl, rfl⟩ := H
                          have p12 : 0 ≤ (x6_1 : Int) := of_decide_eq_true (by first | (with_reducible assumption) | assumption)
                          have q12 : x6_1 < (a0.size : Int) := of_decide_eq_true (by first | (with_reducible assumption) | assumption)
                          have hx12 := bt_at a0 x6_1
                          replace p12 := eq_true p12
                          replace q12 := eq_true q12
                          have p16 : 0 ≤ (x6_1 : Int) := of_decide_eq_true (by first | (with_reducible assumption) | assumption)
                          have q16 : x6_1 < (a0.size : Int) := of_decide_eq_true (by first | (with_reducible assumption) | assumption)
                          have hx16 := bt_at a0 x6_1
                          replace p16 := eq_true p16
                          replace q16 := eq_true q16
                          have p18 : 0 ≤ (x6_1 : Int) := of_decide_eq_true (by first | (with_reducible assumption) | assumption)
                          have q18 : x6_1 < (a0.size : Int) := of_decide_eq_true (by first | (with_reducible assumption) | assumption)
                          have hx18 := bt_at a0 x6_1
                          replace p18 := eq_true p18
                          replace q18 := eq_true q18
                          go_wp2
                          go_ret3
                          exact ⟨by first | rfl | (simp; done) | (simp only [← hji13, ← hji15] <;> (first | rfl | simp)) | (simp [*]; done), by repeat (first | exact Drawn0.refl _ | apply Drawn0.step)⟩
                      · rw [if_neg c17] at H
                        have c17b0 : decide ((bt a0 x6_1) < 128) = false := decide_eq_false c17
                        clear c17
                        have H' := Aside0.mk H
                        clear H
                        have p12 : 0 ≤ (x6_1 : Int) := of_decide_eq_true (by first | (with_reducible assumption) | assumption)
                        have q12 : x6_1 < (a0.size : Int) := of_decide_eq_true (by first | (with_reducible assumption) | assumption)
                        have hx12 := bt_at a0 x6_1
                        replace p12 := eq_true p12
                        replace q12 := eq_true q12
                        have p16 : 0 ≤ (x6_1 : Int) := of_decide_eq_true (by first | (with_reducible assumption) | assumption)
                        have q16 : x6_1 < (a0.size : Int) := of_decide_eq_true (by first | (with_reducible assumption) | assumption)
                        have hx16 := bt_at a0 x6_1
                        replace p16 := eq_true p16
                        replace q16 := eq_true q16
                        go_wp2
                        go_roundg kj3
                        case measure => have := HK1.out; have := HJ3.out; omega
                        case rel => exact ⟨(Go.bits .or .u64 x5_1 (ji15)), (wrap64 (x6_1 + 1)), (by first | rfl | (simp; done) | (simp only [← hji15] <;> (first | rfl | simp)) | (simp [*]; done)), (by first | rfl | (simp; done) | (simp [*]; done)), H', ⟨by have := HK1.out; have := HJ3.out; omega⟩, by repeat (first | exact Drawn0.refl _ | apply Drawn0.step)⟩
                    · rw [if_neg c14] at H
                      exact absurd H (by simp)
                  · rw [if_neg c11] at H
                    exact absurd H (by simp)
                · rw [if_neg c10] at H
                  exact absurd H (by simp)
      · rw [if_neg c2] at H
        have c2b0 : decide (x6_1 < 10) = false := decide_eq_false c2
        clear c2
        simp only [Option.some.injEq, Prod.mk.injEq] at H
        obtain ⟨rfl, rfl, rfl⟩ := H
        go_wp2
        go_ret3
        exact ⟨by first | rfl | (simp; done) | (simp [*]; done), by repeat (first | exact Drawn0.refl _ | apply Drawn0.step)⟩

/-! ### terrierref1_IntOf: function 19 -/
def terrierref1_IntOf.f (k : Nat) (a0 : ByteArray) : Option (Int × Int × Int) := (terrierref1_Var.f k a0).bind fun bt143 => (if bt143.2.2 = 0 then (if (Go.bits .and .u64 bt143.1 1) = 1 then (some (wrap64 ((wrap64 (-(wrap64 (bt143.1 / 2)))) - 1), bt143.2.1, 0)) else (some (wrap64 (bt143.1 / 2), bt143.2.1, 0))) else (some (0, 0, bt143.2.2)))
theorem terrierref1_IntOf.mono : ∀ a0 k, LeO (terrierref1_IntOf.f k a0) (terrierref1_IntOf.f (k + 1) a0) := by
  intro a0 k
  unfold terrierref1_IntOf.f
  repeat' first
      | (with_reducible exact terrierref1_Var.mono _ _)
      | (with_reducible exact LeO.refl _)
      | (with_reducible exact LeO.none _)
      | (with_reducible refine LeO.ite ?_ ?_)
      | (with_reducible refine LeO.bind ?_ (fun _ => ?_))
      | exact terrierref1_Var.mono _ _
      | exact LeO.none _
      | refine LeO.ite ?_ ?_
      | refine LeO.bind ?_ (fun _ => ?_)
set_option maxHeartbeats 8000000 in
set_option maxRecDepth 100000 in
theorem terrierref1_IntOf.calls (k : Nat) (a0 : ByteArray) (r1 : Int) (r2 : Int) (r3 : Int) (w : World) (h : terrierref1_IntOf.f k a0 = some (r1, r2, r3)) :
    Calls Try.prog 19 #[.string a0] w fun e w' => e = .returned (.tuple #[.int .i64 r1, .int .i64 r2, .int .i64 r3]) ∧ Drawn0 w w' := by
  have H : ((terrierref1_Var.f k a0).bind fun bt143 => (if bt143.2.2 = 0 then (if (Go.bits .and .u64 bt143.1 1) = 1 then (some (wrap64 ((wrap64 (-(wrap64 (bt143.1 / 2)))) - 1), bt143.2.1, 0)) else (some (wrap64 (bt143.1 / 2), bt143.2.1, 0))) else (some (0, 0, bt143.2.2)))) = some (r1, r2, r3) := h
  clear h
  replace H := Option.bind_eq_some_iff.mp H
  obtain ⟨⟨t143, t144, t145⟩, A20, H⟩ := H
  replace H : (if t145 = 0 then (if (Go.bits .and .u64 t143 1) = 1 then (some (wrap64 ((wrap64 (-(wrap64 (t143 / 2)))) - 1), t144, 0)) else (some (wrap64 (t143 / 2), t144, 0))) else (some (0, 0, t145))) = some (r1, r2, r3) := H
  have A2 := Aside0.mk A20
  clear A20
  by_cases c3 : t145 = 0
  · rw [if_pos c3] at H
    have c3b0 : (t145 == 0) = true := beq_iff_eq.mpr c3
    have c3b1 : (t145 != 0) = false := bne_eq_false_iff_eq.mpr c3
    clear c3
    by_cases c4 : (Go.bits .and .u64 t143 1) = 1
    · rw [if_pos c4] at H
      have c4b0 : ((Go.bits .and .u64 t143 1) == 1) = true := beq_iff_eq.mpr c4
      have c4b1 : ((Go.bits .and .u64 t143 1) != 1) = false := bne_eq_false_iff_eq.mpr c4
      clear c4
      simp only [Option.some.injEq, Prod.mk.injEq] at H
      obtain ⟨rfl, rfl, rfl⟩ := H
      go_enter Try.func19, Try.ntmps19
      go_wp2_with (first | ((with_reducible refine gate_callee (f := 18) rfl ?_); refine goesL_ (some 11) rfl rfl Try.func18 (by kernel_rfl) rfl #[.string a0] rfl (by (try simp only [List.map_toArray, List.map_cons, List.map_nil]); first | done | rfl | (simp only [List.length_drop, List.length_take]; rfl)) ?_; (with_reducible refine (terrierref1_Var.calls k a0 t143 t144 t145 _ A2.out).mono ?_); rintro e w' ⟨rfl, ⟨nd, rfl⟩⟩; refine ⟨_, rfl, ?_⟩))
      go_ret3
      exact ⟨by first | rfl | (simp; done) | (simp [*]; done), by repeat (first | exact Drawn0.refl _ | apply Drawn0.step)⟩
    · rw [if_neg c4] at H
      have c4b0 : ((Go.bits .and .u64 t143 1) == 1) = false := beq_eq_false_iff_ne.mpr c4
      have c4b1 : ((Go.bits .and .u64 t143 1) != 1) = true := bne_iff_ne.mpr c4
      simp only [Option.some.injEq, Prod.mk.injEq] at H
      obtain ⟨rfl, rfl, rfl⟩ := H
      go_enter Try.func19, Try.ntmps19
      go_wp2_with (first | ((with_reducible refine gate_callee (f := 18) rfl ?_); refine goesL_ (some 11) rfl rfl Try.func18 (by kernel_rfl) rfl #[.string a0] rfl (by (try simp only [List.map_toArray, List.map_cons, List.map_nil]); first | done | rfl | (simp only [List.length_drop, List.length_take]; rfl)) ?_; (with_reducible refine (terrierref1_Var.calls k a0 t143 t144 t145 _ A2.out).mono ?_); rintro e w' ⟨rfl, ⟨nd, rfl⟩⟩; refine ⟨_, rfl, ?_⟩))
      go_ret3
      exact ⟨by first | rfl | (simp; done) | (simp [*]; done), by repeat (first | exact Drawn0.refl _ | apply Drawn0.step)⟩
  · rw [if_neg c3] at H
    have c3b0 : (t145 == 0) = false := beq_eq_false_iff_ne.mpr c3
    have c3b1 : (t145 != 0) = true := bne_iff_ne.mpr c3
    simp only [Option.some.injEq, Prod.mk.injEq] at H
    obtain ⟨rfl, rfl, rfl⟩ := H
    go_enter Try.func19, Try.ntmps19
    go_wp2_with (first | ((with_reducible refine gate_callee (f := 18) rfl ?_); refine goesL_ (some 11) rfl rfl Try.func18 (by kernel_rfl) rfl #[.string a0] rfl (by (try simp only [List.map_toArray, List.map_cons, List.map_nil]); first | done | rfl | (simp only [List.length_drop, List.length_take]; rfl)) ?_; (with_reducible refine (terrierref1_Var.calls k a0 t143 t144 t145 _ A2.out).mono ?_); rintro e w' ⟨rfl, ⟨nd, rfl⟩⟩; refine ⟨_, rfl, ?_⟩))
    go_ret3
    exact ⟨by first | rfl | (simp; done) | (simp [*]; done), by repeat (first | exact Drawn0.refl _ | apply Drawn0.step)⟩
end Go.Proofs.Ytgjgandkcmjbnaa.PB
