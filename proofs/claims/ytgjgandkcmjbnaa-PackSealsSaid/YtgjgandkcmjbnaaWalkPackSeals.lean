/- Proved: the law's function PackSeals tells true wherever its printed form does, by its walk. -/
import Derived.Test.YtgjgandkcmjbnaaB3
import Derived.Test.YtgjgandkcmjbnaaB6
namespace Go.Proofs.Ytgjgandkcmjbnaa.PB
open Go.RowKit Go.Proofs.YtgjgandkcmjbnaaW.PrintWords Go.Proofs.YtgjgandkcmjbnaaW.PrintLast Go.Proofs.YtgjgandkcmjbnaaW.PrintMore
attribute [local go_sem] max2_int min2_int max_two min_two max_three min_three max_four min_four   -- for this text's walks alone
set_option linter.unusedVariables false
set_option linter.unusedSimpArgs false

/-! ### terrierlaw1_PackSeals: function 8 -/
mutual
def terrierlaw1_PackSeals.j0 : Nat → List Int → Int → Int → List Int → Bool → Option (Bool)
  | 0, _, _, _, _, _ => none
  | k + 1, x0, x1, x2, x7, x38 => if x38 = true then (some false) else ((pack_Open.f k x7).bind fun bt178 => (if bt178.2 = 0 then (terrierlaw1_PackSeals.j1 k x1 x2 x7 ((strOfNums bt178.1).toList != (strOfNums x0).toList)) else (terrierlaw1_PackSeals.j1 k x1 x2 x7 true)))
def terrierlaw1_PackSeals.j1 : Nat → Int → Int → List Int → Bool → Option (Bool)
  | 0, _, _, _, _ => none
  | k + 1, x1, x2, x7, x52 => if x52 = true then (some false) else ((some (([] : List Int) : List Int)).bind fun y182 => (if y182.length + x7.length < 140737488355328 then ((some (y182 ++ x7 : List Int)).bind fun y185 => (if (wrap64 (8 * (y185.length : Int))) = 0 then (none) else (if 0 ≤ (wrap64 (Int.tdiv (Int.tmod (wrap64 ((Int.tmod x1 (wrap64 (8 * (y185.length : Int)))) + (wrap64 (8 * (y185.length : Int))))) (wrap64 (8 * (y185.length : Int)))) 8)) then (if (wrap64 (Int.tdiv (Int.tmod (wrap64 ((Int.tmod x1 (wrap64 (8 * (y185.length : Int)))) + (wrap64 (8 * (y185.length : Int))))) (wrap64 (8 * (y185.length : Int)))) 8)) < (y185.length : Int) then (if 0 ≤ (Int.tmod (Int.tmod (wrap64 ((Int.tmod x1 (wrap64 (8 * (y185.length : Int)))) + (wrap64 (8 * (y185.length : Int))))) (wrap64 (8 * (y185.length : Int)))) 8) then ((pack_Open.f k (y185.set ((wrap64 (Int.tdiv (Int.tmod (wrap64 ((Int.tmod x1 (wrap64 (8 * (y185.length : Int)))) + (wrap64 (8 * (y185.length : Int))))) (wrap64 (8 * (y185.length : Int)))) 8)) : Int).toNat (Go.bits .xor .u8 (rd y185 (wrap64 (Int.tdiv (Int.tmod (wrap64 ((Int.tmod x1 (wrap64 (8 * (y185.length : Int)))) + (wrap64 (8 * (y185.length : Int))))) (wrap64 (8 * (y185.length : Int)))) 8))) (shl .u8 1 (Int.tmod (Int.tmod (wrap64 ((Int.tmod x1 (wrap64 (8 * (y185.length : Int)))) + (wrap64 (8 * (y185.length : Int))))) (wrap64 (8 * (y185.length : Int)))) 8))))).bind fun bt190 => (if (wrap64 ((x7.length : Int) + 1)) = 0 then (none) else (if 0 ≤ (Int.tmod (wrap64 ((wrap64 ((Int.tmod x2 (wrap64 ((x7.length : Int) + 1))) + (x7.length : Int))) + 1)) (wrap64 ((x7.length : Int) + 1))) then (if (Int.tmod (wrap64 ((wrap64 ((Int.tmod x2 (wrap64 ((x7.length : Int) + 1))) + (x7.length : Int))) + 1)) (wrap64 ((x7.length : Int) + 1))) ≤ (x7.length : Int) then ((pack_Open.f k (x7.take ((Int.tmod (wrap64 ((wrap64 ((Int.tmod x2 (wrap64 ((x7.length : Int) + 1))) + (x7.length : Int))) + 1)) (wrap64 ((x7.length : Int) + 1))) : Int).toNat)).bind fun bt198 => ((terrierref1_Open.f k (strOfNums (x7.take ((Int.tmod (wrap64 ((wrap64 ((Int.tmod x2 (wrap64 ((x7.length : Int) + 1))) + (x7.length : Int))) + 1)) (wrap64 ((x7.length : Int) + 1))) : Int).toNat))).bind fun bt206 => (if bt190.2 = 3 then (if (strOfNums bt198.1).toList = bt206.1.toList then (if bt198.2 = bt206.2 then ((terrierlaw1_awake.f k).bind fun t208 => (some t208)) else (some false)) else (some false)) else (some false)))) else (none)) else (none)))) else (none)) else (none)) else (none)))) else (none)))
end
def terrierlaw1_PackSeals.f (k : Nat) (l0 : List Int) (a1 : Int) (a2 : Int) : Option (Bool) := if (l0.length : Int) > 2000 then ((terrierlaw1_awake.f k).bind fun t171 => (some t171)) else ((pack_Seal.f k l0).bind fun t172 => ((terrierref1_Seal.f k (strOfNums l0)).bind fun t175 => (if (strOfNums t172).toList = t175.toList then ((pack_CRC.f k l0).bind fun t176 => ((terrierref1_CRC.f k (strOfNums l0)).bind fun t177 => (terrierlaw1_PackSeals.j0 k l0 a1 a2 t172 (t176 != t177)))) else (terrierlaw1_PackSeals.j0 k l0 a1 a2 t172 true))))
theorem terrierlaw1_PackSeals.mono_l : ∀ k, (∀ y0 y1 y2 y3 y4, LeO (terrierlaw1_PackSeals.j0 k y0 y1 y2 y3 y4) (terrierlaw1_PackSeals.j0 (k + 1) y0 y1 y2 y3 y4)) ∧ (∀ y0 y1 y2 y3, LeO (terrierlaw1_PackSeals.j1 k y0 y1 y2 y3) (terrierlaw1_PackSeals.j1 (k + 1) y0 y1 y2 y3))
  | 0 => ⟨fun _ _ _ _ _ r h => by simp [terrierlaw1_PackSeals.j0] at h, fun _ _ _ _ r h => by simp [terrierlaw1_PackSeals.j1] at h⟩
  | k + 1 => by
    obtain ⟨ih0, ih1⟩ := terrierlaw1_PackSeals.mono_l k
    refine ⟨?_, ?_⟩
    · intro y0 y1 y2 y3 y4
      unfold terrierlaw1_PackSeals.j0
      repeat' first
      | (with_reducible exact ih0 _ _ _ _ _)
      | (with_reducible exact ih1 _ _ _ _)
      | (with_reducible exact pack_CRC.mono _ _)
      | (with_reducible exact pack_Open.mono _ _)
      | (with_reducible exact pack_Seal.mono _ _)
      | (with_reducible exact terrierlaw1_awake.mono _)
      | (with_reducible exact terrierref1_CRC.mono _ _)
      | (with_reducible exact terrierref1_Open.mono _ _)
      | (with_reducible exact terrierref1_Seal.mono _ _)
      | (with_reducible exact LeO.refl _)
      | (with_reducible exact LeO.none _)
      | (with_reducible refine LeO.ite ?_ ?_)
      | (with_reducible refine LeO.bind ?_ (fun _ => ?_))
      | exact ih0 _ _ _ _ _
      | exact ih1 _ _ _ _
      | exact pack_CRC.mono _ _
      | exact pack_Open.mono _ _
      | exact pack_Seal.mono _ _
      | exact terrierlaw1_awake.mono _
      | exact terrierref1_CRC.mono _ _
      | exact terrierref1_Open.mono _ _
      | exact terrierref1_Seal.mono _ _
      | exact LeO.none _
      | refine LeO.ite ?_ ?_
      | refine LeO.bind ?_ (fun _ => ?_)
    · intro y0 y1 y2 y3
      unfold terrierlaw1_PackSeals.j1
      repeat' first
      | (with_reducible exact ih0 _ _ _ _ _)
      | (with_reducible exact ih1 _ _ _ _)
      | (with_reducible exact pack_CRC.mono _ _)
      | (with_reducible exact pack_Open.mono _ _)
      | (with_reducible exact pack_Seal.mono _ _)
      | (with_reducible exact terrierlaw1_awake.mono _)
      | (with_reducible exact terrierref1_CRC.mono _ _)
      | (with_reducible exact terrierref1_Open.mono _ _)
      | (with_reducible exact terrierref1_Seal.mono _ _)
      | (with_reducible exact LeO.refl _)
      | (with_reducible exact LeO.none _)
      | (with_reducible refine LeO.ite ?_ ?_)
      | (with_reducible refine LeO.bind ?_ (fun _ => ?_))
      | exact ih0 _ _ _ _ _
      | exact ih1 _ _ _ _
      | exact pack_CRC.mono _ _
      | exact pack_Open.mono _ _
      | exact pack_Seal.mono _ _
      | exact terrierlaw1_awake.mono _
      | exact terrierref1_CRC.mono _ _
      | exact terrierref1_Open.mono _ _
      | exact terrierref1_Seal.mono _ _
      | exact LeO.none _
      | refine LeO.ite ?_ ?_
      | refine LeO.bind ?_ (fun _ => ?_)
theorem terrierlaw1_PackSeals.mono : ∀ a0 a1 a2 k, LeO (terrierlaw1_PackSeals.f k a0 a1 a2) (terrierlaw1_PackSeals.f (k + 1) a0 a1 a2) := by
  intro a0 a1 a2 k
  obtain ⟨ih0, ih1⟩ := terrierlaw1_PackSeals.mono_l k
  unfold terrierlaw1_PackSeals.f
  repeat' first
      | (with_reducible exact ih0 _ _ _ _ _)
      | (with_reducible exact ih1 _ _ _ _)
      | (with_reducible exact pack_CRC.mono _ _)
      | (with_reducible exact pack_Open.mono _ _)
      | (with_reducible exact pack_Seal.mono _ _)
      | (with_reducible exact terrierlaw1_awake.mono _)
      | (with_reducible exact terrierref1_CRC.mono _ _)
      | (with_reducible exact terrierref1_Open.mono _ _)
      | (with_reducible exact terrierref1_Seal.mono _ _)
      | (with_reducible exact LeO.refl _)
      | (with_reducible exact LeO.none _)
      | (with_reducible refine LeO.ite ?_ ?_)
      | (with_reducible refine LeO.bind ?_ (fun _ => ?_))
      | exact ih0 _ _ _ _ _
      | exact ih1 _ _ _ _
      | exact pack_CRC.mono _ _
      | exact pack_Open.mono _ _
      | exact pack_Seal.mono _ _
      | exact terrierlaw1_awake.mono _
      | exact terrierref1_CRC.mono _ _
      | exact terrierref1_Open.mono _ _
      | exact terrierref1_Seal.mono _ _
      | exact LeO.none _
      | refine LeO.ite ?_ ?_
      | refine LeO.bind ?_ (fun _ => ?_)
def terrierlaw1_PackSeals.T4 : Bool × List (List Nat × List Nat) := (true, [([], []), ([0], [0]), ([], []), ([2], [2]), ([3], [3]), ([1, 4], [1, 4]), ([5, 4], [5]), ([6], [6]), ([7, 6, 6], [6, 7]), ([6], [6]), ([9, 6], [6, 9]), ([10, 8, 6], [6, 10]), ([8, 11, 6], [6, 8, 11]), ([6, 12], [6, 12])])
def terrierlaw1_PackSeals.B4 : List Nat := [0, 1, 0, 4, 12, 31, 63, 127, 255, 127, 639, 2047, 4095, 8191]
theorem terrierlaw1_PackSeals.tab4 : rtab .any (opsOf Try.f8 4) = terrierlaw1_PackSeals.T4 := by kernel_rfl
theorem terrierlaw1_PackSeals.bits4 : waitsOk terrierlaw1_PackSeals.T4.2 terrierlaw1_PackSeals.B4 = true := by kernel_rfl
def terrierlaw1_PackSeals.T11 : Bool × List (List Nat × List Nat) := (true, [([], []), ([], []), ([1], [1]), ([], []), ([], []), ([4], [4]), ([3, 5], [3, 5]), ([6], [6]), ([], []), ([8], [8]), ([9], [9]), ([7, 10], [7, 10]), ([0, 2, 0, 1, 2, 3, 4, 5, 6, 7, 8, 9, 10, 11], [0, 2]), ([12, 11, 0, 1, 2, 3, 4, 5, 6, 7, 8, 9, 10, 11], [11, 12])])
def terrierlaw1_PackSeals.B11 : List Nat := [0, 0, 2, 0, 0, 16, 56, 120, 0, 256, 768, 2040, 4095, 8191]
theorem terrierlaw1_PackSeals.tab11 : rtab .any (opsOf Try.f8 11) = terrierlaw1_PackSeals.T11 := by kernel_rfl
theorem terrierlaw1_PackSeals.bits11 : waitsOk terrierlaw1_PackSeals.T11.2 terrierlaw1_PackSeals.B11 = true := by kernel_rfl
set_option maxHeartbeats 8000000 in
set_option maxRecDepth 100000 in
theorem terrierlaw1_PackSeals.calls (k : Nat) (A0 : Option Addr) (c0 : Nat) (l0 : List Int) (a1 : Int) (a2 : Int) (r : Bool) (hr : r = true) (w : World) (hr0 : Kd.C (Kd.int .u8) w A0 l0.length l0) (hc0 : l0.length ≤ c0) (h : terrierlaw1_PackSeals.f k l0 a1 a2 = some r) :
    Calls Try.prog 8 #[.slice A0 l0.length c0, .int .i64 a1, .int .i64 a2] w fun e w' => e = .returned (.bool r) ∧ Below w.heap.size w w' := by
  have HR0 := Aside0.mk hr0
  have HC0 := Aside0.mk hc0
  clear hr0 hc0
  have HB := Aside0.mk (Below.refl w.heap.size w)
  have HR := Aside0.mk hr
  clear hr
  have H : (if (l0.length : Int) > 2000 then ((terrierlaw1_awake.f k).bind fun t171 => (some t171)) else ((pack_Seal.f k l0).bind fun t172 => ((terrierref1_Seal.f k (strOfNums l0)).bind fun t175 => (if (strOfNums t172).toList = t175.toList then ((pack_CRC.f k l0).bind fun t176 => ((terrierref1_CRC.f k (strOfNums l0)).bind fun t177 => (terrierlaw1_PackSeals.j0 k l0 a1 a2 t172 (t176 != t177)))) else (terrierlaw1_PackSeals.j0 k l0 a1 a2 t172 true))))) = some r := h
  clear h
  by_cases c4 : (l0.length : Int) > 2000
  · rw [if_pos c4] at H
    have c4b0 : decide (2000 < (l0.length : Int)) = true := decide_eq_true c4
    have c4b1 : decide (2000 < l0.length) = true := decide_eq_true (by omega)
    clear c4
    replace H := Option.bind_eq_some_iff.mp H
    obtain ⟨t171, A50, H⟩ := H
    replace H : (some t171) = some r := H
    have A5 := Aside0.mk A50
    clear A50
    obtain rfl := Option.some.inj H
    go_enter Try.func8, Try.ntmps8
    go_wp2_with (first | ((with_reducible refine gate_callee (f := 11) rfl ?_); refine goesL_ (some 22) rfl rfl Try.func11 (by kernel_rfl) rfl #[] rfl (by (try simp only [List.map_toArray, List.map_cons, List.map_nil]); first | done | rfl | (simp only [List.length_drop, List.length_take]; rfl)) ?_; (with_reducible refine (terrierlaw1_awake.calls k  t171 _ A5.out).mono ?_); rintro e w6 ⟨rfl, hb⟩; refine ⟨_, rfl, ?_⟩; have n0_ := Aside0.mk (below_step (by repeat (first | (with_reducible first | exact HB.out | apply below_alloc | apply pw_below_drewN | apply below_drew1) | exact HB.out)) hb); clear HB; have HB := n0_; clear n0_; (try clear hb); (try clear hb2); (try clear hk); (try clear hi)))
    go_ret
    exact ⟨by first | rfl | (simp [errW_none, errW_some] <;> rfl) | (simp [*, errW_none, errW_some] <;> rfl), by repeat (first | (with_reducible first | exact HB.out | apply below_alloc | apply pw_below_drewN | apply below_drew1) | exact HB.out)⟩
  · rw [if_neg c4] at H
    have c4b0 : decide (2000 < (l0.length : Int)) = false := decide_eq_false c4
    have c4b1 : decide (2000 < l0.length) = false := decide_eq_false (by omega)
    clear c4
    replace H := Option.bind_eq_some_iff.mp H
    obtain ⟨t172, A70, H⟩ := H
    replace H : ((terrierref1_Seal.f k (strOfNums l0)).bind fun t175 => (if (strOfNums t172).toList = t175.toList then ((pack_CRC.f k l0).bind fun t176 => ((terrierref1_CRC.f k (strOfNums l0)).bind fun t177 => (terrierlaw1_PackSeals.j0 k l0 a1 a2 t172 (t176 != t177)))) else (terrierlaw1_PackSeals.j0 k l0 a1 a2 t172 true))) = some r := H
    have A7 := Aside0.mk A70
    clear A70
    have HC8 := Aside0.mk H
    clear H
    go_enter Try.func8, Try.ntmps8
    go_upto_region 4 with (first | ((with_reducible refine gate_callee (f := 20) rfl ?_); refine goesL_ (some 24) rfl rfl Try.func20 (by kernel_rfl) rfl #[.slice A0 l0.length c0] rfl (by (try simp only [List.map_toArray, List.map_cons, List.map_nil]); first | done | rfl | (simp only [List.length_drop, List.length_take]; rfl)) ?_; (with_reducible refine (pack_Seal.calls k _ _ l0 t172 _ ?side1 ?side2 A7.out).mono ?_); (case side1 => repeat (first | exact HR0.out | (with_reducible refine Kd.C_alloc ?_ _) | (with_reducible refine Kd.C_drewN ?_ _) | (with_reducible refine Kd.C_drew ?_))); (case side2 => exact HC0.out); rintro e w9 ⟨_, u173, rfl, ⟨A173_, n173_, c173_, d173_, rfl, rfl, hc173_, hd173_⟩, ho0, hb⟩; obtain rfl : n173_ = t172.length := cap_len ho0; refine ⟨_, rfl, ?_⟩; have n0_ := Aside0.mk (Kd.R_lower ho0 (below_size (by repeat (first | (with_reducible first | exact HB.out | apply below_alloc | apply pw_below_drewN | apply below_drew1) | exact HB.out)))); have n1_ := Aside0.mk (below_step (by repeat (first | (with_reducible first | exact HB.out | apply below_alloc | apply pw_below_drewN | apply below_drew1) | exact HB.out)) hb); clear HB; have HO174 := n0_; have HB := n1_; clear n0_ n1_; (try clear hb); (try clear hb2); (try clear hk); (try clear hi); (try clear ho0)))
    (try simp only [Act.put, List.setIfInBounds_toArray, List.set_cons_zero, List.set_cons_succ])
    go_cut [38] (fun v38 wc => ∃ (kq : Nat) (x38_7 : Bool), v38 = .bool x38_7 ∧ Aside0 (terrierlaw1_PackSeals.j0 kq l0 a1 a2 t172 x38_7 = some r) ∧ Aside0 (kq ≤ k) ∧ Aside0 (Kd.R (Kd.int .u8) 5 wc w.heap.size (fun _ => True) (.slice A173_ t172.length d173_) t172) ∧ Aside0 (Below w.heap.size w wc))
    case first =>
      have H := HC8.out
      clear HC8
      replace H := Option.bind_eq_some_iff.mp H
      obtain ⟨t175, A100, H⟩ := H
      replace H : (if (strOfNums t172).toList = t175.toList then ((pack_CRC.f k l0).bind fun t176 => ((terrierref1_CRC.f k (strOfNums l0)).bind fun t177 => (terrierlaw1_PackSeals.j0 k l0 a1 a2 t172 (t176 != t177)))) else (terrierlaw1_PackSeals.j0 k l0 a1 a2 t172 true)) = some r := H
      have A10 := Aside0.mk A100
      clear A100
      by_cases c11 : (strOfNums t172).toList = t175.toList
      · rw [if_pos c11] at H
        have c11b0 : ((strOfNums t172).toList == t175.toList) = true := beq_iff_eq.mpr c11
        have c11b1 : ((strOfNums t172).toList != t175.toList) = false := bne_eq_false_iff_eq.mpr c11
        clear c11
        (first | rw [c11b0] | (simp only [i64_w, i32_w]; rw [c11b0]) | skip)
        replace H := Option.bind_eq_some_iff.mp H
        obtain ⟨t176, A120, H⟩ := H
        replace H : ((terrierref1_CRC.f k (strOfNums l0)).bind fun t177 => (terrierlaw1_PackSeals.j0 k l0 a1 a2 t172 (t176 != t177))) = some r := H
        have A12 := Aside0.mk A120
        clear A120
        replace H := Option.bind_eq_some_iff.mp H
        obtain ⟨t177, A130, H⟩ := H
        replace H : (terrierlaw1_PackSeals.j0 k l0 a1 a2 t172 (t176 != t177)) = some r := H
        have A13 := Aside0.mk A130
        clear A130
        have H' := Aside0.mk H
        clear H
        try go_wp2
        have n0_ := Aside0.mk (Kd.R_drew HO174.out)
        have n1_ := Aside0.mk (below_drew1 HB.out)
        clear HO174
        clear HB
        have HO174 := n0_
        have HB := n1_
        clear n0_ n1_
        have hcv15 := cap_string (P := Try.prog) (c := c173_) Try.underlying22 Try.underlying5 Try.underlying9 (Kd.own_of_R HO174.out)
        have hcv16 := Kd.C_string (P := Try.prog) (A := A0) (c := c0) Try.underlying22 Try.underlying5 Try.underlying9 (Kd.C_below HR0.out HB.out)
        refine start_ (n := 14) (S := fun w' => Sem.run Try.prog (convert 22 9 (.slice A173_ t172.length c173_)) w' = .ok (.string (strOfNums t172)) w' ∧ Sem.run Try.prog (convert 22 9 (.slice A0 l0.length c0)) w' = .ok (.string (strOfNums l0)) w') (ds := []) #[false, false, false, false, false, false, false, false, false, false, false, false, false, false] (by kernel_rfl) rfl rfl ⟨cap_string (P := Try.prog) (c := c173_) Try.underlying22 Try.underlying5 Try.underlying9 (Kd.own_of_R HO174.out), Kd.C_string (P := Try.prog) (A := A0) (c := c0) Try.underlying22 Try.underlying5 Try.underlying9 (Kd.C_below HR0.out HB.out)⟩ (fun hHeld => ?_); refine with_tabW terrierlaw1_PackSeals.tab4 terrierlaw1_PackSeals.bits4 (fun HT_ HW_ => ?_)
        generalize w9.drew = w14 at HO174 HB hHeld ⊢
        refine pure_ (i := 0) (N := some 25) (v := ?_) (a' := ?_) #[true, false, false, false, false, false, false, false, false, false, false, false, false, false] rfl rfl (any_of HT_.out (by kernel_rfl)) (fun _ _ _ h => h) (Or.inl ⟨by rfl, ?_⟩) ?_ ?_
        rotate_left
        · intro w'
          go_simp
          with_reducible rfl
        rotate_left
        · simp only [Act.put, List.setIfInBounds_toArray, List.set_cons_zero, List.set_cons_succ, i64_w, i32_w]
          rfl
        refine take_ (i := 1) (N := some 26) (v := ?_) (a' := ?_) #[true, true, false, false, false, false, false, false, false, false, false, false, false, false] rfl rfl (take_ofW HT_.out HW_.out (by kernel_rfl)) (fun _ _ _ h => h) (Or.inl ⟨by rfl, ?_⟩) hHeld ?_ ?_
        rotate_left
        · rintro w' ⟨s0, s1⟩
          go_simp
          with_reducible rfl
        rotate_left
        · simp only [Act.put, List.setIfInBounds_toArray, List.set_cons_zero, List.set_cons_succ, i64_w, i32_w]
          rfl
        refine pure_ (i := 2) (N := some 27) (v := ?_) (a' := ?_) #[true, true, true, false, false, false, false, false, false, false, false, false, false, false] rfl rfl (any_of HT_.out (by kernel_rfl)) (fun _ _ _ h => h) (Or.inl ⟨by rfl, ?_⟩) ?_ ?_
        rotate_left
        · intro w'
          go_simp
          with_reducible rfl
        rotate_left
        · simp only [Act.put, List.setIfInBounds_toArray, List.set_cons_zero, List.set_cons_succ, i64_w, i32_w]
          rfl
        refine take_ (i := 3) (N := some 28) (v := ?_) (a' := ?_) #[true, true, true, true, false, false, false, false, false, false, false, false, false, false] rfl rfl (take_ofW HT_.out HW_.out (by kernel_rfl)) (fun _ _ _ h => h) (Or.inl ⟨by rfl, ?_⟩) hHeld ?_ ?_
        rotate_left
        · rintro w' ⟨s0, s1⟩
          go_simp
          with_reducible rfl
        rotate_left
        · simp only [Act.put, List.setIfInBounds_toArray, List.set_cons_zero, List.set_cons_succ, i64_w, i32_w]
          rfl
        refine one_ (i := 4) (N := some 29) #[true, true, true, true, true, false, false, false, false, false, false, false, false, false] rfl rfl (one_of HT_.out (by kernel_rfl)) (by decide) (fun K hK => ?_)
        refine goes_ Try.func21 (by kernel_rfl) rfl #[.string (strOfNums l0)] (by rfl) rfl rfl (by (try simp only [List.map_toArray, List.map_cons, List.map_nil]); first | done | rfl | (simp only [List.length_drop, List.length_take]; rfl)) ?_
        with_reducible refine (terrierref1_Seal.calls k (strOfNums l0) t175 _ A10.out).mono ?_
        rintro e w17 ⟨rfl, hb⟩
        refine ⟨_, rfl, ?_⟩
        have n0_ := Aside0.mk (Kd.R_below (by (with_reducible repeat (first | apply Kd.R_alloc | apply Kd.R_drewN | apply Kd.R_drew)); exact HO174.out) hb)
        have n1_ := Aside0.mk (below_step (by repeat (first | (with_reducible first | exact HB.out | apply below_alloc | apply pw_below_drewN | apply below_drew1) | exact HB.out)) hb)
        clear HO174
        clear HB
        have HO174 := n0_
        have HB := n1_
        clear n0_ n1_
        (try clear hb)
        (try clear hb2)
        (try clear hk)
        (try clear hi)
        refine hK.out _ _ ⟨cap_string (P := Try.prog) (c := c173_) Try.underlying22 Try.underlying5 Try.underlying9 (Kd.own_of_R HO174.out), Kd.C_string (P := Try.prog) (A := A0) (c := c0) Try.underlying22 Try.underlying5 Try.underlying9 (Kd.C_below HR0.out HB.out)⟩ (fun hHeld => ?_)
        clear hK K
        refine norm_ (a' := ?_) ?_ ?_
        rotate_left
        · show Act.put _ (some 29) _ = _
          simp only [Act.put, List.setIfInBounds_toArray, List.set_cons_zero, List.set_cons_succ, i64_w, i32_w]
          rfl
        refine pure_ (i := 5) (N := some 30) (v := ?_) (a' := ?_) #[true, true, true, true, true, true, false, false, false, false, false, false, false, false] rfl rfl (any_of HT_.out (by kernel_rfl)) (fun _ _ _ h => h) (Or.inl ⟨by rfl, ?_⟩) ?_ ?_
        rotate_left
        · intro w'
          go_simp
          with_reducible rfl
        rotate_left
        · simp only [Act.put, List.setIfInBounds_toArray, List.set_cons_zero, List.set_cons_succ, i64_w, i32_w]
          rfl
        refine pure_ (i := 6) (N := some 31) (v := ?_) (a' := ?_) #[true, true, true, true, true, true, true, false, false, false, false, false, false, false] rfl rfl (any_of HT_.out (by kernel_rfl)) (fun _ _ _ h => h) (Or.inl ⟨by rfl, ?_⟩) ?_ ?_
        rotate_left
        · intro w'
          go_simp
          with_reducible rfl
        rotate_left
        · simp only [Act.put, List.setIfInBounds_toArray, List.set_cons_zero, List.set_cons_succ, i64_w, i32_w]
          rfl
        refine pure_ (i := 7) (N := some 32) (v := ?_) (a' := ?_) #[true, true, true, true, true, true, true, true, false, false, false, false, false, false] rfl rfl (any_of HT_.out (by kernel_rfl)) (fun _ _ _ h => h) (Or.inl ⟨by rfl, ?_⟩) ?_ ?_
        rotate_left
        · intro w'
          go_simp
          with_reducible rfl
        rotate_left
        · simp only [Act.put, List.setIfInBounds_toArray, List.set_cons_zero, List.set_cons_succ, i64_w, i32_w]
          rfl
        refine pure_ (i := 9) (N := some 34) (v := ?_) (a' := ?_) #[true, true, true, true, true, true, true, true, false, true, false, false, false, false] rfl rfl (any_of HT_.out (by kernel_rfl)) (fun _ _ _ h => h) (Or.inl ⟨by rfl, ?_⟩) ?_ ?_
        rotate_left
        · intro w'
          go_simp
          with_reducible rfl
        rotate_left
        · simp only [Act.put, List.setIfInBounds_toArray, List.set_cons_zero, List.set_cons_succ, i64_w, i32_w]
          rfl
        refine take_ (i := 10) (N := some 35) (v := ?_) (a' := ?_) #[true, true, true, true, true, true, true, true, false, true, true, false, false, false] rfl rfl (take_ofW HT_.out HW_.out (by kernel_rfl)) (fun _ _ _ h => h) (Or.inl ⟨by rfl, ?_⟩) hHeld ?_ ?_
        rotate_left
        · rintro w' ⟨s0, s1⟩
          go_simp
          with_reducible rfl
        rotate_left
        · simp only [Act.put, List.setIfInBounds_toArray, List.set_cons_zero, List.set_cons_succ, i64_w, i32_w]
          rfl
        refine one_ (i := 8) (N := some 33) #[true, true, true, true, true, true, true, true, true, true, true, false, false, false] rfl rfl (one_of HT_.out (by kernel_rfl)) (by decide) (fun K hK => ?_)
        refine goes_ Try.func10 (by kernel_rfl) rfl #[.slice A0 l0.length c0] (by rfl) rfl rfl (by (try simp only [List.map_toArray, List.map_cons, List.map_nil]); first | done | rfl | (simp only [List.length_drop, List.length_take]; rfl)) ?_
        with_reducible refine (pack_CRC.calls k _ _ l0 t176 _ ?side1 ?side2 A12.out).mono ?_
        (case side1 => repeat (first | exact (Kd.C_below HR0.out HB.out) | (with_reducible refine Kd.C_alloc ?_ _) | (with_reducible refine Kd.C_drewN ?_ _) | (with_reducible refine Kd.C_drew ?_)))
        (case side2 => exact HC0.out)
        rintro e w18 ⟨rfl, hb⟩
        refine ⟨_, rfl, ?_⟩
        have n0_ := Aside0.mk (Kd.R_below (by (with_reducible repeat (first | apply Kd.R_alloc | apply Kd.R_drewN | apply Kd.R_drew)); exact HO174.out) hb)
        have n1_ := Aside0.mk (below_step (by repeat (first | (with_reducible first | exact HB.out | apply below_alloc | apply pw_below_drewN | apply below_drew1) | exact HB.out)) hb)
        clear HO174
        clear HB
        have HO174 := n0_
        have HB := n1_
        clear n0_ n1_
        (try clear hb)
        (try clear hb2)
        (try clear hk)
        (try clear hi)
        have hcv19 := Kd.C_string (P := Try.prog) (A := A0) (c := c0) Try.underlying22 Try.underlying5 Try.underlying9 (Kd.C_below HR0.out HB.out)
        refine hK.out _ _ ⟨cap_string (P := Try.prog) (c := c173_) Try.underlying22 Try.underlying5 Try.underlying9 (Kd.own_of_R HO174.out), Kd.C_string (P := Try.prog) (A := A0) (c := c0) Try.underlying22 Try.underlying5 Try.underlying9 (Kd.C_below HR0.out HB.out)⟩ (fun hHeld => ?_)
        clear hK K
        refine norm_ (a' := ?_) ?_ ?_
        rotate_left
        · show Act.put _ (some 33) _ = _
          simp only [Act.put, List.setIfInBounds_toArray, List.set_cons_zero, List.set_cons_succ, i64_w, i32_w]
          rfl
        refine one_ (i := 11) (N := some 36) #[true, true, true, true, true, true, true, true, true, true, true, true, false, false] rfl rfl (one_of HT_.out (by kernel_rfl)) (by decide) (fun K hK => ?_)
        refine goes_ Try.func22 (by kernel_rfl) rfl #[.string (strOfNums l0)] (by rfl) rfl rfl (by (try simp only [List.map_toArray, List.map_cons, List.map_nil]); first | done | rfl | (simp only [List.length_drop, List.length_take]; rfl)) ?_
        with_reducible refine (terrierref1_CRC.calls k (strOfNums l0) t177 _ A13.out).mono ?_
        rintro e w' ⟨rfl, ⟨nd, rfl⟩⟩
        refine ⟨_, rfl, ?_⟩
        refine hK.out _ _ ⟨cap_string (P := Try.prog) (c := c173_) Try.underlying22 Try.underlying5 Try.underlying9 (Kd.own_of_R (Kd.R_drewN HO174.out nd)), Kd.C_string (P := Try.prog) (A := A0) (c := c0) Try.underlying22 Try.underlying5 Try.underlying9 (Kd.C_drewN (Kd.C_below HR0.out HB.out) nd)⟩ (fun hHeld => ?_)
        clear hK K
        refine norm_ (a' := ?_) ?_ ?_
        rotate_left
        · show Act.put _ (some 36) _ = _
          simp only [Act.put, List.setIfInBounds_toArray, List.set_cons_zero, List.set_cons_succ, i64_w, i32_w]
          rfl
        refine pure_ (i := 12) (N := some 37) (v := ?_) (a' := ?_) #[true, true, true, true, true, true, true, true, true, true, true, true, true, false] rfl rfl (any_of HT_.out (by kernel_rfl)) (fun _ _ _ h => h) (Or.inl ⟨by rfl, ?_⟩) ?_ ?_
        rotate_left
        · intro w'
          go_simp
          with_reducible rfl
        rotate_left
        · simp only [Act.put, List.setIfInBounds_toArray, List.set_cons_zero, List.set_cons_succ, i64_w, i32_w]
          rfl
        refine pure_ (i := 13) (N := some 38) (v := ?_) (a' := ?_) #[true, true, true, true, true, true, true, true, true, true, true, true, true, true] rfl rfl (any_of HT_.out (by kernel_rfl)) (fun _ _ _ h => h) (Or.inl ⟨by rfl, ?_⟩) ?_ ?_
        rotate_left
        · intro w'
          go_simp
          with_reducible rfl
        rotate_left
        · simp only [Act.put, List.setIfInBounds_toArray, List.set_cons_zero, List.set_cons_succ, i64_w, i32_w]
          rfl
        refine done_ (done_of HT_.out (by kernel_rfl)) ?_
        try go_wp2
        go_meet
        case rel => exact ⟨_, ((t176 != t177)), (by first | rfl | (simp; done) | (simp [*]; done)), H', ⟨by first | omega | exact Nat.le_refl _⟩, ⟨by (with_reducible repeat (first | apply Kd.R_alloc | apply Kd.R_drewN | apply Kd.R_drew)); exact HO174.out⟩, ⟨by repeat (first | (with_reducible first | exact HB.out | apply below_alloc | apply pw_below_drewN | apply below_drew1) | exact HB.out)⟩⟩
      · rw [if_neg c11] at H
        have c11b0 : ((strOfNums t172).toList == t175.toList) = false := beq_eq_false_iff_ne.mpr c11
        have c11b1 : ((strOfNums t172).toList != t175.toList) = true := bne_iff_ne.mpr c11
        (first | rw [c11b0] | (simp only [i64_w, i32_w]; rw [c11b0]) | skip)
        have H' := Aside0.mk H
        clear H
        try go_wp2
        have n0_ := Aside0.mk (Kd.R_drew HO174.out)
        have n1_ := Aside0.mk (below_drew1 HB.out)
        clear HO174
        clear HB
        have HO174 := n0_
        have HB := n1_
        clear n0_ n1_
        have hcv22 := cap_string (P := Try.prog) (c := c173_) Try.underlying22 Try.underlying5 Try.underlying9 (Kd.own_of_R HO174.out)
        have hcv23 := Kd.C_string (P := Try.prog) (A := A0) (c := c0) Try.underlying22 Try.underlying5 Try.underlying9 (Kd.C_below HR0.out HB.out)
        refine start_ (n := 14) (S := fun w' => Sem.run Try.prog (convert 22 9 (.slice A173_ t172.length c173_)) w' = .ok (.string (strOfNums t172)) w' ∧ Sem.run Try.prog (convert 22 9 (.slice A0 l0.length c0)) w' = .ok (.string (strOfNums l0)) w') (ds := []) #[false, false, false, false, false, false, false, false, false, false, false, false, false, false] (by kernel_rfl) rfl rfl ⟨cap_string (P := Try.prog) (c := c173_) Try.underlying22 Try.underlying5 Try.underlying9 (Kd.own_of_R HO174.out), Kd.C_string (P := Try.prog) (A := A0) (c := c0) Try.underlying22 Try.underlying5 Try.underlying9 (Kd.C_below HR0.out HB.out)⟩ (fun hHeld => ?_); refine with_tabW terrierlaw1_PackSeals.tab4 terrierlaw1_PackSeals.bits4 (fun HT_ HW_ => ?_)
        generalize w9.drew = w21 at HO174 HB hHeld ⊢
        refine pure_ (i := 0) (N := some 25) (v := ?_) (a' := ?_) #[true, false, false, false, false, false, false, false, false, false, false, false, false, false] rfl rfl (any_of HT_.out (by kernel_rfl)) (fun _ _ _ h => h) (Or.inl ⟨by rfl, ?_⟩) ?_ ?_
        rotate_left
        · intro w'
          go_simp
          with_reducible rfl
        rotate_left
        · simp only [Act.put, List.setIfInBounds_toArray, List.set_cons_zero, List.set_cons_succ, i64_w, i32_w]
          rfl
        refine take_ (i := 1) (N := some 26) (v := ?_) (a' := ?_) #[true, true, false, false, false, false, false, false, false, false, false, false, false, false] rfl rfl (take_ofW HT_.out HW_.out (by kernel_rfl)) (fun _ _ _ h => h) (Or.inl ⟨by rfl, ?_⟩) hHeld ?_ ?_
        rotate_left
        · rintro w' ⟨s0, s1⟩
          go_simp
          with_reducible rfl
        rotate_left
        · simp only [Act.put, List.setIfInBounds_toArray, List.set_cons_zero, List.set_cons_succ, i64_w, i32_w]
          rfl
        refine pure_ (i := 2) (N := some 27) (v := ?_) (a' := ?_) #[true, true, true, false, false, false, false, false, false, false, false, false, false, false] rfl rfl (any_of HT_.out (by kernel_rfl)) (fun _ _ _ h => h) (Or.inl ⟨by rfl, ?_⟩) ?_ ?_
        rotate_left
        · intro w'
          go_simp
          with_reducible rfl
        rotate_left
        · simp only [Act.put, List.setIfInBounds_toArray, List.set_cons_zero, List.set_cons_succ, i64_w, i32_w]
          rfl
        refine take_ (i := 3) (N := some 28) (v := ?_) (a' := ?_) #[true, true, true, true, false, false, false, false, false, false, false, false, false, false] rfl rfl (take_ofW HT_.out HW_.out (by kernel_rfl)) (fun _ _ _ h => h) (Or.inl ⟨by rfl, ?_⟩) hHeld ?_ ?_
        rotate_left
        · rintro w' ⟨s0, s1⟩
          go_simp
          with_reducible rfl
        rotate_left
        · simp only [Act.put, List.setIfInBounds_toArray, List.set_cons_zero, List.set_cons_succ, i64_w, i32_w]
          rfl
        refine one_ (i := 4) (N := some 29) #[true, true, true, true, true, false, false, false, false, false, false, false, false, false] rfl rfl (one_of HT_.out (by kernel_rfl)) (by decide) (fun K hK => ?_)
        refine goes_ Try.func21 (by kernel_rfl) rfl #[.string (strOfNums l0)] (by rfl) rfl rfl (by (try simp only [List.map_toArray, List.map_cons, List.map_nil]); first | done | rfl | (simp only [List.length_drop, List.length_take]; rfl)) ?_
        with_reducible refine (terrierref1_Seal.calls k (strOfNums l0) t175 _ A10.out).mono ?_
        rintro e w24 ⟨rfl, hb⟩
        refine ⟨_, rfl, ?_⟩
        have n0_ := Aside0.mk (Kd.R_below (by (with_reducible repeat (first | apply Kd.R_alloc | apply Kd.R_drewN | apply Kd.R_drew)); exact HO174.out) hb)
        have n1_ := Aside0.mk (below_step (by repeat (first | (with_reducible first | exact HB.out | apply below_alloc | apply pw_below_drewN | apply below_drew1) | exact HB.out)) hb)
        clear HO174
        clear HB
        have HO174 := n0_
        have HB := n1_
        clear n0_ n1_
        (try clear hb)
        (try clear hb2)
        (try clear hk)
        (try clear hi)
        refine hK.out _ _ ⟨cap_string (P := Try.prog) (c := c173_) Try.underlying22 Try.underlying5 Try.underlying9 (Kd.own_of_R HO174.out), Kd.C_string (P := Try.prog) (A := A0) (c := c0) Try.underlying22 Try.underlying5 Try.underlying9 (Kd.C_below HR0.out HB.out)⟩ (fun hHeld => ?_)
        clear hK K
        refine norm_ (a' := ?_) ?_ ?_
        rotate_left
        · show Act.put _ (some 29) _ = _
          simp only [Act.put, List.setIfInBounds_toArray, List.set_cons_zero, List.set_cons_succ, i64_w, i32_w]
          rfl
        refine pure_ (i := 5) (N := some 30) (v := ?_) (a' := ?_) #[true, true, true, true, true, true, false, false, false, false, false, false, false, false] rfl rfl (any_of HT_.out (by kernel_rfl)) (fun _ _ _ h => h) (Or.inl ⟨by rfl, ?_⟩) ?_ ?_
        rotate_left
        · intro w'
          go_simp
          with_reducible rfl
        rotate_left
        · simp only [Act.put, List.setIfInBounds_toArray, List.set_cons_zero, List.set_cons_succ, i64_w, i32_w]
          rfl
        refine pure_ (i := 6) (N := some 31) (v := ?_) (a' := ?_) #[true, true, true, true, true, true, true, false, false, false, false, false, false, false] rfl rfl (any_of HT_.out (by kernel_rfl)) (fun _ _ _ h => h) (Or.inl ⟨by rfl, ?_⟩) ?_ ?_
        rotate_left
        · intro w'
          go_simp
          with_reducible rfl
        rotate_left
        · simp only [Act.put, List.setIfInBounds_toArray, List.set_cons_zero, List.set_cons_succ, i64_w, i32_w]
          rfl
        refine pure_ (i := 7) (N := some 32) (v := undef) (a' := ?_) #[true, true, true, true, true, true, true, true, false, false, false, false, false, false] rfl rfl (any_of HT_.out (by kernel_rfl)) (fun _ _ _ h => h) (Or.inr ⟨by rfl, rfl⟩) ?_ ?_
        rotate_left
        · simp only [Act.put, List.setIfInBounds_toArray, List.set_cons_zero, List.set_cons_succ, i64_w, i32_w]
          rfl
        refine pure_ (i := 8) (N := some 33) (v := undef) (a' := ?_) #[true, true, true, true, true, true, true, true, true, false, false, false, false, false] rfl rfl (any_of HT_.out (by kernel_rfl)) (fun _ _ _ h => h) (Or.inr ⟨by rfl, rfl⟩) ?_ ?_
        rotate_left
        · simp only [Act.put, List.setIfInBounds_toArray, List.set_cons_zero, List.set_cons_succ, i64_w, i32_w]
          rfl
        refine pure_ (i := 9) (N := some 34) (v := undef) (a' := ?_) #[true, true, true, true, true, true, true, true, true, true, false, false, false, false] rfl rfl (any_of HT_.out (by kernel_rfl)) (fun _ _ _ h => h) (Or.inr ⟨by rfl, rfl⟩) ?_ ?_
        rotate_left
        · simp only [Act.put, List.setIfInBounds_toArray, List.set_cons_zero, List.set_cons_succ, i64_w, i32_w]
          rfl
        refine pure_ (i := 10) (N := some 35) (v := undef) (a' := ?_) #[true, true, true, true, true, true, true, true, true, true, true, false, false, false] rfl rfl (any_of HT_.out (by kernel_rfl)) (fun _ _ _ h => h) (Or.inr ⟨by rfl, rfl⟩) ?_ ?_
        rotate_left
        · simp only [Act.put, List.setIfInBounds_toArray, List.set_cons_zero, List.set_cons_succ, i64_w, i32_w]
          rfl
        refine pure_ (i := 11) (N := some 36) (v := undef) (a' := ?_) #[true, true, true, true, true, true, true, true, true, true, true, true, false, false] rfl rfl (any_of HT_.out (by kernel_rfl)) (fun _ _ _ h => h) (Or.inr ⟨by rfl, rfl⟩) ?_ ?_
        rotate_left
        · simp only [Act.put, List.setIfInBounds_toArray, List.set_cons_zero, List.set_cons_succ, i64_w, i32_w]
          rfl
        refine pure_ (i := 12) (N := some 37) (v := undef) (a' := ?_) #[true, true, true, true, true, true, true, true, true, true, true, true, true, false] rfl rfl (any_of HT_.out (by kernel_rfl)) (fun _ _ _ h => h) (Or.inr ⟨by rfl, rfl⟩) ?_ ?_
        rotate_left
        · simp only [Act.put, List.setIfInBounds_toArray, List.set_cons_zero, List.set_cons_succ, i64_w, i32_w]
          rfl
        refine pure_ (i := 13) (N := some 38) (v := ?_) (a' := ?_) #[true, true, true, true, true, true, true, true, true, true, true, true, true, true] rfl rfl (any_of HT_.out (by kernel_rfl)) (fun _ _ _ h => h) (Or.inl ⟨by rfl, ?_⟩) ?_ ?_
        rotate_left
        · intro w'
          go_simp
          with_reducible rfl
        rotate_left
        · simp only [Act.put, List.setIfInBounds_toArray, List.set_cons_zero, List.set_cons_succ, i64_w, i32_w]
          rfl
        refine done_ (done_of HT_.out (by kernel_rfl)) ?_
        try go_wp2
        go_meet
        case rel => exact ⟨_, (true), (by first | rfl | (simp; done) | (simp [*]; done)), H', ⟨by first | omega | exact Nat.le_refl _⟩, ⟨by (with_reducible repeat (first | apply Kd.R_alloc | apply Kd.R_drewN | apply Kd.R_drew)); exact HO174.out⟩, ⟨by repeat (first | (with_reducible first | exact HB.out | apply below_alloc | apply pw_below_drewN | apply below_drew1) | exact HB.out)⟩⟩
    case rest =>
      clear HC8
      try clear c1
      try clear hcv1
      try clear c2
      try clear p2
      try clear hcv2
      try clear c4
      try clear c4b0
      try clear c4b1
      try clear c8
      try clear c10
      try clear c11
      try clear c11b0
      try clear c11b1
      try clear hcv15
      try clear hcv16
      try clear hcv19
      try clear c20
      try clear c21
      try clear c22
      try clear hcv22
      try clear hcv23
      obtain ⟨kq, x38_7, rfl, HA, HJ7, HO_7, HB⟩ := hcut
      cases kq with
      | zero => exact absurd HA.out (by simp [terrierlaw1_PackSeals.j0])
      | succ kj7 =>
        have H := HA.out
        clear HA
        simp only [terrierlaw1_PackSeals.j0] at H
        by_cases c26 : x38_7 = true
        · subst c26
          have H1 : (some false) = some r := by rw [if_pos rfl] at H; exact H
          clear H
          have H := H1
          clear H1
          exact absurd (Option.some.inj (H.trans (congrArg some HR.out))) (by decide)
        · replace c26 := Bool.eq_false_iff.mpr c26
          subst c26
          have H1 : ((pack_Open.f kj7 t172).bind fun bt178 => (if bt178.2 = 0 then (terrierlaw1_PackSeals.j1 kj7 a1 a2 t172 ((strOfNums bt178.1).toList != (strOfNums l0).toList)) else (terrierlaw1_PackSeals.j1 kj7 a1 a2 t172 true))) = some r := by rw [if_neg (show ¬ (false = true) by decide)] at H; exact H
          clear H
          have H := H1
          clear H1
          replace H := Option.bind_eq_some_iff.mp H
          obtain ⟨⟨t178, t179⟩, A270, H⟩ := H
          replace H : (if t179 = 0 then (terrierlaw1_PackSeals.j1 kj7 a1 a2 t172 ((strOfNums t178).toList != (strOfNums l0).toList)) else (terrierlaw1_PackSeals.j1 kj7 a1 a2 t172 true)) = some r := H
          have A27 := Aside0.mk A270
          clear A270
          have HC28 := Aside0.mk H
          clear H
          go_upto_region 7 with (first | ((with_reducible refine gate_callee (f := 23) rfl ?_); refine goesL_ (some 41) rfl rfl Try.func23 (by kernel_rfl) rfl #[.slice A173_ t172.length c173_] rfl (by (try simp only [List.map_toArray, List.map_cons, List.map_nil]); first | done | rfl | (simp only [List.length_drop, List.length_take]; rfl)) ?_; (with_reducible refine (pack_Open.calls kj7 _ _ t172 t178 t179 _ ?side1 ?side2 A27.out).mono ?_); (case side1 => repeat (first | exact (Kd.R_reads' HO_7.out).2.2 | (with_reducible refine Kd.C_alloc ?_ _) | (with_reducible refine Kd.C_drewN ?_ _) | (with_reducible refine Kd.C_drew ?_))); (case side2 => exact hc173_); rintro e w30 ⟨_, u180, rfl, ⟨A180_, n180_, c180_, d180_, rfl, rfl, hc180_, hd180_⟩, ho0, hb⟩; obtain rfl : n180_ = t178.length := cap_len ho0; refine ⟨_, rfl, ?_⟩; have n0_ := Aside0.mk (Kd.R_elder' (by (with_reducible repeat (first | apply Kd.R_alloc | apply Kd.R_drewN | apply Kd.R_drew)); exact HO_7.out) (Kd.R_base ho0) hb); have n1_ := Aside0.mk (Kd.R_lower (Kd.R_new' ho0 (Kd.R_lt (by (with_reducible repeat (first | apply Kd.R_alloc | apply Kd.R_drewN | apply Kd.R_drew)); exact HO_7.out))) (below_size (by repeat (first | (with_reducible first | exact HB.out | apply below_alloc | apply pw_below_drewN | apply below_drew1) | exact HB.out)))); have n2_ := Aside0.mk (below_step (by repeat (first | (with_reducible first | exact HB.out | apply below_alloc | apply pw_below_drewN | apply below_drew1) | exact HB.out)) hb); clear HO_7; clear HB; have HO_7 := n0_; have HO181 := n1_; have HB := n2_; clear n0_ n1_ n2_; (try clear hb); (try clear hb2); (try clear hk); (try clear hi); (try clear ho0)))
          (try simp only [Act.put, List.setIfInBounds_toArray, List.set_cons_zero, List.set_cons_succ])
          go_cut [52] (fun v52 wc => ∃ (kq : Nat) (x52_27 : Bool), v52 = .bool x52_27 ∧ Aside0 (terrierlaw1_PackSeals.j1 kq a1 a2 t172 x52_27 = some r) ∧ Aside0 (kq ≤ kj7) ∧ Aside0 (Kd.R (Kd.int .u8) 5 wc w.heap.size (fun _ => True) (.slice A173_ t172.length d173_) t172) ∧ Aside0 (Below w.heap.size w wc))
          case first =>
            have H := HC28.out
            clear HC28
            by_cases c31 : t179 = 0
            · rw [if_pos c31] at H
              have c31b0 : (t179 == 0) = true := beq_iff_eq.mpr c31
              have c31b1 : (t179 != 0) = false := bne_eq_false_iff_eq.mpr c31
              clear c31
              (first | rw [c31b0] | (simp only [i64_w, i32_w]; rw [c31b0]) | skip)
              have H' := Aside0.mk H
              clear H
              have hcv32 := cap_string (P := Try.prog) (c := c180_) Try.underlying22 Try.underlying5 Try.underlying9 (Kd.own_of_R HO181.out)
              have hcv33 := Kd.C_string (P := Try.prog) (A := A0) (c := c0) Try.underlying22 Try.underlying5 Try.underlying9 (Kd.C_below HR0.out HB.out)
              go_wp2
              go_meet
              case rel => exact ⟨_, (((strOfNums t178).toList != (strOfNums l0).toList)), (by first | rfl | (simp; done) | (simp [*]; done)), H', ⟨by have := HJ7.out; first | omega | exact Nat.le_refl _⟩, ⟨by (with_reducible repeat (first | apply Kd.R_alloc | apply Kd.R_drewN | apply Kd.R_drew)); exact Kd.R_mono HO_7.out (fun _ hk => trivial)⟩, ⟨by repeat (first | (with_reducible first | exact HB.out | apply below_alloc | apply pw_below_drewN | apply below_drew1) | exact HB.out)⟩⟩
            · rw [if_neg c31] at H
              have c31b0 : (t179 == 0) = false := beq_eq_false_iff_ne.mpr c31
              have c31b1 : (t179 != 0) = true := bne_iff_ne.mpr c31
              (first | rw [c31b0] | (simp only [i64_w, i32_w]; rw [c31b0]) | skip)
              have H' := Aside0.mk H
              clear H
              go_wp2
              go_meet
              case rel => exact ⟨_, (true), (by first | rfl | (simp; done) | (simp [*]; done)), H', ⟨by have := HJ7.out; first | omega | exact Nat.le_refl _⟩, ⟨by (with_reducible repeat (first | apply Kd.R_alloc | apply Kd.R_drewN | apply Kd.R_drew)); exact Kd.R_mono HO_7.out (fun _ hk => trivial)⟩, ⟨by repeat (first | (with_reducible first | exact HB.out | apply below_alloc | apply pw_below_drewN | apply below_drew1) | exact HB.out)⟩⟩
          case rest =>
            clear HC28
            try clear c1
            try clear hcv1
            try clear c2
            try clear p2
            try clear hcv2
            try clear c3
            try clear hcv3
            try clear c4
            try clear c4b0
            try clear c4b1
            try clear c8
            try clear c10
            try clear c11
            try clear c11b0
            try clear c11b1
            try clear hcv15
            try clear hcv16
            try clear hcv19
            try clear c20
            try clear c21
            try clear c22
            try clear hcv22
            try clear c23
            try clear hcv23
            try clear c26
            try clear c31
            try clear c31b0
            try clear c31b1
            try clear hcv32
            try clear hcv33
            try clear p2
            obtain ⟨kq, x52_27, rfl, HA, HJ27, HO_7, HB⟩ := hcut
            cases kq with
            | zero => exact absurd HA.out (by simp [terrierlaw1_PackSeals.j1])
            | succ kj27 =>
              have H := HA.out
              clear HA
              simp only [terrierlaw1_PackSeals.j1] at H
              by_cases c34 : x52_27 = true
              · subst c34
                have H1 : (some false) = some r := by rw [if_pos rfl] at H; exact H
                clear H
                have H := H1
                clear H1
                exact absurd (Option.some.inj (H.trans (congrArg some HR.out))) (by decide)
              · replace c34 := Bool.eq_false_iff.mpr c34
                subst c34
                have H1 : ((some (([] : List Int) : List Int)).bind fun y182 => (if y182.length + t172.length < 140737488355328 then ((some (y182 ++ t172 : List Int)).bind fun y185 => (if (wrap64 (8 * (y185.length : Int))) = 0 then (none) else (if 0 ≤ (wrap64 (Int.tdiv (Int.tmod (wrap64 ((Int.tmod a1 (wrap64 (8 * (y185.length : Int)))) + (wrap64 (8 * (y185.length : Int))))) (wrap64 (8 * (y185.length : Int)))) 8)) then (if (wrap64 (Int.tdiv (Int.tmod (wrap64 ((Int.tmod a1 (wrap64 (8 * (y185.length : Int)))) + (wrap64 (8 * (y185.length : Int))))) (wrap64 (8 * (y185.length : Int)))) 8)) < (y185.length : Int) then (if 0 ≤ (Int.tmod (Int.tmod (wrap64 ((Int.tmod a1 (wrap64 (8 * (y185.length : Int)))) + (wrap64 (8 * (y185.length : Int))))) (wrap64 (8 * (y185.length : Int)))) 8) then ((pack_Open.f kj27 (y185.set ((wrap64 (Int.tdiv (Int.tmod (wrap64 ((Int.tmod a1 (wrap64 (8 * (y185.length : Int)))) + (wrap64 (8 * (y185.length : Int))))) (wrap64 (8 * (y185.length : Int)))) 8)) : Int).toNat (Go.bits .xor .u8 (rd y185 (wrap64 (Int.tdiv (Int.tmod (wrap64 ((Int.tmod a1 (wrap64 (8 * (y185.length : Int)))) + (wrap64 (8 * (y185.length : Int))))) (wrap64 (8 * (y185.length : Int)))) 8))) (shl .u8 1 (Int.tmod (Int.tmod (wrap64 ((Int.tmod a1 (wrap64 (8 * (y185.length : Int)))) + (wrap64 (8 * (y185.length : Int))))) (wrap64 (8 * (y185.length : Int)))) 8))))).bind fun bt190 => (if (wrap64 ((t172.length : Int) + 1)) = 0 then (none) else (if 0 ≤ (Int.tmod (wrap64 ((wrap64 ((Int.tmod a2 (wrap64 ((t172.length : Int) + 1))) + (t172.length : Int))) + 1)) (wrap64 ((t172.length : Int) + 1))) then (if (Int.tmod (wrap64 ((wrap64 ((Int.tmod a2 (wrap64 ((t172.length : Int) + 1))) + (t172.length : Int))) + 1)) (wrap64 ((t172.length : Int) + 1))) ≤ (t172.length : Int) then ((pack_Open.f kj27 (t172.take ((Int.tmod (wrap64 ((wrap64 ((Int.tmod a2 (wrap64 ((t172.length : Int) + 1))) + (t172.length : Int))) + 1)) (wrap64 ((t172.length : Int) + 1))) : Int).toNat)).bind fun bt198 => ((terrierref1_Open.f kj27 (strOfNums (t172.take ((Int.tmod (wrap64 ((wrap64 ((Int.tmod a2 (wrap64 ((t172.length : Int) + 1))) + (t172.length : Int))) + 1)) (wrap64 ((t172.length : Int) + 1))) : Int).toNat))).bind fun bt206 => (if bt190.2 = 3 then (if (strOfNums bt198.1).toList = bt206.1.toList then (if bt198.2 = bt206.2 then ((terrierlaw1_awake.f kj27).bind fun t208 => (some t208)) else (some false)) else (some false)) else (some false)))) else (none)) else (none)))) else (none)) else (none)) else (none)))) else (none))) = some r := by rw [if_neg (show ¬ (false = true) by decide)] at H; exact H
                clear H
                have H := H1
                clear H1
                obtain ⟨y182, hy182⟩ : ∃ y_ : List Int, y_ = (([] : List Int)) := ⟨_, rfl⟩
                replace H : (if y182.length + t172.length < 140737488355328 then ((some (y182 ++ t172 : List Int)).bind fun y185 => (if (wrap64 (8 * (y185.length : Int))) = 0 then (none) else (if 0 ≤ (wrap64 (Int.tdiv (Int.tmod (wrap64 ((Int.tmod a1 (wrap64 (8 * (y185.length : Int)))) + (wrap64 (8 * (y185.length : Int))))) (wrap64 (8 * (y185.length : Int)))) 8)) then (if (wrap64 (Int.tdiv (Int.tmod (wrap64 ((Int.tmod a1 (wrap64 (8 * (y185.length : Int)))) + (wrap64 (8 * (y185.length : Int))))) (wrap64 (8 * (y185.length : Int)))) 8)) < (y185.length : Int) then (if 0 ≤ (Int.tmod (Int.tmod (wrap64 ((Int.tmod a1 (wrap64 (8 * (y185.length : Int)))) + (wrap64 (8 * (y185.length : Int))))) (wrap64 (8 * (y185.length : Int)))) 8) then ((pack_Open.f kj27 (y185.set ((wrap64 (Int.tdiv (Int.tmod (wrap64 ((Int.tmod a1 (wrap64 (8 * (y185.length : Int)))) + (wrap64 (8 * (y185.length : Int))))) (wrap64 (8 * (y185.length : Int)))) 8)) : Int).toNat (Go.bits .xor .u8 (rd y185 (wrap64 (Int.tdiv (Int.tmod (wrap64 ((Int.tmod a1 (wrap64 (8 * (y185.length : Int)))) + (wrap64 (8 * (y185.length : Int))))) (wrap64 (8 * (y185.length : Int)))) 8))) (shl .u8 1 (Int.tmod (Int.tmod (wrap64 ((Int.tmod a1 (wrap64 (8 * (y185.length : Int)))) + (wrap64 (8 * (y185.length : Int))))) (wrap64 (8 * (y185.length : Int)))) 8))))).bind fun bt190 => (if (wrap64 ((t172.length : Int) + 1)) = 0 then (none) else (if 0 ≤ (Int.tmod (wrap64 ((wrap64 ((Int.tmod a2 (wrap64 ((t172.length : Int) + 1))) + (t172.length : Int))) + 1)) (wrap64 ((t172.length : Int) + 1))) then (if (Int.tmod (wrap64 ((wrap64 ((Int.tmod a2 (wrap64 ((t172.length : Int) + 1))) + (t172.length : Int))) + 1)) (wrap64 ((t172.length : Int) + 1))) ≤ (t172.length : Int) then ((pack_Open.f kj27 (t172.take ((Int.tmod (wrap64 ((wrap64 ((Int.tmod a2 (wrap64 ((t172.length : Int) + 1))) + (t172.length : Int))) + 1)) (wrap64 ((t172.length : Int) + 1))) : Int).toNat)).bind fun bt198 => ((terrierref1_Open.f kj27 (strOfNums (t172.take ((Int.tmod (wrap64 ((wrap64 ((Int.tmod a2 (wrap64 ((t172.length : Int) + 1))) + (t172.length : Int))) + 1)) (wrap64 ((t172.length : Int) + 1))) : Int).toNat))).bind fun bt206 => (if bt190.2 = 3 then (if (strOfNums bt198.1).toList = bt206.1.toList then (if bt198.2 = bt206.2 then ((terrierlaw1_awake.f kj27).bind fun t208 => (some t208)) else (some false)) else (some false)) else (some false)))) else (none)) else (none)))) else (none)) else (none)) else (none)))) else (none)) = some r := by first | (rw [hy182]; with_reducible exact H) | (have H2_ := (Option.bind_some _ _).symm.trans H; rw [hy182]; with_reducible exact H2_) | (have H2_ := (Option.bind_some _ _).symm.trans H; with_reducible exact H2_) | with_reducible exact H | (rw [hy182]; exact H) | exact H
                have Ny182 := Aside0.mk hy182
                clear hy182
                by_cases c35 : y182.length + t172.length < 140737488355328
                · rw [if_pos c35] at H
                  have LMc35 := Aside0.mk c35
                  clear c35
                  obtain ⟨y185, hy185⟩ : ∃ y_ : List Int, y_ = (y182 ++ t172) := ⟨_, rfl⟩
                  replace H : (if (wrap64 (8 * (y185.length : Int))) = 0 then (none) else (if 0 ≤ (wrap64 (Int.tdiv (Int.tmod (wrap64 ((Int.tmod a1 (wrap64 (8 * (y185.length : Int)))) + (wrap64 (8 * (y185.length : Int))))) (wrap64 (8 * (y185.length : Int)))) 8)) then (if (wrap64 (Int.tdiv (Int.tmod (wrap64 ((Int.tmod a1 (wrap64 (8 * (y185.length : Int)))) + (wrap64 (8 * (y185.length : Int))))) (wrap64 (8 * (y185.length : Int)))) 8)) < (y185.length : Int) then (if 0 ≤ (Int.tmod (Int.tmod (wrap64 ((Int.tmod a1 (wrap64 (8 * (y185.length : Int)))) + (wrap64 (8 * (y185.length : Int))))) (wrap64 (8 * (y185.length : Int)))) 8) then ((pack_Open.f kj27 (y185.set ((wrap64 (Int.tdiv (Int.tmod (wrap64 ((Int.tmod a1 (wrap64 (8 * (y185.length : Int)))) + (wrap64 (8 * (y185.length : Int))))) (wrap64 (8 * (y185.length : Int)))) 8)) : Int).toNat (Go.bits .xor .u8 (rd y185 (wrap64 (Int.tdiv (Int.tmod (wrap64 ((Int.tmod a1 (wrap64 (8 * (y185.length : Int)))) + (wrap64 (8 * (y185.length : Int))))) (wrap64 (8 * (y185.length : Int)))) 8))) (shl .u8 1 (Int.tmod (Int.tmod (wrap64 ((Int.tmod a1 (wrap64 (8 * (y185.length : Int)))) + (wrap64 (8 * (y185.length : Int))))) (wrap64 (8 * (y185.length : Int)))) 8))))).bind fun bt190 => (if (wrap64 ((t172.length : Int) + 1)) = 0 then (none) else (if 0 ≤ (Int.tmod (wrap64 ((wrap64 ((Int.tmod a2 (wrap64 ((t172.length : Int) + 1))) + (t172.length : Int))) + 1)) (wrap64 ((t172.length : Int) + 1))) then (if (Int.tmod (wrap64 ((wrap64 ((Int.tmod a2 (wrap64 ((t172.length : Int) + 1))) + (t172.length : Int))) + 1)) (wrap64 ((t172.length : Int) + 1))) ≤ (t172.length : Int) then ((pack_Open.f kj27 (t172.take ((Int.tmod (wrap64 ((wrap64 ((Int.tmod a2 (wrap64 ((t172.length : Int) + 1))) + (t172.length : Int))) + 1)) (wrap64 ((t172.length : Int) + 1))) : Int).toNat)).bind fun bt198 => ((terrierref1_Open.f kj27 (strOfNums (t172.take ((Int.tmod (wrap64 ((wrap64 ((Int.tmod a2 (wrap64 ((t172.length : Int) + 1))) + (t172.length : Int))) + 1)) (wrap64 ((t172.length : Int) + 1))) : Int).toNat))).bind fun bt206 => (if bt190.2 = 3 then (if (strOfNums bt198.1).toList = bt206.1.toList then (if bt198.2 = bt206.2 then ((terrierlaw1_awake.f kj27).bind fun t208 => (some t208)) else (some false)) else (some false)) else (some false)))) else (none)) else (none)))) else (none)) else (none)) else (none))) = some r := by first | (rw [hy185]; with_reducible exact H) | (have H2_ := (Option.bind_some _ _).symm.trans H; rw [hy185]; with_reducible exact H2_) | (have H2_ := (Option.bind_some _ _).symm.trans H; with_reducible exact H2_) | with_reducible exact H | (rw [hy185]; exact H) | exact H
                  have Ny185 := Aside0.mk hy185
                  clear hy185
                  by_cases c36 : (wrap64 (8 * (y185.length : Int))) = 0
                  · rw [if_pos c36] at H
                    exact absurd H (by simp)
                  · rw [if_neg c36] at H
                    have c36b0 : ((wrap64 (8 * (y185.length : Int))) == 0) = false := beq_eq_false_iff_ne.mpr c36
                    have c36b1 : ((wrap64 (8 * (y185.length : Int))) != 0) = true := bne_iff_ne.mpr c36
                    obtain ⟨ji37, hji37⟩ : ∃ j_ : Int, (wrap64 (Int.tdiv (Int.tmod (wrap64 ((Int.tmod a1 (wrap64 (8 * (y185.length : Int)))) + (wrap64 (8 * (y185.length : Int))))) (wrap64 (8 * (y185.length : Int)))) 8)) = j_ := ⟨_, rfl⟩
                    replace H : (if 0 ≤ (ji37) then (if (ji37) < (y185.length : Int) then (if 0 ≤ (Int.tmod (Int.tmod (wrap64 ((Int.tmod a1 (wrap64 (8 * (y185.length : Int)))) + (wrap64 (8 * (y185.length : Int))))) (wrap64 (8 * (y185.length : Int)))) 8) then ((pack_Open.f kj27 (y185.set ((ji37) : Int).toNat (Go.bits .xor .u8 (rd y185 (ji37)) (shl .u8 1 (Int.tmod (Int.tmod (wrap64 ((Int.tmod a1 (wrap64 (8 * (y185.length : Int)))) + (wrap64 (8 * (y185.length : Int))))) (wrap64 (8 * (y185.length : Int)))) 8))))).bind fun bt190 => (if (wrap64 ((t172.length : Int) + 1)) = 0 then (none) else (if 0 ≤ (Int.tmod (wrap64 ((wrap64 ((Int.tmod a2 (wrap64 ((t172.length : Int) + 1))) + (t172.length : Int))) + 1)) (wrap64 ((t172.length : Int) + 1))) then (if (Int.tmod (wrap64 ((wrap64 ((Int.tmod a2 (wrap64 ((t172.length : Int) + 1))) + (t172.length : Int))) + 1)) (wrap64 ((t172.length : Int) + 1))) ≤ (t172.length : Int) then ((pack_Open.f kj27 (t172.take ((Int.tmod (wrap64 ((wrap64 ((Int.tmod a2 (wrap64 ((t172.length : Int) + 1))) + (t172.length : Int))) + 1)) (wrap64 ((t172.length : Int) + 1))) : Int).toNat)).bind fun bt198 => ((terrierref1_Open.f kj27 (strOfNums (t172.take ((Int.tmod (wrap64 ((wrap64 ((Int.tmod a2 (wrap64 ((t172.length : Int) + 1))) + (t172.length : Int))) + 1)) (wrap64 ((t172.length : Int) + 1))) : Int).toNat))).bind fun bt206 => (if bt190.2 = 3 then (if (strOfNums bt198.1).toList = bt206.1.toList then (if bt198.2 = bt206.2 then ((terrierlaw1_awake.f kj27).bind fun t208 => (some t208)) else (some false)) else (some false)) else (some false)))) else (none)) else (none)))) else (none)) else (none)) else (none)) = some r := by first | (rw [hji37] at H; exact H) | (simp only [hji37] at H ⊢; exact H)
                    have hji37w : (IntKind.i64.wrap (Int.tdiv (Int.tmod (wrap64 ((Int.tmod a1 (wrap64 (8 * (y185.length : Int)))) + (wrap64 (8 * (y185.length : Int))))) (wrap64 (8 * (y185.length : Int)))) 8)) = ji37 := (i64_w _).trans hji37
                    by_cases c38 : 0 ≤ (ji37)
                    · rw [if_pos c38] at H
                      have c38b0 : decide (0 ≤ (ji37)) = true := decide_eq_true c38
                      clear c38
                      by_cases c39 : (ji37) < (y185.length : Int)
                      · rw [if_pos c39] at H
                        have c39b0 : decide ((ji37) < (y185.length : Int)) = true := decide_eq_true c39
                        clear c39
                        obtain ⟨ji40, hji40⟩ : ∃ j_ : Int, (Int.tmod (Int.tmod (wrap64 ((Int.tmod a1 (wrap64 (8 * (y185.length : Int)))) + (wrap64 (8 * (y185.length : Int))))) (wrap64 (8 * (y185.length : Int)))) 8) = j_ := ⟨_, rfl⟩
                        replace H : (if 0 ≤ (ji40) then ((pack_Open.f kj27 (y185.set ((ji37) : Int).toNat (Go.bits .xor .u8 (rd y185 (ji37)) (shl .u8 1 (ji40))))).bind fun bt190 => (if (wrap64 ((t172.length : Int) + 1)) = 0 then (none) else (if 0 ≤ (Int.tmod (wrap64 ((wrap64 ((Int.tmod a2 (wrap64 ((t172.length : Int) + 1))) + (t172.length : Int))) + 1)) (wrap64 ((t172.length : Int) + 1))) then (if (Int.tmod (wrap64 ((wrap64 ((Int.tmod a2 (wrap64 ((t172.length : Int) + 1))) + (t172.length : Int))) + 1)) (wrap64 ((t172.length : Int) + 1))) ≤ (t172.length : Int) then ((pack_Open.f kj27 (t172.take ((Int.tmod (wrap64 ((wrap64 ((Int.tmod a2 (wrap64 ((t172.length : Int) + 1))) + (t172.length : Int))) + 1)) (wrap64 ((t172.length : Int) + 1))) : Int).toNat)).bind fun bt198 => ((terrierref1_Open.f kj27 (strOfNums (t172.take ((Int.tmod (wrap64 ((wrap64 ((Int.tmod a2 (wrap64 ((t172.length : Int) + 1))) + (t172.length : Int))) + 1)) (wrap64 ((t172.length : Int) + 1))) : Int).toNat))).bind fun bt206 => (if bt190.2 = 3 then (if (strOfNums bt198.1).toList = bt206.1.toList then (if bt198.2 = bt206.2 then ((terrierlaw1_awake.f kj27).bind fun t208 => (some t208)) else (some false)) else (some false)) else (some false)))) else (none)) else (none)))) else (none)) = some r := by first | (rw [hji40] at H; exact H) | (simp only [hji40] at H ⊢; exact H)
                        by_cases c41 : 0 ≤ (ji40)
                        · rw [if_pos c41] at H
                          have c41b0 := eq_true c41
                          have c41b1 : decide (0 ≤ (ji40)) = true := decide_eq_true c41
                          clear c41
                          obtain ⟨ji42, hji42⟩ : ∃ j_ : Int, (shl .u8 1 (ji40)) = j_ := ⟨_, rfl⟩
                          replace H : ((pack_Open.f kj27 (y185.set ((ji37) : Int).toNat (Go.bits .xor .u8 (rd y185 (ji37)) (ji42)))).bind fun bt190 => (if (wrap64 ((t172.length : Int) + 1)) = 0 then (none) else (if 0 ≤ (Int.tmod (wrap64 ((wrap64 ((Int.tmod a2 (wrap64 ((t172.length : Int) + 1))) + (t172.length : Int))) + 1)) (wrap64 ((t172.length : Int) + 1))) then (if (Int.tmod (wrap64 ((wrap64 ((Int.tmod a2 (wrap64 ((t172.length : Int) + 1))) + (t172.length : Int))) + 1)) (wrap64 ((t172.length : Int) + 1))) ≤ (t172.length : Int) then ((pack_Open.f kj27 (t172.take ((Int.tmod (wrap64 ((wrap64 ((Int.tmod a2 (wrap64 ((t172.length : Int) + 1))) + (t172.length : Int))) + 1)) (wrap64 ((t172.length : Int) + 1))) : Int).toNat)).bind fun bt198 => ((terrierref1_Open.f kj27 (strOfNums (t172.take ((Int.tmod (wrap64 ((wrap64 ((Int.tmod a2 (wrap64 ((t172.length : Int) + 1))) + (t172.length : Int))) + 1)) (wrap64 ((t172.length : Int) + 1))) : Int).toNat))).bind fun bt206 => (if bt190.2 = 3 then (if (strOfNums bt198.1).toList = bt206.1.toList then (if bt198.2 = bt206.2 then ((terrierlaw1_awake.f kj27).bind fun t208 => (some t208)) else (some false)) else (some false)) else (some false)))) else (none)) else (none)))) = some r := by first | (rw [hji42] at H; exact H) | (simp only [hji42] at H ⊢; exact H)
                          have hji42_ : (IntKind.u8.wrap (1 * 2 ^ min (ji40).toNat 8)) = ji42 := hji42
                          have hji42z : (ji40) ≤ 8 → (IntKind.u8.wrap (1 * 2 ^ (ji40).toNat)) = ji42 := shl_small hji42
                          have hji42u : (IntKind.u8.wrap (2 ^ min (ji40).toNat 8)) = ji42 := by have h_ := hji42_; rw [Int.one_mul] at h_; exact h_
                          have hji42v : (ji40) ≤ 8 → (IntKind.u8.wrap (2 ^ (ji40).toNat)) = ji42 := fun hle_ => by have h_ := hji42z hle_; rw [Int.one_mul] at h_; exact h_
                          obtain ⟨y189, hy189⟩ : ∃ y_ : List Int, y_ = (y185.set ((ji37) : Int).toNat (Go.bits .xor .u8 (rd y185 (ji37)) (ji42))) := ⟨_, rfl⟩
                          replace H : ((pack_Open.f kj27 y189).bind fun bt190 => (if (wrap64 ((t172.length : Int) + 1)) = 0 then (none) else (if 0 ≤ (Int.tmod (wrap64 ((wrap64 ((Int.tmod a2 (wrap64 ((t172.length : Int) + 1))) + (t172.length : Int))) + 1)) (wrap64 ((t172.length : Int) + 1))) then (if (Int.tmod (wrap64 ((wrap64 ((Int.tmod a2 (wrap64 ((t172.length : Int) + 1))) + (t172.length : Int))) + 1)) (wrap64 ((t172.length : Int) + 1))) ≤ (t172.length : Int) then ((pack_Open.f kj27 (t172.take ((Int.tmod (wrap64 ((wrap64 ((Int.tmod a2 (wrap64 ((t172.length : Int) + 1))) + (t172.length : Int))) + 1)) (wrap64 ((t172.length : Int) + 1))) : Int).toNat)).bind fun bt198 => ((terrierref1_Open.f kj27 (strOfNums (t172.take ((Int.tmod (wrap64 ((wrap64 ((Int.tmod a2 (wrap64 ((t172.length : Int) + 1))) + (t172.length : Int))) + 1)) (wrap64 ((t172.length : Int) + 1))) : Int).toNat))).bind fun bt206 => (if bt190.2 = 3 then (if (strOfNums bt198.1).toList = bt206.1.toList then (if bt198.2 = bt206.2 then ((terrierlaw1_awake.f kj27).bind fun t208 => (some t208)) else (some false)) else (some false)) else (some false)))) else (none)) else (none)))) = some r := by first | (rw [hy189]; with_reducible exact H) | (have H2_ := (Option.bind_some _ _).symm.trans H; rw [hy189]; with_reducible exact H2_) | (have H2_ := (Option.bind_some _ _).symm.trans H; with_reducible exact H2_) | with_reducible exact H | (rw [hy189]; exact H) | exact H
                          have Ny189 := Aside0.mk hy189
                          clear hy189
                          replace H := Option.bind_eq_some_iff.mp H
                          obtain ⟨⟨t190, t191⟩, A440, H⟩ := H
                          replace H : (if (wrap64 ((t172.length : Int) + 1)) = 0 then (none) else (if 0 ≤ (Int.tmod (wrap64 ((wrap64 ((Int.tmod a2 (wrap64 ((t172.length : Int) + 1))) + (t172.length : Int))) + 1)) (wrap64 ((t172.length : Int) + 1))) then (if (Int.tmod (wrap64 ((wrap64 ((Int.tmod a2 (wrap64 ((t172.length : Int) + 1))) + (t172.length : Int))) + 1)) (wrap64 ((t172.length : Int) + 1))) ≤ (t172.length : Int) then ((pack_Open.f kj27 (t172.take ((Int.tmod (wrap64 ((wrap64 ((Int.tmod a2 (wrap64 ((t172.length : Int) + 1))) + (t172.length : Int))) + 1)) (wrap64 ((t172.length : Int) + 1))) : Int).toNat)).bind fun bt198 => ((terrierref1_Open.f kj27 (strOfNums (t172.take ((Int.tmod (wrap64 ((wrap64 ((Int.tmod a2 (wrap64 ((t172.length : Int) + 1))) + (t172.length : Int))) + 1)) (wrap64 ((t172.length : Int) + 1))) : Int).toNat))).bind fun bt206 => (if t191 = 3 then (if (strOfNums bt198.1).toList = bt206.1.toList then (if bt198.2 = bt206.2 then ((terrierlaw1_awake.f kj27).bind fun t208 => (some t208)) else (some false)) else (some false)) else (some false)))) else (none)) else (none))) = some r := H
                          have A44 := Aside0.mk A440
                          clear A440
                          by_cases c45 : (wrap64 ((t172.length : Int) + 1)) = 0
                          · rw [if_pos c45] at H
                            exact absurd H (by simp)
                          · rw [if_neg c45] at H
                            have c45b0 : ((wrap64 ((t172.length : Int) + 1)) == 0) = false := beq_eq_false_iff_ne.mpr c45
                            have c45b1 : ((wrap64 ((t172.length : Int) + 1)) != 0) = true := bne_iff_ne.mpr c45
                            obtain ⟨ji46, hji46⟩ : ∃ j_ : Int, (Int.tmod (wrap64 ((wrap64 ((Int.tmod a2 (wrap64 ((t172.length : Int) + 1))) + (t172.length : Int))) + 1)) (wrap64 ((t172.length : Int) + 1))) = j_ := ⟨_, rfl⟩
                            replace H : (if 0 ≤ (ji46) then (if (ji46) ≤ (t172.length : Int) then ((pack_Open.f kj27 (t172.take ((ji46) : Int).toNat)).bind fun bt198 => ((terrierref1_Open.f kj27 (strOfNums (t172.take ((ji46) : Int).toNat))).bind fun bt206 => (if t191 = 3 then (if (strOfNums bt198.1).toList = bt206.1.toList then (if bt198.2 = bt206.2 then ((terrierlaw1_awake.f kj27).bind fun t208 => (some t208)) else (some false)) else (some false)) else (some false)))) else (none)) else (none)) = some r := by first | (rw [hji46] at H; exact H) | (simp only [hji46] at H ⊢; exact H)
                            (try rw [hji46] at A44)
                            by_cases c47 : 0 ≤ (ji46)
                            · rw [if_pos c47] at H
                              have c47b0 := eq_true c47
                              have c47b1 : decide (0 ≤ (ji46)) = true := decide_eq_true c47
                              clear c47
                              by_cases c48 : (ji46) ≤ (t172.length : Int)
                              · rw [if_pos c48] at H
                                have c48b0 := eq_true c48
                                have c48b1 : decide ((ji46) ≤ (t172.length : Int)) = true := decide_eq_true c48
                                clear c48
                                obtain ⟨y194, hy194⟩ : ∃ y_ : List Int, y_ = (t172.take ((ji46) : Int).toNat) := ⟨_, rfl⟩
                                replace H : ((pack_Open.f kj27 y194).bind fun bt198 => ((terrierref1_Open.f kj27 (strOfNums (t172.take ((ji46) : Int).toNat))).bind fun bt206 => (if t191 = 3 then (if (strOfNums bt198.1).toList = bt206.1.toList then (if bt198.2 = bt206.2 then ((terrierlaw1_awake.f kj27).bind fun t208 => (some t208)) else (some false)) else (some false)) else (some false)))) = some r := by first | (rw [hy194]; with_reducible exact H) | (have H2_ := (Option.bind_some _ _).symm.trans H; rw [hy194]; with_reducible exact H2_) | (have H2_ := (Option.bind_some _ _).symm.trans H; with_reducible exact H2_) | with_reducible exact H | (rw [hy194]; exact H) | exact H
                                have Ny194 := Aside0.mk hy194
                                clear hy194
                                replace H := Option.bind_eq_some_iff.mp H
                                obtain ⟨⟨t198, t199⟩, A490, H⟩ := H
                                replace H : ((terrierref1_Open.f kj27 (strOfNums (t172.take ((ji46) : Int).toNat))).bind fun bt206 => (if t191 = 3 then (if (strOfNums t198).toList = bt206.1.toList then (if t199 = bt206.2 then ((terrierlaw1_awake.f kj27).bind fun t208 => (some t208)) else (some false)) else (some false)) else (some false))) = some r := H
                                have A49 := Aside0.mk A490
                                clear A490
                                have c50b0 := eq_true (of_decide_eq_true (by first | (with_reducible assumption) | assumption) : 0 ≤ (ji46))
                                have c51b0 := eq_true (of_decide_eq_true (by first | (with_reducible assumption) | assumption) : (ji46) ≤ (t172.length : Int))
                                obtain ⟨y202, hy202⟩ : ∃ y_ : List Int, y_ = (t172.take ((ji46) : Int).toNat) := ⟨_, rfl⟩
                                replace H : ((terrierref1_Open.f kj27 (strOfNums y202)).bind fun bt206 => (if t191 = 3 then (if (strOfNums t198).toList = bt206.1.toList then (if t199 = bt206.2 then ((terrierlaw1_awake.f kj27).bind fun t208 => (some t208)) else (some false)) else (some false)) else (some false))) = some r := by first | (rw [hy202]; with_reducible exact H) | (have H2_ := (Option.bind_some _ _).symm.trans H; rw [hy202]; with_reducible exact H2_) | (have H2_ := (Option.bind_some _ _).symm.trans H; with_reducible exact H2_) | with_reducible exact H | (rw [hy202]; exact H) | exact H
                                have Ny202 := Aside0.mk hy202
                                clear hy202
                                replace H := Option.bind_eq_some_iff.mp H
                                obtain ⟨⟨t206, t207⟩, A520, H⟩ := H
                                replace H : (if t191 = 3 then (if (strOfNums t198).toList = t206.toList then (if t199 = t207 then ((terrierlaw1_awake.f kj27).bind fun t208 => (some t208)) else (some false)) else (some false)) else (some false)) = some r := H
                                have A52 := Aside0.mk A520
                                clear A520
                                by_cases c53 : t191 = 3
                                · rw [if_pos c53] at H
                                  have c53b0 : (t191 == 3) = true := beq_iff_eq.mpr c53
                                  have c53b1 : (t191 != 3) = false := bne_eq_false_iff_eq.mpr c53
                                  clear c53
                                  by_cases c54 : (strOfNums t198).toList = t206.toList
                                  · rw [if_pos c54] at H
                                    have c54b0 : ((strOfNums t198).toList == t206.toList) = true := beq_iff_eq.mpr c54
                                    have c54b1 : ((strOfNums t198).toList != t206.toList) = false := bne_eq_false_iff_eq.mpr c54
                                    clear c54
                                    by_cases c55 : t199 = t207
                                    · rw [if_pos c55] at H
                                      have c55b0 : (t199 == t207) = true := beq_iff_eq.mpr c55
                                      have c55b1 : (t199 != t207) = false := bne_eq_false_iff_eq.mpr c55
                                      clear c55
                                      replace H := Option.bind_eq_some_iff.mp H
                                      obtain ⟨t208, A560, H⟩ := H
                                      replace H : (some t208) = some r := H
                                      have A56 := Aside0.mk A560
                                      clear A560
                                      obtain rfl := Option.some.inj H
                                      try go_wp2_with (first | ((with_reducible refine gate_dst (N := 53) rfl ?_); refine Kd.R_lit (Kd.int .u8) _ 5 ?hg (N := 53) ?hd (xs := ([] : List Int)) (inner := []) (ok := fun _ => True) (okp := fun _ => True) ?hr ?hp (fun _ hk => hk) trivial (Below.refl _ _) (Nat.le_refl _) (by simp) ?_; (case hd => rfl); (case hg => rfl); (case hr => first | (go_simp; done) | (go_simp; rfl) | (go_simp; simp [storeCells]; done) | (go_simp; simp [storeCells]; rfl)); (case hp => exact (Reps.none _ _)); intro v183 w57 ho58 hb hg_ hnew_; clear hg_ hnew_; (first | rw [← Ny182.out] at ho58 | (simp only [Int.reduceToNat] at ho58; rw [← Ny182.out] at ho58)); have n0_ := Aside0.mk (Kd.R_elder' (by (with_reducible repeat (first | apply Kd.R_alloc | apply Kd.R_drewN | apply Kd.R_drew)); exact HO_7.out) (Kd.R_base ho58) hb); have n1_ := Aside0.mk (Kd.R_lower (Kd.R_new' ho58 (Kd.R_lt (by (with_reducible repeat (first | apply Kd.R_alloc | apply Kd.R_drewN | apply Kd.R_drew)); exact HO_7.out))) (below_size (by repeat (first | (with_reducible first | exact HB.out | apply below_alloc | apply pw_below_drewN | apply below_drew1) | exact HB.out)))); have n2_ := Aside0.mk (below_step (by repeat (first | (with_reducible first | exact HB.out | apply below_alloc | apply pw_below_drewN | apply below_drew1) | exact HB.out)) hb); clear HO_7; clear HB; have HO_7 := n0_; have HO184 := n1_; have HB := n2_; clear n0_ n1_ n2_; clear hb ho58) | ((with_reducible refine gate_builtin (b := .append) (xs := #[.tmp 53, .tmp 54]) rfl ?_); at_builtin; refine Kd.R_append_rows (Kd.int .u8) (w0 := w) w.heap.size rfl (.tmp 53) (.tmp 54) 22 5 (.int .u8 0) 1 rfl Try.underlying22 info5 rfl (by decide) (by omega) v183 y182 t172 _ _ _ (fun k_ => some k_ ≠ (.slice A173_ t172.length d173_ : Value).ownBlock) (fun _ => False) rfl rfl ?aO ?aR (fun _ _ h => h) (fun _ h => h.elim) ?aF ?aB ?aS ?aL ?_; (case aR => repeat (first | exact (Kd.R_reads' HO_7.out).2.2 | (with_reducible refine Kd.C_alloc ?_ _) | (with_reducible refine Kd.C_drewN ?_ _) | (with_reducible refine Kd.C_drew ?_))); (case aB => exact (by repeat (first | (with_reducible first | exact HB.out | apply below_alloc | apply pw_below_drewN | apply below_drew1) | exact HB.out))); (case aF => exact (fun k_ hk => Kd.fresh' (Kd.R_lt (by (with_reducible repeat (first | apply Kd.R_alloc | apply Kd.R_drewN | apply Kd.R_drew)); exact HO_7.out)) k_ hk)); (case aO => exact (by (with_reducible repeat (first | apply Kd.R_alloc | apply Kd.R_drewN | apply Kd.R_drew)); exact Kd.R_mono HO184.out (fun _ hk => hk.2))); (case aS => exact (below_size (by repeat (first | (with_reducible first | exact HB.out | apply below_alloc | apply pw_below_drewN | apply below_drew1) | exact HB.out)))); (case aL => have := LMc35.out; omega); intro v186 w59 ho hb hg hat; rw [← Ny185.out] at ho; have n0_ := Aside0.mk (Kd.R_after (ok := (fun _ => True)) (by (with_reducible repeat (first | apply Kd.R_alloc | apply Kd.R_drewN | apply Kd.R_drew)); exact HO_7.out) hg hat); have n1_ := Aside0.mk (hb); have n2_ := Aside0.mk (ho); clear HO_7; clear HB; clear HO184; have HO_7 := n0_; have HB := n1_; have HO187 := n2_; clear n0_ n1_ n2_; clear ho hb hg hat; obtain ⟨Ao60, co60, eo60⟩ := Kd.R_slice HO187.out; subst eo60))
                                      have n0_ := Aside0.mk (Kd.R_drew HO_7.out)
                                      have n1_ := Aside0.mk (Kd.R_drew HO187.out)
                                      have n2_ := Aside0.mk (below_drew1 HB.out)
                                      clear HO_7
                                      clear HO187
                                      clear HB
                                      have HO_7 := n0_
                                      have HO187 := n1_
                                      have HB := n2_
                                      clear n0_ n1_ n2_
                                      have p188 : 0 ≤ ((ji37) : Int) := of_decide_eq_true (by first | (with_reducible assumption) | assumption)
                                      have q188 : (ji37) < (y185.length : Int) := of_decide_eq_true (by first | (with_reducible assumption) | assumption)
                                      obtain ⟨ad188, e188, hx188_0⟩ := Kd.at_int (Kd.R_reads' HO187.out).2.2 (ji37) p188 q188
                                      cases e188
                                      replace p188 := eq_true p188
                                      replace q188 := eq_true q188
                                      have p43 : 0 ≤ ((ji37) : Int) := of_decide_eq_true (by first | (with_reducible assumption) | assumption)
                                      have q43 : ((ji37) : Int) < ((y185.length : Int) : Int) := of_decide_eq_true (by first | (with_reducible assumption) | assumption)
                                      obtain ⟨go43, co43, eo43, gb43, gl43, cl43, HG43⟩ := Kd.R_form HO187.out (by omega)
                                      (first | cases eo43 | (injection eo43 with ea_ en_ ec_; (first | subst ea_ | (injection ea_ with ea_; subst ea_)); subst ec_; clear en_))
                                      have GB43 := Aside0.mk gb43
                                      have GG43 := Aside0.mk HG43
                                      clear gb43 gl43 HG43
                                      (first | simp only [add_plain] at hx188_0 | skip)
                                      obtain ⟨hx43_0, hf43_0⟩ := Kd.R_celln 0 HO187.out ((ji37) : Int) p43 q43
                                      replace p43 := eq_true p43
                                      replace q43 := eq_true q43
                                      have HP62 := Kd.R_putn HO187.out ((ji37) : Int) (Go.bits .xor .u8 (rd y185 (ji37)) (ji42))
                                      rw [← Ny189.out] at HP62
                                      have HQ62 := Aside0.mk HP62
                                      clear HP62
                                      refine start_ (n := 14) (S := fun w' => w'.cell? ⟨go43, ((ji37)).toNat, none⟩ = some (.int .u8 (rd y185 (ji37)))) (ds := [13]) #[false, false, false, false, false, false, false, false, false, false, false, false, false, false] (by kernel_rfl) rfl rfl (hx188_0) (fun hHeld => ?_); refine with_tabW terrierlaw1_PackSeals.tab11 terrierlaw1_PackSeals.bits11 (fun HT_ HW_ => ?_)
                                      generalize w59.drew = w61 at HO_7 HO187 HB GG43 HQ62 hf43_0 hx188_0 hx43_0 hHeld ⊢
                                      refine pure_ (i := 0) (N := some 69) (v := ?_) (a' := ?_) #[true, false, false, false, false, false, false, false, false, false, false, false, false, false] rfl rfl (any_of HT_.out (by kernel_rfl)) (fun _ _ _ h => h) (Or.inl ⟨by rfl, ?_⟩) ?_ ?_
                                      rotate_left
                                      · intro w'
                                        go_simp
                                        with_reducible rfl
                                      rotate_left
                                      · simp only [Act.put, List.setIfInBounds_toArray, List.set_cons_zero, List.set_cons_succ, i64_w, i32_w]
                                        rfl
                                      refine pure_ (i := 1) (N := some 70) (v := ?_) (a' := ?_) #[true, true, false, false, false, false, false, false, false, false, false, false, false, false] rfl rfl (any_of HT_.out (by kernel_rfl)) (fun _ _ _ h => h) (Or.inl ⟨by rfl, ?_⟩) ?_ ?_
                                      rotate_left
                                      · intro w'
                                        go_simp
                                        with_reducible rfl
                                      rotate_left
                                      · simp only [Act.put, List.setIfInBounds_toArray, List.set_cons_zero, List.set_cons_succ, i64_w, i32_w]
                                        rfl
                                      refine pure_ (i := 2) (N := some 71) (v := ?_) (a' := ?_) #[true, true, true, false, false, false, false, false, false, false, false, false, false, false] rfl rfl (any_of HT_.out (by kernel_rfl)) (fun _ _ _ h => h) (Or.inl ⟨by rfl, ?_⟩) ?_ ?_
                                      rotate_left
                                      · intro w'
                                        go_simp
                                        with_reducible rfl
                                      rotate_left
                                      · simp only [Act.put, List.setIfInBounds_toArray, List.set_cons_zero, List.set_cons_succ, i64_w, i32_w]
                                        rfl
                                      refine pure_ (i := 3) (N := some 72) (v := ?_) (a' := ?_) #[true, true, true, true, false, false, false, false, false, false, false, false, false, false] rfl rfl (any_of HT_.out (by kernel_rfl)) (fun _ _ _ h => h) (Or.inl ⟨by rfl, ?_⟩) ?_ ?_
                                      rotate_left
                                      · intro w'
                                        go_simp
                                        with_reducible rfl
                                      rotate_left
                                      · simp only [Act.put, List.setIfInBounds_toArray, List.set_cons_zero, List.set_cons_succ, i64_w, i32_w]
                                        rfl
                                      refine pure_ (i := 4) (N := some 73) (v := ?_) (a' := ?_) #[true, true, true, true, true, false, false, false, false, false, false, false, false, false] rfl rfl (any_of HT_.out (by kernel_rfl)) (fun _ _ _ h => h) (Or.inl ⟨by rfl, ?_⟩) ?_ ?_
                                      rotate_left
                                      · intro w'
                                        go_simp
                                        with_reducible rfl
                                      rotate_left
                                      · simp only [Act.put, List.setIfInBounds_toArray, List.set_cons_zero, List.set_cons_succ, i64_w, i32_w]
                                        rfl
                                      refine pure_ (i := 5) (N := some 74) (v := ?_) (a' := ?_) #[true, true, true, true, true, true, false, false, false, false, false, false, false, false] rfl rfl (any_of HT_.out (by kernel_rfl)) (fun _ _ _ h => h) (Or.inl ⟨by rfl, ?_⟩) ?_ ?_
                                      rotate_left
                                      · intro w'
                                        go_simp
                                        with_reducible rfl
                                      rotate_left
                                      · simp only [Act.put, List.setIfInBounds_toArray, List.set_cons_zero, List.set_cons_succ, i64_w, i32_w]
                                        rfl
                                      refine pure_ (i := 6) (N := some 75) (v := ?_) (a' := ?_) #[true, true, true, true, true, true, true, false, false, false, false, false, false, false] rfl rfl (any_of HT_.out (by kernel_rfl)) (fun _ _ _ h => h) (Or.inl ⟨by rfl, ?_⟩) ?_ ?_
                                      rotate_left
                                      · intro w'
                                        go_simp
                                        with_reducible rfl
                                      rotate_left
                                      · simp only [Act.put, List.setIfInBounds_toArray, List.set_cons_zero, List.set_cons_succ, i64_w, i32_w]
                                        rfl
                                      refine pure_ (i := 8) (N := some 77) (v := ?_) (a' := ?_) #[true, true, true, true, true, true, true, false, true, false, false, false, false, false] rfl rfl (any_of HT_.out (by kernel_rfl)) (fun _ _ _ h => h) (Or.inl ⟨by rfl, ?_⟩) ?_ ?_
                                      rotate_left
                                      · intro w'
                                        go_simp
                                        with_reducible rfl
                                      rotate_left
                                      · simp only [Act.put, List.setIfInBounds_toArray, List.set_cons_zero, List.set_cons_succ, i64_w, i32_w]
                                        rfl
                                      refine pure_ (i := 9) (N := some 78) (v := ?_) (a' := ?_) #[true, true, true, true, true, true, true, false, true, true, false, false, false, false] rfl rfl (any_of HT_.out (by kernel_rfl)) (fun _ _ _ h => h) (Or.inl ⟨by rfl, ?_⟩) ?_ ?_
                                      rotate_left
                                      · intro w'
                                        go_simp
                                        with_reducible rfl
                                      rotate_left
                                      · simp only [Act.put, List.setIfInBounds_toArray, List.set_cons_zero, List.set_cons_succ, i64_w, i32_w]
                                        rfl
                                      refine pure_ (i := 10) (N := some 79) (v := ?_) (a' := ?_) #[true, true, true, true, true, true, true, false, true, true, true, false, false, false] rfl rfl (any_of HT_.out (by kernel_rfl)) (fun _ _ _ h => h) (Or.inl ⟨by rfl, ?_⟩) ?_ ?_
                                      rotate_left
                                      · intro w'
                                        go_simp
                                        with_reducible rfl
                                      rotate_left
                                      · simp only [Act.put, List.setIfInBounds_toArray, List.set_cons_zero, List.set_cons_succ, i64_w, i32_w]
                                        rfl
                                      refine take_ (i := 7) (N := some 76) (v := ?_) (a' := ?_) #[true, true, true, true, true, true, true, true, true, true, true, false, false, false] rfl rfl (take_ofW HT_.out HW_.out (by kernel_rfl)) (fun _ _ _ h => h) (Or.inl ⟨by rfl, ?_⟩) hHeld ?_ ?_
                                      rotate_left
                                      · intro w' s0
                                        go_simp
                                        with_reducible rfl
                                      rotate_left
                                      · simp only [Act.put, List.setIfInBounds_toArray, List.set_cons_zero, List.set_cons_succ, i64_w, i32_w]
                                        rfl
                                      refine pure_ (i := 11) (N := some 80) (v := ?_) (a' := ?_) #[true, true, true, true, true, true, true, true, true, true, true, true, false, false] rfl rfl (any_of HT_.out (by kernel_rfl)) (fun _ _ _ h => h) (Or.inl ⟨by rfl, ?_⟩) ?_ ?_
                                      rotate_left
                                      · intro w'
                                        go_simp
                                        with_reducible rfl
                                      rotate_left
                                      · simp only [Act.put, List.setIfInBounds_toArray, List.set_cons_zero, List.set_cons_succ, i64_w, i32_w]
                                        rfl
                                      refine pure_ (i := 12) (N := some 81) (v := ?_) (a' := ?_) #[true, true, true, true, true, true, true, true, true, true, true, true, true, false] rfl rfl (any_of HT_.out (by kernel_rfl)) (fun _ _ _ h => h) (Or.inl ⟨by rfl, ?_⟩) ?_ ?_
                                      rotate_left
                                      · intro w'
                                        go_simp
                                        with_reducible rfl
                                      rotate_left
                                      · simp only [Act.put, List.setIfInBounds_toArray, List.set_cons_zero, List.set_cons_succ, i64_w, i32_w]
                                        rfl
                                      refine last_ (i := 13) (N := none) #[true, true, true, true, true, true, true, true, true, true, true, true, true, true] rfl rfl (one_of HT_.out (by kernel_rfl)) (by decide) (fun K hK => ?_)
                                      refine skip_ (w1 := ?_) (by rfl) rfl ?_ ?_
                                      rotate_left
                                      · go_simp
                                        rfl
                                      refine hK.out _ _ ?_
                                      clear hK K
                                      refine done_ (done_of HT_.out (by kernel_rfl)) ?_
                                      try go_wp2_with (first | ((with_reducible refine gate_callee (f := 23) rfl ?_); refine goesL_ (some 84) rfl rfl Try.func23 (by kernel_rfl) rfl #[.slice (some ⟨go43, 0, none⟩) y189.length co60] rfl (by (try simp only [List.map_toArray, List.map_cons, List.map_nil]); first | done | (rw [show y189.length = y185.length from (Kd.R_reads' HQ62.out).1.symm] <;> rfl) | rfl | (simp only [List.length_drop, List.length_take]; rfl)) ?_; (with_reducible refine (pack_Open.calls kj27 _ _ y189 t190 t191 _ ?side1 ?side2 A44.out).mono ?_); (case side1 => refine (Kd.R_reads' (e := 5) (base := w.heap.size) (ok := fun k_ => some k_ ≠ (.slice A173_ t172.length d173_ : Value).ownBlock) (n := y185.length) (c := co60) ?_).2.2; exact (by (with_reducible repeat (first | apply Kd.R_alloc | apply Kd.R_drewN | apply Kd.R_drew)); exact HQ62.out)); (case side2 => rw [show y189.length = y185.length from (Kd.R_reads' HQ62.out).1.symm]; exact (Kd.R_reads' HO187.out).2.1); rintro e w63 ⟨_, u192, rfl, ⟨A192_, n192_, c192_, d192_, rfl, rfl, hc192_, hd192_⟩, ho0, hb⟩; obtain rfl : n192_ = t190.length := cap_len ho0; refine ⟨_, rfl, ?_⟩; have n0_ := Aside0.mk (Kd.R_elder' (by (with_reducible repeat (first | apply Kd.R_alloc | apply Kd.R_drewN | apply Kd.R_drew)); exact (Kd.R_mono (Kd.R_far (p := ⟨go43, ((ji37) : Int).toNat, none⟩) (Kd.R_mono HO_7.out (fun k_ hk => (⟨hk, fun e_ => hk.2 (by rw [e_]; rfl)⟩ : _ ∧ k_ ≠ go43))) (fun _ hk => hk.2) (.int .u8 (Go.bits .xor .u8 (rd y185 (ji37)) (ji42)))) (fun _ h_ => h_.1))) (Kd.R_base ho0) hb); have n1_ := Aside0.mk (Kd.R_elder' (by (with_reducible repeat (first | apply Kd.R_alloc | apply Kd.R_drewN | apply Kd.R_drew)); exact HQ62.out) (Kd.R_base ho0) hb); have n2_ := Aside0.mk (Kd.R_lower (Kd.R_new' (Kd.R_new' ho0 (Kd.R_lt (by (with_reducible repeat (first | apply Kd.R_alloc | apply Kd.R_drewN | apply Kd.R_drew)); exact (Kd.R_mono (Kd.R_far (p := ⟨go43, ((ji37) : Int).toNat, none⟩) (Kd.R_mono HO_7.out (fun k_ hk => (⟨hk, fun e_ => hk.2 (by rw [e_]; rfl)⟩ : _ ∧ k_ ≠ go43))) (fun _ hk => hk.2) (.int .u8 (Go.bits .xor .u8 (rd y185 (ji37)) (ji42)))) (fun _ h_ => h_.1))))) (Kd.R_lt (by (with_reducible repeat (first | apply Kd.R_alloc | apply Kd.R_drewN | apply Kd.R_drew)); exact HQ62.out))) (below_size (by repeat (first | (with_reducible first | exact HB.out | apply below_alloc | apply pw_below_drewN | apply below_drew1 | refine below_set ?_ GB43.out) | exact HB.out)))); have n3_ := Aside0.mk (below_step (by repeat (first | (with_reducible first | exact HB.out | apply below_alloc | apply pw_below_drewN | apply below_drew1 | refine below_set ?_ GB43.out) | exact HB.out)) hb); clear HO_7; clear HO187; clear HB; have HO_7 := n0_; have HO187 := n1_; have HO193 := n2_; have HB := n3_; clear n0_ n1_ n2_ n3_; (try clear hb); (try clear hb2); (try clear hk); (try clear hi); (try clear ho0); have q64 : ((ji46) : Int) ≤ ((t172.length : Int) : Int) := of_decide_eq_true (by first | (with_reducible assumption) | assumption); obtain ⟨i064, hi064, _, hsz64, _⟩ := info_parts info5; have hroom64 : t172.length ≤ c173_ := hc173_; have hC64 : Kd.C (Kd.int .u8) _ A173_ t172.length t172 := (Kd.R_reads' HO_7.out).2.2; have hcut64 := cut_to (P := Try.prog) 22 5 .i64 Try.underlying22 hi064 A173_ t172.length c173_ (ji46) (of_decide_eq_true (by first | (with_reducible assumption) | assumption)) q64 hroom64; have hr64 := Kd.C_take (m := ((ji46) : Int).toNat) hC64 (by omega); have hy64 : y194.length = ((ji46) : Int).toNat := (by rw [Ny194.out, List.length_take]; omega); rw [← Ny194.out] at hr64; rw [← hy64] at hcut64; have HR197 := Aside0.mk hr64; have HC197 := Aside0.mk (show y194.length ≤ c173_ from by omega); clear hr64 hC64 hroom64 hi064 hsz64; have KY64 := Aside0.mk hy64; clear hy64; have KL64 := Aside0.mk (show ((ji46) : Int).toNat ≤ t172.length from by omega); replace q64 := eq_true q64) | ((with_reducible refine gate_callee (f := 23) rfl ?_); refine goesL_ (some 104) rfl rfl Try.func23 (by kernel_rfl) rfl #[.slice A173_ y194.length c173_] rfl (by (try simp only [List.map_toArray, List.map_cons, List.map_nil]); first | done | rfl | (simp only [List.length_drop, List.length_take]; rfl)) ?_; (with_reducible refine (pack_Open.calls kj27 _ _ y194 t198 t199 _ ?side1 ?side2 A49.out).mono ?_); (case side1 => repeat (first | exact (by repeat (first | (with_reducible exact HR197.out) | (with_reducible refine Kd.C_alloc ?_ _) | (with_reducible refine Kd.C_drewN ?_ _) | (with_reducible refine Kd.C_drew ?_) | exact HR197.out)) | (with_reducible refine Kd.C_alloc ?_ _) | (with_reducible refine Kd.C_drewN ?_ _) | (with_reducible refine Kd.C_drew ?_))); (case side2 => exact HC197.out); rintro e w65 ⟨_, u200, rfl, ⟨A200_, n200_, c200_, d200_, rfl, rfl, hc200_, hd200_⟩, ho0, hb⟩; obtain rfl : n200_ = t198.length := cap_len ho0; refine ⟨_, rfl, ?_⟩; have n0_ := Aside0.mk (Kd.R_elder' (by (with_reducible repeat (first | apply Kd.R_alloc | apply Kd.R_drewN | apply Kd.R_drew)); exact HO_7.out) (Kd.R_base ho0) hb); have n1_ := Aside0.mk (Kd.R_elder' (by (with_reducible repeat (first | apply Kd.R_alloc | apply Kd.R_drewN | apply Kd.R_drew)); exact HO187.out) (Kd.R_base ho0) hb); have n2_ := Aside0.mk (Kd.R_elder' (by (with_reducible repeat (first | apply Kd.R_alloc | apply Kd.R_drewN | apply Kd.R_drew)); exact HO193.out) (Kd.R_base ho0) hb); have n3_ := Aside0.mk (Kd.R_lower (Kd.R_new' (Kd.R_new' (Kd.R_new' ho0 (Kd.R_lt (by (with_reducible repeat (first | apply Kd.R_alloc | apply Kd.R_drewN | apply Kd.R_drew)); exact HO_7.out))) (Kd.R_lt (by (with_reducible repeat (first | apply Kd.R_alloc | apply Kd.R_drewN | apply Kd.R_drew)); exact HO187.out))) (Kd.R_lt (by (with_reducible repeat (first | apply Kd.R_alloc | apply Kd.R_drewN | apply Kd.R_drew)); exact HO193.out))) (below_size (by repeat (first | (with_reducible first | exact HB.out | apply below_alloc | apply pw_below_drewN | apply below_drew1) | exact HB.out)))); have n4_ := Aside0.mk (Kd.C_below (by repeat (first | (with_reducible exact HR197.out) | (with_reducible refine Kd.C_alloc ?_ _) | (with_reducible refine Kd.C_drewN ?_ _) | (with_reducible refine Kd.C_drew ?_) | exact HR197.out)) hb); have n5_ := Aside0.mk (below_step (by repeat (first | (with_reducible first | exact HB.out | apply below_alloc | apply pw_below_drewN | apply below_drew1) | exact HB.out)) hb); clear HO_7; clear HO187; clear HO193; clear HR197; clear HB; have HO_7 := n0_; have HO187 := n1_; have HO193 := n2_; have HO201 := n3_; have HR197 := n4_; have HB := n5_; clear n0_ n1_ n2_ n3_ n4_ n5_; (try clear hb); (try clear hb2); (try clear hk); (try clear hi); (try clear ho0); have q66 : ((ji46) : Int) ≤ ((t172.length : Int) : Int) := of_decide_eq_true (by first | (with_reducible assumption) | assumption); obtain ⟨i066, hi066, _, hsz66, _⟩ := info_parts info5; have hroom66 : t172.length ≤ c173_ := hc173_; have hC66 : Kd.C (Kd.int .u8) _ A173_ t172.length t172 := (Kd.R_reads' HO_7.out).2.2; (try clear hcut64); have hcut66 := cut_to (P := Try.prog) 22 5 .i64 Try.underlying22 hi066 A173_ t172.length c173_ (ji46) (of_decide_eq_true (by first | (with_reducible assumption) | assumption)) q66 hroom66; have hr66 := Kd.C_take (m := ((ji46) : Int).toNat) hC66 (by omega); have hy66 : y202.length = ((ji46) : Int).toNat := (by rw [Ny202.out, List.length_take]; omega); rw [← Ny202.out] at hr66; rw [← hy66] at hcut66; have HR205 := Aside0.mk hr66; have HC205 := Aside0.mk (show y202.length ≤ c173_ from by omega); clear hr66 hC66 hroom66 hi066 hsz66; have KY66 := Aside0.mk hy66; clear hy66; have KL66 := Aside0.mk (show ((ji46) : Int).toNat ≤ t172.length from by omega); replace q66 := eq_true q66; have hcv67 := Kd.C_string (P := Try.prog) (A := A173_) (c := c173_) Try.underlying22 Try.underlying5 Try.underlying9 (by repeat (first | (with_reducible exact HR205.out) | (with_reducible refine Kd.C_alloc ?_ _) | (with_reducible refine Kd.C_drewN ?_ _) | (with_reducible refine Kd.C_drew ?_) | exact HR205.out))) | ((with_reducible refine gate_callee (f := 24) rfl ?_); refine goesL_ (some 112) rfl rfl Try.func24 (by kernel_rfl) rfl #[.string (strOfNums y202)] rfl (by (try simp only [List.map_toArray, List.map_cons, List.map_nil]); first | done | rfl | (simp only [List.length_drop, List.length_take]; rfl)) ?_; (with_reducible refine (terrierref1_Open.calls kj27 (strOfNums y202) t206 t207 _ A52.out).mono ?_); rintro e w68 ⟨rfl, hb⟩; refine ⟨_, rfl, ?_⟩; have n0_ := Aside0.mk (Kd.R_below (by (with_reducible repeat (first | apply Kd.R_alloc | apply Kd.R_drewN | apply Kd.R_drew)); exact HO_7.out) hb); have n1_ := Aside0.mk (Kd.R_below (by (with_reducible repeat (first | apply Kd.R_alloc | apply Kd.R_drewN | apply Kd.R_drew)); exact HO187.out) hb); have n2_ := Aside0.mk (Kd.R_below (by (with_reducible repeat (first | apply Kd.R_alloc | apply Kd.R_drewN | apply Kd.R_drew)); exact HO193.out) hb); have n3_ := Aside0.mk (Kd.R_below (by (with_reducible repeat (first | apply Kd.R_alloc | apply Kd.R_drewN | apply Kd.R_drew)); exact HO201.out) hb); have n4_ := Aside0.mk (Kd.C_below (by repeat (first | (with_reducible exact HR197.out) | (with_reducible refine Kd.C_alloc ?_ _) | (with_reducible refine Kd.C_drewN ?_ _) | (with_reducible refine Kd.C_drew ?_) | exact HR197.out)) hb); have n5_ := Aside0.mk (Kd.C_below (by repeat (first | (with_reducible exact HR205.out) | (with_reducible refine Kd.C_alloc ?_ _) | (with_reducible refine Kd.C_drewN ?_ _) | (with_reducible refine Kd.C_drew ?_) | exact HR205.out)) hb); have n6_ := Aside0.mk (below_step (by repeat (first | (with_reducible first | exact HB.out | apply below_alloc | apply pw_below_drewN | apply below_drew1) | exact HB.out)) hb); clear HO_7; clear HO187; clear HO193; clear HO201; clear HR197; clear HR205; clear HB; have HO_7 := n0_; have HO187 := n1_; have HO193 := n2_; have HO201 := n3_; have HR197 := n4_; have HR205 := n5_; have HB := n6_; clear n0_ n1_ n2_ n3_ n4_ n5_ n6_; (try clear hb); (try clear hb2); (try clear hk); (try clear hi); have hcv69 := cap_string (P := Try.prog) (c := c200_) Try.underlying22 Try.underlying5 Try.underlying9 (Kd.own_of_R HO201.out)) | (go_at_call 11; (with_reducible refine (terrierlaw1_awake.calls kj27  t208 _ A56.out).mono ?_); rintro e w70 ⟨rfl, hb⟩; have n0_ := Aside0.mk (Kd.R_below (by (with_reducible repeat (first | apply Kd.R_alloc | apply Kd.R_drewN | apply Kd.R_drew)); exact HO_7.out) hb); have n1_ := Aside0.mk (Kd.R_below (by (with_reducible repeat (first | apply Kd.R_alloc | apply Kd.R_drewN | apply Kd.R_drew)); exact HO187.out) hb); have n2_ := Aside0.mk (Kd.R_below (by (with_reducible repeat (first | apply Kd.R_alloc | apply Kd.R_drewN | apply Kd.R_drew)); exact HO193.out) hb); have n3_ := Aside0.mk (Kd.R_below (by (with_reducible repeat (first | apply Kd.R_alloc | apply Kd.R_drewN | apply Kd.R_drew)); exact HO201.out) hb); have n4_ := Aside0.mk (Kd.C_below (by repeat (first | (with_reducible exact HR197.out) | (with_reducible refine Kd.C_alloc ?_ _) | (with_reducible refine Kd.C_drewN ?_ _) | (with_reducible refine Kd.C_drew ?_) | exact HR197.out)) hb); have n5_ := Aside0.mk (Kd.C_below (by repeat (first | (with_reducible exact HR205.out) | (with_reducible refine Kd.C_alloc ?_ _) | (with_reducible refine Kd.C_drewN ?_ _) | (with_reducible refine Kd.C_drew ?_) | exact HR205.out)) hb); have n6_ := Aside0.mk (below_step (by repeat (first | (with_reducible first | exact HB.out | apply below_alloc | apply pw_below_drewN | apply below_drew1) | exact HB.out)) hb); clear HO_7; clear HO187; clear HO193; clear HO201; clear HR197; clear HR205; clear HB; have HO_7 := n0_; have HO187 := n1_; have HO193 := n2_; have HO201 := n3_; have HR197 := n4_; have HR205 := n5_; have HB := n6_; clear n0_ n1_ n2_ n3_ n4_ n5_ n6_; (try clear hb); (try clear hb2); (try clear hk); (try clear hi)))
                                      go_ret
                                      exact ⟨by first | rfl | (simp [errW_none, errW_some] <;> rfl) | (simp only [← hji37, ← hji40, ← hji42, ← hji46]; first | rfl | (simp [errW_none, errW_some] <;> rfl)) | (simp [*, errW_none, errW_some] <;> rfl), by repeat (first | (with_reducible first | exact HB.out | apply below_alloc | apply pw_below_drewN | apply below_drew1) | exact HB.out)⟩
                                    · rw [if_neg c55] at H
                                      have c55b0 : (t199 == t207) = false := beq_eq_false_iff_ne.mpr c55
                                      have c55b1 : (t199 != t207) = true := bne_iff_ne.mpr c55
                                      exact absurd (Option.some.inj (H.trans (congrArg some HR.out))) (by decide)
                                  · rw [if_neg c54] at H
                                    have c54b0 : ((strOfNums t198).toList == t206.toList) = false := beq_eq_false_iff_ne.mpr c54
                                    have c54b1 : ((strOfNums t198).toList != t206.toList) = true := bne_iff_ne.mpr c54
                                    exact absurd (Option.some.inj (H.trans (congrArg some HR.out))) (by decide)
                                · rw [if_neg c53] at H
                                  have c53b0 : (t191 == 3) = false := beq_eq_false_iff_ne.mpr c53
                                  have c53b1 : (t191 != 3) = true := bne_iff_ne.mpr c53
                                  exact absurd (Option.some.inj (H.trans (congrArg some HR.out))) (by decide)
                              · rw [if_neg c48] at H
                                exact absurd H (by simp)
                            · rw [if_neg c47] at H
                              exact absurd H (by simp)
                        · rw [if_neg c41] at H
                          exact absurd H (by simp)
                      · rw [if_neg c39] at H
                        exact absurd H (by simp)
                    · rw [if_neg c38] at H
                      exact absurd H (by simp)
                · rw [if_neg c35] at H
                  exact absurd H (by simp)

/-- THE ONE PURE STATEMENT of terrierlaw1_PackSeals: yours. -/
def terrierlaw1_PackSeals.Pure : Prop := ∀ (l0 : List Int) (a1 : Int) (a2 : Int), l0.length ≤ maxLen → l0.length * 1 ≤ 140737488351232 → (∀ x ∈ l0, (Lit.int .u8 x).wf = true) → (Lit.int .i64 a1).wf = true → (Lit.int .i64 a2).wf = true → ∃ k, terrierlaw1_PackSeals.f k l0 a1 a2 = some true
theorem terrierlaw1_PackSeals.walk (P : terrierlaw1_PackSeals.Pure) (a0 : Option Addr) (len0 cap0 : Nat) (z0 : List Int) (a1 : Int) (a2 : Int) (w : World) (w0 : (a0 = none ∧ len0 = 0 ∧ cap0 = 0 ∧ z0 = []) ∨ ∃ x, a0 = some x ∧ len0 ≤ cap0 ∧ cap0 ≤ maxLen ∧ z0.length = cap0 ∧ (∀ i, i < z0.length → w.cell? (x.add i) = some (.int .u8 (z0.getD i 0))) ∧ ∀ n ∈ z0, (Lit.int .u8 n).wf = true) (y0 : len0 * 1 ≤ 140737488351232) (w1 : (Lit.int .i64 a1).wf = true) (w2 : (Lit.int .i64 a2).wf = true) :
    Calls Try.prog 8 #[.slice a0 len0 cap0, .int .i64 a1, .int .i64 a2] w fun e w' => e = .returned (.bool true) ∧ Below w.heap.size w w' := by
  obtain ⟨l0, rfl, hr0, hm0, hw0, hc0⟩ := ReadsInt.ofRowC w0
  obtain ⟨k, h⟩ := P l0 a1 a2 hm0 y0 hw0 w1 w2
  refine (terrierlaw1_PackSeals.calls k _ _ l0 a1 a2 true rfl w (Kd.C_of_reads (d := (0 : Int)) (h1 := fun _ => rfl) hr0) hc0 h).mono ?_
  rintro e w' ⟨rfl, hd⟩
  exact ⟨rfl, hd⟩
end Go.Proofs.Ytgjgandkcmjbnaa.PB
