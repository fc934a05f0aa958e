/- Proved: the law's function PackParts tells true wherever its printed form does, by its walk. -/
import Derived.Test.YtgjgandkcmjbnaaB3
import Derived.Test.YtgjgandkcmjbnaaB7
import Derived.Test.YtgjgandkcmjbnaaB9
namespace Go.Proofs.Ytgjgandkcmjbnaa.PB
open Go.RowKit Go.Proofs.YtgjgandkcmjbnaaW.PrintWords Go.Proofs.YtgjgandkcmjbnaaW.PrintLast Go.Proofs.YtgjgandkcmjbnaaW.PrintMore
attribute [local go_sem] max2_int min2_int max_two min_two max_three min_three max_four min_four   -- for this text's walks alone
set_option linter.unusedVariables false
set_option linter.unusedSimpArgs false

/-! ### terrierlaw1_PackParts: function 9 -/
mutual
def terrierlaw1_PackParts.l0 : Nat → List (List Int) → List Int → List ByteArray → Int → Int → Option (Bool)
  | 0, _, _, _, _, _ => none
  | k + 1, x0, x1, x5, x6, x7 => if x7 < (x0.length : Int) then (if 0 ≤ x7 then (if x5.length < 8796093022208 then (if (wrap64 (x6 + ((rd_L2 x0 x7).length : Int))) > 5000 then ((terrierlaw1_awake.f k).bind fun t184 => (some t184)) else (if x7 > 100 then ((terrierlaw1_awake.f k).bind fun t185 => (some t185)) else (terrierlaw1_PackParts.l0 k x0 x1 (x5 ++ [strOfNums (rd_L2 x0 x7)]) (wrap64 (x6 + ((rd_L2 x0 x7).length : Int))) (wrap64 (x7 + 1))))) else (none)) else (none)) else ((pack_Join.f k x0).bind fun t186 => ((terrierref1_Join.f k x5).bind fun t189 => (if (strOfNums t186).toList = t189.toList then ((pack_Split.f k t186).bind fun bt190 => (if bt190.2 = 0 then (terrierlaw1_PackParts.j1 k x1 x5 bt190.1 ((bt190.1.length : Int) != (x5.length : Int))) else (terrierlaw1_PackParts.j1 k x1 x5 bt190.1 true))) else (some false))))
def terrierlaw1_PackParts.j1 : Nat → List Int → List ByteArray → List (List Int) → Bool → Option (Bool)
  | 0, _, _, _, _ => none
  | k + 1, x1, x5, x9, x65 => if x65 = true then (some false) else (terrierlaw1_PackParts.l1 k x1 x5 x9 0)
def terrierlaw1_PackParts.l1 : Nat → List Int → List ByteArray → List (List Int) → Int → Option (Bool)
  | 0, _, _, _, _ => none
  | k + 1, x1, x5, x9, x11 => if x11 < (x5.length : Int) then (if 0 ≤ x11 then (if x11 < (x9.length : Int) then (if (strOfNums (rd_L2 x9 x11)).toList = (rdOf ByteArray.empty x5 x11).toList then (terrierlaw1_PackParts.l1 k x1 x5 x9 (wrap64 (x11 + 1))) else (some false)) else (none)) else (none)) else ((pack_Split.f k x1).bind fun bt196 => ((terrierref1_Split.f k (strOfNums x1)).bind fun bt200 => (if bt196.2 = bt200.2 then (terrierlaw1_PackParts.j3 k bt196.1 bt200.1 ((bt196.1.length : Int) != (bt200.1.length : Int))) else (terrierlaw1_PackParts.j3 k bt196.1 bt200.1 true))))
def terrierlaw1_PackParts.j3 : Nat → List (List Int) → List ByteArray → Bool → Option (Bool)
  | 0, _, _, _ => none
  | k + 1, x12, x14, x102 => if x102 = true then (some false) else (terrierlaw1_PackParts.l2 k x12 x14 0)
def terrierlaw1_PackParts.l2 : Nat → List (List Int) → List ByteArray → Int → Option (Bool)
  | 0, _, _, _ => none
  | k + 1, x12, x14, x16 => if x16 < (x14.length : Int) then (if 0 ≤ x16 then (if x16 < (x12.length : Int) then (if (strOfNums (rd_L2 x12 x16)).toList = (rdOf ByteArray.empty x14 x16).toList then (terrierlaw1_PackParts.l2 k x12 x14 (wrap64 (x16 + 1))) else (some false)) else (none)) else (none)) else ((terrierlaw1_awake.f k).bind fun t206 => (some t206))
end
def terrierlaw1_PackParts.f (k : Nat) (l0 : List (List Int)) (l1 : List Int) : Option (Bool) := terrierlaw1_PackParts.l0 k l0 l1 ([] : List ByteArray) 0 0
theorem terrierlaw1_PackParts.mono_l : ∀ k, (∀ y0 y1 y2 y3 y4, LeO (terrierlaw1_PackParts.l0 k y0 y1 y2 y3 y4) (terrierlaw1_PackParts.l0 (k + 1) y0 y1 y2 y3 y4)) ∧ (∀ y0 y1 y2 y3, LeO (terrierlaw1_PackParts.j1 k y0 y1 y2 y3) (terrierlaw1_PackParts.j1 (k + 1) y0 y1 y2 y3)) ∧ (∀ y0 y1 y2 y3, LeO (terrierlaw1_PackParts.l1 k y0 y1 y2 y3) (terrierlaw1_PackParts.l1 (k + 1) y0 y1 y2 y3)) ∧ (∀ y0 y1 y2, LeO (terrierlaw1_PackParts.j3 k y0 y1 y2) (terrierlaw1_PackParts.j3 (k + 1) y0 y1 y2)) ∧ (∀ y0 y1 y2, LeO (terrierlaw1_PackParts.l2 k y0 y1 y2) (terrierlaw1_PackParts.l2 (k + 1) y0 y1 y2))
  | 0 => ⟨fun _ _ _ _ _ r h => by simp [terrierlaw1_PackParts.l0] at h, fun _ _ _ _ r h => by simp [terrierlaw1_PackParts.j1] at h, fun _ _ _ _ r h => by simp [terrierlaw1_PackParts.l1] at h, fun _ _ _ r h => by simp [terrierlaw1_PackParts.j3] at h, fun _ _ _ r h => by simp [terrierlaw1_PackParts.l2] at h⟩
  | k + 1 => by
    obtain ⟨ih0, ih1, ih2, ih3, ih4⟩ := terrierlaw1_PackParts.mono_l k
    refine ⟨?_, ?_, ?_, ?_, ?_⟩
    · intro y0 y1 y2 y3 y4
      unfold terrierlaw1_PackParts.l0
      repeat' first
      | (with_reducible exact ih0 _ _ _ _ _)
      | (with_reducible exact ih1 _ _ _ _)
      | (with_reducible exact ih2 _ _ _ _)
      | (with_reducible exact ih3 _ _ _)
      | (with_reducible exact ih4 _ _ _)
      | (with_reducible exact pack_Join.mono _ _)
      | (with_reducible exact pack_Split.mono _ _)
      | (with_reducible exact terrierlaw1_awake.mono _)
      | (with_reducible exact terrierref1_Join.mono _ _)
      | (with_reducible exact terrierref1_Split.mono _ _)
      | (with_reducible exact LeO.refl _)
      | (with_reducible exact LeO.none _)
      | (with_reducible refine LeO.ite ?_ ?_)
      | (with_reducible refine LeO.bind ?_ (fun _ => ?_))
      | exact ih0 _ _ _ _ _
      | exact ih1 _ _ _ _
      | exact ih2 _ _ _ _
      | exact ih3 _ _ _
      | exact ih4 _ _ _
      | exact pack_Join.mono _ _
      | exact pack_Split.mono _ _
      | exact terrierlaw1_awake.mono _
      | exact terrierref1_Join.mono _ _
      | exact terrierref1_Split.mono _ _
      | exact LeO.none _
      | refine LeO.ite ?_ ?_
      | refine LeO.bind ?_ (fun _ => ?_)
    · intro y0 y1 y2 y3
      unfold terrierlaw1_PackParts.j1
      repeat' first
      | (with_reducible exact ih0 _ _ _ _ _)
      | (with_reducible exact ih1 _ _ _ _)
      | (with_reducible exact ih2 _ _ _ _)
      | (with_reducible exact ih3 _ _ _)
      | (with_reducible exact ih4 _ _ _)
      | (with_reducible exact pack_Join.mono _ _)
      | (with_reducible exact pack_Split.mono _ _)
      | (with_reducible exact terrierlaw1_awake.mono _)
      | (with_reducible exact terrierref1_Join.mono _ _)
      | (with_reducible exact terrierref1_Split.mono _ _)
      | (with_reducible exact LeO.refl _)
      | (with_reducible exact LeO.none _)
      | (with_reducible refine LeO.ite ?_ ?_)
      | (with_reducible refine LeO.bind ?_ (fun _ => ?_))
      | exact ih0 _ _ _ _ _
      | exact ih1 _ _ _ _
      | exact ih2 _ _ _ _
      | exact ih3 _ _ _
      | exact ih4 _ _ _
      | exact pack_Join.mono _ _
      | exact pack_Split.mono _ _
      | exact terrierlaw1_awake.mono _
      | exact terrierref1_Join.mono _ _
      | exact terrierref1_Split.mono _ _
      | exact LeO.none _
      | refine LeO.ite ?_ ?_
      | refine LeO.bind ?_ (fun _ => ?_)
    · intro y0 y1 y2 y3
      unfold terrierlaw1_PackParts.l1
      repeat' first
      | (with_reducible exact ih0 _ _ _ _ _)
      | (with_reducible exact ih1 _ _ _ _)
      | (with_reducible exact ih2 _ _ _ _)
      | (with_reducible exact ih3 _ _ _)
      | (with_reducible exact ih4 _ _ _)
      | (with_reducible exact pack_Join.mono _ _)
      | (with_reducible exact pack_Split.mono _ _)
      | (with_reducible exact terrierlaw1_awake.mono _)
      | (with_reducible exact terrierref1_Join.mono _ _)
      | (with_reducible exact terrierref1_Split.mono _ _)
      | (with_reducible exact LeO.refl _)
      | (with_reducible exact LeO.none _)
      | (with_reducible refine LeO.ite ?_ ?_)
      | (with_reducible refine LeO.bind ?_ (fun _ => ?_))
      | exact ih0 _ _ _ _ _
      | exact ih1 _ _ _ _
      | exact ih2 _ _ _ _
      | exact ih3 _ _ _
      | exact ih4 _ _ _
      | exact pack_Join.mono _ _
      | exact pack_Split.mono _ _
      | exact terrierlaw1_awake.mono _
      | exact terrierref1_Join.mono _ _
      | exact terrierref1_Split.mono _ _
      | exact LeO.none _
      | refine LeO.ite ?_ ?_
      | refine LeO.bind ?_ (fun _ => ?_)
    · intro y0 y1 y2
      unfold terrierlaw1_PackParts.j3
      repeat' first
      | (with_reducible exact ih0 _ _ _ _ _)
      | (with_reducible exact ih1 _ _ _ _)
      | (with_reducible exact ih2 _ _ _ _)
      | (with_reducible exact ih3 _ _ _)
      | (with_reducible exact ih4 _ _ _)
      | (with_reducible exact pack_Join.mono _ _)
      | (with_reducible exact pack_Split.mono _ _)
      | (with_reducible exact terrierlaw1_awake.mono _)
      | (with_reducible exact terrierref1_Join.mono _ _)
      | (with_reducible exact terrierref1_Split.mono _ _)
      | (with_reducible exact LeO.refl _)
      | (with_reducible exact LeO.none _)
      | (with_reducible refine LeO.ite ?_ ?_)
      | (with_reducible refine LeO.bind ?_ (fun _ => ?_))
      | exact ih0 _ _ _ _ _
      | exact ih1 _ _ _ _
      | exact ih2 _ _ _ _
      | exact ih3 _ _ _
      | exact ih4 _ _ _
      | exact pack_Join.mono _ _
      | exact pack_Split.mono _ _
      | exact terrierlaw1_awake.mono _
      | exact terrierref1_Join.mono _ _
      | exact terrierref1_Split.mono _ _
      | exact LeO.none _
      | refine LeO.ite ?_ ?_
      | refine LeO.bind ?_ (fun _ => ?_)
    · intro y0 y1 y2
      unfold terrierlaw1_PackParts.l2
      repeat' first
      | (with_reducible exact ih0 _ _ _ _ _)
      | (with_reducible exact ih1 _ _ _ _)
      | (with_reducible exact ih2 _ _ _ _)
      | (with_reducible exact ih3 _ _ _)
      | (with_reducible exact ih4 _ _ _)
      | (with_reducible exact pack_Join.mono _ _)
      | (with_reducible exact pack_Split.mono _ _)
      | (with_reducible exact terrierlaw1_awake.mono _)
      | (with_reducible exact terrierref1_Join.mono _ _)
      | (with_reducible exact terrierref1_Split.mono _ _)
      | (with_reducible exact LeO.refl _)
      | (with_reducible exact LeO.none _)
      | (with_reducible refine LeO.ite ?_ ?_)
      | (with_reducible refine LeO.bind ?_ (fun _ => ?_))
      | exact ih0 _ _ _ _ _
      | exact ih1 _ _ _ _
      | exact ih2 _ _ _ _
      | exact ih3 _ _ _
      | exact ih4 _ _ _
      | exact pack_Join.mono _ _
      | exact pack_Split.mono _ _
      | exact terrierlaw1_awake.mono _
      | exact terrierref1_Join.mono _ _
      | exact terrierref1_Split.mono _ _
      | exact LeO.none _
      | refine LeO.ite ?_ ?_
      | refine LeO.bind ?_ (fun _ => ?_)
theorem terrierlaw1_PackParts.mono : ∀ a0 a1 k, LeO (terrierlaw1_PackParts.f k a0 a1) (terrierlaw1_PackParts.f (k + 1) a0 a1) := by
  intro a0 a1 k
  obtain ⟨ih0, ih1, ih2, ih3, ih4⟩ := terrierlaw1_PackParts.mono_l k
  unfold terrierlaw1_PackParts.f
  repeat' first
      | (with_reducible exact ih0 _ _ _ _ _)
      | (with_reducible exact ih1 _ _ _ _)
      | (with_reducible exact ih2 _ _ _ _)
      | (with_reducible exact ih3 _ _ _)
      | (with_reducible exact ih4 _ _ _)
      | (with_reducible exact pack_Join.mono _ _)
      | (with_reducible exact pack_Split.mono _ _)
      | (with_reducible exact terrierlaw1_awake.mono _)
      | (with_reducible exact terrierref1_Join.mono _ _)
      | (with_reducible exact terrierref1_Split.mono _ _)
      | (with_reducible exact LeO.refl _)
      | (with_reducible exact LeO.none _)
      | (with_reducible refine LeO.ite ?_ ?_)
      | (with_reducible refine LeO.bind ?_ (fun _ => ?_))
      | exact ih0 _ _ _ _ _
      | exact ih1 _ _ _ _
      | exact ih2 _ _ _ _
      | exact ih3 _ _ _
      | exact ih4 _ _ _
      | exact pack_Join.mono _ _
      | exact pack_Split.mono _ _
      | exact terrierlaw1_awake.mono _
      | exact terrierref1_Join.mono _ _
      | exact terrierref1_Split.mono _ _
      | exact LeO.none _
      | refine LeO.ite ?_ ?_
      | refine LeO.bind ?_ (fun _ => ?_)
def terrierlaw1_PackParts.T19 : Bool × List (List Nat × List Nat) := (true, [([], []), ([], []), ([0, 1], [0, 1]), ([2], [2]), ([3], [3]), ([], []), ([], []), ([5, 6], [5, 6]), ([7], [7]), ([4, 8], [4, 8])])
def terrierlaw1_PackParts.B19 : List Nat := [0, 0, 3, 7, 15, 0, 0, 96, 224, 511]
theorem terrierlaw1_PackParts.tab19 : rtab .any (opsOf Try.f9 19) = terrierlaw1_PackParts.T19 := by kernel_rfl
theorem terrierlaw1_PackParts.bits19 : waitsOk terrierlaw1_PackParts.T19.2 terrierlaw1_PackParts.B19 = true := by kernel_rfl
def terrierlaw1_PackParts.T28 : Bool × List (List Nat × List Nat) := (true, [([], []), ([], []), ([0, 1], [0, 1]), ([2], [2]), ([3], [3]), ([], []), ([], []), ([5, 6], [5, 6]), ([7], [7]), ([4, 8], [4, 8])])
def terrierlaw1_PackParts.B28 : List Nat := [0, 0, 3, 7, 15, 0, 0, 96, 224, 511]
theorem terrierlaw1_PackParts.tab28 : rtab .any (opsOf Try.f9 28) = terrierlaw1_PackParts.T28 := by kernel_rfl
theorem terrierlaw1_PackParts.bits28 : waitsOk terrierlaw1_PackParts.T28.2 terrierlaw1_PackParts.B28 = true := by kernel_rfl
set_option maxHeartbeats 8000000 in
set_option maxRecDepth 100000 in
theorem terrierlaw1_PackParts.calls (k : Nat) (A0 : Option Addr) (c0 : Nat) (l0 : List (List Int)) (A1 : Option Addr) (c1 : Nat) (l1 : List Int) (r : Bool) (hr : r = true) (w : World) (hr0 : Kd.C (Kd.slice 5 (Kd.int .u8)) w A0 l0.length l0) (hc0 : l0.length ≤ c0) (hr1 : Kd.C (Kd.int .u8) w A1 l1.length l1) (hc1 : l1.length ≤ c1) (h : terrierlaw1_PackParts.f k l0 l1 = some r) :
    Calls Try.prog 9 #[.slice A0 l0.length c0, .slice A1 l1.length c1] w fun e w' => e = .returned (.bool r) ∧ Below w.heap.size w w' := by
  have HR0 := Aside0.mk hr0
  have HC0 := Aside0.mk hc0
  clear hr0 hc0
  have HR1 := Aside0.mk hr1
  have HC1 := Aside0.mk hc1
  clear hr1 hc1
  have HB := Aside0.mk (Below.refl w.heap.size w)
  have HR := Aside0.mk hr
  clear hr
  have H : (terrierlaw1_PackParts.l0 k l0 l1 ([] : List ByteArray) 0 0) = some r := h
  clear h
  have H' := Aside0.mk H
  clear H
  go_enter Try.func9, Try.ntmps9
  go_wp2
  go_loopg [5, 6, 7] k (fun kq v5 v6 v7 w' => ∃ (x5_1 : List ByteArray) (x6_1 : Int) (x7_1 : Int), v6 = .int .i64 x6_1 ∧ v7 = .int .i64 x7_1 ∧ Aside0 (terrierlaw1_PackParts.l0 kq l0 l1 x5_1 x6_1 x7_1 = some r) ∧ Aside0 (kq ≤ k) ∧ Aside0 (Kd.R Kd.string 9 w' w.heap.size (fun _ => True) v5 x5_1) ∧ Aside0 (Below w.heap.size w w'))
  case atStart => exact ⟨(([] : List ByteArray)), (0), (0), (by first | rfl | (simp; done) | (simp [*]; done)), (by first | rfl | (simp; done) | (simp [*]; done)), H', ⟨Nat.le_refl _⟩, ⟨by first | exact Kd.R_nil _ _ _ _ _ | exact Kd.N_nil _ _ _ _ _ | exact Kd.V_nil _ _ _ _ _ | exact Kd.Q_nil _ _ _ _ _ | exact Kd.R_nil _ _ _ _ _⟩, ⟨by repeat (first | (with_reducible first | exact HB.out | apply below_alloc | apply pw_below_drewN | apply below_drew1) | exact HB.out)⟩⟩
  case round =>
    clear H'
    try clear c1
    try clear p2
    obtain ⟨x5_1, x6_1, x7_1, rfl, rfl, HA, HK1, HO_5, HB⟩ := hrel
    cases gk with
    | zero => exact absurd HA.out (by simp [terrierlaw1_PackParts.l0])
    | succ k1 =>
      have H := HA.out
      clear HA
      simp only [terrierlaw1_PackParts.l0] at H
      by_cases c3 : x7_1 < (l0.length : Int)
      · rw [if_pos c3] at H
        have c3b0 : decide (x7_1 < (l0.length : Int)) = true := decide_eq_true c3
        clear c3
        by_cases c4 : 0 ≤ x7_1
        · rw [if_pos c4] at H
          have c4b0 : decide (0 ≤ x7_1) = true := decide_eq_true c4
          clear c4
          by_cases c5 : x5_1.length < 8796093022208
          · rw [if_pos c5] at H
            have LMc5 := Aside0.mk c5
            clear c5
            obtain ⟨y180, hy180⟩ : ∃ y_ : List ByteArray, y_ = (x5_1 ++ [strOfNums (rd_L2 l0 x7_1)]) := ⟨_, rfl⟩
            replace H : (if (wrap64 (x6_1 + ((rd_L2 l0 x7_1).length : Int))) > 5000 then ((terrierlaw1_awake.f k1).bind fun t184 => (some t184)) else (if x7_1 > 100 then ((terrierlaw1_awake.f k1).bind fun t185 => (some t185)) else (terrierlaw1_PackParts.l0 k1 l0 l1 y180 (wrap64 (x6_1 + ((rd_L2 l0 x7_1).length : Int))) (wrap64 (x7_1 + 1))))) = some r := by first | (rw [hy180]; with_reducible exact H) | (have H2_ := (Option.bind_some _ _).symm.trans H; rw [hy180]; with_reducible exact H2_) | (have H2_ := (Option.bind_some _ _).symm.trans H; with_reducible exact H2_) | with_reducible exact H | (rw [hy180]; exact H) | exact H
            have Ny180 := Aside0.mk hy180
            clear hy180
            by_cases c6 : (wrap64 (x6_1 + ((rd_L2 l0 x7_1).length : Int))) > 5000
            · rw [if_pos c6] at H
              have c6b0 : decide (5000 < (wrap64 (x6_1 + ((rd_L2 l0 x7_1).length : Int)))) = true := decide_eq_true c6
              clear c6
              replace H := Option.bind_eq_some_iff.mp H
              obtain ⟨t184, A70, H⟩ := H
              replace H : (some t184) = some r := H
              have A7 := Aside0.mk A70
              clear A70
              obtain rfl := Option.some.inj H
              have p179 : 0 ≤ (x7_1 : Int) := of_decide_eq_true (by first | (with_reducible assumption) | assumption)
              have q179 : x7_1 < (l0.length : Int) := of_decide_eq_true (by first | (with_reducible assumption) | assumption)
              obtain ⟨ad179, A179_0, c179_0, e179, hx179_0, hl179_0, hi179_0⟩ := at_L2 HR0.out x7_1 p179 q179
              cases e179
              replace hx179_0 := (HB.out.cell (World.block_lt_of_cell? w _ hx179_0)).trans hx179_0
              have HR179_0 := Aside0.mk hi179_0
              have HC179_0 := Aside0.mk hl179_0
              clear hi179_0 hl179_0
              replace p179 := eq_true p179
              replace q179 := eq_true q179
              have hcv8 := Kd.C_string (P := Try.prog) (A := A179_0) (c := c179_0) Try.underlying22 Try.underlying5 Try.underlying9 (Kd.C_below HR179_0.out HB.out)
              go_wp2_with (first | ((with_reducible refine gate_builtin (b := .append) (xs := #[.tmp 23, .tmp 29]) rfl ?_); (try (refine gate_guard (by rfl) ?_; dsimp only)); at_builtin; refine Kd.R_append Kd.string (w0 := w) w.heap.size rfl (.tmp 23) (.tmp 29) 57 9 (.string ⟨#[]⟩) 16 rfl Try.underlying57 info9 rfl (by decide) (by omega) u5 x5_1 (strOfNums (rd_L2 l0 x7_1)) [.string (strOfNums (rd_L2 l0 x7_1))] (fun _ => True) (fun _ => False) rfl rfl ?aP (fun _ hk => hk.elim) ?aF ?aO ?aB ?aS ?aL ?_; (case aP => exact rfl); (case aB => exact (by repeat (first | (with_reducible first | exact HB.out | apply below_alloc | apply pw_below_drewN | apply below_drew1) | exact HB.out))); (case aF => exact (fun _ _ => trivial)); (case aO => exact (by (with_reducible repeat (first | apply Kd.R_alloc | apply Kd.R_drewN | apply Kd.R_drew)); exact HO_5.out)); (case aS => exact (below_size (by repeat (first | (with_reducible first | exact HB.out | apply below_alloc | apply pw_below_drewN | apply below_drew1) | exact HB.out)))); (case aL => have := LMc5.out; omega); intro v181 w9 ho hb hg hat; rw [← Ny180.out] at ho; have n0_ := Aside0.mk (hb); have n1_ := Aside0.mk (ho); clear HB; clear HO_5; have HB := n0_; have HO182 := n1_; clear n0_ n1_; clear ho hb hg hat; have p183 : 0 ≤ (x7_1 : Int) := of_decide_eq_true (by first | (with_reducible assumption) | assumption); have q183 : x7_1 < (l0.length : Int) := of_decide_eq_true (by first | (with_reducible assumption) | assumption); obtain ⟨ad183, A183_0, c183_0, e183, hx183_0, hl183_0, hi183_0⟩ := at_L2 HR0.out x7_1 p183 q183; obtain rfl : ad179 = ad183 := (by injection e183); replace hx183_0 := (HB.out.cell (World.block_lt_of_cell? w _ hx183_0)).trans hx183_0; have HR183_0 := Aside0.mk hi183_0; have HC183_0 := Aside0.mk hl183_0; clear hi183_0 hl183_0; replace p183 := eq_true p183; replace q183 := eq_true q183) | ((with_reducible refine gate_callee (f := 11) rfl ?_); refine goesL_ (some 44) rfl rfl Try.func11 (by kernel_rfl) rfl #[] rfl (by (try simp only [List.map_toArray, List.map_cons, List.map_nil]); first | done | rfl | (simp only [List.length_drop, List.length_take]; rfl)) ?_; (with_reducible refine (terrierlaw1_awake.calls k1  t184 _ A7.out).mono ?_); rintro e w10 ⟨rfl, hb⟩; refine ⟨_, rfl, ?_⟩; have n0_ := Aside0.mk (Kd.R_below (by (with_reducible repeat (first | apply Kd.R_alloc | apply Kd.R_drewN | apply Kd.R_drew)); exact HO182.out) hb); have n1_ := Aside0.mk (below_step (by repeat (first | (with_reducible first | exact HB.out | apply below_alloc | apply pw_below_drewN | apply below_drew1) | exact HB.out)) hb); clear HO182; clear HB; have HO182 := n0_; have HB := n1_; clear n0_ n1_; (try clear hb); (try clear hb2); (try clear hk); (try clear hi)))
              go_ret
              exact ⟨by first | rfl | (simp [errW_none, errW_some] <;> rfl) | (simp [*, errW_none, errW_some] <;> rfl), by repeat (first | (with_reducible first | exact HB.out | apply below_alloc | apply pw_below_drewN | apply below_drew1) | exact HB.out)⟩
            · rw [if_neg c6] at H
              have c6b0 : decide (5000 < (wrap64 (x6_1 + ((rd_L2 l0 x7_1).length : Int)))) = false := decide_eq_false c6
              clear c6
              by_cases c11 : x7_1 > 100
              · rw [if_pos c11] at H
                have c11b0 : decide (100 < x7_1) = true := decide_eq_true c11
                clear c11
                replace H := Option.bind_eq_some_iff.mp H
                obtain ⟨t185, A120, H⟩ := H
                replace H : (some t185) = some r := H
                have A12 := Aside0.mk A120
                clear A120
                obtain rfl := Option.some.inj H
                have p179 : 0 ≤ (x7_1 : Int) := of_decide_eq_true (by first | (with_reducible assumption) | assumption)
                have q179 : x7_1 < (l0.length : Int) := of_decide_eq_true (by first | (with_reducible assumption) | assumption)
                obtain ⟨ad179, A179_0, c179_0, e179, hx179_0, hl179_0, hi179_0⟩ := at_L2 HR0.out x7_1 p179 q179
                cases e179
                replace hx179_0 := (HB.out.cell (World.block_lt_of_cell? w _ hx179_0)).trans hx179_0
                have HR179_0 := Aside0.mk hi179_0
                have HC179_0 := Aside0.mk hl179_0
                clear hi179_0 hl179_0
                replace p179 := eq_true p179
                replace q179 := eq_true q179
                have hcv13 := Kd.C_string (P := Try.prog) (A := A179_0) (c := c179_0) Try.underlying22 Try.underlying5 Try.underlying9 (Kd.C_below HR179_0.out HB.out)
                go_wp2_with (first | ((with_reducible refine gate_builtin (b := .append) (xs := #[.tmp 23, .tmp 29]) rfl ?_); (try (refine gate_guard (by rfl) ?_; dsimp only)); at_builtin; refine Kd.R_append Kd.string (w0 := w) w.heap.size rfl (.tmp 23) (.tmp 29) 57 9 (.string ⟨#[]⟩) 16 rfl Try.underlying57 info9 rfl (by decide) (by omega) u5 x5_1 (strOfNums (rd_L2 l0 x7_1)) [.string (strOfNums (rd_L2 l0 x7_1))] (fun _ => True) (fun _ => False) rfl rfl ?aP (fun _ hk => hk.elim) ?aF ?aO ?aB ?aS ?aL ?_; (case aP => exact rfl); (case aB => exact (by repeat (first | (with_reducible first | exact HB.out | apply below_alloc | apply pw_below_drewN | apply below_drew1) | exact HB.out))); (case aF => exact (fun _ _ => trivial)); (case aO => exact (by (with_reducible repeat (first | apply Kd.R_alloc | apply Kd.R_drewN | apply Kd.R_drew)); exact HO_5.out)); (case aS => exact (below_size (by repeat (first | (with_reducible first | exact HB.out | apply below_alloc | apply pw_below_drewN | apply below_drew1) | exact HB.out)))); (case aL => have := LMc5.out; omega); intro v181 w14 ho hb hg hat; rw [← Ny180.out] at ho; have n0_ := Aside0.mk (hb); have n1_ := Aside0.mk (ho); clear HB; clear HO_5; have HB := n0_; have HO182 := n1_; clear n0_ n1_; clear ho hb hg hat; have p183 : 0 ≤ (x7_1 : Int) := of_decide_eq_true (by first | (with_reducible assumption) | assumption); have q183 : x7_1 < (l0.length : Int) := of_decide_eq_true (by first | (with_reducible assumption) | assumption); obtain ⟨ad183, A183_0, c183_0, e183, hx183_0, hl183_0, hi183_0⟩ := at_L2 HR0.out x7_1 p183 q183; obtain rfl : ad179 = ad183 := (by injection e183); replace hx183_0 := (HB.out.cell (World.block_lt_of_cell? w _ hx183_0)).trans hx183_0; have HR183_0 := Aside0.mk hi183_0; have HC183_0 := Aside0.mk hl183_0; clear hi183_0 hl183_0; replace p183 := eq_true p183; replace q183 := eq_true q183) | ((with_reducible refine gate_callee (f := 11) rfl ?_); refine goesL_ (some 44) rfl rfl Try.func11 (by kernel_rfl) rfl #[] rfl (by (try simp only [List.map_toArray, List.map_cons, List.map_nil]); first | done | rfl | (simp only [List.length_drop, List.length_take]; rfl)) ?_; (with_reducible refine (terrierlaw1_awake.calls k1  t185 _ A12.out).mono ?_); rintro e w15 ⟨rfl, hb⟩; refine ⟨_, rfl, ?_⟩; have n0_ := Aside0.mk (Kd.R_below (by (with_reducible repeat (first | apply Kd.R_alloc | apply Kd.R_drewN | apply Kd.R_drew)); exact HO182.out) hb); have n1_ := Aside0.mk (below_step (by repeat (first | (with_reducible first | exact HB.out | apply below_alloc | apply pw_below_drewN | apply below_drew1) | exact HB.out)) hb); clear HO182; clear HB; have HO182 := n0_; have HB := n1_; clear n0_ n1_; (try clear hb); (try clear hb2); (try clear hk); (try clear hi)))
                go_ret
                exact ⟨by first | rfl | (simp [errW_none, errW_some] <;> rfl) | (simp [*, errW_none, errW_some] <;> rfl), by repeat (first | (with_reducible first | exact HB.out | apply below_alloc | apply pw_below_drewN | apply below_drew1) | exact HB.out)⟩
              · rw [if_neg c11] at H
                have c11b0 : decide (100 < x7_1) = false := decide_eq_false c11
                clear c11
                have H' := Aside0.mk H
                clear H
                have p179 : 0 ≤ (x7_1 : Int) := of_decide_eq_true (by first | (with_reducible assumption) | assumption)
                have q179 : x7_1 < (l0.length : Int) := of_decide_eq_true (by first | (with_reducible assumption) | assumption)
                obtain ⟨ad179, A179_0, c179_0, e179, hx179_0, hl179_0, hi179_0⟩ := at_L2 HR0.out x7_1 p179 q179
                cases e179
                replace hx179_0 := (HB.out.cell (World.block_lt_of_cell? w _ hx179_0)).trans hx179_0
                have HR179_0 := Aside0.mk hi179_0
                have HC179_0 := Aside0.mk hl179_0
                clear hi179_0 hl179_0
                replace p179 := eq_true p179
                replace q179 := eq_true q179
                have hcv16 := Kd.C_string (P := Try.prog) (A := A179_0) (c := c179_0) Try.underlying22 Try.underlying5 Try.underlying9 (Kd.C_below HR179_0.out HB.out)
                go_wp2_with (first | ((with_reducible refine gate_builtin (b := .append) (xs := #[.tmp 23, .tmp 29]) rfl ?_); (try (refine gate_guard (by rfl) ?_; dsimp only)); at_builtin; refine Kd.R_append Kd.string (w0 := w) w.heap.size rfl (.tmp 23) (.tmp 29) 57 9 (.string ⟨#[]⟩) 16 rfl Try.underlying57 info9 rfl (by decide) (by omega) u5 x5_1 (strOfNums (rd_L2 l0 x7_1)) [.string (strOfNums (rd_L2 l0 x7_1))] (fun _ => True) (fun _ => False) rfl rfl ?aP (fun _ hk => hk.elim) ?aF ?aO ?aB ?aS ?aL ?_; (case aP => exact rfl); (case aB => exact (by repeat (first | (with_reducible first | exact HB.out | apply below_alloc | apply pw_below_drewN | apply below_drew1) | exact HB.out))); (case aF => exact (fun _ _ => trivial)); (case aO => exact (by (with_reducible repeat (first | apply Kd.R_alloc | apply Kd.R_drewN | apply Kd.R_drew)); exact HO_5.out)); (case aS => exact (below_size (by repeat (first | (with_reducible first | exact HB.out | apply below_alloc | apply pw_below_drewN | apply below_drew1) | exact HB.out)))); (case aL => have := LMc5.out; omega); intro v181 w17 ho hb hg hat; rw [← Ny180.out] at ho; have n0_ := Aside0.mk (hb); have n1_ := Aside0.mk (ho); clear HB; clear HO_5; have HB := n0_; have HO182 := n1_; clear n0_ n1_; clear ho hb hg hat; have p183 : 0 ≤ (x7_1 : Int) := of_decide_eq_true (by first | (with_reducible assumption) | assumption); have q183 : x7_1 < (l0.length : Int) := of_decide_eq_true (by first | (with_reducible assumption) | assumption); obtain ⟨ad183, A183_0, c183_0, e183, hx183_0, hl183_0, hi183_0⟩ := at_L2 HR0.out x7_1 p183 q183; obtain rfl : ad179 = ad183 := (by injection e183); replace hx183_0 := (HB.out.cell (World.block_lt_of_cell? w _ hx183_0)).trans hx183_0; have HR183_0 := Aside0.mk hi183_0; have HC183_0 := Aside0.mk hl183_0; clear hi183_0 hl183_0; replace p183 := eq_true p183; replace q183 := eq_true q183))
                go_roundg k1
                case measure => have := HK1.out; omega
                case rel => exact ⟨(y180), (wrap64 (x6_1 + ((rd_L2 l0 x7_1).length : Int))), (wrap64 (x7_1 + 1)), (by first | rfl | (simp; done) | (simp [*]; done)), (by first | rfl | (simp; done) | (simp [*]; done)), H', ⟨by have := HK1.out; omega⟩, ⟨by (with_reducible repeat (first | apply Kd.R_alloc | apply Kd.R_drewN | apply Kd.R_drew)); exact HO182.out⟩, ⟨by repeat (first | (with_reducible first | exact HB.out | apply below_alloc | apply pw_below_drewN | apply below_drew1) | exact HB.out)⟩⟩
          · rw [if_neg c5] at H
            exact absurd H (by simp)
        · rw [if_neg c4] at H
          exact absurd H (by simp)
      · rw [if_neg c3] at H
        have c3b0 : decide (x7_1 < (l0.length : Int)) = false := decide_eq_false c3
        clear c3
        replace H := Option.bind_eq_some_iff.mp H
        obtain ⟨t186, A180, H⟩ := H
        replace H : ((terrierref1_Join.f k1 x5_1).bind fun t189 => (if (strOfNums t186).toList = t189.toList then ((pack_Split.f k1 t186).bind fun bt190 => (if bt190.2 = 0 then (terrierlaw1_PackParts.j1 k1 l1 x5_1 bt190.1 ((bt190.1.length : Int) != (x5_1.length : Int))) else (terrierlaw1_PackParts.j1 k1 l1 x5_1 bt190.1 true))) else (some false))) = some r := H
        have A18 := Aside0.mk A180
        clear A180
        replace H := Option.bind_eq_some_iff.mp H
        obtain ⟨t189, A190, H⟩ := H
        replace H : (if (strOfNums t186).toList = t189.toList then ((pack_Split.f k1 t186).bind fun bt190 => (if bt190.2 = 0 then (terrierlaw1_PackParts.j1 k1 l1 x5_1 bt190.1 ((bt190.1.length : Int) != (x5_1.length : Int))) else (terrierlaw1_PackParts.j1 k1 l1 x5_1 bt190.1 true))) else (some false)) = some r := H
        have A19 := Aside0.mk A190
        clear A190
        by_cases c20 : (strOfNums t186).toList = t189.toList
        · rw [if_pos c20] at H
          have c20b0 : ((strOfNums t186).toList == t189.toList) = true := beq_iff_eq.mpr c20
          have c20b1 : ((strOfNums t186).toList != t189.toList) = false := bne_eq_false_iff_eq.mpr c20
          clear c20
          replace H := Option.bind_eq_some_iff.mp H
          obtain ⟨⟨t190, t191⟩, A210, H⟩ := H
          replace H : (if t191 = 0 then (terrierlaw1_PackParts.j1 k1 l1 x5_1 t190 ((t190.length : Int) != (x5_1.length : Int))) else (terrierlaw1_PackParts.j1 k1 l1 x5_1 t190 true)) = some r := H
          have A21 := Aside0.mk A210
          clear A210
          have HC22 := Aside0.mk H
          clear H
          try go_wp2_with (first | ((with_reducible refine gate_callee (f := 25) rfl ?_); refine goesL_ (some 46) rfl rfl Try.func25 (by kernel_rfl) rfl #[.slice A0 l0.length c0] rfl (by (try simp only [List.map_toArray, List.map_cons, List.map_nil]); first | done | rfl | (simp only [List.length_drop, List.length_take]; rfl)) ?_; (with_reducible refine (pack_Join.calls k1 _ _ l0 t186 _ ?side1 ?side2 A18.out).mono ?_); (case side1 => repeat (first | exact (Kd.C_below HR0.out HB.out) | (with_reducible refine Kd.C_alloc ?_ _) | (with_reducible refine Kd.C_drewN ?_ _) | (with_reducible refine Kd.C_drew ?_))); (case side2 => exact HC0.out); rintro e w23 ⟨_, u187, rfl, ⟨A187_, n187_, c187_, d187_, rfl, rfl, hc187_, hd187_⟩, ho0, hb⟩; obtain rfl : n187_ = t186.length := cap_len ho0; refine ⟨_, rfl, ?_⟩; have n0_ := Aside0.mk (Kd.R_below (by (with_reducible repeat (first | apply Kd.R_alloc | apply Kd.R_drewN | apply Kd.R_drew)); exact HO_5.out) hb); have n1_ := Aside0.mk (Kd.R_lower ho0 (below_size (by repeat (first | (with_reducible first | exact HB.out | apply below_alloc | apply pw_below_drewN | apply below_drew1) | exact HB.out)))); have n2_ := Aside0.mk (below_step (by repeat (first | (with_reducible first | exact HB.out | apply below_alloc | apply pw_below_drewN | apply below_drew1) | exact HB.out)) hb); clear HO_5; clear HB; have HO_5 := n0_; have HO188 := n1_; have HB := n2_; clear n0_ n1_ n2_; (try clear hb); (try clear hb2); (try clear hk); (try clear hi); (try clear ho0); obtain ⟨Ao24, co24, eo24⟩ := Kd.R_slice HO_5.out; subst eo24))
          have n0_ := Aside0.mk (Kd.R_drew HO_5.out)
          have n1_ := Aside0.mk (Kd.R_drew HO188.out)
          have n2_ := Aside0.mk (below_drew1 HB.out)
          clear HO_5
          clear HO188
          clear HB
          have HO_5 := n0_
          have HO188 := n1_
          have HB := n2_
          clear n0_ n1_ n2_
          have hcv26 := cap_string (P := Try.prog) (c := c187_) Try.underlying22 Try.underlying5 Try.underlying9 (Kd.own_of_R HO188.out)
          refine start_ (n := 5) (S := fun w' => Sem.run Try.prog (convert 22 9 (.slice A187_ t186.length c187_)) w' = .ok (.string (strOfNums t186)) w') (ds := []) #[false, false, false, false, false] (by kernel_rfl) rfl rfl (cap_string (P := Try.prog) (c := c187_) Try.underlying22 Try.underlying5 Try.underlying9 (Kd.own_of_R HO188.out)) (fun hHeld => ?_)
          generalize w23.drew = w25 at HO_5 HO188 HB hHeld ⊢
          refine pure_ (i := 0) (N := some 47) (v := ?_) (a' := ?_) #[true, false, false, false, false] rfl rfl (by kernel_rfl) (fun _ _ _ h => h) (Or.inl ⟨by rfl, ?_⟩) ?_ ?_
          rotate_left
          · intro w'
            go_simp
            with_reducible rfl
          rotate_left
          · simp only [Act.put, List.setIfInBounds_toArray, List.set_cons_zero, List.set_cons_succ, i64_w, i32_w]
            rfl
          refine take_ (i := 1) (N := some 48) (v := ?_) (a' := ?_) #[true, true, false, false, false] rfl rfl (by kernel_rfl) (fun _ _ _ h => h) (Or.inl ⟨by rfl, ?_⟩) hHeld ?_ ?_
          rotate_left
          · intro w' s0
            go_simp
            with_reducible rfl
          rotate_left
          · simp only [Act.put, List.setIfInBounds_toArray, List.set_cons_zero, List.set_cons_succ, i64_w, i32_w]
            rfl
          refine pure_ (i := 2) (N := some 49) (v := ?_) (a' := ?_) #[true, true, true, false, false] rfl rfl (by kernel_rfl) (fun _ _ _ h => h) (Or.inl ⟨by rfl, ?_⟩) ?_ ?_
          rotate_left
          · intro w'
            go_simp
            with_reducible rfl
          rotate_left
          · simp only [Act.put, List.setIfInBounds_toArray, List.set_cons_zero, List.set_cons_succ, i64_w, i32_w]
            rfl
          refine one_ (i := 3) (N := some 50) #[true, true, true, true, false] rfl rfl (by kernel_rfl) (by decide) (fun K hK => ?_)
          refine goes_ Try.func26 (by kernel_rfl) rfl #[.slice Ao24 x5_1.length co24] (by rfl) rfl rfl (by (try simp only [List.map_toArray, List.map_cons, List.map_nil]); first | done | rfl | (simp only [List.length_drop, List.length_take]; rfl)) ?_
          with_reducible refine (terrierref1_Join.calls k1 _ _ x5_1 t189 _ ?side1 ?side2 A19.out).mono ?_
          (case side1 => repeat (first | exact (Kd.R_reads' HO_5.out).2.2 | (with_reducible refine Kd.C_alloc ?_ _) | (with_reducible refine Kd.C_drewN ?_ _) | (with_reducible refine Kd.C_drew ?_)))
          (case side2 => exact (Kd.R_reads' HO_5.out).2.1)
          rintro e w27 ⟨rfl, hb⟩
          refine ⟨_, rfl, ?_⟩
          have n0_ := Aside0.mk (Kd.R_below (by (with_reducible repeat (first | apply Kd.R_alloc | apply Kd.R_drewN | apply Kd.R_drew)); exact HO_5.out) hb)
          have n1_ := Aside0.mk (Kd.R_below (by (with_reducible repeat (first | apply Kd.R_alloc | apply Kd.R_drewN | apply Kd.R_drew)); exact HO188.out) hb)
          have n2_ := Aside0.mk (below_step (by repeat (first | (with_reducible first | exact HB.out | apply below_alloc | apply pw_below_drewN | apply below_drew1) | exact HB.out)) hb)
          clear HO_5
          clear HO188
          clear HB
          have HO_5 := n0_
          have HO188 := n1_
          have HB := n2_
          clear n0_ n1_ n2_
          (try clear hb)
          (try clear hb2)
          (try clear hk)
          (try clear hi)
          refine hK.out _ _ (cap_string (P := Try.prog) (c := c187_) Try.underlying22 Try.underlying5 Try.underlying9 (Kd.own_of_R HO188.out)) (fun hHeld => ?_)
          clear hK K
          refine norm_ (a' := ?_) ?_ ?_
          rotate_left
          · show Act.put _ (some 50) _ = _
            simp only [Act.put, List.setIfInBounds_toArray, List.set_cons_zero, List.set_cons_succ, i64_w, i32_w]
            rfl
          refine pure_ (i := 4) (N := some 51) (v := ?_) (a' := ?_) #[true, true, true, true, true] rfl rfl (by kernel_rfl) (fun _ _ _ h => h) (Or.inl ⟨by rfl, ?_⟩) ?_ ?_
          rotate_left
          · intro w'
            go_simp
            with_reducible rfl
          rotate_left
          · simp only [Act.put, List.setIfInBounds_toArray, List.set_cons_zero, List.set_cons_succ, i64_w, i32_w]
            rfl
          refine done_ (by kernel_rfl) ?_
          go_upto_region 14 with (first | ((with_reducible refine gate_callee (f := 27) rfl ?_); refine goesL_ (some 54) rfl rfl Try.func27 (by kernel_rfl) rfl #[.slice A187_ t186.length c187_] rfl (by (try simp only [List.map_toArray, List.map_cons, List.map_nil]); first | done | rfl | (simp only [List.length_drop, List.length_take]; rfl)) ?_; (with_reducible refine (pack_Split.calls k1 _ _ t186 t190 t191 _ ?side1 ?side2 A21.out).mono ?_); (case side1 => repeat (first | exact (Kd.R_reads' HO188.out).2.2 | (with_reducible refine Kd.C_alloc ?_ _) | (with_reducible refine Kd.C_drewN ?_ _) | (with_reducible refine Kd.C_drew ?_))); (case side2 => exact hc187_); rintro e w30 ⟨_, u192, rfl, ⟨A192_, n192_, c192_, d192_, rfl, rfl, hc192_, hd192_⟩, ho0, hb⟩; obtain rfl : n192_ = t190.length := cap_len ho0; refine ⟨_, rfl, ?_⟩; have n0_ := Aside0.mk (Kd.R_below (by (with_reducible repeat (first | apply Kd.R_alloc | apply Kd.R_drewN | apply Kd.R_drew)); exact HO_5.out) hb); have n1_ := Aside0.mk (Kd.R_below (by (with_reducible repeat (first | apply Kd.R_alloc | apply Kd.R_drewN | apply Kd.R_drew)); exact HO188.out) hb); have n2_ := Aside0.mk (Kd.R_lower (Kd.R_new' ho0 (Kd.R_lt (by (with_reducible repeat (first | apply Kd.R_alloc | apply Kd.R_drewN | apply Kd.R_drew)); exact HO188.out))) (below_size (by repeat (first | (with_reducible first | exact HB.out | apply below_alloc | apply pw_below_drewN | apply below_drew1) | exact HB.out)))); have n3_ := Aside0.mk (below_step (by repeat (first | (with_reducible first | exact HB.out | apply below_alloc | apply pw_below_drewN | apply below_drew1) | exact HB.out)) hb); clear HO_5; clear HO188; clear HB; have HO_5 := n0_; have HO188 := n1_; have HO193 := n2_; have HB := n3_; clear n0_ n1_ n2_ n3_; (try clear hb); (try clear hb2); (try clear hk); (try clear hi); (try clear ho0)))
          (try simp only [Act.put, List.setIfInBounds_toArray, List.set_cons_zero, List.set_cons_succ])
          go_cut [65] (fun v65 wc => ∃ (kq : Nat) (x65_21 : Bool), v65 = .bool x65_21 ∧ Aside0 (terrierlaw1_PackParts.j1 kq l1 x5_1 t190 x65_21 = some r) ∧ Aside0 (kq ≤ k1) ∧ Aside0 (Kd.R Kd.string 9 wc w.heap.size (fun _ => True) (.slice Ao24 x5_1.length co24) x5_1) ∧ Aside0 (Kd.R capK 22 wc w.heap.size (fun _ => True) (.slice A192_ t190.length d192_) t190) ∧ Aside0 (Below w.heap.size w wc))
          case first =>
            have H := HC22.out
            clear HC22
            by_cases c31 : t191 = 0
            · rw [if_pos c31] at H
              have c31b0 : (t191 == 0) = true := beq_iff_eq.mpr c31
              have c31b1 : (t191 != 0) = false := bne_eq_false_iff_eq.mpr c31
              clear c31
              (first | rw [c31b0] | (simp only [i64_w, i32_w]; rw [c31b0]) | skip)
              have H' := Aside0.mk H
              clear H
              go_wp2
              go_meet
              case rel => exact ⟨_, (((t190.length : Int) != (x5_1.length : Int))), (by first | rfl | (simp; done) | (simp [*]; done)), H', ⟨by have := HK1.out; first | omega | exact Nat.le_refl _⟩, ⟨by (with_reducible repeat (first | apply Kd.R_alloc | apply Kd.R_drewN | apply Kd.R_drew)); exact HO_5.out⟩, ⟨by (with_reducible repeat (first | apply Kd.R_alloc | apply Kd.R_drewN | apply Kd.R_drew)); exact Kd.R_mono HO193.out (fun _ hk => trivial)⟩, ⟨by repeat (first | (with_reducible first | exact HB.out | apply below_alloc | apply pw_below_drewN | apply below_drew1) | exact HB.out)⟩⟩
            · rw [if_neg c31] at H
              have c31b0 : (t191 == 0) = false := beq_eq_false_iff_ne.mpr c31
              have c31b1 : (t191 != 0) = true := bne_iff_ne.mpr c31
              (first | rw [c31b0] | (simp only [i64_w, i32_w]; rw [c31b0]) | skip)
              have H' := Aside0.mk H
              clear H
              go_wp2
              go_meet
              case rel => exact ⟨_, (true), (by first | rfl | (simp; done) | (simp [*]; done)), H', ⟨by have := HK1.out; first | omega | exact Nat.le_refl _⟩, ⟨by (with_reducible repeat (first | apply Kd.R_alloc | apply Kd.R_drewN | apply Kd.R_drew)); exact HO_5.out⟩, ⟨by (with_reducible repeat (first | apply Kd.R_alloc | apply Kd.R_drewN | apply Kd.R_drew)); exact Kd.R_mono HO193.out (fun _ hk => trivial)⟩, ⟨by repeat (first | (with_reducible first | exact HB.out | apply below_alloc | apply pw_below_drewN | apply below_drew1) | exact HB.out)⟩⟩
          case rest =>
            clear HC22
            try clear c1
            try clear p1
            try clear q1
            try clear hx1
            try clear hcv1
            try clear c2
            try clear p2
            try clear hcv2
            try clear c3
            try clear c3b0
            try clear c4
            try clear c4b0
            try clear c5
            try clear c6
            try clear c6b0
            try clear p6
            try clear hcv8
            try clear c9
            try clear c11
            try clear c11b0
            try clear hcv13
            try clear hcv16
            try clear c17
            try clear p17
            try clear q17
            try clear hx17
            try clear c18
            try clear p18
            try clear q18
            try clear hx18
            try clear c20
            try clear c20b0
            try clear c20b1
            try clear c25
            try clear c26
            try clear hcv26
            try clear c27
            try clear c31
            try clear c31b0
            try clear c31b1
            try clear hx179_0
            try clear hx183_0
            try clear p179
            try clear p183
            try clear p2
            try clear q179
            try clear q183
            obtain ⟨kq, x65_21, rfl, HA, HJ21, HO_5, HO_9, HB⟩ := hcut
            cases kq with
            | zero => exact absurd HA.out (by simp [terrierlaw1_PackParts.j1])
            | succ kj21 =>
              have H := HA.out
              clear HA
              simp only [terrierlaw1_PackParts.j1] at H
              by_cases c33 : x65_21 = true
              · subst c33
                have H1 : (some false) = some r := by rw [if_pos rfl] at H; exact H
                clear H
                have H := H1
                clear H1
                exact absurd (Option.some.inj (H.trans (congrArg some HR.out))) (by decide)
              · replace c33 := Bool.eq_false_iff.mpr c33
                subst c33
                have H1 : (terrierlaw1_PackParts.l1 kj21 l1 x5_1 t190 0) = some r := by rw [if_neg (show ¬ (false = true) by decide)] at H; exact H
                clear H
                have H := H1
                clear H1
                have H' := Aside0.mk H
                clear H
                go_wp2
                go_loopg [11] kj21 (fun kq v11 w' => ∃ (x11_3 : Int), v11 = .int .i64 x11_3 ∧ Aside0 (terrierlaw1_PackParts.l1 kq l1 x5_1 t190 x11_3 = some r) ∧ Aside0 (kq ≤ kj21) ∧ Aside0 (Kd.R Kd.string 9 w' w.heap.size (fun _ => True) (.slice Ao24 x5_1.length co24) x5_1) ∧ Aside0 (Kd.R capK 22 w' w.heap.size (fun _ => True) (.slice A192_ t190.length d192_) t190) ∧ Aside0 (Below w.heap.size w w'))
                case atStart => exact ⟨(0), (by first | rfl | (simp; done) | (simp [*]; done)), H', ⟨Nat.le_refl _⟩, ⟨by (with_reducible repeat (first | apply Kd.R_alloc | apply Kd.R_drewN | apply Kd.R_drew)); exact HO_5.out⟩, ⟨by (with_reducible repeat (first | apply Kd.R_alloc | apply Kd.R_drewN | apply Kd.R_drew)); exact HO_9.out⟩, ⟨by repeat (first | (with_reducible first | exact HB.out | apply below_alloc | apply pw_below_drewN | apply below_drew1) | exact HB.out)⟩⟩
                case round =>
                  clear H'
                  try clear c1
                  try clear p1
                  try clear q1
                  try clear hx1
                  try clear hcv1
                  try clear c2
                  try clear p2
                  try clear hcv2
                  try clear c3
                  try clear c3b0
                  try clear c4
                  try clear c4b0
                  try clear c5
                  try clear c6
                  try clear c6b0
                  try clear p6
                  try clear hcv8
                  try clear c9
                  try clear c11
                  try clear c11b0
                  try clear hcv13
                  try clear hcv16
                  try clear c17
                  try clear p17
                  try clear q17
                  try clear hx17
                  try clear c18
                  try clear p18
                  try clear q18
                  try clear hx18
                  try clear c20
                  try clear c20b0
                  try clear c20b1
                  try clear c25
                  try clear c26
                  try clear hcv26
                  try clear c27
                  try clear c31
                  try clear c31b0
                  try clear c31b1
                  try clear c33
                  try clear hx179_0
                  try clear hx183_0
                  try clear p1
                  try clear p17
                  try clear p179
                  try clear p18
                  try clear p183
                  try clear p2
                  try clear p6
                  try clear q1
                  try clear q17
                  try clear q179
                  try clear q18
                  try clear q183
                  obtain ⟨x11_3, rfl, HA, HK3, HO_5, HO_9, HB⟩ := hrel
                  cases gk with
                  | zero => exact absurd HA.out (by simp [terrierlaw1_PackParts.l1])
                  | succ k3 =>
                    have H := HA.out
                    clear HA
                    simp only [terrierlaw1_PackParts.l1] at H
                    by_cases c34 : x11_3 < (x5_1.length : Int)
                    · rw [if_pos c34] at H
                      have c34b0 : decide (x11_3 < (x5_1.length : Int)) = true := decide_eq_true c34
                      clear c34
                      by_cases c35 : 0 ≤ x11_3
                      · rw [if_pos c35] at H
                        have c35b0 : decide (0 ≤ x11_3) = true := decide_eq_true c35
                        clear c35
                        by_cases c36 : x11_3 < (t190.length : Int)
                        · rw [if_pos c36] at H
                          have c36b0 : decide (x11_3 < (t190.length : Int)) = true := decide_eq_true c36
                          clear c36
                          by_cases c37 : (strOfNums (rd_L2 t190 x11_3)).toList = (rdOf ByteArray.empty x5_1 x11_3).toList
                          · rw [if_pos c37] at H
                            have c37b0 : ((strOfNums (rd_L2 t190 x11_3)).toList == (rdOf ByteArray.empty x5_1 x11_3).toList) = true := beq_iff_eq.mpr c37
                            have c37b1 : ((strOfNums (rd_L2 t190 x11_3)).toList != (rdOf ByteArray.empty x5_1 x11_3).toList) = false := bne_eq_false_iff_eq.mpr c37
                            clear c37
                            have H' := Aside0.mk H
                            clear H
                            try go_wp2
                            have n0_ := Aside0.mk (Kd.R_drew HO_5.out)
                            have n1_ := Aside0.mk (Kd.R_drew HO_9.out)
                            have n2_ := Aside0.mk (below_drew1 HB.out)
                            clear HO_5
                            clear HO_9
                            clear HB
                            have HO_5 := n0_
                            have HO_9 := n1_
                            have HB := n2_
                            clear n0_ n1_ n2_
                            obtain ⟨Ao39, co39, eo39⟩ := Kd.R_slice HO_9.out
                            (first | subst eo39 | (injection eo39 with f1_ f2_ f3_; have f4_ := f1_.symm; have f5_ := f3_.symm; clear f1_ f2_ f3_; subst f4_; subst f5_))
                            have p194 : 0 ≤ (x11_3 : Int) := of_decide_eq_true (by first | (with_reducible assumption) | assumption)
                            have q194 : x11_3 < (t190.length : Int) := of_decide_eq_true (by first | (with_reducible assumption) | assumption)
                            obtain ⟨ad194, A194_0, c194_0, e194, hx194_0, hl194_0, hi194_0⟩ := at_L2 (Kd.R_reads' HO_9.out).2.2 x11_3 p194 q194
                            cases e194
                            skip
                            have HR194_0 := Aside0.mk hi194_0
                            have HC194_0 := Aside0.mk hl194_0
                            clear hi194_0 hl194_0
                            replace p194 := eq_true p194
                            replace q194 := eq_true q194
                            have p195 : 0 ≤ (x11_3 : Int) := of_decide_eq_true (by first | (with_reducible assumption) | assumption)
                            have q195 : x11_3 < (x5_1.length : Int) := of_decide_eq_true (by first | (with_reducible assumption) | assumption)
                            obtain ⟨ad195, e195, hx195_0⟩ := Kd.at_string (Kd.R_reads' HO_5.out).2.2 x11_3 p195 q195
                            cases e195
                            replace p195 := eq_true p195
                            replace q195 := eq_true q195
                            have hcv40 := Kd.C_string (P := Try.prog) (A := A194_0) (c := c194_0) Try.underlying22 Try.underlying5 Try.underlying9 (by repeat (first | (with_reducible exact HR194_0.out) | (with_reducible refine Kd.C_alloc ?_ _) | (with_reducible refine Kd.C_drewN ?_ _) | (with_reducible refine Kd.C_drew ?_) | exact HR194_0.out))
                            refine start_ (n := 10) (S := fun w' => w'.cell? (ad194.add (x11_3).toNat) = some (.slice A194_0 (rd_L2 t190 x11_3).length c194_0) ∧ w'.cell? (ad195.add (x11_3).toNat) = some (.string (rdOf ByteArray.empty x5_1 x11_3)) ∧ Sem.run Try.prog (convert 22 9 (.slice A194_0 (rd_L2 t190 x11_3).length c194_0)) w' = .ok (.string (strOfNums (rd_L2 t190 x11_3))) w') (ds := []) #[false, false, false, false, false, false, false, false, false, false] (by kernel_rfl) rfl rfl ⟨hx194_0, hx195_0, Kd.C_string (P := Try.prog) (A := A194_0) (c := c194_0) Try.underlying22 Try.underlying5 Try.underlying9 (Kd.C_drew HR194_0.out)⟩ (fun hHeld => ?_); refine with_tabW terrierlaw1_PackParts.tab19 terrierlaw1_PackParts.bits19 (fun HT_ HW_ => ?_)
                            generalize wr.drew = w38 at HO_5 HO_9 HB HR194_0 hx194_0 hx195_0 hHeld ⊢
                            refine pure_ (i := 0) (N := some 72) (v := ?_) (a' := ?_) #[true, false, false, false, false, false, false, false, false, false] rfl rfl (any_of HT_.out (by kernel_rfl)) (fun _ _ _ h => h) (Or.inl ⟨by rfl, ?_⟩) ?_ ?_
                            rotate_left
                            · intro w'
                              go_simp
                              with_reducible rfl
                            rotate_left
                            · simp only [Act.put, List.setIfInBounds_toArray, List.set_cons_zero, List.set_cons_succ, i64_w, i32_w]
                              rfl
                            refine pure_ (i := 1) (N := some 73) (v := ?_) (a' := ?_) #[true, true, false, false, false, false, false, false, false, false] rfl rfl (any_of HT_.out (by kernel_rfl)) (fun _ _ _ h => h) (Or.inl ⟨by rfl, ?_⟩) ?_ ?_
                            rotate_left
                            · intro w'
                              go_simp
                              with_reducible rfl
                            rotate_left
                            · simp only [Act.put, List.setIfInBounds_toArray, List.set_cons_zero, List.set_cons_succ, i64_w, i32_w]
                              rfl
                            refine pure_ (i := 2) (N := some 74) (v := ?_) (a' := ?_) #[true, true, true, false, false, false, false, false, false, false] rfl rfl (any_of HT_.out (by kernel_rfl)) (fun _ _ _ h => h) (Or.inl ⟨by rfl, ?_⟩) ?_ ?_
                            rotate_left
                            · intro w'
                              go_simp
                              with_reducible rfl
                            rotate_left
                            · simp only [Act.put, List.setIfInBounds_toArray, List.set_cons_zero, List.set_cons_succ, i64_w, i32_w]
                              rfl
                            refine pure_ (i := 5) (N := some 77) (v := ?_) (a' := ?_) #[true, true, true, false, false, true, false, false, false, false] rfl rfl (any_of HT_.out (by kernel_rfl)) (fun _ _ _ h => h) (Or.inl ⟨by rfl, ?_⟩) ?_ ?_
                            rotate_left
                            · intro w'
                              go_simp
                              with_reducible rfl
                            rotate_left
                            · simp only [Act.put, List.setIfInBounds_toArray, List.set_cons_zero, List.set_cons_succ, i64_w, i32_w]
                              rfl
                            refine pure_ (i := 6) (N := some 78) (v := ?_) (a' := ?_) #[true, true, true, false, false, true, true, false, false, false] rfl rfl (any_of HT_.out (by kernel_rfl)) (fun _ _ _ h => h) (Or.inl ⟨by rfl, ?_⟩) ?_ ?_
                            rotate_left
                            · intro w'
                              go_simp
                              with_reducible rfl
                            rotate_left
                            · simp only [Act.put, List.setIfInBounds_toArray, List.set_cons_zero, List.set_cons_succ, i64_w, i32_w]
                              rfl
                            refine pure_ (i := 7) (N := some 79) (v := ?_) (a' := ?_) #[true, true, true, false, false, true, true, true, false, false] rfl rfl (any_of HT_.out (by kernel_rfl)) (fun _ _ _ h => h) (Or.inl ⟨by rfl, ?_⟩) ?_ ?_
                            rotate_left
                            · intro w'
                              go_simp
                              with_reducible rfl
                            rotate_left
                            · simp only [Act.put, List.setIfInBounds_toArray, List.set_cons_zero, List.set_cons_succ, i64_w, i32_w]
                              rfl
                            refine take_ (i := 3) (N := some 75) (v := ?_) (a' := ?_) #[true, true, true, true, false, true, true, true, false, false] rfl rfl (take_ofW HT_.out HW_.out (by kernel_rfl)) (fun _ _ _ h => h) (Or.inl ⟨by rfl, ?_⟩) hHeld ?_ ?_
                            rotate_left
                            · rintro w' ⟨s0, s1, s2⟩
                              go_simp
                              with_reducible rfl
                            rotate_left
                            · simp only [Act.put, List.setIfInBounds_toArray, List.set_cons_zero, List.set_cons_succ, i64_w, i32_w]
                              rfl
                            refine take_ (i := 4) (N := some 76) (v := ?_) (a' := ?_) #[true, true, true, true, true, true, true, true, false, false] rfl rfl (take_ofW HT_.out HW_.out (by kernel_rfl)) (fun _ _ _ h => h) (Or.inl ⟨by rfl, ?_⟩) hHeld ?_ ?_
                            rotate_left
                            · rintro w' ⟨s0, s1, s2⟩
                              go_simp
                              with_reducible rfl
                            rotate_left
                            · simp only [Act.put, List.setIfInBounds_toArray, List.set_cons_zero, List.set_cons_succ, i64_w, i32_w]
                              rfl
                            refine take_ (i := 8) (N := some 80) (v := ?_) (a' := ?_) #[true, true, true, true, true, true, true, true, true, false] rfl rfl (take_ofW HT_.out HW_.out (by kernel_rfl)) (fun _ _ _ h => h) (Or.inl ⟨by rfl, ?_⟩) hHeld ?_ ?_
                            rotate_left
                            · rintro w' ⟨s0, s1, s2⟩
                              go_simp
                              with_reducible rfl
                            rotate_left
                            · simp only [Act.put, List.setIfInBounds_toArray, List.set_cons_zero, List.set_cons_succ, i64_w, i32_w]
                              rfl
                            refine pure_ (i := 9) (N := some 81) (v := ?_) (a' := ?_) #[true, true, true, true, true, true, true, true, true, true] rfl rfl (any_of HT_.out (by kernel_rfl)) (fun _ _ _ h => h) (Or.inl ⟨by rfl, ?_⟩) ?_ ?_
                            rotate_left
                            · intro w'
                              go_simp
                              with_reducible rfl
                            rotate_left
                            · simp only [Act.put, List.setIfInBounds_toArray, List.set_cons_zero, List.set_cons_succ, i64_w, i32_w]
                              rfl
                            refine done_ (done_of HT_.out (by kernel_rfl)) ?_
                            try go_wp2
                            go_roundg k3
                            case measure => have := HK1.out; have := HJ21.out; have := HK3.out; omega
                            case rel => exact ⟨(wrap64 (x11_3 + 1)), (by first | rfl | (simp; done) | (simp [*]; done)), H', ⟨by have := HK1.out; have := HJ21.out; have := HK3.out; omega⟩, ⟨by (with_reducible repeat (first | apply Kd.R_alloc | apply Kd.R_drewN | apply Kd.R_drew)); exact HO_5.out⟩, ⟨by (with_reducible repeat (first | apply Kd.R_alloc | apply Kd.R_drewN | apply Kd.R_drew)); exact HO_9.out⟩, ⟨by repeat (first | (with_reducible first | exact HB.out | apply below_alloc | apply pw_below_drewN | apply below_drew1) | exact HB.out)⟩⟩
                          · rw [if_neg c37] at H
                            have c37b0 : ((strOfNums (rd_L2 t190 x11_3)).toList == (rdOf ByteArray.empty x5_1 x11_3).toList) = false := beq_eq_false_iff_ne.mpr c37
                            have c37b1 : ((strOfNums (rd_L2 t190 x11_3)).toList != (rdOf ByteArray.empty x5_1 x11_3).toList) = true := bne_iff_ne.mpr c37
                            exact absurd (Option.some.inj (H.trans (congrArg some HR.out))) (by decide)
                        · rw [if_neg c36] at H
                          exact absurd H (by simp)
                      · rw [if_neg c35] at H
                        exact absurd H (by simp)
                    · rw [if_neg c34] at H
                      have c34b0 : decide (x11_3 < (x5_1.length : Int)) = false := decide_eq_false c34
                      clear c34
                      replace H := Option.bind_eq_some_iff.mp H
                      obtain ⟨⟨t196, t197⟩, A440, H⟩ := H
                      replace H : ((terrierref1_Split.f k3 (strOfNums l1)).bind fun bt200 => (if t197 = bt200.2 then (terrierlaw1_PackParts.j3 k3 t196 bt200.1 ((t196.length : Int) != (bt200.1.length : Int))) else (terrierlaw1_PackParts.j3 k3 t196 bt200.1 true))) = some r := H
                      have A44 := Aside0.mk A440
                      clear A440
                      replace H := Option.bind_eq_some_iff.mp H
                      obtain ⟨⟨t200, t201⟩, A450, H⟩ := H
                      replace H : (if t197 = t201 then (terrierlaw1_PackParts.j3 k3 t196 t200 ((t196.length : Int) != (t200.length : Int))) else (terrierlaw1_PackParts.j3 k3 t196 t200 true)) = some r := H
                      have A45 := Aside0.mk A450
                      clear A450
                      have HC46 := Aside0.mk H
                      clear H
                      go_upto_region 23 with (first | ((with_reducible refine gate_callee (f := 27) rfl ?_); refine goesL_ (some 84) rfl rfl Try.func27 (by kernel_rfl) rfl #[.slice A1 l1.length c1] rfl (by (try simp only [List.map_toArray, List.map_cons, List.map_nil]); first | done | rfl | (simp only [List.length_drop, List.length_take]; rfl)) ?_; (with_reducible refine (pack_Split.calls k3 _ _ l1 t196 t197 _ ?side1 ?side2 A44.out).mono ?_); (case side1 => repeat (first | exact (Kd.C_below HR1.out HB.out) | (with_reducible refine Kd.C_alloc ?_ _) | (with_reducible refine Kd.C_drewN ?_ _) | (with_reducible refine Kd.C_drew ?_))); (case side2 => exact HC1.out); rintro e w47 ⟨_, u198, rfl, ⟨A198_, n198_, c198_, d198_, rfl, rfl, hc198_, hd198_⟩, ho0, hb⟩; obtain rfl : n198_ = t196.length := cap_len ho0; refine ⟨_, rfl, ?_⟩; have n0_ := Aside0.mk (Kd.R_below (by (with_reducible repeat (first | apply Kd.R_alloc | apply Kd.R_drewN | apply Kd.R_drew)); exact HO_5.out) hb); have n1_ := Aside0.mk (Kd.R_elder' (by (with_reducible repeat (first | apply Kd.R_alloc | apply Kd.R_drewN | apply Kd.R_drew)); exact HO_9.out) (Kd.R_base ho0) hb); have n2_ := Aside0.mk (Kd.R_lower (Kd.R_new' ho0 (Kd.R_lt (by (with_reducible repeat (first | apply Kd.R_alloc | apply Kd.R_drewN | apply Kd.R_drew)); exact HO_9.out))) (below_size (by repeat (first | (with_reducible first | exact HB.out | apply below_alloc | apply pw_below_drewN | apply below_drew1) | exact HB.out)))); have n3_ := Aside0.mk (below_step (by repeat (first | (with_reducible first | exact HB.out | apply below_alloc | apply pw_below_drewN | apply below_drew1) | exact HB.out)) hb); clear HO_5; clear HO_9; clear HB; have HO_5 := n0_; have HO_9 := n1_; have HO199 := n2_; have HB := n3_; clear n0_ n1_ n2_ n3_; (try clear hb); (try clear hb2); (try clear hk); (try clear hi); (try clear ho0); have hcv48 := Kd.C_string (P := Try.prog) (A := A1) (c := c1) Try.underlying22 Try.underlying5 Try.underlying9 (Kd.C_below HR1.out HB.out)) | ((with_reducible refine gate_callee (f := 28) rfl ?_); refine goesL_ (some 90) rfl rfl Try.func28 (by kernel_rfl) rfl #[.string (strOfNums l1)] rfl (by (try simp only [List.map_toArray, List.map_cons, List.map_nil]); first | done | rfl | (simp only [List.length_drop, List.length_take]; rfl)) ?_; (with_reducible refine (terrierref1_Split.calls k3 (strOfNums l1) t200 t201 _ A45.out).mono ?_); rintro e w49 ⟨v202, rfl, ho0, hb⟩; refine ⟨_, rfl, ?_⟩; have n0_ := Aside0.mk (Kd.R_elder' (by (with_reducible repeat (first | apply Kd.R_alloc | apply Kd.R_drewN | apply Kd.R_drew)); exact HO_5.out) (Kd.R_base ho0) hb); have n1_ := Aside0.mk (Kd.R_below (by (with_reducible repeat (first | apply Kd.R_alloc | apply Kd.R_drewN | apply Kd.R_drew)); exact HO_9.out) hb); have n2_ := Aside0.mk (Kd.R_below (by (with_reducible repeat (first | apply Kd.R_alloc | apply Kd.R_drewN | apply Kd.R_drew)); exact HO199.out) hb); have n3_ := Aside0.mk (Kd.R_lower (Kd.R_new' ho0 (Kd.R_lt (by (with_reducible repeat (first | apply Kd.R_alloc | apply Kd.R_drewN | apply Kd.R_drew)); exact HO_5.out))) (below_size (by repeat (first | (with_reducible first | exact HB.out | apply below_alloc | apply pw_below_drewN | apply below_drew1) | exact HB.out)))); have n4_ := Aside0.mk (below_step (by repeat (first | (with_reducible first | exact HB.out | apply below_alloc | apply pw_below_drewN | apply below_drew1) | exact HB.out)) hb); clear HO_5; clear HO_9; clear HO199; clear HB; have HO_5 := n0_; have HO_9 := n1_; have HO199 := n2_; have HO203 := n3_; have HB := n4_; clear n0_ n1_ n2_ n3_ n4_; (try clear hb); (try clear hb2); (try clear hk); (try clear hi); (try clear ho0)))
                      (try simp only [Act.put, List.setIfInBounds_toArray, List.set_cons_zero, List.set_cons_succ])
                      go_cut [102] (fun v102 wc => ∃ (kq : Nat) (x102_45 : Bool), v102 = .bool x102_45 ∧ Aside0 (terrierlaw1_PackParts.j3 kq t196 t200 x102_45 = some r) ∧ Aside0 (kq ≤ k3) ∧ Aside0 (Kd.R capK 22 wc w.heap.size (fun _ => True) (.slice A198_ t196.length d198_) t196) ∧ Aside0 (Kd.R Kd.string 9 wc w.heap.size (fun _ => True) v202 t200) ∧ Aside0 (Below w.heap.size w wc))
                      case first =>
                        have H := HC46.out
                        clear HC46
                        by_cases c50 : t197 = t201
                        · rw [if_pos c50] at H
                          have c50b0 : (t197 == t201) = true := beq_iff_eq.mpr c50
                          have c50b1 : (t197 != t201) = false := bne_eq_false_iff_eq.mpr c50
                          clear c50
                          (first | rw [c50b0] | (simp only [i64_w, i32_w]; rw [c50b0]) | skip)
                          have H' := Aside0.mk H
                          clear H
                          obtain ⟨Ao52, co52, eo52⟩ := Kd.R_slice HO203.out
                          subst eo52
                          go_wp2
                          go_meet
                          case rel => exact ⟨_, (((t196.length : Int) != (t200.length : Int))), (by first | rfl | (simp; done) | (simp [*]; done)), H', ⟨by have := HK1.out; have := HJ21.out; have := HK3.out; first | omega | exact Nat.le_refl _⟩, ⟨by (with_reducible repeat (first | apply Kd.R_alloc | apply Kd.R_drewN | apply Kd.R_drew)); exact Kd.R_mono HO199.out (fun _ hk => trivial)⟩, ⟨by (with_reducible repeat (first | apply Kd.R_alloc | apply Kd.R_drewN | apply Kd.R_drew)); exact Kd.R_mono HO203.out (fun _ hk => trivial)⟩, ⟨by repeat (first | (with_reducible first | exact HB.out | apply below_alloc | apply pw_below_drewN | apply below_drew1) | exact HB.out)⟩⟩
                        · rw [if_neg c50] at H
                          have c50b0 : (t197 == t201) = false := beq_eq_false_iff_ne.mpr c50
                          have c50b1 : (t197 != t201) = true := bne_iff_ne.mpr c50
                          (first | rw [c50b0] | (simp only [i64_w, i32_w]; rw [c50b0]) | skip)
                          have H' := Aside0.mk H
                          clear H
                          go_wp2
                          go_meet
                          case rel => exact ⟨_, (true), (by first | rfl | (simp; done) | (simp [*]; done)), H', ⟨by have := HK1.out; have := HJ21.out; have := HK3.out; first | omega | exact Nat.le_refl _⟩, ⟨by (with_reducible repeat (first | apply Kd.R_alloc | apply Kd.R_drewN | apply Kd.R_drew)); exact Kd.R_mono HO199.out (fun _ hk => trivial)⟩, ⟨by (with_reducible repeat (first | apply Kd.R_alloc | apply Kd.R_drewN | apply Kd.R_drew)); exact Kd.R_mono HO203.out (fun _ hk => trivial)⟩, ⟨by repeat (first | (with_reducible first | exact HB.out | apply below_alloc | apply pw_below_drewN | apply below_drew1) | exact HB.out)⟩⟩
                      case rest =>
                        clear HC46
                        try clear c1
                        try clear p1
                        try clear q1
                        try clear hx1
                        try clear hcv1
                        try clear c2
                        try clear p2
                        try clear hcv2
                        try clear c3
                        try clear c3b0
                        try clear c4
                        try clear c4b0
                        try clear hcv4
                        try clear c5
                        try clear c6
                        try clear c6b0
                        try clear p6
                        try clear hcv8
                        try clear c9
                        try clear c11
                        try clear c11b0
                        try clear hcv13
                        try clear hcv16
                        try clear c17
                        try clear p17
                        try clear q17
                        try clear hx17
                        try clear c18
                        try clear p18
                        try clear q18
                        try clear hx18
                        try clear c19
                        try clear p19
                        try clear q19
                        try clear hx19
                        try clear c20
                        try clear c20b0
                        try clear c20b1
                        try clear c25
                        try clear c26
                        try clear hcv26
                        try clear c27
                        try clear c28
                        try clear c31
                        try clear c31b0
                        try clear c31b1
                        try clear c33
                        try clear c34
                        try clear c34b0
                        try clear c35
                        try clear c35b0
                        try clear c36
                        try clear c36b0
                        try clear c37
                        try clear c37b0
                        try clear c37b1
                        try clear hcv40
                        try clear hcv43
                        try clear hcv48
                        try clear c50
                        try clear c50b0
                        try clear c50b1
                        try clear hx179_0
                        try clear hx183_0
                        try clear hx194_0
                        try clear hx195_0
                        try clear p1
                        try clear p17
                        try clear p179
                        try clear p18
                        try clear p183
                        try clear p194
                        try clear p195
                        try clear p2
                        try clear p6
                        try clear q1
                        try clear q17
                        try clear q179
                        try clear q18
                        try clear q183
                        try clear q194
                        try clear q195
                        obtain ⟨kq, x102_45, rfl, HA, HJ45, HO_12, HO_14, HB⟩ := hcut
                        cases kq with
                        | zero => exact absurd HA.out (by simp [terrierlaw1_PackParts.j3])
                        | succ kj45 =>
                          have H := HA.out
                          clear HA
                          simp only [terrierlaw1_PackParts.j3] at H
                          by_cases c53 : x102_45 = true
                          · subst c53
                            have H1 : (some false) = some r := by rw [if_pos rfl] at H; exact H
                            clear H
                            have H := H1
                            clear H1
                            exact absurd (Option.some.inj (H.trans (congrArg some HR.out))) (by decide)
                          · replace c53 := Bool.eq_false_iff.mpr c53
                            subst c53
                            have H1 : (terrierlaw1_PackParts.l2 kj45 t196 t200 0) = some r := by rw [if_neg (show ¬ (false = true) by decide)] at H; exact H
                            clear H
                            have H := H1
                            clear H1
                            have H' := Aside0.mk H
                            clear H
                            go_wp2
                            go_loopg [16] kj45 (fun kq v16 w' => ∃ (x16_5 : Int), v16 = .int .i64 x16_5 ∧ Aside0 (terrierlaw1_PackParts.l2 kq t196 t200 x16_5 = some r) ∧ Aside0 (kq ≤ kj45) ∧ Aside0 (Kd.R capK 22 w' w.heap.size (fun _ => True) (.slice A198_ t196.length d198_) t196) ∧ Aside0 (Kd.R Kd.string 9 w' w.heap.size (fun _ => True) v202 t200) ∧ Aside0 (Below w.heap.size w w'))
                            case atStart => exact ⟨(0), (by first | rfl | (simp; done) | (simp [*]; done)), H', ⟨Nat.le_refl _⟩, ⟨by (with_reducible repeat (first | apply Kd.R_alloc | apply Kd.R_drewN | apply Kd.R_drew)); exact HO_12.out⟩, ⟨by (with_reducible repeat (first | apply Kd.R_alloc | apply Kd.R_drewN | apply Kd.R_drew)); exact HO_14.out⟩, ⟨by repeat (first | (with_reducible first | exact HB.out | apply below_alloc | apply pw_below_drewN | apply below_drew1) | exact HB.out)⟩⟩
                            case round =>
                              clear H'
                              try clear c1
                              try clear p1
                              try clear q1
                              try clear hx1
                              try clear hcv1
                              try clear c2
                              try clear p2
                              try clear hcv2
                              try clear c3
                              try clear c3b0
                              try clear c4
                              try clear c4b0
                              try clear hcv4
                              try clear c5
                              try clear c6
                              try clear c6b0
                              try clear p6
                              try clear hcv8
                              try clear c9
                              try clear c11
                              try clear c11b0
                              try clear hcv13
                              try clear hcv16
                              try clear c17
                              try clear p17
                              try clear q17
                              try clear hx17
                              try clear c18
                              try clear p18
                              try clear q18
                              try clear hx18
                              try clear c19
                              try clear p19
                              try clear q19
                              try clear hx19
                              try clear c20
                              try clear c20b0
                              try clear c20b1
                              try clear c25
                              try clear c26
                              try clear hcv26
                              try clear c27
                              try clear c28
                              try clear c31
                              try clear c31b0
                              try clear c31b1
                              try clear c33
                              try clear c34
                              try clear c34b0
                              try clear c35
                              try clear c35b0
                              try clear c36
                              try clear c36b0
                              try clear c37
                              try clear c37b0
                              try clear c37b1
                              try clear hcv40
                              try clear hcv43
                              try clear hcv48
                              try clear c50
                              try clear c50b0
                              try clear c50b1
                              try clear c53
                              try clear hx179_0
                              try clear hx183_0
                              try clear hx194_0
                              try clear hx195_0
                              try clear p1
                              try clear p17
                              try clear p179
                              try clear p18
                              try clear p183
                              try clear p19
                              try clear p194
                              try clear p195
                              try clear p2
                              try clear p6
                              try clear q1
                              try clear q17
                              try clear q179
                              try clear q18
                              try clear q183
                              try clear q19
                              try clear q194
                              try clear q195
                              obtain ⟨x16_5, rfl, HA, HK5, HO_12, HO_14, HB⟩ := hrel
                              cases gk with
                              | zero => exact absurd HA.out (by simp [terrierlaw1_PackParts.l2])
                              | succ k5 =>
                                have H := HA.out
                                clear HA
                                simp only [terrierlaw1_PackParts.l2] at H
                                by_cases c54 : x16_5 < (t200.length : Int)
                                · rw [if_pos c54] at H
                                  have c54b0 : decide (x16_5 < (t200.length : Int)) = true := decide_eq_true c54
                                  clear c54
                                  by_cases c55 : 0 ≤ x16_5
                                  · rw [if_pos c55] at H
                                    have c55b0 : decide (0 ≤ x16_5) = true := decide_eq_true c55
                                    clear c55
                                    by_cases c56 : x16_5 < (t196.length : Int)
                                    · rw [if_pos c56] at H
                                      have c56b0 : decide (x16_5 < (t196.length : Int)) = true := decide_eq_true c56
                                      clear c56
                                      by_cases c57 : (strOfNums (rd_L2 t196 x16_5)).toList = (rdOf ByteArray.empty t200 x16_5).toList
                                      · rw [if_pos c57] at H
                                        have c57b0 : ((strOfNums (rd_L2 t196 x16_5)).toList == (rdOf ByteArray.empty t200 x16_5).toList) = true := beq_iff_eq.mpr c57
                                        have c57b1 : ((strOfNums (rd_L2 t196 x16_5)).toList != (rdOf ByteArray.empty t200 x16_5).toList) = false := bne_eq_false_iff_eq.mpr c57
                                        clear c57
                                        have H' := Aside0.mk H
                                        clear H
                                        obtain ⟨Ao58, co58, eo58⟩ := Kd.R_slice HO_14.out
                                        subst eo58
                                        try go_wp2
                                        have n0_ := Aside0.mk (Kd.R_drew HO_12.out)
                                        have n1_ := Aside0.mk (Kd.R_drew HO_14.out)
                                        have n2_ := Aside0.mk (below_drew1 HB.out)
                                        clear HO_12
                                        clear HO_14
                                        clear HB
                                        have HO_12 := n0_
                                        have HO_14 := n1_
                                        have HB := n2_
                                        clear n0_ n1_ n2_
                                        obtain ⟨Ao60, co60, eo60⟩ := Kd.R_slice HO_12.out
                                        (first | subst eo60 | (injection eo60 with f1_ f2_ f3_; have f4_ := f1_.symm; have f5_ := f3_.symm; clear f1_ f2_ f3_; subst f4_; subst f5_))
                                        have p204 : 0 ≤ (x16_5 : Int) := of_decide_eq_true (by first | (with_reducible assumption) | assumption)
                                        have q204 : x16_5 < (t196.length : Int) := of_decide_eq_true (by first | (with_reducible assumption) | assumption)
                                        obtain ⟨ad204, A204_0, c204_0, e204, hx204_0, hl204_0, hi204_0⟩ := at_L2 (Kd.R_reads' HO_12.out).2.2 x16_5 p204 q204
                                        cases e204
                                        skip
                                        have HR204_0 := Aside0.mk hi204_0
                                        have HC204_0 := Aside0.mk hl204_0
                                        clear hi204_0 hl204_0
                                        replace p204 := eq_true p204
                                        replace q204 := eq_true q204
                                        have p205 : 0 ≤ (x16_5 : Int) := of_decide_eq_true (by first | (with_reducible assumption) | assumption)
                                        have q205 : x16_5 < (t200.length : Int) := of_decide_eq_true (by first | (with_reducible assumption) | assumption)
                                        obtain ⟨ad205, e205, hx205_0⟩ := Kd.at_string (Kd.R_reads' HO_14.out).2.2 x16_5 p205 q205
                                        cases e205
                                        replace p205 := eq_true p205
                                        replace q205 := eq_true q205
                                        have hcv61 := Kd.C_string (P := Try.prog) (A := A204_0) (c := c204_0) Try.underlying22 Try.underlying5 Try.underlying9 (by repeat (first | (with_reducible exact HR204_0.out) | (with_reducible refine Kd.C_alloc ?_ _) | (with_reducible refine Kd.C_drewN ?_ _) | (with_reducible refine Kd.C_drew ?_) | exact HR204_0.out))
                                        refine start_ (n := 10) (S := fun w' => w'.cell? (ad204.add (x16_5).toNat) = some (.slice A204_0 (rd_L2 t196 x16_5).length c204_0) ∧ w'.cell? (ad205.add (x16_5).toNat) = some (.string (rdOf ByteArray.empty t200 x16_5)) ∧ Sem.run Try.prog (convert 22 9 (.slice A204_0 (rd_L2 t196 x16_5).length c204_0)) w' = .ok (.string (strOfNums (rd_L2 t196 x16_5))) w') (ds := []) #[false, false, false, false, false, false, false, false, false, false] (by kernel_rfl) rfl rfl ⟨hx204_0, hx205_0, Kd.C_string (P := Try.prog) (A := A204_0) (c := c204_0) Try.underlying22 Try.underlying5 Try.underlying9 (Kd.C_drew HR204_0.out)⟩ (fun hHeld => ?_); refine with_tabW terrierlaw1_PackParts.tab28 terrierlaw1_PackParts.bits28 (fun HT_ HW_ => ?_)
                                        generalize wr.drew = w59 at HO_12 HO_14 HB HR204_0 hx204_0 hx205_0 hHeld ⊢
                                        refine pure_ (i := 0) (N := some 109) (v := ?_) (a' := ?_) #[true, false, false, false, false, false, false, false, false, false] rfl rfl (any_of HT_.out (by kernel_rfl)) (fun _ _ _ h => h) (Or.inl ⟨by rfl, ?_⟩) ?_ ?_
                                        rotate_left
                                        · intro w'
                                          go_simp
                                          with_reducible rfl
                                        rotate_left
                                        · simp only [Act.put, List.setIfInBounds_toArray, List.set_cons_zero, List.set_cons_succ, i64_w, i32_w]
                                          rfl
                                        refine pure_ (i := 1) (N := some 110) (v := ?_) (a' := ?_) #[true, true, false, false, false, false, false, false, false, false] rfl rfl (any_of HT_.out (by kernel_rfl)) (fun _ _ _ h => h) (Or.inl ⟨by rfl, ?_⟩) ?_ ?_
                                        rotate_left
                                        · intro w'
                                          go_simp
                                          with_reducible rfl
                                        rotate_left
                                        · simp only [Act.put, List.setIfInBounds_toArray, List.set_cons_zero, List.set_cons_succ, i64_w, i32_w]
                                          rfl
                                        refine pure_ (i := 2) (N := some 111) (v := ?_) (a' := ?_) #[true, true, true, false, false, false, false, false, false, false] rfl rfl (any_of HT_.out (by kernel_rfl)) (fun _ _ _ h => h) (Or.inl ⟨by rfl, ?_⟩) ?_ ?_
                                        rotate_left
                                        · intro w'
                                          go_simp
                                          with_reducible rfl
                                        rotate_left
                                        · simp only [Act.put, List.setIfInBounds_toArray, List.set_cons_zero, List.set_cons_succ, i64_w, i32_w]
                                          rfl
                                        refine pure_ (i := 5) (N := some 114) (v := ?_) (a' := ?_) #[true, true, true, false, false, true, false, false, false, false] rfl rfl (any_of HT_.out (by kernel_rfl)) (fun _ _ _ h => h) (Or.inl ⟨by rfl, ?_⟩) ?_ ?_
                                        rotate_left
                                        · intro w'
                                          go_simp
                                          with_reducible rfl
                                        rotate_left
                                        · simp only [Act.put, List.setIfInBounds_toArray, List.set_cons_zero, List.set_cons_succ, i64_w, i32_w]
                                          rfl
                                        refine pure_ (i := 6) (N := some 115) (v := ?_) (a' := ?_) #[true, true, true, false, false, true, true, false, false, false] rfl rfl (any_of HT_.out (by kernel_rfl)) (fun _ _ _ h => h) (Or.inl ⟨by rfl, ?_⟩) ?_ ?_
                                        rotate_left
                                        · intro w'
                                          go_simp
                                          with_reducible rfl
                                        rotate_left
                                        · simp only [Act.put, List.setIfInBounds_toArray, List.set_cons_zero, List.set_cons_succ, i64_w, i32_w]
                                          rfl
                                        refine pure_ (i := 7) (N := some 116) (v := ?_) (a' := ?_) #[true, true, true, false, false, true, true, true, false, false] rfl rfl (any_of HT_.out (by kernel_rfl)) (fun _ _ _ h => h) (Or.inl ⟨by rfl, ?_⟩) ?_ ?_
                                        rotate_left
                                        · intro w'
                                          go_simp
                                          with_reducible rfl
                                        rotate_left
                                        · simp only [Act.put, List.setIfInBounds_toArray, List.set_cons_zero, List.set_cons_succ, i64_w, i32_w]
                                          rfl
                                        refine take_ (i := 3) (N := some 112) (v := ?_) (a' := ?_) #[true, true, true, true, false, true, true, true, false, false] rfl rfl (take_ofW HT_.out HW_.out (by kernel_rfl)) (fun _ _ _ h => h) (Or.inl ⟨by rfl, ?_⟩) hHeld ?_ ?_
                                        rotate_left
                                        · rintro w' ⟨s0, s1, s2⟩
                                          go_simp
                                          with_reducible rfl
                                        rotate_left
                                        · simp only [Act.put, List.setIfInBounds_toArray, List.set_cons_zero, List.set_cons_succ, i64_w, i32_w]
                                          rfl
                                        refine take_ (i := 4) (N := some 113) (v := ?_) (a' := ?_) #[true, true, true, true, true, true, true, true, false, false] rfl rfl (take_ofW HT_.out HW_.out (by kernel_rfl)) (fun _ _ _ h => h) (Or.inl ⟨by rfl, ?_⟩) hHeld ?_ ?_
                                        rotate_left
                                        · rintro w' ⟨s0, s1, s2⟩
                                          go_simp
                                          with_reducible rfl
                                        rotate_left
                                        · simp only [Act.put, List.setIfInBounds_toArray, List.set_cons_zero, List.set_cons_succ, i64_w, i32_w]
                                          rfl
                                        refine take_ (i := 8) (N := some 117) (v := ?_) (a' := ?_) #[true, true, true, true, true, true, true, true, true, false] rfl rfl (take_ofW HT_.out HW_.out (by kernel_rfl)) (fun _ _ _ h => h) (Or.inl ⟨by rfl, ?_⟩) hHeld ?_ ?_
                                        rotate_left
                                        · rintro w' ⟨s0, s1, s2⟩
                                          go_simp
                                          with_reducible rfl
                                        rotate_left
                                        · simp only [Act.put, List.setIfInBounds_toArray, List.set_cons_zero, List.set_cons_succ, i64_w, i32_w]
                                          rfl
                                        refine pure_ (i := 9) (N := some 118) (v := ?_) (a' := ?_) #[true, true, true, true, true, true, true, true, true, true] rfl rfl (any_of HT_.out (by kernel_rfl)) (fun _ _ _ h => h) (Or.inl ⟨by rfl, ?_⟩) ?_ ?_
                                        rotate_left
                                        · intro w'
                                          go_simp
                                          with_reducible rfl
                                        rotate_left
                                        · simp only [Act.put, List.setIfInBounds_toArray, List.set_cons_zero, List.set_cons_succ, i64_w, i32_w]
                                          rfl
                                        refine done_ (done_of HT_.out (by kernel_rfl)) ?_
                                        try go_wp2
                                        go_roundg k5
                                        case measure => have := HK1.out; have := HJ21.out; have := HK3.out; have := HJ45.out; have := HK5.out; omega
                                        case rel => exact ⟨(wrap64 (x16_5 + 1)), (by first | rfl | (simp; done) | (simp [*]; done)), H', ⟨by have := HK1.out; have := HJ21.out; have := HK3.out; have := HJ45.out; have := HK5.out; omega⟩, ⟨by (with_reducible repeat (first | apply Kd.R_alloc | apply Kd.R_drewN | apply Kd.R_drew)); exact HO_12.out⟩, ⟨by (with_reducible repeat (first | apply Kd.R_alloc | apply Kd.R_drewN | apply Kd.R_drew)); exact HO_14.out⟩, ⟨by repeat (first | (with_reducible first | exact HB.out | apply below_alloc | apply pw_below_drewN | apply below_drew1) | exact HB.out)⟩⟩
                                      · rw [if_neg c57] at H
                                        have c57b0 : ((strOfNums (rd_L2 t196 x16_5)).toList == (rdOf ByteArray.empty t200 x16_5).toList) = false := beq_eq_false_iff_ne.mpr c57
                                        have c57b1 : ((strOfNums (rd_L2 t196 x16_5)).toList != (rdOf ByteArray.empty t200 x16_5).toList) = true := bne_iff_ne.mpr c57
                                        exact absurd (Option.some.inj (H.trans (congrArg some HR.out))) (by decide)
                                    · rw [if_neg c56] at H
                                      exact absurd H (by simp)
                                  · rw [if_neg c55] at H
                                    exact absurd H (by simp)
                                · rw [if_neg c54] at H
                                  have c54b0 : decide (x16_5 < (t200.length : Int)) = false := decide_eq_false c54
                                  clear c54
                                  replace H := Option.bind_eq_some_iff.mp H
                                  obtain ⟨t206, A660, H⟩ := H
                                  replace H : (some t206) = some r := H
                                  have A66 := Aside0.mk A660
                                  clear A660
                                  obtain rfl := Option.some.inj H
                                  obtain ⟨Ao67, co67, eo67⟩ := Kd.R_slice HO_14.out
                                  subst eo67
                                  go_wp2_with (first | ((with_reducible refine gate_callee (f := 11) rfl ?_); refine goesL_ (some 119) rfl rfl Try.func11 (by kernel_rfl) rfl #[] rfl (by (try simp only [List.map_toArray, List.map_cons, List.map_nil]); first | done | rfl | (simp only [List.length_drop, List.length_take]; rfl)) ?_; (with_reducible refine (terrierlaw1_awake.calls k5  t206 _ A66.out).mono ?_); rintro e w68 ⟨rfl, hb⟩; refine ⟨_, rfl, ?_⟩; have n0_ := Aside0.mk (Kd.R_below (by (with_reducible repeat (first | apply Kd.R_alloc | apply Kd.R_drewN | apply Kd.R_drew)); exact HO_12.out) hb); have n1_ := Aside0.mk (Kd.R_below (by (with_reducible repeat (first | apply Kd.R_alloc | apply Kd.R_drewN | apply Kd.R_drew)); exact HO_14.out) hb); have n2_ := Aside0.mk (below_step (by repeat (first | (with_reducible first | exact HB.out | apply below_alloc | apply pw_below_drewN | apply below_drew1) | exact HB.out)) hb); clear HO_12; clear HO_14; clear HB; have HO_12 := n0_; have HO_14 := n1_; have HB := n2_; clear n0_ n1_ n2_; (try clear hb); (try clear hb2); (try clear hk); (try clear hi)))
                                  go_ret
                                  exact ⟨by first | rfl | (simp [errW_none, errW_some] <;> rfl) | (simp [*, errW_none, errW_some] <;> rfl), by repeat (first | (with_reducible first | exact HB.out | apply below_alloc | apply pw_below_drewN | apply below_drew1) | exact HB.out)⟩
        · rw [if_neg c20] at H
          have c20b0 : ((strOfNums t186).toList == t189.toList) = false := beq_eq_false_iff_ne.mpr c20
          have c20b1 : ((strOfNums t186).toList != t189.toList) = true := bne_iff_ne.mpr c20
          exact absurd (Option.some.inj (H.trans (congrArg some HR.out))) (by decide)
end Go.Proofs.Ytgjgandkcmjbnaa.PB
