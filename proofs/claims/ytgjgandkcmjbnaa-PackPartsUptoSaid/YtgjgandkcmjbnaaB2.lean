/- Proved: what CRC of the package pack tells, by its walk; no condition. -/
import Derived.Test.YtgjgandkcmjbnaaB0
namespace Go.Proofs.Ytgjgandkcmjbnaa.PB
open Go.RowKit Go.Proofs.YtgjgandkcmjbnaaW.PrintWords Go.Proofs.YtgjgandkcmjbnaaW.PrintLast Go.Proofs.YtgjgandkcmjbnaaW.PrintMore
attribute [local go_sem] max2_int min2_int max_two min_two max_three min_three max_four min_four   -- for this text's walks alone
set_option linter.unusedVariables false
set_option linter.unusedSimpArgs false

/-! ### pack_CRC: function 10 -/
mutual
def pack_CRC.l0 : Nat → List Int → List Int → Int → Option (Int)
  | 0, _, _, _ => none
  | k + 1, x0, x3, x10 => if x10 < 16 then (pack_CRC.l1 k x0 x3 x10 ((x10) % 4294967296) x10 0) else (pack_CRC.l2 k x3 4294967295 x0 (x0.length : Int) 0)
def pack_CRC.l1 : Nat → List Int → List Int → Int → Int → Int → Int → Option (Int)
  | 0, _, _, _, _, _, _ => none
  | k + 1, x0, x3, x4, x5, x10, x15 => if x15 < 4 then (pack_CRC.l1 k x0 x3 x4 (Go.bits .xor .u32 (x5 / 2) (Go.bits .and .u32 3988292384 ((-(Go.bits .and .u32 x5 1)) % 4294967296))) x10 (wrap64 (x15 + 1))) else (if 0 ≤ x4 then (if x4 < (x3.length : Int) then (pack_CRC.l0 k x0 (x3.set (x4 : Int).toNat x5) (wrap64 (x10 + 1))) else (none)) else (none))
def pack_CRC.l2 : Nat → List Int → Int → List Int → Int → Int → Option (Int)
  | 0, _, _, _, _, _ => none
  | k + 1, x3, x6, x30, x31, x32 => if x32 < x31 then (if 0 ≤ x32 then (if x32 < (x30.length : Int) then (if 0 ≤ (Go.bits .and .u32 (Go.bits .xor .u32 x6 ((rd x30 x32) % 4294967296)) 15) then (if (Go.bits .and .u32 (Go.bits .xor .u32 x6 ((rd x30 x32) % 4294967296)) 15) < (x3.length : Int) then (if 0 ≤ (Go.bits .and .u32 (Go.bits .xor .u32 ((Go.bits .xor .u32 x6 ((rd x30 x32) % 4294967296)) / 16) (rd x3 (Go.bits .and .u32 (Go.bits .xor .u32 x6 ((rd x30 x32) % 4294967296)) 15))) 15) then (if (Go.bits .and .u32 (Go.bits .xor .u32 ((Go.bits .xor .u32 x6 ((rd x30 x32) % 4294967296)) / 16) (rd x3 (Go.bits .and .u32 (Go.bits .xor .u32 x6 ((rd x30 x32) % 4294967296)) 15))) 15) < (x3.length : Int) then (pack_CRC.l2 k x3 (Go.bits .xor .u32 ((Go.bits .xor .u32 ((Go.bits .xor .u32 x6 ((rd x30 x32) % 4294967296)) / 16) (rd x3 (Go.bits .and .u32 (Go.bits .xor .u32 x6 ((rd x30 x32) % 4294967296)) 15))) / 16) (rd x3 (Go.bits .and .u32 (Go.bits .xor .u32 ((Go.bits .xor .u32 x6 ((rd x30 x32) % 4294967296)) / 16) (rd x3 (Go.bits .and .u32 (Go.bits .xor .u32 x6 ((rd x30 x32) % 4294967296)) 15))) 15))) x30 x31 (wrap64 (x32 + 1))) else (none)) else (none)) else (none)) else (none)) else (none)) else (none)) else (some (Go.bits .xor .u32 4294967295 x6))
end
def pack_CRC.f (k : Nat) (l0 : List Int) : Option (Int) := if 16 ≤ 70368744177664 then (pack_CRC.l0 k l0 (List.replicate 16 0) 0) else (none)
theorem pack_CRC.mono_l : ∀ k, (∀ y0 y1 y2, LeO (pack_CRC.l0 k y0 y1 y2) (pack_CRC.l0 (k + 1) y0 y1 y2)) ∧ (∀ y0 y1 y2 y3 y4 y5, LeO (pack_CRC.l1 k y0 y1 y2 y3 y4 y5) (pack_CRC.l1 (k + 1) y0 y1 y2 y3 y4 y5)) ∧ (∀ y0 y1 y2 y3 y4, LeO (pack_CRC.l2 k y0 y1 y2 y3 y4) (pack_CRC.l2 (k + 1) y0 y1 y2 y3 y4))
  | 0 => ⟨fun _ _ _ r h => by simp [pack_CRC.l0] at h, fun _ _ _ _ _ _ r h => by simp [pack_CRC.l1] at h, fun _ _ _ _ _ r h => by simp [pack_CRC.l2] at h⟩
  | k + 1 => by
    obtain ⟨ih0, ih1, ih2⟩ := pack_CRC.mono_l k
    refine ⟨?_, ?_, ?_⟩
    · intro y0 y1 y2
      unfold pack_CRC.l0
      repeat' first
      | (with_reducible exact ih0 _ _ _)
      | (with_reducible exact ih1 _ _ _ _ _ _)
      | (with_reducible exact ih2 _ _ _ _ _)
      | (with_reducible exact LeO.refl _)
      | (with_reducible exact LeO.none _)
      | (with_reducible refine LeO.ite ?_ ?_)
      | (with_reducible refine LeO.bind ?_ (fun _ => ?_))
      | exact ih0 _ _ _
      | exact ih1 _ _ _ _ _ _
      | exact ih2 _ _ _ _ _
      | exact LeO.none _
      | refine LeO.ite ?_ ?_
      | refine LeO.bind ?_ (fun _ => ?_)
    · intro y0 y1 y2 y3 y4 y5
      unfold pack_CRC.l1
      repeat' first
      | (with_reducible exact ih0 _ _ _)
      | (with_reducible exact ih1 _ _ _ _ _ _)
      | (with_reducible exact ih2 _ _ _ _ _)
      | (with_reducible exact LeO.refl _)
      | (with_reducible exact LeO.none _)
      | (with_reducible refine LeO.ite ?_ ?_)
      | (with_reducible refine LeO.bind ?_ (fun _ => ?_))
      | exact ih0 _ _ _
      | exact ih1 _ _ _ _ _ _
      | exact ih2 _ _ _ _ _
      | exact LeO.none _
      | refine LeO.ite ?_ ?_
      | refine LeO.bind ?_ (fun _ => ?_)
    · intro y0 y1 y2 y3 y4
      unfold pack_CRC.l2
      repeat' first
      | (with_reducible exact ih0 _ _ _)
      | (with_reducible exact ih1 _ _ _ _ _ _)
      | (with_reducible exact ih2 _ _ _ _ _)
      | (with_reducible exact LeO.refl _)
      | (with_reducible exact LeO.none _)
      | (with_reducible refine LeO.ite ?_ ?_)
      | (with_reducible refine LeO.bind ?_ (fun _ => ?_))
      | exact ih0 _ _ _
      | exact ih1 _ _ _ _ _ _
      | exact ih2 _ _ _ _ _
      | exact LeO.none _
      | refine LeO.ite ?_ ?_
      | refine LeO.bind ?_ (fun _ => ?_)
theorem pack_CRC.mono : ∀ a0 k, LeO (pack_CRC.f k a0) (pack_CRC.f (k + 1) a0) := by
  intro a0 k
  obtain ⟨ih0, ih1, ih2⟩ := pack_CRC.mono_l k
  unfold pack_CRC.f
  repeat' first
      | (with_reducible exact ih0 _ _ _)
      | (with_reducible exact ih1 _ _ _ _ _ _)
      | (with_reducible exact ih2 _ _ _ _ _)
      | (with_reducible exact LeO.refl _)
      | (with_reducible exact LeO.none _)
      | (with_reducible refine LeO.ite ?_ ?_)
      | (with_reducible refine LeO.bind ?_ (fun _ => ?_))
      | exact ih0 _ _ _
      | exact ih1 _ _ _ _ _ _
      | exact ih2 _ _ _ _ _
      | exact LeO.none _
      | refine LeO.ite ?_ ?_
      | refine LeO.bind ?_ (fun _ => ?_)
set_option maxHeartbeats 8000000 in
set_option maxRecDepth 100000 in
theorem pack_CRC.calls (k : Nat) (A0 : Option Addr) (c0 : Nat) (l0 : List Int) (r : Int) (w : World) (hr0 : Kd.C (Kd.int .u8) w A0 l0.length l0) (hc0 : l0.length ≤ c0) (h : pack_CRC.f k l0 = some r) :
    Calls Try.prog 10 #[.slice A0 l0.length c0] w fun e w' => e = .returned (.int .u32 r) ∧ Below w.heap.size w w' := by
  have HR0 := Aside0.mk hr0
  have HC0 := Aside0.mk hc0
  clear hr0 hc0
  have HB := Aside0.mk (Below.refl w.heap.size w)
  have H : (if 16 ≤ 70368744177664 then (pack_CRC.l0 k l0 (List.replicate 16 0) 0) else (none)) = some r := h
  clear h
  by_cases c2 : 16 ≤ 70368744177664
  · rw [if_pos c2] at H
    have c2b0 := eq_true c2
    have c2b1 : decide (16 ≤ 70368744177664) = true := decide_eq_true c2
    clear c2
    obtain ⟨y101, hy101⟩ : ∃ y_ : List Int, y_ = (List.replicate 16 0) := ⟨_, rfl⟩
    replace H : (pack_CRC.l0 k l0 y101 0) = some r := by first | (rw [hy101]; with_reducible exact H) | (have H2_ := (Option.bind_some _ _).symm.trans H; rw [hy101]; with_reducible exact H2_) | (have H2_ := (Option.bind_some _ _).symm.trans H; with_reducible exact H2_) | with_reducible exact H | (rw [hy101]; exact H) | exact H
    have Ny101 := Aside0.mk hy101
    clear hy101
    have H' := Aside0.mk H
    clear H
    go_enter Try.func10, Try.ntmps10
    have hun := unXor
    go_wp2_with (first | ((with_reducible refine gate_dst (N := 3) rfl ?_); refine box_event ?hg (N := 3) ?hd (cs := #[.int .u32 0, .int .u32 0, .int .u32 0, .int .u32 0, .int .u32 0, .int .u32 0, .int .u32 0, .int .u32 0, .int .u32 0, .int .u32 0, .int .u32 0, .int .u32 0, .int .u32 0, .int .u32 0, .int .u32 0, .int .u32 0]) (t := 65) ?hr ?_; (case hd => rfl); (case hg => rfl); (case hr => first | (go_simp; done) | (go_simp; rfl)); intro gt hg w3 hbox hb; have hsz_ : w.heap.size ≤ gt := (by rw [hg]; exact Nat.le_refl _); have n0_ := Aside0.mk (tab_new hbox hsz_); rw [← Ny101.out] at n0_; have n1_ := Aside0.mk (below_step HB.out hb); clear HB; have HO103 := n0_; have HB := n1_; clear n0_ n1_; clear hb hbox hg; have HT := Aside0.mk hsz_; clear hsz_))
    have HL0 : Aside0 (y101.length = 16) := ⟨by rw [Ny101.out]; rfl⟩
    go_loopg [9] k (fun kq v10 w' => ∃ (x3_1 : List Int) (x10_1 : Int), v10 = .int .i64 x10_1 ∧ Aside0 (pack_CRC.l0 kq l0 x3_1 x10_1 = some r) ∧ Aside0 (kq ≤ k) ∧ Aside0 (Kd.R (Kd.int .u32) 65 w' w.heap.size (fun _ => True) (.slice (some ⟨gt, 0, none⟩) x3_1.length 16) x3_1) ∧ Aside0 (x3_1.length = 16) ∧ Aside0 (Below w.heap.size w w'))
    case atStart => exact ⟨(y101), (0), (by first | rfl | (simp; done) | (simp [*]; done)), H', ⟨Nat.le_refl _⟩, ⟨by (with_reducible repeat (first | apply Kd.R_alloc | apply Kd.R_drewN | apply Kd.R_drew)); exact HO103.out⟩, HL0, ⟨by repeat (first | (with_reducible first | exact HB.out | apply below_alloc | apply pw_below_drewN | apply below_drew1) | exact HB.out)⟩⟩
    case round =>
      clear H'
      try clear c1
      try clear c2
      try clear c2b0
      try clear c2b1
      try clear p2
      obtain ⟨x3_1, x10_1, rfl, HA, HK1, HO_3, HL, HB⟩ := hrel
      cases gk with
      | zero => exact absurd HA.out (by simp [pack_CRC.l0])
      | succ k1 =>
        have H := HA.out
        clear HA
        simp only [pack_CRC.l0] at H
        by_cases c5 : x10_1 < 16
        · rw [if_pos c5] at H
          have c5b0 : decide (x10_1 < 16) = true := decide_eq_true c5
          clear c5
          have H' := Aside0.mk H
          clear H
          go_wp2
          go_loopg [5, 14] k1 (fun kq v5 v15 w' => ∃ (x5_2 : Int) (x15_2 : Int), v5 = .int .u32 x5_2 ∧ v15 = .int .i64 x15_2 ∧ Aside0 (pack_CRC.l1 kq l0 x3_1 x10_1 x5_2 x10_1 x15_2 = some r) ∧ Aside0 (kq ≤ k1) ∧ Aside0 (Kd.R (Kd.int .u32) 65 w' w.heap.size (fun _ => True) (.slice (some ⟨gt, 0, none⟩) x3_1.length 16) x3_1) ∧ Aside0 (x3_1.length = 16) ∧ Aside0 (Below w.heap.size w w'))
          case atStart => exact ⟨((x10_1) % 4294967296), (0), (by first | rfl | (simp; done) | (simp [*]; done)), (by first | rfl | (simp; done) | (simp [*]; done)), H', ⟨Nat.le_refl _⟩, ⟨by (with_reducible repeat (first | apply Kd.R_alloc | apply Kd.R_drewN | apply Kd.R_drew)); exact HO_3.out⟩, HL, ⟨by repeat (first | (with_reducible first | exact HB.out | apply below_alloc | apply pw_below_drewN | apply below_drew1) | exact HB.out)⟩⟩
          case round =>
            clear H'
            try clear c1
            try clear c2
            try clear c2b0
            try clear c2b1
            try clear p2
            try clear c5
            try clear c5b0
            try clear p2
            obtain ⟨x5_2, x15_2, rfl, rfl, HA, HK2, HO_3, HL, HB⟩ := hrel
            cases gk with
            | zero => exact absurd HA.out (by simp [pack_CRC.l1])
            | succ k2 =>
              have H := HA.out
              clear HA
              simp only [pack_CRC.l1] at H
              by_cases c6 : x15_2 < 4
              · rw [if_pos c6] at H
                have c6b0 : decide (x15_2 < 4) = true := decide_eq_true c6
                clear c6
                have H' := Aside0.mk H
                clear H
                go_wp2
                go_roundg k2
                case measure => have := HK1.out; have := HK2.out; omega
                case rel => exact ⟨(Go.bits .xor .u32 (x5_2 / 2) (Go.bits .and .u32 3988292384 ((-(Go.bits .and .u32 x5_2 1)) % 4294967296))), (wrap64 (x15_2 + 1)), (by first | rfl | (simp; done) | (simp [*]; done)), (by first | rfl | (simp; done) | (simp [*]; done)), H', ⟨by have := HK1.out; have := HK2.out; omega⟩, ⟨by (with_reducible repeat (first | apply Kd.R_alloc | apply Kd.R_drewN | apply Kd.R_drew)); exact HO_3.out⟩, HL, ⟨by repeat (first | (with_reducible first | exact HB.out | apply below_alloc | apply pw_below_drewN | apply below_drew1) | exact HB.out)⟩⟩
              · rw [if_neg c6] at H
                have c6b0 : decide (x15_2 < 4) = false := decide_eq_false c6
                clear c6
                by_cases c7 : 0 ≤ x10_1
                · rw [if_pos c7] at H
                  have c7b0 : decide (0 ≤ x10_1) = true := decide_eq_true c7
                  clear c7
                  by_cases c8 : x10_1 < (x3_1.length : Int)
                  · rw [if_pos c8] at H
                    have c8b0 : decide (x10_1 < (x3_1.length : Int)) = true := decide_eq_true c8
                    clear c8
                    obtain ⟨y104, hy104⟩ : ∃ y_ : List Int, y_ = (x3_1.set (x10_1 : Int).toNat x5_2) := ⟨_, rfl⟩
                    replace H : (pack_CRC.l0 k2 l0 y104 (wrap64 (x10_1 + 1))) = some r := by first | (rw [hy104]; with_reducible exact H) | (have H2_ := (Option.bind_some _ _).symm.trans H; rw [hy104]; with_reducible exact H2_) | (have H2_ := (Option.bind_some _ _).symm.trans H; with_reducible exact H2_) | with_reducible exact H | (rw [hy104]; exact H) | exact H
                    have Ny104 := Aside0.mk hy104
                    clear hy104
                    have H' := Aside0.mk H
                    clear H
                    have p9 : 0 ≤ (x10_1 : Int) := of_decide_eq_true (by first | (with_reducible assumption) | assumption)
                    have q9 : (x10_1 : Int) < ((x3_1.length : Int) : Int) := of_decide_eq_true (by first | (with_reducible assumption) | assumption)
                    obtain ⟨go9, co9, eo9, gb9, gl9, cl9, HG9⟩ := Kd.R_form HO_3.out (by omega)
                    have q9' : x10_1 < 16 := by have := HL.out; omega
                    obtain rfl : gt = go9 := by injection eo9 with ea_; injection ea_ with ea_; injection ea_
                    obtain rfl : co9 = 16 := by injection eo9 with _ _ ec_; exact ec_.symm
                    clear eo9
                    have GB9 := Aside0.mk gb9
                    have GG9 := Aside0.mk HG9
                    clear gb9 gl9 HG9
                    obtain ⟨hx9_0, hf9_0⟩ := Kd.R_celln 0 HO_3.out (x10_1 : Int) p9 q9
                    replace p9 := eq_true p9
                    replace q9 := eq_true q9
                    have HP10 := Kd.R_putg HO_3.out (x10_1 : Int) x5_2
                    have e_ : y104.length = x3_1.length := by rw [Ny104.out, List.length_set]
                    have n0_ : Aside0 (Kd.R (Kd.int .u32) 65 (wr.setCell ⟨gt, (x10_1 : Int).toNat, none⟩ (.int .u32 x5_2)) w.heap.size (fun _ => True) (.slice (some ⟨gt, 0, none⟩) y104.length 16) y104) := ⟨by rw [e_, Ny104.out]; exact HP10.1⟩
                    have n1_ : Aside0 (Below w.heap.size w (wr.setCell ⟨gt, (x10_1 : Int).toNat, none⟩ (.int .u32 x5_2))) := ⟨below_set (HB.out) GB9.out⟩
                    have n2_ : Aside0 (y104.length = 16) := ⟨e_.trans HL.out⟩
                    clear HO_3 HB HL HP10 e_
                    have HO_3 := n0_
                    have HB := n1_
                    have HL := n2_
                    clear n0_ n1_ n2_
                    go_wp2
                    go_roundg k2
                    case measure => have := HK1.out; have := HK2.out; omega
                    case rel => exact ⟨(y104), (wrap64 (x10_1 + 1)), (by first | rfl | (simp; done) | (simp [*]; done)), H', ⟨by have := HK1.out; have := HK2.out; omega⟩, ⟨by (with_reducible repeat (first | apply Kd.R_alloc | apply Kd.R_drewN | apply Kd.R_drew)); exact HO_3.out⟩, HL, ⟨by repeat (first | (with_reducible first | exact HB.out | apply below_alloc | apply pw_below_drewN | apply below_drew1) | exact HB.out)⟩⟩
                  · rw [if_neg c8] at H
                    exact absurd H (by simp)
                · rw [if_neg c7] at H
                  exact absurd H (by simp)
        · rw [if_neg c5] at H
          have c5b0 : decide (x10_1 < 16) = false := decide_eq_false c5
          clear c5
          have H' := Aside0.mk H
          clear H
          go_wp2
          go_loopg [6, 30] k1 (fun kq v6 v32 w' => ∃ (x6_2 : Int) (x32_2 : Int), v6 = .int .u32 x6_2 ∧ v32 = .int .i64 x32_2 ∧ Aside0 (pack_CRC.l2 kq x3_1 x6_2 l0 (l0.length : Int) x32_2 = some r) ∧ Aside0 (kq ≤ k1) ∧ Aside0 (Kd.R (Kd.int .u32) 65 w' w.heap.size (fun _ => True) (.slice (some ⟨gt, 0, none⟩) x3_1.length 16) x3_1) ∧ Aside0 (x3_1.length = 16) ∧ Aside0 (Below w.heap.size w w'))
          case atStart => exact ⟨(4294967295), (0), (by first | rfl | (simp; done) | (simp [*]; done)), (by first | rfl | (simp; done) | (simp [*]; done)), H', ⟨Nat.le_refl _⟩, ⟨by (with_reducible repeat (first | apply Kd.R_alloc | apply Kd.R_drewN | apply Kd.R_drew)); exact HO_3.out⟩, HL, ⟨by repeat (first | (with_reducible first | exact HB.out | apply below_alloc | apply pw_below_drewN | apply below_drew1) | exact HB.out)⟩⟩
          case round =>
            clear H'
            try clear c1
            try clear c2
            try clear c2b0
            try clear c2b1
            try clear p2
            try clear c5
            try clear c5b0
            try clear c6
            try clear c6b0
            try clear p6
            try clear c7
            try clear c7b0
            try clear c8
            try clear c8b0
            try clear p9
            try clear q9
            try clear hx9
            try clear hf9
            try clear c10
            try clear hx9_0
            try clear p2
            try clear p9
            try clear q9
            obtain ⟨x6_2, x32_2, rfl, rfl, HA, HK2, HO_3, HL, HB⟩ := hrel
            cases gk with
            | zero => exact absurd HA.out (by simp [pack_CRC.l2])
            | succ k2 =>
              have H := HA.out
              clear HA
              simp only [pack_CRC.l2] at H
              by_cases c12 : x32_2 < (l0.length : Int)
              · rw [if_pos c12] at H
                have c12b0 : decide (x32_2 < (l0.length : Int)) = true := decide_eq_true c12
                clear c12
                by_cases c13 : 0 ≤ x32_2
                · rw [if_pos c13] at H
                  have c13b0 : decide (0 ≤ x32_2) = true := decide_eq_true c13
                  clear c13
                  by_cases c14 : x32_2 < (l0.length : Int)
                  · rw [if_pos c14] at H
                    have c14b0 : decide (x32_2 < (l0.length : Int)) = true := decide_eq_true c14
                    clear c14
                    obtain ⟨ji15, hji15⟩ : ∃ j_ : Int, (Go.bits .and .u32 (Go.bits .xor .u32 x6_2 ((rd l0 x32_2) % 4294967296)) 15) = j_ := ⟨_, rfl⟩
                    replace H : (if 0 ≤ (ji15) then (if (ji15) < (x3_1.length : Int) then (if 0 ≤ (Go.bits .and .u32 (Go.bits .xor .u32 ((Go.bits .xor .u32 x6_2 ((rd l0 x32_2) % 4294967296)) / 16) (rd x3_1 (ji15))) 15) then (if (Go.bits .and .u32 (Go.bits .xor .u32 ((Go.bits .xor .u32 x6_2 ((rd l0 x32_2) % 4294967296)) / 16) (rd x3_1 (ji15))) 15) < (x3_1.length : Int) then (pack_CRC.l2 k2 x3_1 (Go.bits .xor .u32 ((Go.bits .xor .u32 ((Go.bits .xor .u32 x6_2 ((rd l0 x32_2) % 4294967296)) / 16) (rd x3_1 (ji15))) / 16) (rd x3_1 (Go.bits .and .u32 (Go.bits .xor .u32 ((Go.bits .xor .u32 x6_2 ((rd l0 x32_2) % 4294967296)) / 16) (rd x3_1 (ji15))) 15))) l0 (l0.length : Int) (wrap64 (x32_2 + 1))) else (none)) else (none)) else (none)) else (none)) = some r := by first | (rw [hji15] at H; exact H) | (simp only [hji15] at H ⊢; exact H)
                    by_cases c16 : 0 ≤ (ji15)
                    · rw [if_pos c16] at H
                      have c16b0 : decide (0 ≤ (ji15)) = true := decide_eq_true c16
                      clear c16
                      by_cases c17 : (ji15) < (x3_1.length : Int)
                      · rw [if_pos c17] at H
                        have c17b0 : decide ((ji15) < (x3_1.length : Int)) = true := decide_eq_true c17
                        clear c17
                        obtain ⟨ji18, hji18⟩ : ∃ j_ : Int, (Go.bits .and .u32 (Go.bits .xor .u32 ((Go.bits .xor .u32 x6_2 ((rd l0 x32_2) % 4294967296)) / 16) (rd x3_1 (ji15))) 15) = j_ := ⟨_, rfl⟩
                        replace H : (if 0 ≤ (ji18) then (if (ji18) < (x3_1.length : Int) then (pack_CRC.l2 k2 x3_1 (Go.bits .xor .u32 ((Go.bits .xor .u32 ((Go.bits .xor .u32 x6_2 ((rd l0 x32_2) % 4294967296)) / 16) (rd x3_1 (ji15))) / 16) (rd x3_1 (ji18))) l0 (l0.length : Int) (wrap64 (x32_2 + 1))) else (none)) else (none)) = some r := by first | (rw [hji18] at H; exact H) | (simp only [hji18] at H ⊢; exact H)
                        by_cases c19 : 0 ≤ (ji18)
                        · rw [if_pos c19] at H
                          have c19b0 : decide (0 ≤ (ji18)) = true := decide_eq_true c19
                          clear c19
                          by_cases c20 : (ji18) < (x3_1.length : Int)
                          · rw [if_pos c20] at H
                            have c20b0 : decide ((ji18) < (x3_1.length : Int)) = true := decide_eq_true c20
                            clear c20
                            have H' := Aside0.mk H
                            clear H
                            have p105 : 0 ≤ (x32_2 : Int) := of_decide_eq_true (by first | (with_reducible assumption) | assumption)
                            have q105 : x32_2 < (l0.length : Int) := of_decide_eq_true (by first | (with_reducible assumption) | assumption)
                            obtain ⟨ad105, e105, hx105_0⟩ := Kd.at_int HR0.out x32_2 p105 q105
                            cases e105
                            replace hx105_0 := (HB.out.cell (World.block_lt_of_cell? w _ hx105_0)).trans hx105_0
                            replace p105 := eq_true p105
                            replace q105 := eq_true q105
                            have q106' : ji15 < 16 := by have h_ : ji15 < (x3_1.length : Int) := of_decide_eq_true (by assumption); have := HL.out; omega
                            have q107' : ji18 < 16 := by have h_ : ji18 < (x3_1.length : Int) := of_decide_eq_true (by assumption); have := HL.out; omega
                            have p106 : 0 ≤ ((ji15) : Int) := of_decide_eq_true (by first | (with_reducible assumption) | assumption)
                            have q106 : (ji15) < (x3_1.length : Int) := of_decide_eq_true (by first | (with_reducible assumption) | assumption)
                            obtain ⟨ad106, e106, hx106_0⟩ := Kd.at_int (Kd.R_reads' HO_3.out).2.2 (ji15) p106 q106
                            cases e106
                            rw [addr0] at hx106_0
                            replace p106 := eq_true p106
                            replace q106 := eq_true q106
                            have p107 : 0 ≤ ((ji18) : Int) := of_decide_eq_true (by first | (with_reducible assumption) | assumption)
                            have q107 : (ji18) < (x3_1.length : Int) := of_decide_eq_true (by first | (with_reducible assumption) | assumption)
                            obtain ⟨ad107, e107, hx107_0⟩ := Kd.at_int (Kd.R_reads' HO_3.out).2.2 (ji18) p107 q107
                            cases e107
                            rw [addr0] at hx107_0
                            replace p107 := eq_true p107
                            replace q107 := eq_true q107
                            go_wp2
                            go_roundg k2
                            case measure => have := HK1.out; have := HK2.out; omega
                            case rel => exact ⟨(Go.bits .xor .u32 ((Go.bits .xor .u32 ((Go.bits .xor .u32 x6_2 ((rd l0 x32_2) % 4294967296)) / 16) (rd x3_1 (ji15))) / 16) (rd x3_1 (ji18))), (wrap64 (x32_2 + 1)), (by first | rfl | (simp; done) | (simp only [← hji15, ← hji18] <;> (first | rfl | simp)) | (simp [*]; done)), (by first | rfl | (simp; done) | (simp [*]; done)), H', ⟨by have := HK1.out; have := HK2.out; omega⟩, ⟨by (with_reducible repeat (first | apply Kd.R_alloc | apply Kd.R_drewN | apply Kd.R_drew)); exact HO_3.out⟩, HL, ⟨by repeat (first | (with_reducible first | exact HB.out | apply below_alloc | apply pw_below_drewN | apply below_drew1) | exact HB.out)⟩⟩
                          · rw [if_neg c20] at H
                            exact absurd H (by simp)
                        · rw [if_neg c19] at H
                          exact absurd H (by simp)
                      · rw [if_neg c17] at H
                        exact absurd H (by simp)
                    · rw [if_neg c16] at H
                      exact absurd H (by simp)
                  · rw [if_neg c14] at H
                    exact absurd H (by simp)
                · rw [if_neg c13] at H
                  exact absurd H (by simp)
              · rw [if_neg c12] at H
                have c12b0 : decide (x32_2 < (l0.length : Int)) = false := decide_eq_false c12
                clear c12
                obtain rfl := Option.some.inj H
                go_wp2
                go_ret
                exact ⟨by first | rfl | (simp [errW_none, errW_some] <;> rfl) | (simp [*, errW_none, errW_some] <;> rfl), by repeat (first | (with_reducible first | exact HB.out | apply below_alloc | apply pw_below_drewN | apply below_drew1) | exact HB.out)⟩
  · rw [if_neg c2] at H
    exact absurd H (by simp)
end Go.Proofs.Ytgjgandkcmjbnaa.PB
