/- Proved: what the law's function TurnRounds tells; printed of a plain twin. -/
import Derived.Test.YtojdmloimmcacaaPTurnRoundsx0
import Derived.Test.YtojdmloimmcacaaPTurnRoundsx2
import Derived.Test.YtojdmloimmcacaaPTurnRoundsx3
import Derived.Test.YtojdmloimmcacaaTC
import Derived.Test.YtojdmloimmcacaaTN
import Derived.Test.YtojdmloimmcacaaTuAw
namespace Go.Proofs.Ytojdmloimmcacaa.PTurnRounds
open Go.RowKit Go.Proofs.YtojdmloimmcacaaW.PrintWords Go.Proofs.YtojdmloimmcacaaW.PrintLast Go.Proofs.YtojdmloimmcacaaW.PrintMore
attribute [local go_sem] max2_int min2_int max_two min_two max_three min_three max_four min_four
set_option linter.unusedVariables false
set_option linter.unusedSimpArgs false

/-! ### terrierlaw11_TurnRounds: function 4 -/
mutual
def terrierlaw11_TurnRounds.l0 : Nat → Int → List (S36) → List (S36) → List Int → Int → Option (Bool)
  | 0, _, _, _, _, _ => none
  | k + 1, x0, x3, x4, x5, x6 => if x6 < 16 then (if 0 ≤ (Int.tmod (wrap64 ((wrap64 (x6 * 7)) + (Go.bits .and .i64 (x0 / 65536) 15))) 16) then (if (Go.bits .and .i64 (shr .i64 x0 (Int.tmod (wrap64 ((wrap64 (x6 * 7)) + (Go.bits .and .i64 (x0 / 65536) 15))) 16)) 1) = 1 then (if (Int.tmod (wrap64 ((wrap64 (x6 * 7)) + (Go.bits .and .i64 (x0 / 65536) 15))) 16) < (x4.length : Int) then (if x3.length < 8796093022208 then (if x5.length < 17592186044416 then (terrierlaw11_TurnRounds.l0 k x0 (x3 ++ [(⟨(rd_T36 x4 (Int.tmod (wrap64 ((wrap64 (x6 * 7)) + (Go.bits .and .i64 (x0 / 65536) 15))) 16)).f0, (rd_T36 x4 (Int.tmod (wrap64 ((wrap64 (x6 * 7)) + (Go.bits .and .i64 (x0 / 65536) 15))) 16)).f1⟩ : S36)]) x4 (x5 ++ [Int.tmod (wrap64 ((wrap64 (x6 * 7)) + (Go.bits .and .i64 (x0 / 65536) 15))) 16]) (wrap64 (x6 + 1))) else (none)) else (none)) else (none)) else (terrierlaw11_TurnRounds.l0 k x0 x3 x4 x5 (wrap64 (x6 + 1)))) else (none)) else (terrierlaw11_TurnRounds.l1 k x3 x5 0)
def terrierlaw11_TurnRounds.l1 : Nat → List (S36) → List Int → Int → Option (Bool)
  | 0, _, _, _ => none
  | k + 1, x3, x5, x8 => if x8 < (x3.length : Int) then (terrierlaw11_TurnRounds.l2 k x3 x5 x8 x8 x8 0) else ((terrierlaw11_awake.f k).bind fun t204 => (some t204))
def terrierlaw11_TurnRounds.l2 : Nat → List (S36) → List Int → Int → Int → Int → Int → Option (Bool)
  | 0, _, _, _, _, _, _ => none
  | k + 1, x3, x5, x8, x9, x10, x11 => if x11 < (x3.length : Int) then (if x11 = x8 then (terrierlaw11_TurnRounds.l2 k x3 x5 x8 x9 x10 (wrap64 (x11 + 1))) else (if 0 ≤ x11 then (if x11 < (x5.length : Int) then (if 0 ≤ x8 then (if x8 < (x5.length : Int) then (if 0 ≤ x9 then (if x9 < (x5.length : Int) then (if x9 = x8 then (terrierlaw11_TurnRounds.j3 k x3 x5 x8 x9 x10 x11 true) else (terrierlaw11_TurnRounds.j3 k x3 x5 x8 x9 x10 x11 (decide ((Int.tmod (wrap64 ((wrap64 ((rd x5 x11) - (rd x5 x8))) + 16)) 16) < (Int.tmod (wrap64 ((wrap64 ((rd x5 x9) - (rd x5 x8))) + 16)) 16))))) else (none)) else (none)) else (none)) else (none)) else (none)) else (none))) else ((turn_Next.f k x3 x8).bind fun t217 => (if t217 = x9 then ((turn_Prev.f k x3 x8).bind fun t218 => (if t218 = x10 then (terrierlaw11_TurnRounds.l1 k x3 x5 (wrap64 (x8 + 1))) else (some false))) else (some false)))
def terrierlaw11_TurnRounds.j3 : Nat → List (S36) → List Int → Int → Int → Int → Int → Bool → Option (Bool)
  | 0, _, _, _, _, _, _, _ => none
  | k + 1, x3, x5, x8, x9, x10, x11, x106 => if x106 = true then (if 0 ≤ x8 then (if x8 < (x5.length : Int) then (if 0 ≤ x11 then (if x11 < (x5.length : Int) then (if 0 ≤ x10 then (if x10 < (x5.length : Int) then (if x10 = x8 then (terrierlaw11_TurnRounds.l2 k x3 x5 x8 x11 x11 (wrap64 (x11 + 1))) else (if (Int.tmod (wrap64 ((wrap64 ((rd x5 x8) - (rd x5 x11))) + 16)) 16) < (Int.tmod (wrap64 ((wrap64 ((rd x5 x8) - (rd x5 x10))) + 16)) 16) then (terrierlaw11_TurnRounds.l2 k x3 x5 x8 x11 x11 (wrap64 (x11 + 1))) else (terrierlaw11_TurnRounds.l2 k x3 x5 x8 x11 x10 (wrap64 (x11 + 1))))) else (none)) else (none)) else (none)) else (none)) else (none)) else (none)) else (if 0 ≤ x8 then (if x8 < (x5.length : Int) then (if 0 ≤ x11 then (if x11 < (x5.length : Int) then (if 0 ≤ x10 then (if x10 < (x5.length : Int) then (if x10 = x8 then (terrierlaw11_TurnRounds.l2 k x3 x5 x8 x9 x11 (wrap64 (x11 + 1))) else (if (Int.tmod (wrap64 ((wrap64 ((rd x5 x8) - (rd x5 x11))) + 16)) 16) < (Int.tmod (wrap64 ((wrap64 ((rd x5 x8) - (rd x5 x10))) + 16)) 16) then (terrierlaw11_TurnRounds.l2 k x3 x5 x8 x9 x11 (wrap64 (x11 + 1))) else (terrierlaw11_TurnRounds.l2 k x3 x5 x8 x9 x10 (wrap64 (x11 + 1))))) else (none)) else (none)) else (none)) else (none)) else (none)) else (none))
end
def terrierlaw11_TurnRounds.f (k : Nat) (a0 : Int) : Option (Bool) := terrierlaw11_TurnRounds.l0 k a0 ([] : List (S36)) (([(⟨1, 0⟩ : S36), (⟨2, 1⟩ : S36), (⟨1, 1⟩ : S36), (⟨1, 2⟩ : S36), (⟨0, 1⟩ : S36), (⟨(-1), 2⟩ : S36), (⟨(-1), 1⟩ : S36), (⟨(-2), 1⟩ : S36), (⟨(-1), 0⟩ : S36), (⟨(-2), (-1)⟩ : S36), (⟨(-1), (-1)⟩ : S36), (⟨(-1), (-2)⟩ : S36), (⟨0, (-1)⟩ : S36), (⟨1, (-2)⟩ : S36), (⟨1, (-1)⟩ : S36), (⟨2, (-1)⟩ : S36)] : List (S36))) ([] : List Int) 0
theorem terrierlaw11_TurnRounds.mono_l : ∀ k, (∀ y0 y1 y2 y3 y4, LeO (terrierlaw11_TurnRounds.l0 k y0 y1 y2 y3 y4) (terrierlaw11_TurnRounds.l0 (k + 1) y0 y1 y2 y3 y4)) ∧ (∀ y0 y1 y2, LeO (terrierlaw11_TurnRounds.l1 k y0 y1 y2) (terrierlaw11_TurnRounds.l1 (k + 1) y0 y1 y2)) ∧ (∀ y0 y1 y2 y3 y4 y5, LeO (terrierlaw11_TurnRounds.l2 k y0 y1 y2 y3 y4 y5) (terrierlaw11_TurnRounds.l2 (k + 1) y0 y1 y2 y3 y4 y5)) ∧ (∀ y0 y1 y2 y3 y4 y5 y6, LeO (terrierlaw11_TurnRounds.j3 k y0 y1 y2 y3 y4 y5 y6) (terrierlaw11_TurnRounds.j3 (k + 1) y0 y1 y2 y3 y4 y5 y6))
  | 0 => ⟨fun _ _ _ _ _ r h => by simp [terrierlaw11_TurnRounds.l0] at h, fun _ _ _ r h => by simp [terrierlaw11_TurnRounds.l1] at h, fun _ _ _ _ _ _ r h => by simp [terrierlaw11_TurnRounds.l2] at h, fun _ _ _ _ _ _ _ r h => by simp [terrierlaw11_TurnRounds.j3] at h⟩
  | k + 1 => by
    obtain ⟨ih0, ih1, ih2, ih3⟩ := terrierlaw11_TurnRounds.mono_l k
    refine ⟨?_, ?_, ?_, ?_⟩
    · intro y0 y1 y2 y3 y4
      unfold terrierlaw11_TurnRounds.l0
      repeat' first
      | (with_reducible exact ih0 _ _ _ _ _)
      | (with_reducible exact ih1 _ _ _)
      | (with_reducible exact ih2 _ _ _ _ _ _)
      | (with_reducible exact ih3 _ _ _ _ _ _ _)
      | (with_reducible exact terrierlaw11_awake.mono _)
      | (with_reducible exact turn_Next.mono _ _ _)
      | (with_reducible exact turn_Prev.mono _ _ _)
      | (with_reducible exact LeO.refl _)
      | (with_reducible exact LeO.none _)
      | (with_reducible refine LeO.ite ?_ ?_)
      | (with_reducible refine LeO.bind ?_ (fun _ => ?_))
      | exact ih0 _ _ _ _ _
      | exact ih1 _ _ _
      | exact ih2 _ _ _ _ _ _
      | exact ih3 _ _ _ _ _ _ _
      | exact terrierlaw11_awake.mono _
      | exact turn_Next.mono _ _ _
      | exact turn_Prev.mono _ _ _
      | exact LeO.none _
      | refine LeO.ite ?_ ?_
      | refine LeO.bind ?_ (fun _ => ?_)
    · intro y0 y1 y2
      unfold terrierlaw11_TurnRounds.l1
      repeat' first
      | (with_reducible exact ih0 _ _ _ _ _)
      | (with_reducible exact ih1 _ _ _)
      | (with_reducible exact ih2 _ _ _ _ _ _)
      | (with_reducible exact ih3 _ _ _ _ _ _ _)
      | (with_reducible exact terrierlaw11_awake.mono _)
      | (with_reducible exact turn_Next.mono _ _ _)
      | (with_reducible exact turn_Prev.mono _ _ _)
      | (with_reducible exact LeO.refl _)
      | (with_reducible exact LeO.none _)
      | (with_reducible refine LeO.ite ?_ ?_)
      | (with_reducible refine LeO.bind ?_ (fun _ => ?_))
      | exact ih0 _ _ _ _ _
      | exact ih1 _ _ _
      | exact ih2 _ _ _ _ _ _
      | exact ih3 _ _ _ _ _ _ _
      | exact terrierlaw11_awake.mono _
      | exact turn_Next.mono _ _ _
      | exact turn_Prev.mono _ _ _
      | exact LeO.none _
      | refine LeO.ite ?_ ?_
      | refine LeO.bind ?_ (fun _ => ?_)
    · intro y0 y1 y2 y3 y4 y5
      unfold terrierlaw11_TurnRounds.l2
      repeat' first
      | (with_reducible exact ih0 _ _ _ _ _)
      | (with_reducible exact ih1 _ _ _)
      | (with_reducible exact ih2 _ _ _ _ _ _)
      | (with_reducible exact ih3 _ _ _ _ _ _ _)
      | (with_reducible exact terrierlaw11_awake.mono _)
      | (with_reducible exact turn_Next.mono _ _ _)
      | (with_reducible exact turn_Prev.mono _ _ _)
      | (with_reducible exact LeO.refl _)
      | (with_reducible exact LeO.none _)
      | (with_reducible refine LeO.ite ?_ ?_)
      | (with_reducible refine LeO.bind ?_ (fun _ => ?_))
      | exact ih0 _ _ _ _ _
      | exact ih1 _ _ _
      | exact ih2 _ _ _ _ _ _
      | exact ih3 _ _ _ _ _ _ _
      | exact terrierlaw11_awake.mono _
      | exact turn_Next.mono _ _ _
      | exact turn_Prev.mono _ _ _
      | exact LeO.none _
      | refine LeO.ite ?_ ?_
      | refine LeO.bind ?_ (fun _ => ?_)
    · intro y0 y1 y2 y3 y4 y5 y6
      unfold terrierlaw11_TurnRounds.j3
      repeat' first
      | (with_reducible exact ih0 _ _ _ _ _)
      | (with_reducible exact ih1 _ _ _)
      | (with_reducible exact ih2 _ _ _ _ _ _)
      | (with_reducible exact ih3 _ _ _ _ _ _ _)
      | (with_reducible exact terrierlaw11_awake.mono _)
      | (with_reducible exact turn_Next.mono _ _ _)
      | (with_reducible exact turn_Prev.mono _ _ _)
      | (with_reducible exact LeO.refl _)
      | (with_reducible exact LeO.none _)
      | (with_reducible refine LeO.ite ?_ ?_)
      | (with_reducible refine LeO.bind ?_ (fun _ => ?_))
      | exact ih0 _ _ _ _ _
      | exact ih1 _ _ _
      | exact ih2 _ _ _ _ _ _
      | exact ih3 _ _ _ _ _ _ _
      | exact terrierlaw11_awake.mono _
      | exact turn_Next.mono _ _ _
      | exact turn_Prev.mono _ _ _
      | exact LeO.none _
      | refine LeO.ite ?_ ?_
      | refine LeO.bind ?_ (fun _ => ?_)
theorem terrierlaw11_TurnRounds.mono : ∀ a0 k, LeO (terrierlaw11_TurnRounds.f k a0) (terrierlaw11_TurnRounds.f (k + 1) a0) := by
  intro a0 k
  obtain ⟨ih0, ih1, ih2, ih3⟩ := terrierlaw11_TurnRounds.mono_l k
  unfold terrierlaw11_TurnRounds.f
  repeat' first
      | (with_reducible exact ih0 _ _ _ _ _)
      | (with_reducible exact ih1 _ _ _)
      | (with_reducible exact ih2 _ _ _ _ _ _)
      | (with_reducible exact ih3 _ _ _ _ _ _ _)
      | (with_reducible exact terrierlaw11_awake.mono _)
      | (with_reducible exact turn_Next.mono _ _ _)
      | (with_reducible exact turn_Prev.mono _ _ _)
      | (with_reducible exact LeO.refl _)
      | (with_reducible exact LeO.none _)
      | (with_reducible refine LeO.ite ?_ ?_)
      | (with_reducible refine LeO.bind ?_ (fun _ => ?_))
      | exact ih0 _ _ _ _ _
      | exact ih1 _ _ _
      | exact ih2 _ _ _ _ _ _
      | exact ih3 _ _ _ _ _ _ _
      | exact terrierlaw11_awake.mono _
      | exact turn_Next.mono _ _ _
      | exact turn_Prev.mono _ _ _
      | exact LeO.none _
      | refine LeO.ite ?_ ?_
      | refine LeO.bind ?_ (fun _ => ?_)
set_option maxHeartbeats 8000000 in
set_option maxRecDepth 100000 in
theorem terrierlaw11_TurnRounds.calls (k : Nat) (a0 : Int) (r : Bool) (w : World) (h : terrierlaw11_TurnRounds.f k a0 = some r) :
    Calls Try.prog 4 #[.int .i64 a0] w fun e w' => e = .returned (.bool r) ∧ Below w.heap.size w w' := by
  have hu36 := Try.underlying36
  have HB := Aside0.mk (Below.refl w.heap.size w)
  have H : (terrierlaw11_TurnRounds.l0 k a0 ([] : List (S36)) (([(⟨1, 0⟩ : S36), (⟨2, 1⟩ : S36), (⟨1, 1⟩ : S36), (⟨1, 2⟩ : S36), (⟨0, 1⟩ : S36), (⟨(-1), 2⟩ : S36), (⟨(-1), 1⟩ : S36), (⟨(-2), 1⟩ : S36), (⟨(-1), 0⟩ : S36), (⟨(-2), (-1)⟩ : S36), (⟨(-1), (-1)⟩ : S36), (⟨(-1), (-2)⟩ : S36), (⟨0, (-1)⟩ : S36), (⟨1, (-2)⟩ : S36), (⟨1, (-1)⟩ : S36), (⟨2, (-1)⟩ : S36)] : List (S36))) ([] : List Int) 0) = some r := h
  clear h
  obtain ⟨y194, hy194⟩ : ∃ y_ : List (S36), y_ = (([(⟨1, 0⟩ : S36), (⟨2, 1⟩ : S36), (⟨1, 1⟩ : S36), (⟨1, 2⟩ : S36), (⟨0, 1⟩ : S36), (⟨(-1), 2⟩ : S36), (⟨(-1), 1⟩ : S36), (⟨(-2), 1⟩ : S36), (⟨(-1), 0⟩ : S36), (⟨(-2), (-1)⟩ : S36), (⟨(-1), (-1)⟩ : S36), (⟨(-1), (-2)⟩ : S36), (⟨0, (-1)⟩ : S36), (⟨1, (-2)⟩ : S36), (⟨1, (-1)⟩ : S36), (⟨2, (-1)⟩ : S36)] : List (S36))) := ⟨_, rfl⟩
  replace H : (terrierlaw11_TurnRounds.l0 k a0 ([] : List (S36)) y194 ([] : List Int) 0) = some r := by first | (rw [hy194]; with_reducible exact H) | (have H2_ := (Option.bind_some _ _).symm.trans H; rw [hy194]; with_reducible exact H2_) | (have H2_ := (Option.bind_some _ _).symm.trans H; with_reducible exact H2_) | with_reducible exact H | (rw [hy194]; exact H) | exact H
  have Ny194 := Aside0.mk hy194
  clear hy194
  have H' := Aside0.mk H
  clear H
  go_enter Try.func4, Try.ntmps4
  go_wp2_with (first | ((with_reducible refine gate_dst (N := 32) rfl ?_); refine Kd.R_lit k36 _ 36 ?hg (N := 32) ?hd (xs := ([(⟨1, 0⟩ : S36), (⟨2, 1⟩ : S36), (⟨1, 1⟩ : S36), (⟨1, 2⟩ : S36), (⟨0, 1⟩ : S36), (⟨(-1), 2⟩ : S36), (⟨(-1), 1⟩ : S36), (⟨(-2), 1⟩ : S36), (⟨(-1), 0⟩ : S36), (⟨(-2), (-1)⟩ : S36), (⟨(-1), (-1)⟩ : S36), (⟨(-1), (-2)⟩ : S36), (⟨0, (-1)⟩ : S36), (⟨1, (-2)⟩ : S36), (⟨1, (-1)⟩ : S36), (⟨2, (-1)⟩ : S36)] : List (S36))) (inner := [.int .i64 1, .int .i64 0, .int .i64 2, .int .i64 1, .int .i64 1, .int .i64 1, .int .i64 1, .int .i64 2, .int .i64 0, .int .i64 1, .int .i64 (-1), .int .i64 2, .int .i64 (-1), .int .i64 1, .int .i64 (-2), .int .i64 1, .int .i64 (-1), .int .i64 0, .int .i64 (-2), .int .i64 (-1), .int .i64 (-1), .int .i64 (-1), .int .i64 (-1), .int .i64 (-2), .int .i64 0, .int .i64 (-1), .int .i64 1, .int .i64 (-2), .int .i64 1, .int .i64 (-1), .int .i64 2, .int .i64 (-1)]) (ok := fun _ => True) (okp := fun _ => True) ?hr ?hp (fun _ hk => hk) trivial (Below.refl _ _) (Nat.le_refl _) (by simp) ?_; (case hd => rfl); (case hg => rfl); (case hr => first | (go_simp; done) | (go_simp; rfl)); (case hp => exact (Reps.c2 (show Kd.M k36 _ _ _ (⟨1, 0⟩ : S36) [.int .i64 1, .int .i64 0] from (k36_mkM _ _ _ (⟨1, 0⟩ : S36) )) (Reps.c2 (show Kd.M k36 _ _ _ (⟨2, 1⟩ : S36) [.int .i64 2, .int .i64 1] from (k36_mkM _ _ _ (⟨2, 1⟩ : S36) )) (Reps.c2 (show Kd.M k36 _ _ _ (⟨1, 1⟩ : S36) [.int .i64 1, .int .i64 1] from (k36_mkM _ _ _ (⟨1, 1⟩ : S36) )) (Reps.c2 (show Kd.M k36 _ _ _ (⟨1, 2⟩ : S36) [.int .i64 1, .int .i64 2] from (k36_mkM _ _ _ (⟨1, 2⟩ : S36) )) (Reps.c2 (show Kd.M k36 _ _ _ (⟨0, 1⟩ : S36) [.int .i64 0, .int .i64 1] from (k36_mkM _ _ _ (⟨0, 1⟩ : S36) )) (Reps.c2 (show Kd.M k36 _ _ _ (⟨(-1), 2⟩ : S36) [.int .i64 (-1), .int .i64 2] from (k36_mkM _ _ _ (⟨(-1), 2⟩ : S36) )) (Reps.c2 (show Kd.M k36 _ _ _ (⟨(-1), 1⟩ : S36) [.int .i64 (-1), .int .i64 1] from (k36_mkM _ _ _ (⟨(-1), 1⟩ : S36) )) (Reps.c2 (show Kd.M k36 _ _ _ (⟨(-2), 1⟩ : S36) [.int .i64 (-2), .int .i64 1] from (k36_mkM _ _ _ (⟨(-2), 1⟩ : S36) )) (Reps.c2 (show Kd.M k36 _ _ _ (⟨(-1), 0⟩ : S36) [.int .i64 (-1), .int .i64 0] from (k36_mkM _ _ _ (⟨(-1), 0⟩ : S36) )) (Reps.c2 (show Kd.M k36 _ _ _ (⟨(-2), (-1)⟩ : S36) [.int .i64 (-2), .int .i64 (-1)] from (k36_mkM _ _ _ (⟨(-2), (-1)⟩ : S36) )) (Reps.c2 (show Kd.M k36 _ _ _ (⟨(-1), (-1)⟩ : S36) [.int .i64 (-1), .int .i64 (-1)] from (k36_mkM _ _ _ (⟨(-1), (-1)⟩ : S36) )) (Reps.c2 (show Kd.M k36 _ _ _ (⟨(-1), (-2)⟩ : S36) [.int .i64 (-1), .int .i64 (-2)] from (k36_mkM _ _ _ (⟨(-1), (-2)⟩ : S36) )) (Reps.c2 (show Kd.M k36 _ _ _ (⟨0, (-1)⟩ : S36) [.int .i64 0, .int .i64 (-1)] from (k36_mkM _ _ _ (⟨0, (-1)⟩ : S36) )) (Reps.c2 (show Kd.M k36 _ _ _ (⟨1, (-2)⟩ : S36) [.int .i64 1, .int .i64 (-2)] from (k36_mkM _ _ _ (⟨1, (-2)⟩ : S36) )) (Reps.c2 (show Kd.M k36 _ _ _ (⟨1, (-1)⟩ : S36) [.int .i64 1, .int .i64 (-1)] from (k36_mkM _ _ _ (⟨1, (-1)⟩ : S36) )) (Reps.c2 (show Kd.M k36 _ _ _ (⟨2, (-1)⟩ : S36) [.int .i64 2, .int .i64 (-1)] from (k36_mkM _ _ _ (⟨2, (-1)⟩ : S36) )) (Reps.none _ _)))))))))))))))))); intro v195 w2 ho3 hb hg_ hnew_; clear hg_ hnew_; (first | rw [← Ny194.out] at ho3 | (simp only [Int.reduceToNat] at ho3; rw [← Ny194.out] at ho3)); have n0_ := Aside0.mk (Kd.R_lower ho3 (below_size (by repeat (first | (with_reducible first | exact HB.out | apply below_alloc | apply pw_below_drewN | apply below_drew1) | exact HB.out)))); have n1_ := Aside0.mk (below_step (by repeat (first | (with_reducible first | exact HB.out | apply below_alloc | apply pw_below_drewN | apply below_drew1) | exact HB.out)) hb); clear HB; have HO196 := n0_; have HB := n1_; clear n0_ n1_; clear hb ho3))
  repeat (go_quiet (first | ((with_reducible refine gate_dst (N := 32) rfl ?_); refine Kd.R_lit k36 _ 36 ?hg (N := 32) ?hd (xs := ([(⟨1, 0⟩ : S36), (⟨2, 1⟩ : S36), (⟨1, 1⟩ : S36), (⟨1, 2⟩ : S36), (⟨0, 1⟩ : S36), (⟨(-1), 2⟩ : S36), (⟨(-1), 1⟩ : S36), (⟨(-2), 1⟩ : S36), (⟨(-1), 0⟩ : S36), (⟨(-2), (-1)⟩ : S36), (⟨(-1), (-1)⟩ : S36), (⟨(-1), (-2)⟩ : S36), (⟨0, (-1)⟩ : S36), (⟨1, (-2)⟩ : S36), (⟨1, (-1)⟩ : S36), (⟨2, (-1)⟩ : S36)] : List (S36))) (inner := [.int .i64 1, .int .i64 0, .int .i64 2, .int .i64 1, .int .i64 1, .int .i64 1, .int .i64 1, .int .i64 2, .int .i64 0, .int .i64 1, .int .i64 (-1), .int .i64 2, .int .i64 (-1), .int .i64 1, .int .i64 (-2), .int .i64 1, .int .i64 (-1), .int .i64 0, .int .i64 (-2), .int .i64 (-1), .int .i64 (-1), .int .i64 (-1), .int .i64 (-1), .int .i64 (-2), .int .i64 0, .int .i64 (-1), .int .i64 1, .int .i64 (-2), .int .i64 1, .int .i64 (-1), .int .i64 2, .int .i64 (-1)]) (ok := fun _ => True) (okp := fun _ => True) ?hr ?hp (fun _ hk => hk) trivial (Below.refl _ _) (Nat.le_refl _) (by simp) ?_; (case hd => rfl); (case hg => rfl); (case hr => first | (go_simp; done) | (go_simp; rfl)); (case hp => exact (Reps.c2 (show Kd.M k36 _ _ _ (⟨1, 0⟩ : S36) [.int .i64 1, .int .i64 0] from (k36_mkM _ _ _ (⟨1, 0⟩ : S36) )) (Reps.c2 (show Kd.M k36 _ _ _ (⟨2, 1⟩ : S36) [.int .i64 2, .int .i64 1] from (k36_mkM _ _ _ (⟨2, 1⟩ : S36) )) (Reps.c2 (show Kd.M k36 _ _ _ (⟨1, 1⟩ : S36) [.int .i64 1, .int .i64 1] from (k36_mkM _ _ _ (⟨1, 1⟩ : S36) )) (Reps.c2 (show Kd.M k36 _ _ _ (⟨1, 2⟩ : S36) [.int .i64 1, .int .i64 2] from (k36_mkM _ _ _ (⟨1, 2⟩ : S36) )) (Reps.c2 (show Kd.M k36 _ _ _ (⟨0, 1⟩ : S36) [.int .i64 0, .int .i64 1] from (k36_mkM _ _ _ (⟨0, 1⟩ : S36) )) (Reps.c2 (show Kd.M k36 _ _ _ (⟨(-1), 2⟩ : S36) [.int .i64 (-1), .int .i64 2] from (k36_mkM _ _ _ (⟨(-1), 2⟩ : S36) )) (Reps.c2 (show Kd.M k36 _ _ _ (⟨(-1), 1⟩ : S36) [.int .i64 (-1), .int .i64 1] from (k36_mkM _ _ _ (⟨(-1), 1⟩ : S36) )) (Reps.c2 (show Kd.M k36 _ _ _ (⟨(-2), 1⟩ : S36) [.int .i64 (-2), .int .i64 1] from (k36_mkM _ _ _ (⟨(-2), 1⟩ : S36) )) (Reps.c2 (show Kd.M k36 _ _ _ (⟨(-1), 0⟩ : S36) [.int .i64 (-1), .int .i64 0] from (k36_mkM _ _ _ (⟨(-1), 0⟩ : S36) )) (Reps.c2 (show Kd.M k36 _ _ _ (⟨(-2), (-1)⟩ : S36) [.int .i64 (-2), .int .i64 (-1)] from (k36_mkM _ _ _ (⟨(-2), (-1)⟩ : S36) )) (Reps.c2 (show Kd.M k36 _ _ _ (⟨(-1), (-1)⟩ : S36) [.int .i64 (-1), .int .i64 (-1)] from (k36_mkM _ _ _ (⟨(-1), (-1)⟩ : S36) )) (Reps.c2 (show Kd.M k36 _ _ _ (⟨(-1), (-2)⟩ : S36) [.int .i64 (-1), .int .i64 (-2)] from (k36_mkM _ _ _ (⟨(-1), (-2)⟩ : S36) )) (Reps.c2 (show Kd.M k36 _ _ _ (⟨0, (-1)⟩ : S36) [.int .i64 0, .int .i64 (-1)] from (k36_mkM _ _ _ (⟨0, (-1)⟩ : S36) )) (Reps.c2 (show Kd.M k36 _ _ _ (⟨1, (-2)⟩ : S36) [.int .i64 1, .int .i64 (-2)] from (k36_mkM _ _ _ (⟨1, (-2)⟩ : S36) )) (Reps.c2 (show Kd.M k36 _ _ _ (⟨1, (-1)⟩ : S36) [.int .i64 1, .int .i64 (-1)] from (k36_mkM _ _ _ (⟨1, (-1)⟩ : S36) )) (Reps.c2 (show Kd.M k36 _ _ _ (⟨2, (-1)⟩ : S36) [.int .i64 2, .int .i64 (-1)] from (k36_mkM _ _ _ (⟨2, (-1)⟩ : S36) )) (Reps.none _ _)))))))))))))))))); intro v195 w2 ho3 hb hg_ hnew_; clear hg_ hnew_; (first | rw [← Ny194.out] at ho3 | (simp only [Int.reduceToNat] at ho3; rw [← Ny194.out] at ho3)); have n0_ := Aside0.mk (Kd.R_lower ho3 (below_size (by repeat (first | (with_reducible first | exact HB.out | apply below_alloc | apply pw_below_drewN | apply below_drew1) | exact HB.out)))); have n1_ := Aside0.mk (below_step (by repeat (first | (with_reducible first | exact HB.out | apply below_alloc | apply pw_below_drewN | apply below_drew1) | exact HB.out)) hb); clear HB; have HO196 := n0_; have HB := n1_; clear n0_ n1_; clear hb ho3)); try go_wp2_with (first | ((with_reducible refine gate_dst (N := 32) rfl ?_); refine Kd.R_lit k36 _ 36 ?hg (N := 32) ?hd (xs := ([(⟨1, 0⟩ : S36), (⟨2, 1⟩ : S36), (⟨1, 1⟩ : S36), (⟨1, 2⟩ : S36), (⟨0, 1⟩ : S36), (⟨(-1), 2⟩ : S36), (⟨(-1), 1⟩ : S36), (⟨(-2), 1⟩ : S36), (⟨(-1), 0⟩ : S36), (⟨(-2), (-1)⟩ : S36), (⟨(-1), (-1)⟩ : S36), (⟨(-1), (-2)⟩ : S36), (⟨0, (-1)⟩ : S36), (⟨1, (-2)⟩ : S36), (⟨1, (-1)⟩ : S36), (⟨2, (-1)⟩ : S36)] : List (S36))) (inner := [.int .i64 1, .int .i64 0, .int .i64 2, .int .i64 1, .int .i64 1, .int .i64 1, .int .i64 1, .int .i64 2, .int .i64 0, .int .i64 1, .int .i64 (-1), .int .i64 2, .int .i64 (-1), .int .i64 1, .int .i64 (-2), .int .i64 1, .int .i64 (-1), .int .i64 0, .int .i64 (-2), .int .i64 (-1), .int .i64 (-1), .int .i64 (-1), .int .i64 (-1), .int .i64 (-2), .int .i64 0, .int .i64 (-1), .int .i64 1, .int .i64 (-2), .int .i64 1, .int .i64 (-1), .int .i64 2, .int .i64 (-1)]) (ok := fun _ => True) (okp := fun _ => True) ?hr ?hp (fun _ hk => hk) trivial (Below.refl _ _) (Nat.le_refl _) (by simp) ?_; (case hd => rfl); (case hg => rfl); (case hr => first | (go_simp; done) | (go_simp; rfl)); (case hp => exact (Reps.c2 (show Kd.M k36 _ _ _ (⟨1, 0⟩ : S36) [.int .i64 1, .int .i64 0] from (k36_mkM _ _ _ (⟨1, 0⟩ : S36) )) (Reps.c2 (show Kd.M k36 _ _ _ (⟨2, 1⟩ : S36) [.int .i64 2, .int .i64 1] from (k36_mkM _ _ _ (⟨2, 1⟩ : S36) )) (Reps.c2 (show Kd.M k36 _ _ _ (⟨1, 1⟩ : S36) [.int .i64 1, .int .i64 1] from (k36_mkM _ _ _ (⟨1, 1⟩ : S36) )) (Reps.c2 (show Kd.M k36 _ _ _ (⟨1, 2⟩ : S36) [.int .i64 1, .int .i64 2] from (k36_mkM _ _ _ (⟨1, 2⟩ : S36) )) (Reps.c2 (show Kd.M k36 _ _ _ (⟨0, 1⟩ : S36) [.int .i64 0, .int .i64 1] from (k36_mkM _ _ _ (⟨0, 1⟩ : S36) )) (Reps.c2 (show Kd.M k36 _ _ _ (⟨(-1), 2⟩ : S36) [.int .i64 (-1), .int .i64 2] from (k36_mkM _ _ _ (⟨(-1), 2⟩ : S36) )) (Reps.c2 (show Kd.M k36 _ _ _ (⟨(-1), 1⟩ : S36) [.int .i64 (-1), .int .i64 1] from (k36_mkM _ _ _ (⟨(-1), 1⟩ : S36) )) (Reps.c2 (show Kd.M k36 _ _ _ (⟨(-2), 1⟩ : S36) [.int .i64 (-2), .int .i64 1] from (k36_mkM _ _ _ (⟨(-2), 1⟩ : S36) )) (Reps.c2 (show Kd.M k36 _ _ _ (⟨(-1), 0⟩ : S36) [.int .i64 (-1), .int .i64 0] from (k36_mkM _ _ _ (⟨(-1), 0⟩ : S36) )) (Reps.c2 (show Kd.M k36 _ _ _ (⟨(-2), (-1)⟩ : S36) [.int .i64 (-2), .int .i64 (-1)] from (k36_mkM _ _ _ (⟨(-2), (-1)⟩ : S36) )) (Reps.c2 (show Kd.M k36 _ _ _ (⟨(-1), (-1)⟩ : S36) [.int .i64 (-1), .int .i64 (-1)] from (k36_mkM _ _ _ (⟨(-1), (-1)⟩ : S36) )) (Reps.c2 (show Kd.M k36 _ _ _ (⟨(-1), (-2)⟩ : S36) [.int .i64 (-1), .int .i64 (-2)] from (k36_mkM _ _ _ (⟨(-1), (-2)⟩ : S36) )) (Reps.c2 (show Kd.M k36 _ _ _ (⟨0, (-1)⟩ : S36) [.int .i64 0, .int .i64 (-1)] from (k36_mkM _ _ _ (⟨0, (-1)⟩ : S36) )) (Reps.c2 (show Kd.M k36 _ _ _ (⟨1, (-2)⟩ : S36) [.int .i64 1, .int .i64 (-2)] from (k36_mkM _ _ _ (⟨1, (-2)⟩ : S36) )) (Reps.c2 (show Kd.M k36 _ _ _ (⟨1, (-1)⟩ : S36) [.int .i64 1, .int .i64 (-1)] from (k36_mkM _ _ _ (⟨1, (-1)⟩ : S36) )) (Reps.c2 (show Kd.M k36 _ _ _ (⟨2, (-1)⟩ : S36) [.int .i64 2, .int .i64 (-1)] from (k36_mkM _ _ _ (⟨2, (-1)⟩ : S36) )) (Reps.none _ _)))))))))))))))))); intro v195 w2 ho3 hb hg_ hnew_; clear hg_ hnew_; (first | rw [← Ny194.out] at ho3 | (simp only [Int.reduceToNat] at ho3; rw [← Ny194.out] at ho3)); have n0_ := Aside0.mk (Kd.R_lower ho3 (below_size (by repeat (first | (with_reducible first | exact HB.out | apply below_alloc | apply pw_below_drewN | apply below_drew1) | exact HB.out)))); have n1_ := Aside0.mk (below_step (by repeat (first | (with_reducible first | exact HB.out | apply below_alloc | apply pw_below_drewN | apply below_drew1) | exact HB.out)) hb); clear HB; have HO196 := n0_; have HB := n1_; clear n0_ n1_; clear hb ho3)))
  go_loopg [3, 5, 6] k (fun kq v3 v5 v6 w' => ∃ (x3_1 : List (S36)) (x5_1 : List Int) (x6_1 : Int), v6 = .int .i64 x6_1 ∧ Aside0 (terrierlaw11_TurnRounds.l0 kq a0 x3_1 y194 x5_1 x6_1 = some r) ∧ Aside0 (kq ≤ k) ∧ Aside0 (Kd.R k36 36 w' w.heap.size (fun k_ => some k_ ≠ (v195 : Value).ownBlock) v3 x3_1) ∧ Aside0 (Kd.R k36 36 w' w.heap.size (fun k_ => some k_ ≠ (v3 : Value).ownBlock) v195 y194) ∧ Aside0 (Kd.R (Kd.int .i64) 3 w' w.heap.size (fun _ => True) v5 x5_1) ∧ Aside0 (Below w.heap.size w w'))
  case atStart => exact ⟨(([] : List (S36))), (([] : List Int)), (0), (by first | rfl | (simp; done) | (simp [*]; done)), H', ⟨Nat.le_refl _⟩, ⟨by first | exact Kd.R_nil _ _ _ _ _ | exact Kd.N_nil _ _ _ _ _ | exact Kd.V_nil _ _ _ _ _ | exact Kd.Q_nil _ _ _ _ _ | exact Kd.S_nil _ _ _ _ _⟩, ⟨by (with_reducible repeat (first | apply Kd.R_alloc | apply Kd.R_drewN | apply Kd.R_drew)); exact Kd.R_mono HO196.out (fun _ hk => (by simp [Value.ownBlock]))⟩, ⟨by first | exact Kd.R_nil _ _ _ _ _ | exact Kd.N_nil _ _ _ _ _ | exact Kd.V_nil _ _ _ _ _ | exact Kd.Q_nil _ _ _ _ _ | exact Kd.S_nil _ _ _ _ _⟩, ⟨by repeat (first | (with_reducible first | exact HB.out | apply below_alloc | apply pw_below_drewN | apply below_drew1) | exact HB.out)⟩⟩
  case round =>
    clear H'
    try clear c2
    try clear p2
    obtain ⟨x3_1, x5_1, x6_1, rfl, HA, HK1, HO_3, HO_4, HO_5, HB⟩ := hrel
    cases gk with
    | zero => exact absurd HA.out (by simp [terrierlaw11_TurnRounds.l0])
    | succ k1 =>
      have H := HA.out
      clear HA
      simp only [terrierlaw11_TurnRounds.l0] at H
      by_cases c4 : x6_1 < 16
      · rw [if_pos c4] at H
        have c4b0 : decide (x6_1 < 16) = true := decide_eq_true c4
        clear c4
        obtain ⟨ji5, hji5⟩ : ∃ j_ : Int, (Int.tmod (wrap64 ((wrap64 (x6_1 * 7)) + (Go.bits .and .i64 (a0 / 65536) 15))) 16) = j_ := ⟨_, rfl⟩
        replace H : (if 0 ≤ (ji5) then (if (Go.bits .and .i64 (shr .i64 a0 (ji5)) 1) = 1 then (if (ji5) < (y194.length : Int) then (if x3_1.length < 8796093022208 then (if x5_1.length < 17592186044416 then (terrierlaw11_TurnRounds.l0 k1 a0 (x3_1 ++ [(⟨(rd_T36 y194 (ji5)).f0, (rd_T36 y194 (ji5)).f1⟩ : S36)]) y194 (x5_1 ++ [ji5]) (wrap64 (x6_1 + 1))) else (none)) else (none)) else (none)) else (terrierlaw11_TurnRounds.l0 k1 a0 x3_1 y194 x5_1 (wrap64 (x6_1 + 1)))) else (none)) = some r := by first | (rw [hji5] at H; exact H) | (simp only [hji5] at H ⊢; exact H)
        by_cases c6 : 0 ≤ (ji5)
        · rw [if_pos c6] at H
          have c6b0 := eq_true c6
          have c6b1 : decide (0 ≤ (ji5)) = true := decide_eq_true c6
          clear c6
          obtain ⟨ji7, hji7⟩ : ∃ j_ : Int, (shr .i64 a0 (ji5)) = j_ := ⟨_, rfl⟩
          replace H : (if (Go.bits .and .i64 (ji7) 1) = 1 then (if (ji5) < (y194.length : Int) then (if x3_1.length < 8796093022208 then (if x5_1.length < 17592186044416 then (terrierlaw11_TurnRounds.l0 k1 a0 (x3_1 ++ [(⟨(rd_T36 y194 (ji5)).f0, (rd_T36 y194 (ji5)).f1⟩ : S36)]) y194 (x5_1 ++ [ji5]) (wrap64 (x6_1 + 1))) else (none)) else (none)) else (none)) else (terrierlaw11_TurnRounds.l0 k1 a0 x3_1 y194 x5_1 (wrap64 (x6_1 + 1)))) = some r := by first | (rw [hji7] at H; exact H) | (simp only [hji7] at H ⊢; exact H)
          have hji7_ : (a0 / 2 ^ min (ji5).toNat 64) = ji7 := hji7
          have hji7z : (ji5) ≤ 64 → (a0 / 2 ^ (ji5).toNat) = ji7 := shr_small hji7
          by_cases c8 : (Go.bits .and .i64 (ji7) 1) = 1
          · rw [if_pos c8] at H
            have c8b0 : ((Go.bits .and .i64 (ji7) 1) == 1) = true := beq_iff_eq.mpr c8
            have c8b1 : ((Go.bits .and .i64 (ji7) 1) != 1) = false := bne_eq_false_iff_eq.mpr c8
            clear c8
            by_cases c9 : (ji5) < (y194.length : Int)
            · rw [if_pos c9] at H
              have c9b0 : decide ((ji5) < (y194.length : Int)) = true := decide_eq_true c9
              clear c9
              by_cases c10 : x3_1.length < 8796093022208
              · rw [if_pos c10] at H
                have LMc10 := Aside0.mk c10
                clear c10
                obtain ⟨y198, hy198⟩ : ∃ y_ : List (S36), y_ = (x3_1 ++ [(⟨(rd_T36 y194 (ji5)).f0, (rd_T36 y194 (ji5)).f1⟩ : S36)]) := ⟨_, rfl⟩
                replace H : (if x5_1.length < 17592186044416 then (terrierlaw11_TurnRounds.l0 k1 a0 y198 y194 (x5_1 ++ [ji5]) (wrap64 (x6_1 + 1))) else (none)) = some r := by first | (rw [hy198]; with_reducible exact H) | (have H2_ := (Option.bind_some _ _).symm.trans H; rw [hy198]; with_reducible exact H2_) | (have H2_ := (Option.bind_some _ _).symm.trans H; with_reducible exact H2_) | with_reducible exact H | (rw [hy198]; exact H) | exact H
                have Ny198 := Aside0.mk hy198
                clear hy198
                by_cases c11 : x5_1.length < 17592186044416
                · rw [if_pos c11] at H
                  have LMc11 := Aside0.mk c11
                  clear c11
                  obtain ⟨y201, hy201⟩ : ∃ y_ : List Int, y_ = (x5_1 ++ [ji5]) := ⟨_, rfl⟩
                  replace H : (terrierlaw11_TurnRounds.l0 k1 a0 y198 y194 y201 (wrap64 (x6_1 + 1))) = some r := by first | (rw [hy201]; with_reducible exact H) | (have H2_ := (Option.bind_some _ _).symm.trans H; rw [hy201]; with_reducible exact H2_) | (have H2_ := (Option.bind_some _ _).symm.trans H; with_reducible exact H2_) | with_reducible exact H | (rw [hy201]; exact H) | exact H
                  have Ny201 := Aside0.mk hy201
                  clear hy201
                  have H' := Aside0.mk H
                  clear H
                  obtain ⟨Ao12, co12, eo12⟩ := Kd.R_slice HO_4.out
                  subst eo12
                  have p197 : 0 ≤ ((ji5) : Int) := of_decide_eq_true (by first | (with_reducible assumption) | assumption)
                  have q197 : (ji5) < (y194.length : Int) := of_decide_eq_true (by first | (with_reducible assumption) | assumption)
                  obtain ⟨ad197, e197, hx197_0, hx197_1⟩ := at_T36 (Kd.R_reads' HO_4.out).2.2 (ji5) p197 q197
                  cases e197
                  replace p197 := eq_true p197
                  replace q197 := eq_true q197
                  go_wp2_with (first | ((with_reducible refine gate_builtin (b := .append) (xs := #[.tmp 49, .tmp 54]) rfl ?_); at_builtin; refine Kd.R_append k36 (w0 := w) w.heap.size rfl (.tmp 49) (.tmp 54) 24 36 (.agg #[(.int .i64 0), (.int .i64 0)]) 16 rfl Try.underlying24 info36 rfl (by decide) (by omega) u3 x3_1 (⟨(rd_T36 y194 (ji5)).f0, (rd_T36 y194 (ji5)).f1⟩ : S36) [.int .i64 ((rd_T36 y194 (ji5)).f0), .int .i64 ((rd_T36 y194 (ji5)).f1)] (fun k_ => some k_ ≠ (.slice (some ad197) y194.length co12 : Value).ownBlock) (fun _ => False) rfl rfl ?aP (fun _ hk => hk.elim) ?aF ?aO ?aB ?aS ?aL ?_; (case aP => exact k36_mkM _ _ _ (⟨(rd_T36 y194 (ji5)).f0, (rd_T36 y194 (ji5)).f1⟩ : S36)); (case aB => exact (by repeat (first | (with_reducible first | exact HB.out | apply below_alloc | apply pw_below_drewN | apply below_drew1) | exact HB.out))); (case aF => exact (fun k_ hk => Kd.fresh' (Kd.R_lt (by (with_reducible repeat (first | apply Kd.R_alloc | apply Kd.R_drewN | apply Kd.R_drew)); exact HO_4.out)) k_ hk)); (case aO => exact (by (with_reducible repeat (first | apply Kd.R_alloc | apply Kd.R_drewN | apply Kd.R_drew)); exact HO_3.out)); (case aS => exact (below_size (by repeat (first | (with_reducible first | exact HB.out | apply below_alloc | apply pw_below_drewN | apply below_drew1) | exact HB.out)))); (case aL => have := LMc10.out; omega); intro v199 w13 ho hb hg hat; rw [← Ny198.out] at ho; have n0_ := Aside0.mk (Kd.R_after (ok := (fun _ => True)) (by (with_reducible repeat (first | apply Kd.R_alloc | apply Kd.R_drewN | apply Kd.R_drew)); exact Kd.R_mono HO_4.out (fun _ hk => ⟨trivial, hk⟩)) hg hat); have n1_ := Aside0.mk (Kd.R_over' (by (with_reducible repeat (first | apply Kd.R_alloc | apply Kd.R_drewN | apply Kd.R_drew)); exact HO_5.out) (Kd.R_typed (by (with_reducible repeat (first | apply Kd.R_alloc | apply Kd.R_drewN | apply Kd.R_drew)); exact HO_3.out)) (by decide) hg); have n2_ := Aside0.mk (hb); have n3_ := Aside0.mk (ho); clear HO_4; clear HO_5; clear HB; clear HO_3; have HO_4 := n0_; have HO_5 := n1_; have HB := n2_; have HO200 := n3_; clear n0_ n1_ n2_ n3_; clear ho hb hg hat) | ((with_reducible refine gate_builtin (b := .append) (xs := #[.tmp 56, .tmp 58]) rfl ?_); at_builtin; refine Kd.R_append (Kd.int .i64) (w0 := w) w.heap.size rfl (.tmp 56) (.tmp 58) 29 3 (.int .i64 0) 8 rfl Try.underlying29 info3 rfl (by decide) (by omega) u5 x5_1 ji5 [.int .i64 ji5] (fun _ => True) (fun _ => False) rfl rfl ?aP (fun _ hk => hk.elim) ?aF ?aO ?aB ?aS ?aL ?_; (case aP => exact rfl); (case aB => exact (by repeat (first | (with_reducible first | exact HB.out | apply below_alloc | apply pw_below_drewN | apply below_drew1) | exact HB.out))); (case aF => exact (fun _ _ => trivial)); (case aO => exact (by (with_reducible repeat (first | apply Kd.R_alloc | apply Kd.R_drewN | apply Kd.R_drew)); exact HO_5.out)); (case aS => exact (below_size (by repeat (first | (with_reducible first | exact HB.out | apply below_alloc | apply pw_below_drewN | apply below_drew1) | exact HB.out)))); (case aL => have := LMc11.out; omega); intro v202 w14 ho hb hg hat; rw [← Ny201.out] at ho; have n0_ := Aside0.mk (Kd.R_over' (by (with_reducible repeat (first | apply Kd.R_alloc | apply Kd.R_drewN | apply Kd.R_drew)); exact HO_4.out) (Kd.R_typed (by (with_reducible repeat (first | apply Kd.R_alloc | apply Kd.R_drewN | apply Kd.R_drew)); exact HO_5.out)) (by decide) hg); have n1_ := Aside0.mk (Kd.R_over' (by (with_reducible repeat (first | apply Kd.R_alloc | apply Kd.R_drewN | apply Kd.R_drew)); exact HO200.out) (Kd.R_typed (by (with_reducible repeat (first | apply Kd.R_alloc | apply Kd.R_drewN | apply Kd.R_drew)); exact HO_5.out)) (by decide) hg); have n2_ := Aside0.mk (hb); have n3_ := Aside0.mk (ho); clear HO_4; clear HO200; clear HB; clear HO_5; have HO_4 := n0_; have HO200 := n1_; have HB := n2_; have HO203 := n3_; clear n0_ n1_ n2_ n3_; clear ho hb hg hat))
                  repeat (go_quiet (first | ((with_reducible refine gate_builtin (b := .append) (xs := #[.tmp 49, .tmp 54]) rfl ?_); at_builtin; refine Kd.R_append k36 (w0 := w) w.heap.size rfl (.tmp 49) (.tmp 54) 24 36 (.agg #[(.int .i64 0), (.int .i64 0)]) 16 rfl Try.underlying24 info36 rfl (by decide) (by omega) u3 x3_1 (⟨(rd_T36 y194 (ji5)).f0, (rd_T36 y194 (ji5)).f1⟩ : S36) [.int .i64 ((rd_T36 y194 (ji5)).f0), .int .i64 ((rd_T36 y194 (ji5)).f1)] (fun k_ => some k_ ≠ (.slice (some ad197) y194.length co12 : Value).ownBlock) (fun _ => False) rfl rfl ?aP (fun _ hk => hk.elim) ?aF ?aO ?aB ?aS ?aL ?_; (case aP => exact k36_mkM _ _ _ (⟨(rd_T36 y194 (ji5)).f0, (rd_T36 y194 (ji5)).f1⟩ : S36)); (case aB => exact (by repeat (first | (with_reducible first | exact HB.out | apply below_alloc | apply pw_below_drewN | apply below_drew1) | exact HB.out))); (case aF => exact (fun k_ hk => Kd.fresh' (Kd.R_lt (by (with_reducible repeat (first | apply Kd.R_alloc | apply Kd.R_drewN | apply Kd.R_drew)); exact HO_4.out)) k_ hk)); (case aO => exact (by (with_reducible repeat (first | apply Kd.R_alloc | apply Kd.R_drewN | apply Kd.R_drew)); exact HO_3.out)); (case aS => exact (below_size (by repeat (first | (with_reducible first | exact HB.out | apply below_alloc | apply pw_below_drewN | apply below_drew1) | exact HB.out)))); (case aL => have := LMc10.out; omega); intro v199 w13 ho hb hg hat; rw [← Ny198.out] at ho; have n0_ := Aside0.mk (Kd.R_after (ok := (fun _ => True)) (by (with_reducible repeat (first | apply Kd.R_alloc | apply Kd.R_drewN | apply Kd.R_drew)); exact Kd.R_mono HO_4.out (fun _ hk => ⟨trivial, hk⟩)) hg hat); have n1_ := Aside0.mk (Kd.R_over' (by (with_reducible repeat (first | apply Kd.R_alloc | apply Kd.R_drewN | apply Kd.R_drew)); exact HO_5.out) (Kd.R_typed (by (with_reducible repeat (first | apply Kd.R_alloc | apply Kd.R_drewN | apply Kd.R_drew)); exact HO_3.out)) (by decide) hg); have n2_ := Aside0.mk (hb); have n3_ := Aside0.mk (ho); clear HO_4; clear HO_5; clear HB; clear HO_3; have HO_4 := n0_; have HO_5 := n1_; have HB := n2_; have HO200 := n3_; clear n0_ n1_ n2_ n3_; clear ho hb hg hat) | ((with_reducible refine gate_builtin (b := .append) (xs := #[.tmp 56, .tmp 58]) rfl ?_); at_builtin; refine Kd.R_append (Kd.int .i64) (w0 := w) w.heap.size rfl (.tmp 56) (.tmp 58) 29 3 (.int .i64 0) 8 rfl Try.underlying29 info3 rfl (by decide) (by omega) u5 x5_1 ji5 [.int .i64 ji5] (fun _ => True) (fun _ => False) rfl rfl ?aP (fun _ hk => hk.elim) ?aF ?aO ?aB ?aS ?aL ?_; (case aP => exact rfl); (case aB => exact (by repeat (first | (with_reducible first | exact HB.out | apply below_alloc | apply pw_below_drewN | apply below_drew1) | exact HB.out))); (case aF => exact (fun _ _ => trivial)); (case aO => exact (by (with_reducible repeat (first | apply Kd.R_alloc | apply Kd.R_drewN | apply Kd.R_drew)); exact HO_5.out)); (case aS => exact (below_size (by repeat (first | (with_reducible first | exact HB.out | apply below_alloc | apply pw_below_drewN | apply below_drew1) | exact HB.out)))); (case aL => have := LMc11.out; omega); intro v202 w14 ho hb hg hat; rw [← Ny201.out] at ho; have n0_ := Aside0.mk (Kd.R_over' (by (with_reducible repeat (first | apply Kd.R_alloc | apply Kd.R_drewN | apply Kd.R_drew)); exact HO_4.out) (Kd.R_typed (by (with_reducible repeat (first | apply Kd.R_alloc | apply Kd.R_drewN | apply Kd.R_drew)); exact HO_5.out)) (by decide) hg); have n1_ := Aside0.mk (Kd.R_over' (by (with_reducible repeat (first | apply Kd.R_alloc | apply Kd.R_drewN | apply Kd.R_drew)); exact HO200.out) (Kd.R_typed (by (with_reducible repeat (first | apply Kd.R_alloc | apply Kd.R_drewN | apply Kd.R_drew)); exact HO_5.out)) (by decide) hg); have n2_ := Aside0.mk (hb); have n3_ := Aside0.mk (ho); clear HO_4; clear HO200; clear HB; clear HO_5; have HO_4 := n0_; have HO200 := n1_; have HB := n2_; have HO203 := n3_; clear n0_ n1_ n2_ n3_; clear ho hb hg hat)); try go_wp2_with (first | ((with_reducible refine gate_builtin (b := .append) (xs := #[.tmp 49, .tmp 54]) rfl ?_); at_builtin; refine Kd.R_append k36 (w0 := w) w.heap.size rfl (.tmp 49) (.tmp 54) 24 36 (.agg #[(.int .i64 0), (.int .i64 0)]) 16 rfl Try.underlying24 info36 rfl (by decide) (by omega) u3 x3_1 (⟨(rd_T36 y194 (ji5)).f0, (rd_T36 y194 (ji5)).f1⟩ : S36) [.int .i64 ((rd_T36 y194 (ji5)).f0), .int .i64 ((rd_T36 y194 (ji5)).f1)] (fun k_ => some k_ ≠ (.slice (some ad197) y194.length co12 : Value).ownBlock) (fun _ => False) rfl rfl ?aP (fun _ hk => hk.elim) ?aF ?aO ?aB ?aS ?aL ?_; (case aP => exact k36_mkM _ _ _ (⟨(rd_T36 y194 (ji5)).f0, (rd_T36 y194 (ji5)).f1⟩ : S36)); (case aB => exact (by repeat (first | (with_reducible first | exact HB.out | apply below_alloc | apply pw_below_drewN | apply below_drew1) | exact HB.out))); (case aF => exact (fun k_ hk => Kd.fresh' (Kd.R_lt (by (with_reducible repeat (first | apply Kd.R_alloc | apply Kd.R_drewN | apply Kd.R_drew)); exact HO_4.out)) k_ hk)); (case aO => exact (by (with_reducible repeat (first | apply Kd.R_alloc | apply Kd.R_drewN | apply Kd.R_drew)); exact HO_3.out)); (case aS => exact (below_size (by repeat (first | (with_reducible first | exact HB.out | apply below_alloc | apply pw_below_drewN | apply below_drew1) | exact HB.out)))); (case aL => have := LMc10.out; omega); intro v199 w13 ho hb hg hat; rw [← Ny198.out] at ho; have n0_ := Aside0.mk (Kd.R_after (ok := (fun _ => True)) (by (with_reducible repeat (first | apply Kd.R_alloc | apply Kd.R_drewN | apply Kd.R_drew)); exact Kd.R_mono HO_4.out (fun _ hk => ⟨trivial, hk⟩)) hg hat); have n1_ := Aside0.mk (Kd.R_over' (by (with_reducible repeat (first | apply Kd.R_alloc | apply Kd.R_drewN | apply Kd.R_drew)); exact HO_5.out) (Kd.R_typed (by (with_reducible repeat (first | apply Kd.R_alloc | apply Kd.R_drewN | apply Kd.R_drew)); exact HO_3.out)) (by decide) hg); have n2_ := Aside0.mk (hb); have n3_ := Aside0.mk (ho); clear HO_4; clear HO_5; clear HB; clear HO_3; have HO_4 := n0_; have HO_5 := n1_; have HB := n2_; have HO200 := n3_; clear n0_ n1_ n2_ n3_; clear ho hb hg hat) | ((with_reducible refine gate_builtin (b := .append) (xs := #[.tmp 56, .tmp 58]) rfl ?_); at_builtin; refine Kd.R_append (Kd.int .i64) (w0 := w) w.heap.size rfl (.tmp 56) (.tmp 58) 29 3 (.int .i64 0) 8 rfl Try.underlying29 info3 rfl (by decide) (by omega) u5 x5_1 ji5 [.int .i64 ji5] (fun _ => True) (fun _ => False) rfl rfl ?aP (fun _ hk => hk.elim) ?aF ?aO ?aB ?aS ?aL ?_; (case aP => exact rfl); (case aB => exact (by repeat (first | (with_reducible first | exact HB.out | apply below_alloc | apply pw_below_drewN | apply below_drew1) | exact HB.out))); (case aF => exact (fun _ _ => trivial)); (case aO => exact (by (with_reducible repeat (first | apply Kd.R_alloc | apply Kd.R_drewN | apply Kd.R_drew)); exact HO_5.out)); (case aS => exact (below_size (by repeat (first | (with_reducible first | exact HB.out | apply below_alloc | apply pw_below_drewN | apply below_drew1) | exact HB.out)))); (case aL => have := LMc11.out; omega); intro v202 w14 ho hb hg hat; rw [← Ny201.out] at ho; have n0_ := Aside0.mk (Kd.R_over' (by (with_reducible repeat (first | apply Kd.R_alloc | apply Kd.R_drewN | apply Kd.R_drew)); exact HO_4.out) (Kd.R_typed (by (with_reducible repeat (first | apply Kd.R_alloc | apply Kd.R_drewN | apply Kd.R_drew)); exact HO_5.out)) (by decide) hg); have n1_ := Aside0.mk (Kd.R_over' (by (with_reducible repeat (first | apply Kd.R_alloc | apply Kd.R_drewN | apply Kd.R_drew)); exact HO200.out) (Kd.R_typed (by (with_reducible repeat (first | apply Kd.R_alloc | apply Kd.R_drewN | apply Kd.R_drew)); exact HO_5.out)) (by decide) hg); have n2_ := Aside0.mk (hb); have n3_ := Aside0.mk (ho); clear HO_4; clear HO200; clear HB; clear HO_5; have HO_4 := n0_; have HO200 := n1_; have HB := n2_; have HO203 := n3_; clear n0_ n1_ n2_ n3_; clear ho hb hg hat)))
                  go_roundg k1
                  case measure => have := HK1.out; omega
                  case rel => exact ⟨(y198), (y201), (wrap64 (x6_1 + 1)), (by first | rfl | (simp; done) | (simp [*]; done)), H', ⟨by have := HK1.out; omega⟩, ⟨by (with_reducible repeat (first | apply Kd.R_alloc | apply Kd.R_drewN | apply Kd.R_drew)); exact HO200.out⟩, ⟨by (with_reducible repeat (first | apply Kd.R_alloc | apply Kd.R_drewN | apply Kd.R_drew)); exact Kd.R_mono HO_4.out (fun _ hk => hk.2)⟩, ⟨by (with_reducible repeat (first | apply Kd.R_alloc | apply Kd.R_drewN | apply Kd.R_drew)); exact HO203.out⟩, ⟨by repeat (first | (with_reducible first | exact HB.out | apply below_alloc | apply pw_below_drewN | apply below_drew1) | exact HB.out)⟩⟩
                · rw [if_neg c11] at H
                  exact absurd H (by simp)
              · rw [if_neg c10] at H
                exact absurd H (by simp)
            · rw [if_neg c9] at H
              exact absurd H (by simp)
          · rw [if_neg c8] at H
            have c8b0 : ((Go.bits .and .i64 (ji7) 1) == 1) = false := beq_eq_false_iff_ne.mpr c8
            have c8b1 : ((Go.bits .and .i64 (ji7) 1) != 1) = true := bne_iff_ne.mpr c8
            have H' := Aside0.mk H
            clear H
            go_wp2
            repeat (go_quiet (fail); try go_wp2)
            go_roundg k1
            case measure => have := HK1.out; omega
            case rel => exact ⟨(x3_1), (x5_1), (wrap64 (x6_1 + 1)), (by first | rfl | (simp; done) | (simp [*]; done)), H', ⟨by have := HK1.out; omega⟩, ⟨by (with_reducible repeat (first | apply Kd.R_alloc | apply Kd.R_drewN | apply Kd.R_drew)); exact HO_3.out⟩, ⟨by (with_reducible repeat (first | apply Kd.R_alloc | apply Kd.R_drewN | apply Kd.R_drew)); exact HO_4.out⟩, ⟨by (with_reducible repeat (first | apply Kd.R_alloc | apply Kd.R_drewN | apply Kd.R_drew)); exact HO_5.out⟩, ⟨by repeat (first | (with_reducible first | exact HB.out | apply below_alloc | apply pw_below_drewN | apply below_drew1) | exact HB.out)⟩⟩
        · rw [if_neg c6] at H
          exact absurd H (by simp)
      · rw [if_neg c4] at H
        have c4b0 : decide (x6_1 < 16) = false := decide_eq_false c4
        clear c4
        have H' := Aside0.mk H
        clear H
        go_wp2
        repeat (go_quiet (fail); try go_wp2)
        go_loopg [8] k1 (fun kq v8 w' => ∃ (x8_2 : Int), v8 = .int .i64 x8_2 ∧ Aside0 (terrierlaw11_TurnRounds.l1 kq x3_1 x5_1 x8_2 = some r) ∧ Aside0 (kq ≤ k1) ∧ Aside0 (Kd.R k36 36 w' w.heap.size (fun _ => True) u3 x3_1) ∧ Aside0 (Kd.R (Kd.int .i64) 3 w' w.heap.size (fun _ => True) u5 x5_1) ∧ Aside0 (Below w.heap.size w w'))
        case atStart => exact ⟨(0), (by first | rfl | (simp; done) | (simp [*]; done)), H', ⟨Nat.le_refl _⟩, ⟨by (with_reducible repeat (first | apply Kd.R_alloc | apply Kd.R_drewN | apply Kd.R_drew)); exact Kd.R_mono HO_3.out (fun _ hk => trivial)⟩, ⟨by (with_reducible repeat (first | apply Kd.R_alloc | apply Kd.R_drewN | apply Kd.R_drew)); exact HO_5.out⟩, ⟨by repeat (first | (with_reducible first | exact HB.out | apply below_alloc | apply pw_below_drewN | apply below_drew1) | exact HB.out)⟩⟩
        case round =>
          clear H'
          try clear c1
          try clear p1
          try clear q1
          try clear hx1
          try clear c2
          try clear p2
          try clear c4
          try clear c4b0
          try clear c6
          try clear c6b0
          try clear c6b1
          try clear p6
          try clear c8
          try clear c8b0
          try clear c8b1
          try clear c9
          try clear c9b0
          try clear c10
          try clear c11
          try clear hx197_0
          try clear hx197_1
          try clear p197
          try clear p2
          try clear q197
          obtain ⟨x8_2, rfl, HA, HK2, HO_3, HO_5, HB⟩ := hrel
          cases gk with
          | zero => exact absurd HA.out (by simp [terrierlaw11_TurnRounds.l1])
          | succ k2 =>
            have H := HA.out
            clear HA
            simp only [terrierlaw11_TurnRounds.l1] at H
            by_cases c15 : x8_2 < (x3_1.length : Int)
            · rw [if_pos c15] at H
              have c15b0 : decide (x8_2 < (x3_1.length : Int)) = true := decide_eq_true c15
              clear c15
              have H' := Aside0.mk H
              clear H
              obtain ⟨Ao16, co16, eo16⟩ := Kd.R_slice HO_3.out
              subst eo16
              go_wp2
              repeat (go_quiet (fail); try go_wp2)
              go_loopg [9, 10, 11] k2 (fun kq v9 v10 v11 w' => ∃ (x9_3 : Int) (x10_3 : Int) (x11_3 : Int), v9 = .int .i64 x9_3 ∧ v10 = .int .i64 x10_3 ∧ v11 = .int .i64 x11_3 ∧ Aside0 (terrierlaw11_TurnRounds.l2 kq x3_1 x5_1 x8_2 x9_3 x10_3 x11_3 = some r) ∧ Aside0 (kq ≤ k2) ∧ Aside0 (Kd.R k36 36 w' w.heap.size (fun _ => True) (.slice Ao16 x3_1.length co16) x3_1) ∧ Aside0 (Kd.R (Kd.int .i64) 3 w' w.heap.size (fun _ => True) u5 x5_1) ∧ Aside0 (Below w.heap.size w w'))
              case atStart => exact ⟨(x8_2), (x8_2), (0), (by first | rfl | (simp; done) | (simp [*]; done)), (by first | rfl | (simp; done) | (simp [*]; done)), (by first | rfl | (simp; done) | (simp [*]; done)), H', ⟨Nat.le_refl _⟩, ⟨by (with_reducible repeat (first | apply Kd.R_alloc | apply Kd.R_drewN | apply Kd.R_drew)); exact HO_3.out⟩, ⟨by (with_reducible repeat (first | apply Kd.R_alloc | apply Kd.R_drewN | apply Kd.R_drew)); exact HO_5.out⟩, ⟨by repeat (first | (with_reducible first | exact HB.out | apply below_alloc | apply pw_below_drewN | apply below_drew1) | exact HB.out)⟩⟩
              case round =>
                clear H'
                try clear c1
                try clear p1
                try clear q1
                try clear hx1
                try clear c2
                try clear p2
                try clear c4
                try clear c4b0
                try clear c6
                try clear c6b0
                try clear c6b1
                try clear p6
                try clear c8
                try clear c8b0
                try clear c8b1
                try clear c9
                try clear c9b0
                try clear c10
                try clear c11
                try clear c15
                try clear c15b0
                try clear hx197_0
                try clear hx197_1
                try clear p1
                try clear p197
                try clear p2
                try clear p6
                try clear q1
                try clear q197
                obtain ⟨x9_3, x10_3, x11_3, rfl, rfl, rfl, HA, HK3, HO_3, HO_5, HB⟩ := hrel
                cases gk with
                | zero => exact absurd HA.out (by simp [terrierlaw11_TurnRounds.l2])
                | succ k3 =>
                  have H := HA.out
                  clear HA
                  simp only [terrierlaw11_TurnRounds.l2] at H
                  by_cases c17 : x11_3 < (x3_1.length : Int)
                  · rw [if_pos c17] at H
                    have c17b0 : decide (x11_3 < (x3_1.length : Int)) = true := decide_eq_true c17
                    clear c17
                    by_cases c18 : x11_3 = x8_2
                    · rw [if_pos c18] at H
                      have c18b0 : (x11_3 == x8_2) = true := beq_iff_eq.mpr c18
                      have c18b1 : (x11_3 != x8_2) = false := bne_eq_false_iff_eq.mpr c18
                      clear c18
                      have H' := Aside0.mk H
                      clear H
                      go_wp2
                      repeat (go_quiet (fail); try go_wp2)
                      go_roundg k3
                      case measure => have := HK1.out; have := HK2.out; have := HK3.out; omega
                      case rel => exact ⟨(x9_3), (x10_3), (wrap64 (x11_3 + 1)), (by first | rfl | (simp; done) | (simp [*]; done)), (by first | rfl | (simp; done) | (simp [*]; done)), (by first | rfl | (simp; done) | (simp [*]; done)), H', ⟨by have := HK1.out; have := HK2.out; have := HK3.out; omega⟩, ⟨by (with_reducible repeat (first | apply Kd.R_alloc | apply Kd.R_drewN | apply Kd.R_drew)); exact HO_3.out⟩, ⟨by (with_reducible repeat (first | apply Kd.R_alloc | apply Kd.R_drewN | apply Kd.R_drew)); exact HO_5.out⟩, ⟨by repeat (first | (with_reducible first | exact HB.out | apply below_alloc | apply pw_below_drewN | apply below_drew1) | exact HB.out)⟩⟩
                    · rw [if_neg c18] at H
                      have c18b0 : (x11_3 == x8_2) = false := beq_eq_false_iff_ne.mpr c18
                      have c18b1 : (x11_3 != x8_2) = true := bne_iff_ne.mpr c18
                      by_cases c19 : 0 ≤ x11_3
                      · rw [if_pos c19] at H
                        have c19b0 : decide (0 ≤ x11_3) = true := decide_eq_true c19
                        clear c19
                        by_cases c20 : x11_3 < (x5_1.length : Int)
                        · rw [if_pos c20] at H
                          have c20b0 : decide (x11_3 < (x5_1.length : Int)) = true := decide_eq_true c20
                          clear c20
                          by_cases c21 : 0 ≤ x8_2
                          · rw [if_pos c21] at H
                            have c21b0 : decide (0 ≤ x8_2) = true := decide_eq_true c21
                            clear c21
                            by_cases c22 : x8_2 < (x5_1.length : Int)
                            · rw [if_pos c22] at H
                              have c22b0 : decide (x8_2 < (x5_1.length : Int)) = true := decide_eq_true c22
                              clear c22
                              by_cases c23 : 0 ≤ x9_3
                              · rw [if_pos c23] at H
                                have c23b0 : decide (0 ≤ x9_3) = true := decide_eq_true c23
                                clear c23
                                by_cases c24 : x9_3 < (x5_1.length : Int)
                                · rw [if_pos c24] at H
                                  have c24b0 : decide (x9_3 < (x5_1.length : Int)) = true := decide_eq_true c24
                                  clear c24
                                  have HC25 := Aside0.mk H
                                  clear H
                                  obtain ⟨Ao26, co26, eo26⟩ := Kd.R_slice HO_5.out
                                  subst eo26
                                  have p205 : 0 ≤ (x11_3 : Int) := of_decide_eq_true (by first | (with_reducible assumption) | assumption)
                                  have q205 : x11_3 < (x5_1.length : Int) := of_decide_eq_true (by first | (with_reducible assumption) | assumption)
                                  obtain ⟨ad205, e205, hx205_0⟩ := Kd.at_int (Kd.R_reads' HO_5.out).2.2 x11_3 p205 q205
                                  cases e205
                                  replace p205 := eq_true p205
                                  replace q205 := eq_true q205
                                  have p206 : 0 ≤ (x8_2 : Int) := of_decide_eq_true (by first | (with_reducible assumption) | assumption)
                                  have q206 : x8_2 < (x5_1.length : Int) := of_decide_eq_true (by first | (with_reducible assumption) | assumption)
                                  obtain ⟨ad206, e206, hx206_0⟩ := Kd.at_int (Kd.R_reads' HO_5.out).2.2 x8_2 p206 q206
                                  obtain rfl : ad205 = ad206 := (by injection e206)
                                  replace p206 := eq_true p206
                                  replace q206 := eq_true q206
                                  have p207 : 0 ≤ (x9_3 : Int) := of_decide_eq_true (by first | (with_reducible assumption) | assumption)
                                  have q207 : x9_3 < (x5_1.length : Int) := of_decide_eq_true (by first | (with_reducible assumption) | assumption)
                                  obtain ⟨ad207, e207, hx207_0⟩ := Kd.at_int (Kd.R_reads' HO_5.out).2.2 x9_3 p207 q207
                                  obtain rfl : ad205 = ad207 := (by injection e207)
                                  replace p207 := eq_true p207
                                  replace q207 := eq_true q207
                                  have p208 : 0 ≤ (x8_2 : Int) := of_decide_eq_true (by first | (with_reducible assumption) | assumption)
                                  have q208 : x8_2 < (x5_1.length : Int) := of_decide_eq_true (by first | (with_reducible assumption) | assumption)
                                  obtain ⟨ad208, e208, hx208_0⟩ := Kd.at_int (Kd.R_reads' HO_5.out).2.2 x8_2 p208 q208
                                  obtain rfl : ad205 = ad208 := (by injection e208)
                                  replace p208 := eq_true p208
                                  replace q208 := eq_true q208
                                  go_upto_region 20 with (fail)
                                  repeat (go_quiet (fail); go_upto_region 20 with (fail))
                                  go_cut [106] (fun v106 wc => ∃ (kq : Nat) (x106_24 : Bool), v106 = .bool x106_24 ∧ Aside0 (terrierlaw11_TurnRounds.j3 kq x3_1 x5_1 x8_2 x9_3 x10_3 x11_3 x106_24 = some r) ∧ Aside0 (kq ≤ k3) ∧ Aside0 (Kd.R k36 36 wc w.heap.size (fun _ => True) (.slice Ao16 x3_1.length co16) x3_1) ∧ Aside0 (Kd.R (Kd.int .i64) 3 wc w.heap.size (fun _ => True) (.slice (some ad205) x5_1.length co26) x5_1) ∧ Aside0 (Below w.heap.size w wc))
                                  case first =>
                                    have H := HC25.out
                                    clear HC25
                                    by_cases c27 : x9_3 = x8_2
                                    · rw [if_pos c27] at H
                                      have c27b0 : (x9_3 == x8_2) = true := beq_iff_eq.mpr c27
                                      have c27b1 : (x9_3 != x8_2) = false := bne_eq_false_iff_eq.mpr c27
                                      clear c27
                                      (first | rw [c27b0] | (simp only [i64_w, i32_w]; rw [c27b0]) | skip)
                                      have H' := Aside0.mk H
                                      clear H
                                      go_wp2
                                      repeat (go_quiet (fail); try go_wp2)
                                      go_meet
                                      case rel => exact ⟨_, (true), (by first | rfl | (simp; done) | (simp [*]; done)), H', ⟨by have := HK1.out; have := HK2.out; have := HK3.out; first | omega | exact Nat.le_refl _⟩, ⟨by (with_reducible repeat (first | apply Kd.R_alloc | apply Kd.R_drewN | apply Kd.R_drew)); exact HO_3.out⟩, ⟨by (with_reducible repeat (first | apply Kd.R_alloc | apply Kd.R_drewN | apply Kd.R_drew)); exact HO_5.out⟩, ⟨by repeat (first | (with_reducible first | exact HB.out | apply below_alloc | apply pw_below_drewN | apply below_drew1) | exact HB.out)⟩⟩
                                    · rw [if_neg c27] at H
                                      have c27b0 : (x9_3 == x8_2) = false := beq_eq_false_iff_ne.mpr c27
                                      have c27b1 : (x9_3 != x8_2) = true := bne_iff_ne.mpr c27
                                      (first | rw [c27b0] | (simp only [i64_w, i32_w]; rw [c27b0]) | skip)
                                      have H' := Aside0.mk H
                                      clear H
                                      go_wp2
                                      repeat (go_quiet (fail); try go_wp2)
                                      go_meet
                                      case rel => exact ⟨_, (decide ((Int.tmod (wrap64 ((wrap64 ((rd x5_1 x11_3) - (rd x5_1 x8_2))) + 16)) 16) < (Int.tmod (wrap64 ((wrap64 ((rd x5_1 x9_3) - (rd x5_1 x8_2))) + 16)) 16))), (by first | rfl | (simp; done) | (simp [*]; done)), H', ⟨by have := HK1.out; have := HK2.out; have := HK3.out; first | omega | exact Nat.le_refl _⟩, ⟨by (with_reducible repeat (first | apply Kd.R_alloc | apply Kd.R_drewN | apply Kd.R_drew)); exact HO_3.out⟩, ⟨by (with_reducible repeat (first | apply Kd.R_alloc | apply Kd.R_drewN | apply Kd.R_drew)); exact HO_5.out⟩, ⟨by repeat (first | (with_reducible first | exact HB.out | apply below_alloc | apply pw_below_drewN | apply below_drew1) | exact HB.out)⟩⟩
                                  case rest =>
                                    clear HC25
                                    try clear c1
                                    try clear p1
                                    try clear q1
                                    try clear hx1
                                    try clear c2
                                    try clear p2
                                    try clear q2
                                    try clear hx2
                                    try clear c4
                                    try clear c4b0
                                    try clear c6
                                    try clear c6b0
                                    try clear c6b1
                                    try clear p6
                                    try clear c8
                                    try clear c8b0
                                    try clear c8b1
                                    try clear c9
                                    try clear c9b0
                                    try clear c10
                                    try clear c11
                                    try clear c15
                                    try clear c15b0
                                    try clear c17
                                    try clear c17b0
                                    try clear c18
                                    try clear c18b0
                                    try clear c18b1
                                    try clear c19
                                    try clear c19b0
                                    try clear p19
                                    try clear q19
                                    try clear hx19
                                    try clear c20
                                    try clear c20b0
                                    try clear p20
                                    try clear q20
                                    try clear hx20
                                    try clear c21
                                    try clear c21b0
                                    try clear c22
                                    try clear c22b0
                                    try clear c23
                                    try clear c23b0
                                    try clear c24
                                    try clear c24b0
                                    try clear c27
                                    try clear c27b0
                                    try clear c27b1
                                    try clear hx197_0
                                    try clear hx197_1
                                    try clear hx205_0
                                    try clear hx206_0
                                    try clear hx207_0
                                    try clear hx208_0
                                    try clear p1
                                    try clear p197
                                    try clear p2
                                    try clear p205
                                    try clear p206
                                    try clear p207
                                    try clear p208
                                    try clear p6
                                    try clear q1
                                    try clear q197
                                    try clear q205
                                    try clear q206
                                    try clear q207
                                    try clear q208
                                    obtain ⟨kq, x106_24, rfl, HA, HJ24, HO_3, HO_5, HB⟩ := hcut
                                    cases kq with
                                    | zero => exact absurd HA.out (by simp [terrierlaw11_TurnRounds.j3])
                                    | succ kj24 =>
                                      have H := HA.out
                                      clear HA
                                      simp only [terrierlaw11_TurnRounds.j3] at H
                                      by_cases c28 : x106_24 = true
                                      · subst c28
                                        have H1 : (if 0 ≤ x8_2 then (if x8_2 < (x5_1.length : Int) then (if 0 ≤ x11_3 then (if x11_3 < (x5_1.length : Int) then (if 0 ≤ x10_3 then (if x10_3 < (x5_1.length : Int) then (if x10_3 = x8_2 then (terrierlaw11_TurnRounds.l2 kj24 x3_1 x5_1 x8_2 x11_3 x11_3 (wrap64 (x11_3 + 1))) else (if (Int.tmod (wrap64 ((wrap64 ((rd x5_1 x8_2) - (rd x5_1 x11_3))) + 16)) 16) < (Int.tmod (wrap64 ((wrap64 ((rd x5_1 x8_2) - (rd x5_1 x10_3))) + 16)) 16) then (terrierlaw11_TurnRounds.l2 kj24 x3_1 x5_1 x8_2 x11_3 x11_3 (wrap64 (x11_3 + 1))) else (terrierlaw11_TurnRounds.l2 kj24 x3_1 x5_1 x8_2 x11_3 x10_3 (wrap64 (x11_3 + 1))))) else (none)) else (none)) else (none)) else (none)) else (none)) else (none)) = some r := by rw [if_pos rfl] at H; exact H
                                        clear H
                                        have H := H1
                                        clear H1
                                        by_cases c29 : 0 ≤ x8_2
                                        · rw [if_pos c29] at H
                                          have c29b0 : decide (0 ≤ x8_2) = true := decide_eq_true c29
                                          clear c29
                                          by_cases c30 : x8_2 < (x5_1.length : Int)
                                          · rw [if_pos c30] at H
                                            have c30b0 : decide (x8_2 < (x5_1.length : Int)) = true := decide_eq_true c30
                                            clear c30
                                            by_cases c31 : 0 ≤ x11_3
                                            · rw [if_pos c31] at H
                                              have c31b0 : decide (0 ≤ x11_3) = true := decide_eq_true c31
                                              clear c31
                                              by_cases c32 : x11_3 < (x5_1.length : Int)
                                              · rw [if_pos c32] at H
                                                have c32b0 : decide (x11_3 < (x5_1.length : Int)) = true := decide_eq_true c32
                                                clear c32
                                                by_cases c33 : 0 ≤ x10_3
                                                · rw [if_pos c33] at H
                                                  have c33b0 : decide (0 ≤ x10_3) = true := decide_eq_true c33
                                                  clear c33
                                                  by_cases c34 : x10_3 < (x5_1.length : Int)
                                                  · rw [if_pos c34] at H
                                                    have c34b0 : decide (x10_3 < (x5_1.length : Int)) = true := decide_eq_true c34
                                                    clear c34
                                                    by_cases c35 : x10_3 = x8_2
                                                    · rw [if_pos c35] at H
                                                      have c35b0 : (x10_3 == x8_2) = true := beq_iff_eq.mpr c35
                                                      have c35b1 : (x10_3 != x8_2) = false := bne_eq_false_iff_eq.mpr c35
                                                      clear c35
                                                      have H' := Aside0.mk H
                                                      clear H
                                                      have p209 : 0 ≤ (x8_2 : Int) := of_decide_eq_true (by first | (with_reducible assumption) | assumption)
                                                      have q209 : x8_2 < (x5_1.length : Int) := of_decide_eq_true (by first | (with_reducible assumption) | assumption)
                                                      obtain ⟨ad209, e209, hx209_0⟩ := Kd.at_int (Kd.R_reads' HO_5.out).2.2 x8_2 p209 q209
                                                      obtain rfl : ad205 = ad209 := (by injection e209)
                                                      replace p209 := eq_true p209
                                                      replace q209 := eq_true q209
                                                      have p210 : 0 ≤ (x11_3 : Int) := of_decide_eq_true (by first | (with_reducible assumption) | assumption)
                                                      have q210 : x11_3 < (x5_1.length : Int) := of_decide_eq_true (by first | (with_reducible assumption) | assumption)
                                                      obtain ⟨ad210, e210, hx210_0⟩ := Kd.at_int (Kd.R_reads' HO_5.out).2.2 x11_3 p210 q210
                                                      obtain rfl : ad205 = ad210 := (by injection e210)
                                                      replace p210 := eq_true p210
                                                      replace q210 := eq_true q210
                                                      have p211 : 0 ≤ (x8_2 : Int) := of_decide_eq_true (by first | (with_reducible assumption) | assumption)
                                                      have q211 : x8_2 < (x5_1.length : Int) := of_decide_eq_true (by first | (with_reducible assumption) | assumption)
                                                      obtain ⟨ad211, e211, hx211_0⟩ := Kd.at_int (Kd.R_reads' HO_5.out).2.2 x8_2 p211 q211
                                                      obtain rfl : ad205 = ad211 := (by injection e211)
                                                      replace p211 := eq_true p211
                                                      replace q211 := eq_true q211
                                                      have p212 : 0 ≤ (x10_3 : Int) := of_decide_eq_true (by first | (with_reducible assumption) | assumption)
                                                      have q212 : x10_3 < (x5_1.length : Int) := of_decide_eq_true (by first | (with_reducible assumption) | assumption)
                                                      obtain ⟨ad212, e212, hx212_0⟩ := Kd.at_int (Kd.R_reads' HO_5.out).2.2 x10_3 p212 q212
                                                      obtain rfl : ad205 = ad212 := (by injection e212)
                                                      replace p212 := eq_true p212
                                                      replace q212 := eq_true q212
                                                      go_wp2
                                                      repeat (go_quiet (fail); try go_wp2)
                                                      go_roundg kj24
                                                      case measure => have := HK1.out; have := HK2.out; have := HK3.out; have := HJ24.out; omega
                                                      case rel => exact ⟨(x11_3), (x11_3), (wrap64 (x11_3 + 1)), (by first | rfl | (simp; done) | (simp [*]; done)), (by first | rfl | (simp; done) | (simp [*]; done)), (by first | rfl | (simp; done) | (simp [*]; done)), H', ⟨by have := HK1.out; have := HK2.out; have := HK3.out; have := HJ24.out; omega⟩, ⟨by (with_reducible repeat (first | apply Kd.R_alloc | apply Kd.R_drewN | apply Kd.R_drew)); exact HO_3.out⟩, ⟨by (with_reducible repeat (first | apply Kd.R_alloc | apply Kd.R_drewN | apply Kd.R_drew)); exact HO_5.out⟩, ⟨by repeat (first | (with_reducible first | exact HB.out | apply below_alloc | apply pw_below_drewN | apply below_drew1) | exact HB.out)⟩⟩
                                                    · rw [if_neg c35] at H
                                                      have c35b0 : (x10_3 == x8_2) = false := beq_eq_false_iff_ne.mpr c35
                                                      have c35b1 : (x10_3 != x8_2) = true := bne_iff_ne.mpr c35
                                                      by_cases c36 : (Int.tmod (wrap64 ((wrap64 ((rd x5_1 x8_2) - (rd x5_1 x11_3))) + 16)) 16) < (Int.tmod (wrap64 ((wrap64 ((rd x5_1 x8_2) - (rd x5_1 x10_3))) + 16)) 16)
                                                      · rw [if_pos c36] at H
                                                        have c36b0 : decide ((Int.tmod (wrap64 ((wrap64 ((rd x5_1 x8_2) - (rd x5_1 x11_3))) + 16)) 16) < (Int.tmod (wrap64 ((wrap64 ((rd x5_1 x8_2) - (rd x5_1 x10_3))) + 16)) 16)) = true := decide_eq_true c36
                                                        clear c36
                                                        have H' := Aside0.mk H
                                                        clear H
                                                        have p209 : 0 ≤ (x8_2 : Int) := of_decide_eq_true (by first | (with_reducible assumption) | assumption)
                                                        have q209 : x8_2 < (x5_1.length : Int) := of_decide_eq_true (by first | (with_reducible assumption) | assumption)
                                                        obtain ⟨ad209, e209, hx209_0⟩ := Kd.at_int (Kd.R_reads' HO_5.out).2.2 x8_2 p209 q209
                                                        obtain rfl : ad205 = ad209 := (by injection e209)
                                                        replace p209 := eq_true p209
                                                        replace q209 := eq_true q209
                                                        have p210 : 0 ≤ (x11_3 : Int) := of_decide_eq_true (by first | (with_reducible assumption) | assumption)
                                                        have q210 : x11_3 < (x5_1.length : Int) := of_decide_eq_true (by first | (with_reducible assumption) | assumption)
                                                        obtain ⟨ad210, e210, hx210_0⟩ := Kd.at_int (Kd.R_reads' HO_5.out).2.2 x11_3 p210 q210
                                                        obtain rfl : ad205 = ad210 := (by injection e210)
                                                        replace p210 := eq_true p210
                                                        replace q210 := eq_true q210
                                                        have p211 : 0 ≤ (x8_2 : Int) := of_decide_eq_true (by first | (with_reducible assumption) | assumption)
                                                        have q211 : x8_2 < (x5_1.length : Int) := of_decide_eq_true (by first | (with_reducible assumption) | assumption)
                                                        obtain ⟨ad211, e211, hx211_0⟩ := Kd.at_int (Kd.R_reads' HO_5.out).2.2 x8_2 p211 q211
                                                        obtain rfl : ad205 = ad211 := (by injection e211)
                                                        replace p211 := eq_true p211
                                                        replace q211 := eq_true q211
                                                        have p212 : 0 ≤ (x10_3 : Int) := of_decide_eq_true (by first | (with_reducible assumption) | assumption)
                                                        have q212 : x10_3 < (x5_1.length : Int) := of_decide_eq_true (by first | (with_reducible assumption) | assumption)
                                                        obtain ⟨ad212, e212, hx212_0⟩ := Kd.at_int (Kd.R_reads' HO_5.out).2.2 x10_3 p212 q212
                                                        obtain rfl : ad205 = ad212 := (by injection e212)
                                                        replace p212 := eq_true p212
                                                        replace q212 := eq_true q212
                                                        go_wp2
                                                        repeat (go_quiet (fail); try go_wp2)
                                                        go_roundg kj24
                                                        case measure => have := HK1.out; have := HK2.out; have := HK3.out; have := HJ24.out; omega
                                                        case rel => exact ⟨(x11_3), (x11_3), (wrap64 (x11_3 + 1)), (by first | rfl | (simp; done) | (simp [*]; done)), (by first | rfl | (simp; done) | (simp [*]; done)), (by first | rfl | (simp; done) | (simp [*]; done)), H', ⟨by have := HK1.out; have := HK2.out; have := HK3.out; have := HJ24.out; omega⟩, ⟨by (with_reducible repeat (first | apply Kd.R_alloc | apply Kd.R_drewN | apply Kd.R_drew)); exact HO_3.out⟩, ⟨by (with_reducible repeat (first | apply Kd.R_alloc | apply Kd.R_drewN | apply Kd.R_drew)); exact HO_5.out⟩, ⟨by repeat (first | (with_reducible first | exact HB.out | apply below_alloc | apply pw_below_drewN | apply below_drew1) | exact HB.out)⟩⟩
                                                      · rw [if_neg c36] at H
                                                        have c36b0 : decide ((Int.tmod (wrap64 ((wrap64 ((rd x5_1 x8_2) - (rd x5_1 x11_3))) + 16)) 16) < (Int.tmod (wrap64 ((wrap64 ((rd x5_1 x8_2) - (rd x5_1 x10_3))) + 16)) 16)) = false := decide_eq_false c36
                                                        clear c36
                                                        have H' := Aside0.mk H
                                                        clear H
                                                        have p209 : 0 ≤ (x8_2 : Int) := of_decide_eq_true (by first | (with_reducible assumption) | assumption)
                                                        have q209 : x8_2 < (x5_1.length : Int) := of_decide_eq_true (by first | (with_reducible assumption) | assumption)
                                                        obtain ⟨ad209, e209, hx209_0⟩ := Kd.at_int (Kd.R_reads' HO_5.out).2.2 x8_2 p209 q209
                                                        obtain rfl : ad205 = ad209 := (by injection e209)
                                                        replace p209 := eq_true p209
                                                        replace q209 := eq_true q209
                                                        have p210 : 0 ≤ (x11_3 : Int) := of_decide_eq_true (by first | (with_reducible assumption) | assumption)
                                                        have q210 : x11_3 < (x5_1.length : Int) := of_decide_eq_true (by first | (with_reducible assumption) | assumption)
                                                        obtain ⟨ad210, e210, hx210_0⟩ := Kd.at_int (Kd.R_reads' HO_5.out).2.2 x11_3 p210 q210
                                                        obtain rfl : ad205 = ad210 := (by injection e210)
                                                        replace p210 := eq_true p210
                                                        replace q210 := eq_true q210
                                                        have p211 : 0 ≤ (x8_2 : Int) := of_decide_eq_true (by first | (with_reducible assumption) | assumption)
                                                        have q211 : x8_2 < (x5_1.length : Int) := of_decide_eq_true (by first | (with_reducible assumption) | assumption)
                                                        obtain ⟨ad211, e211, hx211_0⟩ := Kd.at_int (Kd.R_reads' HO_5.out).2.2 x8_2 p211 q211
                                                        obtain rfl : ad205 = ad211 := (by injection e211)
                                                        replace p211 := eq_true p211
                                                        replace q211 := eq_true q211
                                                        have p212 : 0 ≤ (x10_3 : Int) := of_decide_eq_true (by first | (with_reducible assumption) | assumption)
                                                        have q212 : x10_3 < (x5_1.length : Int) := of_decide_eq_true (by first | (with_reducible assumption) | assumption)
                                                        obtain ⟨ad212, e212, hx212_0⟩ := Kd.at_int (Kd.R_reads' HO_5.out).2.2 x10_3 p212 q212
                                                        obtain rfl : ad205 = ad212 := (by injection e212)
                                                        replace p212 := eq_true p212
                                                        replace q212 := eq_true q212
                                                        go_wp2
                                                        repeat (go_quiet (fail); try go_wp2)
                                                        go_roundg kj24
                                                        case measure => have := HK1.out; have := HK2.out; have := HK3.out; have := HJ24.out; omega
                                                        case rel => exact ⟨(x11_3), (x10_3), (wrap64 (x11_3 + 1)), (by first | rfl | (simp; done) | (simp [*]; done)), (by first | rfl | (simp; done) | (simp [*]; done)), (by first | rfl | (simp; done) | (simp [*]; done)), H', ⟨by have := HK1.out; have := HK2.out; have := HK3.out; have := HJ24.out; omega⟩, ⟨by (with_reducible repeat (first | apply Kd.R_alloc | apply Kd.R_drewN | apply Kd.R_drew)); exact HO_3.out⟩, ⟨by (with_reducible repeat (first | apply Kd.R_alloc | apply Kd.R_drewN | apply Kd.R_drew)); exact HO_5.out⟩, ⟨by repeat (first | (with_reducible first | exact HB.out | apply below_alloc | apply pw_below_drewN | apply below_drew1) | exact HB.out)⟩⟩
                                                  · rw [if_neg c34] at H
                                                    exact absurd H (by simp)
                                                · rw [if_neg c33] at H
                                                  exact absurd H (by simp)
                                              · rw [if_neg c32] at H
                                                exact absurd H (by simp)
                                            · rw [if_neg c31] at H
                                              exact absurd H (by simp)
                                          · rw [if_neg c30] at H
                                            exact absurd H (by simp)
                                        · rw [if_neg c29] at H
                                          exact absurd H (by simp)
                                      · replace c28 := Bool.eq_false_iff.mpr c28
                                        subst c28
                                        have H1 : (if 0 ≤ x8_2 then (if x8_2 < (x5_1.length : Int) then (if 0 ≤ x11_3 then (if x11_3 < (x5_1.length : Int) then (if 0 ≤ x10_3 then (if x10_3 < (x5_1.length : Int) then (if x10_3 = x8_2 then (terrierlaw11_TurnRounds.l2 kj24 x3_1 x5_1 x8_2 x9_3 x11_3 (wrap64 (x11_3 + 1))) else (if (Int.tmod (wrap64 ((wrap64 ((rd x5_1 x8_2) - (rd x5_1 x11_3))) + 16)) 16) < (Int.tmod (wrap64 ((wrap64 ((rd x5_1 x8_2) - (rd x5_1 x10_3))) + 16)) 16) then (terrierlaw11_TurnRounds.l2 kj24 x3_1 x5_1 x8_2 x9_3 x11_3 (wrap64 (x11_3 + 1))) else (terrierlaw11_TurnRounds.l2 kj24 x3_1 x5_1 x8_2 x9_3 x10_3 (wrap64 (x11_3 + 1))))) else (none)) else (none)) else (none)) else (none)) else (none)) else (none)) = some r := by rw [if_neg (show ¬ (false = true) by decide)] at H; exact H
                                        clear H
                                        have H := H1
                                        clear H1
                                        by_cases c37 : 0 ≤ x8_2
                                        · rw [if_pos c37] at H
                                          have c37b0 : decide (0 ≤ x8_2) = true := decide_eq_true c37
                                          clear c37
                                          by_cases c38 : x8_2 < (x5_1.length : Int)
                                          · rw [if_pos c38] at H
                                            have c38b0 : decide (x8_2 < (x5_1.length : Int)) = true := decide_eq_true c38
                                            clear c38
                                            by_cases c39 : 0 ≤ x11_3
                                            · rw [if_pos c39] at H
                                              have c39b0 : decide (0 ≤ x11_3) = true := decide_eq_true c39
                                              clear c39
                                              by_cases c40 : x11_3 < (x5_1.length : Int)
                                              · rw [if_pos c40] at H
                                                have c40b0 : decide (x11_3 < (x5_1.length : Int)) = true := decide_eq_true c40
                                                clear c40
                                                by_cases c41 : 0 ≤ x10_3
                                                · rw [if_pos c41] at H
                                                  have c41b0 : decide (0 ≤ x10_3) = true := decide_eq_true c41
                                                  clear c41
                                                  by_cases c42 : x10_3 < (x5_1.length : Int)
                                                  · rw [if_pos c42] at H
                                                    have c42b0 : decide (x10_3 < (x5_1.length : Int)) = true := decide_eq_true c42
                                                    clear c42
                                                    by_cases c43 : x10_3 = x8_2
                                                    · rw [if_pos c43] at H
                                                      have c43b0 : (x10_3 == x8_2) = true := beq_iff_eq.mpr c43
                                                      have c43b1 : (x10_3 != x8_2) = false := bne_eq_false_iff_eq.mpr c43
                                                      clear c43
                                                      have H' := Aside0.mk H
                                                      clear H
                                                      have p213 : 0 ≤ (x8_2 : Int) := of_decide_eq_true (by first | (with_reducible assumption) | assumption)
                                                      have q213 : x8_2 < (x5_1.length : Int) := of_decide_eq_true (by first | (with_reducible assumption) | assumption)
                                                      obtain ⟨ad213, e213, hx213_0⟩ := Kd.at_int (Kd.R_reads' HO_5.out).2.2 x8_2 p213 q213
                                                      obtain rfl : ad205 = ad213 := (by injection e213)
                                                      replace p213 := eq_true p213
                                                      replace q213 := eq_true q213
                                                      have p214 : 0 ≤ (x11_3 : Int) := of_decide_eq_true (by first | (with_reducible assumption) | assumption)
                                                      have q214 : x11_3 < (x5_1.length : Int) := of_decide_eq_true (by first | (with_reducible assumption) | assumption)
                                                      obtain ⟨ad214, e214, hx214_0⟩ := Kd.at_int (Kd.R_reads' HO_5.out).2.2 x11_3 p214 q214
                                                      obtain rfl : ad205 = ad214 := (by injection e214)
                                                      replace p214 := eq_true p214
                                                      replace q214 := eq_true q214
                                                      have p215 : 0 ≤ (x8_2 : Int) := of_decide_eq_true (by first | (with_reducible assumption) | assumption)
                                                      have q215 : x8_2 < (x5_1.length : Int) := of_decide_eq_true (by first | (with_reducible assumption) | assumption)
                                                      obtain ⟨ad215, e215, hx215_0⟩ := Kd.at_int (Kd.R_reads' HO_5.out).2.2 x8_2 p215 q215
                                                      obtain rfl : ad205 = ad215 := (by injection e215)
                                                      replace p215 := eq_true p215
                                                      replace q215 := eq_true q215
                                                      have p216 : 0 ≤ (x10_3 : Int) := of_decide_eq_true (by first | (with_reducible assumption) | assumption)
                                                      have q216 : x10_3 < (x5_1.length : Int) := of_decide_eq_true (by first | (with_reducible assumption) | assumption)
                                                      obtain ⟨ad216, e216, hx216_0⟩ := Kd.at_int (Kd.R_reads' HO_5.out).2.2 x10_3 p216 q216
                                                      obtain rfl : ad205 = ad216 := (by injection e216)
                                                      replace p216 := eq_true p216
                                                      replace q216 := eq_true q216
                                                      go_wp2
                                                      repeat (go_quiet (fail); try go_wp2)
                                                      go_roundg kj24
                                                      case measure => have := HK1.out; have := HK2.out; have := HK3.out; have := HJ24.out; omega
                                                      case rel => exact ⟨(x9_3), (x11_3), (wrap64 (x11_3 + 1)), (by first | rfl | (simp; done) | (simp [*]; done)), (by first | rfl | (simp; done) | (simp [*]; done)), (by first | rfl | (simp; done) | (simp [*]; done)), H', ⟨by have := HK1.out; have := HK2.out; have := HK3.out; have := HJ24.out; omega⟩, ⟨by (with_reducible repeat (first | apply Kd.R_alloc | apply Kd.R_drewN | apply Kd.R_drew)); exact HO_3.out⟩, ⟨by (with_reducible repeat (first | apply Kd.R_alloc | apply Kd.R_drewN | apply Kd.R_drew)); exact HO_5.out⟩, ⟨by repeat (first | (with_reducible first | exact HB.out | apply below_alloc | apply pw_below_drewN | apply below_drew1) | exact HB.out)⟩⟩
                                                    · rw [if_neg c43] at H
                                                      have c43b0 : (x10_3 == x8_2) = false := beq_eq_false_iff_ne.mpr c43
                                                      have c43b1 : (x10_3 != x8_2) = true := bne_iff_ne.mpr c43
                                                      by_cases c44 : (Int.tmod (wrap64 ((wrap64 ((rd x5_1 x8_2) - (rd x5_1 x11_3))) + 16)) 16) < (Int.tmod (wrap64 ((wrap64 ((rd x5_1 x8_2) - (rd x5_1 x10_3))) + 16)) 16)
                                                      · rw [if_pos c44] at H
                                                        have c44b0 : decide ((Int.tmod (wrap64 ((wrap64 ((rd x5_1 x8_2) - (rd x5_1 x11_3))) + 16)) 16) < (Int.tmod (wrap64 ((wrap64 ((rd x5_1 x8_2) - (rd x5_1 x10_3))) + 16)) 16)) = true := decide_eq_true c44
                                                        clear c44
                                                        have H' := Aside0.mk H
                                                        clear H
                                                        have p213 : 0 ≤ (x8_2 : Int) := of_decide_eq_true (by first | (with_reducible assumption) | assumption)
                                                        have q213 : x8_2 < (x5_1.length : Int) := of_decide_eq_true (by first | (with_reducible assumption) | assumption)
                                                        obtain ⟨ad213, e213, hx213_0⟩ := Kd.at_int (Kd.R_reads' HO_5.out).2.2 x8_2 p213 q213
                                                        obtain rfl : ad205 = ad213 := (by injection e213)
                                                        replace p213 := eq_true p213
                                                        replace q213 := eq_true q213
                                                        have p214 : 0 ≤ (x11_3 : Int) := of_decide_eq_true (by first | (with_reducible assumption) | assumption)
                                                        have q214 : x11_3 < (x5_1.length : Int) := of_decide_eq_true (by first | (with_reducible assumption) | assumption)
                                                        obtain ⟨ad214, e214, hx214_0⟩ := Kd.at_int (Kd.R_reads' HO_5.out).2.2 x11_3 p214 q214
                                                        obtain rfl : ad205 = ad214 := (by injection e214)
                                                        replace p214 := eq_true p214
                                                        replace q214 := eq_true q214
                                                        have p215 : 0 ≤ (x8_2 : Int) := of_decide_eq_true (by first | (with_reducible assumption) | assumption)
                                                        have q215 : x8_2 < (x5_1.length : Int) := of_decide_eq_true (by first | (with_reducible assumption) | assumption)
                                                        obtain ⟨ad215, e215, hx215_0⟩ := Kd.at_int (Kd.R_reads' HO_5.out).2.2 x8_2 p215 q215
                                                        obtain rfl : ad205 = ad215 := (by injection e215)
                                                        replace p215 := eq_true p215
                                                        replace q215 := eq_true q215
                                                        have p216 : 0 ≤ (x10_3 : Int) := of_decide_eq_true (by first | (with_reducible assumption) | assumption)
                                                        have q216 : x10_3 < (x5_1.length : Int) := of_decide_eq_true (by first | (with_reducible assumption) | assumption)
                                                        obtain ⟨ad216, e216, hx216_0⟩ := Kd.at_int (Kd.R_reads' HO_5.out).2.2 x10_3 p216 q216
                                                        obtain rfl : ad205 = ad216 := (by injection e216)
                                                        replace p216 := eq_true p216
                                                        replace q216 := eq_true q216
                                                        go_wp2
                                                        repeat (go_quiet (fail); try go_wp2)
                                                        go_roundg kj24
                                                        case measure => have := HK1.out; have := HK2.out; have := HK3.out; have := HJ24.out; omega
                                                        case rel => exact ⟨(x9_3), (x11_3), (wrap64 (x11_3 + 1)), (by first | rfl | (simp; done) | (simp [*]; done)), (by first | rfl | (simp; done) | (simp [*]; done)), (by first | rfl | (simp; done) | (simp [*]; done)), H', ⟨by have := HK1.out; have := HK2.out; have := HK3.out; have := HJ24.out; omega⟩, ⟨by (with_reducible repeat (first | apply Kd.R_alloc | apply Kd.R_drewN | apply Kd.R_drew)); exact HO_3.out⟩, ⟨by (with_reducible repeat (first | apply Kd.R_alloc | apply Kd.R_drewN | apply Kd.R_drew)); exact HO_5.out⟩, ⟨by repeat (first | (with_reducible first | exact HB.out | apply below_alloc | apply pw_below_drewN | apply below_drew1) | exact HB.out)⟩⟩
                                                      · rw [if_neg c44] at H
                                                        have c44b0 : decide ((Int.tmod (wrap64 ((wrap64 ((rd x5_1 x8_2) - (rd x5_1 x11_3))) + 16)) 16) < (Int.tmod (wrap64 ((wrap64 ((rd x5_1 x8_2) - (rd x5_1 x10_3))) + 16)) 16)) = false := decide_eq_false c44
                                                        clear c44
                                                        have H' := Aside0.mk H
                                                        clear H
                                                        have p213 : 0 ≤ (x8_2 : Int) := of_decide_eq_true (by first | (with_reducible assumption) | assumption)
                                                        have q213 : x8_2 < (x5_1.length : Int) := of_decide_eq_true (by first | (with_reducible assumption) | assumption)
                                                        obtain ⟨ad213, e213, hx213_0⟩ := Kd.at_int (Kd.R_reads' HO_5.out).2.2 x8_2 p213 q213
                                                        obtain rfl : ad205 = ad213 := (by injection e213)
                                                        replace p213 := eq_true p213
                                                        replace q213 := eq_true q213
                                                        have p214 : 0 ≤ (x11_3 : Int) := of_decide_eq_true (by first | (with_reducible assumption) | assumption)
                                                        have q214 : x11_3 < (x5_1.length : Int) := of_decide_eq_true (by first | (with_reducible assumption) | assumption)
                                                        obtain ⟨ad214, e214, hx214_0⟩ := Kd.at_int (Kd.R_reads' HO_5.out).2.2 x11_3 p214 q214
                                                        obtain rfl : ad205 = ad214 := (by injection e214)
                                                        replace p214 := eq_true p214
                                                        replace q214 := eq_true q214
                                                        have p215 : 0 ≤ (x8_2 : Int) := of_decide_eq_true (by first | (with_reducible assumption) | assumption)
                                                        have q215 : x8_2 < (x5_1.length : Int) := of_decide_eq_true (by first | (with_reducible assumption) | assumption)
                                                        obtain ⟨ad215, e215, hx215_0⟩ := Kd.at_int (Kd.R_reads' HO_5.out).2.2 x8_2 p215 q215
                                                        obtain rfl : ad205 = ad215 := (by injection e215)
                                                        replace p215 := eq_true p215
                                                        replace q215 := eq_true q215
                                                        have p216 : 0 ≤ (x10_3 : Int) := of_decide_eq_true (by first | (with_reducible assumption) | assumption)
                                                        have q216 : x10_3 < (x5_1.length : Int) := of_decide_eq_true (by first | (with_reducible assumption) | assumption)
                                                        obtain ⟨ad216, e216, hx216_0⟩ := Kd.at_int (Kd.R_reads' HO_5.out).2.2 x10_3 p216 q216
                                                        obtain rfl : ad205 = ad216 := (by injection e216)
                                                        replace p216 := eq_true p216
                                                        replace q216 := eq_true q216
                                                        go_wp2
                                                        repeat (go_quiet (fail); try go_wp2)
                                                        go_roundg kj24
                                                        case measure => have := HK1.out; have := HK2.out; have := HK3.out; have := HJ24.out; omega
                                                        case rel => exact ⟨(x9_3), (x10_3), (wrap64 (x11_3 + 1)), (by first | rfl | (simp; done) | (simp [*]; done)), (by first | rfl | (simp; done) | (simp [*]; done)), (by first | rfl | (simp; done) | (simp [*]; done)), H', ⟨by have := HK1.out; have := HK2.out; have := HK3.out; have := HJ24.out; omega⟩, ⟨by (with_reducible repeat (first | apply Kd.R_alloc | apply Kd.R_drewN | apply Kd.R_drew)); exact HO_3.out⟩, ⟨by (with_reducible repeat (first | apply Kd.R_alloc | apply Kd.R_drewN | apply Kd.R_drew)); exact HO_5.out⟩, ⟨by repeat (first | (with_reducible first | exact HB.out | apply below_alloc | apply pw_below_drewN | apply below_drew1) | exact HB.out)⟩⟩
                                                  · rw [if_neg c42] at H
                                                    exact absurd H (by simp)
                                                · rw [if_neg c41] at H
                                                  exact absurd H (by simp)
                                              · rw [if_neg c40] at H
                                                exact absurd H (by simp)
                                            · rw [if_neg c39] at H
                                              exact absurd H (by simp)
                                          · rw [if_neg c38] at H
                                            exact absurd H (by simp)
                                        · rw [if_neg c37] at H
                                          exact absurd H (by simp)
                                · rw [if_neg c24] at H
                                  exact absurd H (by simp)
                              · rw [if_neg c23] at H
                                exact absurd H (by simp)
                            · rw [if_neg c22] at H
                              exact absurd H (by simp)
                          · rw [if_neg c21] at H
                            exact absurd H (by simp)
                        · rw [if_neg c20] at H
                          exact absurd H (by simp)
                      · rw [if_neg c19] at H
                        exact absurd H (by simp)
                  · rw [if_neg c17] at H
                    have c17b0 : decide (x11_3 < (x3_1.length : Int)) = false := decide_eq_false c17
                    clear c17
                    replace H := Option.bind_eq_some_iff.mp H
                    obtain ⟨t217, A450, H⟩ := H
                    replace H : (if t217 = x9_3 then ((turn_Prev.f k3 x3_1 x8_2).bind fun t218 => (if t218 = x10_3 then (terrierlaw11_TurnRounds.l1 k3 x3_1 x5_1 (wrap64 (x8_2 + 1))) else (some false))) else (some false)) = some r := H
                    have A45 := Aside0.mk A450
                    clear A450
                    by_cases c46 : t217 = x9_3
                    · rw [if_pos c46] at H
                      have c46b0 : (t217 == x9_3) = true := beq_iff_eq.mpr c46
                      have c46b1 : (t217 != x9_3) = false := bne_eq_false_iff_eq.mpr c46
                      clear c46
                      replace H := Option.bind_eq_some_iff.mp H
                      obtain ⟨t218, A470, H⟩ := H
                      replace H : (if t218 = x10_3 then (terrierlaw11_TurnRounds.l1 k3 x3_1 x5_1 (wrap64 (x8_2 + 1))) else (some false)) = some r := H
                      have A47 := Aside0.mk A470
                      clear A470
                      by_cases c48 : t218 = x10_3
                      · rw [if_pos c48] at H
                        have c48b0 : (t218 == x10_3) = true := beq_iff_eq.mpr c48
                        have c48b1 : (t218 != x10_3) = false := bne_eq_false_iff_eq.mpr c48
                        clear c48
                        have H' := Aside0.mk H
                        clear H
                        go_wp2_with (first | (go_at_call 11; (with_reducible refine (turn_Next.calls k3 _ _ x3_1 x8_2 t217 _ ?side1 ?side2 A45.out).mono ?_); (case side1 => repeat (first | exact (Kd.R_reads' HO_3.out).2.2 | (with_reducible refine Kd.C_alloc ?_ _) | (with_reducible refine Kd.C_drewN ?_ _) | (with_reducible refine Kd.C_drew ?_))); (case side2 => exact (Kd.R_reads' HO_3.out).2.1); rintro e w49 ⟨rfl, hb⟩; have n0_ := Aside0.mk (Kd.R_below (by (with_reducible repeat (first | apply Kd.R_alloc | apply Kd.R_drewN | apply Kd.R_drew)); exact HO_3.out) hb); have n1_ := Aside0.mk (Kd.R_below (by (with_reducible repeat (first | apply Kd.R_alloc | apply Kd.R_drewN | apply Kd.R_drew)); exact HO_5.out) hb); have n2_ := Aside0.mk (below_step (by repeat (first | (with_reducible first | exact HB.out | apply below_alloc | apply pw_below_drewN | apply below_drew1) | exact HB.out)) hb); clear HO_3; clear HO_5; clear HB; have HO_3 := n0_; have HO_5 := n1_; have HB := n2_; clear n0_ n1_ n2_; (try clear hb); (try clear hb2); (try clear hk); (try clear hi)) | (go_at_call 13; (with_reducible refine (turn_Prev.calls k3 _ _ x3_1 x8_2 t218 _ ?side1 ?side2 A47.out).mono ?_); (case side1 => repeat (first | exact (Kd.R_reads' HO_3.out).2.2 | (with_reducible refine Kd.C_alloc ?_ _) | (with_reducible refine Kd.C_drewN ?_ _) | (with_reducible refine Kd.C_drew ?_))); (case side2 => exact (Kd.R_reads' HO_3.out).2.1); rintro e w50 ⟨rfl, hb⟩; have n0_ := Aside0.mk (Kd.R_below (by (with_reducible repeat (first | apply Kd.R_alloc | apply Kd.R_drewN | apply Kd.R_drew)); exact HO_3.out) hb); have n1_ := Aside0.mk (Kd.R_below (by (with_reducible repeat (first | apply Kd.R_alloc | apply Kd.R_drewN | apply Kd.R_drew)); exact HO_5.out) hb); have n2_ := Aside0.mk (below_step (by repeat (first | (with_reducible first | exact HB.out | apply below_alloc | apply pw_below_drewN | apply below_drew1) | exact HB.out)) hb); clear HO_3; clear HO_5; clear HB; have HO_3 := n0_; have HO_5 := n1_; have HB := n2_; clear n0_ n1_ n2_; (try clear hb); (try clear hb2); (try clear hk); (try clear hi)))
                        repeat (go_quiet (first | (go_at_call 11; (with_reducible refine (turn_Next.calls k3 _ _ x3_1 x8_2 t217 _ ?side1 ?side2 A45.out).mono ?_); (case side1 => repeat (first | exact (Kd.R_reads' HO_3.out).2.2 | (with_reducible refine Kd.C_alloc ?_ _) | (with_reducible refine Kd.C_drewN ?_ _) | (with_reducible refine Kd.C_drew ?_))); (case side2 => exact (Kd.R_reads' HO_3.out).2.1); rintro e w49 ⟨rfl, hb⟩; have n0_ := Aside0.mk (Kd.R_below (by (with_reducible repeat (first | apply Kd.R_alloc | apply Kd.R_drewN | apply Kd.R_drew)); exact HO_3.out) hb); have n1_ := Aside0.mk (Kd.R_below (by (with_reducible repeat (first | apply Kd.R_alloc | apply Kd.R_drewN | apply Kd.R_drew)); exact HO_5.out) hb); have n2_ := Aside0.mk (below_step (by repeat (first | (with_reducible first | exact HB.out | apply below_alloc | apply pw_below_drewN | apply below_drew1) | exact HB.out)) hb); clear HO_3; clear HO_5; clear HB; have HO_3 := n0_; have HO_5 := n1_; have HB := n2_; clear n0_ n1_ n2_; (try clear hb); (try clear hb2); (try clear hk); (try clear hi)) | (go_at_call 13; (with_reducible refine (turn_Prev.calls k3 _ _ x3_1 x8_2 t218 _ ?side1 ?side2 A47.out).mono ?_); (case side1 => repeat (first | exact (Kd.R_reads' HO_3.out).2.2 | (with_reducible refine Kd.C_alloc ?_ _) | (with_reducible refine Kd.C_drewN ?_ _) | (with_reducible refine Kd.C_drew ?_))); (case side2 => exact (Kd.R_reads' HO_3.out).2.1); rintro e w50 ⟨rfl, hb⟩; have n0_ := Aside0.mk (Kd.R_below (by (with_reducible repeat (first | apply Kd.R_alloc | apply Kd.R_drewN | apply Kd.R_drew)); exact HO_3.out) hb); have n1_ := Aside0.mk (Kd.R_below (by (with_reducible repeat (first | apply Kd.R_alloc | apply Kd.R_drewN | apply Kd.R_drew)); exact HO_5.out) hb); have n2_ := Aside0.mk (below_step (by repeat (first | (with_reducible first | exact HB.out | apply below_alloc | apply pw_below_drewN | apply below_drew1) | exact HB.out)) hb); clear HO_3; clear HO_5; clear HB; have HO_3 := n0_; have HO_5 := n1_; have HB := n2_; clear n0_ n1_ n2_; (try clear hb); (try clear hb2); (try clear hk); (try clear hi))); try go_wp2_with (first | (go_at_call 11; (with_reducible refine (turn_Next.calls k3 _ _ x3_1 x8_2 t217 _ ?side1 ?side2 A45.out).mono ?_); (case side1 => repeat (first | exact (Kd.R_reads' HO_3.out).2.2 | (with_reducible refine Kd.C_alloc ?_ _) | (with_reducible refine Kd.C_drewN ?_ _) | (with_reducible refine Kd.C_drew ?_))); (case side2 => exact (Kd.R_reads' HO_3.out).2.1); rintro e w49 ⟨rfl, hb⟩; have n0_ := Aside0.mk (Kd.R_below (by (with_reducible repeat (first | apply Kd.R_alloc | apply Kd.R_drewN | apply Kd.R_drew)); exact HO_3.out) hb); have n1_ := Aside0.mk (Kd.R_below (by (with_reducible repeat (first | apply Kd.R_alloc | apply Kd.R_drewN | apply Kd.R_drew)); exact HO_5.out) hb); have n2_ := Aside0.mk (below_step (by repeat (first | (with_reducible first | exact HB.out | apply below_alloc | apply pw_below_drewN | apply below_drew1) | exact HB.out)) hb); clear HO_3; clear HO_5; clear HB; have HO_3 := n0_; have HO_5 := n1_; have HB := n2_; clear n0_ n1_ n2_; (try clear hb); (try clear hb2); (try clear hk); (try clear hi)) | (go_at_call 13; (with_reducible refine (turn_Prev.calls k3 _ _ x3_1 x8_2 t218 _ ?side1 ?side2 A47.out).mono ?_); (case side1 => repeat (first | exact (Kd.R_reads' HO_3.out).2.2 | (with_reducible refine Kd.C_alloc ?_ _) | (with_reducible refine Kd.C_drewN ?_ _) | (with_reducible refine Kd.C_drew ?_))); (case side2 => exact (Kd.R_reads' HO_3.out).2.1); rintro e w50 ⟨rfl, hb⟩; have n0_ := Aside0.mk (Kd.R_below (by (with_reducible repeat (first | apply Kd.R_alloc | apply Kd.R_drewN | apply Kd.R_drew)); exact HO_3.out) hb); have n1_ := Aside0.mk (Kd.R_below (by (with_reducible repeat (first | apply Kd.R_alloc | apply Kd.R_drewN | apply Kd.R_drew)); exact HO_5.out) hb); have n2_ := Aside0.mk (below_step (by repeat (first | (with_reducible first | exact HB.out | apply below_alloc | apply pw_below_drewN | apply below_drew1) | exact HB.out)) hb); clear HO_3; clear HO_5; clear HB; have HO_3 := n0_; have HO_5 := n1_; have HB := n2_; clear n0_ n1_ n2_; (try clear hb); (try clear hb2); (try clear hk); (try clear hi))))
                        go_roundg k3
                        case measure => have := HK1.out; have := HK2.out; have := HK3.out; omega
                        case rel => exact ⟨(wrap64 (x8_2 + 1)), (by first | rfl | (simp; done) | (simp [*]; done)), H', ⟨by have := HK1.out; have := HK2.out; have := HK3.out; omega⟩, ⟨by (with_reducible repeat (first | apply Kd.R_alloc | apply Kd.R_drewN | apply Kd.R_drew)); exact HO_3.out⟩, ⟨by (with_reducible repeat (first | apply Kd.R_alloc | apply Kd.R_drewN | apply Kd.R_drew)); exact HO_5.out⟩, ⟨by repeat (first | (with_reducible first | exact HB.out | apply below_alloc | apply pw_below_drewN | apply below_drew1) | exact HB.out)⟩⟩
                      · rw [if_neg c48] at H
                        have c48b0 : (t218 == x10_3) = false := beq_eq_false_iff_ne.mpr c48
                        have c48b1 : (t218 != x10_3) = true := bne_iff_ne.mpr c48
                        obtain rfl := Option.some.inj H
                        go_wp2_with (first | (go_at_call 11; (with_reducible refine (turn_Next.calls k3 _ _ x3_1 x8_2 t217 _ ?side1 ?side2 A45.out).mono ?_); (case side1 => repeat (first | exact (Kd.R_reads' HO_3.out).2.2 | (with_reducible refine Kd.C_alloc ?_ _) | (with_reducible refine Kd.C_drewN ?_ _) | (with_reducible refine Kd.C_drew ?_))); (case side2 => exact (Kd.R_reads' HO_3.out).2.1); rintro e w51 ⟨rfl, hb⟩; have n0_ := Aside0.mk (Kd.R_below (by (with_reducible repeat (first | apply Kd.R_alloc | apply Kd.R_drewN | apply Kd.R_drew)); exact HO_3.out) hb); have n1_ := Aside0.mk (Kd.R_below (by (with_reducible repeat (first | apply Kd.R_alloc | apply Kd.R_drewN | apply Kd.R_drew)); exact HO_5.out) hb); have n2_ := Aside0.mk (below_step (by repeat (first | (with_reducible first | exact HB.out | apply below_alloc | apply pw_below_drewN | apply below_drew1) | exact HB.out)) hb); clear HO_3; clear HO_5; clear HB; have HO_3 := n0_; have HO_5 := n1_; have HB := n2_; clear n0_ n1_ n2_; (try clear hb); (try clear hb2); (try clear hk); (try clear hi)) | (go_at_call 13; (with_reducible refine (turn_Prev.calls k3 _ _ x3_1 x8_2 t218 _ ?side1 ?side2 A47.out).mono ?_); (case side1 => repeat (first | exact (Kd.R_reads' HO_3.out).2.2 | (with_reducible refine Kd.C_alloc ?_ _) | (with_reducible refine Kd.C_drewN ?_ _) | (with_reducible refine Kd.C_drew ?_))); (case side2 => exact (Kd.R_reads' HO_3.out).2.1); rintro e w52 ⟨rfl, hb⟩; have n0_ := Aside0.mk (Kd.R_below (by (with_reducible repeat (first | apply Kd.R_alloc | apply Kd.R_drewN | apply Kd.R_drew)); exact HO_3.out) hb); have n1_ := Aside0.mk (Kd.R_below (by (with_reducible repeat (first | apply Kd.R_alloc | apply Kd.R_drewN | apply Kd.R_drew)); exact HO_5.out) hb); have n2_ := Aside0.mk (below_step (by repeat (first | (with_reducible first | exact HB.out | apply below_alloc | apply pw_below_drewN | apply below_drew1) | exact HB.out)) hb); clear HO_3; clear HO_5; clear HB; have HO_3 := n0_; have HO_5 := n1_; have HB := n2_; clear n0_ n1_ n2_; (try clear hb); (try clear hb2); (try clear hk); (try clear hi)))
                        repeat (go_quiet (first | (go_at_call 11; (with_reducible refine (turn_Next.calls k3 _ _ x3_1 x8_2 t217 _ ?side1 ?side2 A45.out).mono ?_); (case side1 => repeat (first | exact (Kd.R_reads' HO_3.out).2.2 | (with_reducible refine Kd.C_alloc ?_ _) | (with_reducible refine Kd.C_drewN ?_ _) | (with_reducible refine Kd.C_drew ?_))); (case side2 => exact (Kd.R_reads' HO_3.out).2.1); rintro e w51 ⟨rfl, hb⟩; have n0_ := Aside0.mk (Kd.R_below (by (with_reducible repeat (first | apply Kd.R_alloc | apply Kd.R_drewN | apply Kd.R_drew)); exact HO_3.out) hb); have n1_ := Aside0.mk (Kd.R_below (by (with_reducible repeat (first | apply Kd.R_alloc | apply Kd.R_drewN | apply Kd.R_drew)); exact HO_5.out) hb); have n2_ := Aside0.mk (below_step (by repeat (first | (with_reducible first | exact HB.out | apply below_alloc | apply pw_below_drewN | apply below_drew1) | exact HB.out)) hb); clear HO_3; clear HO_5; clear HB; have HO_3 := n0_; have HO_5 := n1_; have HB := n2_; clear n0_ n1_ n2_; (try clear hb); (try clear hb2); (try clear hk); (try clear hi)) | (go_at_call 13; (with_reducible refine (turn_Prev.calls k3 _ _ x3_1 x8_2 t218 _ ?side1 ?side2 A47.out).mono ?_); (case side1 => repeat (first | exact (Kd.R_reads' HO_3.out).2.2 | (with_reducible refine Kd.C_alloc ?_ _) | (with_reducible refine Kd.C_drewN ?_ _) | (with_reducible refine Kd.C_drew ?_))); (case side2 => exact (Kd.R_reads' HO_3.out).2.1); rintro e w52 ⟨rfl, hb⟩; have n0_ := Aside0.mk (Kd.R_below (by (with_reducible repeat (first | apply Kd.R_alloc | apply Kd.R_drewN | apply Kd.R_drew)); exact HO_3.out) hb); have n1_ := Aside0.mk (Kd.R_below (by (with_reducible repeat (first | apply Kd.R_alloc | apply Kd.R_drewN | apply Kd.R_drew)); exact HO_5.out) hb); have n2_ := Aside0.mk (below_step (by repeat (first | (with_reducible first | exact HB.out | apply below_alloc | apply pw_below_drewN | apply below_drew1) | exact HB.out)) hb); clear HO_3; clear HO_5; clear HB; have HO_3 := n0_; have HO_5 := n1_; have HB := n2_; clear n0_ n1_ n2_; (try clear hb); (try clear hb2); (try clear hk); (try clear hi))); try go_wp2_with (first | (go_at_call 11; (with_reducible refine (turn_Next.calls k3 _ _ x3_1 x8_2 t217 _ ?side1 ?side2 A45.out).mono ?_); (case side1 => repeat (first | exact (Kd.R_reads' HO_3.out).2.2 | (with_reducible refine Kd.C_alloc ?_ _) | (with_reducible refine Kd.C_drewN ?_ _) | (with_reducible refine Kd.C_drew ?_))); (case side2 => exact (Kd.R_reads' HO_3.out).2.1); rintro e w51 ⟨rfl, hb⟩; have n0_ := Aside0.mk (Kd.R_below (by (with_reducible repeat (first | apply Kd.R_alloc | apply Kd.R_drewN | apply Kd.R_drew)); exact HO_3.out) hb); have n1_ := Aside0.mk (Kd.R_below (by (with_reducible repeat (first | apply Kd.R_alloc | apply Kd.R_drewN | apply Kd.R_drew)); exact HO_5.out) hb); have n2_ := Aside0.mk (below_step (by repeat (first | (with_reducible first | exact HB.out | apply below_alloc | apply pw_below_drewN | apply below_drew1) | exact HB.out)) hb); clear HO_3; clear HO_5; clear HB; have HO_3 := n0_; have HO_5 := n1_; have HB := n2_; clear n0_ n1_ n2_; (try clear hb); (try clear hb2); (try clear hk); (try clear hi)) | (go_at_call 13; (with_reducible refine (turn_Prev.calls k3 _ _ x3_1 x8_2 t218 _ ?side1 ?side2 A47.out).mono ?_); (case side1 => repeat (first | exact (Kd.R_reads' HO_3.out).2.2 | (with_reducible refine Kd.C_alloc ?_ _) | (with_reducible refine Kd.C_drewN ?_ _) | (with_reducible refine Kd.C_drew ?_))); (case side2 => exact (Kd.R_reads' HO_3.out).2.1); rintro e w52 ⟨rfl, hb⟩; have n0_ := Aside0.mk (Kd.R_below (by (with_reducible repeat (first | apply Kd.R_alloc | apply Kd.R_drewN | apply Kd.R_drew)); exact HO_3.out) hb); have n1_ := Aside0.mk (Kd.R_below (by (with_reducible repeat (first | apply Kd.R_alloc | apply Kd.R_drewN | apply Kd.R_drew)); exact HO_5.out) hb); have n2_ := Aside0.mk (below_step (by repeat (first | (with_reducible first | exact HB.out | apply below_alloc | apply pw_below_drewN | apply below_drew1) | exact HB.out)) hb); clear HO_3; clear HO_5; clear HB; have HO_3 := n0_; have HO_5 := n1_; have HB := n2_; clear n0_ n1_ n2_; (try clear hb); (try clear hb2); (try clear hk); (try clear hi))))
                        go_ret
                        exact ⟨by first | rfl | (simp [errW_none, errW_some] <;> rfl) | (simp [*, errW_none, errW_some] <;> rfl), by repeat (first | (with_reducible first | exact HB.out | apply below_alloc | apply pw_below_drewN | apply below_drew1) | exact HB.out)⟩
                    · rw [if_neg c46] at H
                      have c46b0 : (t217 == x9_3) = false := beq_eq_false_iff_ne.mpr c46
                      have c46b1 : (t217 != x9_3) = true := bne_iff_ne.mpr c46
                      obtain rfl := Option.some.inj H
                      go_wp2_with (first | (go_at_call 11; (with_reducible refine (turn_Next.calls k3 _ _ x3_1 x8_2 t217 _ ?side1 ?side2 A45.out).mono ?_); (case side1 => repeat (first | exact (Kd.R_reads' HO_3.out).2.2 | (with_reducible refine Kd.C_alloc ?_ _) | (with_reducible refine Kd.C_drewN ?_ _) | (with_reducible refine Kd.C_drew ?_))); (case side2 => exact (Kd.R_reads' HO_3.out).2.1); rintro e w53 ⟨rfl, hb⟩; have n0_ := Aside0.mk (Kd.R_below (by (with_reducible repeat (first | apply Kd.R_alloc | apply Kd.R_drewN | apply Kd.R_drew)); exact HO_3.out) hb); have n1_ := Aside0.mk (Kd.R_below (by (with_reducible repeat (first | apply Kd.R_alloc | apply Kd.R_drewN | apply Kd.R_drew)); exact HO_5.out) hb); have n2_ := Aside0.mk (below_step (by repeat (first | (with_reducible first | exact HB.out | apply below_alloc | apply pw_below_drewN | apply below_drew1) | exact HB.out)) hb); clear HO_3; clear HO_5; clear HB; have HO_3 := n0_; have HO_5 := n1_; have HB := n2_; clear n0_ n1_ n2_; (try clear hb); (try clear hb2); (try clear hk); (try clear hi)))
                      repeat (go_quiet (first | (go_at_call 11; (with_reducible refine (turn_Next.calls k3 _ _ x3_1 x8_2 t217 _ ?side1 ?side2 A45.out).mono ?_); (case side1 => repeat (first | exact (Kd.R_reads' HO_3.out).2.2 | (with_reducible refine Kd.C_alloc ?_ _) | (with_reducible refine Kd.C_drewN ?_ _) | (with_reducible refine Kd.C_drew ?_))); (case side2 => exact (Kd.R_reads' HO_3.out).2.1); rintro e w53 ⟨rfl, hb⟩; have n0_ := Aside0.mk (Kd.R_below (by (with_reducible repeat (first | apply Kd.R_alloc | apply Kd.R_drewN | apply Kd.R_drew)); exact HO_3.out) hb); have n1_ := Aside0.mk (Kd.R_below (by (with_reducible repeat (first | apply Kd.R_alloc | apply Kd.R_drewN | apply Kd.R_drew)); exact HO_5.out) hb); have n2_ := Aside0.mk (below_step (by repeat (first | (with_reducible first | exact HB.out | apply below_alloc | apply pw_below_drewN | apply below_drew1) | exact HB.out)) hb); clear HO_3; clear HO_5; clear HB; have HO_3 := n0_; have HO_5 := n1_; have HB := n2_; clear n0_ n1_ n2_; (try clear hb); (try clear hb2); (try clear hk); (try clear hi))); try go_wp2_with (first | (go_at_call 11; (with_reducible refine (turn_Next.calls k3 _ _ x3_1 x8_2 t217 _ ?side1 ?side2 A45.out).mono ?_); (case side1 => repeat (first | exact (Kd.R_reads' HO_3.out).2.2 | (with_reducible refine Kd.C_alloc ?_ _) | (with_reducible refine Kd.C_drewN ?_ _) | (with_reducible refine Kd.C_drew ?_))); (case side2 => exact (Kd.R_reads' HO_3.out).2.1); rintro e w53 ⟨rfl, hb⟩; have n0_ := Aside0.mk (Kd.R_below (by (with_reducible repeat (first | apply Kd.R_alloc | apply Kd.R_drewN | apply Kd.R_drew)); exact HO_3.out) hb); have n1_ := Aside0.mk (Kd.R_below (by (with_reducible repeat (first | apply Kd.R_alloc | apply Kd.R_drewN | apply Kd.R_drew)); exact HO_5.out) hb); have n2_ := Aside0.mk (below_step (by repeat (first | (with_reducible first | exact HB.out | apply below_alloc | apply pw_below_drewN | apply below_drew1) | exact HB.out)) hb); clear HO_3; clear HO_5; clear HB; have HO_3 := n0_; have HO_5 := n1_; have HB := n2_; clear n0_ n1_ n2_; (try clear hb); (try clear hb2); (try clear hk); (try clear hi))))
                      go_ret
                      exact ⟨by first | rfl | (simp [errW_none, errW_some] <;> rfl) | (simp [*, errW_none, errW_some] <;> rfl), by repeat (first | (with_reducible first | exact HB.out | apply below_alloc | apply pw_below_drewN | apply below_drew1) | exact HB.out)⟩
            · rw [if_neg c15] at H
              have c15b0 : decide (x8_2 < (x3_1.length : Int)) = false := decide_eq_false c15
              clear c15
              replace H := Option.bind_eq_some_iff.mp H
              obtain ⟨t204, A540, H⟩ := H
              replace H : (some t204) = some r := H
              have A54 := Aside0.mk A540
              clear A540
              obtain rfl := Option.some.inj H
              obtain ⟨Ao55, co55, eo55⟩ := Kd.R_slice HO_3.out
              subst eo55
              go_wp2_with (first | (go_at_call 6; (with_reducible refine (terrierlaw11_awake.calls k2  t204 _ A54.out).mono ?_); rintro e w56 ⟨rfl, hb⟩; have n0_ := Aside0.mk (Kd.R_below (by (with_reducible repeat (first | apply Kd.R_alloc | apply Kd.R_drewN | apply Kd.R_drew)); exact HO_3.out) hb); have n1_ := Aside0.mk (Kd.R_below (by (with_reducible repeat (first | apply Kd.R_alloc | apply Kd.R_drewN | apply Kd.R_drew)); exact HO_5.out) hb); have n2_ := Aside0.mk (below_step (by repeat (first | (with_reducible first | exact HB.out | apply below_alloc | apply pw_below_drewN | apply below_drew1) | exact HB.out)) hb); clear HO_3; clear HO_5; clear HB; have HO_3 := n0_; have HO_5 := n1_; have HB := n2_; clear n0_ n1_ n2_; (try clear hb); (try clear hb2); (try clear hk); (try clear hi)))
              repeat (go_quiet (first | (go_at_call 6; (with_reducible refine (terrierlaw11_awake.calls k2  t204 _ A54.out).mono ?_); rintro e w56 ⟨rfl, hb⟩; have n0_ := Aside0.mk (Kd.R_below (by (with_reducible repeat (first | apply Kd.R_alloc | apply Kd.R_drewN | apply Kd.R_drew)); exact HO_3.out) hb); have n1_ := Aside0.mk (Kd.R_below (by (with_reducible repeat (first | apply Kd.R_alloc | apply Kd.R_drewN | apply Kd.R_drew)); exact HO_5.out) hb); have n2_ := Aside0.mk (below_step (by repeat (first | (with_reducible first | exact HB.out | apply below_alloc | apply pw_below_drewN | apply below_drew1) | exact HB.out)) hb); clear HO_3; clear HO_5; clear HB; have HO_3 := n0_; have HO_5 := n1_; have HB := n2_; clear n0_ n1_ n2_; (try clear hb); (try clear hb2); (try clear hk); (try clear hi))); try go_wp2_with (first | (go_at_call 6; (with_reducible refine (terrierlaw11_awake.calls k2  t204 _ A54.out).mono ?_); rintro e w56 ⟨rfl, hb⟩; have n0_ := Aside0.mk (Kd.R_below (by (with_reducible repeat (first | apply Kd.R_alloc | apply Kd.R_drewN | apply Kd.R_drew)); exact HO_3.out) hb); have n1_ := Aside0.mk (Kd.R_below (by (with_reducible repeat (first | apply Kd.R_alloc | apply Kd.R_drewN | apply Kd.R_drew)); exact HO_5.out) hb); have n2_ := Aside0.mk (below_step (by repeat (first | (with_reducible first | exact HB.out | apply below_alloc | apply pw_below_drewN | apply below_drew1) | exact HB.out)) hb); clear HO_3; clear HO_5; clear HB; have HO_3 := n0_; have HO_5 := n1_; have HB := n2_; clear n0_ n1_ n2_; (try clear hb); (try clear hb2); (try clear hk); (try clear hi))))
              go_ret
              exact ⟨by first | rfl | (simp [errW_none, errW_some] <;> rfl) | (simp [*, errW_none, errW_some] <;> rfl), by repeat (first | (with_reducible first | exact HB.out | apply below_alloc | apply pw_below_drewN | apply below_drew1) | exact HB.out)⟩

/-- THE ONE PURE STATEMENT of terrierlaw11_TurnRounds: yours. -/
def terrierlaw11_TurnRounds.Pure : Prop := ∀ (a0 : Int), (Lit.int .i64 a0).wf = true → ∃ k, terrierlaw11_TurnRounds.f k a0 = some true
theorem terrierlaw11_TurnRounds.walk (P : terrierlaw11_TurnRounds.Pure) (a0 : Int) (w : World) (w0 : (Lit.int .i64 a0).wf = true) :
    Calls Try.prog 4 #[.int .i64 a0] w fun e w' => e = .returned (.bool true) ∧ Below w.heap.size w w' := by
  obtain ⟨k, h⟩ := P a0 w0
  refine (terrierlaw11_TurnRounds.calls k a0 true w h).mono ?_
  rintro e w' ⟨rfl, hd⟩
  exact ⟨rfl, hd⟩
end Go.Proofs.Ytojdmloimmcacaa.PTurnRounds
