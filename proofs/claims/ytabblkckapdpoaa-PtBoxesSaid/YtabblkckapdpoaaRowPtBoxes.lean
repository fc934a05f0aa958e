/- Proved: PtBoxes: the box of a list of points and whether two boxes meet are what the document says, for any list and any four points; no condition. -/
import Derived.Test.YtabblkckapdpoaaRows
import Derived.Test.YtabblkckapdpoaaPurePtBoxes
import Derived.Test.YtabblkckapdpoaaWalkPtBoxes
import Derived.Test.YtabblkckapdpoaaOpenP
import Derived.Deep.SlicePairs
import Derived.Carry
import Derived.WalkKit
import Derived.ProofKit
import Derived.OpenShut
import Derived.ShutString
import Derived.ChangeOld
import Derived.Below
import Derived.SizedLaws
namespace Go.Proofs.Ytabblkckapdpoaa.PPtBoxes
open Go.RowKit Go.Proofs.YtabblkckapdpoaaW.PrintWords Go.Proofs.YtabblkckapdpoaaW.PrintLast Go.Proofs.YtabblkckapdpoaaW.PrintMore
/-- The law's function tells true, whatever it is handed. -/
theorem law_true (l : List S23) (a0 a1 b0 b1 c0 c1 d0 d1 : Int) : terrierlaw9_PtBoxes.f 200 l a0 a1 b0 b1 c0 c1 d0 d1 = some true := by
  unfold terrierlaw9_PtBoxes.f
  by_cases h : (l.length : Int) > 100
  · rw [if_pos h, awake200]; rfl
  · rw [if_neg h]
    obtain ⟨r, h1, h2⟩ := box_eq l (by omega)
    rw [h1, h2, meet_eq, meet_sym a0 a1 b0 b1 c0 c1 d0 d1, awake200]
    obtain ⟨m, hm⟩ : ∃ m, pt_Meet.f a0 a1 b0 b1 c0 c1 d0 d1 = some m := ⟨_, rfl⟩
    rw [hm]
    simp only [Option.bind_some, beq_self_eq_true, Bool.and_self, if_true]
theorem PtBoxes (A : Option Addr) (c : Nat) (l : List S23) (a0 a1 b0 b1 c0 c1 d0 d1 : Int) (w : World) (hr : Kd.C k23 w A l.length l) (hc : l.length ≤ c) :
    Calls Try.prog 11 #[.slice A l.length c, .agg #[.int .i64 a0, .int .i64 a1], .agg #[.int .i64 b0, .int .i64 b1], .agg #[.int .i64 c0, .int .i64 c1], .agg #[.int .i64 d0, .int .i64 d1]] w fun e w' => e = .returned (.bool true) ∧ Below w.heap.size w w' :=
  terrierlaw9_PtBoxes.calls 200 A c l a0 a1 b0 b1 c0 c1 d0 d1 true rfl w hr hc (law_true l a0 a1 b0 b1 c0 c1 d0 d1)
end Go.Proofs.Ytabblkckapdpoaa.PPtBoxes
namespace Go.Proofs.Ytabblkckapdpoaa.ptBoxes
open Go.ChangeShapes Go.WideShapes Go.ChangeAt Go.RowKit
set_option linter.unusedVariables false
theorem laidOut : laidOutB Try.prog = true := by kernel_rfl
theorem own : ownKnob Try.prog.godebug = none := by kernel_rfl
set_option maxRecDepth 100000 in
theorem lifted (os : Os) (started : os.Started) (H : Type) (enc : TypeId × Value → H) :
    ReturnsInHanded {} Try.checked os 11 .any (Rows.ptBoxesSpec.pre6 enc Try.prog Try.f11 Rows.ptBoxesRow.domain false) (Rows.ptBoxesSpec.post enc Try.prog Try.f11 false true false false) := by
  refine returnsInHanded_of_change_sized (C := Try.checked) own started (by kernel_rfl) Try.func11
    (ChangeSpec.witness6 (enc := enc) (C := Try.checked) false ⟨#[], #[.slice none 0 0, .agg #[.int .i64 0, .int .i64 0], .agg #[.int .i64 0, .int .i64 0], .agg #[.int .i64 0, .int .i64 0], .agg #[.int .i64 0, .int .i64 0]], []⟩ 8 (by kernel_rfl) (by kernel_rfl) (by kernel_rfl) (by kernel_rfl)) ?_
  intro W base args ds gs before hval0 hW hcnd hsz0 _
  have hsz : (DataW.weightsEach Try.prog (Try.f11.params.toList ++ Rows.ptBoxesSpec.plain.varTypes Try.prog) (ds ++ gs)).all (· ≤ reachBytes) = true := hsz0
  have hval : ∀ (j : Nat) t v, Try.f11.params[j]? = some t → args[j]? = some v → Value.okWide Try.prog W .any base t v := hval0
  have hW' := hW
  obtain ⟨p, q, hA0, hV, rfl, hfz, hnd⟩ := hW
  have hA : DataW.TrodAll enc Try.prog W 0 (fun _ => true) true Try.f11.params.toList args.toList ds p := hA0
  rw [Try.params11] at hA hval hsz
  obtain ⟨v0, vs0, d0, ds0, p0, q0, hargs, rfl, rfl, h0, r0⟩ := trodAll_cons hA
  obtain ⟨v1, vs1, d1, ds1, p1, q1, rfl, rfl, rfl, h1, r1⟩ := trodAll_cons r0
  obtain ⟨v2, vs2, d2, ds2, p2, q2, rfl, rfl, rfl, h2, r2⟩ := trodAll_cons r1
  obtain ⟨v3, vs3, d3, ds3, p3, q3, rfl, rfl, rfl, h3, r3⟩ := trodAll_cons r2
  obtain ⟨v4, vs4, d4, ds4, p4, q4, rfl, rfl, rfl, h4, r4⟩ := trodAll_cons r3
  obtain ⟨rfl, rfl, rfl⟩ := trodAll_nil r4
  obtain rfl : args = #[v0, v1, v2, v3, v4] := by cases args; simp_all
  obtain ⟨rfl, rfl⟩ := trodVars_none hV
  obtain ⟨A, len, cap, rfl⟩ := okWide_slice Try.underlying25 (hval 0 25 v0 rfl rfl)
  have k0 := h0
  have lt0 : ∀ x ∈ p0, x.block < W.heap.size := by obtain ⟨m, hm⟩ := k0; exact DataW.trod_lt m _ _ _ hm
  obtain ⟨xs, hlen, hcap, hC⟩ : ∃ xs : List PPtBoxes.S23, xs.length = len ∧ len ≤ cap ∧ Go.Proofs.YtabblkckapdpoaaW.PrintWords.Kd.C PPtBoxes.k23 W A len xs := by
    obtain ⟨fuel, hf⟩ := h0
    rcases Go.Deep.open_slice_pairs Try.underlying25 Try.underlying23 (by kernel_rfl) rfl rfl (by kernel_rfl) (by kernel_rfl) hf with ⟨hcs, _⟩ | ⟨a, l, c, m, n, V0, V1, D0, D1, P0, P1, hcs, hb, hl, hm, hmm, hx, hcell⟩
    · simp [Value.cells] at hcs
      obtain ⟨rfl, rfl, rfl⟩ := hcs
      exact ⟨[], rfl, Nat.le_refl _, rfl, by decide, fun h => absurd h (by decide)⟩
    · simp [Value.cells] at hcs
      obtain ⟨rfl, rfl, rfl⟩ := hcs
      have hle : len ≤ m := by rw [hmm]; split <;> omega
      have each : ∀ i, i < len → ∃ p : PPtBoxes.S23, V0 i = .int .i64 p.f0 ∧ V1 i = .int .i64 p.f1 := by
        intro i hi
        obtain ⟨_, _, g0, g1⟩ := hcell i (by omega)
        obtain ⟨x, e0, _, _⟩ := DataW.trod_int Try.underlying2 g0
        obtain ⟨y, e1, _, _⟩ := DataW.trod_int Try.underlying2 g1
        simp at e0 e1
        exact ⟨⟨x, y⟩, e0, e1⟩
      have : Inhabited PPtBoxes.S23 := ⟨⟨0, 0⟩⟩
      obtain ⟨q, hq⟩ := Go.Deep.choose_lt each
      refine ⟨(List.range len).map q, by simp, hl, by simp, by have := hm; simp only [maxLen] at this; omega, fun _ => ⟨a, rfl, fun j p hj => ?_⟩⟩
      have hjl : j < len := by
        have := (List.getElem?_eq_some_iff.1 hj).1
        simpa using this
      have hp : p = q j := by
        rw [List.getElem?_map, List.getElem?_range hjl] at hj
        exact (Option.some.inj hj).symm
      subst hp
      obtain ⟨h1, h2, _, _⟩ := hcell j (by omega)
      refine ⟨[.int .i64 (q j).f0, .int .i64 (q j).f1], rfl, PPtBoxes.k23_mk W _, fun i u hu => ?_⟩
      match i, hu with
      | 0, hu =>
        simp at hu
        subst hu
        exact h1.trans (congrArg some (hq j hjl).1)
      | 1, hu =>
        simp at hu
        subst hu
        exact h2.trans (congrArg some (hq j hjl).2)
      | i + 2, hu => simp at hu
  subst hlen
  obtain ⟨a1, a1b, rfl, rfl, rfl, w1, w1b⟩ := open_P (hval 1 23 v1 rfl rfl) h1
  obtain ⟨a2, a2b, rfl, rfl, rfl, w2, w2b⟩ := open_P (hval 2 23 v2 rfl rfl) h2
  obtain ⟨a3, a3b, rfl, rfl, rfl, w3, w3b⟩ := open_P (hval 3 23 v3 rfl rfl) h3
  obtain ⟨a4, a4b, rfl, rfl, rfl, w4, w4b⟩ := open_P (hval 4 23 v4 rfl rfl) h4
  clear hA0 hval0 hsz0 hsz
  refine (PPtBoxes.PtBoxes A cap xs a1 a1b a2 a2b a3 a3b a4 a4b W hC hcap).mono fun e W' ⟨he, bel⟩ => ?_
  subst he
  exact ⟨_, rfl, _, _, _, [], _, [], hW', trodAll_mk1 (shut_bool Try.underlying4 _), (trodAll_cons_mk (Below.trod laidOut (by kernel_rfl) (of_decide_eq_true (by kernel_rfl)) k0 bel lt0) (trodAll_cons_mk (shut_P w1 w1b) (trodAll_cons_mk (shut_P w2 w2b) (trodAll_cons_mk (shut_P w3 w3b) (trodAll_cons_mk (shut_P w4 w4b) trodAll_mk0))))), rfl, bel.frame _, fun h => by cases h⟩
theorem over : Rows.ptBoxesRow.holds Try.pinned (OpenSpec.ofChange Rows.ptBoxesSpec) :=
  OpenClaim.holds_of_wide 11 Try.f11 rfl rfl rfl rfl rfl rfl rfl ⟨rfl, rfl, rfl, rfl, rfl⟩ rfl rfl rfl rfl rfl (by kernel_rfl) Try.func11 (by kernel_rfl)
    (of_decide_eq_true (by kernel_rfl)) (by unfold Func.isWrapper; first | (rw [if_pos (by decide +kernel)]; kernel_rfl) | (rw [if_neg (by decide +kernel)]; exact ⟨rfl, rfl⟩))
    (fun os started H enc _ => lifted os started H enc)
theorem proved : Rows.PtBoxesSaid := over
end Go.Proofs.Ytabblkckapdpoaa.ptBoxes
namespace Go.Proofs.Ytabblkckapdpoaa
/-- The row, under a short name, for the claim. -/
theorem ptBoxes_holds : Rows.PtBoxesSaid := ptBoxes.proved
#print axioms ptBoxes_holds
end Go.Proofs.Ytabblkckapdpoaa
