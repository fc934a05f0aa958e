/- Proved: what insertionSortCmpFunc of slices does to a row of ints, the function value's contract told by a frame of one's own; no condition beyond the length. -/
import Derived.Test.YtojdmloimmcacaaPTurnSortsx0
import Derived.Sort.WalkA
import Derived.Deep.LoopGhost
import Derived.Deep.RegionHeld3
import Derived.Deep.CutRange
namespace Go.Proofs.Ytojdmloimmcacaa.TS
open Go.RowKit Go.Sort Go.Proofs.YtojdmloimmcacaaW.PrintWords Go.Proofs.YtojdmloimmcacaaW.PrintLast Go.Proofs.YtojdmloimmcacaaW.PrintMore
set_option linter.unusedVariables false
set_option linter.unusedSimpArgs false
/-- One stands ahead of the other. -/
def ltc (cf : Int → Int → Int) (x y : Int) : Bool := decide (cf x y < 0)
/-- The row and the frame. -/
structure SX (I : World → Prop) (blk : Nat) (d : Array Int) (w : World) : Prop where
  fr : I w
  row : w.heap[blk]? = some (.cells (d.map (Value.int .i64)) 3 (0, 0))
variable {I : World → Prop} {blk : Nat} {d : Array Int} {w w' : World}
theorem SX.lt (h : SX I blk d w) : blk < w.heap.size := by
  rcases Nat.lt_or_ge blk w.heap.size with h1 | h1
  · exact h1
  · have := h.row; rw [Array.getElem?_eq_none h1] at this; cases this
theorem SX.step (hI : ∀ w w', I w → Below w.heap.size w w' → I w') (h : SX I blk d w) (hb : Below w.heap.size w w') : SX I blk d w' := ⟨hI _ _ h.fr hb, (hb.block blk h.lt).trans h.row⟩
theorem SX.drew (hI : ∀ w w', I w → Below w.heap.size w w' → I w') (h : SX I blk d w) : SX I blk d w.drew := h.step hI (Below.refl _ _).drew
theorem SX.c1 (h : SX I blk d w) (i : Nat) (hi : i < d.size) : w.cell? ⟨blk, i, none⟩ = some (.int .i64 d[i]!) := by
  simp [World.cell?, h.row, hi]
theorem SX.f1 (h : SX I blk d w) (i : Nat) : w.frozen? ⟨blk, i, none⟩ = false := by
  simp [World.frozen?, h.row]
theorem SX.set (hI2 : ∀ w (a : Addr) v, a.block = blk → I w → I (w.setCell a v)) (h : SX I blk d w) (i : Nat) (x : Int) : SX I blk (d.setIfInBounds i x) (w.setCell ⟨blk, i, none⟩ (.int .i64 x)) :=
  ⟨hI2 _ _ _ rfl h.fr, by
    have : (w.setCell ⟨blk, i, none⟩ (.int .i64 x)).heap[blk]? = some (.cells ((d.map (Value.int .i64)).setIfInBounds i (.int .i64 x)) 3 (0, 0)) := by
      simp [World.setCell, Array.getElem?_modify, h.row]
    rw [this]
    congr 2
    apply Array.ext
    · simp
    · intro k h1 h2
      simp [Array.getElem_setIfInBounds]⟩
theorem SX.swapped (hI : ∀ w w', I w → Below w.heap.size w w' → I w') (hI2 : ∀ w (a : Addr) v, a.block = blk → I w → I (w.setCell a v)) (h : SX I blk d w) (i j : Nat) :
    SX I blk (swp d i j) ((w.setCell ⟨blk, i, none⟩ (.int .i64 d[j]!)).setCell ⟨blk, j, none⟩ (.int .i64 d[i]!)).drew :=
  ((h.set hI2 i d[j]!).set hI2 j d[i]!).drew hI
theorem SX.c2 (h : SX I blk d w) (i j : Nat) (hi : i < d.size) (hj : j < d.size) (v : Value) : ∃ u, (w.setCell ⟨blk, i, none⟩ v).cell? ⟨blk, j, none⟩ = some u := by
  by_cases e : i = j
  · subst e; exact ⟨v, World.cell?_setCell_same _ _ _ (h.c1 i hi)⟩
  · exact ⟨_, (World.cell?_setCell_other _ _ _ _ (by intro e'; simp only [Addr.mk.injEq] at e'; omega)).trans (h.c1 j hj)⟩
theorem swp_ok {ok : Int → Prop} {d : Array Int} (h : ∀ i, i < d.size → ok d[i]!) {i j : Nat} (hi : i < d.size) (hj : j < d.size) : ∀ k, k < (swp d i j).size → ok (swp d i j)[k]! := by
  intro k hk
  have e : (swp d i j).size = d.size := by simp [swp]
  rw [e] at hk
  have : (swp d i j)[k]! = if k = j then d[i]! else if k = i then d[j]! else d[k]! := by
    unfold swp
    by_cases h1 : k = j
    · subst h1; simp [hk]
    · by_cases h2 : k = i
      · subst h2; simp [hk, h1, Ne.symm h1]
      · simp [h1, h2, Ne.symm h1, Ne.symm h2, hk]
  rw [this]
  split
  · exact h i hi
  · split
    · exact h j hj
    · exact h k hk
set_option maxHeartbeats 8000000 in
set_option maxRecDepth 1000000 in
theorem ins_walk (g : Nat) (cb : Array Value) (cf : Int → Int → Int) (hI : ∀ w w', I w → Below w.heap.size w w' → I w') (hI2 : ∀ w (a : Addr) v, a.block = blk → I w → I (w.setCell a v))
    (eg : ∀ args w, (callFunc g args).run Try.prog w = .ok (.enter g args) w) (ok : Int → Prop)
    (hc : ∀ (w : World) (x y : Int), I w → ok x → ok y → Calls Try.prog g (#[.int .i64 x, .int .i64 y] ++ cb) w fun e w' => e = .returned (.int .i64 (cf x y)) ∧ Below w.heap.size w w')
    (a b : Nat) (d : Array Int) (w : World) (hok : ∀ i, i < d.size → ok d[i]!) (S : SX I blk d w) (hab : a ≤ b) (hb : b ≤ d.size) (hsz : d.size < 1000000) :
    Calls Try.prog 36 #[.slice (some ⟨blk, 0, none⟩) d.size d.size, .int .i64 a, .int .i64 b, .func (.func g) #[] cb] w fun e w' => e = .returned (.tuple #[]) ∧ SX I blk (Sort.insertionSort (ltc cf) d a b) w' ∧ (Sort.insertionSort (ltc cf) d a b).size = d.size ∧ ∀ i, i < d.size → ok (Sort.insertionSort (ltc cf) d a b)[i]! := by
  have u29 := Try.underlying29
  have HC := Aside0.mk hc
  have HI := Aside0.mk hI
  have HI2 := Aside0.mk hI2
  have HK := Aside0.mk hok
  have S0 := Aside0.mk S
  clear S hc hI hI2 hok
  go_enter Try.func36, Try.ntmps36
  go_wp2
  go_loopg [8] (b - a) (fun g1 vi wr => ∃ (i : Nat) (dk : Array Int), vi = .int .i64 i ∧ a < i ∧ i ≤ b + 1 ∧ b + 1 - i ≤ g1 + 1 ∧ dk.size = d.size ∧ Aside0 (SX I blk dk wr) ∧ Aside0 (∀ i, i < dk.size → ok dk[i]!) ∧ Aside0 (insOuter (ltc cf) a b i dk = insOuter (ltc cf) a b (a + 1) d))
  case atStart => exact ⟨a + 1, d, by go_num, by omega, by omega, by omega, rfl, S0, HK, ⟨rfl⟩⟩
  case round =>
    clear S0 HK
    obtain ⟨i, dk, rfl, hai, hib, hg1, hsk, S1, HK, HO⟩ := hrel
    by_cases hlt : i < b
    · have hltz : (i : Int) < (b : Int) := by omega
      go_wp2
      go_loopg [9] i (fun g2 vj wr2 => ∃ (j : Nat) (dj : Array Int), vj = .int .i64 j ∧ a ≤ j ∧ j ≤ i ∧ j ≤ g2 ∧ dj.size = d.size ∧ Aside0 (SX I blk dj wr2) ∧ Aside0 (∀ i, i < dj.size → ok dj[i]!) ∧ Aside0 (insInner (ltc cf) a j dj = insInner (ltc cf) a i dk))
      case atStart => exact ⟨i, dk, rfl, by omega, Nat.le_refl _, Nat.le_refl _, hsk, S1, HK, ⟨rfl⟩⟩
      case round =>
        clear S1 HK
        obtain ⟨j, dj, rfl, haj, hji, hg2, hsj, SJ, HK, HJ⟩ := hrel
        have OUT : Aside0 ((j ≤ a ∨ (ltc cf) dj[j]! dj[j - 1]! = false) → insOuter (ltc cf) a b (i + 1) dj = insOuter (ltc cf) a b (a + 1) d) := ⟨fun hs => by
          rw [← HO.out, insOuter_go _ _ _ _ _ hlt, ← HJ.out, insInner_stop _ _ _ _ hs]⟩
        by_cases hja : a < j
        · have hjaz : (a : Int) < (j : Int) := by omega
          obtain ⟨jp, hjp⟩ : ∃ q, q + 1 = j := ⟨j - 1, by omega⟩
          have zjp : (j : Int) = (jp : Int) + 1 := by omega
          have hjad : decide ((jp : Int) + 1 > (a : Int)) = true := decide_eq_true (by omega)
          have hjaz' : (a : Int) < (jp : Int) + 1 := by omega
          obtain ⟨iN, hiN⟩ : ∃ q, q = j := ⟨_, rfl⟩
          obtain ⟨jN, hjN⟩ : ∃ q, q = j - 1 := ⟨_, rfl⟩
          have ea : ((jp : Int) + 1).toNat = iN := by omega
          have pa : (0 : Int) ≤ (jp : Int) + 1 := by omega
          have ba : (jp : Int) + 1 < (d.size : Int) := by omega
          have ra : IntKind.i64.wrap ((jp : Int) + 1) = (jp : Int) + 1 := by rw [IntKind.wrap_i64]; omega
          have ec : ((jp : Int)).toNat = jN := by omega
          have pc : (0 : Int) ≤ (jp : Int) := by omega
          have bc : (jp : Int) < (d.size : Int) := by omega
          have rc : IntKind.i64.wrap ((jp : Int)) = (jp : Int) := by rw [IntKind.wrap_i64]; omega
          obtain ⟨x, hx⟩ : ∃ x, x = dj[j]! := ⟨_, rfl⟩
          obtain ⟨y, hy⟩ : ∃ x, x = dj[j - 1]! := ⟨_, rfl⟩
          have hcell : Aside0 (∀ w', SX I blk dj w' → w'.cell? ⟨blk, iN, none⟩ = some (.int .i64 x) ∧ w'.cell? ⟨blk, jN, none⟩ = some (.int .i64 y)) := ⟨fun w' h => by
            rw [hiN, hjN, hx, hy]; exact ⟨h.c1 j (by omega), h.c1 (j - 1) (by omega)⟩⟩
          have l1 := (hcell.out _ SJ.out).1
          have l2 := (hcell.out _ SJ.out).2
          have HOX : Aside0 (ok x) := ⟨by rw [hx]; exact HK.out j (by omega)⟩
          have HOY : Aside0 (ok y) := ⟨by rw [hy]; exact HK.out (j - 1) (by omega)⟩
          cases hlv : (ltc cf) dj[j]! dj[j - 1]! with
          | true =>
            have hd : decide (cf x y < 0) = true := by rw [hx, hy]; exact hlv
            have hv : cf x y < 0 := of_decide_eq_true hd
            have HX := Aside0.mk hx
            have HY := Aside0.mk hy
            have HIN := Aside0.mk hiN
            have HJN := Aside0.mk hjN
            clear hx hy hiN hjN
            go_wp2_with fail
            go_region_held3 (fun w' => (w'.cell? ⟨blk, iN, none⟩ = some (.int .i64 x) ∧ w'.cell? ⟨blk, jN, none⟩ = some (.int .i64 y)) ∧ SX I blk dj w')
              (first | exact ⟨hcell.out _ hsx, hsx⟩ | exact ⟨hcell.out _ (SJ.out.drew HI.out), SJ.out.drew HI.out⟩)
              (first | ((with_reducible refine (HC.out _ _ _ (And.right (by assumption : _ ∧ SX I blk dj _)).fr HOX.out HOY.out).mono ?_); rintro e w1 ⟨rfl, hb⟩; have hsx := (And.right (by assumption : _ ∧ SX I blk dj _)).step HI.out hb; clear hb))
            have S2 := Aside0.mk hsx
            clear hsx l1 l2
            go_wp2_with fail
            have S3 : Aside0 (SX I blk (swp dj j (j - 1)) ((w1.setCell ⟨blk, iN, none⟩ (.int .i64 y)).setCell ⟨blk, jN, none⟩ (.int .i64 x)).drew) := ⟨by rw [HIN.out, HJN.out, HX.out, HY.out]; exact S2.out.swapped HI.out HI2.out j (j - 1)⟩
            have c1 := (hcell.out _ S2.out).1
            have c2 := (hcell.out _ S2.out).2
            have f1 : w1.frozen? ⟨blk, iN, none⟩ = false := S2.out.f1 iN
            have f2 : w1.frozen? ⟨blk, jN, none⟩ = false := S2.out.f1 jN
            obtain ⟨u, c3⟩ : ∃ u, (w1.setCell ⟨blk, iN, none⟩ (.int .i64 y)).cell? ⟨blk, jN, none⟩ = some u := S2.out.c2 iN jN (by have := HIN.out; omega) (by have := HJN.out; omega) _
            clear S2
            go_region
            clear c1 c2 c3 f1 f2
            generalize ((w1.setCell ⟨blk, iN, none⟩ (.int .i64 y)).setCell ⟨blk, jN, none⟩ (.int .i64 x)).drew = w3 at S3 ⊢
            clear ea ec
            go_wp2
            go_roundg (j - 1)
            case measure => omega
            case rel => exact ⟨j - 1, swp dj j (j - 1), by first | rfl | go_num | (congr 1; omega), by omega, by omega, Nat.le_refl _, by simp [swp, hsj], S3, ⟨swp_ok HK.out (by omega) (by omega)⟩, ⟨by rw [← HJ.out, insInner_go (ltc cf) a j dj hja hlv]⟩⟩
          | false =>
            have hd : decide (cf x y < 0) = false := by rw [hx, hy]; exact hlv
            have hv : ¬ cf x y < 0 := of_decide_eq_false hd
            clear hx hy hiN hjN
            go_wp2_with fail
            go_region_held3 (fun w' => (w'.cell? ⟨blk, iN, none⟩ = some (.int .i64 x) ∧ w'.cell? ⟨blk, jN, none⟩ = some (.int .i64 y)) ∧ SX I blk dj w')
              (first | exact ⟨hcell.out _ hsx, hsx⟩ | exact ⟨hcell.out _ (SJ.out.drew HI.out), SJ.out.drew HI.out⟩)
              (first | ((with_reducible refine (HC.out _ _ _ (And.right (by assumption : _ ∧ SX I blk dj _)).fr HOX.out HOY.out).mono ?_); rintro e w1 ⟨rfl, hb⟩; have hsx := (And.right (by assumption : _ ∧ SX I blk dj _)).step HI.out hb; clear hb))
            have S2 := Aside0.mk hsx
            clear hsx l1 l2 ea ec
            go_wp2
            go_roundg (b - (i + 1))
            case measure => omega
            case rel => exact ⟨i + 1, dj, by go_num, by omega, by omega, by omega, hsj, S2, HK, ⟨OUT.out (Or.inr hlv)⟩⟩
        · have hjaz : decide ((j : Int) > (a : Int)) = false := decide_eq_false (by omega)
          have hjaz' : ¬ (a : Int) < (j : Int) := by omega
          go_wp2_with fail
          go_region
          have S2 : Aside0 (SX I blk dj wr.drew) := ⟨SJ.out.drew HI.out⟩
          clear SJ
          generalize wr.drew = w2 at S2 ⊢
          go_wp2
          go_roundg (b - (i + 1))
          case measure => omega
          case rel => exact ⟨i + 1, dj, by go_num, by omega, by omega, by omega, hsj, S2, HK, ⟨OUT.out (Or.inl (by omega))⟩⟩
    · have hltz : ¬ (i : Int) < (b : Int) := by omega
      go_wp2
      go_end0
      have e : Sort.insertionSort (ltc cf) d a b = dk := by unfold Sort.insertionSort; rw [← HO.out, insOuter_stop _ _ _ _ _ hlt]
      rw [e]
      exact ⟨rfl, S1.out, hsk, fun i hi => HK.out i (by omega)⟩
end Go.Proofs.Ytojdmloimmcacaa.TS
