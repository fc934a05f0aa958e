/- Proved: what swapRangeCmpFunc and rotateCmpFunc of slices do to a row of ints; no condition beyond the bounds. -/
import Derived.Test.YtojdmloimmcacaaV36
import Derived.Test.YtojdmloimmcacaaTM
import Derived.LoopN
namespace Go.Proofs.Ytojdmloimmcacaa.TS
open Go.RowKit Go.Sort Go.Proofs.YtojdmloimmcacaaW.PrintWords Go.Proofs.YtojdmloimmcacaaW.PrintLast Go.Proofs.YtojdmloimmcacaaW.PrintMore
set_option linter.unusedVariables false
set_option linter.unusedSimpArgs false
variable {I : World → Prop} {blk : Nat}
set_option maxHeartbeats 4000000 in
set_option maxRecDepth 100000 in
theorem swr_walk (g : Nat) (cb : Array Value) (hI : ∀ w w', I w → Below w.heap.size w w' → I w') (hI2 : ∀ w (a : Addr) v, a.block = blk → I w → I (w.setCell a v))
    (a b m : Nat) (d : Array Int) (w : World) (S : SX I blk d w) (hab : a + m ≤ b) (hb : b + m ≤ d.size) (hsz : d.size < 1000000) :
    Calls Try.prog 41 #[.slice (some ⟨blk, 0, none⟩) d.size d.size, .int .i64 a, .int .i64 b, .int .i64 m, .func (.func g) #[] cb] w fun e w' => e = .returned (.tuple #[]) ∧ ∃ d', SX I blk d' w' ∧ TP.SwR a b m d d' := by
  have u29 := Try.underlying29
  have HI := Aside0.mk hI
  have HI2 := Aside0.mk hI2
  have S0 := Aside0.mk S
  clear S hI hI2
  go_enter Try.func41, Try.ntmps41
  go_wp2
  go_loopg [10] m (fun g1 vi wr => ∃ (t : Nat) (dk : Array Int), vi = .int .i64 t ∧ t ≤ m ∧ m - t ≤ g1 ∧ dk.size = d.size ∧ Aside0 (SX I blk dk wr) ∧ Aside0 (TP.SwR a b t d dk))
  case atStart => exact ⟨0, d, rfl, by omega, by omega, rfl, S0, ⟨TP.SwR.zero a b d⟩⟩
  case round =>
    clear S0
    obtain ⟨t, dk, rfl, htm, hg1, hsk, S1, HR⟩ := hrel
    by_cases hlt : t < m
    · have hltz : (t : Int) < (m : Int) := by omega
      obtain ⟨iN, hiN⟩ : ∃ q, q = a + t := ⟨_, rfl⟩
      obtain ⟨jN, hjN⟩ : ∃ q, q = b + t := ⟨_, rfl⟩
      have ea : ((a : Int) + (t : Int)).toNat = iN := by omega
      have pa : (0 : Int) ≤ (a : Int) + (t : Int) := by omega
      have ba : (a : Int) + (t : Int) < (d.size : Int) := by omega
      have ra : IntKind.i64.wrap ((a : Int) + (t : Int)) = (a : Int) + (t : Int) := by rw [IntKind.wrap_i64]; omega
      have ec : ((b : Int) + (t : Int)).toNat = jN := by omega
      have pc : (0 : Int) ≤ (b : Int) + (t : Int) := by omega
      have bc : (b : Int) + (t : Int) < (d.size : Int) := by omega
      have rc : IntKind.i64.wrap ((b : Int) + (t : Int)) = (b : Int) + (t : Int) := by rw [IntKind.wrap_i64]; omega
      obtain ⟨x, hx⟩ : ∃ x, x = dk[iN]! := ⟨_, rfl⟩
      obtain ⟨y, hy⟩ : ∃ x, x = dk[jN]! := ⟨_, rfl⟩
      have c1 : wr.cell? ⟨blk, iN, none⟩ = some (.int .i64 x) := by rw [hx]; exact S1.out.c1 iN (by omega)
      have c2 : wr.cell? ⟨blk, jN, none⟩ = some (.int .i64 y) := by rw [hy]; exact S1.out.c1 jN (by omega)
      have f1 : wr.frozen? ⟨blk, iN, none⟩ = false := S1.out.f1 iN
      have f2 : wr.frozen? ⟨blk, jN, none⟩ = false := S1.out.f1 jN
      obtain ⟨u, c3⟩ : ∃ u, (wr.setCell ⟨blk, iN, none⟩ (.int .i64 y)).cell? ⟨blk, jN, none⟩ = some u := S1.out.c2 iN jN (by omega) (by omega) _
      have S3 : Aside0 (SX I blk (swp dk iN jN) ((wr.setCell ⟨blk, iN, none⟩ (.int .i64 y)).setCell ⟨blk, jN, none⟩ (.int .i64 x)).drew) := ⟨by rw [hx, hy]; exact S1.out.swapped HI.out HI2.out iN jN⟩
      have HR2 : Aside0 (TP.SwR a b (t + 1) d (swp dk iN jN)) := ⟨by rw [hiN, hjN]; exact HR.out.step m hab hlt hb⟩
      have HS : Aside0 ((swp dk iN jN).size = d.size) := ⟨by rw [HR2.out.size]⟩
      clear S1 HR hx hy hiN hjN
      go_wp2_with fail
      go_region
      clear c1 c2 c3 f1 f2 ea pa ba ra ec pc bc rc
      generalize ((wr.setCell ⟨blk, iN, none⟩ (.int .i64 y)).setCell ⟨blk, jN, none⟩ (.int .i64 x)).drew = w3 at S3 ⊢
      go_wp2
      go_roundg (m - (t + 1))
      case measure => omega
      case rel => exact ⟨t + 1, swp dk iN jN, by go_num, by omega, by omega, HS.out, S3, HR2⟩
    · have hltz : ¬ (t : Int) < (m : Int) := by omega
      have e : t = m := by omega
      subst e
      go_wp2
      go_end0
      exact ⟨rfl, dk, S1.out, HR.out⟩
set_option maxHeartbeats 4000000 in
set_option maxRecDepth 100000 in
theorem rot_walk (g : Nat) (cb : Array Value) (hI : ∀ w w', I w → Below w.heap.size w w' → I w') (hI2 : ∀ w (a : Addr) v, a.block = blk → I w → I (w.setCell a v))
    (a m b : Nat) (d : Array Int) (w : World) (S : SX I blk d w) (ham : a < m) (hmb : m < b) (hb : b ≤ d.size) (hsz : d.size < 1000000) :
    Calls Try.prog 40 #[.slice (some ⟨blk, 0, none⟩) d.size d.size, .int .i64 a, .int .i64 m, .int .i64 b, .func (.func g) #[] cb] w fun e w' => e = .returned (.tuple #[]) ∧ ∃ d', SX I blk d' w' ∧ TP.RotR a m b d d' := by
  have HC : Aside0 (∀ (a b m : Nat) (dk : Array Int) (w : World), SX I blk dk w → a + m ≤ b → b + m ≤ dk.size → dk.size = d.size → Calls Try.prog 41 #[.slice (some ⟨blk, 0, none⟩) d.size d.size, .int .i64 a, .int .i64 b, .int .i64 m, .func (.func g) #[] cb] w fun e w' => e = .returned (.tuple #[]) ∧ ∃ d', SX I blk d' w' ∧ TP.SwR a b m dk d') := ⟨fun a b m dk w S h1 h2 h3 => by
    have := swr_walk g cb hI hI2 a b m dk w S h1 h2 (by omega)
    rw [h3] at this
    exact this⟩
  have S0 := Aside0.mk S
  clear S hI hI2
  go_enter Try.func40, Try.ntmps40
  have e1 : IntKind.i64.wrap ((m : Int) - (a : Int)) = ((m - a : Nat) : Int) := by rw [IntKind.wrap_i64]; omega
  have e2 : IntKind.i64.wrap ((b : Int) - (m : Int)) = ((b - m : Nat) : Int) := by rw [IntKind.wrap_i64]; omega
  go_wp2
  go_loopg [10, 11] (b - a) (fun g1 vi vj wr => ∃ (i j : Nat) (dk : Array Int), vi = .int .i64 i ∧ vj = .int .i64 j ∧ 0 < i ∧ i ≤ m - a ∧ 0 < j ∧ j ≤ b - m ∧ i + j ≤ g1 ∧ dk.size = d.size ∧ Aside0 (SX I blk dk wr) ∧ Aside0 (∀ d', TP.RotR (m - i) m (m + j) dk d' → TP.RotR a m b d d'))
  case atStart => 
    refine ⟨m - a, b - m, d, ?_, ?_, by omega, by omega, by omega, by omega, by omega, rfl, S0, ⟨fun d' h => ?_⟩⟩
    · first | rfl | (congr 1; omega)
    · first | rfl | (congr 1; omega)
    · rw [show m - (m - a) = a by omega, show m + (b - m) = b by omega] at h
      exact h
  case round =>
    clear S0 e1 e2
    obtain ⟨i, j, dk, rfl, rfl, hi0, hi1, hj0, hj1, hg, hsk, S1, HR⟩ := hrel
    have ei : IntKind.i64.wrap ((m : Int) - (i : Int)) = ((m - i : Nat) : Int) := by rw [IntKind.wrap_i64]; omega
    by_cases hne : i = j
    · subst hne
      have hz : ((i : Int) != (i : Int)) = false := by simp
      have HX := Aside0.mk (HC.out (m - i) m i dk wr S1.out (by omega) (by omega) hsk)
      clear HC
      go_wp2_with (go_at_call 41; with_reducible refine HX.out.mono ?_; rintro e w1 ⟨rfl, d2, hs2, hr2⟩; have HS2 := Aside0.mk hs2; have HR2 := Aside0.mk hr2; clear hs2 hr2)
      go_end0
      exact ⟨rfl, d2, HS2.out, HR.out d2 (TP.RotR.even HR2.out (by omega))⟩
    · have hz : ((i : Int) != (j : Int)) = true := bne_iff_ne.mpr (by omega)
      have hzd : decide ((i : Int) = (j : Int)) = false := decide_eq_false (by omega)
      by_cases hgt : j < i
      · have hgz : decide ((i : Int) > (j : Int)) = true := decide_eq_true (by omega)
        have hgz' : (j : Int) < (i : Int) := by omega
        have eij : IntKind.i64.wrap ((i : Int) - (j : Int)) = ((i - j : Nat) : Int) := by rw [IntKind.wrap_i64]; omega
        have HX := Aside0.mk (HC.out (m - i) m j dk wr S1.out (by omega) (by omega) hsk)
        go_wp2_with (go_at_call 41; with_reducible refine HX.out.mono ?_; rintro e w1 ⟨rfl, d2, hs2, hr2⟩; have HS2 := Aside0.mk hs2; have HR2 := Aside0.mk hr2; clear hs2 hr2)
        go_roundg (i - j + j)
        case measure => omega
        case rel =>
          refine ⟨i - j, j, d2, ?_, rfl, by omega, by omega, hj0, hj1, by omega, by rw [HR2.out.size, hsk], HS2, ⟨fun d' h => HR.out d' (TP.RotR.more HR2.out hgt (by omega) h)⟩⟩
          first | rfl | (congr 1; omega)
      · have hgz : decide ((i : Int) > (j : Int)) = false := decide_eq_false (by omega)
        have hgz' : ¬ (j : Int) < (i : Int) := by omega
        have eij : IntKind.i64.wrap ((j : Int) - (i : Int)) = ((j - i : Nat) : Int) := by rw [IntKind.wrap_i64]; omega
        have hx := HC.out (m - i) (m + j - i) i dk wr S1.out (by omega) (by omega) hsk
        rw [show ((m + j - i : Nat) : Int) = (m : Int) + (j : Int) - (i : Int) by omega] at hx
        have HX := Aside0.mk hx
        clear hx
        go_wp2_with (go_at_call 41; with_reducible refine HX.out.mono ?_; rintro e w1 ⟨rfl, d2, hs2, hr2⟩; have HS2 := Aside0.mk hs2; have HR2 := Aside0.mk hr2; clear hs2 hr2)
        go_roundg (i + (j - i))
        case measure => omega
        case rel =>
          refine ⟨i, j - i, d2, rfl, ?_, hi0, hi1, by omega, by omega, by omega, by rw [HR2.out.size, hsk], HS2, ⟨fun d' h => HR.out d' (TP.RotR.less HR2.out (by omega) (by omega) h)⟩⟩
          first | rfl | (congr 1; omega)
end Go.Proofs.Ytojdmloimmcacaa.TS
