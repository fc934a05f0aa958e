/- What round's function value owes a loop over it (under way). -/
import Derived.Test.YtojdmloimmcacaaVD
import Derived.Test.YtojdmloimmcacaaRF
import Derived.RangeFuncNested
import Derived.RangeFuncBound
import Derived.RangeFuncCalls
import Derived.RangeFuncLeaves
import Derived.Shelf.Abstract
import Derived.Shelf.RegionOpen
import Derived.OwnWalkIn
import Derived.TacticsInMore
import Derived.LoopNIn
import Derived.LoopIn
import Derived.Sort.LoopGhostIn
namespace Go.Proofs.Ytojdmloimmcacaa.TS
open Go.RowKit Go.Sort Go.Proofs.YtojdmloimmcacaaW.PrintWords Go.Proofs.YtojdmloimmcacaaW.PrintLast Go.Proofs.YtojdmloimmcacaaW.PrintMore
open PTurnSorts
set_option linter.unusedVariables false
set_option linter.unusedSimpArgs false
/-- What a round keeps for the iterator: all blocks of cells but the body's own variable. -/
def Kq (w : World) (bx : Nat) (A B : World) : Prop := RowKit.Below w.heap.size A B ∧ ∀ k o, A.heap[k]? = some o → o.isCells = true → k ≠ bx → B.heap[k]? = some o
theorem grown_of_below {A B : World} (h : RowKit.Below A.heap.size A B) : A.grownBy B none := ⟨h.os, h.tape, h.output, h.size, fun k hk _ => h.block k hk⟩
attribute [local go_sem] Oper.semAt_some
theorem tw_stop {α : Type} (p : α → Bool) : ∀ l : List α, ∀ h : (l.takeWhile p).length < l.length, p (l[(l.takeWhile p).length]'h) = false
  | [], h => absurd h (by simp)
  | a :: t, h => by
    by_cases ha : p a = true
    · have h2 : (t.takeWhile p).length < t.length := by simp [List.takeWhile_cons, ha] at h; exact h
      have := tw_stop p t h2
      simp [List.takeWhile_cons, ha]
      exact this
    · have hf : p a = false := by simpa using ha
      simp [List.takeWhile_cons, hf]
theorem tw_all {α : Type} (p : α → Bool) : ∀ l : List α, ∀ k, ∀ h : k < (l.takeWhile p).length, ∀ h2 : k < l.length, p (l[k]'h2) = true
  | [], k, h, _ => absurd h (by simp)
  | a :: t, k, h, h2 => by
    by_cases ha : p a = true
    · cases k with
      | zero => simpa using ha
      | succ k =>
        have h3 : k < (t.takeWhile p).length := by simp [List.takeWhile_cons, ha] at h; exact h
        simpa using tw_all p t k h3 (by simpa using h2)
    · have hf : p a = false := by simpa using ha
      simp [List.takeWhile_cons, hf] at h
theorem first_le (xs : List S36) (fr : S36) (hs : (sorted xs).size = xs.length) : firstp xs fr ≤ xs.length := by
  unfold firstp
  have := List.takeWhile_prefix (l := (sorted xs).toList) (fun k => decide (cmpv (rd_T36 xs k) fr ≤ 0))
  have h2 := this.length_le
  have e : (sorted xs).toList.length = xs.length := by rw [Array.length_toList, hs]
  omega
theorem first_go (xs : List S36) (fr : S36) (hs : (sorted xs).size = xs.length) (f : Nat) (h : f ≤ firstp xs fr) (hf : f < xs.length) (hc : cmpv (rd_T36 xs (sorted xs)[f]!) fr ≤ 0) : f + 1 ≤ firstp xs fr := by
  rcases Nat.lt_or_ge f (firstp xs fr) with h1 | h1
  · exact h1
  · have e : f = firstp xs fr := Nat.le_antisymm h h1
    have hl : f < (sorted xs).toList.length := by rw [Array.length_toList, hs]; exact hf
    have := tw_stop (fun k => decide (cmpv (rd_T36 xs k) fr ≤ 0)) (sorted xs).toList (by have := e; unfold firstp at this; omega)
    unfold firstp at e
    have e2 : (sorted xs)[f]! = (sorted xs).toList[f]'hl := by
      have : f < (sorted xs).size := by omega
      simp [this]
    rw [e2] at hc
    simp only [← e] at this
    exact absurd hc (of_decide_eq_false this)
theorem first_stop (xs : List S36) (fr : S36) (hs : (sorted xs).size = xs.length) (f : Nat) (h : f ≤ firstp xs fr) (hf : f < xs.length) (hc : ¬ cmpv (rd_T36 xs (sorted xs)[f]!) fr ≤ 0) : f = firstp xs fr := by
  rcases Nat.lt_or_ge f (firstp xs fr) with h1 | h1
  · have hl : f < (sorted xs).toList.length := by rw [Array.length_toList, hs]; exact hf
    have := tw_all (fun k => decide (cmpv (rd_T36 xs k) fr ≤ 0)) (sorted xs).toList f h1 hl
    have e2 : (sorted xs)[f]! = (sorted xs).toList[f]'hl := by
      have : f < (sorted xs).size := by omega
      simp [this]
    rw [e2] at hc
    exact absurd (of_decide_eq_true this) hc
  · omega
def prel (xs : List S36) (fr : S36) (i : Nat) : List Int := ((List.range i).map fun i => (sorted xs)[(firstp xs fr + i) % xs.length]!).filter fun k => okd (rd_T36 xs k)
theorem prel_len (xs : List S36) (fr : S36) (i : Nat) : (prel xs fr i).length ≤ i := by
  unfold prel
  refine Nat.le_trans (List.length_filter_le _ _) ?_
  simp
theorem prel_ok (xs : List S36) (fr : S36) (i : Nat) (k : Int) (hk : k = (sorted xs)[(firstp xs fr + i) % xs.length]!) (h : okd (rd_T36 xs k) = true) : prel xs fr (i + 1) = prel xs fr i ++ [k] := by
  unfold prel
  rw [List.range_succ, List.map_append, List.filter_append, List.map_cons, List.map_nil, ← hk]
  simp [h]
theorem prel_no (xs : List S36) (fr : S36) (i : Nat) (k : Int) (hk : k = (sorted xs)[(firstp xs fr + i) % xs.length]!) (h : okd (rd_T36 xs k) = false) : prel xs fr (i + 1) = prel xs fr i := by
  unfold prel
  rw [List.range_succ, List.map_append, List.filter_append, List.map_cons, List.map_nil, ← hk]
  simp [h]
theorem prel_pre (xs : List S36) (fr : S36) (i : Nat) (h : i ≤ xs.length) : prel xs fr i <+: roundl xs fr := by
  unfold prel roundl
  obtain ⟨d, hd⟩ : ∃ d, xs.length = i + d := ⟨xs.length - i, by omega⟩
  refine List.IsPrefix.filter _ (List.IsPrefix.map _ ?_)
  rw [hd, List.range_add]
  exact List.prefix_append _ _
theorem okd_e (a : S36) : turn_Dir_ok.f a.f0 a.f1 = some (okd a) := by
  obtain ⟨b, hb⟩ := dir_tot a.f0 a.f1
  unfold okd
  rw [hb]; rfl
/-- What the iterator knows of a world. -/
structure St (w : World) (gb g2 blk : Nat) (A : Option Addr) (xs : List S36) (c : Nat) (fr : S36) (W : World) : Prop where
  bel : RowKit.Below w.heap.size w W
  b1 : W.heap[gb]? = some (.cells #[.slice A xs.length c] 24 (0, 0))
  b2 : W.heap[g2]? = some (.cells #[.int .i64 fr.f0, .int .i64 fr.f1] 36 (0, 0))
  row : W.heap[blk]? = some (.cells ((sorted xs).map (Value.int .i64)) 3 (0, 0))
theorem St.cells {w : World} {gb g2 blk : Nat} {A : Option Addr} {xs : List S36} {c : Nat} {fr : S36} {W : World} (h : St w gb g2 blk A xs c fr W) : W.cell? ⟨gb, 0, none⟩ = some (.slice A xs.length c) ∧ W.cell? ⟨g2, 0, none⟩ = some (.int .i64 fr.f0) ∧ W.cell? ⟨g2, 1, none⟩ = some (.int .i64 fr.f1) := by
  simp [World.cell?, h.b1, h.b2]
theorem St.rowc {w : World} {gb g2 blk : Nat} {A : Option Addr} {xs : List S36} {c : Nat} {fr : S36} {W : World} (h : St w gb g2 blk A xs c fr W) (i : Nat) (hi : i < (sorted xs).size) : W.cell? ⟨blk, i, none⟩ = some (.int .i64 (sorted xs)[i]!) := by
  simp [World.cell?, h.row, hi]
theorem at_lt {W : World} {k : Nat} {o : Obj} (h : W.heap[k]? = some o) : k < W.heap.size := (Array.getElem?_eq_some_iff.1 h).1
theorem St.step {w : World} {gb g2 blk : Nat} {A : Option Addr} {xs : List S36} {c : Nat} {fr : S36} {W W' : World} (h : St w gb g2 blk A xs c fr W) (hb : RowKit.Below W.heap.size W W') : St w gb g2 blk A xs c fr W' :=
  ⟨h.bel.trans (hb.mono h.bel.size), (hb.block gb (at_lt h.b1)).trans h.b1, (hb.block g2 (at_lt h.b2)).trans h.b2, (hb.block blk (at_lt h.row)).trans h.row⟩
set_option maxHeartbeats 4000000 in
set_option maxRecDepth 100000 in
theorem round_iter (n : Nat) (hn : 2 ≤ n) (A : Option Addr) (xs : List S36) (c : Nat) (w : World) (hC : Kd.C k36 w A xs.length xs) (hcap : xs.length ≤ c) (h20 : xs.length < 64) (fr : S36) (gb g2 bx : Nat) (hgb : w.heap.size ≤ gb) (hg2 : w.heap.size ≤ g2) (hne : gb ≠ bx) (hne2 : g2 ≠ bx)
    (W : World) (hW : RowKit.Below w.heap.size w W) (hbx : bx < W.heap.size) (hb : W.heap[gb]? = some (.cells #[.slice A xs.length c] 24 (0, 0))) (hb2 : W.heap[g2]? = some (.cells #[.int .i64 fr.f0, .int .i64 fr.f1] 36 (0, 0))) :
    Iter Fence.wide n Try.prog 33 #[.pointer (some ⟨gb, 0, none⟩), .pointer (some ⟨g2, 0, none⟩)] (fun k : Int => #[.int .i64 k]) (Kq w bx) (fun l => l = roundl xs fr) (fun pre => pre <+: roundl xs fr) 100 (fun _ => False) W := by
  intro l J Jx hJ hJx hY h0
  have hn1 : 1 ≤ n := by omega
  have hn2 : 1 ≤ n - 1 := by omega
  have hC1 := Kd.C_below hC hW
  have hcell : W.cell? ⟨gb, 0, none⟩ = some (.slice A xs.length c) := by simp [World.cell?, hb]
  have HB := Aside0.mk (And.intro hb hb2)
  have HW := Aside0.mk hW
  have HC := Aside0.mk hC
  have HK := Aside0.mk (And.intro hgb (And.intro hg2 (And.intro hne (And.intro hne2 (And.intro hbx (And.intro hcap h20))))))
  clear hb hb2 hW hC hC1 hgb hg2 hne hne2 hbx hcap h20
  refine callsIn_of_wp Try.func33 rfl trivial ?_ rfl
  simp only [Try.ntmps33, List.size_toArray, List.length_cons, List.length_nil, Nat.reduceAdd, Nat.reduceSub, Array.replicate_succ, Array.replicate_zero, List.push_toArray, List.append_toArray, List.nil_append, List.cons_append]
  have HY := Aside0.mk hY
  have HJ := Aside0.mk hJ
  have HJx := Aside0.mk hJx
  have H0 := Aside0.mk h0
  clear hY hJ hJx h0
  have HS := Aside0.mk (Sort_walk W A xs c (Kd.C_below HC.out HW.out) cmpv_e HK.out.2.2.2.2.2.2)
  gi_wp2_with fail
  refine ⟨trivial, (callsIn_wide.2 HS.out).mono ?_⟩
  rintro e w1 ⟨blk, rfl, hb1, hle, hrow, hss, hrng⟩
  have S1 : Aside0 (St w gb g2 blk A xs c fr w1) := ⟨⟨HW.out.trans (hb1.mono HW.out.size), (hb1.block gb (at_lt HB.out.1)).trans HB.out.1, (hb1.block g2 (at_lt HB.out.2)).trans HB.out.2, hrow⟩⟩
  have J1 : Aside0 (J [] w1) := ⟨HJ.out [] W w1 none H0.out (grown_of_below hb1) (fun _ e => by cases e)⟩
  have HBX : Aside0 (blk ≠ bx) := ⟨by have := HK.out.2.2.2.2.1; omega⟩
  have HSS := Aside0.mk hss
  have HRG := Aside0.mk hrng
  clear HS hcell HB H0 hb1 hle hrow hss hrng
  gi_wp2_with fail
  gi_loopg [6] xs.length (fun gk v6 w' => ∃ (f : Nat), v6 = .int .i64 (f : Int) ∧ f ≤ xs.length ∧ xs.length - f ≤ gk ∧ Aside0 (f ≤ firstp xs fr) ∧ Aside0 (St w gb g2 blk A xs c fr w') ∧ Aside0 (J [] w'))
  case atStart => exact ⟨0, rfl, by omega, by omega, ⟨Nat.zero_le _⟩, S1, J1⟩
  case round =>
    clear S1 J1
    obtain ⟨f, rfl, hf, hg, HF, S1, J1⟩ := hrel
    by_cases hfn : f < xs.length
    · have hz : (f : Int) < (xs.length : Int) := by omega
      have hd : decide ((f : Int) < (xs.length : Int)) = true := decide_eq_true hz
      have hd2 : decide (f < xs.length) = true := decide_eq_true hfn
      have p0 : (0 : Int) ≤ (f : Int) := by omega
      have r0 := S1.out.rowc f (by rw [HSS.out]; exact hfn)
      obtain ⟨hk1, hk2⟩ := HRG.out f hfn
      obtain ⟨kk, hkk⟩ : ∃ kk, kk = (sorted xs)[f]! := ⟨_, rfl⟩
      rw [← hkk] at r0 hk1 hk2
      obtain ⟨ad, e1, x0, x1⟩ := at_T36 (Kd.C_below HC.out S1.out.bel) kk hk1 hk2
      obtain ⟨hg1, hg2, hg3⟩ := S1.out.cells
      obtain ⟨X, hX⟩ : ∃ X, X = rd_T36 xs kk := ⟨_, rfl⟩
      rw [← hX] at x0 x1
      rw [e1] at hg1
      have hm := Aside0.mk (cmpv_e X fr)
      have q1 := eq_true hk1
      have q2 := eq_true hk2
      have KEEP : Aside0 (∀ w', RowKit.Below wr.heap.size wr w' → (w'.cell? ⟨gb, 0, none⟩ = some (.slice (some ad) xs.length c) ∧ (w'.cell? ⟨g2, 0, none⟩ = some (.int .i64 fr.f0) ∧ w'.cell? ⟨g2, 1, none⟩ = some (.int .i64 fr.f1)) ∧ w'.cell? ⟨blk, f, none⟩ = some (.int .i64 kk) ∧ w'.cell? (ad.add (kk.toNat * 2)) = some (.int .i64 X.f0) ∧ w'.cell? ⟨(ad.add (kk.toNat * 2)).block, (ad.add (kk.toNat * 2)).off + 1, none⟩ = some (.int .i64 X.f1)) ∧ RowKit.Below wr.heap.size wr w') :=
        ⟨fun w' h => ⟨⟨(h.cell (World.block_lt_of_cell? wr _ hg1)).trans hg1, ⟨(h.cell (World.block_lt_of_cell? wr _ hg2)).trans hg2, (h.cell (World.block_lt_of_cell? wr _ hg3)).trans hg3⟩, (h.cell (World.block_lt_of_cell? wr _ r0)).trans r0, (h.cell (World.block_lt_of_cell? wr _ x0)).trans x0, (h.cell (World.block_lt_of_cell? wr _ x1)).trans x1⟩, h⟩⟩
      have HKK := Aside0.mk hkk
      have HX := Aside0.mk hX
      have HE := Aside0.mk e1
      clear hkk hX e1 hk1 hk2
      by_cases hc : cmpv X fr ≤ 0
      · have hcd : decide (cmpv X fr ≤ 0) = true := decide_eq_true hc
        gi_wp2_with fail
        refine wpIn_wide.2 ?_
        go_region_held3 (fun w' => (w'.cell? ⟨gb, 0, none⟩ = some (.slice (some ad) xs.length c) ∧ (w'.cell? ⟨g2, 0, none⟩ = some (.int .i64 fr.f0) ∧ w'.cell? ⟨g2, 1, none⟩ = some (.int .i64 fr.f1)) ∧ w'.cell? ⟨blk, f, none⟩ = some (.int .i64 kk) ∧ w'.cell? (ad.add (kk.toNat * 2)) = some (.int .i64 X.f0) ∧ w'.cell? ⟨(ad.add (kk.toNat * 2)).block, (ad.add (kk.toNat * 2)).off + 1, none⟩ = some (.int .i64 X.f1)) ∧ RowKit.Below wr.heap.size wr w')
          (first | exact KEEP.out _ hox | exact KEEP.out _ (Below.refl _ _).drew)
          (first | (go_at_call 20; (with_reducible refine (turn_Cmp.calls 20 _ _ _ _ _ _ hm.out).mono ?_); rintro e w2 ⟨rfl, hb⟩; have hox := (And.right (by assumption : _ ∧ RowKit.Below wr.heap.size wr _)).trans (hb.mono (And.right (by assumption : _ ∧ RowKit.Below wr.heap.size wr _)).size); clear hb))
        have S2 : Aside0 (St w gb g2 blk A xs c fr w2) := ⟨S1.out.step hox⟩
        have J2 : Aside0 (J [] w2) := ⟨HJ.out _ _ w2 none J1.out (grown_of_below hox) (fun _ e => by cases e)⟩
        have F2 : Aside0 (f + 1 ≤ firstp xs fr) := ⟨first_go xs fr HSS.out f HF.out hfn (by rw [← HKK.out, ← HX.out]; exact hc)⟩
        clear S1 J1 HF hox KEEP r0 x0 x1 hg1 hg2 hg3
        have h20 := HK.out.2.2.2.2.2.2
        gi_wp2
        go_roundg (xs.length - (f + 1))
        case measure => omega
        case rel => exact ⟨f + 1, by first | go_num | (refine congrArg _ ?_; rw [IntKind.wrap_i64]; omega), by omega, by omega, F2, S2, J2⟩
      · have hcd : decide (cmpv X fr ≤ 0) = false := decide_eq_false hc
        gi_wp2_with fail
        refine wpIn_wide.2 ?_
        go_region_held3 (fun w' => (w'.cell? ⟨gb, 0, none⟩ = some (.slice (some ad) xs.length c) ∧ (w'.cell? ⟨g2, 0, none⟩ = some (.int .i64 fr.f0) ∧ w'.cell? ⟨g2, 1, none⟩ = some (.int .i64 fr.f1)) ∧ w'.cell? ⟨blk, f, none⟩ = some (.int .i64 kk) ∧ w'.cell? (ad.add (kk.toNat * 2)) = some (.int .i64 X.f0) ∧ w'.cell? ⟨(ad.add (kk.toNat * 2)).block, (ad.add (kk.toNat * 2)).off + 1, none⟩ = some (.int .i64 X.f1)) ∧ RowKit.Below wr.heap.size wr w')
          (first | exact KEEP.out _ hox | exact KEEP.out _ (Below.refl _ _).drew)
          (first | (go_at_call 20; (with_reducible refine (turn_Cmp.calls 20 _ _ _ _ _ _ hm.out).mono ?_); rintro e w2 ⟨rfl, hb⟩; have hox := (And.right (by assumption : _ ∧ RowKit.Below wr.heap.size wr _)).trans (hb.mono (And.right (by assumption : _ ∧ RowKit.Below wr.heap.size wr _)).size); clear hb))
        have S2 : Aside0 (St w gb g2 blk A xs c fr w2) := ⟨S1.out.step hox⟩
        have J2 : Aside0 (J (prel xs fr 0) w2) := ⟨HJ.out _ _ w2 none J1.out (grown_of_below hox) (fun _ e => by cases e)⟩
        have HFP : Aside0 (f = firstp xs fr) := ⟨first_stop xs fr HSS.out f HF.out hfn (by rw [← HKK.out, ← HX.out]; omega)⟩
        clear S1 J1 HF hox KEEP r0 x0 x1 hg1 hg2 hg3 hm HKK HX HE q1 q2 hc hcd p0 hd hd2 hz
        gi_wp2_with fail
        gi_loopg [31] xs.length (fun gk v31 w' => ∃ (i : Nat), v31 = .int .i64 (i : Int) ∧ i ≤ xs.length ∧ xs.length - i ≤ gk ∧ Aside0 (St w gb g2 blk A xs c fr w') ∧ Aside0 (J (prel xs fr i) w'))
        case atStart => exact ⟨0, rfl, by omega, by omega, S2, J2⟩
        case round =>
          clear S2 J2
          obtain ⟨i, rfl, hi, hgi, S3, J3⟩ := hrel
          by_cases hin : i < xs.length
          · have yz : (i : Int) < (xs.length : Int) := by omega
            have yd : decide ((i : Int) < (xs.length : Int)) = true := decide_eq_true yz
            have yd2 : decide (i < xs.length) = true := decide_eq_true hin
            obtain ⟨m, hm0⟩ : ∃ m, m = (f + i) % xs.length := ⟨_, rfl⟩
            have hmn : m < xs.length := by rw [hm0]; exact Nat.mod_lt _ (by omega)
            have yr : Int.tmod ((f : Int) + (i : Int)) (xs.length : Int) = (m : Int) := by
              rw [hm0, Int.tmod_eq_emod_of_nonneg (Int.add_nonneg (Int.natCast_nonneg _) (Int.natCast_nonneg _)), Int.natCast_emod, Int.natCast_add]
            have yn : ((xs.length : Int) == 0) = false := beq_eq_false_iff_ne.mpr (by omega)
            have yn2 : ¬ (xs.length : Int) = 0 := by omega
            have yn3 : ¬ xs.length = 0 := by omega
            have m0 : (0 : Int) ≤ (m : Int) := Int.natCast_nonneg _
            have m1 : (m : Int) < (xs.length : Int) := Int.ofNat_lt.mpr hmn
            have r1 := S3.out.rowc m (by rw [HSS.out]; exact hmn)
            obtain ⟨hk1, hk2⟩ := HRG.out m hmn
            obtain ⟨kk, hkk⟩ : ∃ kk, kk = (sorted xs)[m]! := ⟨_, rfl⟩
            rw [← hkk] at r1 hk1 hk2
            obtain ⟨ad, e1, x0, x1⟩ := at_T36 (Kd.C_below HC.out S3.out.bel) kk hk1 hk2
            obtain ⟨hg1, hg2, hg3⟩ := S3.out.cells
            obtain ⟨X, hX⟩ : ∃ X, X = rd_T36 xs kk := ⟨_, rfl⟩
            rw [← hX] at x0 x1
            rw [e1] at hg1
            have HM := Aside0.mk (okd_e X)
            have q1 := eq_true hk1
            have q2 := eq_true hk2
            have HKK := Aside0.mk hkk
            have HX := Aside0.mk hX
            have HM0 := Aside0.mk hm0
            have HE := Aside0.mk e1
            clear hkk hX e1 hk1 hk2 hm0
            have yw : IntKind.i64.wrap ((f : Int) + (i : Int)) = (f : Int) + (i : Int) := by rw [IntKind.wrap_i64]; have := HK.out.2.2.2.2.2.2; omega
            have yw2 : wrap64 ((f : Int) + (i : Int)) = (f : Int) + (i : Int) := by unfold wrap64; have := HK.out.2.2.2.2.2.2; omega
            gi_wp2_with fail
            clear yw yw2
            refine ⟨trivial, (callsIn_wide.2 (turn_Dir_ok.calls _ _ _ _ HM.out)).mono ?_⟩
            rintro e w2 ⟨rfl, hb⟩
            have S4 : Aside0 (St w gb g2 blk A xs c fr w2) := ⟨S3.out.step hb⟩
            have J4 : Aside0 (J (prel xs fr i) w2) := ⟨HJ.out _ _ w2 none J3.out (grown_of_below hb) (fun _ e => by cases e)⟩
            clear S3 J3 hb hg1 hg2 hg3 x0 x1 r1
            cases hok : okd X with
            | true =>
              obtain ⟨fn, tmps, assign, body, hy, hR⟩ := HY.out (prel xs fr i) kk w2 (by rw [← prel_ok xs fr i kk (by rw [HKK.out, HM0.out, HFP.out]) (by rw [← HX.out]; exact hok)]; exact prel_pre xs fr (i + 1) (by omega)) J4.out (by have := prel_len xs fr i; have := HK.out.2.2.2.2.2.2; omega)
              have HR := Aside0.mk hR
              clear hR
              gi_wp2_with fail
              refine HR.out.mono ?_
              rintro e W3 (⟨rfl, hJ3, hk3⟩ | ⟨rfl, hJx3⟩)
              · have S5 : Aside0 (St w gb g2 blk A xs c fr W3) := ⟨⟨S4.out.bel.trans hk3.1, hk3.2 _ _ S4.out.b1 rfl HK.out.2.2.1, hk3.2 _ _ S4.out.b2 rfl HK.out.2.2.2.1, hk3.2 _ _ S4.out.row rfl HBX.out⟩⟩
                have J5 : Aside0 (J (prel xs fr (i + 1)) W3) := ⟨by rw [prel_ok xs fr i kk (by rw [HKK.out, HM0.out, HFP.out]) (by rw [← HX.out]; exact hok)]; exact hJ3⟩
                clear hJ3 hk3 S4 J4 hy HR
                have h20 := HK.out.2.2.2.2.2.2
                gi_wp2
                go_roundg (xs.length - (i + 1))
                case measure => omega
                case rel => exact ⟨i + 1, by first | go_num | (refine congrArg _ ?_; rw [IntKind.wrap_i64]; omega), by omega, by omega, S5, J5⟩
              · have HJ3 := Aside0.mk hJx3
                clear hJx3
                gi_wp2
                refine bodyPost_ret (results_none rfl _ _ _) rfl ?_
                exact ⟨⟨_, rfl⟩, .inr ⟨_, by rw [← prel_ok xs fr i kk (by rw [HKK.out, HM0.out, HFP.out]) (by rw [← HX.out]; exact hok)]; exact prel_pre xs fr (i + 1) (by omega), HJ3.out⟩⟩
            | false =>
              have J5 : Aside0 (J (prel xs fr (i + 1)) w2) := ⟨by rw [prel_no xs fr i kk (by rw [HKK.out, HM0.out, HFP.out]) (by rw [← HX.out]; exact hok)]; exact J4.out⟩
              clear J4
              gi_wp2_with fail
              refine ⟨(fun _ h => by cases h), ?_⟩
              have h20 := HK.out.2.2.2.2.2.2
              gi_wp2
              go_roundg (xs.length - (i + 1))
              case measure => omega
              case rel => exact ⟨i + 1, by first | go_num | (refine congrArg _ ?_; rw [IntKind.wrap_i64]; omega), by omega, by omega, S4, J5⟩
          · have yz : ¬ (i : Int) < (xs.length : Int) := by omega
            have yd2 : decide (i < xs.length) = false := decide_eq_false hin
            have ei : i = xs.length := by omega
            have HJ5 : Aside0 (J (roundl xs fr) wr) := ⟨by rw [ei] at J3; exact J3.out⟩
            clear J3
            gi_wp2
            go_end0
            first | exact ⟨⟨_, rfl⟩, .inl ⟨_, rfl, HJ5.out⟩⟩ | exact ⟨⟨_, rfl⟩, .inl HJ5.out⟩ | exact .inl HJ5.out
    · have hz : ¬ (f : Int) < (xs.length : Int) := by omega
      have hd : decide ((f : Int) < (xs.length : Int)) = false := decide_eq_false hz
      have hd2 : decide (f < xs.length) = false := decide_eq_false hfn
      have HFP : Aside0 (f = firstp xs fr) := ⟨by have := first_le xs fr HSS.out; have := HF.out; omega⟩
      gi_wp2_with fail
      refine wpIn_wide.2 ?_
      go_region
      have hox : RowKit.Below wr.heap.size wr wr.drew := (Below.refl _ _).drew
      have S2 : Aside0 (St w gb g2 blk A xs c fr wr.drew) := ⟨S1.out.step hox⟩
      have J2 : Aside0 (J (prel xs fr 0) wr.drew) := ⟨HJ.out _ _ wr.drew none J1.out (grown_of_below hox) (fun _ e => by cases e)⟩
      clear S1 J1 HF hox hz hd hd2
      generalize wr.drew = w2 at S2 J2 ⊢
      gi_wp2_with fail
      gi_loopg [31] xs.length (fun gk v31 w' => ∃ (i : Nat), v31 = .int .i64 (i : Int) ∧ i ≤ xs.length ∧ xs.length - i ≤ gk ∧ Aside0 (St w gb g2 blk A xs c fr w') ∧ Aside0 (J (prel xs fr i) w'))
      case atStart => exact ⟨0, rfl, by omega, by omega, S2, J2⟩
      case round =>
        clear S2 J2
        obtain ⟨i, rfl, hi, hgi, S3, J3⟩ := hrel
        by_cases hin : i < xs.length
        · have yz : (i : Int) < (xs.length : Int) := by omega
          have yd : decide ((i : Int) < (xs.length : Int)) = true := decide_eq_true yz
          have yd2 : decide (i < xs.length) = true := decide_eq_true hin
          obtain ⟨m, hm0⟩ : ∃ m, m = (f + i) % xs.length := ⟨_, rfl⟩
          have hmn : m < xs.length := by rw [hm0]; exact Nat.mod_lt _ (by omega)
          have yr : Int.tmod ((f : Int) + (i : Int)) (xs.length : Int) = (m : Int) := by
            rw [hm0, Int.tmod_eq_emod_of_nonneg (Int.add_nonneg (Int.natCast_nonneg _) (Int.natCast_nonneg _)), Int.natCast_emod, Int.natCast_add]
          have yn : ((xs.length : Int) == 0) = false := beq_eq_false_iff_ne.mpr (by omega)
          have yn2 : ¬ (xs.length : Int) = 0 := by omega
          have yn3 : ¬ xs.length = 0 := by omega
          have m0 : (0 : Int) ≤ (m : Int) := Int.natCast_nonneg _
          have m1 : (m : Int) < (xs.length : Int) := Int.ofNat_lt.mpr hmn
          have r1 := S3.out.rowc m (by rw [HSS.out]; exact hmn)
          obtain ⟨hk1, hk2⟩ := HRG.out m hmn
          obtain ⟨kk, hkk⟩ : ∃ kk, kk = (sorted xs)[m]! := ⟨_, rfl⟩
          rw [← hkk] at r1 hk1 hk2
          obtain ⟨ad, e1, x0, x1⟩ := at_T36 (Kd.C_below HC.out S3.out.bel) kk hk1 hk2
          obtain ⟨hg1, hg2, hg3⟩ := S3.out.cells
          obtain ⟨X, hX⟩ : ∃ X, X = rd_T36 xs kk := ⟨_, rfl⟩
          rw [← hX] at x0 x1
          rw [e1] at hg1
          have HM := Aside0.mk (okd_e X)
          have q1 := eq_true hk1
          have q2 := eq_true hk2
          have HKK := Aside0.mk hkk
          have HX := Aside0.mk hX
          have HM0 := Aside0.mk hm0
          have HE := Aside0.mk e1
          clear hkk hX e1 hk1 hk2 hm0
          have yw : IntKind.i64.wrap ((f : Int) + (i : Int)) = (f : Int) + (i : Int) := by rw [IntKind.wrap_i64]; have := HK.out.2.2.2.2.2.2; omega
          have yw2 : wrap64 ((f : Int) + (i : Int)) = (f : Int) + (i : Int) := by unfold wrap64; have := HK.out.2.2.2.2.2.2; omega
          gi_wp2_with fail
          clear yw yw2
          refine ⟨trivial, (callsIn_wide.2 (turn_Dir_ok.calls _ _ _ _ HM.out)).mono ?_⟩
          rintro e w2 ⟨rfl, hb⟩
          have S4 : Aside0 (St w gb g2 blk A xs c fr w2) := ⟨S3.out.step hb⟩
          have J4 : Aside0 (J (prel xs fr i) w2) := ⟨HJ.out _ _ w2 none J3.out (grown_of_below hb) (fun _ e => by cases e)⟩
          clear S3 J3 hb hg1 hg2 hg3 x0 x1 r1
          cases hok : okd X with
          | true =>
            obtain ⟨fn, tmps, assign, body, hy, hR⟩ := HY.out (prel xs fr i) kk w2 (by rw [← prel_ok xs fr i kk (by rw [HKK.out, HM0.out, HFP.out]) (by rw [← HX.out]; exact hok)]; exact prel_pre xs fr (i + 1) (by omega)) J4.out (by have := prel_len xs fr i; have := HK.out.2.2.2.2.2.2; omega)
            have HR := Aside0.mk hR
            clear hR
            gi_wp2_with fail
            refine HR.out.mono ?_
            rintro e W3 (⟨rfl, hJ3, hk3⟩ | ⟨rfl, hJx3⟩)
            · have S5 : Aside0 (St w gb g2 blk A xs c fr W3) := ⟨⟨S4.out.bel.trans hk3.1, hk3.2 _ _ S4.out.b1 rfl HK.out.2.2.1, hk3.2 _ _ S4.out.b2 rfl HK.out.2.2.2.1, hk3.2 _ _ S4.out.row rfl HBX.out⟩⟩
              have J5 : Aside0 (J (prel xs fr (i + 1)) W3) := ⟨by rw [prel_ok xs fr i kk (by rw [HKK.out, HM0.out, HFP.out]) (by rw [← HX.out]; exact hok)]; exact hJ3⟩
              clear hJ3 hk3 S4 J4 hy HR
              have h20 := HK.out.2.2.2.2.2.2
              gi_wp2
              go_roundg (xs.length - (i + 1))
              case measure => omega
              case rel => exact ⟨i + 1, by first | go_num | (refine congrArg _ ?_; rw [IntKind.wrap_i64]; omega), by omega, by omega, S5, J5⟩
            · have HJ3 := Aside0.mk hJx3
              clear hJx3
              gi_wp2
              refine bodyPost_ret (results_none rfl _ _ _) rfl ?_
              exact ⟨⟨_, rfl⟩, .inr ⟨_, by rw [← prel_ok xs fr i kk (by rw [HKK.out, HM0.out, HFP.out]) (by rw [← HX.out]; exact hok)]; exact prel_pre xs fr (i + 1) (by omega), HJ3.out⟩⟩
          | false =>
            have J5 : Aside0 (J (prel xs fr (i + 1)) w2) := ⟨by rw [prel_no xs fr i kk (by rw [HKK.out, HM0.out, HFP.out]) (by rw [← HX.out]; exact hok)]; exact J4.out⟩
            clear J4
            gi_wp2_with fail
            refine ⟨(fun _ h => by cases h), ?_⟩
            have h20 := HK.out.2.2.2.2.2.2
            gi_wp2
            go_roundg (xs.length - (i + 1))
            case measure => omega
            case rel => exact ⟨i + 1, by first | go_num | (refine congrArg _ ?_; rw [IntKind.wrap_i64]; omega), by omega, by omega, S4, J5⟩
        · have yz : ¬ (i : Int) < (xs.length : Int) := by omega
          have yd2 : decide (i < xs.length) = false := decide_eq_false hin
          have ei : i = xs.length := by omega
          have HJ5 : Aside0 (J (roundl xs fr) wr) := ⟨by rw [ei] at J3; exact J3.out⟩
          clear J3
          gi_wp2
          go_end0
          first | exact ⟨⟨_, rfl⟩, .inl ⟨_, rfl, HJ5.out⟩⟩ | exact ⟨⟨_, rfl⟩, .inl HJ5.out⟩ | exact .inl HJ5.out
end Go.Proofs.Ytojdmloimmcacaa.TS
