/- Proved: what the closure of parts of the package pack owes a loop over it, by its walk; no condition. -/
import Derived.Test.YtgjgandkcmjbnaaRG
import Derived.Test.YtgjgandkcmjbnaaB4
import Derived.RangeFuncNested
import Derived.RangeFuncBound
import Derived.RangeFuncCalls
import Derived.RangeFuncLeaves
import Derived.Shelf.Abstract
import Derived.Shelf.RegionOpen
import Derived.OwnWalkIn
import Derived.TacticsInMore
import Derived.LoopNIn
import Derived.LoopIn
import Derived.Sort.LoopGhostIn
namespace Go.Proofs.Ytgjgandkcmjbnaa.PB
open Go.RowKit Go.Proofs.YtgjgandkcmjbnaaW.PrintWords Go.Proofs.YtgjgandkcmjbnaaW.PrintLast Go.Proofs.YtgjgandkcmjbnaaW.PrintMore
set_option linter.unusedVariables false
set_option linter.unusedSimpArgs false
/-- The parts of bytes, with a bound on the rounds. -/
def pack_Split.go : Nat → List Int → List (List Int) → Option ((List (List Int)) × Int)
  | 0, _, _ => none
  | k + 1, x, o => if (x.length : Int) > 0 then (if o.length < 5864062014805 ∧ x.length < 140737488355328 then ((pack_Var.f k x).bind fun t => (if t.2.2 = 0 then (if t.1 > (IntKind.u64.wrap (wrap64 ((x.length : Int) - t.2.1))) then (some (([] : List (List Int)), 4)) else (if 0 ≤ t.2.1 then (if t.2.1 ≤ (x.length : Int) then (if 0 ≤ t.1 then (if t.1 ≤ ((x.drop t.2.1.toNat).length : Int) then (pack_Split.go k ((x.drop t.2.1.toNat).drop t.1.toNat) (o ++ [(x.drop t.2.1.toNat).take t.1.toNat])) else none) else none) else none) else none)) else (some (([] : List (List Int)), t.2.2)))) else none) else (some (o, 0))
def pack_Split.f (k : Nat) (l0 : List Int) : Option ((List (List Int)) × Int) := pack_Split.go k l0 ([] : List (List Int))
theorem pack_Split.mono_l : ∀ k, (∀ y0 y1, LeO (pack_Split.go k y0 y1) (pack_Split.go (k + 1) y0 y1))
  | 0 => fun _ _ r h => by simp [pack_Split.go] at h
  | k + 1 => by
    have ih0 := pack_Split.mono_l k
    · intro y0 y1
      unfold pack_Split.go
      repeat' first
      | (with_reducible exact ih0 _ _)
      | (with_reducible exact pack_Var.mono _ _)
      | (with_reducible exact LeO.refl _)
      | (with_reducible exact LeO.none _)
      | (with_reducible refine LeO.ite ?_ ?_)
      | (with_reducible refine LeO.bind ?_ (fun _ => ?_))
      | exact ih0 _ _
      | exact pack_Var.mono _ _
      | exact LeO.none _
      | refine LeO.ite ?_ ?_
      | refine LeO.bind ?_ (fun _ => ?_)
theorem pack_Split.mono : ∀ a0 k, LeO (pack_Split.f k a0) (pack_Split.f (k + 1) a0) := fun a0 k => pack_Split.mono_l k a0 []
/-- A part that is handed to a loop's body: bytes of w's, or an error. -/
structure Pt (w : World) where
  A : Option Addr
  c : Nat
  xs : List Int
  e : Int
  hc : xs.length ≤ c
  hm : xs.length < 140737488355328
  hr : Kd.C (Kd.int .u8) w A xs.length xs
def Pt.enc {w : World} (x : Pt w) : Array Value := #[.agg #[.slice x.A x.xs.length x.c, .int .i64 x.e]]
def Pt.bad (w : World) (e : Int) : Pt w := ⟨none, 0, [], e, Nat.le_refl _, by simp, Kd.C_nil _ _⟩
/-- What a round keeps for the iterator. -/
def Kp (w : World) (B : Nat) (W W' : World) : Prop := Below w.heap.size W W' ∧ W'.heap[B]? = W.heap[B]?
def All0 {w : World} (pre : List (Pt w)) : Prop := ∀ x ∈ pre, x.e = 0
def PtS (w : World) (r1 : List (List Int)) (r2 : Int) (xs : List (Pt w)) : Prop := All0 xs → r2 = 0 ∧ r1 = xs.map Pt.xs
def PtSp (w : World) (r1 : List (List Int)) (r2 : Int) (xs : List (Pt w)) : Prop := ∃ q x, xs = q ++ [x] ∧ (x.e ≠ 0 → r1 = [] ∧ r2 = x.e)
/-- What stands between two rounds of the iterator. -/
def Rest (w : World) (B : Nat) (r1 : List (List Int)) (r2 : Int) (k : Nat) (W : World) (pre : List (Pt w)) (A : Option Addr) (c : Nat) (rest : List Int) : Prop :=
  W.heap[B]? = some (.cells #[.slice A rest.length c] 22 (0, 0)) ∧ rest.length ≤ c ∧ Kd.C (Kd.int .u8) w A rest.length rest ∧ Below w.heap.size w W ∧ All0 pre ∧ pack_Split.go k rest (pre.map Pt.xs) = some (r1, r2)
theorem box_cell {W : World} {B : Nat} {v : Value} (h : W.heap[B]? = some (.cells #[v] 22 (0, 0))) : W.cell? ⟨B, 0, none⟩ = some v ∧ W.frozen? ⟨B, 0, none⟩ = false := by
  constructor
  · simp [World.cell?, h]
  · simp [World.frozen?, h]
theorem grownBy_drewN (W : World) (n : Nat) : W.grownBy (W.drewN n) none := ⟨rfl, rfl, rfl, Nat.le_refl _, fun _ _ _ => rfl⟩
attribute [local go_sem] Oper.semAt_some
set_option maxHeartbeats 4000000 in
set_option maxRecDepth 100000 in
theorem parts_iter (n : Nat) (hn : 2 ≤ n) (k : Nat) (A0 : Option Addr) (c0 : Nat) (l0 : List Int) (r1 : List (List Int)) (r2 : Int) (w : World) (hr0 : Kd.C (Kd.int .u8) w A0 l0.length l0) (hc0 : l0.length ≤ c0) (h : pack_Split.f k l0 = some (r1, r2))
    (B : Nat) (hB : w.heap.size ≤ B) (W : World) (hW : Below w.heap.size w W) (hb : W.heap[B]? = some (.cells #[.slice A0 l0.length c0] 22 (0, 0))) :
    Iter Fence.wide n Try.prog 30 #[.pointer (some ⟨B, 0, none⟩)] Pt.enc (Kp w B) (PtS w r1 r2) (PtSp w r1 r2) 5864062014805 (· = B) W := by
  intro l J Jx hJ hJx hY h0
  have HB := Aside0.mk hB
  have HS : Aside0 (Rest w B r1 r2 k W [] A0 c0 l0) := ⟨⟨hb, hc0, hr0, hW, (fun _ h => (by cases h)), h⟩⟩
  clear hB hW hb hr0 hc0 h
  have hn1 : 1 ≤ n := by omega
  have hn2 : 1 ≤ n - 1 := by omega
  refine callsIn_of_wp Try.func30 rfl trivial ?_ rfl
  simp only [Try.ntmps30, List.size_toArray, List.length_cons, List.length_nil, Nat.reduceAdd, Nat.reduceSub, Array.replicate_succ, Array.replicate_zero, List.push_toArray, List.append_toArray, List.nil_append, List.cons_append]
  have HY := Aside0.mk hY
  have HJ := Aside0.mk hJ
  have HJx := Aside0.mk hJx
  have H0 := Aside0.mk h0
  clear hY hJ hJx h0
  gi_wp2
  gi_loopg [3] k (fun kq v3 w' => ∃ (pre : List (Pt w)) (A : Option Addr) (c : Nat) (rest : List Int), Aside0 (Rest w B r1 r2 kq w' pre A c rest) ∧ Aside0 (J pre w'))
  case atStart => exact ⟨[], A0, c0, l0, HS, H0⟩
  case round =>
    clear HS H0
    obtain ⟨pre, A, c, rest, HS, HJp⟩ := hrel
    cases gk with
    | zero => exact absurd HS.out.2.2.2.2.2 (by simp [pack_Split.go])
    | succ k1 =>
      obtain ⟨hb, hcap, hC, hW, hall, hgo⟩ := HS.out
      obtain ⟨hcell, hfro⟩ := box_cell hb
      have H := hgo
      have HC := Aside0.mk hC
      have HW := Aside0.mk hW
      clear hgo hC hW HS
      have hC1 : Kd.C (Kd.int .u8) wr A rest.length rest := Kd.C_below HC.out HW.out
      have HC1 := Aside0.mk hC1
      clear hC1
      by_cases c2 : (rest.length : Int) > 0
      · simp only [pack_Split.go] at H
        rw [if_pos c2] at H
        have c2b0 : decide (0 < (rest.length : Int)) = true := decide_eq_true c2
        have c2b1 : decide (0 < rest.length) = true := decide_eq_true (by omega)
        clear c2
        by_cases c3 : (pre.map Pt.xs).length < 5864062014805 ∧ rest.length < 140737488355328
        · rw [if_pos c3] at H
          have hlen : Aside0 (pre.length < 5864062014805) := ⟨by rw [List.length_map] at c3; exact c3.1⟩
          have hrl : Aside0 (rest.length < 140737488355328) := ⟨c3.2⟩
          clear c3
          replace H := Option.bind_eq_some_iff.mp H
          obtain ⟨⟨t1, t2, t3⟩, A30, H⟩ := H
          have HV := Aside0.mk A30
          clear A30
          have HH := Aside0.mk H
          clear H
          have Hb := Aside0.mk hb
          have Hcap := Aside0.mk hcap
          have Hall := Aside0.mk hall
          clear hb hcap hall
          gi_wp2_with fail
          refine ⟨trivial, (callsIn_wide.2 (pack_Var.calls k1 A c rest t1 t2 t3 wr HC1.out Hcap.out HV.out)).mono ?_⟩
          rintro e w1 ⟨rfl, ⟨nd, rfl⟩⟩
          have hJd : J pre (wr.drewN nd) := HJ.out pre wr _ none HJp.out (grownBy_drewN wr nd) (fun _ e => by cases e)
          have HJd := Aside0.mk hJd
          clear hJd
          obtain ⟨hcell1, hfro1⟩ := box_cell (show (wr.drewN nd).heap[B]? = _ from Hb.out)
          have H := HH.out
          clear HH
          by_cases c4 : t3 = 0
          · subst c4
            rw [if_pos rfl] at H
            by_cases c5 : t1 > (IntKind.u64.wrap (wrap64 ((rest.length : Int) - t2)))
            · rw [if_pos c5] at H
              have c5b0 : decide ((IntKind.u64.wrap (wrap64 ((rest.length : Int) - t2))) < t1) = true := decide_eq_true c5
              clear c5
              simp only [Option.some.injEq, Prod.mk.injEq] at H
              have H' := Aside0.mk H
              clear H
              obtain ⟨fn, tmps, assign, body, hy, hR⟩ := HY.out pre (Pt.bad w 4) (wr.drewN nd) HJd.out hlen.out
              dsimp only [Pt.enc, Pt.bad, List.length_nil] at hy
              have HR := Aside0.mk hR
              clear hR
              gi_wp2_with fail
              refine HR.out.mono ?_
              rintro e W3 (⟨rfl, hJ3, hk3⟩ | ⟨rfl, hJx3⟩)
              · have HJ3 := Aside0.mk hJ3
                clear hJ3 hk3
                gi_wp2
                refine bodyPost_ret (results_none rfl _ _ _) rfl ?_
                exact ⟨⟨_, rfl⟩, .inl ⟨_, fun ha => absurd (ha (Pt.bad w 4) (by simp)) (show ¬ ((4 : Int) = 0) from by decide), HJ3.out⟩⟩
              · have HJ3 := Aside0.mk hJx3
                clear hJx3
                gi_wp2
                refine bodyPost_ret (results_none rfl _ _ _) rfl ?_
                exact ⟨⟨_, rfl⟩, .inr ⟨_, ⟨_, _, rfl, fun _ => ⟨H'.out.1.symm, H'.out.2.symm⟩⟩, HJ3.out⟩⟩
            · rw [if_neg c5] at H
              have c5b0 : decide ((IntKind.u64.wrap (wrap64 ((rest.length : Int) - t2))) < t1) = false := decide_eq_false c5
              clear c5
              by_cases c6 : 0 ≤ t2
              · rw [if_pos c6] at H
                by_cases c7 : t2 ≤ (rest.length : Int)
                · rw [if_pos c7] at H
                  by_cases c8 : 0 ≤ t1
                  · rw [if_pos c8] at H
                    obtain ⟨y, hy0⟩ : ∃ y_ : List Int, y_ = rest.drop t2.toNat := ⟨_, rfl⟩
                    rw [← hy0] at H
                    by_cases c9 : t1 ≤ (y.length : Int)
                    · rw [if_pos c9] at H
                      obtain ⟨z, hz0⟩ : ∃ z_ : List Int, z_ = y.take t1.toNat := ⟨_, rfl⟩
                      obtain ⟨y2, hy2⟩ : ∃ z_ : List Int, z_ = y.drop t1.toNat := ⟨_, rfl⟩
                      rw [← hz0, ← hy2] at H
                      have H' := Aside0.mk H
                      clear H
                      obtain ⟨i0, hi0, _, hsz, _⟩ := info_parts info5
                      have hyl : y.length = rest.length - t2.toNat := by rw [hy0, List.length_drop]
                      have hzl : z.length = t1.toNat := by rw [hz0, List.length_take]; omega
                      have hy2l : y2.length = y.length - t1.toNat := by rw [hy2, List.length_drop]
                      -- the three cuts
                      have k1_ := cut_from (P := Try.prog) 22 5 .i64 Try.underlying22 hi0 1 hsz A rest.length c t2 c6 c7
                      have k2_ := Kd.C_drop (c := c) (m := t2.toNat) HC.out (by omega) Hcap.out
                      rw [← hy0] at k2_
                      obtain ⟨A1, hA1⟩ : ∃ A_, A_ = (if c = t2.toNat then A else A.map (·.add (t2.toNat * 1))) := ⟨_, rfl⟩
                      obtain ⟨c1, hc1⟩ : ∃ c_, c_ = c - t2.toNat := ⟨_, rfl⟩
                      replace k2_ : Kd.C (Kd.int .u8) w A1 y.length y := by rw [hA1]; exact k2_
                      rw [← hA1, ← hc1, ← hyl] at k1_
                      have hyc : y.length ≤ c1 := by rw [hyl, hc1]; exact Nat.sub_le_sub_right Hcap.out _
                      have k3_ := cut_to (P := Try.prog) 22 5 .u64 Try.underlying22 hi0 A1 y.length c1 t1 c8 c9 hyc
                      rw [← hzl] at k3_
                      have k4_ := Kd.C_take (m := t1.toNat) k2_ (by omega)
                      rw [← hz0] at k4_
                      have hzc : z.length ≤ c1 := by omega
                      have k5_ := cut_from (P := Try.prog) 22 5 .u64 Try.underlying22 hi0 1 hsz A1 y.length c1 t1 c8 c9
                      have k6_ := Kd.C_drop (c := c1) (m := t1.toNat) k2_ (by omega) hyc
                      rw [← hy2] at k6_
                      obtain ⟨A2, hA2⟩ : ∃ A_, A_ = (if c1 = t1.toNat then A1 else A1.map (·.add (t1.toNat * 1))) := ⟨_, rfl⟩
                      obtain ⟨c2, hc2⟩ : ∃ c_, c_ = c1 - t1.toNat := ⟨_, rfl⟩
                      replace k6_ : Kd.C (Kd.int .u8) w A2 y2.length y2 := by rw [hA2]; exact k6_
                      rw [← hA2, ← hc2, ← hy2l] at k5_
                      have hy2c : y2.length ≤ c2 := by rw [hy2l, hc2]; exact Nat.sub_le_sub_right hyc _
                      -- the worlds
                      obtain ⟨W2, hW2⟩ : ∃ W_, W_ = (wr.drewN nd).setCell ⟨B, 0, none⟩ (.slice A1 y.length c1) := ⟨_, rfl⟩
                      have hb2 : W2.heap[B]? = some (.cells #[.slice A1 y.length c1] 22 (0, 0)) := by rw [hW2]; exact Boxed.set _ (show Boxed (wr.drewN nd) B 22 _ from Hb.out)
                      have hbel2 : Below w.heap.size w W2 := by rw [hW2]; exact (pw_below_drewN HW.out nd).setCell (p := ⟨B, 0, none⟩) HB.out _
                      have hJ2 : J pre W2 := by rw [hW2]; exact HJ.out pre _ _ (some B) HJd.out (grownBy_setCell' _ B _) (fun _ e => by cases e; rfl)
                      obtain ⟨px, pxe, pxz, px0⟩ : ∃ p : Pt w, p.enc = #[.agg #[.slice A1 z.length c1, .int .i64 0]] ∧ p.xs = z ∧ p.e = 0 := ⟨⟨A1, c1, z, 0, hzc, (by have := hrl.out; omega), k4_⟩, rfl, rfl, rfl⟩
                      obtain ⟨fn, tmps, assign, body, hyy, hR⟩ := HY.out pre px W2 hJ2 hlen.out
                      rw [pxe] at hyy
                      have PX := Aside0.mk (And.intro pxz px0)
                      clear pxe pxz px0
                      have HR := Aside0.mk hR
                      have K6 := Aside0.mk k6_
                      have Hb2 := Aside0.mk hb2
                      have HBel2 := Aside0.mk hbel2
                      have Hy2c := Aside0.mk hy2c
                      obtain ⟨hcell2, hfro2⟩ := box_cell hb2
                      rw [hW2] at hcell2 hfro2 hyy
                      clear hR hJ2 hb2 hbel2 k2_ k4_ k6_ hyl hzl hy2l hi0 hsz hA1 hc1 hA2 hc2 hyc hzc hy2c c6 c7 c8 c9 hz0 hy2 hy0
                      have HW2 := Aside0.mk hW2
                      clear hW2
                      gi_wp2_with fail
                      have HR' := HR.out
                      rw [HW2.out] at HR'
                      refine HR'.mono ?_
                      rintro e W3 (⟨rfl, hJ3, hk3⟩ | ⟨rfl, hJx3⟩)
                      · rw [← HW2.out] at hk3
                        have hb3 : W3.heap[B]? = some (.cells #[.slice A1 y.length c1] 22 (0, 0)) := hk3.2.trans Hb2.out
                        obtain ⟨hcell3, hfro3⟩ := box_cell hb3
                        have hs : Rest w B r1 r2 k1 (W3.setCell ⟨B, 0, none⟩ (.slice A2 y2.length c2)) (pre ++ [px]) A2 c2 y2 := by
                          refine ⟨Boxed.set _ (show Boxed W3 B 22 _ from hb3), Hy2c.out, K6.out, (HBel2.out.trans hk3.1).setCell (p := ⟨B, 0, none⟩) HB.out _, fun q hq => ?_, ?_⟩
                          · rcases List.mem_append.1 hq with hq | hq
                            · exact Hall.out q hq
                            · rw [List.mem_singleton.1 hq]; exact PX.out.2
                          · rw [List.map_append, List.map_cons, List.map_nil, PX.out.1]
                            exact H'.out
                        have hj : J (pre ++ [px]) (W3.setCell ⟨B, 0, none⟩ (.slice A2 y2.length c2)) := HJ.out _ _ _ (some B) hJ3 (grownBy_setCell' _ B _) (fun _ e => by cases e; rfl)
                        have HS2 := Aside0.mk hs
                        have HJ2 := Aside0.mk hj
                        clear hs hj hb3 hk3 hJ3 HR' HR hcell hfro hcell1 hfro1 hcell2 hfro2 hyy k1_ k3_
                        gi_wp2
                        go_roundg k1
                        case measure => omega
                        case rel => exact ⟨pre ++ [px], A2, c2, y2, HS2, HJ2⟩
                      · have HJ3 := Aside0.mk hJx3
                        clear hJx3
                        gi_wp2
                        refine bodyPost_ret (results_none rfl _ _ _) rfl ?_
                        exact ⟨⟨_, rfl⟩, .inr ⟨_, ⟨_, _, rfl, fun hne => absurd PX.out.2 hne⟩, HJ3.out⟩⟩
                    · rw [if_neg c9] at H
                      exact absurd H (by simp)
                  · rw [if_neg c8] at H
                    exact absurd H (by simp)
                · rw [if_neg c7] at H
                  exact absurd H (by simp)
              · rw [if_neg c6] at H
                exact absurd H (by simp)
          · rw [if_neg c4] at H
            have c4b0 : (t3 == 0) = false := beq_eq_false_iff_ne.mpr c4
            have c4b1 : (t3 != 0) = true := bne_iff_ne.mpr c4
            have C4 := Aside0.mk c4
            simp only [Option.some.injEq, Prod.mk.injEq] at H
            have H' := Aside0.mk H
            clear H c4
            obtain ⟨fn, tmps, assign, body, hy, hR⟩ := HY.out pre (Pt.bad w t3) (wr.drewN nd) HJd.out hlen.out
            dsimp only [Pt.enc, Pt.bad, List.length_nil] at hy
            have HR := Aside0.mk hR
            clear hR
            gi_wp2_with fail
            refine HR.out.mono ?_
            rintro e W3 (⟨rfl, hJ3, hk3⟩ | ⟨rfl, hJx3⟩)
            · have HJ3 := Aside0.mk hJ3
              clear hJ3 hk3
              gi_wp2
              refine bodyPost_ret (results_none rfl _ _ _) rfl ?_
              exact ⟨⟨_, rfl⟩, .inl ⟨_, fun ha => absurd (ha (Pt.bad w t3) (by simp)) C4.out, HJ3.out⟩⟩
            · have HJ3 := Aside0.mk hJx3
              clear hJx3
              gi_wp2
              refine bodyPost_ret (results_none rfl _ _ _) rfl ?_
              exact ⟨⟨_, rfl⟩, .inr ⟨_, ⟨_, _, rfl, fun _ => ⟨H'.out.1.symm, H'.out.2.symm⟩⟩, HJ3.out⟩⟩
        · rw [if_neg c3] at H
          exact absurd H (by simp)
      · simp only [pack_Split.go] at H
        rw [if_neg c2] at H
        have c2b0 : decide (0 < (rest.length : Int)) = false := decide_eq_false c2
        have c2b1 : decide (0 < rest.length) = false := decide_eq_false (by omega)
        clear c2
        simp only [Option.some.injEq, Prod.mk.injEq] at H
        have H' := Aside0.mk H
        have Hall := Aside0.mk hall
        clear H hall hb hcap
        gi_wp2
        go_end0
        exact ⟨⟨_, rfl⟩, .inl ⟨pre, fun _ => ⟨H'.out.2.symm, H'.out.1.symm⟩, HJp.out⟩⟩
end Go.Proofs.Ytgjgandkcmjbnaa.PB
