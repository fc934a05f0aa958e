/- Proved: what turn.Prev hands out for fewer than sixty-four directions, by its walk; no other condition. -/
import Derived.Test.YtojdmloimmcacaaV11
namespace Go.Proofs.Ytojdmloimmcacaa.TS
open Go.RowKit Go.Sort Go.Proofs.YtojdmloimmcacaaW.PrintWords Go.Proofs.YtojdmloimmcacaaW.PrintLast Go.Proofs.YtojdmloimmcacaaW.PrintMore
open PTurnSorts
set_option linter.unusedVariables false
set_option linter.unusedSimpArgs false
/-- What stands in a round of Prev: the boxes of the list, of the place and of the best one. -/
structure PSt (w : World) (ad : Addr) (n c bb : Nat) (i v : Int) (W : World) : Prop where
  bel : RowKit.Below w.heap.size w W
  far : w.heap.size + 1 < bb
  b0 : W.heap[w.heap.size]? = some (.cells #[.slice (some ad) n c] 24 (0, 0))
  b1 : W.heap[w.heap.size + 1]? = some (.cells #[.int .i64 i] 3 (0, 0))
  b2 : W.heap[bb]? = some (.cells #[.int .i64 v] 3 (0, 0))
theorem PSt.moved {w : World} {ad : Addr} {n c bb : Nat} {i v : Int} {W W' : World} {B : Nat} {row : Option Nat} (h : PSt w ad n c bb i v W) (hB : w.heap.size ≤ B) (hg : W.grownBy W' row) (hr : ∀ r, row = some r → Moved (fun _ => False) B W r) : PSt w ad n c bb i v W' := by
  have one : ∀ (k : Nat) (o : Obj), W.heap[k]? = some o → o.isCells = true → W'.heap[k]? = some o := fun k o hk ho => by
    refine (hg.block k (at_lt hk) (fun e => ?_)).trans hk
    rcases hr k e.symm with h1 | ⟨_, o', h2, h3⟩
    · exact h1
    · rw [hk] at h2; cases h2; rw [ho] at h3; cases h3
  refine ⟨h.bel.grown hg h.bel.size (fun k e => ?_), h.far, one _ _ h.b0 rfl, one _ _ h.b1 rfl, one _ _ h.b2 rfl⟩
  rcases hr k e with h1 | ⟨h1, _⟩
  · exact h1.elim
  · omega
theorem PSt.step {w : World} {ad : Addr} {n c bb : Nat} {i v : Int} {W W' : World} (h : PSt w ad n c bb i v W) (hb : RowKit.Below W.heap.size W W') : PSt w ad n c bb i v W' :=
  ⟨h.bel.trans (hb.mono h.bel.size), h.far, (hb.block _ (at_lt h.b0)).trans h.b0, (hb.block _ (at_lt h.b1)).trans h.b1, (hb.block _ (at_lt h.b2)).trans h.b2⟩
theorem PSt.set {w : World} {ad : Addr} {n c bb : Nat} {i v : Int} {W : World} (h : PSt w ad n c bb i v W) (u : Int) : PSt w ad n c bb i u (W.setCell ⟨bb, 0, none⟩ (.int .i64 u)) := by
  have hf := h.far
  refine ⟨h.bel.setCell (p := ⟨bb, 0, none⟩) (by show w.heap.size ≤ bb; omega) _, hf, (Below.heap_setCell _ _ _ _ (by show ¬ (w.heap.size = bb); omega)).trans h.b0, (Below.heap_setCell _ _ _ _ (by show ¬ (w.heap.size + 1 = bb); omega)).trans h.b1, ?_⟩
  simp [World.setCell, Array.getElem?_modify, h.b2]
theorem PSt.cells {w : World} {ad : Addr} {n c bb : Nat} {i v : Int} {W : World} (h : PSt w ad n c bb i v W) : W.cell? ⟨w.heap.size, 0, none⟩ = some (.slice (some ad) n c) ∧ W.cell? ⟨w.heap.size + 1, 0, none⟩ = some (.int .i64 i) ∧ W.cell? ⟨bb, 0, none⟩ = some (.int .i64 v) ∧ W.frozen? ⟨bb, 0, none⟩ = false := by
  simp [World.cell?, World.frozen?, h.b0, h.b1, h.b2]
/-- One round of Prev. -/
def pstep (xs : List S36) (i best k : Int) : Int := if cmpv (rd_T36 xs k) (rd_T36 xs i) ≠ 0 ∧ (best = i ∨ cmpv (rd_T36 xs k) (rd_T36 xs best) ≠ 0) then k else best
def PI (w : World) (ad : Addr) (c bb : Nat) (xs : List S36) (i : Int) (pre : List Int) (W : World) : Prop := (0 ≤ pre.foldl (pstep xs i) i ∧ pre.foldl (pstep xs i) i < (xs.length : Int)) ∧ PSt w ad xs.length c bb i (pre.foldl (pstep xs i) i) W
theorem PI_stays (w : World) (ad : Addr) (c bb : Nat) (xs : List S36) (i : Int) (B : Nat) (hB : w.heap.size ≤ B) : Stays (fun _ => False) B (PI w ad c bb xs i) := fun _ _ _ _ h hg hr => ⟨h.1, h.2.moved hB hg hr⟩
attribute [local go_sem] Oper.semAt_some
set_option maxHeartbeats 4000000 in
set_option maxRecDepth 100000 in
theorem Prev_walk (A : Option Addr) (c : Nat) (xs : List S36) (i : Int) (w : World) (hC : Kd.C k36 w A xs.length xs) (hcap : xs.length ≤ c) (h20 : xs.length < 64) :
    Calls Try.prog 13 #[.slice A xs.length c, .int .i64 i] w fun e w' => e = .returned (.int .i64 (prevp xs i)) ∧ RowKit.Below w.heap.size w w' := by
  have hu36 := Try.underlying36
  have HC := Aside0.mk hC
  have HK := Aside0.mk (And.intro hcap h20)
  clear hC hcap h20
  refine (callsIn_wide (n := 6)).1 ?_
  refine callsIn_of_wp_marks Try.func13 rfl trivial ?_ rfl
  simp only [Try.ntmps13, List.size_toArray, List.length_cons, List.length_nil, Nat.reduceAdd, Nat.reduceSub, Array.replicate_succ, Array.replicate_zero, List.push_toArray, List.append_toArray, List.nil_append, List.cons_append]
  gi_wp2_with fail
  obtain ⟨V, hV⟩ : ∃ V, V = ((w.alloc (.cells #[.slice A xs.length c] 24)).alloc (.cells #[.int .i64 i] 3)) := ⟨_, rfl⟩
  have hVb : RowKit.Below w.heap.size w V := by rw [hV]; exact (((Below.refl _ w).alloc (Nat.le_refl _) _).alloc (by simp) _)
  have v0 : V.heap[w.heap.size]? = some (.cells #[.slice A xs.length c] 24 (0, 0)) := by
    rw [hV]; exact (Below.heap_alloc _ _ _ (by simp)).trans (World.alloc_heap_new w _)
  have v1 : V.heap[w.heap.size + 1]? = some (.cells #[.int .i64 i] 3 (0, 0)) := by
    have := World.alloc_heap_new (w.alloc (.cells #[.slice A xs.length c] 24)) (.cells #[.int .i64 i] 3)
    rw [World.size_alloc] at this
    rw [hV]; exact this
  have sV : V.heap.size = w.heap.size + 2 := by rw [hV]; simp
  rw [← hV]
  clear hV
  refine ⟨trivial, (callsIn_wide.2 (turn_at.calls A c xs i _ V (Kd.C_below HC.out hVb) HK.out.1 (at_e xs i))).mono ?_⟩
  rintro e w1 ⟨rfl, hb⟩
  have B1 : Aside0 (RowKit.Below w.heap.size w w1) := ⟨hVb.trans (hb.mono hVb.size)⟩
  have b0 := (hb.block _ (at_lt v0)).trans v0
  have b1 := (hb.block _ (at_lt v1)).trans v1
  have hsz1 : Aside0 (w.heap.size + 1 < w1.heap.size) := ⟨at_lt b1⟩
  clear hVb v0 v1 sV hb
  have g0 : w1.cell? ⟨w.heap.size, 0, none⟩ = some (.slice A xs.length c) := by simp [World.cell?, b0]
  have g1 : w1.cell? ⟨w.heap.size + 1, 0, none⟩ = some (.int .i64 i) := by simp [World.cell?, b1]
  cases hat : atp xs i with
  | false =>
    gi_wp2
    refine ⟨.int .i64 i, ?_, ?_, B1.out⟩
    · simp [results, Try.results13, go_sem]
    · simp [prevp, hat]
  | true =>
    have hat2 := hat
    simp only [atp, Bool.and_eq_true, decide_eq_true_eq] at hat2
    obtain ⟨⟨hi0, hi1⟩, hok⟩ := hat2
    obtain ⟨ad, e1, _, _⟩ := at_T36 (Kd.C_below HC.out B1.out) i hi0 hi1
    obtain ⟨X, hX⟩ : ∃ X, X = rd_T36 xs i := ⟨_, rfl⟩
    rw [e1] at g0
    have q1 := eq_true hi0
    have q2 := eq_true hi1
    have HX := Aside0.mk hX
    have HE := Aside0.mk e1
    have HAT := Aside0.mk hat
    clear hat hok hi0 hi1
    gi_wp2_with fail
    obtain ⟨U, hU⟩ : ∃ U, U = (w1.alloc (.cells #[.int .i64 i] 3)) := ⟨_, rfl⟩
    have P0 : PSt w ad xs.length c w1.heap.size i i U := by
      refine ⟨by rw [hU]; exact B1.out.alloc B1.out.size _, hsz1.out, ?_, ?_, ?_⟩
      · rw [hU, ← HE.out]; exact (Below.heap_alloc _ _ _ (at_lt b0)).trans b0
      · rw [hU]; exact (Below.heap_alloc _ _ _ (at_lt b1)).trans b1
      · rw [hU]; exact World.alloc_heap_new w1 _
    have sU : U.heap.size = w1.heap.size + 1 := by rw [hU]; simp
    try rw [← hU]
    clear hU b0 b1 g0 g1
    obtain ⟨ad2, e2, x0, x1⟩ := at_T36 (Kd.C_below HC.out P0.bel) i (of_eq_true q1) (of_eq_true q2)
    obtain rfl : ad = ad2 := Option.some.inj (HE.out.symm.trans e2)
    rw [← hX] at x0 x1
    obtain ⟨g0, g1, g2, _⟩ := P0.cells
    have HP0 := Aside0.mk P0
    have HSU := Aside0.mk sU
    clear P0 sU hX e2
    have KEEP : Aside0 (∀ w', RowKit.Below U.heap.size U w' → (w'.cell? ⟨w.heap.size, 0, none⟩ = some (.slice (some ad) xs.length c) ∧ w'.cell? ⟨w.heap.size + 1, 0, none⟩ = some (.int .i64 i) ∧ w'.cell? (ad.add (i.toNat * 2)) = some (.int .i64 X.f0) ∧ w'.cell? ⟨(ad.add (i.toNat * 2)).block, (ad.add (i.toNat * 2)).off + 1, none⟩ = some (.int .i64 X.f1)) ∧ RowKit.Below U.heap.size U w') :=
      ⟨fun w' h => ⟨⟨(h.cell (World.block_lt_of_cell? U _ g0)).trans g0, (h.cell (World.block_lt_of_cell? U _ g1)).trans g1, (h.cell (World.block_lt_of_cell? U _ x0)).trans x0, (h.cell (World.block_lt_of_cell? U _ x1)).trans x1⟩, h⟩⟩
    gi_wp2_with fail
    refine wpIn_wide.2 ?_
    go_region_held3 (fun w' => (w'.cell? ⟨w.heap.size, 0, none⟩ = some (.slice (some ad) xs.length c) ∧ w'.cell? ⟨w.heap.size + 1, 0, none⟩ = some (.int .i64 i) ∧ w'.cell? (ad.add (i.toNat * 2)) = some (.int .i64 X.f0) ∧ w'.cell? ⟨(ad.add (i.toNat * 2)).block, (ad.add (i.toNat * 2)).off + 1, none⟩ = some (.int .i64 X.f1)) ∧ RowKit.Below U.heap.size U w')
      (first | exact KEEP.out _ hox | exact KEEP.out _ (Below.refl _ _).drew)
      (first | (go_at_call 23; (with_reducible refine (round_walk _ _ _ X _).mono ?_); rintro e w2 ⟨rfl, hb, hr⟩; have hox := (And.right (by assumption : _ ∧ RowKit.Below U.heap.size U _)).trans (hb.mono (And.right (by assumption : _ ∧ RowKit.Below U.heap.size U _)).size); have HRB := Aside0.mk hr; clear hb hr))
    gi_wp2_with fail
    obtain ⟨hr0, hr1, hr2⟩ := HRB.out
    have P2 := Aside0.mk (HP0.out.step hox)
    have hszA : Aside0 (w1.heap.size < w2.heap.size ∧ w.heap.size + 1 < w1.heap.size ∧ w1.heap.size + 3 = w2.heap.size) := ⟨⟨at_lt P2.out.b2, hsz1.out, by rw [hr2]; show _ = U.heap.size + 2; rw [HSU.out]⟩⟩
    clear hox KEEP g0 g1 g2 hr0 hr1 hr2 x0 x1
    refine range_over rfl (by omega) (gf := 33) (lb := #[.pointer (some ⟨U.heap.size, 0, none⟩), .pointer (some ⟨U.heap.size + 1, 0, none⟩)]) rfl trivial (enters_of Try.func33 (by kernel_rfl) rfl)
      (encs := fun k : Int => #[.int .i64 k]) (Kp := Kq w w1.heap.size) (S := fun l => l = roundl xs X) (Sp := fun pre => pre <+: roundl xs X) (N := 100) (Tr := fun _ => False)
      (fun W hg => round_iter (6 - 1) (by omega) A xs c w HC.out HK.out.1 HK.out.2 X U.heap.size (U.heap.size + 1) w1.heap.size (by have := hszA.out; have := HSU.out; omega) (by have := hszA.out; have := HSU.out; omega) (by have := HSU.out; omega) (by have := HSU.out; omega) W ?hbel ?hlt ?hb1 ?hb2)
      (fun r h => h.elim) (fun h1 h2 => ⟨h1.1.trans h2.1, fun k o hk ho hn => h2.2 k o (h1.2 k o hk ho hn) ho hn⟩)
      ?hKb ?hps (PI w ad c w1.heap.size xs i) (fun _ _ _ => False) (PI_stays w ad c w1.heap.size xs i _ (by have := hszA.out; omega)) (fun cd => fun _ _ _ _ h _ _ => h) ⟨⟨of_eq_true q1, of_eq_true q2⟩, P2.out⟩
      (fun k a' W => a' = { tmps := #[Value.slice (some ad) xs.length c, Value.int IntKind.i64 i, Value.pointer (some ⟨w.heap.size, 0, none⟩), Value.pointer (some ⟨w.heap.size + 1, 0, none⟩), .int .i64 0, Value.pointer (some ⟨w1.heap.size, 0, none⟩), .int .i64 k, Value.slice (some ad) xs.length c, Value.int IntKind.i64 i, Value.bool true, Value.bool false, undef, Value.int IntKind.i64 i, Value.slice (some ad) xs.length c, Value.slice (some ad) xs.length c, Value.int IntKind.i64 i, Value.pointer (some (ad.add (i.toNat * 2))), Value.agg #[Value.int IntKind.i64 X.f0, Value.int IntKind.i64 X.f1], Value.func (Fn.func 33) #[] #[Value.pointer (some ⟨U.heap.size, 0, none⟩), Value.pointer (some ⟨U.heap.size + 1, 0, none⟩)], .int .i64 k, undef, undef, undef, undef, undef, undef, undef, undef, undef, undef, undef, undef, undef, undef, undef, undef, undef, undef, undef, undef, undef, undef, undef, undef, undef, undef, undef, undef, undef], defers := [] })
      (fun x a' W l o o' h _ _ _ => h) ?assign ?body ?done ?stop
    case hps => intro x; rfl
    case hbel => exact P2.out.bel.trans ((⟨hg.os, hg.tape, hg.output, hg.size, fun k hk => hg.block k hk (by simp)⟩ : RowKit.Below w2.heap.size w2 W).mono P2.out.bel.size)
    case hlt => have := hg.size; have := hszA.out; omega
    case hb1 => exact (hg.block _ (at_lt HRB.out.1) (by simp)).trans (HE.out ▸ HRB.out.1)
    case hb2 => exact (hg.block _ (at_lt HRB.out.2.1) (by simp)).trans HRB.out.2.1
    case hKb =>
      intro W l o o' hl hlt ho
      refine ⟨(Below.refl _ W).grown (grownBy_putObj' W l o') (by have := P2.out.bel.size; have := at_lt hlt; omega) (fun k e => by cases e; have := P2.out.bel.size; omega), fun k o2 hk ho2 _ => ?_⟩
      by_cases e : k = l
      · subst e; rw [hlt] at hk; cases hk; rw [ho] at ho2; cases ho2
      · exact (World.putObj_heap_other e).trans hk
    case assign =>
      intro l pre x W K hi hK
      dsimp only
      rw [fold_one]
      simp only [List.setIfInBounds_toArray, List.set_cons_zero, List.set_cons_succ]
      have HKK := Aside0.mk hK
      have HI := Aside0.mk hi
      clear hK hi
      gi_wp2
      exact HKK.out _ _ (KeepsFrom.refl _ _) ⟨Below.refl _ _, fun _ _ h _ _ => h⟩ HI.out rfl
    case body =>
      rintro l pre k a' W hsp ⟨hz, hst⟩ rfl hlen
      have HRNG := Aside0.mk (mem_round xs X pre k (sorted_rng xs) hsp)
      obtain ⟨bv, hbv⟩ : ∃ bv, bv = pre.foldl (pstep xs i) i := ⟨_, rfl⟩
      have HFO : Aside0 ((pre ++ [k]).foldl (pstep xs i) i = pstep xs i bv k) := ⟨by rw [List.foldl_append, ← hbv]; rfl⟩
      rw [← hbv] at hz hst
      have HZ := Aside0.mk hz
      have HST := Aside0.mk hst
      clear hz hst hsp hlen hbv
      obtain ⟨Y, hY⟩ : ∃ Y, Y = rd_T36 xs k := ⟨_, rfl⟩
      obtain ⟨Z, hZ⟩ : ∃ Z, Z = rd_T36 xs bv := ⟨_, rfl⟩
      obtain ⟨ad2, e2, k0, k1⟩ := at_T36 (Kd.C_below HC.out HST.out.bel) k HRNG.out.1 HRNG.out.2
      obtain ⟨ad3, e3, x0, x1⟩ := at_T36 (Kd.C_below HC.out HST.out.bel) i (of_eq_true q1) (of_eq_true q2)
      obtain ⟨ad4, e4, z0, z1⟩ := at_T36 (Kd.C_below HC.out HST.out.bel) bv HZ.out.1 HZ.out.2
      obtain rfl : ad = ad2 := Option.some.inj (HE.out.symm.trans e2)
      obtain rfl : ad = ad3 := Option.some.inj (HE.out.symm.trans e3)
      obtain rfl : ad = ad4 := Option.some.inj (HE.out.symm.trans e4)
      rw [← hY] at k0 k1
      rw [← HX.out] at x0 x1
      rw [← hZ] at z0 z1
      obtain ⟨g0, g1, g2, _⟩ := HST.out.cells
      have p1 := eq_true HRNG.out.1
      have p2 := eq_true HRNG.out.2
      have p3 := eq_true HZ.out.1
      have p4 := eq_true HZ.out.2
      obtain ⟨r, hr⟩ : ∃ r, r = cmpv Y X := ⟨_, rfl⟩
      have HR := Aside0.mk (cmpv_e Y X)
      rw [← hr] at HR
      obtain ⟨r2, hr2⟩ : ∃ r, r = cmpv Y Z := ⟨_, rfl⟩
      have HR2 := Aside0.mk (cmpv_e Y Z)
      rw [← hr2] at HR2
      have HPS : Aside0 (pstep xs i bv k = if r ≠ 0 ∧ (bv = i ∨ r2 ≠ 0) then k else bv) := ⟨by rw [hr, hr2, hY, hZ, HX.out]; rfl⟩
      have KEEP : Aside0 (∀ w', RowKit.Below W.heap.size W w' → (w'.cell? ⟨w.heap.size, 0, none⟩ = some (.slice (some ad) xs.length c) ∧ w'.cell? ⟨w.heap.size + 1, 0, none⟩ = some (.int .i64 i) ∧ w'.cell? ⟨w1.heap.size, 0, none⟩ = some (.int .i64 bv) ∧ w'.cell? (ad.add (i.toNat * 2)) = some (.int .i64 X.f0) ∧ w'.cell? ⟨(ad.add (i.toNat * 2)).block, (ad.add (i.toNat * 2)).off + 1, none⟩ = some (.int .i64 X.f1) ∧ w'.cell? (ad.add (k.toNat * 2)) = some (.int .i64 Y.f0) ∧ w'.cell? ⟨(ad.add (k.toNat * 2)).block, (ad.add (k.toNat * 2)).off + 1, none⟩ = some (.int .i64 Y.f1) ∧ w'.cell? (ad.add (bv.toNat * 2)) = some (.int .i64 Z.f0) ∧ w'.cell? ⟨(ad.add (bv.toNat * 2)).block, (ad.add (bv.toNat * 2)).off + 1, none⟩ = some (.int .i64 Z.f1))) :=
        ⟨fun w' h => ⟨(h.cell (World.block_lt_of_cell? W _ g0)).trans g0, (h.cell (World.block_lt_of_cell? W _ g1)).trans g1, (h.cell (World.block_lt_of_cell? W _ g2)).trans g2, (h.cell (World.block_lt_of_cell? W _ x0)).trans x0, (h.cell (World.block_lt_of_cell? W _ x1)).trans x1, (h.cell (World.block_lt_of_cell? W _ k0)).trans k0, (h.cell (World.block_lt_of_cell? W _ k1)).trans k1, (h.cell (World.block_lt_of_cell? W _ z0)).trans z0, (h.cell (World.block_lt_of_cell? W _ z1)).trans z1⟩⟩
      clear hr hr2 hY hZ e2 e3 e4 g0 g1 g2 x0 x1 k0 k1 z0 z1
      gi_wp2_with fail
      refine startIn_ (m := 27) (S := fun w' => w'.cell? ⟨w.heap.size, 0, none⟩ = some (.slice (some ad) xs.length c) ∧ w'.cell? ⟨w.heap.size + 1, 0, none⟩ = some (.int .i64 i) ∧ w'.cell? ⟨w1.heap.size, 0, none⟩ = some (.int .i64 bv) ∧ w'.cell? (ad.add (i.toNat * 2)) = some (.int .i64 X.f0) ∧ w'.cell? ⟨(ad.add (i.toNat * 2)).block, (ad.add (i.toNat * 2)).off + 1, none⟩ = some (.int .i64 X.f1) ∧ w'.cell? (ad.add (k.toNat * 2)) = some (.int .i64 Y.f0) ∧ w'.cell? ⟨(ad.add (k.toNat * 2)).block, (ad.add (k.toNat * 2)).off + 1, none⟩ = some (.int .i64 Y.f1) ∧ w'.cell? (ad.add (bv.toNat * 2)) = some (.int .i64 Z.f0) ∧ w'.cell? ⟨(ad.add (bv.toNat * 2)).block, (ad.add (bv.toNat * 2)).off + 1, none⟩ = some (.int .i64 Z.f1)) (ds := [23, 24, 25, 26]) #[false, false, false, false, false, false, false, false, false, false, false, false, false, false, false, false, false, false, false, false, false, false, false, false, false, false, false] ?hQ (by kernel_rfl) (by kernel_rfl) rfl rfl (KEEP.out _ (Below.refl _ _).drew) (fun hHeld => ?_)
      case hQ => rintro ⟨_, _, h⟩; exact h
      refine pure_ (i := 1) (N := some 21) (v := ?_) (a' := ?_) #[false, true, false, false, false, false, false, false, false, false, false, false, false, false, false, false, false, false, false, false, false, false, false, false, false, false, false] rfl rfl (by kernel_rfl) (fun _ _ _ h => h) (Or.inl ⟨by rfl, ?_⟩) ?_ ?_
      rotate_left
      · intro w'
        go_simp
        with_reducible rfl
      rotate_left
      · simp only [Act.put, List.setIfInBounds_toArray, List.set_cons_zero, List.set_cons_succ, i64_w, i32_w]
        rfl
      refine take_ (i := 0) (N := some 20) (v := ?_) (a' := ?_) #[true, true, false, false, false, false, false, false, false, false, false, false, false, false, false, false, false, false, false, false, false, false, false, false, false, false, false] rfl rfl (by kernel_rfl) (fun _ _ _ h => h) (Or.inl ⟨by rfl, ?_⟩) hHeld ?_ ?_
      rotate_left
      · rintro w' ⟨s0, s1, s2, s3, s4, s5, s6, s7, s8⟩
        go_simp
        with_reducible rfl
      rotate_left
      · simp only [Act.put, List.setIfInBounds_toArray, List.set_cons_zero, List.set_cons_succ, i64_w, i32_w]
        rfl
      refine take_ (i := 4) (N := some 24) (v := ?_) (a' := ?_) #[true, true, false, false, true, false, false, false, false, false, false, false, false, false, false, false, false, false, false, false, false, false, false, false, false, false, false] rfl rfl (by kernel_rfl) (fun _ _ _ h => h) (Or.inl ⟨by rfl, ?_⟩) hHeld ?_ ?_
      rotate_left
      · rintro w' ⟨s0, s1, s2, s3, s4, s5, s6, s7, s8⟩
        go_simp
        with_reducible rfl
      rotate_left
      · simp only [Act.put, List.setIfInBounds_toArray, List.set_cons_zero, List.set_cons_succ, i64_w, i32_w]
        rfl
      refine take_ (i := 5) (N := some 25) (v := ?_) (a' := ?_) #[true, true, false, false, true, true, false, false, false, false, false, false, false, false, false, false, false, false, false, false, false, false, false, false, false, false, false] rfl rfl (by kernel_rfl) (fun _ _ _ h => h) (Or.inl ⟨by rfl, ?_⟩) hHeld ?_ ?_
      rotate_left
      · rintro w' ⟨s0, s1, s2, s3, s4, s5, s6, s7, s8⟩
        go_simp
        with_reducible rfl
      rotate_left
      · simp only [Act.put, List.setIfInBounds_toArray, List.set_cons_zero, List.set_cons_succ, i64_w, i32_w]
        rfl
      refine take_ (i := 2) (N := some 22) (v := ?_) (a' := ?_) #[true, true, true, false, true, true, false, false, false, false, false, false, false, false, false, false, false, false, false, false, false, false, false, false, false, false, false] rfl rfl (by kernel_rfl) (fun _ _ _ h => h) (Or.inl ⟨by rfl, ?_⟩) hHeld ?_ ?_
      rotate_left
      · rintro w' ⟨s0, s1, s2, s3, s4, s5, s6, s7, s8⟩
        go_simp
        with_reducible rfl
      rotate_left
      · simp only [Act.put, List.setIfInBounds_toArray, List.set_cons_zero, List.set_cons_succ, i64_w, i32_w]
        rfl
      refine take_ (i := 3) (N := some 23) (v := ?_) (a' := ?_) #[true, true, true, true, true, true, false, false, false, false, false, false, false, false, false, false, false, false, false, false, false, false, false, false, false, false, false] rfl rfl (by kernel_rfl) (fun _ _ _ h => h) (Or.inl ⟨by rfl, ?_⟩) hHeld ?_ ?_
      rotate_left
      · rintro w' ⟨s0, s1, s2, s3, s4, s5, s6, s7, s8⟩
        go_simp
        with_reducible rfl
      rotate_left
      · simp only [Act.put, List.setIfInBounds_toArray, List.set_cons_zero, List.set_cons_succ, i64_w, i32_w]
        rfl
      refine take_ (i := 6) (N := some 26) (v := ?_) (a' := ?_) #[true, true, true, true, true, true, true, false, false, false, false, false, false, false, false, false, false, false, false, false, false, false, false, false, false, false, false] rfl rfl (by kernel_rfl) (fun _ _ _ h => h) (Or.inl ⟨by rfl, ?_⟩) hHeld ?_ ?_
      rotate_left
      · rintro w' ⟨s0, s1, s2, s3, s4, s5, s6, s7, s8⟩
        go_simp
        with_reducible rfl
      rotate_left
      · simp only [Act.put, List.setIfInBounds_toArray, List.set_cons_zero, List.set_cons_succ, i64_w, i32_w]
        rfl
      refine take_ (i := 7) (N := some 27) (v := ?_) (a' := ?_) #[true, true, true, true, true, true, true, true, false, false, false, false, false, false, false, false, false, false, false, false, false, false, false, false, false, false, false] rfl rfl (by kernel_rfl) (fun _ _ _ h => h) (Or.inl ⟨by rfl, ?_⟩) hHeld ?_ ?_
      rotate_left
      · rintro w' ⟨s0, s1, s2, s3, s4, s5, s6, s7, s8⟩
        go_simp
        with_reducible rfl
      rotate_left
      · simp only [Act.put, List.setIfInBounds_toArray, List.set_cons_zero, List.set_cons_succ, i64_w, i32_w]
        rfl
      clear hHeld
      refine one_ (i := 8) (N := some 28) #[true, true, true, true, true, true, true, true, true, false, false, false, false, false, false, false, false, false, false, false, false, false, false, false, false, false, false] rfl rfl (by kernel_rfl) (by decide) (fun K hK => ?_)
      refine goes_ Try.func20 (by kernel_rfl) rfl #[.agg #[.int .i64 Y.f0, .int .i64 Y.f1], .agg #[.int .i64 X.f0, .int .i64 X.f1]] (by rfl) rfl rfl (by (try simp only [List.map_toArray, List.map_cons, List.map_nil]); first | done | rfl) ?_
      with_reducible refine (turn_Cmp.calls 20 _ _ _ _ _ _ HR.out).mono ?_
      rintro e w3 ⟨rfl, hb⟩
      have hbw : RowKit.Below W.heap.size W w3 := (Below.refl W.heap.size W).drew.trans hb
      clear hb
      refine ⟨_, rfl, ?_⟩
      refine hK.out _ _ (KEEP.out _ hbw) (fun hHeld => ?_)
      clear hK K
      refine norm_ (a' := ?_) ?_ ?_
      rotate_left
      · show Act.put _ (some 28) _ = _
        simp only [Act.put, List.setIfInBounds_toArray, List.set_cons_zero, List.set_cons_succ, i64_w, i32_w]
        rfl
      by_cases hz : r = 0
      · have h0 : (r != 0) = false := bne_eq_false_iff_eq.mpr hz
        have HCD : Aside0 (pstep xs i bv k = bv) := ⟨by rw [HPS.out, if_neg (by simp [hz])]⟩
        clear hz
        refine pure_ (i := 9) (N := some 29) (v := ?_) (a' := ?_) #[true, true, true, true, true, true, true, true, true, true, false, false, false, false, false, false, false, false, false, false, false, false, false, false, false, false, false] rfl rfl (by kernel_rfl) (fun _ _ _ h => h) (Or.inl ⟨by rfl, ?_⟩) ?_ ?_
        rotate_left
        · intro w'
          go_simp
          with_reducible rfl
        rotate_left
        · simp only [Act.put, List.setIfInBounds_toArray, List.set_cons_zero, List.set_cons_succ, i64_w, i32_w]
          rfl
        refine pure_ (i := 10) (N := some 30) (v := ?_) (a' := ?_) #[true, true, true, true, true, true, true, true, true, true, true, false, false, false, false, false, false, false, false, false, false, false, false, false, false, false, false] rfl rfl (by kernel_rfl) (fun _ _ _ h => h) (Or.inl ⟨by rfl, ?_⟩) ?_ ?_
        rotate_left
        · intro w'
          go_simp
          with_reducible rfl
        rotate_left
        · simp only [Act.put, List.setIfInBounds_toArray, List.set_cons_zero, List.set_cons_succ, i64_w, i32_w]
          rfl
        clear h0
        refine pure_ (i := 11) (N := some 31) (v := undef) (a' := ?_) #[true, true, true, true, true, true, true, true, true, true, true, true, false, false, false, false, false, false, false, false, false, false, false, false, false, false, false] rfl rfl (by kernel_rfl) (fun _ _ _ h => h) (Or.inr ⟨by rfl, rfl⟩) ?_ ?_
        rotate_left
        · simp only [Act.put, List.setIfInBounds_toArray, List.set_cons_zero, List.set_cons_succ, i64_w, i32_w]
          rfl
        refine pure_ (i := 12) (N := some 32) (v := undef) (a' := ?_) #[true, true, true, true, true, true, true, true, true, true, true, true, true, false, false, false, false, false, false, false, false, false, false, false, false, false, false] rfl rfl (by kernel_rfl) (fun _ _ _ h => h) (Or.inr ⟨by rfl, rfl⟩) ?_ ?_
        rotate_left
        · simp only [Act.put, List.setIfInBounds_toArray, List.set_cons_zero, List.set_cons_succ, i64_w, i32_w]
          rfl
        refine pure_ (i := 13) (N := some 33) (v := undef) (a' := ?_) #[true, true, true, true, true, true, true, true, true, true, true, true, true, true, false, false, false, false, false, false, false, false, false, false, false, false, false] rfl rfl (by kernel_rfl) (fun _ _ _ h => h) (Or.inr ⟨by rfl, rfl⟩) ?_ ?_
        rotate_left
        · simp only [Act.put, List.setIfInBounds_toArray, List.set_cons_zero, List.set_cons_succ, i64_w, i32_w]
          rfl
        refine pure_ (i := 14) (N := some 34) (v := undef) (a' := ?_) #[true, true, true, true, true, true, true, true, true, true, true, true, true, true, true, false, false, false, false, false, false, false, false, false, false, false, false] rfl rfl (by kernel_rfl) (fun _ _ _ h => h) (Or.inr ⟨by rfl, rfl⟩) ?_ ?_
        rotate_left
        · simp only [Act.put, List.setIfInBounds_toArray, List.set_cons_zero, List.set_cons_succ, i64_w, i32_w]
          rfl
        refine pure_ (i := 15) (N := some 35) (v := undef) (a' := ?_) #[true, true, true, true, true, true, true, true, true, true, true, true, true, true, true, true, false, false, false, false, false, false, false, false, false, false, false] rfl rfl (by kernel_rfl) (fun _ _ _ h => h) (Or.inr ⟨by rfl, rfl⟩) ?_ ?_
        rotate_left
        · simp only [Act.put, List.setIfInBounds_toArray, List.set_cons_zero, List.set_cons_succ, i64_w, i32_w]
          rfl
        refine pure_ (i := 16) (N := some 36) (v := undef) (a' := ?_) #[true, true, true, true, true, true, true, true, true, true, true, true, true, true, true, true, true, false, false, false, false, false, false, false, false, false, false] rfl rfl (by kernel_rfl) (fun _ _ _ h => h) (Or.inr ⟨by rfl, rfl⟩) ?_ ?_
        rotate_left
        · simp only [Act.put, List.setIfInBounds_toArray, List.set_cons_zero, List.set_cons_succ, i64_w, i32_w]
          rfl
        refine pure_ (i := 17) (N := some 37) (v := undef) (a' := ?_) #[true, true, true, true, true, true, true, true, true, true, true, true, true, true, true, true, true, true, false, false, false, false, false, false, false, false, false] rfl rfl (by kernel_rfl) (fun _ _ _ h => h) (Or.inr ⟨by rfl, rfl⟩) ?_ ?_
        rotate_left
        · simp only [Act.put, List.setIfInBounds_toArray, List.set_cons_zero, List.set_cons_succ, i64_w, i32_w]
          rfl
        refine pure_ (i := 18) (N := some 38) (v := undef) (a' := ?_) #[true, true, true, true, true, true, true, true, true, true, true, true, true, true, true, true, true, true, true, false, false, false, false, false, false, false, false] rfl rfl (by kernel_rfl) (fun _ _ _ h => h) (Or.inr ⟨by rfl, rfl⟩) ?_ ?_
        rotate_left
        · simp only [Act.put, List.setIfInBounds_toArray, List.set_cons_zero, List.set_cons_succ, i64_w, i32_w]
          rfl
        refine pure_ (i := 19) (N := some 39) (v := undef) (a' := ?_) #[true, true, true, true, true, true, true, true, true, true, true, true, true, true, true, true, true, true, true, true, false, false, false, false, false, false, false] rfl rfl (by kernel_rfl) (fun _ _ _ h => h) (Or.inr ⟨by rfl, rfl⟩) ?_ ?_
        rotate_left
        · simp only [Act.put, List.setIfInBounds_toArray, List.set_cons_zero, List.set_cons_succ, i64_w, i32_w]
          rfl
        refine pure_ (i := 20) (N := some 40) (v := undef) (a' := ?_) #[true, true, true, true, true, true, true, true, true, true, true, true, true, true, true, true, true, true, true, true, true, false, false, false, false, false, false] rfl rfl (by kernel_rfl) (fun _ _ _ h => h) (Or.inr ⟨by rfl, rfl⟩) ?_ ?_
        rotate_left
        · simp only [Act.put, List.setIfInBounds_toArray, List.set_cons_zero, List.set_cons_succ, i64_w, i32_w]
          rfl
        refine pure_ (i := 21) (N := some 41) (v := undef) (a' := ?_) #[true, true, true, true, true, true, true, true, true, true, true, true, true, true, true, true, true, true, true, true, true, true, false, false, false, false, false] rfl rfl (by kernel_rfl) (fun _ _ _ h => h) (Or.inr ⟨by rfl, rfl⟩) ?_ ?_
        rotate_left
        · simp only [Act.put, List.setIfInBounds_toArray, List.set_cons_zero, List.set_cons_succ, i64_w, i32_w]
          rfl
        refine pure_ (i := 22) (N := some 42) (v := undef) (a' := ?_) #[true, true, true, true, true, true, true, true, true, true, true, true, true, true, true, true, true, true, true, true, true, true, true, false, false, false, false] rfl rfl (by kernel_rfl) (fun _ _ _ h => h) (Or.inr ⟨by rfl, rfl⟩) ?_ ?_
        rotate_left
        · simp only [Act.put, List.setIfInBounds_toArray, List.set_cons_zero, List.set_cons_succ, i64_w, i32_w]
          rfl
        refine pure_ (i := 23) (N := some 43) (v := undef) (a' := ?_) #[true, true, true, true, true, true, true, true, true, true, true, true, true, true, true, true, true, true, true, true, true, true, true, true, false, false, false] rfl rfl (by kernel_rfl) (fun _ _ _ h => h) (Or.inr ⟨by rfl, rfl⟩) ?_ ?_
        rotate_left
        · simp only [Act.put, List.setIfInBounds_toArray, List.set_cons_zero, List.set_cons_succ, i64_w, i32_w]
          rfl
        refine pure_ (i := 24) (N := some 44) (v := undef) (a' := ?_) #[true, true, true, true, true, true, true, true, true, true, true, true, true, true, true, true, true, true, true, true, true, true, true, true, true, false, false] rfl rfl (by kernel_rfl) (fun _ _ _ h => h) (Or.inr ⟨by rfl, rfl⟩) ?_ ?_
        rotate_left
        · simp only [Act.put, List.setIfInBounds_toArray, List.set_cons_zero, List.set_cons_succ, i64_w, i32_w]
          rfl
        refine pure_ (i := 25) (N := some 45) (v := undef) (a' := ?_) #[true, true, true, true, true, true, true, true, true, true, true, true, true, true, true, true, true, true, true, true, true, true, true, true, true, true, false] rfl rfl (by kernel_rfl) (fun _ _ _ h => h) (Or.inr ⟨by rfl, rfl⟩) ?_ ?_
        rotate_left
        · simp only [Act.put, List.setIfInBounds_toArray, List.set_cons_zero, List.set_cons_succ, i64_w, i32_w]
          rfl
        refine pure_ (i := 26) (N := some 46) (v := ?_) (a' := ?_) #[true, true, true, true, true, true, true, true, true, true, true, true, true, true, true, true, true, true, true, true, true, true, true, true, true, true, true] rfl rfl (by kernel_rfl) (fun _ _ _ h => h) (Or.inl ⟨by rfl, ?_⟩) ?_ ?_
        rotate_left
        · intro w'
          go_simp
          with_reducible rfl
        rotate_left
        · simp only [Act.put, List.setIfInBounds_toArray, List.set_cons_zero, List.set_cons_succ, i64_w, i32_w]
          rfl
        refine done_ (by kernel_rfl) ?_
        have S3 : Aside0 (PSt w ad xs.length c w1.heap.size i bv w3) := ⟨HST.out.step hbw⟩
        have KF : Aside0 (KeepsFrom w2.heap.size W w3) := ⟨(KeepsOthers.of_grownBy (grown_of_below hbw) (fun j o e _ => by cases e)).from _⟩
        have KQ : Aside0 (Kq w w1.heap.size W w3) := ⟨hbw.mono HST.out.bel.size, fun k' o hk _ _ => (hbw.block k' (at_lt hk)).trans hk⟩
        clear hbw
        gi_wp2_with fail
        refine (⟨KF.out, KQ.out, ?_⟩ : KeepsFrom _ _ _ ∧ Kq _ _ _ _ ∧ PI _ _ _ _ _ _ _ _)
        unfold PI
        rw [HFO.out, HCD.out]
        exact ⟨HZ.out, S3.out⟩
      · have h0 : (r != 0) = true := bne_iff_ne.mpr hz
        refine pure_ (i := 9) (N := some 29) (v := ?_) (a' := ?_) #[true, true, true, true, true, true, true, true, true, true, false, false, false, false, false, false, false, false, false, false, false, false, false, false, false, false, false] rfl rfl (by kernel_rfl) (fun _ _ _ h => h) (Or.inl ⟨by rfl, ?_⟩) ?_ ?_
        rotate_left
        · intro w'
          go_simp
          with_reducible rfl
        rotate_left
        · simp only [Act.put, List.setIfInBounds_toArray, List.set_cons_zero, List.set_cons_succ, i64_w, i32_w]
          rfl
        refine pure_ (i := 10) (N := some 30) (v := ?_) (a' := ?_) #[true, true, true, true, true, true, true, true, true, true, true, false, false, false, false, false, false, false, false, false, false, false, false, false, false, false, false] rfl rfl (by kernel_rfl) (fun _ _ _ h => h) (Or.inl ⟨by rfl, ?_⟩) ?_ ?_
        rotate_left
        · intro w'
          go_simp
          with_reducible rfl
        rotate_left
        · simp only [Act.put, List.setIfInBounds_toArray, List.set_cons_zero, List.set_cons_succ, i64_w, i32_w]
          rfl
        clear h0
        refine take_ (i := 11) (N := some 31) (v := ?_) (a' := ?_) #[true, true, true, true, true, true, true, true, true, true, true, true, false, false, false, false, false, false, false, false, false, false, false, false, false, false, false] rfl rfl (by kernel_rfl) (fun _ _ _ h => h) (Or.inl ⟨by rfl, ?_⟩) hHeld ?_ ?_
        rotate_left
        · rintro w' ⟨s0, s1, s2, s3, s4, s5, s6, s7, s8⟩
          go_simp
          with_reducible rfl
        rotate_left
        · simp only [Act.put, List.setIfInBounds_toArray, List.set_cons_zero, List.set_cons_succ, i64_w, i32_w]
          rfl
        refine take_ (i := 12) (N := some 32) (v := ?_) (a' := ?_) #[true, true, true, true, true, true, true, true, true, true, true, true, true, false, false, false, false, false, false, false, false, false, false, false, false, false, false] rfl rfl (by kernel_rfl) (fun _ _ _ h => h) (Or.inl ⟨by rfl, ?_⟩) hHeld ?_ ?_
        rotate_left
        · rintro w' ⟨s0, s1, s2, s3, s4, s5, s6, s7, s8⟩
          go_simp
          with_reducible rfl
        rotate_left
        · simp only [Act.put, List.setIfInBounds_toArray, List.set_cons_zero, List.set_cons_succ, i64_w, i32_w]
          rfl
        by_cases hbi : bv = i
        · have h1 : (bv == i) = true := beq_iff_eq.mpr hbi
          have h2 : decide (bv = i) = true := decide_eq_true hbi
          have HCD : Aside0 (pstep xs i bv k = k) := ⟨by rw [HPS.out, if_pos ⟨hz, .inl hbi⟩]⟩
          clear hz
          have HBI := Aside0.mk hbi
          clear hbi
          refine pure_ (i := 13) (N := some 33) (v := ?_) (a' := ?_) #[true, true, true, true, true, true, true, true, true, true, true, true, true, true, false, false, false, false, false, false, false, false, false, false, false, false, false] rfl rfl (by kernel_rfl) (fun _ _ _ h => h) (Or.inl ⟨by rfl, ?_⟩) ?_ ?_
          rotate_left
          · intro w'
            go_simp
            with_reducible rfl
          rotate_left
          · simp only [Act.put, List.setIfInBounds_toArray, List.set_cons_zero, List.set_cons_succ, i64_w, i32_w]
            rfl
          refine pure_ (i := 14) (N := some 34) (v := ?_) (a' := ?_) #[true, true, true, true, true, true, true, true, true, true, true, true, true, true, true, false, false, false, false, false, false, false, false, false, false, false, false] rfl rfl (by kernel_rfl) (fun _ _ _ h => h) (Or.inl ⟨by rfl, ?_⟩) ?_ ?_
          rotate_left
          · intro w'
            go_simp
            with_reducible rfl
          rotate_left
          · simp only [Act.put, List.setIfInBounds_toArray, List.set_cons_zero, List.set_cons_succ, i64_w, i32_w]
            rfl
          clear h1 h2
          refine pure_ (i := 15) (N := some 35) (v := undef) (a' := ?_) #[true, true, true, true, true, true, true, true, true, true, true, true, true, true, true, true, false, false, false, false, false, false, false, false, false, false, false] rfl rfl (by kernel_rfl) (fun _ _ _ h => h) (Or.inr ⟨by rfl, rfl⟩) ?_ ?_
          rotate_left
          · simp only [Act.put, List.setIfInBounds_toArray, List.set_cons_zero, List.set_cons_succ, i64_w, i32_w]
            rfl
          refine pure_ (i := 16) (N := some 36) (v := undef) (a' := ?_) #[true, true, true, true, true, true, true, true, true, true, true, true, true, true, true, true, true, false, false, false, false, false, false, false, false, false, false] rfl rfl (by kernel_rfl) (fun _ _ _ h => h) (Or.inr ⟨by rfl, rfl⟩) ?_ ?_
          rotate_left
          · simp only [Act.put, List.setIfInBounds_toArray, List.set_cons_zero, List.set_cons_succ, i64_w, i32_w]
            rfl
          refine pure_ (i := 17) (N := some 37) (v := undef) (a' := ?_) #[true, true, true, true, true, true, true, true, true, true, true, true, true, true, true, true, true, true, false, false, false, false, false, false, false, false, false] rfl rfl (by kernel_rfl) (fun _ _ _ h => h) (Or.inr ⟨by rfl, rfl⟩) ?_ ?_
          rotate_left
          · simp only [Act.put, List.setIfInBounds_toArray, List.set_cons_zero, List.set_cons_succ, i64_w, i32_w]
            rfl
          refine pure_ (i := 18) (N := some 38) (v := undef) (a' := ?_) #[true, true, true, true, true, true, true, true, true, true, true, true, true, true, true, true, true, true, true, false, false, false, false, false, false, false, false] rfl rfl (by kernel_rfl) (fun _ _ _ h => h) (Or.inr ⟨by rfl, rfl⟩) ?_ ?_
          rotate_left
          · simp only [Act.put, List.setIfInBounds_toArray, List.set_cons_zero, List.set_cons_succ, i64_w, i32_w]
            rfl
          refine pure_ (i := 19) (N := some 39) (v := undef) (a' := ?_) #[true, true, true, true, true, true, true, true, true, true, true, true, true, true, true, true, true, true, true, true, false, false, false, false, false, false, false] rfl rfl (by kernel_rfl) (fun _ _ _ h => h) (Or.inr ⟨by rfl, rfl⟩) ?_ ?_
          rotate_left
          · simp only [Act.put, List.setIfInBounds_toArray, List.set_cons_zero, List.set_cons_succ, i64_w, i32_w]
            rfl
          refine pure_ (i := 20) (N := some 40) (v := undef) (a' := ?_) #[true, true, true, true, true, true, true, true, true, true, true, true, true, true, true, true, true, true, true, true, true, false, false, false, false, false, false] rfl rfl (by kernel_rfl) (fun _ _ _ h => h) (Or.inr ⟨by rfl, rfl⟩) ?_ ?_
          rotate_left
          · simp only [Act.put, List.setIfInBounds_toArray, List.set_cons_zero, List.set_cons_succ, i64_w, i32_w]
            rfl
          refine pure_ (i := 21) (N := some 41) (v := undef) (a' := ?_) #[true, true, true, true, true, true, true, true, true, true, true, true, true, true, true, true, true, true, true, true, true, true, false, false, false, false, false] rfl rfl (by kernel_rfl) (fun _ _ _ h => h) (Or.inr ⟨by rfl, rfl⟩) ?_ ?_
          rotate_left
          · simp only [Act.put, List.setIfInBounds_toArray, List.set_cons_zero, List.set_cons_succ, i64_w, i32_w]
            rfl
          refine pure_ (i := 22) (N := some 42) (v := undef) (a' := ?_) #[true, true, true, true, true, true, true, true, true, true, true, true, true, true, true, true, true, true, true, true, true, true, true, false, false, false, false] rfl rfl (by kernel_rfl) (fun _ _ _ h => h) (Or.inr ⟨by rfl, rfl⟩) ?_ ?_
          rotate_left
          · simp only [Act.put, List.setIfInBounds_toArray, List.set_cons_zero, List.set_cons_succ, i64_w, i32_w]
            rfl
          refine pure_ (i := 23) (N := some 43) (v := undef) (a' := ?_) #[true, true, true, true, true, true, true, true, true, true, true, true, true, true, true, true, true, true, true, true, true, true, true, true, false, false, false] rfl rfl (by kernel_rfl) (fun _ _ _ h => h) (Or.inr ⟨by rfl, rfl⟩) ?_ ?_
          rotate_left
          · simp only [Act.put, List.setIfInBounds_toArray, List.set_cons_zero, List.set_cons_succ, i64_w, i32_w]
            rfl
          refine pure_ (i := 24) (N := some 44) (v := undef) (a' := ?_) #[true, true, true, true, true, true, true, true, true, true, true, true, true, true, true, true, true, true, true, true, true, true, true, true, true, false, false] rfl rfl (by kernel_rfl) (fun _ _ _ h => h) (Or.inr ⟨by rfl, rfl⟩) ?_ ?_
          rotate_left
          · simp only [Act.put, List.setIfInBounds_toArray, List.set_cons_zero, List.set_cons_succ, i64_w, i32_w]
            rfl
          refine pure_ (i := 25) (N := some 45) (v := ?_) (a' := ?_) #[true, true, true, true, true, true, true, true, true, true, true, true, true, true, true, true, true, true, true, true, true, true, true, true, true, true, false] rfl rfl (by kernel_rfl) (fun _ _ _ h => h) (Or.inl ⟨by rfl, ?_⟩) ?_ ?_
          rotate_left
          · intro w'
            go_simp
            with_reducible rfl
          rotate_left
          · simp only [Act.put, List.setIfInBounds_toArray, List.set_cons_zero, List.set_cons_succ, i64_w, i32_w]
            rfl
          refine pure_ (i := 26) (N := some 46) (v := ?_) (a' := ?_) #[true, true, true, true, true, true, true, true, true, true, true, true, true, true, true, true, true, true, true, true, true, true, true, true, true, true, true] rfl rfl (by kernel_rfl) (fun _ _ _ h => h) (Or.inl ⟨by rfl, ?_⟩) ?_ ?_
          rotate_left
          · intro w'
            go_simp
            with_reducible rfl
          rotate_left
          · simp only [Act.put, List.setIfInBounds_toArray, List.set_cons_zero, List.set_cons_succ, i64_w, i32_w]
            rfl
          refine done_ (by kernel_rfl) ?_
          have S3 : Aside0 (PSt w ad xs.length c w1.heap.size i bv w3) := ⟨HST.out.step hbw⟩
          have KF : Aside0 (KeepsFrom w2.heap.size W w3) := ⟨(KeepsOthers.of_grownBy (grown_of_below hbw) (fun j o e _ => by cases e)).from _⟩
          have KQ : Aside0 (Kq w w1.heap.size W w3) := ⟨hbw.mono HST.out.bel.size, fun k' o hk _ _ => (hbw.block k' (at_lt hk)).trans hk⟩
          have c2 := S3.out.cells.2.2.1
          have f2 := S3.out.cells.2.2.2
          clear hbw
          gi_wp2_with fail
          refine (⟨KF.out.trans ((KeepsOthers.setCell _ _ _).from _), ⟨KQ.out.1.setCell (p := ⟨w1.heap.size, 0, none⟩) (by have := hszA.out; show w.heap.size ≤ w1.heap.size; omega) _, fun k' o hk ho hn => (Below.heap_setCell _ _ _ _ hn).trans (KQ.out.2 k' o hk ho hn)⟩, ?_⟩ : KeepsFrom _ _ _ ∧ Kq _ _ _ _ ∧ PI _ _ _ _ _ _ _ _)
          unfold PI
          rw [HFO.out, HCD.out]
          exact ⟨HRNG.out, S3.out.set k⟩
        · have h1 : (bv == i) = false := beq_eq_false_iff_ne.mpr hbi
          have h2 : decide (bv = i) = false := decide_eq_false hbi
          refine pure_ (i := 13) (N := some 33) (v := ?_) (a' := ?_) #[true, true, true, true, true, true, true, true, true, true, true, true, true, true, false, false, false, false, false, false, false, false, false, false, false, false, false] rfl rfl (by kernel_rfl) (fun _ _ _ h => h) (Or.inl ⟨by rfl, ?_⟩) ?_ ?_
          rotate_left
          · intro w'
            go_simp
            with_reducible rfl
          rotate_left
          · simp only [Act.put, List.setIfInBounds_toArray, List.set_cons_zero, List.set_cons_succ, i64_w, i32_w]
            rfl
          refine pure_ (i := 14) (N := some 34) (v := ?_) (a' := ?_) #[true, true, true, true, true, true, true, true, true, true, true, true, true, true, true, false, false, false, false, false, false, false, false, false, false, false, false] rfl rfl (by kernel_rfl) (fun _ _ _ h => h) (Or.inl ⟨by rfl, ?_⟩) ?_ ?_
          rotate_left
          · intro w'
            go_simp
            with_reducible rfl
          rotate_left
          · simp only [Act.put, List.setIfInBounds_toArray, List.set_cons_zero, List.set_cons_succ, i64_w, i32_w]
            rfl
          clear h1 h2
          refine pure_ (i := 16) (N := some 36) (v := ?_) (a' := ?_) #[true, true, true, true, true, true, true, true, true, true, true, true, true, true, true, false, true, false, false, false, false, false, false, false, false, false, false] rfl rfl (by kernel_rfl) (fun _ _ _ h => h) (Or.inl ⟨by rfl, ?_⟩) ?_ ?_
          rotate_left
          · intro w'
            go_simp
            with_reducible rfl
          rotate_left
          · simp only [Act.put, List.setIfInBounds_toArray, List.set_cons_zero, List.set_cons_succ, i64_w, i32_w]
            rfl
          refine take_ (i := 15) (N := some 35) (v := ?_) (a' := ?_) #[true, true, true, true, true, true, true, true, true, true, true, true, true, true, true, true, true, false, false, false, false, false, false, false, false, false, false] rfl rfl (by kernel_rfl) (fun _ _ _ h => h) (Or.inl ⟨by rfl, ?_⟩) hHeld ?_ ?_
          rotate_left
          · rintro w' ⟨s0, s1, s2, s3, s4, s5, s6, s7, s8⟩
            go_simp
            with_reducible rfl
          rotate_left
          · simp only [Act.put, List.setIfInBounds_toArray, List.set_cons_zero, List.set_cons_succ, i64_w, i32_w]
            rfl
          refine take_ (i := 19) (N := some 39) (v := ?_) (a' := ?_) #[true, true, true, true, true, true, true, true, true, true, true, true, true, true, true, true, true, false, false, true, false, false, false, false, false, false, false] rfl rfl (by kernel_rfl) (fun _ _ _ h => h) (Or.inl ⟨by rfl, ?_⟩) hHeld ?_ ?_
          rotate_left
          · rintro w' ⟨s0, s1, s2, s3, s4, s5, s6, s7, s8⟩
            go_simp
            with_reducible rfl
          rotate_left
          · simp only [Act.put, List.setIfInBounds_toArray, List.set_cons_zero, List.set_cons_succ, i64_w, i32_w]
            rfl
          refine take_ (i := 20) (N := some 40) (v := ?_) (a' := ?_) #[true, true, true, true, true, true, true, true, true, true, true, true, true, true, true, true, true, false, false, true, true, false, false, false, false, false, false] rfl rfl (by kernel_rfl) (fun _ _ _ h => h) (Or.inl ⟨by rfl, ?_⟩) hHeld ?_ ?_
          rotate_left
          · rintro w' ⟨s0, s1, s2, s3, s4, s5, s6, s7, s8⟩
            go_simp
            with_reducible rfl
          rotate_left
          · simp only [Act.put, List.setIfInBounds_toArray, List.set_cons_zero, List.set_cons_succ, i64_w, i32_w]
            rfl
          refine take_ (i := 17) (N := some 37) (v := ?_) (a' := ?_) #[true, true, true, true, true, true, true, true, true, true, true, true, true, true, true, true, true, true, false, true, true, false, false, false, false, false, false] rfl rfl (by kernel_rfl) (fun _ _ _ h => h) (Or.inl ⟨by rfl, ?_⟩) hHeld ?_ ?_
          rotate_left
          · rintro w' ⟨s0, s1, s2, s3, s4, s5, s6, s7, s8⟩
            go_simp
            with_reducible rfl
          rotate_left
          · simp only [Act.put, List.setIfInBounds_toArray, List.set_cons_zero, List.set_cons_succ, i64_w, i32_w]
            rfl
          refine take_ (i := 18) (N := some 38) (v := ?_) (a' := ?_) #[true, true, true, true, true, true, true, true, true, true, true, true, true, true, true, true, true, true, true, true, true, false, false, false, false, false, false] rfl rfl (by kernel_rfl) (fun _ _ _ h => h) (Or.inl ⟨by rfl, ?_⟩) hHeld ?_ ?_
          rotate_left
          · rintro w' ⟨s0, s1, s2, s3, s4, s5, s6, s7, s8⟩
            go_simp
            with_reducible rfl
          rotate_left
          · simp only [Act.put, List.setIfInBounds_toArray, List.set_cons_zero, List.set_cons_succ, i64_w, i32_w]
            rfl
          refine take_ (i := 21) (N := some 41) (v := ?_) (a' := ?_) #[true, true, true, true, true, true, true, true, true, true, true, true, true, true, true, true, true, true, true, true, true, true, false, false, false, false, false] rfl rfl (by kernel_rfl) (fun _ _ _ h => h) (Or.inl ⟨by rfl, ?_⟩) hHeld ?_ ?_
          rotate_left
          · rintro w' ⟨s0, s1, s2, s3, s4, s5, s6, s7, s8⟩
            go_simp
            with_reducible rfl
          rotate_left
          · simp only [Act.put, List.setIfInBounds_toArray, List.set_cons_zero, List.set_cons_succ, i64_w, i32_w]
            rfl
          refine take_ (i := 22) (N := some 42) (v := ?_) (a' := ?_) #[true, true, true, true, true, true, true, true, true, true, true, true, true, true, true, true, true, true, true, true, true, true, true, false, false, false, false] rfl rfl (by kernel_rfl) (fun _ _ _ h => h) (Or.inl ⟨by rfl, ?_⟩) hHeld ?_ ?_
          rotate_left
          · rintro w' ⟨s0, s1, s2, s3, s4, s5, s6, s7, s8⟩
            go_simp
            with_reducible rfl
          rotate_left
          · simp only [Act.put, List.setIfInBounds_toArray, List.set_cons_zero, List.set_cons_succ, i64_w, i32_w]
            rfl
          clear hHeld
          refine last_ (i := 23) (N := some 43) #[true, true, true, true, true, true, true, true, true, true, true, true, true, true, true, true, true, true, true, true, true, true, true, true, false, false, false] rfl rfl (by kernel_rfl) (by decide) (fun K hK => ?_)
          refine goes_ Try.func20 (by kernel_rfl) rfl #[.agg #[.int .i64 Y.f0, .int .i64 Y.f1], .agg #[.int .i64 Z.f0, .int .i64 Z.f1]] (by rfl) rfl rfl (by (try simp only [List.map_toArray, List.map_cons, List.map_nil]); first | done | rfl) ?_
          with_reducible refine (turn_Cmp.calls 20 _ _ _ _ _ _ HR2.out).mono ?_
          rintro e w4 ⟨rfl, hb⟩
          have hbw2 : RowKit.Below W.heap.size W w4 := hbw.trans (hb.mono hbw.size)
          clear hb
          refine ⟨_, rfl, ?_⟩
          refine hK.out _ _ ?_
          clear hK K
          refine norm_ (a' := ?_) ?_ ?_
          rotate_left
          · show Act.put _ (some 43) _ = _
            simp only [Act.put, List.setIfInBounds_toArray, List.set_cons_zero, List.set_cons_succ, i64_w, i32_w]
            rfl
          by_cases hz2 : r2 = 0
          · have h3 : (r2 != 0) = false := bne_eq_false_iff_eq.mpr hz2
            have HCD : Aside0 (pstep xs i bv k = bv) := ⟨by rw [HPS.out, if_neg (by simp [hz2, hbi])]⟩
            clear hz2 hbi hz
            refine pure_ (i := 24) (N := some 44) (v := ?_) (a' := ?_) #[true, true, true, true, true, true, true, true, true, true, true, true, true, true, true, true, true, true, true, true, true, true, true, true, true, false, false] rfl rfl (by kernel_rfl) (fun _ _ _ h => h) (Or.inl ⟨by rfl, ?_⟩) ?_ ?_
            rotate_left
            · intro w'
              go_simp
              with_reducible rfl
            rotate_left
            · simp only [Act.put, List.setIfInBounds_toArray, List.set_cons_zero, List.set_cons_succ, i64_w, i32_w]
              rfl
            refine pure_ (i := 25) (N := some 45) (v := ?_) (a' := ?_) #[true, true, true, true, true, true, true, true, true, true, true, true, true, true, true, true, true, true, true, true, true, true, true, true, true, true, false] rfl rfl (by kernel_rfl) (fun _ _ _ h => h) (Or.inl ⟨by rfl, ?_⟩) ?_ ?_
            rotate_left
            · intro w'
              go_simp
              with_reducible rfl
            rotate_left
            · simp only [Act.put, List.setIfInBounds_toArray, List.set_cons_zero, List.set_cons_succ, i64_w, i32_w]
              rfl
            refine pure_ (i := 26) (N := some 46) (v := ?_) (a' := ?_) #[true, true, true, true, true, true, true, true, true, true, true, true, true, true, true, true, true, true, true, true, true, true, true, true, true, true, true] rfl rfl (by kernel_rfl) (fun _ _ _ h => h) (Or.inl ⟨by rfl, ?_⟩) ?_ ?_
            rotate_left
            · intro w'
              go_simp
              with_reducible rfl
            rotate_left
            · simp only [Act.put, List.setIfInBounds_toArray, List.set_cons_zero, List.set_cons_succ, i64_w, i32_w]
              rfl
            refine done_ (by kernel_rfl) ?_
            have S3 : Aside0 (PSt w ad xs.length c w1.heap.size i bv w4) := ⟨HST.out.step hbw2⟩
            have KF : Aside0 (KeepsFrom w2.heap.size W w4) := ⟨(KeepsOthers.of_grownBy (grown_of_below hbw2) (fun j o e _ => by cases e)).from _⟩
            have KQ : Aside0 (Kq w w1.heap.size W w4) := ⟨hbw2.mono HST.out.bel.size, fun k' o hk _ _ => (hbw2.block k' (at_lt hk)).trans hk⟩
            clear hbw hbw2
            gi_wp2_with fail
            refine (⟨KF.out, KQ.out, ?_⟩ : KeepsFrom _ _ _ ∧ Kq _ _ _ _ ∧ PI _ _ _ _ _ _ _ _)
            unfold PI
            rw [HFO.out, HCD.out]
            exact ⟨HZ.out, S3.out⟩
          · have h3 : (r2 != 0) = true := bne_iff_ne.mpr hz2
            have HCD : Aside0 (pstep xs i bv k = k) := ⟨by rw [HPS.out, if_pos ⟨hz, .inr hz2⟩]⟩
            clear hz2 hbi hz
            refine pure_ (i := 24) (N := some 44) (v := ?_) (a' := ?_) #[true, true, true, true, true, true, true, true, true, true, true, true, true, true, true, true, true, true, true, true, true, true, true, true, true, false, false] rfl rfl (by kernel_rfl) (fun _ _ _ h => h) (Or.inl ⟨by rfl, ?_⟩) ?_ ?_
            rotate_left
            · intro w'
              go_simp
              with_reducible rfl
            rotate_left
            · simp only [Act.put, List.setIfInBounds_toArray, List.set_cons_zero, List.set_cons_succ, i64_w, i32_w]
              rfl
            refine pure_ (i := 25) (N := some 45) (v := ?_) (a' := ?_) #[true, true, true, true, true, true, true, true, true, true, true, true, true, true, true, true, true, true, true, true, true, true, true, true, true, true, false] rfl rfl (by kernel_rfl) (fun _ _ _ h => h) (Or.inl ⟨by rfl, ?_⟩) ?_ ?_
            rotate_left
            · intro w'
              go_simp
              with_reducible rfl
            rotate_left
            · simp only [Act.put, List.setIfInBounds_toArray, List.set_cons_zero, List.set_cons_succ, i64_w, i32_w]
              rfl
            refine pure_ (i := 26) (N := some 46) (v := ?_) (a' := ?_) #[true, true, true, true, true, true, true, true, true, true, true, true, true, true, true, true, true, true, true, true, true, true, true, true, true, true, true] rfl rfl (by kernel_rfl) (fun _ _ _ h => h) (Or.inl ⟨by rfl, ?_⟩) ?_ ?_
            rotate_left
            · intro w'
              go_simp
              with_reducible rfl
            rotate_left
            · simp only [Act.put, List.setIfInBounds_toArray, List.set_cons_zero, List.set_cons_succ, i64_w, i32_w]
              rfl
            refine done_ (by kernel_rfl) ?_
            have S3 : Aside0 (PSt w ad xs.length c w1.heap.size i bv w4) := ⟨HST.out.step hbw2⟩
            have KF : Aside0 (KeepsFrom w2.heap.size W w4) := ⟨(KeepsOthers.of_grownBy (grown_of_below hbw2) (fun j o e _ => by cases e)).from _⟩
            have KQ : Aside0 (Kq w w1.heap.size W w4) := ⟨hbw2.mono HST.out.bel.size, fun k' o hk _ _ => (hbw2.block k' (at_lt hk)).trans hk⟩
            have c2 := S3.out.cells.2.2.1
            have f2 := S3.out.cells.2.2.2
            clear hbw hbw2
            gi_wp2_with fail
            refine (⟨KF.out.trans ((KeepsOthers.setCell _ _ _).from _), ⟨KQ.out.1.setCell (p := ⟨w1.heap.size, 0, none⟩) (by have := hszA.out; show w.heap.size ≤ w1.heap.size; omega) _, fun k' o hk ho hn => (Below.heap_setCell _ _ _ _ hn).trans (KQ.out.2 k' o hk ho hn)⟩, ?_⟩ : KeepsFrom _ _ _ ∧ Kq _ _ _ _ ∧ PI _ _ _ _ _ _ _ _)
            unfold PI
            rw [HFO.out, HCD.out]
            exact ⟨HRNG.out, S3.out.set k⟩
    case done =>
      rintro D l W hD hS ⟨hz, hst⟩ hK
      subst hS
      obtain ⟨bv, hbv⟩ : ∃ bv, bv = (roundl xs X).foldl (pstep xs i) i := ⟨_, rfl⟩
      rw [← hbv] at hz hst
      have HST := Aside0.mk hst
      obtain ⟨c0, c1, c2, f2⟩ := hst.cells
      have HKD := Aside0.mk hK
      have HBV := Aside0.mk hbv
      clear hz hst hK hbv
      refine (by assumption : ∀ (a : Act) (w : World), _ → _) _ _ ?_
      gi_wp2_with fail
      refine ⟨by simp, .inl ⟨_, _, rfl, run_takeDeferred HKD.out, ?_⟩⟩
      have S8 := HST.out.moved (B := D) (by have := HST.out.bel.size; have := hszA.out; omega) (grownBy_putObj' W D (.deferred none)) (fun r e => by cases e; exact .inr ⟨Nat.le_refl _, _, HKD.out, rfl⟩)
      refine ⟨.int .i64 bv, ?_, ?_, S8.bel⟩
      · simp [results, Try.results13, go_sem]
      · rw [HBV.out]
        have e : pstep xs i = fun best k => if cmpv (rd_T36 xs k) (rd_T36 xs i) ≠ 0 ∧ (best = i ∨ cmpv (rd_T36 xs k) (rd_T36 xs best) ≠ 0) then k else best := by funext best k; rfl
        simp only [prevp, HAT.out, if_true, e, ← HX.out]
    case stop =>
      rintro D cd pre W hD hsp h hK
      exact h.elim
end Go.Proofs.Ytojdmloimmcacaa.TS
