/- Proved: what turn.Next hands out for fewer than sixty-four directions, by its walk; no other condition. -/
import Derived.Test.YtojdmloimmcacaaV23
import Derived.Test.YtojdmloimmcacaaRG
import Derived.Test.YtojdmloimmcacaaTP
namespace Go.Proofs.Ytojdmloimmcacaa.TS
open Go.RowKit Go.Sort Go.Proofs.YtojdmloimmcacaaW.PrintWords Go.Proofs.YtojdmloimmcacaaW.PrintLast Go.Proofs.YtojdmloimmcacaaW.PrintMore
open PTurnSorts
set_option linter.unusedVariables false
set_option linter.unusedSimpArgs false
theorem at_e (xs : List S36) (i : Int) : turn_at.f xs i = some (atp xs i) := by
  unfold turn_at.f atp
  by_cases h0 : 0 ≤ i
  · by_cases h1 : i < (xs.length : Int)
    · simp [h0, h1, okd_e]
    · simp [h0, h1]
  · simp [h0]
/-- What stands in a round over round's places: the three boxes and the heap's old part. -/
structure NSt (w : World) (ad : Addr) (n c : Nat) (i v : Int) (W : World) : Prop where
  bel : RowKit.Below w.heap.size w W
  b0 : W.heap[w.heap.size]? = some (.cells #[.slice (some ad) n c] 24 (0, 0))
  b1 : W.heap[w.heap.size + 1]? = some (.cells #[.int .i64 i] 3 (0, 0))
  b2 : W.heap[w.heap.size + 1 + 1]? = some (.cells #[.int .i64 v] 3 (0, 0))
theorem NSt.moved {w : World} {ad : Addr} {n c : Nat} {i v : Int} {W W' : World} {B : Nat} {row : Option Nat} (h : NSt w ad n c i v W) (hB : w.heap.size ≤ B) (hg : W.grownBy W' row) (hr : ∀ r, row = some r → Moved (fun _ => False) B W r) : NSt w ad n c i v W' := by
  have one : ∀ (k : Nat) (o : Obj), W.heap[k]? = some o → o.isCells = true → W'.heap[k]? = some o := fun k o hk ho => by
    refine (hg.block k (at_lt hk) (fun e => ?_)).trans hk
    rcases hr k e.symm with h1 | ⟨_, o', h2, h3⟩
    · exact h1
    · rw [hk] at h2; cases h2; rw [ho] at h3; cases h3
  refine ⟨h.bel.grown hg h.bel.size (fun k e => ?_), one _ _ h.b0 rfl, one _ _ h.b1 rfl, one _ _ h.b2 rfl⟩
  rcases hr k e with h1 | ⟨h1, _⟩
  · exact h1.elim
  · omega
theorem NSt.step {w : World} {ad : Addr} {n c : Nat} {i v : Int} {W W' : World} (h : NSt w ad n c i v W) (hb : RowKit.Below W.heap.size W W') : NSt w ad n c i v W' :=
  ⟨h.bel.trans (hb.mono h.bel.size), (hb.block _ (at_lt h.b0)).trans h.b0, (hb.block _ (at_lt h.b1)).trans h.b1, (hb.block _ (at_lt h.b2)).trans h.b2⟩
theorem NSt.set {w : World} {ad : Addr} {n c : Nat} {i v : Int} {W : World} (h : NSt w ad n c i v W) (u : Int) : NSt w ad n c i u (W.setCell ⟨w.heap.size + 1 + 1, 0, none⟩ (.int .i64 u)) := by
  refine ⟨h.bel.setCell (p := ⟨w.heap.size + 1 + 1, 0, none⟩) (by show w.heap.size ≤ w.heap.size + 1 + 1; omega) _, (Below.heap_setCell _ _ _ _ (by show ¬ (w.heap.size = w.heap.size + 1 + 1); omega)).trans h.b0, (Below.heap_setCell _ _ _ _ (by show ¬ (w.heap.size + 1 = w.heap.size + 1 + 1); omega)).trans h.b1, ?_⟩
  simp [World.setCell, Array.getElem?_modify, h.b2]
theorem NSt.cells {w : World} {ad : Addr} {n c : Nat} {i v : Int} {W : World} (h : NSt w ad n c i v W) : W.cell? ⟨w.heap.size, 0, none⟩ = some (.slice (some ad) n c) ∧ W.cell? ⟨w.heap.size + 1, 0, none⟩ = some (.int .i64 i) ∧ W.cell? ⟨w.heap.size + 1 + 1, 0, none⟩ = some (.int .i64 v) ∧ W.frozen? ⟨w.heap.size + 1 + 1, 0, none⟩ = false := by
  simp [World.cell?, World.frozen?, h.b0, h.b1, h.b2]
theorem NSt.cell2 {w : World} {ad : Addr} {n c : Nat} {i v : Int} {W : World} (h : NSt w ad n c i v W) : W.cell? ⟨w.heap.size + 1 + 1, 0, none⟩ = some (.int .i64 v) := h.cells.2.2.1
def NI (w : World) (ad : Addr) (c : Nat) (xs : List S36) (i : Int) (pre : List Int) (W : World) : Prop := (∀ x ∈ pre, cmpv (rd_T36 xs x) (rd_T36 xs i) = 0) ∧ NSt w ad xs.length c i 0 W
def NX (w : World) (ad : Addr) (c : Nat) (xs : List S36) (i : Int) (cd : Code) (pre : List Int) (W : World) : Prop := cd = .ret ∧ ∃ q k, pre = q ++ [k] ∧ (∀ x ∈ q, cmpv (rd_T36 xs x) (rd_T36 xs i) = 0) ∧ cmpv (rd_T36 xs k) (rd_T36 xs i) ≠ 0 ∧ NSt w ad xs.length c i k W
theorem NI_stays (w : World) (ad : Addr) (c : Nat) (xs : List S36) (i : Int) (B : Nat) (hB : w.heap.size ≤ B) : Stays (fun _ => False) B (NI w ad c xs i) := fun _ _ _ _ h hg hr => ⟨h.1, h.2.moved hB hg hr⟩
theorem NX_stays (w : World) (ad : Addr) (c : Nat) (xs : List S36) (i : Int) (B : Nat) (hB : w.heap.size ≤ B) (cd : Code) : Stays (fun _ => False) B (NX w ad c xs i cd) := by
  rintro pre W W' row ⟨h1, q, k, h2, h3, h4, h5⟩ hg hr
  exact ⟨h1, q, k, h2, h3, h4, h5.moved hB hg hr⟩
theorem sorted_rng (xs : List S36) : ∀ i, i < xs.length → 0 ≤ (sorted xs)[i]! ∧ (sorted xs)[i]! < (xs.length : Int) := (TP.sorts_keep (ltc (cfl xs)) xs.length).2
theorem mem_round (xs : List S36) (fr : S36) (pre : List Int) (k : Int) (hrng : ∀ i, i < xs.length → 0 ≤ (sorted xs)[i]! ∧ (sorted xs)[i]! < (xs.length : Int)) (h : pre ++ [k] <+: roundl xs fr) : 0 ≤ k ∧ k < (xs.length : Int) := by
  have hk : k ∈ roundl xs fr := h.subset (by simp)
  unfold roundl at hk
  have hk2 := (List.mem_filter.1 hk).1
  obtain ⟨t, ht, rfl⟩ := List.mem_map.1 hk2
  have htn := List.mem_range.1 ht
  exact hrng _ (Nat.mod_lt _ (by omega))
theorem fold_one (T : Array Value) (k : Nat) (v : Value) : Array.foldl (fun (t : Array Value) (x : Nat × Value) => t.setIfInBounds x.1 x.2) T (#[k].zip #[v]) = T.setIfInBounds k v := by simp
attribute [local go_sem] Oper.semAt_some
set_option maxHeartbeats 4000000 in
set_option maxRecDepth 100000 in
theorem Next_walk (A : Option Addr) (c : Nat) (xs : List S36) (i : Int) (w : World) (hC : Kd.C k36 w A xs.length xs) (hcap : xs.length ≤ c) (h20 : xs.length < 64) :
    Calls Try.prog 11 #[.slice A xs.length c, .int .i64 i] w fun e w' => e = .returned (.int .i64 (nextp xs i)) ∧ RowKit.Below w.heap.size w w' := by
  have hu36 := Try.underlying36
  have HC := Aside0.mk hC
  have HK := Aside0.mk (And.intro hcap h20)
  clear hC hcap h20
  refine (callsIn_wide (n := 6)).1 ?_
  refine callsIn_of_wp_marks Try.func11 rfl trivial ?_ rfl
  simp only [Try.ntmps11, List.size_toArray, List.length_cons, List.length_nil, Nat.reduceAdd, Nat.reduceSub, Array.replicate_succ, Array.replicate_zero, List.push_toArray, List.append_toArray, List.nil_append, List.cons_append]
  gi_wp2_with fail
  obtain ⟨V, hV⟩ : ∃ V, V = ((w.alloc (.cells #[.slice A xs.length c] 24)).alloc (.cells #[.int .i64 i] 3)).alloc (.cells #[.int .i64 0] 3) := ⟨_, rfl⟩
  have hVb : RowKit.Below w.heap.size w V := by rw [hV]; exact ((((Below.refl _ w).alloc (Nat.le_refl _) _).alloc (by simp) _).alloc (by simp; omega) _)
  have v0 : V.heap[w.heap.size]? = some (.cells #[.slice A xs.length c] 24 (0, 0)) := by
    rw [hV]; exact (Below.heap_alloc _ _ _ (by simp only [World.size_alloc]; omega)).trans ((Below.heap_alloc _ _ _ (by simp)).trans (World.alloc_heap_new w _))
  have v1 : V.heap[w.heap.size + 1]? = some (.cells #[.int .i64 i] 3 (0, 0)) := by
    have := World.alloc_heap_new (w.alloc (.cells #[.slice A xs.length c] 24)) (.cells #[.int .i64 i] 3)
    rw [World.size_alloc] at this
    rw [hV]; exact (Below.heap_alloc _ _ _ (by simp)).trans this
  have v2 : V.heap[w.heap.size + 1 + 1]? = some (.cells #[.int .i64 0] 3 (0, 0)) := by
    have := World.alloc_heap_new ((w.alloc (.cells #[.slice A xs.length c] 24)).alloc (.cells #[.int .i64 i] 3)) (.cells #[.int .i64 0] 3)
    rw [World.size_alloc, World.size_alloc] at this
    rw [hV]; exact this
  have sV : V.heap.size = w.heap.size + 3 := by rw [hV]; simp
  rw [← hV]
  clear hV
  refine ⟨trivial, (callsIn_wide.2 (turn_at.calls A c xs i _ V (Kd.C_below HC.out hVb) HK.out.1 (at_e xs i))).mono ?_⟩
  rintro e w1 ⟨rfl, hb⟩
  have B1 : Aside0 (RowKit.Below w.heap.size w w1) := ⟨hVb.trans (hb.mono hVb.size)⟩
  have b0 := (hb.block _ (at_lt v0)).trans v0
  have b1 := (hb.block _ (at_lt v1)).trans v1
  have b2 := (hb.block _ (at_lt v2)).trans v2
  clear hVb v0 v1 v2 sV hb
  have g0 : w1.cell? ⟨w.heap.size, 0, none⟩ = some (.slice A xs.length c) := by simp [World.cell?, b0]
  have g1 : w1.cell? ⟨w.heap.size + 1, 0, none⟩ = some (.int .i64 i) := by simp [World.cell?, b1]
  have g2 : w1.cell? ⟨w.heap.size + 1 + 1, 0, none⟩ = some (.int .i64 0) := by simp [World.cell?, b2]
  have f2 : w1.frozen? ⟨w.heap.size + 1 + 1, 0, none⟩ = false := by simp [World.frozen?, b2]
  cases hat : atp xs i with
  | false =>
    gi_wp2
    have y2 : (w1.setCell ⟨w.heap.size + 1 + 1, 0, none⟩ (.int .i64 i)).cell? ⟨w.heap.size + 1 + 1, 0, none⟩ = some (.int .i64 i) := World.cell?_setCell_same _ _ _ g2
    refine ⟨.int .i64 i, ?_, ?_, ?_⟩
    · simp [results, Try.results11, go_sem, y2]
    · simp [nextp, hat]
    · exact B1.out.setCell (p := ⟨w.heap.size + 1 + 1, 0, none⟩) (by show w.heap.size ≤ w.heap.size + 1 + 1; omega) _
  | true =>
    have hat2 := hat
    simp only [atp, Bool.and_eq_true, decide_eq_true_eq] at hat2
    obtain ⟨⟨hi0, hi1⟩, hok⟩ := hat2
    obtain ⟨ad, e1, x0, x1⟩ := at_T36 (Kd.C_below HC.out B1.out) i hi0 hi1
    obtain ⟨X, hX⟩ : ∃ X, X = rd_T36 xs i := ⟨_, rfl⟩
    rw [← hX] at x0 x1
    rw [e1] at g0
    have q1 := eq_true hi0
    have q2 := eq_true hi1
    have HX := Aside0.mk hX
    have HE := Aside0.mk e1
    have HAT := Aside0.mk hat
    clear hX hat hok hi0 hi1
    have KEEP : Aside0 (∀ w', RowKit.Below w1.heap.size w1 w' → (w'.cell? ⟨w.heap.size, 0, none⟩ = some (.slice (some ad) xs.length c) ∧ w'.cell? ⟨w.heap.size + 1, 0, none⟩ = some (.int .i64 i) ∧ w'.cell? (ad.add (i.toNat * 2)) = some (.int .i64 X.f0) ∧ w'.cell? ⟨(ad.add (i.toNat * 2)).block, (ad.add (i.toNat * 2)).off + 1, none⟩ = some (.int .i64 X.f1)) ∧ RowKit.Below w1.heap.size w1 w') :=
      ⟨fun w' h => ⟨⟨(h.cell (World.block_lt_of_cell? w1 _ g0)).trans g0, (h.cell (World.block_lt_of_cell? w1 _ g1)).trans g1, (h.cell (World.block_lt_of_cell? w1 _ x0)).trans x0, (h.cell (World.block_lt_of_cell? w1 _ x1)).trans x1⟩, h⟩⟩
    gi_wp2_with fail
    refine wpIn_wide.2 ?_
    go_region_held3 (fun w' => (w'.cell? ⟨w.heap.size, 0, none⟩ = some (.slice (some ad) xs.length c) ∧ w'.cell? ⟨w.heap.size + 1, 0, none⟩ = some (.int .i64 i) ∧ w'.cell? (ad.add (i.toNat * 2)) = some (.int .i64 X.f0) ∧ w'.cell? ⟨(ad.add (i.toNat * 2)).block, (ad.add (i.toNat * 2)).off + 1, none⟩ = some (.int .i64 X.f1)) ∧ RowKit.Below w1.heap.size w1 w')
      (first | exact KEEP.out _ hox | exact KEEP.out _ (Below.refl _ _).drew)
      (first | (go_at_call 23; (with_reducible refine (round_walk _ _ _ X _).mono ?_); rintro e w2 ⟨rfl, hb, hr⟩; have hox := (And.right (by assumption : _ ∧ RowKit.Below w1.heap.size w1 _)).trans (hb.mono (And.right (by assumption : _ ∧ RowKit.Below w1.heap.size w1 _)).size); have HRB := Aside0.mk hr; clear hb hr))
    gi_wp2_with fail
    obtain ⟨hr0, hr1, hr2⟩ := HRB.out
    have hnx : NSt w ad xs.length c i 0 w2 := ⟨B1.out.trans (hox.mono B1.out.size), by rw [← HE.out]; exact (hox.block _ (at_lt b0)).trans b0, (hox.block _ (at_lt b1)).trans b1, (hox.block _ (at_lt b2)).trans b2⟩
    have NX0 := Aside0.mk hnx
    have hszA : Aside0 (w.heap.size + 1 + 1 < w2.heap.size ∧ w.heap.size + 1 + 1 < w1.heap.size ∧ w1.heap.size + 2 = w2.heap.size) := ⟨⟨at_lt hnx.b2, at_lt b2, by rw [hr2]; rfl⟩⟩
    clear hox KEEP b0 b1 b2 g0 g1 g2 f2 hr0 hr1 hr2 hnx x0 x1
    refine range_over rfl (by omega) (gf := 33) (lb := #[.pointer (some ⟨w1.heap.size, 0, none⟩), .pointer (some ⟨w1.heap.size + 1, 0, none⟩)]) rfl trivial (enters_of Try.func33 (by kernel_rfl) rfl)
      (encs := fun k : Int => #[.int .i64 k]) (Kp := Kq w (w.heap.size + 1 + 1)) (S := fun l => l = roundl xs X) (Sp := fun pre => pre <+: roundl xs X) (N := 100) (Tr := fun _ => False)
      (fun W hg => round_iter (6 - 1) (by omega) A xs c w HC.out HK.out.1 HK.out.2 X w1.heap.size (w1.heap.size + 1) (w.heap.size + 1 + 1) (by have := hszA.out; omega) (by have := hszA.out; omega) (by have := hszA.out; omega) (by have := hszA.out; omega) W ?hbel ?hlt ?hb1 ?hb2)
      (fun r h => h.elim) (fun h1 h2 => ⟨h1.1.trans h2.1, fun k o hk ho hn => h2.2 k o (h1.2 k o hk ho hn) ho hn⟩)
      ?hKb ?hps (NI w ad c xs i) (NX w ad c xs i) (NI_stays w ad c xs i _ (by have := hszA.out; omega)) (fun cd => NX_stays w ad c xs i _ (by have := hszA.out; omega) cd) ⟨(fun _ h => by cases h), NX0.out⟩
      (fun k a' W => a' = { tmps := #[Value.slice (some ad) xs.length c, Value.int IntKind.i64 i, Value.pointer (some ⟨w.heap.size, 0, none⟩), Value.pointer (some ⟨w.heap.size + 1, 0, none⟩), Value.pointer (some ⟨w.heap.size + 1 + 1, 0, none⟩), .int .i64 k, Value.slice (some ad) xs.length c, Value.int IntKind.i64 i, Value.bool true, Value.bool false, undef, Value.slice (some ad) xs.length c, Value.slice (some ad) xs.length c, Value.int IntKind.i64 i, Value.pointer (some (ad.add (i.toNat * 2))), Value.agg #[Value.int IntKind.i64 X.f0, Value.int IntKind.i64 X.f1], Value.func (Fn.func 33) #[] #[Value.pointer (some ⟨w1.heap.size, 0, none⟩), Value.pointer (some ⟨w1.heap.size + 1, 0, none⟩)], .int .i64 k, undef, undef, undef, undef, undef, undef, undef, undef, undef, undef, undef, undef], defers := [] })
      (fun x a' W l o o' h _ _ _ => h) ?assign ?body ?done ?stop
    case hps => intro x; rfl
    case hbel => exact NX0.out.bel.trans ((⟨hg.os, hg.tape, hg.output, hg.size, fun k hk => hg.block k hk (by simp)⟩ : RowKit.Below w2.heap.size w2 W).mono NX0.out.bel.size)
    case hlt => have := hg.size; have := hszA.out; omega
    case hb1 => exact (hg.block _ (at_lt HRB.out.1) (by simp)).trans (HE.out ▸ HRB.out.1)
    case hb2 => exact (hg.block _ (at_lt HRB.out.2.1) (by simp)).trans HRB.out.2.1
    case hKb =>
      intro W l o o' hl hlt ho
      refine ⟨(Below.refl _ W).grown (grownBy_putObj' W l o') (by have := NX0.out.bel.size; have := at_lt hlt; omega) (fun k e => by cases e; have := NX0.out.bel.size; omega), fun k o2 hk ho2 _ => ?_⟩
      by_cases e : k = l
      · subst e; rw [hlt] at hk; cases hk; rw [ho] at ho2; cases ho2
      · exact (World.putObj_heap_other e).trans hk
    case assign =>
      intro l pre x W K hi hK
      dsimp only
      rw [fold_one]
      simp only [List.setIfInBounds_toArray, List.set_cons_zero, List.set_cons_succ]
      have HKK := Aside0.mk hK
      have HI := Aside0.mk hi
      clear hK hi
      gi_wp2
      exact HKK.out _ _ (KeepsFrom.refl _ _) ⟨Below.refl _ _, fun _ _ h _ _ => h⟩ HI.out rfl
    case body =>
      rintro l pre k a' W hsp ⟨hz, hst⟩ rfl hlen
      have HRNG := Aside0.mk (mem_round xs X pre k (sorted_rng xs) hsp)
      have HZ := Aside0.mk hz
      have HST := Aside0.mk hst
      clear hz hst hsp hlen
      obtain ⟨Y, hY⟩ : ∃ Y, Y = rd_T36 xs k := ⟨_, rfl⟩
      obtain ⟨ad2, e2, k0, k1⟩ := at_T36 (Kd.C_below HC.out HST.out.bel) k HRNG.out.1 HRNG.out.2
      obtain ⟨ad3, e3, x0, x1⟩ := at_T36 (Kd.C_below HC.out HST.out.bel) i (of_eq_true q1) (of_eq_true q2)
      obtain rfl : ad = ad2 := Option.some.inj (HE.out.symm.trans e2)
      obtain rfl : ad = ad3 := Option.some.inj (HE.out.symm.trans e3)
      rw [← hY] at k0 k1
      rw [← HX.out] at x0 x1
      obtain ⟨g0, g1, _, _⟩ := HST.out.cells
      have p1 := eq_true HRNG.out.1
      have p2 := eq_true HRNG.out.2
      obtain ⟨r, hr⟩ : ∃ r, r = cmpv Y X := ⟨_, rfl⟩
      have HR := Aside0.mk (cmpv_e Y X)
      rw [← hr] at HR
      have HRR := Aside0.mk hr
      have HYY := Aside0.mk hY
      have KEEP : Aside0 (∀ w', RowKit.Below W.heap.size W.drew w' → (w'.cell? ⟨w.heap.size, 0, none⟩ = some (.slice (some ad) xs.length c) ∧ w'.cell? ⟨w.heap.size + 1, 0, none⟩ = some (.int .i64 i) ∧ w'.cell? (ad.add (i.toNat * 2)) = some (.int .i64 X.f0) ∧ w'.cell? ⟨(ad.add (i.toNat * 2)).block, (ad.add (i.toNat * 2)).off + 1, none⟩ = some (.int .i64 X.f1) ∧ w'.cell? (ad.add (k.toNat * 2)) = some (.int .i64 Y.f0) ∧ w'.cell? ⟨(ad.add (k.toNat * 2)).block, (ad.add (k.toNat * 2)).off + 1, none⟩ = some (.int .i64 Y.f1))) :=
        ⟨fun w' h => ⟨(h.cell (World.block_lt_of_cell? W _ g0)).trans g0, (h.cell (World.block_lt_of_cell? W _ g1)).trans g1, (h.cell (World.block_lt_of_cell? W _ x0)).trans x0, (h.cell (World.block_lt_of_cell? W _ x1)).trans x1, (h.cell (World.block_lt_of_cell? W _ k0)).trans k0, (h.cell (World.block_lt_of_cell? W _ k1)).trans k1⟩⟩
      clear hr hY e2 e3 g0 g1 x0 x1 k0 k1
      gi_wp2_with fail
      refine startIn_ (m := 10) (S := fun w' => w'.cell? ⟨w.heap.size, 0, none⟩ = some (.slice (some ad) xs.length c) ∧ w'.cell? ⟨w.heap.size + 1, 0, none⟩ = some (.int .i64 i) ∧ w'.cell? (ad.add (i.toNat * 2)) = some (.int .i64 X.f0) ∧ w'.cell? ⟨(ad.add (i.toNat * 2)).block, (ad.add (i.toNat * 2)).off + 1, none⟩ = some (.int .i64 X.f1) ∧ w'.cell? (ad.add (k.toNat * 2)) = some (.int .i64 Y.f0) ∧ w'.cell? ⟨(ad.add (k.toNat * 2)).block, (ad.add (k.toNat * 2)).off + 1, none⟩ = some (.int .i64 Y.f1)) (ds := [8, 9]) #[false, false, false, false, false, false, false, false, false, false] ?hQ (by kernel_rfl) (by kernel_rfl) rfl rfl (KEEP.out _ (Below.refl _ _)) (fun hHeld => ?_)
      case hQ => rintro ⟨_, _, h⟩; exact h
      refine pure_ (i := 1) (N := some 19) (v := ?_) (a' := ?_) #[false, true, false, false, false, false, false, false, false, false] rfl rfl (by kernel_rfl) (fun _ _ _ h => h) (Or.inl ⟨by rfl, ?_⟩) ?_ ?_
      rotate_left
      · intro w'
        go_simp
        with_reducible rfl
      rotate_left
      · simp only [Act.put, List.setIfInBounds_toArray, List.set_cons_zero, List.set_cons_succ, i64_w, i32_w]
        rfl
      refine take_ (i := 0) (N := some 18) (v := ?_) (a' := ?_) #[true, true, false, false, false, false, false, false, false, false] rfl rfl (by kernel_rfl) (fun _ _ _ h => h) (Or.inl ⟨by rfl, ?_⟩) hHeld ?_ ?_
      rotate_left
      · rintro w' ⟨s0, s1, s2, s3, s4, s5⟩
        go_simp
        with_reducible rfl
      rotate_left
      · simp only [Act.put, List.setIfInBounds_toArray, List.set_cons_zero, List.set_cons_succ, i64_w, i32_w]
        rfl
      refine take_ (i := 4) (N := some 22) (v := ?_) (a' := ?_) #[true, true, false, false, true, false, false, false, false, false] rfl rfl (by kernel_rfl) (fun _ _ _ h => h) (Or.inl ⟨by rfl, ?_⟩) hHeld ?_ ?_
      rotate_left
      · rintro w' ⟨s0, s1, s2, s3, s4, s5⟩
        go_simp
        with_reducible rfl
      rotate_left
      · simp only [Act.put, List.setIfInBounds_toArray, List.set_cons_zero, List.set_cons_succ, i64_w, i32_w]
        rfl
      refine take_ (i := 5) (N := some 23) (v := ?_) (a' := ?_) #[true, true, false, false, true, true, false, false, false, false] rfl rfl (by kernel_rfl) (fun _ _ _ h => h) (Or.inl ⟨by rfl, ?_⟩) hHeld ?_ ?_
      rotate_left
      · rintro w' ⟨s0, s1, s2, s3, s4, s5⟩
        go_simp
        with_reducible rfl
      rotate_left
      · simp only [Act.put, List.setIfInBounds_toArray, List.set_cons_zero, List.set_cons_succ, i64_w, i32_w]
        rfl
      refine take_ (i := 2) (N := some 20) (v := ?_) (a' := ?_) #[true, true, true, false, true, true, false, false, false, false] rfl rfl (by kernel_rfl) (fun _ _ _ h => h) (Or.inl ⟨by rfl, ?_⟩) hHeld ?_ ?_
      rotate_left
      · rintro w' ⟨s0, s1, s2, s3, s4, s5⟩
        go_simp
        with_reducible rfl
      rotate_left
      · simp only [Act.put, List.setIfInBounds_toArray, List.set_cons_zero, List.set_cons_succ, i64_w, i32_w]
        rfl
      refine take_ (i := 3) (N := some 21) (v := ?_) (a' := ?_) #[true, true, true, true, true, true, false, false, false, false] rfl rfl (by kernel_rfl) (fun _ _ _ h => h) (Or.inl ⟨by rfl, ?_⟩) hHeld ?_ ?_
      rotate_left
      · rintro w' ⟨s0, s1, s2, s3, s4, s5⟩
        go_simp
        with_reducible rfl
      rotate_left
      · simp only [Act.put, List.setIfInBounds_toArray, List.set_cons_zero, List.set_cons_succ, i64_w, i32_w]
        rfl
      refine take_ (i := 6) (N := some 24) (v := ?_) (a' := ?_) #[true, true, true, true, true, true, true, false, false, false] rfl rfl (by kernel_rfl) (fun _ _ _ h => h) (Or.inl ⟨by rfl, ?_⟩) hHeld ?_ ?_
      rotate_left
      · rintro w' ⟨s0, s1, s2, s3, s4, s5⟩
        go_simp
        with_reducible rfl
      rotate_left
      · simp only [Act.put, List.setIfInBounds_toArray, List.set_cons_zero, List.set_cons_succ, i64_w, i32_w]
        rfl
      refine take_ (i := 7) (N := some 25) (v := ?_) (a' := ?_) #[true, true, true, true, true, true, true, true, false, false] rfl rfl (by kernel_rfl) (fun _ _ _ h => h) (Or.inl ⟨by rfl, ?_⟩) hHeld ?_ ?_
      rotate_left
      · rintro w' ⟨s0, s1, s2, s3, s4, s5⟩
        go_simp
        with_reducible rfl
      rotate_left
      · simp only [Act.put, List.setIfInBounds_toArray, List.set_cons_zero, List.set_cons_succ, i64_w, i32_w]
        rfl
      clear hHeld
      refine last_ (i := 8) (N := some 26) #[true, true, true, true, true, true, true, true, true, false] rfl rfl (by kernel_rfl) (by decide) (fun K hK => ?_)
      refine goes_ Try.func20 (by kernel_rfl) rfl #[.agg #[.int .i64 Y.f0, .int .i64 Y.f1], .agg #[.int .i64 X.f0, .int .i64 X.f1]] (by rfl) rfl rfl (by (try simp only [List.map_toArray, List.map_cons, List.map_nil]); first | done | rfl) ?_
      with_reducible refine (turn_Cmp.calls 20 _ _ _ _ _ _ HR.out).mono ?_
      rintro e w3 ⟨rfl, hb⟩
      refine ⟨_, rfl, ?_⟩
      refine hK.out _ _ ?_
      clear hK K
      refine norm_ (a' := ?_) ?_ ?_
      rotate_left
      · show Act.put _ (some 26) _ = _
        simp only [Act.put, List.setIfInBounds_toArray, List.set_cons_zero, List.set_cons_succ, i64_w, i32_w]
        rfl
      have hbw : RowKit.Below W.heap.size W w3 := (Below.refl W.heap.size W).drew.trans hb
      have S3 : Aside0 (NSt w ad xs.length c i 0 w3) := ⟨HST.out.step hbw⟩
      have KF : Aside0 (KeepsFrom w2.heap.size W w3) := ⟨(KeepsOthers.of_grownBy (grown_of_below hbw) (fun j o e _ => by cases e)).from _⟩
      have KQ : Aside0 (Kq w (w.heap.size + 1 + 1) W w3) := ⟨hbw.mono HST.out.bel.size, fun k' o hk _ _ => (hbw.block k' (at_lt hk)).trans hk⟩
      clear hbw hb
      by_cases hz : r = 0
      · have h0 : (r != 0) = false := bne_eq_false_iff_eq.mpr hz
        have HZ0 := Aside0.mk hz
        clear hz
        refine pure_ (i := 9) (N := some 27) (v := ?_) (a' := ?_) #[true, true, true, true, true, true, true, true, true, true] rfl rfl (by kernel_rfl) (fun _ _ _ h => h) (Or.inl ⟨by rfl, ?_⟩) ?_ ?_
        rotate_left
        · intro w'
          go_simp
          with_reducible rfl
        rotate_left
        · simp only [Act.put, List.setIfInBounds_toArray, List.set_cons_zero, List.set_cons_succ, i64_w, i32_w]
          rfl
        refine done_ (by kernel_rfl) ?_
        gi_wp2_with fail
        refine (⟨KF.out, KQ.out, fun x hx => ?_, S3.out⟩ : KeepsFrom _ _ _ ∧ Kq _ _ _ _ ∧ NI _ _ _ _ _ _ _)
        rcases List.mem_append.1 hx with hx | hx
        · exact HZ.out x hx
        · rw [List.mem_singleton.1 hx, ← HYY.out, ← HX.out, ← HRR.out]; exact HZ0.out
      · have h0 : (r != 0) = true := bne_iff_ne.mpr hz
        have HZ0 := Aside0.mk hz
        clear hz
        obtain ⟨_, _, c2, f2⟩ := S3.out.cells
        refine pure_ (i := 9) (N := some 27) (v := ?_) (a' := ?_) #[true, true, true, true, true, true, true, true, true, true] rfl rfl (by kernel_rfl) (fun _ _ _ h => h) (Or.inl ⟨by rfl, ?_⟩) ?_ ?_
        rotate_left
        · intro w'
          go_simp
          with_reducible rfl
        rotate_left
        · simp only [Act.put, List.setIfInBounds_toArray, List.set_cons_zero, List.set_cons_succ, i64_w, i32_w]
          rfl
        refine done_ (by kernel_rfl) ?_
        gi_wp2_with fail
        refine (⟨KF.out.trans ((KeepsOthers.setCell w3 _ _).from _), rfl, pre, k, rfl, HZ.out, ?_, S3.out.set k⟩ : KeepsFrom _ _ _ ∧ NX _ _ _ _ _ _ _ _)
        rw [← HYY.out, ← HX.out, ← HRR.out]; exact HZ0.out
    case done =>
      rintro D l W hD hS ⟨hz, hst⟩ hK
      have HZ := Aside0.mk hz
      have HST := Aside0.mk hst
      have HKD := Aside0.mk hK
      obtain ⟨c0, c1, c2, f2⟩ := hst.cells
      clear hz hst hK
      refine (by assumption : ∀ (a : Act) (w : World), _ → _) _ _ ?_
      gi_wp2_with fail
      have S9 : NSt w ad xs.length c i i (W.setCell ⟨w.heap.size + 1 + 1, 0, none⟩ (.int .i64 i)) := HST.out.set i
      obtain ⟨W9, hW9⟩ : ∃ W9, W9 = W.setCell ⟨w.heap.size + 1 + 1, 0, none⟩ (.int .i64 i) := ⟨_, rfl⟩
      have hKD : W9.heap[D]? = some (.deferred (some [])) := by rw [hW9]; exact (Below.heap_setCell _ _ _ _ (by have := hszA.out; show ¬ D = w.heap.size + 1 + 1; omega)).trans HKD.out
      rw [← hW9] at S9 ⊢
      refine ⟨by simp, .inl ⟨_, _, rfl, run_takeDeferred hKD, ?_⟩⟩
      have S8 := S9.moved (B := D) (by have := S9.bel.size; have := hszA.out; omega) (grownBy_putObj' W9 D (.deferred none)) (fun r e => by cases e; exact .inr ⟨Nat.le_refl _, _, hKD, rfl⟩)
      have y0 := S8.cell2
      refine ⟨.int .i64 i, ?_, ?_, S8.bel⟩
      · simp [results, Try.results11, go_sem, y0]
      · have hn : (roundl xs (rd_T36 xs i)).find? (fun k => decide (cmpv (rd_T36 xs k) (rd_T36 xs i) ≠ 0)) = none := by
          rw [List.find?_eq_none]
          intro x hx
          rw [← HX.out, ← hS] at hx
          simp [HZ.out x hx]
        simp only [nextp, HAT.out, if_true, hn, Option.getD_none]
    case stop =>
      rintro D cd pre W hD hsp ⟨rfl, q, k, hpk, hq, hne, hst⟩ hK
      have HST := Aside0.mk hst
      clear hst
      gi_wp2
      refine ⟨by simp, .inl ⟨_, _, rfl, run_takeDeferred hK, ?_⟩⟩
      have S8 := HST.out.moved (B := D) (by have := HST.out.bel.size; have := hszA.out; omega) (grownBy_putObj' W D (.deferred none)) (fun r e => by cases e; exact .inr ⟨Nat.le_refl _, _, hK, rfl⟩)
      have y0 := S8.cell2
      refine ⟨.int .i64 k, ?_, ?_, S8.bel⟩
      · simp [results, Try.results11, go_sem, y0]
      · have hn : (roundl xs (rd_T36 xs i)).find? (fun k => decide (cmpv (rd_T36 xs k) (rd_T36 xs i) ≠ 0)) = some k := by
          obtain ⟨t, ht⟩ := hsp
          rw [List.find?_eq_some_iff_append]
          refine ⟨by simpa using hne, q, t, ?_, fun a ha => by simp [hq a ha]⟩
          rw [← HX.out, ← ht, hpk, List.append_assoc]; rfl
        simp only [nextp, HAT.out, if_true, hn, Option.getD_some]
end Go.Proofs.Ytojdmloimmcacaa.TS
