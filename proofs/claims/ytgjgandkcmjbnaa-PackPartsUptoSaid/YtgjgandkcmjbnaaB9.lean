/- Proved: what Split of the package pack tells, by its walk; no condition. -/
import Derived.Test.YtgjgandkcmjbnaaB8
namespace Go.Proofs.Ytgjgandkcmjbnaa.PB
open Go.RowKit Go.Proofs.YtgjgandkcmjbnaaW.PrintWords Go.Proofs.YtgjgandkcmjbnaaW.PrintLast Go.Proofs.YtgjgandkcmjbnaaW.PrintMore
set_option linter.unusedVariables false
set_option linter.unusedSimpArgs false
theorem info56 : (Try.prog.info? 56).map (fun i => (i.zero, i.size, i.bytes)) = some (some (.slice none 0 0), 1, 24) := by kernel_rfl
set_option maxHeartbeats 1000000 in
theorem parts_make (A : Option Addr) (n c : Nat) (w : World) : Calls Try.prog 29 #[.slice A n c] w fun e w' => e = .returned (.func (.func 30) #[] #[.pointer (some ⟨w.heap.size, 0, none⟩)]) ∧ w' = w.alloc (.cells #[.slice A n c] 22) := by
  go_enter Try.func29, Try.ntmps29
  go_wp2
  go_ret
  exact ⟨rfl, rfl⟩
/-- A row of bytes whose value may be a capped one. -/
def capK : Kd (List Int) where
  sz := 1
  E := [5]
  K := (Kd.slice 5 (Kd.int .u8)).K
  M := fun w base ok xs cs => ∃ v u, cs = [v] ∧ Cap u v ∧ Kd.R (Kd.int .u8) 5 w base ok u xs
  K_len := (Kd.slice 5 (Kd.int .u8)).K_len
  K_one := (Kd.slice 5 (Kd.int .u8)).K_one
  K_below := (Kd.slice 5 (Kd.int .u8)).K_below
  K_of_M := by
    rintro w base ok x cs ⟨v, u, rfl, ⟨A, n, c, c', rfl, rfl, h1, h2⟩, hR⟩
    obtain ⟨A2, c2, he, hl, hr⟩ := Kd.R_reads hR
    injection he with hA hn hc
    subst hA hn hc
    exact ⟨A, c, rfl, h1, hr⟩
  M_mono := by
    rintro w base ok ok' x cs hok ⟨v, u, rfl, hc, h⟩
    exact ⟨v, u, rfl, hc, Kd.R_mono h hok⟩
  M_bound := by
    rintro w base ok x cs ⟨v, u, rfl, hc, h⟩
    exact ⟨v, u, rfl, hc, Kd.R_bound h⟩
  M_move := by
    rintro w w1 base ok x cs hm ⟨v, u, rfl, hc, h⟩
    exact ⟨v, u, rfl, hc, Kd.R_move h hm⟩
  M_lower := by
    rintro w base base' ok x cs hb ⟨v, u, rfl, hc, h⟩
    exact ⟨v, u, rfl, hc, Kd.R_lower h hb⟩
theorem capK_of {w : World} {base : Nat} {ok : Nat → Prop} {v : Value} {xs : List (List Int)} (h : Kd.R (Kd.slice 5 (Kd.int .u8)) 22 w base ok v xs) : Kd.R capK 22 w base ok v xs := by
  obtain ⟨h0, inner, ho, hr⟩ := h
  refine ⟨h0, inner, ho, hr.imp_ (fun p c hp => ?_)⟩
  obtain ⟨v, rfl, hR⟩ := hp
  obtain ⟨A, c, rfl, hl, _⟩ := Kd.R_reads hR
  exact ⟨_, _, rfl, Cap.refl hl, hR⟩
theorem drop_take_one {α : Type} (l : List α) (j : Nat) (h : j < l.length) : (l.drop (j * 1)).take 1 = [l[j]] := by
  rw [Nat.mul_one, List.drop_eq_getElem_cons h]; rfl
/-- An element's value may be cut to its length where it lies. -/
theorem capK_set {W : World} {base g n cap : Nat} {ok : Nat → Prop} {L : List (List Int)} (h : Kd.R capK 22 W base ok (.slice (some ⟨g, 0, none⟩) n cap) L) (i : Nat) {A : Option Addr} {ne ce : Nat} (hi : i < L.length) (hc : W.cell? ⟨g, i, none⟩ = some (.slice A ne ce)) (c2 : Nat) (hle : ne ≤ c2) :
    Kd.R capK 22 (W.setCell ⟨g, i, none⟩ (.slice A ne c2)) base ok (.slice (some ⟨g, 0, none⟩) n cap) L := by
  obtain ⟨c, hcl, hM, hcc⟩ := Kd.R_getA h ([] : List Int) (i : Int) (by omega) (by obtain ⟨A', c', e⟩ := Kd.R_slice h; injection e; omega)
  obtain ⟨h0, inner, ho, hr⟩ := h
  have hn : n = L.length := by obtain ⟨A', c', e⟩ := Kd.R_slice (show Kd.R capK 22 W base ok _ L from ⟨h0, inner, ho, hr⟩); injection e
  subst hn
  have hil : inner.length = L.length := by have := hr.1; simpa [capK] using this
  refine ⟨h0, inner.set i (.slice A ne c2), (ho.stored i _).1, by rw [List.length_set]; exact hr.1, fun j p hj => ?_⟩
  have hjl : j < L.length := (List.getElem?_eq_some_iff.1 hj).1
  have hold := hr.2 j p hj
  have hfar : ∀ {c : List Value} {q : List Int}, capK.M W base (fun k => ok k ∧ some k ≠ (Value.slice (some ⟨g, 0, none⟩) L.length cap).ownBlock) q c → capK.M (W.setCell ⟨g, i, none⟩ (.slice A ne c2)) base (fun k => ok k ∧ some k ≠ (Value.slice (some ⟨g, 0, none⟩) L.length cap).ownBlock) q c := fun hq => Kd.M_far (p := ⟨g, i, none⟩) hq (fun k hk e => hk.2 (by rw [e]; rfl)) _
  show capK.M _ _ _ p (((inner.set i (.slice A ne c2)).drop (j * 1)).take 1)
  have hold' : capK.M W base (fun k => ok k ∧ some k ≠ (Value.slice (some ⟨g, 0, none⟩) L.length cap).ownBlock) p ((inner.drop (j * 1)).take 1) := hold
  rw [drop_take_one _ _ (by omega)] at hold'
  rw [drop_take_one _ _ (by rw [List.length_set]; omega)]
  by_cases e : i = j
  · subst e
    rw [List.getElem_set_self]
    obtain ⟨v, u, hv, hcap, hR⟩ := hfar hold'
    have hcell : W.cell? ⟨g, i, none⟩ = some inner[i] := by
      have := ho.cells (g := g) rfl i inner[i] (List.getElem?_eq_getElem (by omega))
      rwa [addr0] at this
    have hvi : v = .slice A ne ce := by
      have h1 : inner[i] = v := by injection hv
      rw [hc] at hcell
      rw [← h1]; exact (Option.some.inj hcell).symm
    subst hvi
    obtain ⟨A', n', c', c'', rfl, h2, h3, h4⟩ := hcap
    injection h2 with hA hn hc'
    subst hA hn hc'
    exact ⟨_, _, rfl, ⟨_, _, _, _, rfl, rfl, hle, h4⟩, hR⟩
  · rw [List.getElem_set_ne e]
    exact hfar hold'
/-- What a call comes to that hands back parts of its own, capped, beside an error's number. -/
def RetCapL (w : World) (r : List (List Int)) (n : Int) (e : Ending) (w' : World) : Prop := ∃ v u : Value, e = .returned (.tuple #[v, .int .i64 n]) ∧ Cap u v ∧ Kd.R capK 22 w' w.heap.size (fun _ => True) u r ∧ Below w.heap.size w w'
theorem RetCapL.mk {w w' : World} {r : List (List Int)} {n : Int} {u v : Value} (h1 : Cap u v) (h2 : Kd.R capK 22 w' w.heap.size (fun _ => True) u r) (h3 : Below w.heap.size w w') : RetCapL w r n (.returned (.tuple #[v, .int .i64 n])) w' := ⟨v, u, rfl, h1, h2, h3⟩
/-- What stands between two rounds of Split. -/
def SpI (w : World) (pre : List (Pt w)) (W : World) : Prop :=
  (All0 pre ∧ w.heap.size + 4 ≤ W.heap.size) ∧ Boxed W w.heap.size 56 (.slice none 0 0) ∧ Boxed W (w.heap.size + 1) 34 (.int .i64 0) ∧ (∃ v, Boxed W (w.heap.size + 1 + 1) 56 v ∧ Kd.R (Kd.slice 5 (Kd.int .u8)) 22 W w.heap.size (fun k => w.heap.size + 3 < k) v (pre.map Pt.xs)) ∧ Below w.heap.size w W
/-- What stands where a round has left it. -/
def SpX (w : World) (c : Code) (pre : List (Pt w)) (W : World) : Prop :=
  c = .ret ∧ ∃ q x, pre = q ++ [x] ∧ x.e ≠ 0 ∧ Boxed W w.heap.size 56 (.slice none 0 0) ∧ Boxed W (w.heap.size + 1) 34 (.int .i64 x.e) ∧ Below w.heap.size w W
theorem boxed_moved {W W' : World} {row : Option Nat} {Tr : Nat → Prop} {B b : Nat} {t : TypeId} {v : Value} (h : Boxed W b t v) (hg : W.grownBy W' row) (hr : ∀ r, row = some r → Moved Tr B W r) (hn : ¬ Tr b) : Boxed W' b t v := by
  refine h.kept hg (fun e => ?_)
  rcases hr b e.symm with h1 | ⟨_, o, ho, hc⟩
  · exact hn h1
  · rw [show W.heap[b]? = _ from h] at ho; cases ho; cases hc
theorem rows_moved {α : Type} {d : Kd α} {e base : Nat} {ok : Nat → Prop} {v : Value} {xs : List α} {W W' : World} {row : Option Nat} {Tr : Nat → Prop} {B : Nat} (h : Kd.R d e W base ok v xs) (hg : W.grownBy W' row) (hr : ∀ r, row = some r → Moved Tr B W r) (hn : ∀ k, ok k → ¬ Tr k) : Kd.R d e W' base ok v xs := by
  refine Kd.R_mono (Kd.R_grown (Kd.R_bound h) hg (fun k hk e => ?_)) (fun _ hk => hk.1)
  rcases hr k e.symm with h1 | ⟨_, o, ho, hc⟩
  · exact hn k hk.1 h1
  · obtain ⟨_, _, _, q, _, cells, hcells⟩ := hk
    rw [hcells] at ho; cases ho; cases hc
theorem below_moved {w W W' : World} {row : Option Nat} {Tr : Nat → Prop} {B : Nat} (h : Below w.heap.size w W) (hg : W.grownBy W' row) (hr : ∀ r, row = some r → Moved Tr B W r) (hT : ∀ k, Tr k → w.heap.size ≤ k) (hB : w.heap.size ≤ B) : Below w.heap.size w W' :=
  h.grown hg h.size (fun k e => by
    rcases hr k e with h1 | ⟨h1, _⟩
    · exact hT k h1
    · omega)
theorem SpI_stays (w : World) (B : Nat) (hB : w.heap.size ≤ B) : Stays (· = w.heap.size + 1 + 1 + 1) B (SpI w) := by
  rintro pre W W' row ⟨⟨h1, h2⟩, h3, h4, ⟨v, h5, h6⟩, h7⟩ hg hr
  refine ⟨⟨h1, Nat.le_trans h2 hg.size⟩, boxed_moved h3 hg hr (by omega), boxed_moved h4 hg hr (by omega), ⟨v, boxed_moved h5 hg hr (by omega), rows_moved h6 hg hr (fun k hk e => by omega)⟩, below_moved h7 hg hr (fun k e => by omega) hB⟩
theorem SpX_stays (w : World) (B : Nat) (hB : w.heap.size ≤ B) (c : Code) : Stays (· = w.heap.size + 1 + 1 + 1) B (SpX w c) := by
  rintro pre W W' row ⟨h1, q, x, h2, h3, h4, h5, h6⟩ hg hr
  exact ⟨h1, q, x, h2, h3, boxed_moved h4 hg hr (by omega), boxed_moved h5 hg hr (by omega), below_moved h6 hg hr (fun k e => by omega) hB⟩
/-- The frame of a round: the part lies in a block of its own. -/
def SpA (w : World) (A0 : Option Addr) (n0 c0 : Nat) (x : Pt w) (a' : Act) (W : World) : Prop :=
  ∃ Bp, w.heap.size + 3 < Bp ∧ W.heap[Bp]? = some (.cells #[.slice x.A x.xs.length x.c, .int .i64 x.e] 70 (0, 0)) ∧
    a' = { tmps := #[.slice A0 n0 c0, undef, .pointer (some ⟨w.heap.size, 0, none⟩), .pointer (some ⟨w.heap.size + 1, 0, none⟩), .pointer (some ⟨w.heap.size + 1 + 1, 0, none⟩), .pointer (some ⟨Bp, 0, none⟩), undef, undef, .slice A0 n0 c0, .func (.func 30) #[] #[.pointer (some ⟨w.heap.size + 1 + 1 + 1, 0, none⟩)], .agg #[.slice x.A x.xs.length x.c, .int .i64 x.e], undef, undef, undef, undef, undef, undef, undef, undef, undef, undef, undef, undef, undef, undef, undef, undef, undef, undef, undef, undef, undef, undef, undef, undef, undef, undef, undef, undef, undef, undef, undef, undef, undef, undef, undef], defers := [] }
theorem SpA_put {w : World} {A0 : Option Addr} {n0 c0 : Nat} {x : Pt w} {a' : Act} {W : World} {l : Nat} {o o' : Obj} (h : SpA w A0 n0 c0 x a' W) (hl : W.heap[l]? = some o) (ho : o.isCells = false) : SpA w A0 n0 c0 x a' (W.putObj l o') := by
  obtain ⟨Bp, h1, h2, h3⟩ := h
  refine ⟨Bp, h1, (World.putObj_heap_other (fun e => ?_)).trans h2, h3⟩
  subst e
  rw [h2] at hl; cases hl; cases ho
/-- What stands between two rounds of Split's second loop. -/
def SpJ (w : World) (D : Nat) (A : Option Addr) (c : Nat) (L : List (List Int)) (W : World) : Prop :=
  Boxed W w.heap.size 56 (.slice none 0 0) ∧ Boxed W (w.heap.size + 1) 34 (.int .i64 0) ∧ Boxed W (w.heap.size + 1 + 1) 56 (.slice A L.length c) ∧ Kd.R capK 22 W w.heap.size (fun k => w.heap.size + 3 < k) (.slice A L.length c) L ∧ Below w.heap.size w W ∧ W.heap[D]? = some (.deferred (some []))
theorem grown_cell (W : World) (p : Addr) (u : Value) : W.grownBy ((W.setCell p u).drew) (some p.block) :=
  ⟨rfl, rfl, rfl, by show W.heap.size ≤ (W.heap.modify _ _).size; rw [Array.size_modify]; exact Nat.le_refl _, fun k _ hne => Below.heap_setCell _ _ _ _ (fun e => hne (by rw [e]))⟩
theorem fold_one (T : Array Value) (k : Nat) (v : Value) : Array.foldl (fun (t : Array Value) (x : Nat × Value) => t.setIfInBounds x.1 x.2) T (#[k].zip #[v]) = T.setIfInBounds k v := by simp
attribute [local go_sem] Oper.semAt_some
set_option maxHeartbeats 4000000 in
set_option maxRecDepth 100000 in
theorem pack_Split.calls (k : Nat) (A0 : Option Addr) (c0 : Nat) (l0 : List Int) (r1 : List (List Int)) (r2 : Int) (w : World) (hr0 : Kd.C (Kd.int .u8) w A0 l0.length l0) (hc0 : l0.length ≤ c0) (h : pack_Split.f k l0 = some (r1, r2)) :
    Calls Try.prog 27 #[.slice A0 l0.length c0] w (RetCapL w r1 r2) := by
  have HR := Aside0.mk hr0
  have HC := Aside0.mk hc0
  have HF := Aside0.mk h
  clear hr0 hc0 h
  refine (callsIn_wide (n := 6)).1 ?_
  refine callsIn_of_wp_marks Try.func27 rfl trivial ?_ rfl
  simp only [Try.ntmps27, List.size_toArray, List.length_cons, List.length_nil, Nat.reduceAdd, Nat.reduceSub, Array.replicate_succ, Array.replicate_zero, List.push_toArray, List.append_toArray, List.nil_append, List.cons_append]
  gi_wp2_with fail
  refine ⟨trivial, (callsIn_wide.2 (parts_make A0 l0.length c0 _)).mono ?_⟩
  rintro e w1 ⟨rfl, rfl⟩
  gi_wp2_with fail
  obtain ⟨V, hV⟩ : ∃ V, V = (((w.alloc (.cells #[.slice none 0 0] 56)).alloc (.cells #[.int .i64 0] 34)).alloc (.cells #[.slice none 0 0] 56)).alloc (.cells #[.slice A0 l0.length c0] 22) := ⟨_, rfl⟩
  have sV : V.heap.size = w.heap.size + 4 := by rw [hV]; simp
  have HVb : Below w.heap.size w V := by rw [hV]; exact (((((Below.refl _ w).alloc (Nat.le_refl _) _).alloc (by simp) _).alloc (by simp; omega) _).alloc (by simp; omega) _)
  have b0 : Boxed V w.heap.size 56 (.slice none 0 0) := by rw [hV]; exact (((Boxed.new w 56 _).alloc _).alloc _).alloc _
  have b1 : Boxed V (w.heap.size + 1) 34 (.int .i64 0) := by
    rw [hV]; have := ((Boxed.new (w.alloc (.cells #[.slice none 0 0] 56)) 34 (.int .i64 0)).alloc (.cells #[.slice none 0 0] 56)).alloc (.cells #[.slice A0 l0.length c0] 22); rwa [World.size_alloc] at this
  have b2 : Boxed V (w.heap.size + 1 + 1) 56 (.slice none 0 0) := by
    rw [hV]; have := (Boxed.new ((w.alloc (.cells #[.slice none 0 0] 56)).alloc (.cells #[.int .i64 0] 34)) 56 (.slice none 0 0)).alloc (.cells #[.slice A0 l0.length c0] 22); rwa [World.size_alloc, World.size_alloc] at this
  have b3 : Boxed V (w.heap.size + 1 + 1 + 1) 22 (.slice A0 l0.length c0) := by
    rw [hV]; have := Boxed.new (((w.alloc (.cells #[.slice none 0 0] 56)).alloc (.cells #[.int .i64 0] 34)).alloc (.cells #[.slice none 0 0] 56)) 22 (.slice A0 l0.length c0); rwa [World.size_alloc, World.size_alloc, World.size_alloc] at this
  have hI0 : SpI w [] V := ⟨⟨(fun _ h => (by cases h)), by omega⟩, b0, b1, ⟨_, b2, Kd.R_nil _ _ _ _ _⟩, HVb⟩
  try simp only [World.size_alloc]
  rw [← hV]
  have HI0 := Aside0.mk hI0
  have HSV := Aside0.mk sV
  have HB3 := Aside0.mk b3
  clear hI0 b0 b1 b2 b3 hV
  refine range_over rfl (by omega) (gf := 30) (lb := #[.pointer (some ⟨w.heap.size + 1 + 1 + 1, 0, none⟩)]) rfl trivial (enters_of Try.func30 (by kernel_rfl) rfl)
    (Tr := (· = w.heap.size + 1 + 1 + 1))
    (fun W hg => parts_iter (6 - 1) (by omega) k A0 c0 l0 r1 r2 w HR.out HC.out HF.out (w.heap.size + 1 + 1 + 1) (by omega) W (HVb.grown hg HVb.size (fun k e => by cases e)) ((hg.block _ HB3.out.lt (by simp)).trans HB3.out))
    (fun r e => by have := HSV.out; omega) (fun h1 h2 => ⟨h1.1.trans h2.1, h2.2.trans h1.2⟩)
    (fun W l o' hl hlt => ⟨(Below.refl _ W).grown (grownBy_putObj' W l o') (by have := HSV.out; omega) (fun k e => by cases e; have := HSV.out; omega), World.putObj_heap_other (by have := HSV.out; omega)⟩)
    (fun x => rfl) (SpI w) (SpX w) (SpI_stays w _ (by have := HSV.out; omega)) (fun c => SpX_stays w _ (by have := HSV.out; omega) c) HI0.out
    (SpA w A0 l0.length c0) (fun x a' W l o o' h _ hl ho => SpA_put h hl ho) ?assign ?body ?done ?stop
  case assign =>
    intro l pre x W K hi hK
    dsimp only [Pt.enc]
    rw [fold_one]
    simp only [List.setIfInBounds_toArray, List.set_cons_zero, List.set_cons_succ]
    have HK := Aside0.mk hK
    have HI := Aside0.mk hi
    clear hK hi
    gi_wp2
    refine HK.out _ _ ((KeepsOthers.alloc W _).from _) ⟨(Below.refl _ W).alloc HI.out.2.2.2.2.size _, Below.heap_alloc W _ _ (by have := HI.out.1.2; omega)⟩ ((SpI_stays w V.heap.size (by have := HSV.out; omega)).lay _ HI.out) ⟨W.heap.size, by have := HI.out.1.2; omega, World.alloc_heap_new W _, rfl⟩
  case body =>
    rintro l pre x a' W hI ⟨Bp, hBp, hbx, rfl⟩ hlen
    obtain ⟨⟨hall, hsz⟩, q0, q1, ⟨v, q2, hrow⟩, hbel⟩ := hI
    have Hlen := Aside0.mk hlen
    have Hall := Aside0.mk hall
    have Hsz := Aside0.mk hsz
    have HBp := Aside0.mk hBp
    have Hrow := Aside0.mk hrow
    have Hbel := Aside0.mk hbel
    have Q0 := Aside0.mk q0
    have Q1 := Aside0.mk q1
    have Q2 := Aside0.mk q2
    have HX := Aside0.mk hbx
    have hp0 : W.cell? ⟨Bp, 0, none⟩ = some (.slice x.A x.xs.length x.c) := by simp [World.cell?, hbx]
    have hp1 : W.cell? ⟨Bp, 1, none⟩ = some (.int .i64 x.e) := by simp [World.cell?, hbx]
    have hc2 := q2.cell
    clear hlen hall hsz hBp hrow hbel q0 q1 q2 hbx
    by_cases he : x.e = 0
    · have h0 : (x.e != 0) = false := bne_eq_false_iff_eq.mpr he
      have HE := Aside0.mk he
      clear he
      gi_wp2_with fail
      have hs0 : W.drew.heap.size = W.heap.size := rfl
      have hlt2 : w.heap.size + 1 + 1 < W.heap.size := Q2.out.lt
      have hltp : Bp < W.heap.size := (Array.getElem?_eq_some_iff.1 HX.out).1
      have keep : ∀ w' : World, Below W.heap.size W.drew w' → w'.cell? ⟨w.heap.size + 1 + 1, 0, none⟩ = some v ∧ w'.cell? ⟨Bp, 0, none⟩ = some (.slice x.A x.xs.length x.c) := fun w' hb => ⟨(hb.cell (p := ⟨_, 0, none⟩) hlt2).trans hc2, (hb.cell (p := ⟨_, 0, none⟩) hltp).trans hp0⟩
      have KEEP := Aside0.mk keep
      clear keep hs0 hlt2 hltp
      refine startIn_ (m := 8) (S := fun w' => w'.cell? ⟨w.heap.size + 1 + 1, 0, none⟩ = some v ∧ w'.cell? ⟨Bp, 0, none⟩ = some (.slice x.A x.xs.length x.c)) (ds := [6, 7]) #[false, false, false, false, false, false, false, false] ?hQ (by kernel_rfl) (by kernel_rfl) rfl rfl (KEEP.out _ (Below.refl _ _)) (fun hHeld => ?_)
      case hQ => rintro ⟨_, _, h⟩; exact h
      refine pure_ (i := 2) (N := some 18) (v := ?_) (a' := ?_) #[false, false, true, false, false, false, false, false] rfl rfl (by kernel_rfl) (fun _ _ _ h => h) (Or.inl ⟨by rfl, ?_⟩) ?_ ?_
      rotate_left
      · intro w'
        go_simp
        with_reducible rfl
      rotate_left
      · simp only [Act.put, List.setIfInBounds_toArray, List.set_cons_zero, List.set_cons_succ, i64_w, i32_w]
        rfl
      refine take_ (i := 0) (N := some 16) (v := ?_) (a' := ?_) #[true, false, true, false, false, false, false, false] rfl rfl (by kernel_rfl) (fun _ _ _ h => h) (Or.inl ⟨by rfl, ?_⟩) hHeld ?_ ?_
      rotate_left
      · rintro w' ⟨s0, s1⟩
        go_simp
        with_reducible rfl
      rotate_left
      · simp only [Act.put, List.setIfInBounds_toArray, List.set_cons_zero, List.set_cons_succ, i64_w, i32_w]
        rfl
      refine take_ (i := 3) (N := some 19) (v := ?_) (a' := ?_) #[true, false, true, true, false, false, false, false] rfl rfl (by kernel_rfl) (fun _ _ _ h => h) (Or.inl ⟨by rfl, ?_⟩) hHeld ?_ ?_
      rotate_left
      · rintro w' ⟨s0, s1⟩
        go_simp
        with_reducible rfl
      rotate_left
      · simp only [Act.put, List.setIfInBounds_toArray, List.set_cons_zero, List.set_cons_succ, i64_w, i32_w]
        rfl
      refine one_ (i := 1) (N := some 17) #[true, true, true, true, false, false, false, false] rfl rfl (by kernel_rfl) (by decide) (fun K hK => ?_)
      refine Kd.R_lit_step (Kd.int .u8) (w0 := W.drew) W.heap.size 5 (by rfl) (N := 17) rfl (xs := ([] : List Int)) (inner := []) (ok := fun _ => True) (okp := fun _ => True) ?hr (Reps.none _ _) (fun _ hk => hk) trivial (Below.refl _ _) (Nat.le_refl _) (by simp) ?_
      case hr => first | (go_simp; done) | (go_simp; rfl) | (go_simp; simp [storeCells]; done) | (go_simp; simp [storeCells]; rfl)
      intro v1 w1 ho1 hb1 hg1 hn1
      refine hK.out _ _ (KEEP.out _ hb1) (fun hHeld => ?_)
      clear hK K
      refine norm_ (a' := ?_) ?_ ?_
      rotate_left
      · show Act.put _ (some 17) _ = _
        simp only [Act.put, List.setIfInBounds_toArray, List.set_cons_zero, List.set_cons_succ, i64_w, i32_w]
        rfl
      have hxC : Kd.C (Kd.int .u8) w1 x.A x.xs.length x.xs := Kd.C_below x.hr (Hbel.out.drew.trans (hb1.mono Hbel.out.size))
      refine one_ (i := 4) (N := some 20) #[true, true, true, true, true, false, false, false] rfl rfl (by kernel_rfl) (by decide) (fun K hK => ?_)
      refine Kd.R_append_rows_step (Kd.int .u8) (w0 := W.drew) W.heap.size (by rfl) (.tmp 17) (.tmp 19) 22 5 (.int .u8 0) 1 rfl Try.underlying22 info5 rfl (by decide) (by omega) v1 [] x.xs x.A x.xs.length x.c (fun _ => True) (fun _ => False) rfl rfl ho1 hxC (fun _ _ h => h) (fun _ h => h.elim) (fun _ _ => trivial) hb1 hb1.size (by have := x.hm; simp; omega) ?_
      intro v2 w2 ho2 hb2 hg2 hn2
      rw [List.nil_append] at ho2
      obtain ⟨A2, c2, rfl⟩ := Kd.R_slice ho2
      refine hK.out _ _ (KEEP.out _ hb2) (fun hHeld => ?_)
      clear hK K
      refine norm_ (a' := ?_) ?_ ?_
      rotate_left
      · show Act.put _ (some 20) _ = _
        simp only [Act.put, List.setIfInBounds_toArray, List.set_cons_zero, List.set_cons_succ, i64_w, i32_w]
        rfl
      refine one_ (i := 5) (N := some 21) #[true, true, true, true, true, true, false, false] rfl rfl (by kernel_rfl) (by decide) (fun K hK => ?_)
      refine event_step (W := w2) (w1 := w2.alloc (.cells #[.slice A2 x.xs.length c2] 22)) (v := .slice (some ⟨w2.heap.size, 0, none⟩) 1 1) (by rfl) ?hr5 ?_
      case hr5 => go_simp; done
      refine hK.out _ _ (KEEP.out _ (hb2.alloc hb2.size _)) (fun hHeld => ?_)
      clear hK K
      refine norm_ (a' := ?_) ?_ ?_
      rotate_left
      · show Act.put _ (some 21) _ = _
        simp only [Act.put, List.setIfInBounds_toArray, List.set_cons_zero, List.set_cons_succ, i64_w, i32_w]
        rfl
      refine last_ (i := 6) (N := some 22) #[true, true, true, true, true, true, true, false] rfl rfl (by kernel_rfl) (by decide) (fun K hK => ?_)
      have hsz2 : W.heap.size ≤ w2.heap.size := hb2.size
      have hbw2 : Below w.heap.size w w2 := Hbel.out.drew.trans (hb2.mono Hbel.out.size)
      have hrow2 : Kd.R (Kd.slice 5 (Kd.int .u8)) 22 w2 w.heap.size (fun k => w.heap.size + 3 < k) v (pre.map Pt.xs) := Kd.R_below (Kd.R_drew Hrow.out) hb2
      refine Kd.R_append_step (Kd.slice 5 (Kd.int .u8)) (w0 := w) (W := w2) w.heap.size (by rfl) (.tmp 16) (.tmp 21) 56 22 (.slice none 0 0) 24 rfl Try.underlying56 info22 rfl (by decide) (by omega) v (pre.map Pt.xs) x.xs [.slice A2 x.xs.length c2] (fun k => w.heap.size + 3 < k) (fun k => W.heap.size ≤ k) rfl rfl
        ⟨_, rfl, Kd.R_lower (Kd.R_mono (Kd.R_bound ho2) (fun k hk => hk.2.1)) Hbel.out.size⟩ (fun k hk => ⟨by have := Hsz.out; omega, fun e => by have := Kd.R_lt Hrow.out k e.symm; omega⟩) (fun k hk => by have := Hsz.out; omega)
        hrow2 hbw2 hbw2.size (by have := Hlen.out; rw [List.length_map]; omega) ?_
      intro v3 w3 ho3 hb3 hg3 hn3
      obtain ⟨A3, c3, rfl⟩ := Kd.R_slice ho3
      refine hK.out _ _ ?_
      clear hK K
      refine norm_ (a' := ?_) ?_ ?_
      rotate_left
      · show Act.put _ (some 22) _ = _
        simp only [Act.put, List.setIfInBounds_toArray, List.set_cons_zero, List.set_cons_succ, i64_w, i32_w]
        rfl
      have hrlt : ∀ k, v.ownBlock = some k → w.heap.size + 3 < k := Hrow.out.1
      have hbox3 : ∀ (b t : Nat) (u : Value), Boxed W b t u → b ≤ w.heap.size + 3 → Boxed w3 b t u := fun b t u hb hle =>
        (hg3.block b (by have := hb.lt; omega) (fun e => by have := hrlt b e.symm; omega)).trans ((hb2.block b hb.lt).trans hb)
      have hx3 := hbox3 _ _ _ Q2.out (by omega)
      have f2 := hx3.frozen
      have g2 := hx3.cell
      refine last_ (i := 7) (N := none) #[true, true, true, true, true, true, true, true] rfl rfl (by kernel_rfl) (by decide) (fun K hK => ?_)
      refine skip_ (w1 := w3.setCell ⟨w.heap.size + 1 + 1, 0, none⟩ (.slice A3 (pre.map Pt.xs ++ [x.xs]).length c3)) (by rfl) rfl ?hr7 ?_
      case hr7 => go_simp; done
      refine hK.out _ _ ?_
      clear hK K
      refine done_ (by kernel_rfl) ?_
      have hlow : Below w.heap.size W (w3.setCell ⟨w.heap.size + 1 + 1, 0, none⟩ (.slice A3 (pre.map Pt.xs ++ [x.xs]).length c3)) :=
        ((((Below.refl w.heap.size W).drew).trans (hb2.mono Hbel.out.size)).grown hg3 hbw2.size (fun k e => by have := hrlt k e; omega)).setCell (p := ⟨w.heap.size + 1 + 1, 0, none⟩) (by show w.heap.size ≤ w.heap.size + 1 + 1; omega) _
      refine (⟨?_, ⟨hlow, ?_⟩, ⟨⟨?_, ?_⟩, ?_, ?_, ⟨_, Boxed.set _ hx3, ?_⟩, Hbel.out.trans hlow⟩⟩ : KeepsFrom _ _ _ ∧ Kp _ _ _ _ ∧ SpI _ _ _)
      · refine KeepsOthers.from (((((KeepsOthers.drew W).trans (KeepsOthers.of_grownBy hg1 (fun j o e _ => by cases e))).trans (KeepsOthers.of_grownBy hg2 (fun j o ej hj => ?_))).trans (KeepsOthers.of_grownBy hg3 (fun j o ej hj => ?_))).trans (KeepsOthers.setCell _ _ _)) _
        · obtain ⟨cells, hc⟩ := Kd.R_typed ho1 j ej
          rw [hc] at hj; cases hj; rfl
        · obtain ⟨cells, hc⟩ := Kd.R_typed hrow2 j ej
          rw [hc] at hj; cases hj; rfl
      · exact (Below.heap_setCell _ _ _ _ (by show ¬ (w.heap.size + 1 + 1 + 1 = w.heap.size + 1 + 1); omega)).trans ((hg3.block _ (by have := Hsz.out; omega) (fun e => by have := hrlt _ e.symm; omega)).trans (hb2.block _ (by have := Hsz.out; omega)))
      · intro q hq
        rcases List.mem_append.1 hq with hq | hq
        · exact Hall.out q hq
        · rw [List.mem_singleton.1 hq]; exact HE.out
      · have := hlow.size; have := Hsz.out; omega
      · exact (hbox3 _ _ _ Q0.out (by omega)).other (by omega) _
      · exact (hbox3 _ _ _ Q1.out (by omega)).other (by omega) _
      · rw [List.map_append, List.map_cons, List.map_nil]
        exact Kd.R_far ho3 (fun k hk => by show ¬ (k = w.heap.size + 1 + 1); omega) _
    · have h0 : (x.e != 0) = true := bne_iff_ne.mpr he
      have HE := Aside0.mk he
      clear he
      gi_wp2_with fail
      have f0 := Q0.out.cell
      have f1 := Q1.out.cell
      have f2 := Q0.out.frozen
      have f3 := Q1.out.frozen
      have ne1 : ¬ (Bp = w.heap.size) := by have := HBp.out; omega
      have ne2 : ¬ (w.heap.size = Bp) := by have := HBp.out; omega
      have ne3 : ¬ (Bp = w.heap.size + 1) := by have := HBp.out; omega
      have ne4 : ¬ (w.heap.size + 1 = Bp) := by have := HBp.out; omega
      gi_region
      all_goals
        gi_wp2
        refine (⟨(((KeepsOthers.setCell W _ _).trans (KeepsOthers.setCell _ _ _)).trans (KeepsOthers.drew _)).from _, ⟨rfl, pre, x, rfl, HE.out, ?_, ?_, ?_⟩⟩ : KeepsFrom _ _ _ ∧ SpX _ _ _ _)
        · exact (Q0.out.set _).other (by omega) _
        · exact (Q1.out.other (by omega) _).set _
        · exact ((Hbel.out.setCell (p := ⟨w.heap.size, 0, none⟩) (Nat.le_refl _) _).setCell (p := ⟨w.heap.size + 1, 0, none⟩) (Nat.le_succ _) _).drew
  case done =>
    rintro D xs W hD hS hI hK
    obtain ⟨⟨hall, hsz⟩, q0, q1, ⟨v, q2, hrow⟩, hbel⟩ := hI
    obtain ⟨rfl, rfl⟩ := hS hall
    have hc2 := q2.cell
    obtain ⟨L, hL⟩ : ∃ L, L = xs.map Pt.xs := ⟨_, rfl⟩
    rw [← hL] at hrow ⊢
    obtain ⟨A, c, rfl⟩ := Kd.R_slice hrow
    have HJ : Aside0 (SpJ w D A c L W) := ⟨⟨q0, q1, q2, capK_of hrow, hbel, hK⟩⟩
    have HL := Aside0.mk hL
    have HD := Aside0.mk hD
    have hlm : Aside0 (L.length ≤ 9223372036854775807 ∧ L.length ≤ c) := ⟨⟨(Kd.R_reads' hrow).2.2.2.1, (Kd.R_reads' hrow).2.1⟩⟩
    clear hrow hbel hsz q0 q1 q2 hK hD hS hall hL
    have hlm1 : L.length ≤ 9223372036854775807 := hlm.out.1
    gi_wp2_with fail
    gi_loopw [25] (fun i W' => ∃ j : Nat, i = .int .i64 (j : Int) ∧ j ≤ L.length ∧ Aside0 (SpJ w D A c L W')) (fun i _ => L.length - (intOf i).toNat)
    case atStart => exact ⟨0, rfl, Nat.zero_le _, HJ⟩
    case round =>
      clear HJ hc2
      obtain ⟨j, rfl, hj, HJ⟩ := hrel
      obtain ⟨q0, q1, q2, hrow, hbel, hK⟩ := HJ.out
      have hc2 := q2.cell
      by_cases hlt : j < L.length
      · obtain ⟨ad, c9, rfl⟩ : ∃ ad c9, A = some ad := by
          obtain ⟨ad, c9, e⟩ := Kd.R_slice1 hrow (by omega)
          injection e with e1 e2 e3
          exact ⟨ad, c9, e1⟩
        obtain ⟨g, rfl⟩ := Kd.R_head hrow
        obtain ⟨cs, hcl, hM, hcc⟩ := Kd.R_getA hrow ([] : List Int) (j : Int) (by omega) (by omega)
        obtain ⟨Ae, ce, rfl, hle, _⟩ := capK.K_of_M hM
        obtain ⟨p, hp⟩ : ∃ p, p = L.getD (j : Int).toNat [] := ⟨_, rfl⟩
        rw [← hp] at hle hcc
        have hce : wr.cell? ⟨g, j, none⟩ = some (.slice Ae p.length ce) := by
          have := hcc 0 _ rfl
          rw [show capK.sz = 1 from rfl, addr0] at this
          simpa using this
        have hfe : wr.frozen? ⟨g, j, none⟩ = false := by
          obtain ⟨inner, hown⟩ := Kd.R_own hrow
          exact hown.frozenAt j
        have hgD : Aside0 (¬ g = D) := ⟨fun e => by obtain ⟨cells, hcells⟩ := Kd.R_typed hrow g rfl; rw [e, hK] at hcells; cases hcells⟩
        have hgt : Aside0 (w.heap.size + 3 < g) := ⟨hrow.1 g rfl⟩
        have hset := capK_set hrow j hlt hce p.length (Nat.le_refl _)
        have HSET := Aside0.mk hset
        have Hq0 := Aside0.mk q0
        have Hq1 := Aside0.mk q1
        have Hq2 := Aside0.mk q2
        have Hbel := Aside0.mk hbel
        have HK := Aside0.mk hK
        have hb0 : decide ((j : Int) < (L.length : Int)) = true := decide_eq_true (by omega)
        have hb1 : decide (j < L.length) = true := decide_eq_true hlt
        clear hM hcc hp hrow hset q0 q1 q2 hbel hK hcl
        gi_wp2_with fail
        gi_region
        all_goals
          have hs2 : SpJ w D (some ⟨g, 0, none⟩) c L ((wr.setCell ⟨g, j, none⟩ (.slice Ae p.length p.length)).drew) := by
            have h9 := hgt.out
            refine ⟨Hq0.out.kept (grown_cell wr _ _) (fun e => by have e' := Option.some.inj e; dsimp only at e'; omega), Hq1.out.kept (grown_cell wr _ _) (fun e => by have e' := Option.some.inj e; dsimp only at e'; omega), Hq2.out.kept (grown_cell wr _ _) (fun e => by have e' := Option.some.inj e; dsimp only at e'; omega), Kd.R_drew HSET.out, (Hbel.out.setCell (p := ⟨g, j, none⟩) (by show w.heap.size ≤ g; omega) _).drew, (Below.heap_setCell _ _ _ _ (fun e => hgD.out e.symm)).trans HK.out⟩
          have HS2 := Aside0.mk hs2
          clear hs2
          gi_wp2
          go_roundw
          case rel => exact ⟨j + 1, by go_num, by omega, HS2⟩
          case measure => simp [intOf]; omega
      · have hb0 : decide ((j : Int) < (L.length : Int)) = false := decide_eq_false (by omega)
        have hb1 : decide (j < L.length) = false := decide_eq_false hlt
        have hcap := hlm.out.2
        have f0 := q0.frozen
        have f1 := q1.frozen
        have g0 := q0.cell
        have g1 := q1.cell
        have Hq0 := Aside0.mk q0
        have Hq1 := Aside0.mk q1
        have Hrow := Aside0.mk hrow
        have Hbel := Aside0.mk hbel
        have HK := Aside0.mk hK
        clear hrow q0 q1 q2 hbel hK hlt hj
        gi_wp2_with fail
        refine ⟨by simp, .inl ⟨_, _, rfl, run_takeDeferred (show ((wr.setCell ⟨w.heap.size, 0, none⟩ (.slice A L.length L.length)).setCell ⟨w.heap.size + 1, 0, none⟩ (.int .i64 0)).heap[D]? = _ from (Below.heap_setCell _ _ _ _ (by have := HD.out; have := HSV.out; show ¬ D = w.heap.size + 1; omega)).trans ((Below.heap_setCell _ _ _ _ (by have := HD.out; have := HSV.out; show ¬ D = w.heap.size; omega)).trans HK.out)), ?_⟩⟩
        obtain ⟨W9, hW9⟩ : ∃ W9, W9 = ((wr.setCell ⟨w.heap.size, 0, none⟩ (.slice A L.length L.length)).setCell ⟨w.heap.size + 1, 0, none⟩ (.int .i64 0)).putObj D (.deferred none) := ⟨_, rfl⟩
        have hltD : w.heap.size + 3 < D := by have := HD.out; have := HSV.out; omega
        have p0 : Boxed W9 w.heap.size 56 (.slice A L.length L.length) := by rw [hW9]; exact (World.putObj_heap_other (by omega)).trans ((Hq0.out.set _).other (by omega) _)
        have p1 : Boxed W9 (w.heap.size + 1) 34 (.int .i64 0) := by rw [hW9]; exact (World.putObj_heap_other (by omega)).trans ((Hq1.out.other (by omega) _).set _)
        have y0 := p0.cell
        have y1 := p1.cell
        rw [← hW9]
        refine ⟨.tuple #[.slice A L.length L.length, .int .i64 0], ?_, ?_⟩
        · simp [results, Try.results27, go_sem, y0, y1]
        · rw [← HL.out]
          refine RetCapL.mk (u := .slice A L.length c) (Cap.mk (Nat.le_refl _) hcap) ?_ ?_
          · rw [hW9]
            refine Kd.R_mono (Kd.R_step (Kd.R_far (p := ⟨w.heap.size + 1, 0, none⟩) (Kd.R_far (p := ⟨w.heap.size, 0, none⟩) (Kd.R_mono (Kd.R_bound Hrow.out) (fun k hk => (⟨hk.1, fun e => ?_⟩ : w.heap.size + 3 < k ∧ k ≠ D))) (fun k hk => by show ¬ k = w.heap.size; omega) _) (fun k hk => by show ¬ k = w.heap.size + 1; omega) _) (fun k hk _ => World.putObj_heap_other hk.2)) (fun _ _ => trivial)
            obtain ⟨_, _, _, _, _, cells, hcells⟩ := hk
            rw [e, HK.out] at hcells; cases hcells
          · rw [hW9]
            have hb' := (Hbel.out.setCell (p := ⟨w.heap.size, 0, none⟩) (Nat.le_refl _) (.slice A L.length L.length)).setCell (p := ⟨w.heap.size + 1, 0, none⟩) (Nat.le_succ _) (.int .i64 0)
            exact hb'.grown (grownBy_putObj' _ D _) hb'.size (fun k e => by cases e; omega)
  case stop =>
    rintro D c pre W hD ⟨q, x, hpx, hbad⟩ ⟨rfl, q', x', hpx', hne, x0, x1, xb⟩ hK
    obtain ⟨rfl, hxx⟩ : q = q' ∧ [x] = [x'] := List.append_inj' (hpx.symm.trans hpx') rfl
    obtain rfl : x = x' := by injection hxx
    obtain ⟨rfl, rfl⟩ := hbad hne
    gi_wp2
    refine ⟨by simp, .inl ⟨_, _, rfl, run_takeDeferred hK, ?_⟩⟩
    have x0' : Boxed (W.putObj D (.deferred none)) w.heap.size 56 (.slice none 0 0) := (World.putObj_heap_other (by omega)).trans x0
    have x1' : Boxed (W.putObj D (.deferred none)) (w.heap.size + 1) 34 (.int .i64 x.e) := (World.putObj_heap_other (by omega)).trans x1
    have y0 := x0'.cell
    have y1 := x1'.cell
    refine ⟨.tuple #[.slice none 0 0, .int .i64 x.e], ?_, RetCapL.mk (Cap.refl (Nat.le_refl _)) (Kd.R_nil _ _ _ _ _) ?_⟩
    · simp [results, Try.results27, go_sem, y0, y1]
    · exact xb.grown (grownBy_putObj' W D _) xb.size (fun k e => by cases e; omega)
end Go.Proofs.Ytgjgandkcmjbnaa.PB
