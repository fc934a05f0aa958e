/- Proved: a law of a loop over an iterator function that may turn cells of its own between two rounds; no condition. -/
import Derived.RangeFuncNested
import Derived.RangeFuncLeaves
import Derived.Maps.AppendAt
namespace Go.Proofs.Ytojdmloimmcacaa.TS
open Go Go.RowKit
set_option linter.unusedVariables false
/-- J bears what an iterator does that lays blocks and turns those that Tr names. -/
def Bears {β : Type} (Tr : Nat → Prop) (J : β → World → Prop) : Prop := ∀ s W W' row, J s W → W.grownBy W' row → (∀ r, row = some r → Tr r) → J s W'
/-- What an iterator owes whoever hands it a loop's body. -/
def Iter {α : Type} (F : Fence) (n : Nat) (P : Program) (g : Nat) (lb : Array Value) (encs : α → Array Value) (Kp : World → World → Prop) (S Sp : List α → Prop) (N : Nat) (Tr : Nat → Prop) (W : World) : Prop :=
  ∀ (l : Nat) (J Jx : List α → World → Prop), Bears Tr J → Bears Tr Jx →
    (∀ pre x W1, Sp (pre ++ [x]) → J pre W1 → pre.length < N → YieldAt F (n - 1) P l (encs x) W1 fun e W' =>
      (e = .returned (.bool true) ∧ J (pre ++ [x]) W' ∧ Kp W1 W') ∨ (e = .returned (.bool false) ∧ Jx (pre ++ [x]) W')) →
    J [] W →
    CallsIn F n P g (#[.func (.yield l) #[] #[]] ++ lb) W fun e W' => (∃ v, e = .returned v) ∧ ((∃ xs, S xs ∧ J xs W') ∨ (∃ pre, Sp pre ∧ Jx pre W'))
/-- The blocks that a loop laid at B or behind, or that its iterator turns. -/
def Moved (Tr : Nat → Prop) (B : Nat) (W : World) (r : Nat) : Prop := Tr r ∨ (B ≤ r ∧ ∃ o : Obj, W.heap[r]? = some o ∧ o.isCells = false)
def Stays {β : Type} (Tr : Nat → Prop) (B : Nat) (I : β → World → Prop) : Prop := ∀ s W W' row, I s W → W.grownBy W' row → (∀ r, row = some r → Moved Tr B W r) → I s W'
theorem Stays.put {β : Type} {Tr : Nat → Prop} {B : Nat} {I : β → World → Prop} (h : Stays Tr B I) {s : β} {W : World} {l : Nat} {o : Obj} (o' : Obj) (hs : I s W) (hB : B ≤ l) (hl : W.heap[l]? = some o) (ho : o.isCells = false) : I s (W.putObj l o') :=
  h s W _ (some l) hs (grownBy_putObj' W l o') (fun r e => by cases e; exact .inr ⟨hB, o, hl, ho⟩)
theorem Stays.lay {β : Type} {Tr : Nat → Prop} {B : Nat} {I : β → World → Prop} (h : Stays Tr B I) {s : β} {W : World} (o : Obj) (hs : I s W) : I s (W.alloc o) :=
  h s W _ none hs (World.grownBy_alloc W o none) (fun r e => by cases e)
theorem Stays.and {β : Type} {Tr : Nat → Prop} {B : Nat} {I I' : β → World → Prop} (h : Stays Tr B I) (h' : Stays Tr B I') : Stays Tr B (fun s W => I s W ∧ I' s W) :=
  fun s W W' row hs hg hr => ⟨h s W W' row hs.1 hg hr, h' s W W' row hs.2 hg hr⟩
theorem Stays.pure {β : Type} (Tr : Nat → Prop) (B : Nat) (p : β → Prop) : Stays Tr B (fun s (_ : World) => p s) := fun _ _ _ _ hs _ _ => hs
/-- A block that neither the loop nor the iterator turns lies on. -/
theorem grown_at {W W' : World} {row : Option Nat} {Tr : Nat → Prop} {B k : Nat} {o : Obj} (hg : W.grownBy W' row) (hr : ∀ r, row = some r → Tr r) (ht : ¬ Tr k) (hk : W.heap[k]? = some o) : W'.heap[k]? = some o :=
  (hg.block k (Array.getElem?_eq_some_iff.1 hk).1 (fun e => ht (hr k e.symm))).trans hk
variable {F : Fence} {n : Nat} {P : Program}
/-- **The loop**, by its iterator's word and one walk of its body. -/
theorem range_over {α : Type} {g : Operand} {ps : Array Tmp} {assign body : Code} {Q : Exit → Act → World → Prop} {a : Act} {w : World}
    (hro : F.round = none) (h1 : 1 ≤ n) {gf : Nat} {lb : Array Value} (hg : a.eval g = .func (.func gf) #[] lb) (hFg : F.fn gf) (eg : ∀ args w, (callFunc gf args).run P w = .ok (.enter gf args) w)
    {encs : α → Array Value} {Kp : World → World → Prop} {S Sp : List α → Prop} {N : Nat} {Tr : Nat → Prop}
    (hseq : ∀ W, w.grownBy W none → Iter F (n - 1) P gf lb encs Kp S Sp N Tr W) (hTr : ∀ r, Tr r → r < w.heap.size)
    (hKt : ∀ {A B C : World}, Kp A B → Kp B C → Kp A C) (hKb : ∀ (W : World) (l : Nat) (o o' : Obj), w.heap.size ≤ l → W.heap[l]? = some o → o.isCells = false → Kp W (W.putObj l o')) (hps : ∀ x, (encs x).size = ps.size)
    (I : List α → World → Prop) (Ix : Code → List α → World → Prop) (hI : Stays Tr w.heap.size I) (hIx : ∀ c, Stays Tr w.heap.size (Ix c)) (h0 : I [] w)
    (Ax : α → Act → World → Prop) (hAx : ∀ x a' W l o o', Ax x a' W → w.heap.size ≤ l → W.heap[l]? = some o → o.isCells = false → Ax x a' (W.putObj l o'))
    (hassign : ∀ (l : Nat) (pre : List α) (x : α) (W : World) (K : Act → World → Prop), I pre W → (∀ a' W', KeepsFrom w.heap.size W W' → Kp W W' → I pre W' → Ax x a' W' → K a' W') →
      assign.wpIn (F.inRound l) (n - 1 - 1) P (Exit.then K (fun _ _ _ => False)) { tmps := (ps.zip (encs x)).foldl (fun t (p, v) => t.setIfInBounds p v) a.tmps, defers := [] } W)
    (hbody : ∀ (l : Nat) (pre : List α) (x : α) (a' : Act) (W : World), Sp (pre ++ [x]) → I pre W → Ax x a' W → pre.length < N → body.wpIn (F.inRound l) (n - 1 - 1) P (ownPostG w.heap.size Kp I Ix (pre ++ [x]) W) a' W)
    (hdone : ∀ (D : Nat) (xs : List α) (W : World), w.heap.size ≤ D → S xs → I xs W → W.heap[D]? = some (.deferred (some [])) → Q .normal { a with defers := { target := .collected D, args := #[] } :: a.defers } W)
    (hstop : ∀ (D : Nat) (c : Code) (pre : List α) (W : World), w.heap.size ≤ D → Sp pre → Ix c pre W → W.heap[D]? = some (.deferred (some [])) → c.wpIn F n P Q { a with defers := { target := .collected D, args := #[] } :: a.defers } W) :
    (Code.rangeFunc g ps assign body).wpIn F n P Q a w := by
  apply wpIn_rangeFunc
  intro fn hfn
  rw [hro]
  -- the record, by its state and its pending jump
  obtain ⟨rc, hrc⟩ : ∃ rc : LoopState → Option Code → Loop, rc = fun st pe => { state := st, pending := pe, fn, tmps := a.tmps, params := ps, assign, body, defers := w.heap.size } := ⟨_, rfl⟩
  obtain ⟨L, hL⟩ : ∃ L, L = w.heap.size + 1 := ⟨_, rfl⟩
  obtain ⟨U, hU⟩ : ∃ U, (w.alloc (.deferred (some []))).alloc (.loop (rc .ready none)) = U := ⟨_, rfl⟩
  have sU : U.heap.size = w.heap.size + 2 := by rw [← hU]; simp
  have uL : U.heap[L]? = some (.loop (rc .ready none)) := by
    rw [← hU, hL]; have := World.alloc_heap_new (w.alloc (.deferred (some []))) (.loop (rc .ready none)); rwa [World.size_alloc] at this
  have uD : U.heap[w.heap.size]? = some (.deferred (some [])) := by
    rw [← hU]; exact (Below.heap_alloc _ _ _ (by simp)).trans (World.alloc_heap_new w _)
  have gU : w.grownBy U none := by rw [← hU]; exact (World.grownBy_alloc w _ none).trans (World.grownBy_alloc _ _ none)
  have nL : ¬ Tr L := fun h => by have := hTr _ h; omega
  have nD : ¬ Tr w.heap.size := fun h => by have := hTr _ h; omega
  refine ⟨L, [{ target := .collected w.heap.size, args := #[] }], U, { target := .fn (.func gf) lb, args := #[.func (.yield L) #[] #[]] }, U, gf, #[.func (.yield L) #[] #[]] ++ lb, U, ?_, ?_, ?_, ?_, fun _ => h1, ?_⟩
  · rw [← hU, hrc, hL]; exact run_enterLoop_outer _ _ _ _ _
  · simp only [resolve, hg]
    simp [go_sem]
  · intro f' hf'; simp [Target.leads] at hf'; subst hf'; exact hFg
  · simp [invoke, go_sem, eg]
  have bk : ∀ {A B : World} {row : Option Nat} {k : Nat} {o : Obj}, A.grownBy B row → (∀ r, row = some r → Tr r) → ¬ Tr k → A.heap[k]? = some o → B.heap[k]? = some o :=
    fun hg' hr ht hk => (hg'.block _ (Array.getElem?_eq_some_iff.1 hk).1 (fun e => ht (hr _ e.symm))).trans hk
  refine (hseq U gU L (fun pre W => I pre W ∧ W.heap[L]? = some (.loop (rc .ready none)) ∧ W.heap[w.heap.size]? = some (.deferred (some [])))
    (fun pre W => ∃ c, Ix c pre W ∧ W.heap[L]? = some (.loop (rc .done (some c))) ∧ W.heap[w.heap.size]? = some (.deferred (some [])))
    (fun s A B row hs hg' hr => ⟨hI s A B row hs.1 hg' (fun r e => .inl (hr r e)), bk hg' hr nL hs.2.1, bk hg' hr nD hs.2.2⟩)
    (fun s A B row hs hg' hr => by
      obtain ⟨c, hc, h2, h3⟩ := hs
      exact ⟨c, hIx c s A B row hc hg' (fun r e => .inl (hr r e)), bk hg' hr nL h2, bk hg' hr nD h3⟩) ?_ ⟨?_, uL, uD⟩).mono ?_
  · -- one round
    rintro pre x W hsp ⟨hi, hl, hd⟩ hlen
    have hy := run_yield (P := P) (args := encs x) hl (by rw [hrc]; exact hps x)
    rw [hrc] at hy
    refine ⟨fn, _, assign, body, hy, roundIn_of_wpIn hfn (hassign _ pre x W _ hi ?_)⟩
    clear hy
    intro a' V kf kp hi' hax
    have vl := kf.same _ _ (by omega) hl rfl
    have vd := kf.same _ _ (Nat.le_refl _) hd rfl
    have vlt : L < V.heap.size := (Array.getElem?_eq_some_iff.1 vl).1
    refine ⟨_, run_beginRound vl (by rw [hrc]), ?_⟩
    obtain ⟨V2, hV2⟩ : ∃ V2, V.putObj L (.loop { rc .ready none with state := .busy }) = V2 := ⟨_, rfl⟩
    have v2l : V2.heap[L]? = some (.loop { rc .ready none with state := .busy }) := by rw [← hV2]; exact World.putObj_heap_same vlt
    have v2d : V2.heap[w.heap.size]? = some (.deferred (some [])) := by rw [← hV2]; exact (World.putObj_heap_other (by omega)).trans vd
    have kp2 : Kp W V2 := by rw [← hV2]; exact hKt kp (hKb _ _ _ _ (by omega) vl rfl)
    have i2 : I pre V2 := by rw [← hV2]; exact hI.put _ hi' (by omega) vl rfl
    have ax2 : Ax x a' V2 := by rw [← hV2]; exact hAx x a' V L _ _ hax (by omega) vl rfl
    rw [hV2]
    have fin : ∀ (jump : Option Code) (W3 : World), KeepsFrom w.heap.size V2 W3 →
        (Instr.endRound L jump).run P W3 = .ok (.bool jump.isNone) (W3.putObj L (.loop (rc (if jump.isNone then .ready else .done) jump))) ∧
        L < W3.heap.size ∧ (∃ o : Obj, W3.heap[L]? = some o ∧ o.isCells = false) ∧
        (W3.putObj L (.loop (rc (if jump.isNone then .ready else .done) jump))).heap[L]? = some (.loop (rc (if jump.isNone then .ready else .done) jump)) ∧
        (W3.putObj L (.loop (rc (if jump.isNone then .ready else .done) jump))).heap[w.heap.size]? = some (.deferred (some [])) := fun jump W3 kf3 => by
      have l3 := kf3.same _ _ (by omega) v2l rfl
      have lt3 : L < W3.heap.size := (Array.getElem?_eq_some_iff.1 l3).1
      have r3 := run_endRound (P := P) jump l3
      refine ⟨by rw [hrc] at r3 ⊢; exact r3, lt3, ⟨_, l3, rfl⟩, World.putObj_heap_same lt3, (World.putObj_heap_other (by omega)).trans (kf3.same _ _ (Nat.le_refl _) v2d rfl)⟩
    refine wpIn_mono (hbody _ pre x a' V2 hsp i2 ax2 hlen) ?_
    have leaves : ∀ (c : Code) (W3 : World), KeepsFrom w.heap.size V2 W3 → Ix c (pre ++ [x]) W3 →
        ∃ v w', (Instr.endRound L (some c)).run P W3 = .ok v w' ∧ ((Ending.returned v = .returned (.bool true) ∧ (I (pre ++ [x]) w' ∧ w'.heap[L]? = some (.loop (rc .ready none)) ∧ w'.heap[w.heap.size]? = some (.deferred (some []))) ∧ Kp W w') ∨
          (Ending.returned v = .returned (.bool false) ∧ ∃ c, Ix c (pre ++ [x]) w' ∧ w'.heap[L]? = some (.loop (rc .done (some c))) ∧ w'.heap[w.heap.size]? = some (.deferred (some [])))) := fun c W3 kf3 ix3 => by
      obtain ⟨r3, lt3, ⟨o3, l3, c3⟩, l4, d4⟩ := fin (some c) W3 kf3
      exact ⟨_, _, r3, .inr ⟨rfl, c, (hIx c).put _ ix3 (by omega) l3 c3, l4, d4⟩⟩
    rintro e a3 W3 hp
    cases e with
    | normal =>
      obtain ⟨kf3, kp3, i3⟩ := hp
      obtain ⟨r3, lt3, ⟨o3, l3, c3⟩, l4, d4⟩ := fin none W3 kf3
      exact ⟨_, _, r3, .inl ⟨rfl, ⟨hI.put _ i3 (by omega) l3 c3, l4, d4⟩, hKt kp2 (hKt kp3 (hKb _ _ _ _ (by omega) l3 c3))⟩⟩
    | ret => exact leaves .ret W3 hp.1 hp.2
    | exit id => exact leaves (.exit id) W3 hp.1 hp.2
    | goto t => exact leaves (.goto t) W3 hp.1 hp.2
    | panic ch => exact hp.elim
    | outgrown => exact hp.elim
  · rw [← hU]; exact hI.lay _ (hI.lay _ h0)
  · rintro e W2 ⟨⟨v, rfl⟩, (⟨xs, hS, hi, hl, hd⟩ | ⟨pre, hSp, c, hi, hl, hd⟩)⟩
    · refine ⟨none, _, by have := run_endLoop (P := P) hl (by rw [hrc]; simp); rw [hrc] at this; exact this, hdone _ xs _ (Nat.le_refl _) hS (hI.put _ hi (by omega) hl rfl) ((World.putObj_heap_other (by omega)).trans hd)⟩
    · refine ⟨some c, _, by have := run_endLoop (P := P) hl (by rw [hrc]; simp); rw [hrc] at this; exact this, hstop _ c pre _ (Nat.le_refl _) hSp ((hIx c).put _ hi (by omega) hl rfl) ((World.putObj_heap_other (by omega)).trans hd)⟩
end Go.Proofs.Ytojdmloimmcacaa.TS
