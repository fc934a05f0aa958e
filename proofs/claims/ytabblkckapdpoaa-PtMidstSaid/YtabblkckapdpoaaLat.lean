/- Proved: a region in which three boxes are made and three calls come up in whatever order is walked once, by an invariant; no condition. -/
import Derived.Test.YtabblkckapdpoaaWMore
import Derived.Test.YtabblkckapdpoaaWTab
import Derived.Test.YtabblkckapdpoaaWFour
namespace Go.Proofs.Ytabblkckapdpoaa.Lat
open Go.RowKit Go.Proofs.YtabblkckapdpoaaW.PrintWords Go.Proofs.YtabblkckapdpoaaW.PrintLast Go.Proofs.YtabblkckapdpoaaW.PrintMore

/-- A box of two noughts. -/
def box : Obj := .cells #[.int .i64 0, .int .i64 0] 23 (0, 0)
/-- One box, if it is made: where it lies. -/
def One (B gb : Nat) (p : Option Nat) (w' : World) : Prop := ∀ g, p = some g → w'.heap[g]? = some box ∧ B ≤ g ∧ gb ≠ g
def Apart (p q : Option Nat) : Prop := ∀ g h, p = some g → q = some h → g ≠ h
/-- What is known while the region runs: the block of the first point, the boxes made so far. -/
def F (w : World) (gb : Nat) (o : Obj) (p0 p1 p2 : Option Nat) (w' : World) : Prop :=
  w'.heap[gb]? = some o ∧ Below w.heap.size w w' ∧ One w.heap.size gb p0 w' ∧ One w.heap.size gb p1 w' ∧ One w.heap.size gb p2 w' ∧ Apart p0 p1 ∧ Apart p0 p2 ∧ Apart p1 p2

theorem One.no (B gb : Nat) (w' : World) : One B gb none w' := fun _ e => by cases e
theorem One.below {B gb : Nat} {p : Option Nat} {w' w1 : World} (h : One B gb p w') (hb : Below w'.heap.size w' w1) : One B gb p w1 :=
  fun g hg => ⟨blk_below (h g hg).1 hb, (h g hg).2⟩
theorem One.new {B gb : Nat} {o : Obj} {w' w1 : World} (hgb : w'.heap[gb]? = some o) (hB : B ≤ w'.heap.size) (hbox : w1.heap[w'.heap.size]? = some box) : One B gb (some w'.heap.size) w1 :=
  fun g hg => by
    cases hg
    exact ⟨hbox, hB, Nat.ne_of_lt (blk_lt hgb)⟩
theorem Apart.none_l (q : Option Nat) : Apart none q := fun _ _ h => by cases h
theorem Apart.none_r (q : Option Nat) : Apart q none := fun _ _ _ h => by cases h
theorem Apart.new_l {B gb : Nat} {p : Option Nat} {w' : World} (h : One B gb p w') : Apart (some w'.heap.size) p :=
  fun g k hg hk => by cases hg; exact Nat.ne_of_gt (blk_lt (h k hk).1)
theorem Apart.new_r {B gb : Nat} {p : Option Nat} {w' : World} (h : One B gb p w') : Apart p (some w'.heap.size) :=
  fun g k hg hk => by cases hk; exact Nat.ne_of_lt (blk_lt (h g hg).1)

section
variable {w : World} {gb : Nat} {o : Obj} {p0 p1 p2 : Option Nat} {w' w1 : World}
theorem F.call (h : F w gb o p0 p1 p2 w') (hb : Below w'.heap.size w' w1) : F w gb o p0 p1 p2 w1 :=
  ⟨blk_below h.1 hb, below_step h.2.1 hb, h.2.2.1.below hb, h.2.2.2.1.below hb, h.2.2.2.2.1.below hb, h.2.2.2.2.2⟩
theorem F.new0 (h : F w gb o none p1 p2 w') {g : Nat} (hg : g = w'.heap.size) (hbox : w1.heap[g]? = some (.cells #[.int .i64 0, .int .i64 0] 23 (0, 0))) (hb : Below w'.heap.size w' w1) : F w gb o (some g) p1 p2 w1 := by
  subst hg
  exact ⟨blk_below h.1 hb, below_step h.2.1 hb, One.new h.1 h.2.1.size hbox, h.2.2.2.1.below hb, h.2.2.2.2.1.below hb, Apart.new_l h.2.2.2.1, Apart.new_l h.2.2.2.2.1, h.2.2.2.2.2.2.2⟩
theorem F.new1 (h : F w gb o p0 none p2 w') {g : Nat} (hg : g = w'.heap.size) (hbox : w1.heap[g]? = some (.cells #[.int .i64 0, .int .i64 0] 23 (0, 0))) (hb : Below w'.heap.size w' w1) : F w gb o p0 (some g) p2 w1 := by
  subst hg
  exact ⟨blk_below h.1 hb, below_step h.2.1 hb, h.2.2.1.below hb, One.new h.1 h.2.1.size hbox, h.2.2.2.2.1.below hb, Apart.new_r h.2.2.1, h.2.2.2.2.2.2.1, Apart.new_l h.2.2.2.2.1⟩
theorem F.new2 (h : F w gb o p0 p1 none w') {g : Nat} (hg : g = w'.heap.size) (hbox : w1.heap[g]? = some (.cells #[.int .i64 0, .int .i64 0] 23 (0, 0))) (hb : Below w'.heap.size w' w1) : F w gb o p0 p1 (some g) w1 := by
  subst hg
  exact ⟨blk_below h.1 hb, below_step h.2.1 hb, h.2.2.1.below hb, h.2.2.2.1.below hb, One.new h.1 h.2.1.size hbox, h.2.2.2.2.2.1, Apart.new_r h.2.2.1, Apart.new_r h.2.2.2.1⟩
theorem F.start {w14 : World} (h : w14.heap[gb]? = some o) (hb : Below w.heap.size w w14) : F w gb o none none none w14 :=
  ⟨h, hb, One.no _ _ _, One.no _ _ _, One.no _ _ _, Apart.none_l _, Apart.none_l _, Apart.none_l _⟩
end
/-- Is call i done, if c are? -/
def done (i c : Nat) : Bool := Nat.blt i c
def nsC (v0 v1 v2 : Value) : Nat → List (Tmp × Value)
  | 0 => []
  | 1 => [(31, v0)]
  | 2 => [(31, v0), (42, v1)]
  | 3 => [(31, v0), (42, v1), (53, v2)]
  | _ + 4 => []
def nsP (t : Tmp) : Option Nat → List (Tmp × Value)
  | none => []
  | some g => [(t, .pointer (some ⟨g, 0, none⟩))]

/-- What is still to come: calls and boxes. -/
def left (c : Nat) (p0 p1 p2 : Option Nat) : Nat := (3 - c) + (if p0.isSome then 0 else 1) + (if p1.isSome then 0 else 1) + (if p2.isSome then 0 else 1)

theorem lat_ {P : Program} {md : Region.Mode} {ops : Array Oper} {Q : Exit → Act → World → Prop} {S : World → Prop} {ds : List Nat} {a : Act} {w' : World}
    (l : Nat → Option Nat → Option Nat → Option Nat → Array Bool) (ns : Nat → Option Nat → Option Nat → Option Nat → List (Tmp × Value)) (w : World) (gb : Nat) (o : Obj)
    (hfin : ∀ g0 g1 g2 w', F w gb o (some g0) (some g1) (some g2) w' → wpAnyLast P md ops Q S ds 3 (l 3 (some g0) (some g1) (some g2)) (putAll a (ns 3 (some g0) (some g1) (some g2))) w')
    (hstep : ∀ n c p0 p1 p2 w', c ≤ 3 → left c p0 p1 p2 = n + 1 → F w gb o p0 p1 p2 w' →
      (∀ c' p0' p1' p2' w'', c' ≤ 3 → left c' p0' p1' p2' = n → F w gb o p0' p1' p2' w'' → wpAnyLast P md ops Q S ds (n + 3) (l c' p0' p1' p2') (putAll a (ns c' p0' p1' p2')) w'') →
      wpAnyLast P md ops Q S ds (n + 3 + 1) (l c p0 p1 p2) (putAll a (ns c p0 p1 p2)) w')
    (h0 : F w gb o none none none w') {l0 : Array Bool} (hl : l 0 none none none = l0) (hn : ns 0 none none none = []) : wpAnyLast P md ops Q S ds 9 l0 a w' := by
  have key : ∀ n c p0 p1 p2 w', c ≤ 3 → left c p0 p1 p2 = n → F w gb o p0 p1 p2 w' → wpAnyLast P md ops Q S ds (n + 3) (l c p0 p1 p2) (putAll a (ns c p0 p1 p2)) w' := by
    intro n
    induction n with
    | zero =>
      intro c p0 p1 p2 w' hc hm hF
      unfold left at hm
      obtain rfl : c = 3 := by omega
      rcases p0 with _ | g0
      · simp at hm
      · rcases p1 with _ | g1
        · simp at hm
        · rcases p2 with _ | g2
          · simp at hm
          · exact hfin g0 g1 g2 w' hF
    | succ n ih =>
      intro c p0 p1 p2 w' hc hm hF
      have := hstep n c p0 p1 p2 w' hc hm hF ih
      have e : n + 1 + 3 = n + 3 + 1 := by omega
      rw [e]; exact this
  have := key 6 0 none none none w' (by omega) rfl h0
  rw [hl, hn] at this
  exact this

section
variable {md : Region.Mode} {ops : Array Oper} {T : Bool × List (List Nat × List Nat)}
theorem ready_of {rs : List Nat} {l : Array Bool} (hT : rtab md ops = T) (h : (readyT T.2 l.toList == rs) = true) : Region.ready md ops l = rs := by
  subst hT
  rw [ready_eq]
  exact eq_of_beq h
end
end Go.Proofs.Ytabblkckapdpoaa.Lat
