/- Proved: what a drawn region does in a plain frame it does in a loop's round too; no condition. -/
import Derived.Test.YtojdmloimmcacaaRF
import Derived.Test.YtojdmloimmcacaaWLast
import Derived.Test.YtojdmloimmcacaaWMore
import Derived.OrdersIn
import Derived.OwnWalkIn
namespace Go.Proofs.Ytojdmloimmcacaa.TS
open Go Go.RowKit Go.Proofs.YtojdmloimmcacaaW.PrintWords Go.Proofs.YtojdmloimmcacaaW.PrintLast Go.Proofs.YtojdmloimmcacaaW.PrintMore
section
variable {P : Program} {l n : Nat} {ops : Array Oper} {Q : Exit → Act → World → Prop}
theorem oper_round {o : Oper} {a : Act} {w : World} {next next' : Act → World → Prop} (hd : ∀ c, o.op ≠ Op.defer c) (hn : ∀ a w, next a w → next' a w) (h : o.wp P a w next Q) : o.wpIn (Fence.wide.inRound l) n P a w next' Q := by
  unfold Oper.wpIn
  refine ⟨fun _ _ => trivial, ?_⟩
  rw [Oper.semAt_plain (Fence.wide.inRound l) a.eval o hd]
  unfold Oper.wp at h
  generalize (execOp a.eval o).run P w = r at h ⊢
  cases r with
  | ok x w' =>
    cases x with
    | enter f args =>
      refine ⟨fun h0 => by simp [Fence.wide] at h0, ?_⟩
      refine CallsIn.inRound l ((callsIn_wide.2 h).mono fun e w'' he => ?_)
      cases e <;> first | exact hn _ _ he | exact he
    | row row args =>
      refine ⟨fun h0 => by simp [Fence.wide] at h0, fun c cs _ => ?_⟩
      obtain ⟨v, w'', hv, hs⟩ := h c cs
      exact ⟨v, w'', hn _ _ hv, stepsIn_wide.2 hs⟩
    | _ => first | exact hn _ _ h | exact (h : False).elim
  | halt x w' => cases x <;> first | exact h | exact (h : False).elim
theorem wpOp_round {i : Nat} {a : Act} {w : World} {K K' : Act → World → Prop} (hQ : ¬ LetsOut Q) (hd : ∀ (i : Nat) (o : Oper) c, ops[i]? = some o → o.op ≠ Op.defer c) (hn : ∀ a w, K a w → K' a w) (h : wpOp P ops Q i K a w) : wpOpIn (Fence.wide.inRound l) n P ops Q i K' a w := by
  unfold wpOp at h
  unfold wpOpIn
  cases ho : ops[i]? with
  | none => rw [ho] at h; exact hn _ _ h
  | some o =>
    simp only [ho] at h ⊢
    split
    · rename_i hw; simp only [hw, if_true] at h; rcases h with h | h; · exact oper_round (fun c => hd i o c ho) hn h
      · exact absurd h.2 hQ
    · rename_i hw; simp only [hw] at h; exact ⟨fun _ _ => trivial, hn _ _ h⟩
theorem wpAny_round {md : Region.Mode} (hQ : ¬ LetsOut Q) (hd : ∀ (i : Nat) (o : Oper) c, ops[i]? = some o → o.op ≠ Op.defer c) : ∀ (fuel : Nat) (listed : Array Bool) (a : Act) (w : World), wpAny P md ops Q fuel listed a w → wpAnyIn (Fence.wide.inRound l) n P md ops Q fuel listed a w
  | 0, _, _, _, h => h
  | fuel + 1, _, _, _, h => ⟨h.1, fun i hi => wpOp_round hQ hd (fun a w h' => wpAny_round hQ hd fuel _ a w h') (h.2 i hi)⟩
def plainOps (ops : Array Oper) : Bool := ops.toList.all fun o => match o.op with | Op.defer _ => false | _ => true
theorem plainOps_spec (h : plainOps ops = true) : ∀ (i : Nat) (o : Oper) c, ops[i]? = some o → o.op ≠ Op.defer c := by
  intro i o c ho he
  have := List.all_eq_true.1 h o (by rw [Array.mem_toList_iff]; exact Array.mem_of_getElem? ho)
  rw [he] at this
  cases this
/-- A drawn region in a round, by the words for one in a plain frame. -/
theorem startIn_ {S : World → Prop} {ds : List Nat} {id m : Nat} {a : Act} {w : World} (lst : Array Bool) (hQ : ¬ LetsOut Q) (hp : plainOps ops = true) (hm : P.follows .mixedOrders = true) (hn : ops.size = m) (hl : Array.replicate m false = lst) (hS : S w.drew)
    (h : S w.drew → wpAnyLast P .any ops Q S ds m lst a w.drew) : (Code.region id ops true).wpIn (Fence.wide.inRound l) n P Q a w := by
  subst hn
  subst hl
  exact wpIn_region_any hm (wpAny_round hQ (plainOps_spec hp) _ _ _ _ (wpAny_of_last _ _ _ _ (h hS)))
end
end Go.Proofs.Ytojdmloimmcacaa.TS
