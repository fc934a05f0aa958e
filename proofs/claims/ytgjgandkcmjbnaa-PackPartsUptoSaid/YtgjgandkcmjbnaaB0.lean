/- Proved: small facts on the seat's types, and what two slices are that differ in what they may grow to; no condition. -/
import Derived.Test.YtgjgandkcmjbnaaProg
import Derived.Below
import Derived.Deep.Draws
import Derived.Deep.AppendLies
import Derived.Maps.AppendAt
import Derived.OwnWalk
import Derived.Laws.BytesArg
import Derived.Laws.MakeOwn
import Derived.Laws.OwnMore
import Derived.Deep.OwnRows
import Derived.Tactics
import Derived.Lib.ConvBytes
import Derived.Laws.Slices
import Derived.WalkKit
import Derived.KernelRfl
import Derived.RowKit3
import Derived.Deep.LoopGhost
import Derived.Deep.QuietTactic
import Derived.BigQuiet
import Derived.WideLaws
import Derived.Deep.DeepCutAuto
import Derived.Deep.CutBlock
import Derived.Deep.RegionHeld3
import Derived.Laws.Rows
import Derived.Lib.AppendStr
import Derived.ArgAppend
import Derived.Laws.IdiomCopy
import Derived.OrdersHeld
import Derived.Laws.BitsLemmas
import Derived.RowKit
import Derived.Test.YtgjgandkcmjbnaaWWords
import Derived.Test.YtgjgandkcmjbnaaWLast
import Derived.Test.YtgjgandkcmjbnaaWTab
import Derived.Test.YtgjgandkcmjbnaaWFour
import Derived.Test.YtgjgandkcmjbnaaWQPut
import Derived.Test.YtgjgandkcmjbnaaWApart
import Derived.Test.YtgjgandkcmjbnaaWArr
import Derived.Test.YtgjgandkcmjbnaaWZeros
import Derived.Test.YtgjgandkcmjbnaaWFoot
import Derived.Test.YtgjgandkcmjbnaaWKept
import Derived.Test.YtgjgandkcmjbnaaWShare
import Derived.Test.YtgjgandkcmjbnaaWN
import Derived.Test.YtgjgandkcmjbnaaWFootNe
import Derived.Test.YtgjgandkcmjbnaaWAt
import Derived.Test.YtgjgandkcmjbnaaWEqStruct
import Derived.Test.YtgjgandkcmjbnaaWRepsOne
import Derived.Test.YtgjgandkcmjbnaaWInv
import Derived.Test.YtgjgandkcmjbnaaWInvWords
import Derived.Test.YtgjgandkcmjbnaaWGuard
import Derived.Test.YtgjgandkcmjbnaaWNEv
import Derived.Test.YtgjgandkcmjbnaaWMore
import Derived.Lib.SlBytesConst
namespace Go.Proofs.Ytgjgandkcmjbnaa.PB
open Go.RowKit Go.Proofs.YtgjgandkcmjbnaaW.PrintWords Go.Proofs.YtgjgandkcmjbnaaW.PrintLast Go.Proofs.YtgjgandkcmjbnaaW.PrintMore
attribute [local go_sem] max2_int min2_int max_two min_two max_three min_three max_four min_four   -- for this text's walks alone
set_option linter.unusedVariables false
set_option linter.unusedSimpArgs false

def errW : Option Int → Value
  | none => .nilIface
  | some c => .iface 0 (.int .i64 c)
theorem errW_none : errW none = .nilIface := rfl
theorem errW_some (c : Int) : errW (some c) = .iface 0 (.int .i64 c) := rfl

theorem info5 : (Try.prog.info? 5).map (fun i => (i.zero, i.size, i.bytes)) = some (some (.int .u8 0), 1, 1) := by kernel_rfl
theorem info9 : (Try.prog.info? 9).map (fun i => (i.zero, i.size, i.bytes)) = some (some (.string ⟨#[]⟩), 1, 16) := by kernel_rfl
theorem info22 : (Try.prog.info? 22).map (fun i => (i.zero, i.size, i.bytes)) = some (some (.slice none 0 0), 1, 24) := by kernel_rfl
theorem info23 : (Try.prog.info? 23).map (fun i => (i.zero, i.size, i.bytes)) = some (some (.int .u32 0), 1, 4) := by kernel_rfl
theorem info3 : (Try.prog.info? 3).map (fun i => (i.zero, i.size, i.bytes)) = some (some (.int .i64 0), 1, 8) := by kernel_rfl
def rd_L2 (xs : List (List Int)) (i : Int) : (List Int) := xs.getD i.toNat ([] : List Int)
theorem at_L2 {w : World} {A : Option Addr} {n : Nat} {xs : List (List Int)} (h : Kd.C (Kd.slice 5 (Kd.int .u8)) w A n xs) (i : Int) (h0 : 0 ≤ i) (h1 : i < n) : ∃ ad A0 c0, A = some ad ∧ w.cell? (ad.add i.toNat) = some (.slice A0 (rd_L2 xs i).length c0) ∧ (rd_L2 xs i).length ≤ c0 ∧ (Kd.int .u8).C w A0 (rd_L2 xs i).length (rd_L2 xs i) := by
  obtain ⟨ad, c, e, _, hK, hc0⟩ := Kd.C_get h ([] : List Int) i h0 h1
  have hc : ∀ j u, c[j]? = some u → w.cell? (ad.add (i.toNat * 1 + j)) = some u := hc0
  obtain ⟨A0, c0, rfl, l0, g0⟩ := hK
  exact ⟨ad, A0, c0, e, by have hq := hc 0 _ rfl; rwa [Nat.mul_one, Nat.add_zero] at hq, l0, g0⟩
/-- v is u, but for what it may grow to: both begin at one place and are as long. -/
def Cap (u v : Value) : Prop := ∃ A n c c', u = .slice A n c' ∧ v = .slice A n c ∧ n ≤ c ∧ n ≤ c'
theorem Cap.mk {A : Option Addr} {n c c' : Nat} (h : n ≤ c) (h' : n ≤ c') : Cap (.slice A n c') (.slice A n c) := ⟨A, n, c, c', rfl, rfl, h, h'⟩
theorem Cap.refl {A : Option Addr} {n c : Nat} (h : n ≤ c) : Cap (.slice A n c) (.slice A n c) := Cap.mk h h
/-- A text out of bytes does not ask what they may grow to. -/
theorem cap_string {P : Program} {src e dst : TypeId} (hs : P.underlying src = some (.slice e)) (he : P.underlying e = some (.int .u8)) (hd : P.underlying dst = some .string)
    {w : World} {base n c c' : Nat} {e' : TypeId} {A : Option Addr} {xs : List Int} (h : w.ownsRow base e' 1 (.slice A n c') n (nums .u8 xs)) :
    (convert src dst (.slice A n c)).run P w = .ok (.string (strOfNums xs)) w := by
  have hl : xs.length = n := by have := h.1; simp [nums] at this; exact this
  rcases h.2 with ⟨h0, rfl⟩ | ⟨g, cap, cur, h0, _⟩
  · cases h0
    obtain rfl : xs = [] := List.eq_nil_of_length_eq_zero hl
    exact run_convert_bytes_nil w src e hs he 0 c dst hd
  · cases h0
    refine run_convert_bytes_arg w src e hs he g 0 n c xs hl (fun i hi => ?_) dst hd
    have hc := h.cells (g := g) rfl i (.int .u8 (xs.getD i 0)) (by simp [nums, List.getElem?_eq_getElem (show i < xs.length by omega), List.getD_eq_getElem?_getD])
    have ha : (⟨g, 0, none⟩ : Addr).add i = ⟨g, 0 + i, none⟩ := by unfold Addr.add; split <;> simp_all
    rwa [ha] at hc
theorem cap_len {α : Type} {d : Kd α} {e : Nat} {w : World} {base : Nat} {ok : Nat → Prop} {A : Option Addr} {n c : Nat} {xs : List α} (h : d.R e w base ok (.slice A n c) xs) : n = xs.length := by
  obtain ⟨A', c', he⟩ := Kd.R_slice h
  injection he
/-- .. beside an error's number. -/
def RetCap2 (w : World) (r : List Int) (n : Int) (e : Ending) (w' : World) : Prop := ∃ v u : Value, e = .returned (.tuple #[v, .int .i64 n]) ∧ Cap u v ∧ Kd.R (Kd.int .u8) 5 w' w.heap.size (fun _ => True) u r ∧ Below w.heap.size w w'
theorem RetCap2.mk {w w' : World} {r : List Int} {n : Int} {u v : Value} (h1 : Cap u v) (h2 : Kd.R (Kd.int .u8) 5 w' w.heap.size (fun _ => True) u r) (h3 : Below w.heap.size w w') : RetCap2 w r n (.returned (.tuple #[v, .int .i64 n])) w' := ⟨v, u, rfl, h1, h2, h3⟩
/-- What a call comes to that hands back bytes of its own, capped. -/
def RetCap (w : World) (r : List Int) (e : Ending) (w' : World) : Prop := ∃ v u : Value, e = .returned v ∧ Cap u v ∧ Kd.R (Kd.int .u8) 5 w' w.heap.size (fun _ => True) u r ∧ Below w.heap.size w w'
theorem RetCap.mk {w w' : World} {r : List Int} {u v : Value} (h1 : Cap u v) (h2 : Kd.R (Kd.int .u8) 5 w' w.heap.size (fun _ => True) u r) (h3 : Below w.heap.size w w') : RetCap w r (.returned v) w' := ⟨v, u, rfl, h1, h2, h3⟩
/-- A new array of sixteen noughts, read as a row. -/
theorem tab_new {w : World} {base g : Nat} (hbox : w.heap[g]? = some (.cells #[.int .u32 0, .int .u32 0, .int .u32 0, .int .u32 0, .int .u32 0, .int .u32 0, .int .u32 0, .int .u32 0, .int .u32 0, .int .u32 0, .int .u32 0, .int .u32 0, .int .u32 0, .int .u32 0, .int .u32 0, .int .u32 0] 65 (0, 0))) (hb : base ≤ g) :
    Kd.R (Kd.int .u32) 65 w base (fun _ => True) (.slice (some ⟨g, 0, none⟩) (List.replicate 16 (0 : Int)).length 16) (List.replicate 16 (0 : Int)) :=
  Kd.R_of_own ⟨rfl, .inr ⟨g, 16, _, rfl, hb, hbox, Nat.le_refl _, by unfold maxLen; omega, rfl, rfl⟩⟩ (fun _ _ => trivial)
theorem addr0 (g k : Nat) : (⟨g, 0, none⟩ : Addr).add k = ⟨g, k, none⟩ := by unfold Addr.add; split <;> simp_all
theorem unXor (n : Int) (w : World) : (Op.unary .xor (.int .u32 n)).run Try.prog w = .ok (.int .u32 (Go.bits .xor .u32 4294967295 n)) w := rfl
/-- A block of bytes, whatever mark it bears, reads as them. -/
theorem C_marked {w : World} {g t : Nat} {fr : Nat × Nat} {xs : List Int} {n : Nat} (h : w.heap[g]? = some (.cells (xs.map (Value.int .u8)).toArray t fr)) (hn : xs.length = n ∧ n ≤ 9223372036854775807) :
    Kd.C (Kd.int .u8) w (some ⟨g, 0, none⟩) n xs := by
  refine ⟨hn.1, hn.2, fun _ => ⟨_, rfl, fun j p hp => ⟨[.int .u8 p], rfl, rfl, fun i u hu => ?_⟩⟩⟩
  cases i with
  | zero =>
    simp only [List.getElem?_cons_zero, Option.some.injEq] at hu
    subst hu
    rw [addr0]
    simp only [World.cell?, h]
    show ((xs.map (Value.int .u8)).toArray)[j * 1 + 0]? = _
    simp [hp]
  | succ i => simp at hu
end Go.Proofs.Ytgjgandkcmjbnaa.PB
