/-
  No cell of these rows narrows 'for every input' (looked for: loops, veiled, ifaces, maps, wideKeys, modest, calm, conditions, laid).
  DERIVED. THE GIVEN ROWS OF THIS SEAT. 3 by the template 'for every input the law returns true; each argument reads behind the call as it read before'; 0 by the template 'total and deterministic' (their statements: YtojdmloimmcacaaTotals.lean).
  GIVEN WITH THE SEED: the statements are not yours to turn. If you find one false, say at which input.
  Laid BY PROGRAM, IN A SANDBOX (cutbox-rows.mjs): the forced cells as the released guide's own fill.sh prints them over the translation f7c43345feec4db2… (all of the seat's roots in one cut). By AI agents, Wed Nov 11 2026. No macro, syntax, notation, axiom, sorry.
-/
import Derived.Test.YtojdmloimmcacaaChecked
import GoSem.Claim
import GoSem.ClaimJoined
import GoSem.ClaimMapViews
import Derived.JoinedTies
import Derived.KernelRfl
namespace Go.Proofs.Ytojdmloimmcacaa
/- THE CELL 'sum', in the pinned program and in every row, IS THE sha256 OF THE DUMP (.gsa) THAT YtojdmloimmcacaaProg.lean LOADS. Nothing in Lean hashes anything: it is a label: what it is worth is what the hold of that sum in a sandbox is worth. -/
noncomputable def Try.pinned : Pinned := { name := "ytojdmloimmcacaa", sum := "f7c43345feec4db27759ca339d3a9c1ac3ceec6ed0ee081cc6de37cb4f4a6026", checked := Try.checked }
namespace Rows
def none {H : Type} : Left H := { results := [], args := [] }

/-- 'terrierlaw11.TurnSorts': WHATEVER THE INPUT: true; the input reads as it did. -/
def turnSortsSpec : ChangeSpec := { name := "turnSorts", fn := fun _ => fun
  | [d1, d2] => { results := [.lit (.bool true)], args := [d1, d2] }
  | _ => none }
def turnSortsRow : OpenClaim := { program := "ytojdmloimmcacaa", sum := "f7c43345feec4db27759ca339d3a9c1ac3ceec6ed0ee081cc6de37cb4f4a6026", func := "terrier/terrierlaw11.TurnSorts", spec := "turnSorts", unfollowed := true, recurses := true, apart := false }
def TurnSortsSaid : Prop := turnSortsRow.holds Try.pinned (OpenSpec.ofChange turnSortsSpec)

/-- ITS FALSE NEIGHBOUR: 'it returns false'. Refute it at one input. -/
def turnSortsWrong : ChangeSpec := { name := "turnSorts", fn := fun _ => fun
  | [d1, d2] => { results := [.lit (.bool false)], args := [d1, d2] }
  | _ => none }
def TurnSortsWrongFalsely : Prop := turnSortsRow.holds Try.pinned (OpenSpec.ofChange turnSortsWrong)

/-- 'terrierlaw11.TurnRounds': WHATEVER THE INPUT: true; the input reads as it did. -/
def turnRoundsSpec : ChangeSpec := { name := "turnRounds", fn := fun _ => fun
  | [d] => { results := [.lit (.bool true)], args := [d] }
  | _ => none }
def turnRoundsRow : OpenClaim := { program := "ytojdmloimmcacaa", sum := "f7c43345feec4db27759ca339d3a9c1ac3ceec6ed0ee081cc6de37cb4f4a6026", func := "terrier/terrierlaw11.TurnRounds", spec := "turnRounds", unfollowed := true, recurses := true, apart := false }
def TurnRoundsSaid : Prop := turnRoundsRow.holds Try.pinned (OpenSpec.ofChange turnRoundsSpec)

/-- ITS FALSE NEIGHBOUR: 'it returns false'. Refute it at one input. -/
def turnRoundsWrong : ChangeSpec := { name := "turnRounds", fn := fun _ => fun
  | [d] => { results := [.lit (.bool false)], args := [d] }
  | _ => none }
def TurnRoundsWrongFalsely : Prop := turnRoundsRow.holds Try.pinned (OpenSpec.ofChange turnRoundsWrong)

/-- 'terrierlaw11.TurnQuarters': WHATEVER THE INPUT: true; the input reads as it did. -/
def turnQuartersSpec : ChangeSpec := { name := "turnQuarters", fn := fun _ => fun
  | [d1, d2] => { results := [.lit (.bool true)], args := [d1, d2] }
  | _ => none }
def turnQuartersRow : OpenClaim := { program := "ytojdmloimmcacaa", sum := "f7c43345feec4db27759ca339d3a9c1ac3ceec6ed0ee081cc6de37cb4f4a6026", func := "terrier/terrierlaw11.TurnQuarters", spec := "turnQuarters", unfollowed := true, recurses := true, apart := false }
def TurnQuartersSaid : Prop := turnQuartersRow.holds Try.pinned (OpenSpec.ofChange turnQuartersSpec)

/-- ITS FALSE NEIGHBOUR: 'it returns false'. Refute it at one input. -/
def turnQuartersWrong : ChangeSpec := { name := "turnQuarters", fn := fun _ => fun
  | [d1, d2] => { results := [.lit (.bool false)], args := [d1, d2] }
  | _ => none }
def TurnQuartersWrongFalsely : Prop := turnQuartersRow.holds Try.pinned (OpenSpec.ofChange turnQuartersWrong)

/- THE SECOND FORM. 'bulk': how many values and letters a reading holds, each counted each time it is reached (what is shared counts as often as it is met; a slice's spare places count too). A statement '..UptoSaid' is the law's where the arguments, and the package variables that the reading takes, are together of bulk at most 1048576: NARROWER than '..Said'. Prove '..Said' where nothing that the law and all that it calls make is longer than what came in: it says more and counts as full. Else prove '..UptoSaid'. A law counts once. -/
mutual
def uptoBulk {H : Type} : DataW H → Nat
  | .lit (.string bytes) => bytes.length + 1
  | .lit _ => 1
  | .nil => 1
  | .ptr d => uptoBulk d + 1
  | .slice elems spare => uptoBulkAll elems + uptoBulkAll spare + 1
  | .agg parts => uptoBulkAll parts + 1
  | .iface _ d => uptoBulk d + 1
  | .map entries => uptoBulkEntries entries + 1
  | .held _ => 1
def uptoBulkAll {H : Type} : List (DataW H) → Nat
  | [] => 0
  | d :: r => uptoBulk d + uptoBulkAll r
def uptoBulkEntries {H : Type} : List (Lit × DataW H) → Nat
  | [] => 0
  | x :: r => uptoBulkEntry x + uptoBulkEntries r
def uptoBulkEntry {H : Type} : Lit × DataW H → Nat
  | (.string bytes, d) => bytes.length + uptoBulk d + 1
  | (_, d) => uptoBulk d + 1
 end
def uptoSmall : (H : Type) → List (DataW H) → Bool := fun _ ds => decide (uptoBulkAll ds ≤ 1048576)
def OpenSpec.upto (s : _root_.Go.ChangeSpec) : _root_.Go.OpenSpec := { _root_.Go.OpenSpec.ofChange s with cond := some uptoSmall }

/-- 'terrierlaw11.TurnSorts', WHERE WHAT IT READS IS OF BULK AT MOST 1048576: true; the input reads as it did. -/
def turnSortsUptoRow : OpenClaim := { program := "ytojdmloimmcacaa", sum := "f7c43345feec4db27759ca339d3a9c1ac3ceec6ed0ee081cc6de37cb4f4a6026", func := "terrier/terrierlaw11.TurnSorts", spec := "turnSorts", unfollowed := true, recurses := true, apart := false, narrowed := true }
def TurnSortsUptoSaid : Prop := turnSortsUptoRow.holds Try.pinned (OpenSpec.upto turnSortsSpec)

/-- 'terrierlaw11.TurnRounds', WHERE WHAT IT READS IS OF BULK AT MOST 1048576: true; the input reads as it did. -/
def turnRoundsUptoRow : OpenClaim := { program := "ytojdmloimmcacaa", sum := "f7c43345feec4db27759ca339d3a9c1ac3ceec6ed0ee081cc6de37cb4f4a6026", func := "terrier/terrierlaw11.TurnRounds", spec := "turnRounds", unfollowed := true, recurses := true, apart := false, narrowed := true }
def TurnRoundsUptoSaid : Prop := turnRoundsUptoRow.holds Try.pinned (OpenSpec.upto turnRoundsSpec)

/-- 'terrierlaw11.TurnQuarters', WHERE WHAT IT READS IS OF BULK AT MOST 1048576: true; the input reads as it did. -/
def turnQuartersUptoRow : OpenClaim := { program := "ytojdmloimmcacaa", sum := "f7c43345feec4db27759ca339d3a9c1ac3ceec6ed0ee081cc6de37cb4f4a6026", func := "terrier/terrierlaw11.TurnQuarters", spec := "turnQuarters", unfollowed := true, recurses := true, apart := false, narrowed := true }
def TurnQuartersUptoSaid : Prop := turnQuartersUptoRow.holds Try.pinned (OpenSpec.upto turnQuartersSpec)

end Rows
end Go.Proofs.Ytojdmloimmcacaa
