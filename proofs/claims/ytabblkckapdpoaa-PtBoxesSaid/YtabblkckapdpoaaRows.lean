/-
  No cell of these rows narrows 'for every input' (looked for: loops, veiled, ifaces, maps, wideKeys, modest, calm, conditions, laid).
  DERIVED. THE GIVEN ROWS OF THIS SEAT. 9 by the template 'for every input the law returns true; each argument reads behind the call as it read before'; 0 by the template 'total and deterministic' (their statements: YtabblkckapdpoaaTotals.lean).
  GIVEN WITH THE SEED: the statements are not yours to turn. If you find one false, say at which input.
  Laid BY PROGRAM, IN A SANDBOX (cutbox-rows.mjs): the forced cells as the released guide's own fill.sh prints them over the translation 5c7a40e0ddee43c9… (all of the seat's roots in one cut). By AI agents, Wed Nov 11 2026. No macro, syntax, notation, axiom, sorry.
-/
import Derived.Test.YtabblkckapdpoaaChecked
import GoSem.Claim
import GoSem.ClaimJoined
import GoSem.ClaimMapViews
import Derived.JoinedTies
import Derived.KernelRfl
namespace Go.Proofs.Ytabblkckapdpoaa
/- THE CELL 'sum', in the pinned program and in every row, IS THE sha256 OF THE DUMP (.gsa) THAT YtabblkckapdpoaaProg.lean LOADS. Nothing in Lean hashes anything: it is a label: what it is worth is what the hold of that sum in a sandbox is worth. -/
noncomputable def Try.pinned : Pinned := { name := "ytabblkckapdpoaa", sum := "5c7a40e0ddee43c989e594c7cd67d00d2fa329a8200f05dbc985e5abbb9cf58b", checked := Try.checked }
namespace Rows
def none {H : Type} : Left H := { results := [], args := [] }

/-- 'terrierlaw9.PtMoves': WHATEVER THE INPUT: true; the input reads as it did. -/
def ptMovesSpec : ChangeSpec := { name := "ptMoves", fn := fun _ => fun
  | [d1, d2, d3, d4, d5] => { results := [.lit (.bool true)], args := [d1, d2, d3, d4, d5] }
  | _ => none }
def ptMovesRow : OpenClaim := { program := "ytabblkckapdpoaa", sum := "5c7a40e0ddee43c989e594c7cd67d00d2fa329a8200f05dbc985e5abbb9cf58b", func := "terrier/terrierlaw9.PtMoves", spec := "ptMoves", apart := false }
def PtMovesSaid : Prop := ptMovesRow.holds Try.pinned (OpenSpec.ofChange ptMovesSpec)

/-- ITS FALSE NEIGHBOUR: 'it returns false'. Refute it at one input. -/
def ptMovesWrong : ChangeSpec := { name := "ptMoves", fn := fun _ => fun
  | [d1, d2, d3, d4, d5] => { results := [.lit (.bool false)], args := [d1, d2, d3, d4, d5] }
  | _ => none }
def PtMovesWrongFalsely : Prop := ptMovesRow.holds Try.pinned (OpenSpec.ofChange ptMovesWrong)

/-- 'terrierlaw9.PtSums': WHATEVER THE INPUT: true; the input reads as it did. -/
def ptSumsSpec : ChangeSpec := { name := "ptSums", fn := fun _ => fun
  | [d1, d2, d3, d4] => { results := [.lit (.bool true)], args := [d1, d2, d3, d4] }
  | _ => none }
def ptSumsRow : OpenClaim := { program := "ytabblkckapdpoaa", sum := "5c7a40e0ddee43c989e594c7cd67d00d2fa329a8200f05dbc985e5abbb9cf58b", func := "terrier/terrierlaw9.PtSums", spec := "ptSums", apart := false }
def PtSumsSaid : Prop := ptSumsRow.holds Try.pinned (OpenSpec.ofChange ptSumsSpec)

/-- ITS FALSE NEIGHBOUR: 'it returns false'. Refute it at one input. -/
def ptSumsWrong : ChangeSpec := { name := "ptSums", fn := fun _ => fun
  | [d1, d2, d3, d4] => { results := [.lit (.bool false)], args := [d1, d2, d3, d4] }
  | _ => none }
def PtSumsWrongFalsely : Prop := ptSumsRow.holds Try.pinned (OpenSpec.ofChange ptSumsWrong)

/-- 'terrierlaw9.PtOrders': WHATEVER THE INPUT: true; the input reads as it did. -/
def ptOrdersSpec : ChangeSpec := { name := "ptOrders", fn := fun _ => fun
  | [d1, d2, d3] => { results := [.lit (.bool true)], args := [d1, d2, d3] }
  | _ => none }
def ptOrdersRow : OpenClaim := { program := "ytabblkckapdpoaa", sum := "5c7a40e0ddee43c989e594c7cd67d00d2fa329a8200f05dbc985e5abbb9cf58b", func := "terrier/terrierlaw9.PtOrders", spec := "ptOrders", apart := false }
def PtOrdersSaid : Prop := ptOrdersRow.holds Try.pinned (OpenSpec.ofChange ptOrdersSpec)

/-- ITS FALSE NEIGHBOUR: 'it returns false'. Refute it at one input. -/
def ptOrdersWrong : ChangeSpec := { name := "ptOrders", fn := fun _ => fun
  | [d1, d2, d3] => { results := [.lit (.bool false)], args := [d1, d2, d3] }
  | _ => none }
def PtOrdersWrongFalsely : Prop := ptOrdersRow.holds Try.pinned (OpenSpec.ofChange ptOrdersWrong)

/-- 'terrierlaw9.PtTurns': WHATEVER THE INPUT: true; the input reads as it did. -/
def ptTurnsSpec : ChangeSpec := { name := "ptTurns", fn := fun _ => fun
  | [d1, d2, d3] => { results := [.lit (.bool true)], args := [d1, d2, d3] }
  | _ => none }
def ptTurnsRow : OpenClaim := { program := "ytabblkckapdpoaa", sum := "5c7a40e0ddee43c989e594c7cd67d00d2fa329a8200f05dbc985e5abbb9cf58b", func := "terrier/terrierlaw9.PtTurns", spec := "ptTurns", apart := false }
def PtTurnsSaid : Prop := ptTurnsRow.holds Try.pinned (OpenSpec.ofChange ptTurnsSpec)

/-- ITS FALSE NEIGHBOUR: 'it returns false'. Refute it at one input. -/
def ptTurnsWrong : ChangeSpec := { name := "ptTurns", fn := fun _ => fun
  | [d1, d2, d3] => { results := [.lit (.bool false)], args := [d1, d2, d3] }
  | _ => none }
def PtTurnsWrongFalsely : Prop := ptTurnsRow.holds Try.pinned (OpenSpec.ofChange ptTurnsWrong)

/-- 'terrierlaw9.PtMidst': WHATEVER THE INPUT: true; the input reads as it did. -/
def ptMidstSpec : ChangeSpec := { name := "ptMidst", fn := fun _ => fun
  | [d1, d2, d3] => { results := [.lit (.bool true)], args := [d1, d2, d3] }
  | _ => none }
def ptMidstRow : OpenClaim := { program := "ytabblkckapdpoaa", sum := "5c7a40e0ddee43c989e594c7cd67d00d2fa329a8200f05dbc985e5abbb9cf58b", func := "terrier/terrierlaw9.PtMidst", spec := "ptMidst", apart := false }
def PtMidstSaid : Prop := ptMidstRow.holds Try.pinned (OpenSpec.ofChange ptMidstSpec)

/-- ITS FALSE NEIGHBOUR: 'it returns false'. Refute it at one input. -/
def ptMidstWrong : ChangeSpec := { name := "ptMidst", fn := fun _ => fun
  | [d1, d2, d3] => { results := [.lit (.bool false)], args := [d1, d2, d3] }
  | _ => none }
def PtMidstWrongFalsely : Prop := ptMidstRow.holds Try.pinned (OpenSpec.ofChange ptMidstWrong)

/-- 'terrierlaw9.PtLines': WHATEVER THE INPUT: true; the input reads as it did. -/
def ptLinesSpec : ChangeSpec := { name := "ptLines", fn := fun _ => fun
  | [d1, d2, d3, d4, d5] => { results := [.lit (.bool true)], args := [d1, d2, d3, d4, d5] }
  | _ => none }
def ptLinesRow : OpenClaim := { program := "ytabblkckapdpoaa", sum := "5c7a40e0ddee43c989e594c7cd67d00d2fa329a8200f05dbc985e5abbb9cf58b", func := "terrier/terrierlaw9.PtLines", spec := "ptLines", apart := false }
def PtLinesSaid : Prop := ptLinesRow.holds Try.pinned (OpenSpec.ofChange ptLinesSpec)

/-- ITS FALSE NEIGHBOUR: 'it returns false'. Refute it at one input. -/
def ptLinesWrong : ChangeSpec := { name := "ptLines", fn := fun _ => fun
  | [d1, d2, d3, d4, d5] => { results := [.lit (.bool false)], args := [d1, d2, d3, d4, d5] }
  | _ => none }
def PtLinesWrongFalsely : Prop := ptLinesRow.holds Try.pinned (OpenSpec.ofChange ptLinesWrong)

/-- 'terrierlaw9.PtOn': WHATEVER THE INPUT: true; the input reads as it did. -/
def ptOnSpec : ChangeSpec := { name := "ptOn", fn := fun _ => fun
  | [d1, d2, d3] => { results := [.lit (.bool true)], args := [d1, d2, d3] }
  | _ => none }
def ptOnRow : OpenClaim := { program := "ytabblkckapdpoaa", sum := "5c7a40e0ddee43c989e594c7cd67d00d2fa329a8200f05dbc985e5abbb9cf58b", func := "terrier/terrierlaw9.PtOn", spec := "ptOn", apart := false }
def PtOnSaid : Prop := ptOnRow.holds Try.pinned (OpenSpec.ofChange ptOnSpec)

/-- ITS FALSE NEIGHBOUR: 'it returns false'. Refute it at one input. -/
def ptOnWrong : ChangeSpec := { name := "ptOn", fn := fun _ => fun
  | [d1, d2, d3] => { results := [.lit (.bool false)], args := [d1, d2, d3] }
  | _ => none }
def PtOnWrongFalsely : Prop := ptOnRow.holds Try.pinned (OpenSpec.ofChange ptOnWrong)

/-- 'terrierlaw9.PtMorton': WHATEVER THE INPUT: true; the input reads as it did. -/
def ptMortonSpec : ChangeSpec := { name := "ptMorton", fn := fun _ => fun
  | [d1, d2] => { results := [.lit (.bool true)], args := [d1, d2] }
  | _ => none }
def ptMortonRow : OpenClaim := { program := "ytabblkckapdpoaa", sum := "5c7a40e0ddee43c989e594c7cd67d00d2fa329a8200f05dbc985e5abbb9cf58b", func := "terrier/terrierlaw9.PtMorton", spec := "ptMorton", apart := false }
def PtMortonSaid : Prop := ptMortonRow.holds Try.pinned (OpenSpec.ofChange ptMortonSpec)

/-- ITS FALSE NEIGHBOUR: 'it returns false'. Refute it at one input. -/
def ptMortonWrong : ChangeSpec := { name := "ptMorton", fn := fun _ => fun
  | [d1, d2] => { results := [.lit (.bool false)], args := [d1, d2] }
  | _ => none }
def PtMortonWrongFalsely : Prop := ptMortonRow.holds Try.pinned (OpenSpec.ofChange ptMortonWrong)

/-- 'terrierlaw9.PtBoxes': WHATEVER THE INPUT: true; the input reads as it did. -/
def ptBoxesSpec : ChangeSpec := { name := "ptBoxes", fn := fun _ => fun
  | [d1, d2, d3, d4, d5] => { results := [.lit (.bool true)], args := [d1, d2, d3, d4, d5] }
  | _ => none }
def ptBoxesRow : OpenClaim := { program := "ytabblkckapdpoaa", sum := "5c7a40e0ddee43c989e594c7cd67d00d2fa329a8200f05dbc985e5abbb9cf58b", func := "terrier/terrierlaw9.PtBoxes", spec := "ptBoxes", apart := false }
def PtBoxesSaid : Prop := ptBoxesRow.holds Try.pinned (OpenSpec.ofChange ptBoxesSpec)

/-- ITS FALSE NEIGHBOUR: 'it returns false'. Refute it at one input. -/
def ptBoxesWrong : ChangeSpec := { name := "ptBoxes", fn := fun _ => fun
  | [d1, d2, d3, d4, d5] => { results := [.lit (.bool false)], args := [d1, d2, d3, d4, d5] }
  | _ => none }
def PtBoxesWrongFalsely : Prop := ptBoxesRow.holds Try.pinned (OpenSpec.ofChange ptBoxesWrong)

/- THE SECOND FORM. 'bulk': how many values and letters a reading holds, each counted each time it is reached (what is shared counts as often as it is met; a slice's spare places count too). A statement '..UptoSaid' is the law's where the arguments, and the package variables that the reading takes, are together of bulk at most 1048576: NARROWER than '..Said'. Prove '..Said' where nothing that the law and all that it calls make is longer than what came in: it says more and counts as full. Else prove '..UptoSaid'. A law counts once. -/
mutual
def uptoBulk {H : Type} : DataW H → Nat
  | .lit (.string bytes) => bytes.length + 1
  | .lit _ => 1
  | .nil => 1
  | .ptr d => uptoBulk d + 1
  | .slice elems spare => uptoBulkAll elems + uptoBulkAll spare + 1
  | .agg parts => uptoBulkAll parts + 1
  | .iface _ d => uptoBulk d + 1
  | .map entries => uptoBulkEntries entries + 1
  | .held _ => 1
def uptoBulkAll {H : Type} : List (DataW H) → Nat
  | [] => 0
  | d :: r => uptoBulk d + uptoBulkAll r
def uptoBulkEntries {H : Type} : List (Lit × DataW H) → Nat
  | [] => 0
  | x :: r => uptoBulkEntry x + uptoBulkEntries r
def uptoBulkEntry {H : Type} : Lit × DataW H → Nat
  | (.string bytes, d) => bytes.length + uptoBulk d + 1
  | (_, d) => uptoBulk d + 1
 end
def uptoSmall : (H : Type) → List (DataW H) → Bool := fun _ ds => decide (uptoBulkAll ds ≤ 1048576)
def OpenSpec.upto (s : _root_.Go.ChangeSpec) : _root_.Go.OpenSpec := { _root_.Go.OpenSpec.ofChange s with cond := some uptoSmall }

/-- 'terrierlaw9.PtMoves', WHERE WHAT IT READS IS OF BULK AT MOST 1048576: true; the input reads as it did. -/
def ptMovesUptoRow : OpenClaim := { program := "ytabblkckapdpoaa", sum := "5c7a40e0ddee43c989e594c7cd67d00d2fa329a8200f05dbc985e5abbb9cf58b", func := "terrier/terrierlaw9.PtMoves", spec := "ptMoves", apart := false, narrowed := true }
def PtMovesUptoSaid : Prop := ptMovesUptoRow.holds Try.pinned (OpenSpec.upto ptMovesSpec)

/-- 'terrierlaw9.PtSums', WHERE WHAT IT READS IS OF BULK AT MOST 1048576: true; the input reads as it did. -/
def ptSumsUptoRow : OpenClaim := { program := "ytabblkckapdpoaa", sum := "5c7a40e0ddee43c989e594c7cd67d00d2fa329a8200f05dbc985e5abbb9cf58b", func := "terrier/terrierlaw9.PtSums", spec := "ptSums", apart := false, narrowed := true }
def PtSumsUptoSaid : Prop := ptSumsUptoRow.holds Try.pinned (OpenSpec.upto ptSumsSpec)

/-- 'terrierlaw9.PtOrders', WHERE WHAT IT READS IS OF BULK AT MOST 1048576: true; the input reads as it did. -/
def ptOrdersUptoRow : OpenClaim := { program := "ytabblkckapdpoaa", sum := "5c7a40e0ddee43c989e594c7cd67d00d2fa329a8200f05dbc985e5abbb9cf58b", func := "terrier/terrierlaw9.PtOrders", spec := "ptOrders", apart := false, narrowed := true }
def PtOrdersUptoSaid : Prop := ptOrdersUptoRow.holds Try.pinned (OpenSpec.upto ptOrdersSpec)

/-- 'terrierlaw9.PtTurns', WHERE WHAT IT READS IS OF BULK AT MOST 1048576: true; the input reads as it did. -/
def ptTurnsUptoRow : OpenClaim := { program := "ytabblkckapdpoaa", sum := "5c7a40e0ddee43c989e594c7cd67d00d2fa329a8200f05dbc985e5abbb9cf58b", func := "terrier/terrierlaw9.PtTurns", spec := "ptTurns", apart := false, narrowed := true }
def PtTurnsUptoSaid : Prop := ptTurnsUptoRow.holds Try.pinned (OpenSpec.upto ptTurnsSpec)

/-- 'terrierlaw9.PtMidst', WHERE WHAT IT READS IS OF BULK AT MOST 1048576: true; the input reads as it did. -/
def ptMidstUptoRow : OpenClaim := { program := "ytabblkckapdpoaa", sum := "5c7a40e0ddee43c989e594c7cd67d00d2fa329a8200f05dbc985e5abbb9cf58b", func := "terrier/terrierlaw9.PtMidst", spec := "ptMidst", apart := false, narrowed := true }
def PtMidstUptoSaid : Prop := ptMidstUptoRow.holds Try.pinned (OpenSpec.upto ptMidstSpec)

/-- 'terrierlaw9.PtLines', WHERE WHAT IT READS IS OF BULK AT MOST 1048576: true; the input reads as it did. -/
def ptLinesUptoRow : OpenClaim := { program := "ytabblkckapdpoaa", sum := "5c7a40e0ddee43c989e594c7cd67d00d2fa329a8200f05dbc985e5abbb9cf58b", func := "terrier/terrierlaw9.PtLines", spec := "ptLines", apart := false, narrowed := true }
def PtLinesUptoSaid : Prop := ptLinesUptoRow.holds Try.pinned (OpenSpec.upto ptLinesSpec)

/-- 'terrierlaw9.PtOn', WHERE WHAT IT READS IS OF BULK AT MOST 1048576: true; the input reads as it did. -/
def ptOnUptoRow : OpenClaim := { program := "ytabblkckapdpoaa", sum := "5c7a40e0ddee43c989e594c7cd67d00d2fa329a8200f05dbc985e5abbb9cf58b", func := "terrier/terrierlaw9.PtOn", spec := "ptOn", apart := false, narrowed := true }
def PtOnUptoSaid : Prop := ptOnUptoRow.holds Try.pinned (OpenSpec.upto ptOnSpec)

/-- 'terrierlaw9.PtMorton', WHERE WHAT IT READS IS OF BULK AT MOST 1048576: true; the input reads as it did. -/
def ptMortonUptoRow : OpenClaim := { program := "ytabblkckapdpoaa", sum := "5c7a40e0ddee43c989e594c7cd67d00d2fa329a8200f05dbc985e5abbb9cf58b", func := "terrier/terrierlaw9.PtMorton", spec := "ptMorton", apart := false, narrowed := true }
def PtMortonUptoSaid : Prop := ptMortonUptoRow.holds Try.pinned (OpenSpec.upto ptMortonSpec)

/-- 'terrierlaw9.PtBoxes', WHERE WHAT IT READS IS OF BULK AT MOST 1048576: true; the input reads as it did. -/
def ptBoxesUptoRow : OpenClaim := { program := "ytabblkckapdpoaa", sum := "5c7a40e0ddee43c989e594c7cd67d00d2fa329a8200f05dbc985e5abbb9cf58b", func := "terrier/terrierlaw9.PtBoxes", spec := "ptBoxes", apart := false, narrowed := true }
def PtBoxesUptoSaid : Prop := ptBoxesUptoRow.holds Try.pinned (OpenSpec.upto ptBoxesSpec)

end Rows
end Go.Proofs.Ytabblkckapdpoaa
