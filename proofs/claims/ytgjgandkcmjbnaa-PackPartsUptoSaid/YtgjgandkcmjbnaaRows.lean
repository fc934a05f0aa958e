/-
  No cell of these rows narrows 'for every input' (looked for: loops, veiled, ifaces, maps, wideKeys, modest, calm, conditions, laid).
  DERIVED. THE GIVEN ROWS OF THIS SEAT. 7 by the template 'for every input the law returns true; each argument reads behind the call as it read before'; 0 by the template 'total and deterministic' (their statements: YtgjgandkcmjbnaaTotals.lean).
  GIVEN WITH THE SEED: the statements are not yours to turn. If you find one false, say at which input.
  Laid BY PROGRAM, IN A SANDBOX (cutbox-rows.mjs): the forced cells as the released guide's own fill.sh prints them over the translation 57b4dc5cecbc1fa6… (all of the seat's roots in one cut). By AI agents, Wed Nov 11 2026. No macro, syntax, notation, axiom, sorry.
-/
import Derived.Test.YtgjgandkcmjbnaaChecked
import GoSem.Claim
import GoSem.ClaimJoined
import GoSem.ClaimMapViews
import Derived.JoinedTies
import Derived.KernelRfl
namespace Go.Proofs.Ytgjgandkcmjbnaa
/- THE CELL 'sum', in the pinned program and in every row, IS THE sha256 OF THE DUMP (.gsa) THAT YtgjgandkcmjbnaaProg.lean LOADS. Nothing in Lean hashes anything: it is a label: what it is worth is what the hold of that sum in a sandbox is worth. -/
noncomputable def Try.pinned : Pinned := { name := "ytgjgandkcmjbnaa", sum := "57b4dc5cecbc1fa6ed2fae7a57e9161d3cfd0bacdfbdc53e3202b031ac9d93b3", checked := Try.checked }
namespace Rows
def none {H : Type} : Left H := { results := [], args := [] }

/-- 'terrierlaw1.PackSums': WHATEVER THE INPUT: true; the input reads as it did. -/
def packSumsSpec : ChangeSpec := { name := "packSums", fn := fun _ => fun
  | [d1, d2, d3] => { results := [.lit (.bool true)], args := [d1, d2, d3] }
  | _ => none }
def packSumsRow : OpenClaim := { program := "ytgjgandkcmjbnaa", sum := "57b4dc5cecbc1fa6ed2fae7a57e9161d3cfd0bacdfbdc53e3202b031ac9d93b3", func := "terrier/terrierlaw1.PackSums", spec := "packSums", apart := false }
def PackSumsSaid : Prop := packSumsRow.holds Try.pinned (OpenSpec.ofChange packSumsSpec)

/-- ITS FALSE NEIGHBOUR: 'it returns false'. Refute it at one input. -/
def packSumsWrong : ChangeSpec := { name := "packSums", fn := fun _ => fun
  | [d1, d2, d3] => { results := [.lit (.bool false)], args := [d1, d2, d3] }
  | _ => none }
def PackSumsWrongFalsely : Prop := packSumsRow.holds Try.pinned (OpenSpec.ofChange packSumsWrong)

/-- 'terrierlaw1.PackOrders': WHATEVER THE INPUT: true; the input reads as it did. -/
def packOrdersSpec : ChangeSpec := { name := "packOrders", fn := fun _ => fun
  | [d1, d2] => { results := [.lit (.bool true)], args := [d1, d2] }
  | _ => none }
def packOrdersRow : OpenClaim := { program := "ytgjgandkcmjbnaa", sum := "57b4dc5cecbc1fa6ed2fae7a57e9161d3cfd0bacdfbdc53e3202b031ac9d93b3", func := "terrier/terrierlaw1.PackOrders", spec := "packOrders", apart := false }
def PackOrdersSaid : Prop := packOrdersRow.holds Try.pinned (OpenSpec.ofChange packOrdersSpec)

/-- ITS FALSE NEIGHBOUR: 'it returns false'. Refute it at one input. -/
def packOrdersWrong : ChangeSpec := { name := "packOrders", fn := fun _ => fun
  | [d1, d2] => { results := [.lit (.bool false)], args := [d1, d2] }
  | _ => none }
def PackOrdersWrongFalsely : Prop := packOrdersRow.holds Try.pinned (OpenSpec.ofChange packOrdersWrong)

/-- 'terrierlaw1.PackMany': WHATEVER THE INPUT: true; the input reads as it did. -/
def packManySpec : ChangeSpec := { name := "packMany", fn := fun _ => fun
  | [d1, d2] => { results := [.lit (.bool true)], args := [d1, d2] }
  | _ => none }
def packManyRow : OpenClaim := { program := "ytgjgandkcmjbnaa", sum := "57b4dc5cecbc1fa6ed2fae7a57e9161d3cfd0bacdfbdc53e3202b031ac9d93b3", func := "terrier/terrierlaw1.PackMany", spec := "packMany", apart := false }
def PackManySaid : Prop := packManyRow.holds Try.pinned (OpenSpec.ofChange packManySpec)

/-- ITS FALSE NEIGHBOUR: 'it returns false'. Refute it at one input. -/
def packManyWrong : ChangeSpec := { name := "packMany", fn := fun _ => fun
  | [d1, d2] => { results := [.lit (.bool false)], args := [d1, d2] }
  | _ => none }
def PackManyWrongFalsely : Prop := packManyRow.holds Try.pinned (OpenSpec.ofChange packManyWrong)

/-- 'terrierlaw1.PackNumbers': WHATEVER THE INPUT: true; the input reads as it did. -/
def packNumbersSpec : ChangeSpec := { name := "packNumbers", fn := fun _ => fun
  | [d1, d2, d3] => { results := [.lit (.bool true)], args := [d1, d2, d3] }
  | _ => none }
def packNumbersRow : OpenClaim := { program := "ytgjgandkcmjbnaa", sum := "57b4dc5cecbc1fa6ed2fae7a57e9161d3cfd0bacdfbdc53e3202b031ac9d93b3", func := "terrier/terrierlaw1.PackNumbers", spec := "packNumbers", apart := false }
def PackNumbersSaid : Prop := packNumbersRow.holds Try.pinned (OpenSpec.ofChange packNumbersSpec)

/-- ITS FALSE NEIGHBOUR: 'it returns false'. Refute it at one input. -/
def packNumbersWrong : ChangeSpec := { name := "packNumbers", fn := fun _ => fun
  | [d1, d2, d3] => { results := [.lit (.bool false)], args := [d1, d2, d3] }
  | _ => none }
def PackNumbersWrongFalsely : Prop := packNumbersRow.holds Try.pinned (OpenSpec.ofChange packNumbersWrong)

/-- 'terrierlaw1.PackReads': WHATEVER THE INPUT: true; the input reads as it did. -/
def packReadsSpec : ChangeSpec := { name := "packReads", fn := fun _ => fun
  | [d] => { results := [.lit (.bool true)], args := [d] }
  | _ => none }
def packReadsRow : OpenClaim := { program := "ytgjgandkcmjbnaa", sum := "57b4dc5cecbc1fa6ed2fae7a57e9161d3cfd0bacdfbdc53e3202b031ac9d93b3", func := "terrier/terrierlaw1.PackReads", spec := "packReads", apart := false }
def PackReadsSaid : Prop := packReadsRow.holds Try.pinned (OpenSpec.ofChange packReadsSpec)

/-- ITS FALSE NEIGHBOUR: 'it returns false'. Refute it at one input. -/
def packReadsWrong : ChangeSpec := { name := "packReads", fn := fun _ => fun
  | [d] => { results := [.lit (.bool false)], args := [d] }
  | _ => none }
def PackReadsWrongFalsely : Prop := packReadsRow.holds Try.pinned (OpenSpec.ofChange packReadsWrong)

/-- 'terrierlaw1.PackSeals': WHATEVER THE INPUT: true; the input reads as it did. -/
def packSealsSpec : ChangeSpec := { name := "packSeals", fn := fun _ => fun
  | [d1, d2, d3] => { results := [.lit (.bool true)], args := [d1, d2, d3] }
  | _ => none }
def packSealsRow : OpenClaim := { program := "ytgjgandkcmjbnaa", sum := "57b4dc5cecbc1fa6ed2fae7a57e9161d3cfd0bacdfbdc53e3202b031ac9d93b3", func := "terrier/terrierlaw1.PackSeals", spec := "packSeals", apart := false }
def PackSealsSaid : Prop := packSealsRow.holds Try.pinned (OpenSpec.ofChange packSealsSpec)

/-- ITS FALSE NEIGHBOUR: 'it returns false'. Refute it at one input. -/
def packSealsWrong : ChangeSpec := { name := "packSeals", fn := fun _ => fun
  | [d1, d2, d3] => { results := [.lit (.bool false)], args := [d1, d2, d3] }
  | _ => none }
def PackSealsWrongFalsely : Prop := packSealsRow.holds Try.pinned (OpenSpec.ofChange packSealsWrong)

/-- 'terrierlaw1.PackParts': WHATEVER THE INPUT: true; the input reads as it did. -/
def packPartsSpec : ChangeSpec := { name := "packParts", fn := fun _ => fun
  | [d1, d2] => { results := [.lit (.bool true)], args := [d1, d2] }
  | _ => none }
def packPartsRow : OpenClaim := { program := "ytgjgandkcmjbnaa", sum := "57b4dc5cecbc1fa6ed2fae7a57e9161d3cfd0bacdfbdc53e3202b031ac9d93b3", func := "terrier/terrierlaw1.PackParts", spec := "packParts", unfollowed := true, recurses := true, apart := false }
def PackPartsSaid : Prop := packPartsRow.holds Try.pinned (OpenSpec.ofChange packPartsSpec)

/-- ITS FALSE NEIGHBOUR: 'it returns false'. Refute it at one input. -/
def packPartsWrong : ChangeSpec := { name := "packParts", fn := fun _ => fun
  | [d1, d2] => { results := [.lit (.bool false)], args := [d1, d2] }
  | _ => none }
def PackPartsWrongFalsely : Prop := packPartsRow.holds Try.pinned (OpenSpec.ofChange packPartsWrong)

/- THE SECOND FORM. 'bulk': how many values and letters a reading holds, each counted each time it is reached (what is shared counts as often as it is met; a slice's spare places count too). A statement '..UptoSaid' is the law's where the arguments, and the package variables that the reading takes, are together of bulk at most 1048576: NARROWER than '..Said'. Prove '..Said' where nothing that the law and all that it calls make is longer than what came in: it says more and counts as full. Else prove '..UptoSaid'. A law counts once. -/
mutual
def uptoBulk {H : Type} : DataW H → Nat
  | .lit (.string bytes) => bytes.length + 1
  | .lit _ => 1
  | .nil => 1
  | .ptr d => uptoBulk d + 1
  | .slice elems spare => uptoBulkAll elems + uptoBulkAll spare + 1
  | .agg parts => uptoBulkAll parts + 1
  | .iface _ d => uptoBulk d + 1
  | .map entries => uptoBulkEntries entries + 1
  | .held _ => 1
def uptoBulkAll {H : Type} : List (DataW H) → Nat
  | [] => 0
  | d :: r => uptoBulk d + uptoBulkAll r
def uptoBulkEntries {H : Type} : List (Lit × DataW H) → Nat
  | [] => 0
  | x :: r => uptoBulkEntry x + uptoBulkEntries r
def uptoBulkEntry {H : Type} : Lit × DataW H → Nat
  | (.string bytes, d) => bytes.length + uptoBulk d + 1
  | (_, d) => uptoBulk d + 1
 end
def uptoSmall : (H : Type) → List (DataW H) → Bool := fun _ ds => decide (uptoBulkAll ds ≤ 1048576)
def OpenSpec.upto (s : _root_.Go.ChangeSpec) : _root_.Go.OpenSpec := { _root_.Go.OpenSpec.ofChange s with cond := some uptoSmall }

/-- 'terrierlaw1.PackSums', WHERE WHAT IT READS IS OF BULK AT MOST 1048576: true; the input reads as it did. -/
def packSumsUptoRow : OpenClaim := { program := "ytgjgandkcmjbnaa", sum := "57b4dc5cecbc1fa6ed2fae7a57e9161d3cfd0bacdfbdc53e3202b031ac9d93b3", func := "terrier/terrierlaw1.PackSums", spec := "packSums", apart := false, narrowed := true }
def PackSumsUptoSaid : Prop := packSumsUptoRow.holds Try.pinned (OpenSpec.upto packSumsSpec)

/-- 'terrierlaw1.PackOrders', WHERE WHAT IT READS IS OF BULK AT MOST 1048576: true; the input reads as it did. -/
def packOrdersUptoRow : OpenClaim := { program := "ytgjgandkcmjbnaa", sum := "57b4dc5cecbc1fa6ed2fae7a57e9161d3cfd0bacdfbdc53e3202b031ac9d93b3", func := "terrier/terrierlaw1.PackOrders", spec := "packOrders", apart := false, narrowed := true }
def PackOrdersUptoSaid : Prop := packOrdersUptoRow.holds Try.pinned (OpenSpec.upto packOrdersSpec)

/-- 'terrierlaw1.PackMany', WHERE WHAT IT READS IS OF BULK AT MOST 1048576: true; the input reads as it did. -/
def packManyUptoRow : OpenClaim := { program := "ytgjgandkcmjbnaa", sum := "57b4dc5cecbc1fa6ed2fae7a57e9161d3cfd0bacdfbdc53e3202b031ac9d93b3", func := "terrier/terrierlaw1.PackMany", spec := "packMany", apart := false, narrowed := true }
def PackManyUptoSaid : Prop := packManyUptoRow.holds Try.pinned (OpenSpec.upto packManySpec)

/-- 'terrierlaw1.PackNumbers', WHERE WHAT IT READS IS OF BULK AT MOST 1048576: true; the input reads as it did. -/
def packNumbersUptoRow : OpenClaim := { program := "ytgjgandkcmjbnaa", sum := "57b4dc5cecbc1fa6ed2fae7a57e9161d3cfd0bacdfbdc53e3202b031ac9d93b3", func := "terrier/terrierlaw1.PackNumbers", spec := "packNumbers", apart := false, narrowed := true }
def PackNumbersUptoSaid : Prop := packNumbersUptoRow.holds Try.pinned (OpenSpec.upto packNumbersSpec)

/-- 'terrierlaw1.PackReads', WHERE WHAT IT READS IS OF BULK AT MOST 1048576: true; the input reads as it did. -/
def packReadsUptoRow : OpenClaim := { program := "ytgjgandkcmjbnaa", sum := "57b4dc5cecbc1fa6ed2fae7a57e9161d3cfd0bacdfbdc53e3202b031ac9d93b3", func := "terrier/terrierlaw1.PackReads", spec := "packReads", apart := false, narrowed := true }
def PackReadsUptoSaid : Prop := packReadsUptoRow.holds Try.pinned (OpenSpec.upto packReadsSpec)

/-- 'terrierlaw1.PackSeals', WHERE WHAT IT READS IS OF BULK AT MOST 1048576: true; the input reads as it did. -/
def packSealsUptoRow : OpenClaim := { program := "ytgjgandkcmjbnaa", sum := "57b4dc5cecbc1fa6ed2fae7a57e9161d3cfd0bacdfbdc53e3202b031ac9d93b3", func := "terrier/terrierlaw1.PackSeals", spec := "packSeals", apart := false, narrowed := true }
def PackSealsUptoSaid : Prop := packSealsUptoRow.holds Try.pinned (OpenSpec.upto packSealsSpec)

/-- 'terrierlaw1.PackParts', WHERE WHAT IT READS IS OF BULK AT MOST 1048576: true; the input reads as it did. -/
def packPartsUptoRow : OpenClaim := { program := "ytgjgandkcmjbnaa", sum := "57b4dc5cecbc1fa6ed2fae7a57e9161d3cfd0bacdfbdc53e3202b031ac9d93b3", func := "terrier/terrierlaw1.PackParts", spec := "packParts", unfollowed := true, recurses := true, apart := false, narrowed := true }
def PackPartsUptoSaid : Prop := packPartsUptoRow.holds Try.pinned (OpenSpec.upto packPartsSpec)

end Rows
end Go.Proofs.Ytgjgandkcmjbnaa
