-- PRINTED BY print.sh 35421559b90ae4d0a3588c463048766b98c2df88dd9212a6774a882060cdf62d: not written by this session
import Derived.Test.YtabblkckapdpoaaProg
import Derived.Below
import Derived.Deep.Draws
import Derived.Deep.AppendLies
import Derived.Maps.AppendAt
import Derived.OwnWalk
import Derived.Laws.BytesArg
import Derived.Laws.MakeOwn
import Derived.Laws.OwnMore
import Derived.Deep.OwnRows
import Derived.Tactics
import Derived.Lib.ConvBytes
import Derived.Laws.Slices
import Derived.WalkKit
import Derived.KernelRfl
import Derived.RowKit3
import Derived.Deep.LoopGhost
import Derived.Deep.QuietTactic
import Derived.BigQuiet
import Derived.WideLaws
import Derived.Deep.DeepCutAuto
import Derived.Deep.CutBlock
import Derived.Deep.RegionHeld3
import Derived.Laws.Rows
import Derived.Lib.AppendStr
import Derived.ArgAppend
import Derived.Laws.IdiomCopy
import Derived.OrdersHeld
import Derived.Laws.BitsLemmas
import Derived.RowKit
import Derived.Test.YtabblkckapdpoaaWWords
import Derived.Test.YtabblkckapdpoaaWLast
import Derived.Test.YtabblkckapdpoaaWTab
import Derived.Test.YtabblkckapdpoaaWFour
import Derived.Test.YtabblkckapdpoaaWQPut
import Derived.Test.YtabblkckapdpoaaWApart
import Derived.Test.YtabblkckapdpoaaWArr
import Derived.Test.YtabblkckapdpoaaWZeros
import Derived.Test.YtabblkckapdpoaaWFoot
import Derived.Test.YtabblkckapdpoaaWKept
import Derived.Test.YtabblkckapdpoaaWShare
import Derived.Test.YtabblkckapdpoaaWN
import Derived.Test.YtabblkckapdpoaaWFootNe
import Derived.Test.YtabblkckapdpoaaWAt
import Derived.Test.YtabblkckapdpoaaWEqStruct
import Derived.Test.YtabblkckapdpoaaWRepsOne
import Derived.Test.YtabblkckapdpoaaWInv
import Derived.Test.YtabblkckapdpoaaWInvWords
import Derived.Test.YtabblkckapdpoaaWGuard
import Derived.Test.YtabblkckapdpoaaWNEv
import Derived.Test.YtabblkckapdpoaaWMore
namespace Go.Proofs.Ytabblkckapdpoaa.PPtMidst
open Go.RowKit Go.Proofs.YtabblkckapdpoaaW.PrintWords Go.Proofs.YtabblkckapdpoaaW.PrintLast Go.Proofs.YtabblkckapdpoaaW.PrintMore
attribute [local go_sem] max2_int min2_int max_two min_two max_three min_three max_four min_four   -- for this text's walks alone
set_option linter.unusedVariables false
set_option linter.unusedSimpArgs false



def errW : Option Int → Value
  | none => .nilIface
  | some c => .iface 0 (.int .i64 c)
theorem errW_none : errW none = .nilIface := rfl
theorem errW_some (c : Int) : errW (some c) = .iface 0 (.int .i64 c) := rfl

-- the values' own types

end Go.Proofs.Ytabblkckapdpoaa.PPtMidst
