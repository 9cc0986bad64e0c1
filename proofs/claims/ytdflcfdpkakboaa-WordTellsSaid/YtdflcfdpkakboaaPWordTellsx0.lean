/- The functions that a law reaches, as Lean functions, and for each a proof that the call hands back just what its Lean function says; no conditions beyond each statement. Written by a program of this session (a changed copy of the print). -/
import Derived.Test.YtdflcfdpkakboaaProg
import Derived.Below
import Derived.Deep.Draws
import Derived.Deep.AppendLies
import Derived.Maps.AppendAt
import Derived.OwnWalk
import Derived.Laws.BytesArg
import Derived.Laws.MakeOwn
import Derived.Laws.OwnMore
import Derived.Deep.OwnRows
import Derived.Tactics
import Derived.Lib.ConvBytes
import Derived.Laws.Slices
import Derived.WalkKit
import Derived.KernelRfl
import Derived.RowKit3
import Derived.Deep.LoopGhost
import Derived.Deep.QuietTactic
import Derived.BigQuiet
import Derived.WideLaws
import Derived.Deep.DeepCutAuto
import Derived.Deep.CutBlock
import Derived.Deep.RegionHeld3
import Derived.Laws.Rows
import Derived.Lib.AppendStr
import Derived.ArgAppend
import Derived.Laws.IdiomCopy
import Derived.OrdersHeld
import Derived.Laws.BitsLemmas
import Derived.RowKit
import Derived.Test.YtdflcfdpkakboaaHand
import Derived.Test.YtdflcfdpkakboaaWWords
import Derived.Test.YtdflcfdpkakboaaWLast
import Derived.Test.YtdflcfdpkakboaaWTab
import Derived.Test.YtdflcfdpkakboaaWFour
import Derived.Test.YtdflcfdpkakboaaWQPut
import Derived.Test.YtdflcfdpkakboaaWApart
import Derived.Test.YtdflcfdpkakboaaWArr
import Derived.Test.YtdflcfdpkakboaaWZeros
import Derived.Test.YtdflcfdpkakboaaWFoot
import Derived.Test.YtdflcfdpkakboaaWKept
import Derived.Test.YtdflcfdpkakboaaWShare
import Derived.Test.YtdflcfdpkakboaaWN
import Derived.Test.YtdflcfdpkakboaaWFootNe
import Derived.Test.YtdflcfdpkakboaaWAt
import Derived.Test.YtdflcfdpkakboaaWEqStruct
import Derived.Test.YtdflcfdpkakboaaWRepsOne
import Derived.Test.YtdflcfdpkakboaaWInv
import Derived.Test.YtdflcfdpkakboaaWInvWords
import Derived.Test.YtdflcfdpkakboaaWGuard
import Derived.Test.YtdflcfdpkakboaaWNEv
import Derived.Test.YtdflcfdpkakboaaWMore
namespace Go.Proofs.Ytdflcfdpkakboaa.PWordTells
open Go.Proofs.Ytdflcfdpkakboaa.Hand
open Go.RowKit Go.Proofs.YtdflcfdpkakboaaW.PrintWords Go.Proofs.YtdflcfdpkakboaaW.PrintLast Go.Proofs.YtdflcfdpkakboaaW.PrintMore
attribute [local go_sem] max2_int min2_int max_two min_two max_three min_three max_four min_four   -- for this text's walks alone
set_option linter.unusedVariables false
set_option linter.unusedSimpArgs false



def errW : Option Int → Value
  | none => .nilIface
  | some c => .iface 0 (.int .i64 c)
theorem errW_none : errW none = .nilIface := rfl
theorem errW_some (c : Int) : errW (some c) = .iface 0 (.int .i64 c) := rfl

-- the values' own types

end Go.Proofs.Ytdflcfdpkakboaa.PWordTells
