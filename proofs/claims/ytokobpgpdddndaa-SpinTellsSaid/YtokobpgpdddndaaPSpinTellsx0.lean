/- The functions that a law reaches, as Lean functions, and for each a proof that the call hands back just what its Lean function says; no conditions beyond each statement. Written by a program of this session (a changed copy of the print). -/
import Derived.Test.YtokobpgpdddndaaProg
import Derived.Below
import Derived.Deep.Draws
import Derived.Deep.AppendLies
import Derived.Maps.AppendAt
import Derived.OwnWalk
import Derived.Laws.BytesArg
import Derived.Laws.MakeOwn
import Derived.Laws.OwnMore
import Derived.Deep.OwnRows
import Derived.Tactics
import Derived.Lib.ConvBytes
import Derived.Laws.Slices
import Derived.WalkKit
import Derived.KernelRfl
import Derived.RowKit3
import Derived.Deep.LoopGhost
import Derived.Deep.QuietTactic
import Derived.BigQuiet
import Derived.WideLaws
import Derived.Deep.DeepCutAuto
import Derived.Deep.CutBlock
import Derived.Deep.RegionHeld3
import Derived.Laws.Rows
import Derived.Lib.AppendStr
import Derived.ArgAppend
import Derived.Laws.IdiomCopy
import Derived.OrdersHeld
import Derived.Laws.BitsLemmas
import Derived.RowKit
import Derived.Test.YtokobpgpdddndaaHand
import Derived.Test.YtokobpgpdddndaaWWords
import Derived.Test.YtokobpgpdddndaaWLast
import Derived.Test.YtokobpgpdddndaaWTab
import Derived.Test.YtokobpgpdddndaaWFour
import Derived.Test.YtokobpgpdddndaaWQPut
import Derived.Test.YtokobpgpdddndaaWApart
import Derived.Test.YtokobpgpdddndaaWArr
import Derived.Test.YtokobpgpdddndaaWZeros
import Derived.Test.YtokobpgpdddndaaWFoot
import Derived.Test.YtokobpgpdddndaaWKept
import Derived.Test.YtokobpgpdddndaaWShare
import Derived.Test.YtokobpgpdddndaaWN
import Derived.Test.YtokobpgpdddndaaWFootNe
import Derived.Test.YtokobpgpdddndaaWAt
import Derived.Test.YtokobpgpdddndaaWEqStruct
import Derived.Test.YtokobpgpdddndaaWRepsOne
import Derived.Test.YtokobpgpdddndaaWInv
import Derived.Test.YtokobpgpdddndaaWInvWords
import Derived.Test.YtokobpgpdddndaaWGuard
import Derived.Test.YtokobpgpdddndaaWNEv
import Derived.Test.YtokobpgpdddndaaWMore
namespace Go.Proofs.Ytokobpgpdddndaa.PSpinTells
open Go.Proofs.Ytokobpgpdddndaa.Hand
open Go.RowKit Go.Proofs.YtokobpgpdddndaaW.PrintWords Go.Proofs.YtokobpgpdddndaaW.PrintLast Go.Proofs.YtokobpgpdddndaaW.PrintMore
attribute [local go_sem] max2_int min2_int max_two min_two max_three min_three max_four min_four   -- for this text's walks alone
set_option linter.unusedVariables false
set_option linter.unusedSimpArgs false



def errW : Option Int → Value
  | none => .nilIface
  | some c => .iface 0 (.int .i64 c)
theorem errW_none : errW none = .nilIface := rfl
theorem errW_some (c : Int) : errW (some c) = .iface 0 (.int .i64 c) := rfl

-- the values' own types

end Go.Proofs.Ytokobpgpdddndaa.PSpinTells
