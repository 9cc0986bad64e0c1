/- The functions that a law reaches, as Lean functions, and for each a proof that the call hands back just what its Lean function says; no conditions beyond each statement. Written by a program of this session (a changed copy of the print). -/
import Derived.Test.YtfebhemdpbnebaaDoorProg
import Derived.Below
import Derived.Deep.Draws
import Derived.Deep.AppendLies
import Derived.Maps.AppendAt
import Derived.OwnWalk
import Derived.Laws.BytesArg
import Derived.Laws.MakeOwn
import Derived.Laws.OwnMore
import Derived.Deep.OwnRows
import Derived.Tactics
import Derived.Lib.ConvBytes
import Derived.Laws.Slices
import Derived.WalkKit
import Derived.KernelRfl
import Derived.RowKit3
import Derived.Deep.LoopGhost
import Derived.Deep.QuietTactic
import Derived.BigQuiet
import Derived.WideLaws
import Derived.Deep.DeepCutAuto
import Derived.Deep.CutBlock
import Derived.Deep.RegionHeld3
import Derived.Laws.Rows
import Derived.Lib.AppendStr
import Derived.ArgAppend
import Derived.Laws.IdiomCopy
import Derived.OrdersHeld
import Derived.Laws.BitsLemmas
import Derived.RowKit
import Derived.Test.YtfebhemdpbnebaaDoorPrint
import Derived.Test.YtfebhemdpbnebaaDoorWWords
import Derived.Test.YtfebhemdpbnebaaDoorWLast
import Derived.Test.YtfebhemdpbnebaaDoorWTab
import Derived.Test.YtfebhemdpbnebaaDoorWFour
import Derived.Test.YtfebhemdpbnebaaDoorWQPut
import Derived.Test.YtfebhemdpbnebaaDoorWApart
import Derived.Test.YtfebhemdpbnebaaDoorWArr
import Derived.Test.YtfebhemdpbnebaaDoorWZeros
import Derived.Test.YtfebhemdpbnebaaDoorWFoot
import Derived.Test.YtfebhemdpbnebaaDoorWKept
import Derived.Test.YtfebhemdpbnebaaDoorWShare
import Derived.Test.YtfebhemdpbnebaaDoorWN
import Derived.Test.YtfebhemdpbnebaaDoorWFootNe
import Derived.Test.YtfebhemdpbnebaaDoorWAt
import Derived.Test.YtfebhemdpbnebaaDoorWEqStruct
import Derived.Test.YtfebhemdpbnebaaDoorWRepsOne
import Derived.Test.YtfebhemdpbnebaaDoorWInv
import Derived.Test.YtfebhemdpbnebaaDoorWInvWords
import Derived.Test.YtfebhemdpbnebaaDoorWGuard
import Derived.Test.YtfebhemdpbnebaaDoorWNEv
import Derived.Test.YtfebhemdpbnebaaDoorWMore
namespace Go.Proofs.YtfebhemdpbnebaaDoor.PProgLines
open Go.Proofs.YtfebhemdpbnebaaDoor.Hand
open Go.RowKit Go.Proofs.YtfebhemdpbnebaaDoorW.PrintWords Go.Proofs.YtfebhemdpbnebaaDoorW.PrintLast Go.Proofs.YtfebhemdpbnebaaDoorW.PrintMore
attribute [local go_sem] max2_int min2_int max_two min_two max_three min_three max_four min_four   -- for this text's walks alone
set_option linter.unusedVariables false
set_option linter.unusedSimpArgs false



def errW : Option Int → Value
  | none => .nilIface
  | some c => .iface 98 (.int .i64 c)
theorem errW_none : errW none = .nilIface := rfl
theorem errW_some (c : Int) : errW (some c) = .iface 98 (.int .i64 c) := rfl

theorem k32_heap : Kd.Heap k32 := Kd.heap_iso _ (Kd.heap_pair (Kd.heap_int .i64) (Kd.heap_int .i64))
theorem k32_mkF (W : World) (ok : Nat → Prop) (x : S32) : Kd.FK k32 W ok x [.int .i64 x.f0, .int .i64 x.f1] := fun W2 _ => k32_mk W2 x
def rd_L5 (xs : List (List (List S32))) (i : Int) : (List (List S32)) := xs.getD i.toNat ([] : List (List S32))
theorem at_L5 {w : World} {A : Option Addr} {n : Nat} {xs : List (List (List S32))} (h : Kd.C (Kd.slice 29 (Kd.slice 32 k32)) w A n xs) (i : Int) (h0 : 0 ≤ i) (h1 : i < n) : ∃ ad A0 c0, A = some ad ∧ w.cell? (ad.add i.toNat) = some (.slice A0 (rd_L5 xs i).length c0) ∧ (rd_L5 xs i).length ≤ c0 ∧ (Kd.slice 32 k32).C w A0 (rd_L5 xs i).length (rd_L5 xs i) := by
  obtain ⟨ad, c, e, _, hK, hc0⟩ := Kd.C_get h ([] : List (List S32)) i h0 h1
  have hc : ∀ j u, c[j]? = some u → w.cell? (ad.add (i.toNat * 1 + j)) = some u := hc0
  obtain ⟨A0, c0, rfl, l0, g0⟩ := hK
  exact ⟨ad, A0, c0, e, by have hq := hc 0 _ rfl; rwa [Nat.mul_one, Nat.add_zero] at hq, l0, g0⟩

end Go.Proofs.YtfebhemdpbnebaaDoor.PProgLines
