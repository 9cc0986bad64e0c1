/- The functions that a law reaches, as Lean functions, and for each a proof that the call hands back just what its Lean function says; no conditions beyond each statement. Written by a program of this session (a changed copy of the print). -/
import Derived.Test.YtdecbngdmnmokaaProg
import Derived.Below
import Derived.Deep.Draws
import Derived.Deep.AppendLies
import Derived.Maps.AppendAt
import Derived.OwnWalk
import Derived.Laws.BytesArg
import Derived.Laws.MakeOwn
import Derived.Laws.OwnMore
import Derived.Deep.OwnRows
import Derived.Tactics
import Derived.Lib.ConvBytes
import Derived.Laws.Slices
import Derived.WalkKit
import Derived.KernelRfl
import Derived.RowKit3
import Derived.Deep.LoopGhost
import Derived.Deep.QuietTactic
import Derived.BigQuiet
import Derived.WideLaws
import Derived.Deep.DeepCutAuto
import Derived.Deep.CutBlock
import Derived.Deep.RegionHeld3
import Derived.Laws.Rows
import Derived.Lib.AppendStr
import Derived.ArgAppend
import Derived.Laws.IdiomCopy
import Derived.OrdersHeld
import Derived.Laws.BitsLemmas
import Derived.RowKit
import Derived.Test.YtdecbngdmnmokaaAccess
import Derived.Test.YtdecbngdmnmokaaWWords
import Derived.Test.YtdecbngdmnmokaaWLast
import Derived.Test.YtdecbngdmnmokaaWTab
import Derived.Test.YtdecbngdmnmokaaWFour
import Derived.Test.YtdecbngdmnmokaaWQPut
import Derived.Test.YtdecbngdmnmokaaWApart
import Derived.Test.YtdecbngdmnmokaaWArr
import Derived.Test.YtdecbngdmnmokaaWZeros
import Derived.Test.YtdecbngdmnmokaaWFoot
import Derived.Test.YtdecbngdmnmokaaWKept
import Derived.Test.YtdecbngdmnmokaaWShare
import Derived.Test.YtdecbngdmnmokaaWN
import Derived.Test.YtdecbngdmnmokaaWFootNe
import Derived.Test.YtdecbngdmnmokaaWAt
import Derived.Test.YtdecbngdmnmokaaWEqStruct
import Derived.Test.YtdecbngdmnmokaaWRepsOne
import Derived.Test.YtdecbngdmnmokaaWInv
import Derived.Test.YtdecbngdmnmokaaWInvWords
import Derived.Test.YtdecbngdmnmokaaWGuard
import Derived.Test.YtdecbngdmnmokaaWNEv
import Derived.Test.YtdecbngdmnmokaaWMore
namespace Go.Proofs.Ytdecbngdmnmokaa.PCellTells
open Go.Proofs.Ytdecbngdmnmokaa.Hand
open Go.RowKit Go.Proofs.YtdecbngdmnmokaaW.PrintWords Go.Proofs.YtdecbngdmnmokaaW.PrintLast Go.Proofs.YtdecbngdmnmokaaW.PrintMore
attribute [local go_sem] max2_int min2_int max_two min_two max_three min_three max_four min_four   -- for this text's walks alone
set_option linter.unusedVariables false
set_option linter.unusedSimpArgs false



theorem k44_heap : Kd.Heap k44 := Kd.heap_iso _ (Kd.heap_pair (Kd.heap_int .i64) (Kd.heap_int .i64))
theorem k44_mkF (W : World) (ok : Nat → Prop) (x : S44) : Kd.FK k44 W ok x [.int .i64 x.f0, .int .i64 x.f1] := fun W2 _ => k44_mk W2 x
def rd_L2 (xs : List (List S44)) (i : Int) : (List S44) := xs.getD i.toNat ([] : List S44)
theorem at_L2 {w : World} {A : Option Addr} {n : Nat} {xs : List (List S44)} (h : Kd.C (Kd.slice 44 k44) w A n xs) (i : Int) (h0 : 0 ≤ i) (h1 : i < n) : ∃ ad A0 c0, A = some ad ∧ w.cell? (ad.add i.toNat) = some (.slice A0 (rd_L2 xs i).length c0) ∧ (rd_L2 xs i).length ≤ c0 ∧ k44.C w A0 (rd_L2 xs i).length (rd_L2 xs i) := by
  obtain ⟨ad, c, e, _, hK, hc0⟩ := Kd.C_get h ([] : List S44) i h0 h1
  have hc : ∀ j u, c[j]? = some u → w.cell? (ad.add (i.toNat * 1 + j)) = some u := hc0
  obtain ⟨A0, c0, rfl, l0, g0⟩ := hK
  exact ⟨ad, A0, c0, e, by have hq := hc 0 _ rfl; rwa [Nat.mul_one, Nat.add_zero] at hq, l0, g0⟩

end Go.Proofs.Ytdecbngdmnmokaa.PCellTells
