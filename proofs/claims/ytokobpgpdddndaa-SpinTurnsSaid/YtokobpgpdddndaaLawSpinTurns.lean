/- The row of the law SpinTurns: for every number and every row of bools the call returns true and both read as they did; no conditions. -/
import Derived.Test.YtokobpgpdddndaaRows
import Derived.Test.YtokobpgpdddndaaPSpinTurnsx2
import Derived.Test.YtokobpgpdddndaaPureSpinTurns
import Derived.WalkKit
import Derived.ProofKit
import Derived.OpenShut
import Derived.ShutString
import Derived.ChangeOld
import Derived.Below
import Derived.SizedLaws
import Derived.Lib.SmallJoins
import Derived.Test.YtokobpgpdddndaaOpen
namespace Go.Proofs.Ytokobpgpdddndaa.spinTurns
open Go.ChangeShapes Go.WideShapes Go.ChangeAt Go.RowKit Go.Joins Go.Proofs.YtokobpgpdddndaaW.PrintWords Go.Proofs.YtokobpgpdddndaaW.PrintLast
set_option linter.unusedVariables false
theorem own : ownKnob Try.prog.godebug = none := by kernel_rfl
theorem laidOut : laidOutB Try.prog = true := by kernel_rfl
set_option maxRecDepth 100000 in
theorem lifted (os : Os) (started : os.Started) (H : Type) (enc : TypeId × Value → H) :
    ReturnsInHanded {} Try.checked os 3 .any (Rows.spinTurnsSpec.pre6 enc Try.prog Try.f3 Rows.spinTurnsRow.domain false) (Rows.spinTurnsSpec.post enc Try.prog Try.f3 false true false false) := by
  refine returnsInHanded_of_change_sized (C := Try.checked) own started (by kernel_rfl) Try.func3
    (ChangeSpec.witness6 (enc := enc) (C := Try.checked) false ⟨#[], #[.int .i64 0, .slice none 0 0], []⟩ 8 (by kernel_rfl) (by kernel_rfl) (by kernel_rfl) (by kernel_rfl)) ?_
  intro W base args ds gs before hval0 hW hcnd hsz0 _
  have hval : ∀ (j : Nat) t v, Try.f3.params[j]? = some t → args[j]? = some v → Value.okWide Try.prog W .any base t v := hval0
  have hW' := hW
  obtain ⟨p, q, hA0, hV, rfl, hfz, hnd⟩ := hW
  have hA : DataW.TrodAll enc Try.prog W 0 (fun _ => true) true Try.f3.params.toList args.toList ds p := hA0
  rw [Try.params3] at hA hval
  obtain ⟨v0, vs0, d0, ds0, p0, q0, hargs, rfl, rfl, h0, r0⟩ := trodAll_cons hA
  obtain ⟨v1, vs1, d1, ds1, p1, q1, rfl, rfl, rfl, h1, r1⟩ := trodAll_cons r0
  obtain ⟨rfl, rfl, rfl⟩ := trodAll_nil r1
  obtain rfl : args = #[v0, v1] := by cases args; simp_all
  obtain ⟨rfl, rfl⟩ := trodVars_none hV
  obtain ⟨a0, rfl, rfl, rfl, w0⟩ := open_int Try.underlying3 (hval 0 3 v0 rfl rfl) h0
  obtain ⟨A1, len1, cap1, rfl⟩ := okWide_slice Try.underlying22 (hval 1 22 v1 rfl rfl)
  have k1 := h1
  have lt1 : ∀ x ∈ p1, x.block < W.heap.size := by obtain ⟨m, hm⟩ := k1; exact DataW.trod_lt m _ _ _ hm
  obtain ⟨l1, hC, hlen, hcap, _, _⟩ : ∃ l1 : List Bool, Kd.C Kd.bool W A1 len1 l1 ∧ l1.length = len1 ∧ len1 ≤ cap1 ∧ len1 ≤ maxLen ∧ ∀ p ∈ l1, True := by
    obtain ⟨fuel, hf⟩ := h1
    refine Hand.C_of_trod Kd.bool (fun _ => True) Try.underlying22 (by kernel_rfl) ?_ (by simpa [Value.cells] using hf)
    intro n cs y hy
    obtain ⟨b, hb, _⟩ := DataW.trod_bool Try.underlying4 hy
    exact ⟨b, hb, trivial⟩
  subst hlen
  clear hA0 hval0 hsz0
  refine (PSpinTurns.deadboltlaw06_SpinTurns.calls 42001 a0 A1 cap1 l1 true W hC hcap (Pure.SpinTurns a0 l1)).mono fun e W' ⟨he, bel⟩ => ?_
  subst he
  exact ⟨_, rfl, _, _, _, [], _, [], hW', trodAll_mk1 (shut_bool Try.underlying4 _), (trodAll_cons_mk (shut_int Try.underlying3 w0) (trodAll_cons_mk (Below.trod laidOut (by kernel_rfl) (of_decide_eq_true (by kernel_rfl)) k1 bel lt1) trodAll_mk0)), rfl, bel.frame _, fun h => by cases h⟩
theorem over : Rows.spinTurnsRow.holds Try.pinned (OpenSpec.ofChange Rows.spinTurnsSpec) :=
  OpenClaim.holds_of_wide 3 Try.f3 rfl rfl rfl rfl rfl rfl rfl ⟨rfl, rfl, rfl, rfl, rfl⟩ rfl rfl rfl rfl rfl (by kernel_rfl) Try.func3 (by kernel_rfl)
    (of_decide_eq_true (by kernel_rfl)) (by unfold Func.isWrapper; first | (rw [if_pos (by decide +kernel)]; kernel_rfl) | (rw [if_neg (by decide +kernel)]; exact ⟨rfl, rfl⟩))
    (fun os started H enc _ => lifted os started H enc)
theorem proved : Rows.SpinTurnsSaid := over
#print axioms proved
end Go.Proofs.Ytokobpgpdddndaa.spinTurns
namespace Go.Proofs.Ytokobpgpdddndaa
/-- The row, under a short name, for the claim. -/
theorem spinTurns_holds : Rows.SpinTurnsSaid := spinTurns.proved
end Go.Proofs.Ytokobpgpdddndaa
