/- The row of the law SpinDraws: for every ticket the call returns true and the ticket reads as it did; no conditions. -/
import Derived.Test.YtokobpgpdddndaaRows
import Derived.Test.YtokobpgpdddndaaPSpinDrawsx1
import Derived.Test.YtokobpgpdddndaaPureSpinDraws
import Derived.WalkKit
import Derived.ProofKit
import Derived.OpenShut
import Derived.ShutString
import Derived.ChangeOld
import Derived.Below
import Derived.SizedLaws
import Derived.Lib.SmallJoins
namespace Go.Proofs.Ytokobpgpdddndaa.spinDraws
open Go.ChangeShapes Go.WideShapes Go.ChangeAt Go.RowKit Go.Joins
set_option linter.unusedVariables false
theorem own : ownKnob Try.prog.godebug = none := by kernel_rfl
theorem laidOut : laidOutB Try.prog = true := by kernel_rfl
theorem cells27 : Try.prog.cellsOf 27 = 2 := by kernel_rfl
set_option maxRecDepth 100000 in
theorem lifted (os : Os) (started : os.Started) (H : Type) (enc : TypeId × Value → H) :
    ReturnsInHanded {} Try.checked os 4 .any (Rows.spinDrawsSpec.pre6 enc Try.prog Try.f4 Rows.spinDrawsRow.domain false) (Rows.spinDrawsSpec.post enc Try.prog Try.f4 false true false false) := by
  refine returnsInHanded_of_change_sized (C := Try.checked) own started (by kernel_rfl) Try.func4
    (ChangeSpec.witness6 (enc := enc) (C := Try.checked) false ⟨#[], #[.agg #[.int .i64 0, .int .i64 0]], []⟩ 8 (by kernel_rfl) (by kernel_rfl) (by kernel_rfl) (by kernel_rfl)) ?_
  intro W base args ds gs before hval0 hW hcnd hsz0 _
  have hval : ∀ (j : Nat) t v, Try.f4.params[j]? = some t → args[j]? = some v → Value.okWide Try.prog W .any base t v := hval0
  have hW' := hW
  obtain ⟨p, q, hA0, hV, rfl, hfz, hnd⟩ := hW
  have hA : DataW.TrodAll enc Try.prog W 0 (fun _ => true) true Try.f4.params.toList args.toList ds p := hA0
  rw [Try.params4] at hA hval
  obtain ⟨v0, vs0, d0, ds0, p0, q0, hargs, rfl, rfl, h0, r0⟩ := trodAll_cons hA
  obtain ⟨rfl, rfl, rfl⟩ := trodAll_nil r0
  obtain rfl : args = #[v0] := by cases args; simp_all
  obtain ⟨rfl, rfl⟩ := trodVars_none hV
  have k0 := h0
  have lt0 : ∀ x ∈ p0, x.block < W.heap.size := by obtain ⟨m, hm⟩ := k0; exact DataW.trod_lt m _ _ _ hm
  have hv0 := hval 0 27 v0 rfl rfl
  obtain ⟨a0, a1, hva⟩ : ∃ a0 a1 : Int, v0 = .agg #[.int .i64 a0, .int .i64 a1] := by
    obtain ⟨c0, c1, y0, y1, m, hv, _, _, hy0, hy1⟩ := open_agg2 Try.underlying27 (by kernel_rfl) cells27 hv0 h0
    obtain ⟨a0, e0, _, _⟩ := DataW.trod_int Try.underlying3 hy0
    obtain ⟨a1, e1, _, _⟩ := DataW.trod_int Try.underlying3 hy1
    simp at e0 e1
    subst e0; subst e1
    exact ⟨a0, a1, hv⟩
  subst hva
  clear hA0 hval0 hsz0
  refine (PSpinDraws.deadboltlaw06_SpinDraws.calls 60 a0 a1 true W (Pure.SpinDraws a0 a1)).mono fun e W' ⟨he, bel⟩ => ?_
  subst he
  exact ⟨_, rfl, _, _, _, [], _, [], hW', trodAll_mk1 (shut_bool Try.underlying4 _), (trodAll_cons_mk (Below.trod laidOut (by kernel_rfl) (of_decide_eq_true (by kernel_rfl)) k0 bel lt0) trodAll_mk0), rfl, bel.frame _, fun h => by cases h⟩
theorem over : Rows.spinDrawsRow.holds Try.pinned (OpenSpec.ofChange Rows.spinDrawsSpec) :=
  OpenClaim.holds_of_wide 4 Try.f4 rfl rfl rfl rfl rfl rfl rfl ⟨rfl, rfl, rfl, rfl, rfl⟩ rfl rfl rfl rfl rfl (by kernel_rfl) Try.func4 (by kernel_rfl)
    (of_decide_eq_true (by kernel_rfl)) (by unfold Func.isWrapper; first | (rw [if_pos (by decide +kernel)]; kernel_rfl) | (rw [if_neg (by decide +kernel)]; exact ⟨rfl, rfl⟩))
    (fun os started H enc _ => lifted os started H enc)
theorem proved : Rows.SpinDrawsSaid := over
#print axioms proved
end Go.Proofs.Ytokobpgpdddndaa.spinDraws
namespace Go.Proofs.Ytokobpgpdddndaa
/-- The row, under a short name, for the claim. -/
theorem spinDraws_holds : Rows.SpinDrawsSaid := spinDraws.proved
end Go.Proofs.Ytokobpgpdddndaa
