/- The row of the law CellTells: for every memory and all numbers the call returns true and all read as they did; no conditions. -/
import Derived.Test.YtdecbngdmnmokaaRows
import Derived.Test.YtdecbngdmnmokaaPCellTellsx4
import Derived.Test.YtdecbngdmnmokaaPureCellTells
import Derived.WalkKit
import Derived.ProofKit
import Derived.OpenShut
import Derived.ShutString
import Derived.ChangeOld
import Derived.Below
import Derived.SizedLaws
import Derived.Lib.SmallJoins
import Derived.Test.YtdecbngdmnmokaaOpen
namespace Go.Proofs.Ytdecbngdmnmokaa.cellTells
open Go.ChangeShapes Go.WideShapes Go.ChangeAt Go.RowKit Go.Joins Go.Proofs.YtdecbngdmnmokaaW.PrintWords Go.Proofs.YtdecbngdmnmokaaW.PrintLast
set_option linter.unusedVariables false
theorem own : ownKnob Try.prog.godebug = none := by kernel_rfl
theorem laidOut : laidOutB Try.prog = true := by kernel_rfl
set_option maxRecDepth 100000 in
theorem lifted (os : Os) (started : os.Started) (H : Type) (enc : TypeId × Value → H) :
    ReturnsInHanded {} Try.checked os 5 .any (Rows.cellTellsSpec.pre6 enc Try.prog Try.f5 Rows.cellTellsRow.domain false) (Rows.cellTellsSpec.post enc Try.prog Try.f5 false true false false) := by
  refine returnsInHanded_of_change_sized (C := Try.checked) own started (by kernel_rfl) Try.func5
    (ChangeSpec.witness6 (enc := enc) (C := Try.checked) false ⟨#[], #[.slice none 0 0, .int .i64 0, .int .i64 0, .int .i64 0], []⟩ 8 (by kernel_rfl) (by kernel_rfl) (by kernel_rfl) (by kernel_rfl)) ?_
  intro W base args ds gs before hval0 hW hcnd hsz0 _
  have hval : ∀ (j : Nat) t v, Try.f5.params[j]? = some t → args[j]? = some v → Value.okWide Try.prog W .any base t v := hval0
  have hW' := hW
  obtain ⟨p, q, hA0, hV, rfl, hfz, hnd⟩ := hW
  have hA : DataW.TrodAll enc Try.prog W 0 (fun _ => true) true Try.f5.params.toList args.toList ds p := hA0
  rw [Try.params5] at hA hval
  obtain ⟨v0, vs0, d0, ds0, p0, q0, hargs, rfl, rfl, h0, r0⟩ := trodAll_cons hA
  obtain ⟨v1, vs1, d1, ds1, p1, q1, rfl, rfl, rfl, h1, r1⟩ := trodAll_cons r0
  obtain ⟨v2, vs2, d2, ds2, p2, q2, rfl, rfl, rfl, h2, r2⟩ := trodAll_cons r1
  obtain ⟨v3, vs3, d3, ds3, p3, q3, rfl, rfl, rfl, h3, r3⟩ := trodAll_cons r2
  obtain ⟨rfl, rfl, rfl⟩ := trodAll_nil r3
  obtain rfl : args = #[v0, v1, v2, v3] := by cases args; simp_all
  obtain ⟨rfl, rfl⟩ := trodVars_none hV
  obtain ⟨A0, len0, cap0, rfl⟩ := okWide_slice Try.underlying22 (hval 0 22 v0 rfl rfl)
  have k0 := h0
  have lt0 : ∀ x ∈ p0, x.block < W.heap.size := by obtain ⟨m, hm⟩ := k0; exact DataW.trod_lt m _ _ _ hm
  obtain ⟨l0, hC, hlen, hcap, _, _⟩ : ∃ l0 : List Hand.S44, Kd.C Hand.k44 W A0 len0 l0 ∧ l0.length = len0 ∧ len0 ≤ cap0 ∧ len0 ≤ maxLen ∧ ∀ p ∈ l0, True := by
    obtain ⟨fuel, hf⟩ := h0
    refine Hand.C_of_trod Hand.k44 (fun _ => True) Try.underlying22 (by kernel_rfl) ?_ (by simpa [Value.cells] using hf)
    intro n cs y hcl hy
    obtain ⟨y0, y1, m, _, _, hy0, hy1⟩ := trod_struct2 Try.underlying44 hy
    match cs, hcl with
    | [c0, c1], _ =>
      obtain ⟨i0, e0, _, _⟩ := DataW.trod_int Try.underlying3 hy0
      obtain ⟨i1, e1, _, _⟩ := DataW.trod_int Try.underlying3 hy1
      have z3 : Try.prog.cellsOf 3 = 1 := by kernel_rfl
      simp [z3] at e0 e1
      subst e0; subst e1
      exact ⟨⟨i0, i1⟩, Hand.k44_mk W ⟨i0, i1⟩, trivial⟩
  subst hlen
  obtain ⟨a1, rfl, rfl, rfl, w1⟩ := open_int Try.underlying3 (hval 1 3 v1 rfl rfl) h1
  obtain ⟨a2, rfl, rfl, rfl, w2⟩ := open_int Try.underlying3 (hval 2 3 v2 rfl rfl) h2
  obtain ⟨a3, rfl, rfl, rfl, w3⟩ := open_int Try.underlying3 (hval 3 3 v3 rfl rfl) h3
  clear hA0 hval0 hsz0
  refine (PCellTells.deadboltlaw02_CellTells.calls 42001 A0 cap0 l0 a1 a2 a3 true W hC hcap (Pure.CellTells l0 a1 a2 a3)).mono fun e W' ⟨he, bel⟩ => ?_
  subst he
  exact ⟨_, rfl, _, _, _, [], _, [], hW', trodAll_mk1 (shut_bool Try.underlying4 _), (trodAll_cons_mk (Below.trod laidOut (by kernel_rfl) (of_decide_eq_true (by kernel_rfl)) k0 bel lt0) (trodAll_cons_mk (shut_int Try.underlying3 w1) (trodAll_cons_mk (shut_int Try.underlying3 w2) (trodAll_cons_mk (shut_int Try.underlying3 w3) trodAll_mk0)))), rfl, bel.frame _, fun h => by cases h⟩
theorem over : Rows.cellTellsRow.holds Try.pinned (OpenSpec.ofChange Rows.cellTellsSpec) :=
  OpenClaim.holds_of_wide 5 Try.f5 rfl rfl rfl rfl rfl rfl rfl ⟨rfl, rfl, rfl, rfl, rfl⟩ rfl rfl rfl rfl rfl (by kernel_rfl) Try.func5 (by kernel_rfl)
    (of_decide_eq_true (by kernel_rfl)) (by unfold Func.isWrapper; first | (rw [if_pos (by decide +kernel)]; kernel_rfl) | (rw [if_neg (by decide +kernel)]; exact ⟨rfl, rfl⟩))
    (fun os started H enc _ => lifted os started H enc)
theorem proved : Rows.CellTellsSaid := over
#print axioms proved
end Go.Proofs.Ytdecbngdmnmokaa.cellTells
namespace Go.Proofs.Ytdecbngdmnmokaa
/-- The row, under a short name, for the claim. -/
theorem cellTells_holds : Rows.CellTellsSaid := cellTells.proved
end Go.Proofs.Ytdecbngdmnmokaa
