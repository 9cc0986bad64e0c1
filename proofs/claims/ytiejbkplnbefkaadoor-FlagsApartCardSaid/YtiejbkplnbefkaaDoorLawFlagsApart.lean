/- The row of the law FlagsApart, and its tied card: for all words and flags the call returns true and all read as they did. The row lists three tables of the library as the program text lays them. -/
import Derived.Test.YtiejbkplnbefkaaDoorRows
import Derived.Test.YtiejbkplnbefkaaDoorCards
import Derived.Test.YtiejbkplnbefkaaDoorTie
import Derived.Test.YtiejbkplnbefkaaDoorPFlagsApartx2
import Derived.Test.YtiejbkplnbefkaaDoorPureFlagsApart
import Derived.WalkKit
import Derived.ProofKit
import Derived.OpenShut
import Derived.ShutString
import Derived.ChangeOld
import Derived.Below
import Derived.SizedLaws
import Derived.Lib.SmallJoins
import Derived.Lib.LaidTab
import Derived.Stop.LaidErr
import Derived.LaidMore
import Derived.Lay
import Derived.SevenTiedAt
import Derived.Stop.Joined
namespace Go.Proofs.YtiejbkplnbefkaaDoor.flagsApart
open Go.ChangeShapes Go.WideShapes Go.ChangeAt Go.RowKit Go.Joins
set_option linter.unusedVariables false
theorem own : ownKnob Tryd.prog.godebug = none := by kernel_rfl
theorem laidOut : laidOutB Tryd.prog = true := by kernel_rfl
theorem cells23 : Tryd.prog.cellsOf 23 = 4 := by kernel_rfl
def laid : List (String × DataW Unit) := [("math/bits.deBruijn32tab", Rows.laid_math_bits_deBruijn32tab), ("math/bits.deBruijn64tab", Rows.laid_math_bits_deBruijn64tab), ("internal/strconv.uint64pow10", Rows.laid_internal_strconv_uint64pow10)]
theorem tabs {W : World} (h : laidMetH Tryd.prog laid W) : Hand.Tabs W := by
  rw [MakeChecks.laidMetH_plain _ _ _ (by kernel_rfl)] at h
  have h2 : laidMet Tryd.prog [("internal/strconv.uint64pow10", Lib.tabData .u64 Lib.pow10Tab)] W := laidMet.tail (laidMet.tail h)
  exact Lib.tabIs_of_head (g := 2) (t := 77) (e := 64) (n := 20) (by kernel_rfl) (by kernel_rfl) Tryd.underlying77 Tryd.underlying64 (by kernel_rfl) (by kernel_rfl) h2
set_option maxRecDepth 100000 in
theorem lifted (os : Os) (started : os.Started) (H : Type) (enc : TypeId × Value → H) :
    ReturnsInHanded {} Tryd.checked os 3 .any (fun w args => (Rows.flagsApartSpec.pre enc Tryd.prog Tryd.f3 Rows.flagsApartRow.domain false w args ∧ laidMetH Tryd.prog laid w) ∧ sizedMet enc Tryd.prog Tryd.f3 (OpenSpec.ofChange Rows.flagsApartSpec) false w args)
      (Rows.flagsApartSpec.post enc Tryd.prog Tryd.f3 false true false false) := by
  refine returnsInHanded_of_change_and (C := Tryd.checked) (X := fun w _ => laidMetH Tryd.prog laid w) (fun _ _ _ hh h => h.of_heap hh) own started (by kernel_rfl) Tryd.func3
    (ChangeSpec.witness_shaped (enc := enc) (C := Tryd.checked) (os := os) (X := fun w _ => laidMetH Tryd.prog laid w) false (World.laidAll Tryd.prog os laid) #[.int .i64 0, .int .i64 0, .agg #[.bool false, .bool false, .bool false, .int .i64 0], .agg #[.bool false, .bool false, .bool false, .int .i64 0]] 8 (World.laidAll_os _ _ _)
      (World.shaped_of_ZipB (by kernel_rfl) (by kernel_rfl)) (by kernel_rfl) (by kernel_rfl) (by kernel_rfl)
      (by rw [MakeChecks.laidMetH_plain _ _ _ (by kernel_rfl)]; exact laidMet_laidAll _ (by kernel_rfl) (by kernel_rfl))) ?_
  intro W base args ds gs before hval0 hW hc _ hL _
  have hval : ∀ (j : Nat) t v, Tryd.f3.params[j]? = some t → args[j]? = some v → Value.okWide Tryd.prog W .any base t v := hval0
  have hW' := hW
  obtain ⟨p, q, hA0, hV, rfl, hfz, hnd⟩ := hW
  have hA : DataW.TrodAll enc Tryd.prog W 0 (fun _ => true) true Tryd.f3.params.toList args.toList ds p := hA0
  rw [Tryd.params3] at hA hval
  obtain ⟨v0, vs0, d0, ds0, p0, q0, hargs, rfl, rfl, h0, r0⟩ := trodAll_cons hA
  obtain ⟨v1, vs1, d1, ds1, p1, q1, rfl, rfl, rfl, h1, r1⟩ := trodAll_cons r0
  obtain ⟨v2, vs2, d2, ds2, p2, q2, rfl, rfl, rfl, h2, r2⟩ := trodAll_cons r1
  obtain ⟨v3, vs3, d3, ds3, p3, q3, rfl, rfl, rfl, h3, r3⟩ := trodAll_cons r2
  obtain ⟨rfl, rfl, rfl⟩ := trodAll_nil r3
  obtain rfl : args = #[v0, v1, v2, v3] := by cases args; simp_all
  obtain ⟨rfl, rfl⟩ := trodVars_none hV
  obtain ⟨a0, rfl, rfl, rfl, w0⟩ := open_int Tryd.underlying3 (hval 0 3 v0 rfl rfl) h0
  obtain ⟨a1, rfl, rfl, rfl, w1⟩ := open_int Tryd.underlying3 (hval 1 3 v1 rfl rfl) h1
  have k2 := h2
  have lt2 : ∀ x ∈ p2, x.block < W.heap.size := by obtain ⟨m, hm⟩ := k2; exact DataW.trod_lt m _ _ _ hm
  have hv2 := hval 2 23 v2 rfl rfl
  obtain ⟨a2_0, a2_1, a2_2, a2_3, hva2⟩ : ∃ (a b c : Bool) (d : Int), v2 = .agg #[.bool a, .bool b, .bool c, .int .i64 d] := by
    obtain ⟨c0, c1, c2, c3, y0, y1, y2, y3, m, hv, _, _, hy0, hy1, hy2, hy3⟩ := open_agg4 Tryd.underlying23 (by kernel_rfl) cells23 hv2 h2
    obtain ⟨b0, e0, _⟩ := DataW.trod_bool Tryd.underlying4 hy0
    obtain ⟨b1, e1, _⟩ := DataW.trod_bool Tryd.underlying4 hy1
    obtain ⟨b2, e2, _⟩ := DataW.trod_bool Tryd.underlying4 hy2
    obtain ⟨z, e3, _, _⟩ := DataW.trod_int Tryd.underlying3 hy3
    simp at e0 e1 e2 e3
    subst e0; subst e1; subst e2; subst e3
    exact ⟨b0, b1, b2, z, hv⟩
  subst hva2
  have k3 := h3
  have lt3 : ∀ x ∈ p3, x.block < W.heap.size := by obtain ⟨m, hm⟩ := k3; exact DataW.trod_lt m _ _ _ hm
  have hv3 := hval 3 23 v3 rfl rfl
  obtain ⟨a3_0, a3_1, a3_2, a3_3, hva3⟩ : ∃ (a b c : Bool) (d : Int), v3 = .agg #[.bool a, .bool b, .bool c, .int .i64 d] := by
    obtain ⟨c0, c1, c2, c3, y0, y1, y2, y3, m, hv, _, _, hy0, hy1, hy2, hy3⟩ := open_agg4 Tryd.underlying23 (by kernel_rfl) cells23 hv3 h3
    obtain ⟨b0, e0, _⟩ := DataW.trod_bool Tryd.underlying4 hy0
    obtain ⟨b1, e1, _⟩ := DataW.trod_bool Tryd.underlying4 hy1
    obtain ⟨b2, e2, _⟩ := DataW.trod_bool Tryd.underlying4 hy2
    obtain ⟨z, e3, _, _⟩ := DataW.trod_int Tryd.underlying3 hy3
    simp at e0 e1 e2 e3
    subst e0; subst e1; subst e2; subst e3
    exact ⟨b0, b1, b2, z, hv⟩
  subst hva3
  have hT := tabs hL
  clear hA0 hval0
  refine (PFlagsApart.deadboltlaw03_FlagsApart.calls 6 a0 a1 a2_0 a2_1 a2_2 a2_3 a3_0 a3_1 a3_2 a3_3 true W (Pure.FlagsApart a0 a1 a2_0 a2_1 a2_2 a2_3 a3_0 a3_1 a3_2 a3_3) hT).mono fun e W' ⟨he, bel⟩ => ?_
  subst he
  exact ⟨_, rfl, _, _, _, [], _, [], hW', trodAll_mk1 (shut_bool Tryd.underlying4 _), (trodAll_cons_mk (shut_int Tryd.underlying3 w0) (trodAll_cons_mk (shut_int Tryd.underlying3 w1) (trodAll_cons_mk (Below.trod laidOut (by kernel_rfl) (of_decide_eq_true (by kernel_rfl)) k2 bel lt2) (trodAll_cons_mk (Below.trod laidOut (by kernel_rfl) (of_decide_eq_true (by kernel_rfl)) k3 bel lt3) trodAll_mk0)))), rfl, bel.frame _, fun h => by cases h⟩
theorem over : Rows.flagsApartRow.holds Tryd.pinned (OpenSpec.ofChange Rows.flagsApartSpec) :=
  OpenClaim.holds_of_wide 3 Tryd.f3 rfl rfl rfl rfl rfl rfl rfl ⟨rfl, rfl, rfl, rfl, rfl⟩ rfl rfl rfl rfl rfl (by kernel_rfl) Tryd.func3 (by kernel_rfl)
    (of_decide_eq_true (by kernel_rfl)) (by unfold Func.isWrapper; first | (rw [if_pos (by decide +kernel)]; kernel_rfl) | (rw [if_neg (by decide +kernel)]; exact ⟨rfl, rfl⟩))
    (fun os started H enc _ => lifted os started H enc)
theorem card : Rows.FlagsApartCardSaid :=
  Claim7.holds_tied_plain_at .later [] [.data, .data, .data] true (true, "a24497a53667d9b56b4cff1e936b77b7926821da39511e8467906516531e26f1") true over (fun _ h => by cases h) (by kernel_rfl) (fun _ h => by cases h) flagsApart_row_tie rfl ⟨rfl, rfl⟩ (by kernel_rfl) rfl
    (fun f fn hf hfn => by
      obtain rfl : f = 3 := Option.some.inj ((show Tryd.prog.funcNamed "deadbolt/deadboltlaw03.FlagsApart" = some 3 by kernel_rfl).symm.trans hf) |>.symm
      obtain rfl : fn = Tryd.f3 := (Option.some.inj (Tryd.func3.symm.trans hfn)).symm
      exact ⟨by kernel_rfl, fun j t ht => by
        rw [Tryd.params3] at ht
        have hm : t ∈ [3, 23] := by have := Array.mem_of_getElem? ht; simp at this; simp; omega
        have hall : ([3, 23].all fun u => !Tryd.prog.wantsStandIn u) = true := by kernel_rfl
        exact (show Tryd.prog.wantsStandIn t = false by simpa using List.all_eq_true.1 hall t hm)⟩)
    (by kernel_rfl)
#print axioms card
end Go.Proofs.YtiejbkplnbefkaaDoor.flagsApart
namespace Go.Proofs.YtiejbkplnbefkaaDoor
/-- The tied card, under a short name, for the claim. -/
theorem flagsApart_holds : Rows.FlagsApartCardSaid := flagsApart.card
end Go.Proofs.YtiejbkplnbefkaaDoor
