/- The row of the law ProgLines, and its tied card: for every input the call returns true and all read as they did. The row lists seven variables of the library as the program text lays them. -/
import Derived.Test.YtfebhemdpbnebaaDoorRows
import Derived.Test.YtfebhemdpbnebaaDoorPProgLinesx7
import Derived.Test.YtfebhemdpbnebaaDoorPureProgLines
import Derived.WalkKit
import Derived.ProofKit
import Derived.OpenShut
import Derived.ShutString
import Derived.ChangeOld
import Derived.Below
import Derived.SizedLaws
import Derived.Test.YtfebhemdpbnebaaDoorOpen
import Derived.Test.YtfebhemdpbnebaaDoorCards
import Derived.Test.YtfebhemdpbnebaaDoorTie
import Derived.Lib.SmallJoins
import Derived.Lib.LaidTab
import Derived.Stop.LaidErr
import Derived.LaidMore
import Derived.Lay
import Derived.SevenTiedAt
import Derived.Stop.Joined
import Derived.Shelf.Vars
import Derived.Handed
namespace Go.Proofs.YtfebhemdpbnebaaDoor.progLines
open Go.ChangeShapes Go.WideShapes Go.ChangeAt Go.RowKit Go.Proofs.YtfebhemdpbnebaaDoorW.PrintWords Go.Proofs.YtfebhemdpbnebaaDoorW.PrintLast
open Go.ChangeMaps (open_string shut_string)
open Go.Joins
set_option linter.unusedVariables false
theorem own : ownKnob Tryd.prog.godebug = none := by kernel_rfl
theorem laidOut : laidOutB Tryd.prog = true := by kernel_rfl
def laid : List (String × DataW Unit) := [("math/bits.deBruijn32tab", Rows.laid_math_bits_deBruijn32tab), ("math/bits.deBruijn64tab", Rows.laid_math_bits_deBruijn64tab), ("internal/strconv.uint64pow10", Rows.laid_internal_strconv_uint64pow10), ("unicode/utf8.acceptRanges", Rows.laid_unicode_utf8_acceptRanges), ("strconv.ErrRange", Rows.laid_strconv_ErrRange), ("strconv.ErrSyntax", Rows.laid_strconv_ErrSyntax), ("unicode/utf8.first", Rows.laid_unicode_utf8_first)]
theorem star : "*" ++ "errors.errorString" = "*errors.errorString" := by decide
theorem row124 (u : TypeId) (h : Tryd.prog.typeName? 3 u = some "*errors.errorString") : u = 124 :=
  typeName_ptr_named (nm := "errors.errorString") (by rw [star]; kernel_rfl) (by kernel_rfl) (by decide) u (by rw [star]; exact h)
theorem tabs {W : World} (h : laidMetH Tryd.prog laid W) (hs : W.ShapedOpen Tryd.prog) : Hand.Laid W := by
  rw [MakeChecks.laidMetH_plain _ _ _ (by kernel_rfl)] at h
  have h1 : laidMet Tryd.prog (("internal/strconv.uint64pow10", Lib.tabData .u64 Lib.pow10Tab) :: [("unicode/utf8.acceptRanges", Rows.laid_unicode_utf8_acceptRanges), ("strconv.ErrRange", Rows.laid_strconv_ErrRange), ("strconv.ErrSyntax", Rows.laid_strconv_ErrSyntax), ("unicode/utf8.first", Rows.laid_unicode_utf8_first)]) W := laidMet.tail (laidMet.tail h)
  have h2 : laidMet Tryd.prog (("strconv.ErrRange", Rows.laid_strconv_ErrRange) :: [("strconv.ErrSyntax", Rows.laid_strconv_ErrSyntax), ("unicode/utf8.first", Rows.laid_unicode_utf8_first)]) W := laidMet.tail (laidMet.tail h1)
  have h3 : laidMet Tryd.prog (("strconv.ErrSyntax", Rows.laid_strconv_ErrSyntax) :: [("unicode/utf8.first", Rows.laid_unicode_utf8_first)]) W := laidMet.tail h2
  obtain ⟨a1, s1, hv1, _, _, _⟩ := laid_sentinel h2 (g := 5) (by kernel_rfl) (by kernel_rfl) Tryd.underlying57 row124 Tryd.underlying124 Tryd.underlying126 rfl rfl Tryd.underlying9 (by kernel_rfl) (by kernel_rfl)
  obtain ⟨a0, s0, hv0, _, _, _⟩ := laid_sentinel h3 (g := 4) (by kernel_rfl) (by kernel_rfl) Tryd.underlying57 row124 Tryd.underlying124 Tryd.underlying126 rfl rfl Tryd.underlying9 (by kernel_rfl) (by kernel_rfl)
  exact ⟨Lib.tabIs_of_head (g := 1) (t := 105) (e := 90) (n := 20) (by kernel_rfl) (by kernel_rfl) Tryd.underlying105 Tryd.underlying90 (by kernel_rfl) (by kernel_rfl) h1, ⟨_, _, hv0⟩, ⟨_, _, hv1⟩, cell_of_shapedOpen_int (g := 0) (t := 3) (zero := #[.int .i64 0]) hs (of_decide_eq_true (by kernel_rfl)) (by kernel_rfl) rfl (by kernel_rfl) (by kernel_rfl) Tryd.underlying3⟩
set_option maxRecDepth 100000 in
theorem main (H : Type) (enc : TypeId × Value → H) (W : World) (base : Nat) (args : Array Value) (ds gs : List (DataW H)) (before : List MemPlace)
    (hval0 : ∀ (j : Nat) t v, Tryd.f7.params[j]? = some t → args[j]? = some v → Value.okWide Tryd.prog W .any base t v)
    (hW : DataW.Whole enc Tryd.prog Tryd.f7.params.toList Rows.progLinesSpec.vars false W args.toList ds gs before)
    (hsz0 : (DataW.weightsEach Tryd.prog (Tryd.f7.params.toList ++ Rows.progLinesSpec.plain.varTypes Tryd.prog) (ds ++ gs)).all (· ≤ reachBytes) = true)
    (hL : laidMetH Tryd.prog laid W) (hsh : W.ShapedOpen Tryd.prog) :
    Calls Tryd.prog 7 args W fun e W' => ∃ v, e = .returned v ∧ Rows.progLinesSpec.post enc Tryd.prog Tryd.f7 false true false false W args v W' := by
  have hT := tabs hL hsh
  have hval : ∀ (j : Nat) t v, Tryd.f7.params[j]? = some t → args[j]? = some v → Value.okWide Tryd.prog W .any base t v := hval0
  have hW' := hW
  obtain ⟨p, q, hA0, hV, rfl, hfz, hnd⟩ := hW
  have hA : DataW.TrodAll enc Tryd.prog W 0 (fun _ => true) true Tryd.f7.params.toList args.toList ds p := hA0
  rw [Tryd.params7] at hA hval
  obtain ⟨v0, vs0, d0, ds0, p0, q0, hargs, rfl, rfl, h0, r0⟩ := trodAll_cons hA
  obtain ⟨v1, vs1, d1, ds1, p1, q1, rfl, rfl, rfl, h1, r1⟩ := trodAll_cons r0
  obtain ⟨rfl, rfl, rfl⟩ := trodAll_nil r1
  obtain rfl : args = #[v0, v1] := by cases args; simp_all
  obtain ⟨rfl, rfl⟩ := trodVars_none hV
  obtain ⟨A0, len0, cap0, rfl⟩ := okWide_slice Tryd.underlying22 (hval 0 22 v0 rfl rfl)
  have k0 := h0
  have lt0 : ∀ x ∈ p0, x.block < W.heap.size := by obtain ⟨m, hm⟩ := k0; exact DataW.trod_lt m _ _ _ hm
  obtain ⟨l0, hC0, hlen0, hcap0, _, _⟩ : ∃ l0 : List (List Hand.S32), Kd.C (Kd.slice 32 Hand.k32) W A0 len0 l0 ∧ l0.length = len0 ∧ len0 ≤ cap0 ∧ len0 ≤ maxLen ∧ ∀ p ∈ l0, True := by
    obtain ⟨fuel, hf⟩ := h0
    refine Hand.C_of_trod (Kd.slice 32 Hand.k32) (fun _ => True) Tryd.underlying22 (by kernel_rfl) ?_ (by simpa [Value.cells] using hf)
    intro n cs y hcl hy
    match cs, hcl with
    | [c0], _ =>
      rcases Go.Deep.open_slice Tryd.underlying29 hy with ⟨hcs, _⟩ | ⟨b, len', cap', m, n', D', Pl, hcs, _, hl, _, _, _, _⟩
      · obtain rfl : c0 = .slice none 0 0 := by simpa using hcs
        exact ⟨[], ⟨none, 0, rfl, Nat.le_refl _, ⟨rfl, by decide, fun h => by first | omega | (simp at h)⟩⟩, trivial⟩
      · obtain rfl : c0 = .slice (some b) len' cap' := by simpa using hcs
        obtain ⟨xs, hx, hxl, hxc, _, _⟩ := Hand.C_of_trod Hand.k32 (fun _ => True) Tryd.underlying29 (by kernel_rfl) (by
          intro n cs y hcl hy
          obtain ⟨y0, y1, m, _, _, hy0, hy1⟩ := trod_struct2 Tryd.underlying32 hy
          match cs, hcl with
          | [c0, c1], _ =>
            obtain ⟨i0, e0, _, _⟩ := DataW.trod_int Tryd.underlying3 hy0
            obtain ⟨i1, e1, _, _⟩ := DataW.trod_int Tryd.underlying3 hy1
            have z3 : Tryd.prog.cellsOf 3 = 1 := by kernel_rfl
            simp [z3] at e0 e1
            subst e0; subst e1
            exact ⟨⟨i0, i1⟩, Hand.k32_mk W ⟨i0, i1⟩, trivial⟩) hy
        subst hxl
        exact ⟨xs, ⟨some b, cap', rfl, hxc, hx⟩, trivial⟩
  subst hlen0
  obtain ⟨A1, len1, cap1, rfl⟩ := okWide_slice Tryd.underlying22 (hval 1 22 v1 rfl rfl)
  have k1 := h1
  have lt1 : ∀ x ∈ p1, x.block < W.heap.size := by obtain ⟨m, hm⟩ := k1; exact DataW.trod_lt m _ _ _ hm
  obtain ⟨l1, hC1, hlen1, hcap1, _, _⟩ : ∃ l1 : List (List Hand.S32), Kd.C (Kd.slice 32 Hand.k32) W A1 len1 l1 ∧ l1.length = len1 ∧ len1 ≤ cap1 ∧ len1 ≤ maxLen ∧ ∀ p ∈ l1, True := by
    obtain ⟨fuel, hf⟩ := h1
    refine Hand.C_of_trod (Kd.slice 32 Hand.k32) (fun _ => True) Tryd.underlying22 (by kernel_rfl) ?_ (by simpa [Value.cells] using hf)
    intro n cs y hcl hy
    match cs, hcl with
    | [c0], _ =>
      rcases Go.Deep.open_slice Tryd.underlying29 hy with ⟨hcs, _⟩ | ⟨b, len', cap', m, n', D', Pl, hcs, _, hl, _, _, _, _⟩
      · obtain rfl : c0 = .slice none 0 0 := by simpa using hcs
        exact ⟨[], ⟨none, 0, rfl, Nat.le_refl _, ⟨rfl, by decide, fun h => by first | omega | (simp at h)⟩⟩, trivial⟩
      · obtain rfl : c0 = .slice (some b) len' cap' := by simpa using hcs
        obtain ⟨xs, hx, hxl, hxc, _, _⟩ := Hand.C_of_trod Hand.k32 (fun _ => True) Tryd.underlying29 (by kernel_rfl) (by
          intro n cs y hcl hy
          obtain ⟨y0, y1, m, _, _, hy0, hy1⟩ := trod_struct2 Tryd.underlying32 hy
          match cs, hcl with
          | [c0, c1], _ =>
            obtain ⟨i0, e0, _, _⟩ := DataW.trod_int Tryd.underlying3 hy0
            obtain ⟨i1, e1, _, _⟩ := DataW.trod_int Tryd.underlying3 hy1
            have z3 : Tryd.prog.cellsOf 3 = 1 := by kernel_rfl
            simp [z3] at e0 e1
            subst e0; subst e1
            exact ⟨⟨i0, i1⟩, Hand.k32_mk W ⟨i0, i1⟩, trivial⟩) hy
        subst hxl
        exact ⟨xs, ⟨some b, cap', rfl, hxc, hx⟩, trivial⟩
  subst hlen1
  clear hA0 hval0 hsz0
  refine (PProgLines.deadboltlaw12_ProgLines.calls (31000 + 10) A0 cap0 l0 A1 cap1 l1 true W hC0 hcap0 hC1 hcap1 (Pure.ProgLines l0 l1) hT).mono fun e W' ⟨he, bel⟩ => ?_
  subst he
  exact ⟨_, rfl, _, _, _, [], _, [], hW', trodAll_mk1 (shut_bool Tryd.underlying4 _), (trodAll_cons_mk (Below.trod laidOut (by kernel_rfl) (of_decide_eq_true (by kernel_rfl)) k0 bel lt0) (trodAll_cons_mk (Below.trod laidOut (by kernel_rfl) (of_decide_eq_true (by kernel_rfl)) k1 bel lt1) trodAll_mk0)), rfl, bel.frame _, fun h => by cases h⟩
set_option maxRecDepth 100000 in
theorem lifted (os : Os) (started : os.Started) (H : Type) (enc : TypeId × Value → H) :
    ReturnsInHanded {} Tryd.checked os 7 .any (fun w args => (Rows.progLinesSpec.pre enc Tryd.prog Tryd.f7 Rows.progLinesRow.domain false w args ∧ laidMetH Tryd.prog laid w) ∧ sizedMet enc Tryd.prog Tryd.f7 (OpenSpec.ofChange Rows.progLinesSpec) false w args)
      (Rows.progLinesSpec.post enc Tryd.prog Tryd.f7 false true false false) := by
  refine returnsInHanded_of_calls (C := Tryd.checked) own started (by kernel_rfl)
    (ChangeSpec.witness_shaped (enc := enc) (C := Tryd.checked) (os := os) (X := fun w _ => laidMetH Tryd.prog laid w) false (World.laidAll Tryd.prog os laid) #[.slice none 0 0, .slice none 0 0] 8 (World.laidAll_os _ _ _)
      (World.shaped_of_ZipB (by kernel_rfl) (by kernel_rfl)) (by kernel_rfl) (by kernel_rfl) (by kernel_rfl)
      (by rw [MakeChecks.laidMetH_plain _ _ _ (by kernel_rfl)]; exact laidMet_laidAll _ (by kernel_rfl) (by kernel_rfl))) ?_
  intro w tape i _ hsh _ hok hpre _
  obtain ⟨_, _, _, fn', hfn', _, _, _, _, hval⟩ := hok
  obtain rfl : fn' = Tryd.f7 := Option.some.inj (hfn'.symm.trans Tryd.func7)
  obtain ⟨⟨⟨ds, gs, before, hw, hc⟩, hx⟩, hz⟩ := hpre
  refine (main H enc (w.forCall tape i) w.heap.size i.args ds gs before hval (DataW.Whole.of_heap (w' := w.forCall tape i) (by rfl) hw) (hz.weights hw) (laidMetH.of_heap (by rfl) hx) hsh).mono fun e W' ⟨v, he, hp⟩ => ?_
  subst he
  exact ChangeSpec.post_blind hp
theorem over : Rows.progLinesRow.holds Tryd.pinned (OpenSpec.ofChange Rows.progLinesSpec) :=
  OpenClaim.holds_of_wide 7 Tryd.f7 rfl rfl rfl rfl rfl rfl rfl ⟨rfl, rfl, rfl, rfl, rfl⟩ rfl rfl rfl rfl rfl (by kernel_rfl) Tryd.func7 (by kernel_rfl)
    (of_decide_eq_true (by kernel_rfl)) (by unfold Func.isWrapper; first | (rw [if_pos (by decide +kernel)]; kernel_rfl) | (rw [if_neg (by decide +kernel)]; exact ⟨rfl, rfl⟩))
    (fun os started H enc _ => lifted os started H enc)
theorem card : Rows.ProgLinesCardSaid :=
  Claim7.holds_tied_plain_at .later [] [.data, .data, .data, .data, .sentinel, .sentinel, .pinned] true (true, "6bb5f971d6dcd23fad05e40194f1ed0b65a7455e26253e146b4de1253776daa3") true over (fun _ h => by cases h) (by kernel_rfl) (fun _ h => by cases h) progLines_row_tie rfl ⟨rfl, rfl⟩ (by kernel_rfl) rfl
    (fun f fn hf hfn => by
      obtain rfl : f = 7 := Option.some.inj ((show Tryd.prog.funcNamed "deadbolt/deadboltlaw12.ProgLines" = some 7 by kernel_rfl).symm.trans hf) |>.symm
      obtain rfl : fn = Tryd.f7 := (Option.some.inj (Tryd.func7.symm.trans hfn)).symm
      exact ⟨by kernel_rfl, fun j t ht => by
        have hall : (Tryd.f7.params.toList.all fun u => !Tryd.prog.wantsStandIn u) = true := by kernel_rfl
        exact (show Tryd.prog.wantsStandIn t = false by simpa using List.all_eq_true.1 hall t (Array.mem_toList_iff.2 (Array.mem_of_getElem? ht)))⟩)
    (by kernel_rfl)
#print axioms card
end Go.Proofs.YtfebhemdpbnebaaDoor.progLines
namespace Go.Proofs.YtfebhemdpbnebaaDoor
/-- The tied card, under a short name, for the claim. -/
theorem progLines_holds : Rows.ProgLinesCardSaid := progLines.card
end Go.Proofs.YtfebhemdpbnebaaDoor
