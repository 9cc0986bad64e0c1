/- The row of the law TopCounts, and its tied card: for every input the call returns true and all read as they did. The row lists seven variables of the library as the program text lays them. -/
import Derived.Test.YtoimfknjfeencaaGreatDoorRows
import Derived.Test.YtoimfknjfeencaaGreatDoorC29
import Derived.Test.YtoimfknjfeencaaGreatDoorCards
import Derived.Test.YtoimfknjfeencaaGreatDoorTie
import Derived.Below
import Derived.ChangeOld
import Derived.Handed
import Derived.LaidMore
import Derived.Lay
import Derived.Lib.LaidTab
import Derived.Lib.SmallJoins
import Derived.OpenShut
import Derived.ProofKit
import Derived.SevenTiedAt
import Derived.Shelf.Vars
import Derived.ShutString
import Derived.SizedLaws
import Derived.Stop.Joined
import Derived.Stop.LaidErr
import Derived.WalkKit
set_option linter.unusedVariables false
set_option linter.unusedSimpArgs false
set_option maxHeartbeats 8000000
set_option maxRecDepth 100000
section
namespace Go.Proofs.YtoimfknjfeencaaGreatDoor.topCounts
open Go.ChangeShapes Go.WideShapes Go.ChangeAt Go.RowKit Go.Proofs.YtoimfknjfeencaaGreatDoorW.PrintWords Go.Proofs.YtoimfknjfeencaaGreatDoorW.PrintLast
open Go.ChangeMaps (open_string shut_string)
open Go.Joins
theorem own : ownKnob Tryz.prog.godebug = none := by kernel_rfl
theorem laidOut : laidOutB Tryz.prog = true := by kernel_rfl
def laid : List (String × DataW Unit) := [("math/bits.deBruijn32tab", Rows.laid_math_bits_deBruijn32tab), ("math/bits.deBruijn64tab", Rows.laid_math_bits_deBruijn64tab), ("internal/strconv.uint64pow10", Rows.laid_internal_strconv_uint64pow10), ("unicode/utf8.acceptRanges", Rows.laid_unicode_utf8_acceptRanges), ("strconv.ErrRange", Rows.laid_strconv_ErrRange), ("strconv.ErrSyntax", Rows.laid_strconv_ErrSyntax), ("unicode/utf8.first", Rows.laid_unicode_utf8_first)]
theorem star : "*" ++ "errors.errorString" = "*errors.errorString" := by decide
theorem row283 (u : TypeId) (h : Tryz.prog.typeName? 3 u = some "*errors.errorString") : u = 283 :=
 typeName_ptr_named (nm := "errors.errorString") (by rw [star]; kernel_rfl) (by kernel_rfl) (by decide) u (by rw [star]; exact h)
theorem tabs {W : World} (h : laidMetH Tryz.prog laid W) (hs : W.ShapedOpen Tryz.prog) : Hand.Laid W := by
 rw [MakeChecks.laidMetH_plain _ _ _ (by kernel_rfl)] at h
 have h1 : laidMet Tryz.prog (("internal/strconv.uint64pow10", Lib.tabData .u64 Lib.pow10Tab) :: [("unicode/utf8.acceptRanges", Rows.laid_unicode_utf8_acceptRanges), ("strconv.ErrRange", Rows.laid_strconv_ErrRange), ("strconv.ErrSyntax", Rows.laid_strconv_ErrSyntax), ("unicode/utf8.first", Rows.laid_unicode_utf8_first)]) W := laidMet.tail (laidMet.tail h)
 have h2 : laidMet Tryz.prog (("strconv.ErrRange", Rows.laid_strconv_ErrRange) :: [("strconv.ErrSyntax", Rows.laid_strconv_ErrSyntax), ("unicode/utf8.first", Rows.laid_unicode_utf8_first)]) W := laidMet.tail (laidMet.tail h1)
 have h3 : laidMet Tryz.prog (("strconv.ErrSyntax", Rows.laid_strconv_ErrSyntax) :: [("unicode/utf8.first", Rows.laid_unicode_utf8_first)]) W := laidMet.tail h2
 obtain ⟨a1, s1, hv1, _, _, _⟩ := laid_sentinel h2 (g := 4) (by kernel_rfl) (by kernel_rfl) Tryz.underlying169 row283 Tryz.underlying283 Tryz.underlying285 rfl rfl Tryz.underlying9 (by kernel_rfl) (by kernel_rfl)
 obtain ⟨a0, s0, hv0, _, _, _⟩ := laid_sentinel h3 (g := 3) (by kernel_rfl) (by kernel_rfl) Tryz.underlying169 row283 Tryz.underlying283 Tryz.underlying285 rfl rfl Tryz.underlying9 (by kernel_rfl) (by kernel_rfl)
 exact ⟨Lib.tabIs_of_head (g := 5) (t := 286) (e := 252) (n := 20) (by kernel_rfl) (by kernel_rfl) Tryz.underlying286 Tryz.underlying252 (by kernel_rfl) (by kernel_rfl) h1, ⟨_, _, hv0⟩, ⟨_, _, hv1⟩, cell_of_shapedOpen_int (g := 0) (t := 3) (zero := #[.int .i64 0]) hs (of_decide_eq_true (by kernel_rfl)) (by kernel_rfl) rfl (by kernel_rfl) (by kernel_rfl) Tryz.underlying3⟩
theorem main (H : Type) (enc : TypeId × Value → H) (W : World) (base : Nat) (args : Array Value) (ds gs : List (DataW H)) (before : List MemPlace)
  (hval0 : ∀ (j : Nat) t v, Tryz.f3.params[j]? = some t → args[j]? = some v → Value.okWide Tryz.prog W .any base t v)
  (hW : DataW.Whole enc Tryz.prog Tryz.f3.params.toList Rows.topCountsSpec.vars false W args.toList ds gs before)
  (hsz0 : (DataW.weightsEach Tryz.prog (Tryz.f3.params.toList ++ Rows.topCountsSpec.plain.varTypes Tryz.prog) (ds ++ gs)).all (· ≤ reachBytes) = true)
  (hL : laidMetH Tryz.prog laid W) (hsh : W.ShapedOpen Tryz.prog) :
  Calls Tryz.prog 3 args W fun e W' => ∃ v, e = .returned v ∧ Rows.topCountsSpec.post enc Tryz.prog Tryz.f3 false true false false W args v W' := by
 have hT := tabs hL hsh
 have hval : ∀ (j : Nat) t v, Tryz.f3.params[j]? = some t → args[j]? = some v → Value.okWide Tryz.prog W .any base t v := hval0
 have hW' := hW
 obtain ⟨p, q, hA0, hV, rfl, hfz, hnd⟩ := hW
 have hA : DataW.TrodAll enc Tryz.prog W 0 (fun _ => true) true Tryz.f3.params.toList args.toList ds p := hA0
 rw [Tryz.params3] at hA hval
 obtain ⟨v0, vs0, d0, ds0, p0, q0, hargs, rfl, rfl, h0, r0⟩ := trodAll_cons hA
 obtain ⟨v1, vs1, d1, ds1, p1, q1, rfl, rfl, rfl, h1, r1⟩ := trodAll_cons r0
 obtain ⟨rfl, rfl, rfl⟩ := trodAll_nil r1
 obtain rfl : args = #[v0, v1] := by cases args; simp_all
 obtain ⟨rfl, rfl⟩ := trodVars_none hV
 obtain ⟨A0, len0, cap0, rfl⟩ := okWide_slice Tryz.underlying22 (hval 0 22 v0 rfl rfl)
 have k0 := h0
 have lt0 : ∀ x ∈ p0, x.block < W.heap.size := by obtain ⟨m, hm⟩ := k0; exact DataW.trod_lt m _ _ _ hm
 obtain ⟨l0, hC0, hlen0, hcap0, _, _⟩ : ∃ l0 : List (List Hand.S49), Kd.C (Kd.slice 49 Hand.k49) W A0 len0 l0 ∧ l0.length = len0 ∧ len0 ≤ cap0 ∧ len0 ≤ maxLen ∧ ∀ p ∈ l0, True := by
  obtain ⟨fuel, hf⟩ := h0
  refine Hand.C_of_trod (Kd.slice 49 Hand.k49) (fun _ => True) Tryz.underlying22 (by kernel_rfl) ?_ (by simpa [Value.cells] using hf)
  intro n cs y hcl hy
  match cs, hcl with
  | [c0], _ =>
   rcases Go.Deep.open_slice Tryz.underlying47 hy with ⟨hcs, _⟩ | ⟨b, len', cap', m, n', D', Pl, hcs, _, hl, _, _, _, _⟩
   ·obtain rfl : c0 = .slice none 0 0 := by simpa using hcs
    exact ⟨[], ⟨none, 0, rfl, Nat.le_refl _, ⟨rfl, by decide, fun h => by first | omega | (simp at h)⟩⟩, trivial⟩
   ·obtain rfl : c0 = .slice (some b) len' cap' := by simpa using hcs
    obtain ⟨xs, hx, hxl, hxc, _, _⟩ := Hand.C_of_trod Hand.k49 (fun _ => True) Tryz.underlying47 (by kernel_rfl) (by
     intro n cs y hcl hy
     obtain ⟨y0, y1, m, _, _, hy0, hy1⟩ := trod_struct2 Tryz.underlying49 hy
     match cs, hcl with
     | [c0, c1], _ =>
      obtain ⟨i0, e0, _, _⟩ := DataW.trod_int Tryz.underlying3 hy0
      obtain ⟨i1, e1, _, _⟩ := DataW.trod_int Tryz.underlying3 hy1
      have z3 : Tryz.prog.cellsOf 3 = 1 := by kernel_rfl
      simp [z3] at e0 e1
      subst e0; subst e1
      exact ⟨⟨i0, i1⟩, Hand.k49_mk W ⟨i0, i1⟩, trivial⟩) hy
    subst hxl
    exact ⟨xs, ⟨some b, cap', rfl, hxc, hx⟩, trivial⟩
 subst hlen0
 have hp9 : ∀ p ∈ l0, p.length ≤ 9223372036854775807 := by
  intro p hp
  obtain ⟨q, hq⟩ := List.getElem?_of_mem hp
  obtain ⟨_, _, hcc⟩ := hC0
  obtain ⟨ad, _, hcc⟩ := hcc (by have := (List.getElem?_eq_some_iff.1 hq).1; omega)
  obtain ⟨cs, _, ⟨A9, c9, _, _, hC9⟩, _⟩ := hcc q p hq
  exact hC9.2.1
 obtain ⟨A1, len1, cap1, rfl⟩ := okWide_slice Tryz.underlying23 (hval 1 23 v1 rfl rfl)
 have k1 := h1
 have lt1 : ∀ x ∈ p1, x.block < W.heap.size := by obtain ⟨m, hm⟩ := k1; exact DataW.trod_lt m _ _ _ hm
 obtain ⟨l1, hC1, hlen1, hcap1, _, hwf1⟩ : ∃ l1 : List Int, Kd.C (Kd.int .i64) W A1 len1 l1 ∧ l1.length = len1 ∧ len1 ≤ cap1 ∧ len1 ≤ maxLen ∧ ∀ p ∈ l1, (-9223372036854775808 ≤ p ∧ p ≤ 9223372036854775807) := by
  obtain ⟨fuel, hf⟩ := h1
  refine Hand.C_of_trod (Kd.int .i64) (fun p => -9223372036854775808 ≤ p ∧ p ≤ 9223372036854775807) Tryz.underlying23 (by kernel_rfl) ?_ (by simpa [Value.cells] using hf)
  intro n cs y hcl hy
  match cs, hcl with
  | [c0], _ =>
   obtain ⟨i0, e0, e1, e2⟩ := DataW.trod_int Tryz.underlying3 hy
   simp at e0
   subst e0
   simp only [Lit.wf, IntKind.min, IntKind.max, IntKind.signed, IntKind.bits, Bool.and_eq_true, decide_eq_true_eq, if_true] at e2
   exact ⟨i0, rfl, by have h1 := e2.1; have h2 := e2.2; simp at h1 h2; exact ⟨h1, h2⟩⟩
 subst hlen1
 clear hA0 hval0 hsz0
 refine (Hand.counts_top A0 cap0 l0 A1 cap1 l1 W hT hC0 hcap0 hp9 hC1 hcap1 hwf1).mono fun e W' ⟨he, bel⟩ => ?_
 subst he
 exact ⟨_, rfl, _, _, _, [], _, [], hW', trodAll_mk1 (shut_bool Tryz.underlying4 _), (trodAll_cons_mk (Below.trod laidOut (by kernel_rfl) (of_decide_eq_true (by kernel_rfl)) k0 bel lt0) (trodAll_cons_mk (Below.trod laidOut (by kernel_rfl) (of_decide_eq_true (by kernel_rfl)) k1 bel lt1) trodAll_mk0)), rfl, bel.frame _, fun h => by cases h⟩
theorem lifted (os : Os) (started : os.Started) (H : Type) (enc : TypeId × Value → H) :
  ReturnsInHanded {} Tryz.checked os 3 .any (fun w args => (Rows.topCountsSpec.pre enc Tryz.prog Tryz.f3 Rows.topCountsRow.domain false w args ∧ laidMetH Tryz.prog laid w) ∧ sizedMet enc Tryz.prog Tryz.f3 (OpenSpec.ofChange Rows.topCountsSpec) false w args)
   (Rows.topCountsSpec.post enc Tryz.prog Tryz.f3 false true false false) := by
 refine returnsInHanded_of_calls (C := Tryz.checked) own started (by kernel_rfl)
  (ChangeSpec.witness_shaped (enc := enc) (C := Tryz.checked) (os := os) (X := fun w _ => laidMetH Tryz.prog laid w) false (World.laidAll Tryz.prog os laid) #[.slice none 0 0, .slice none 0 0] 8 (World.laidAll_os _ _ _)
   (World.shaped_of_ZipB (by kernel_rfl) (by kernel_rfl)) (by kernel_rfl) (by kernel_rfl) (by kernel_rfl)
   (by rw [MakeChecks.laidMetH_plain _ _ _ (by kernel_rfl)]; exact laidMet_laidAll _ (by kernel_rfl) (by kernel_rfl))) ?_
 intro w tape i _ hsh _ hok hpre _
 obtain ⟨_, _, _, fn', hfn', _, _, _, _, hval⟩ := hok
 obtain rfl : fn' = Tryz.f3 := Option.some.inj (hfn'.symm.trans Tryz.func3)
 obtain ⟨⟨⟨ds, gs, before, hw, hc⟩, hx⟩, hz⟩ := hpre
 refine (main H enc (w.forCall tape i) w.heap.size i.args ds gs before hval (DataW.Whole.of_heap (w' := w.forCall tape i) (by rfl) hw) (hz.weights hw) (laidMetH.of_heap (by rfl) hx) hsh).mono fun e W' ⟨v, he, hp⟩ => ?_
 subst he
 exact ChangeSpec.post_blind hp
theorem over : Rows.topCountsRow.holds Tryz.pinned (OpenSpec.ofChange Rows.topCountsSpec) :=
 OpenClaim.holds_of_wide 3 Tryz.f3 rfl rfl rfl rfl rfl rfl rfl ⟨rfl, rfl, rfl, rfl, rfl⟩ rfl rfl rfl rfl rfl (by kernel_rfl) Tryz.func3 (by kernel_rfl)
  (of_decide_eq_true (by kernel_rfl)) (by unfold Func.isWrapper; first | (rw [if_pos (by decide +kernel)]; kernel_rfl) | (rw [if_neg (by decide +kernel)]; exact ⟨rfl, rfl⟩))
  (fun os started H enc _ => lifted os started H enc)
theorem card : Rows.TopCountsCardSaid :=
 Claim7.holds_tied_plain_at .later [] [.data, .data, .data, .data, .sentinel, .sentinel, .pinned] true (true, "e24e58ad20561fbbedbb18219a970929e8443eb74a76944ed598a2c85bf59c8c") true over (fun _ h => by cases h) (by kernel_rfl) (fun _ h => by cases h) topCounts_row_tie rfl ⟨rfl, rfl⟩ (by kernel_rfl) rfl
  (fun f fn hf hfn => by
   obtain rfl : f = 3 := Option.some.inj ((show Tryz.prog.funcNamed "deadbolt/deadbolttop.TopCounts" = some 3 by kernel_rfl).symm.trans hf) |>.symm
   obtain rfl : fn = Tryz.f3 := (Option.some.inj (Tryz.func3.symm.trans hfn)).symm
   exact ⟨by kernel_rfl, fun j t ht => by
    have hall : (Tryz.f3.params.toList.all fun u => !Tryz.prog.wantsStandIn u) = true := by kernel_rfl
    exact (show Tryz.prog.wantsStandIn t = false by simpa using List.all_eq_true.1 hall t (Array.mem_toList_iff.2 (Array.mem_of_getElem? ht)))⟩)
  (by kernel_rfl)
end Go.Proofs.YtoimfknjfeencaaGreatDoor.topCounts
namespace Go.Proofs.YtoimfknjfeencaaGreatDoor
theorem topCounts_holds : Rows.TopCountsCardSaid := topCounts.card
end Go.Proofs.YtoimfknjfeencaaGreatDoor
end
