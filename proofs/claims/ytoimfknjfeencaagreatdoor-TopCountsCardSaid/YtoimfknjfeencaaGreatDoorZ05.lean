/- Part of the walk of a law of the top, and what it leans on (Hand, Split, WAt, WRepsOne, WInv, Kinds). No conditions beyond those that each lemma names. -/
import Derived.Test.YtoimfknjfeencaaGreatDoorZ02
import Derived.Test.YtoimfknjfeencaaGreatDoorZ04
import Derived.Test.YtoimfknjfeencaaGreatDoorZ03
import Derived.BigQuiet
import Derived.Deep.QuietTactic
import Derived.Lib.AppendIntMem
import Derived.Lib.AtoiErrMem
import Derived.Maps.OwnSet
import Derived.ProofKit
import Derived.WalkKit
import Derived.Lib.SplitLaws
import Derived.ArgAppend
import Derived.Below
import Derived.Deep.AppendLies
import Derived.Deep.CutBlock
import Derived.Deep.DeepCutAuto
import Derived.Deep.Draws
import Derived.Deep.LoopGhost
import Derived.Deep.OwnRows
import Derived.Deep.RegionHeld3
import Derived.KernelRfl
import Derived.Laws.BitsLemmas
import Derived.Laws.BytesArg
import Derived.Laws.IdiomCopy
import Derived.Laws.MakeOwn
import Derived.Laws.OwnMore
import Derived.Laws.Rows
import Derived.Laws.Slices
import Derived.Laws.StructEq
import Derived.Lib.AppendStr
import Derived.Lib.ConvBytes
import Derived.Maps.AppendAt
import Derived.OrdersHeld
import Derived.OwnWalk
import Derived.RowKit
import Derived.RowKit3
import Derived.Tactics
import Derived.Test.YtoimfknjfeencaaGreatDoorProg
import Derived.WideLaws
set_option linter.unusedVariables false
set_option linter.unusedSimpArgs false
set_option maxHeartbeats 8000000
set_option maxRecDepth 100000
section
namespace Go.Proofs.YtoimfknjfeencaaGreatDoor.Hand
open Go.RowKit Go.Proofs.YtoimfknjfeencaaGreatDoorW.PrintWords Go.Proofs.YtoimfknjfeencaaGreatDoorW.PrintLast Go.Proofs.YtoimfknjfeencaaGreatDoorW.PrintMore Go.Maps
theorem var_below {name : String} {cs : Array Value} {w w' : World} (h : w.var? Tryz.prog name = some cs) (hb : Below w.heap.size w w') : w'.var? Tryz.prog name = some cs := by
 unfold World.var? at *
 cases hg : Tryz.prog.globalNamed name with
 | none => simp [hg] at h
 | some g =>
  simp only [hg, Option.bind_some] at h ⊢
  have hlt : g < w.heap.size := by
   rcases Nat.lt_or_ge g w.heap.size with h' | h'
   ·exact h'
   ·rw [Array.getElem?_eq_none h'] at h; simp at h
  rw [hb.block g hlt]
  exact h
structure Laid (w : World) : Prop where
 tabs : Lib.TabIs Tryz.prog w "internal/strconv.uint64pow10" .u64 Lib.pow10Tab
 syn : ∃ tp p, w.var? Tryz.prog "strconv.ErrSyntax" = some #[.iface tp p]
 rng : ∃ tp p, w.var? Tryz.prog "strconv.ErrRange" = some #[.iface tp p]
 mx : ∃ m : Int, w.cell? ⟨0, 0, none⟩ = some (.int .i64 m)
theorem Laid.below {w w' : World} (h : Laid w) (hb : Below w.heap.size w w') : Laid w' := by
 obtain ⟨a, ⟨tp, p, hs⟩, ⟨tq, q, hr⟩, ⟨m, hm⟩⟩ := h
 exact ⟨Lib.tabBelow_of_tabIs a w' hb, ⟨tp, p, var_below hs hb⟩, ⟨tq, q, var_below hr hb⟩, ⟨m, (hb.cell (World.block_lt_of_cell? _ _ hm)).trans hm⟩⟩
def atoiErr (l : List UInt8) (v : Value) : Prop := match Lib.atoiAll l with
 | .ok _ => v = .nilIface
 | _ => ∃ N, v = .iface 226 (.pointer (some ⟨N, 0, none⟩))
def atoiNum (l : List UInt8) : Int := match Lib.atoiAll l with
 | .ok n => n
 | .range => Lib.atoiSat l
 | _ => 0
theorem atoi_any (s : ByteArray) (hlim : s.size ≤ 281474976710656) (w : World) (hL : Laid w) :
  Calls Tryz.prog 109 #[.string s] w fun e w' => ∃ v, e = .returned (.tuple #[.int .i64 (atoiNum s.data.toList), v]) ∧ atoiErr s.data.toList v ∧ Below w.heap.size w w' := by
 obtain ⟨_, ⟨tp, p, hs⟩, ⟨tq, q, hr⟩, _⟩ := hL
 unfold atoiErr atoiNum
 rcases h : Lib.atoiAll s.data.toList with n | _ | _
 ·refine (Tryz.strconv_Atoi_ok s (by omega) n h w).mono ?_
  rintro e w' ⟨rfl, hw⟩
  refine ⟨_, rfl, rfl, ?_⟩
  rcases hw with rfl | ⟨t, rfl⟩
  ·exact Below.refl _ _
  ·exact Lib.bytesWorld_below _ _ _
 ·refine (Tryz.strconv_Atoi_syntax_var s hlim h tp p w hs).mono ?_
  rintro e w' ⟨N, rfl, _, _, hb⟩
  exact ⟨_, rfl, ⟨N, rfl⟩, hb⟩
 ·refine (Tryz.strconv_Atoi_range_var s hlim h tq q w hr).mono ?_
  rintro e w' ⟨N, rfl, _, _, hb⟩
  exact ⟨_, rfl, ⟨N, rfl⟩, hb⟩
theorem itoa_any (n : Int) (h0 : -9223372036854775808 ≤ n) (h1 : n ≤ 9223372036854775807) (w : World) (hL : Laid w) : Calls Tryz.prog 110 #[.int .i64 n] w fun e w' => e = .returned (.string ⟨(Lib.itoa n).toArray⟩) ∧ Below w.heap.size w w' := by
 refine (Tryz.strconv_Itoa n h0 h1 w hL.tabs).mono ?_
 rintro e w' ⟨rfl, k, os, rfl⟩
 exact ⟨rfl, Lib.below_grow _ w (Nat.le_refl _) k os⟩
def kLock : List UInt8 := [108, 111, 99, 107]
def kTry : List UInt8 := [116, 114, 121]
def kUnlock : List UInt8 := [117, 110, 108, 111, 99, 107]
def kWork : List UInt8 := [119, 111, 114, 107]
def kindOf (l : List UInt8) : Option Int := if l = kLock then some 0 else if l = kTry then some 1 else if l = kUnlock then some 2 else if l = kWork then some 3 else none
theorem law9 : Keyed Tryz.prog 9 := string_keyed Tryz.underlying9
theorem zero3 (w : World) : (zeroValue 3).run Tryz.prog w = .ok (.int .i64 0) w := by kernel_rfl
def kinds : DataW Unit := ((((DataW.map []).put (.string kLock) (.lit (.int .i64 0))).put (.string kTry) (.lit (.int .i64 1))).put (.string kUnlock) (.lit (.int .i64 2))).put (.string kWork) (.lit (.int .i64 3))
theorem kinds_has (l : List UInt8) : Maps.has kinds (.string l) = (kindOf l).isSome := by
 unfold kinds kindOf
 have i0 : IsMap (DataW.map [] : DataW Unit) := isMap_empty
 by_cases h3 : l = kWork
 ·subst h3
  rw [has_put_same (((i0.put _ _).put _ _).put _ _) (show WideAt.IsKeyLit (.string kWork) from trivial)]
  decide
 ·rw [has_put_other (by simpa using h3)]
  by_cases h2 : l = kUnlock
  ·subst h2
   rw [has_put_same ((i0.put _ _).put _ _) (show WideAt.IsKeyLit (.string kUnlock) from trivial)]
   decide
  ·rw [has_put_other (by simpa using h2)]
   by_cases h1 : l = kTry
   ·subst h1
    rw [has_put_same (i0.put _ _) (show WideAt.IsKeyLit (.string kTry) from trivial)]
    decide
   ·rw [has_put_other (by simpa using h1)]
    by_cases h0 : l = kLock
    ·subst h0
     rw [has_put_same i0 (show WideAt.IsKeyLit (.string kLock) from trivial)]
     decide
    ·rw [has_put_other (by simpa using h0), if_neg h0, if_neg h1, if_neg h2, if_neg h3]
     rfl
theorem kinds_at (l : List UInt8) : kinds.atKey (.string l) (.lit (.int .i64 0)) = .lit (.int .i64 ((kindOf l).getD 0)) := by
 unfold kinds kindOf
 have i0 : IsMap (DataW.map [] : DataW Unit) := isMap_empty
 by_cases h3 : l = kWork
 ·subst h3
  rw [atKey_put_same (((i0.put _ _).put _ _).put _ _) (show WideAt.IsKeyLit (.string kWork) from trivial)]
  rfl
 ·rw [atKey_put_other (by simpa using h3)]
  by_cases h2 : l = kUnlock
  ·subst h2
   rw [atKey_put_same ((i0.put _ _).put _ _) (show WideAt.IsKeyLit (.string kUnlock) from trivial)]
   rfl
  ·rw [atKey_put_other (by simpa using h2)]
   by_cases h1 : l = kTry
   ·subst h1
    rw [atKey_put_same (i0.put _ _) (show WideAt.IsKeyLit (.string kTry) from trivial)]
    rfl
   ·rw [atKey_put_other (by simpa using h1)]
    by_cases h0 : l = kLock
    ·subst h0
     rw [atKey_put_same i0 (show WideAt.IsKeyLit (.string kLock) from trivial)]
     rfl
    ·rw [atKey_put_other (by simpa using h0), if_neg h0, if_neg h1, if_neg h2, if_neg h3]
     rfl
def isActP (k n : Int) : Bool := if k = 3 then decide (0 ≤ n ∧ n ≤ 1000) else decide (0 ≤ k ∧ k ≤ 2 ∧ 0 ≤ n ∧ n ≤ 3)
theorem isAct_calls (k n : Int) (w : World) :
  Calls Tryz.prog 38 #[.agg #[.int .i64 k, .int .i64 n]] w fun e w' => e = .returned (.bool (isActP k n)) ∧ Below w.heap.size w w' := by
 have BK := blk_new w (.cells #[.int .i64 k, .int .i64 n] 49)
 have z0 := blk_cell BK 0
 have z1 := blk_cell BK 1
 have HB : Below w.heap.size w (w.alloc (.cells #[.int .i64 k, .int .i64 n] 49)) := (Below.refl _ _).alloc (Nat.le_refl _) _
 unfold isActP
 by_cases h3 : k = 3
 ·subst h3
  go_enter Tryz.func38, Tryz.ntmps38
  go_wp2
  all_goals (go_ret; refine ⟨?_, HB⟩; first | (simp_all; done) | (simp_all; intros; omega))
 ·go_enter Tryz.func38, Tryz.ntmps38
  go_wp2
  all_goals (go_ret; refine ⟨?_, HB⟩; first | (simp_all; done) | (simp_all; intros; omega))
theorem cut_len (s sep : List UInt8) : (Lib.cut s sep).1.length ≤ s.length ∧ (Lib.cut s sep).2.1.length ≤ s.length := by
 unfold Lib.cut
 split
 ·simp only [List.length_take, List.length_drop]
  omega
 ·simp
def prog_act.f (s : ByteArray) : Option (Int × Int × Int) :=
 if s.size ≤ 4096 then some (match kindOf (Lib.cut s.data.toList [32]).1 with
  | none => (0, 0, 8)
  | some k => if (Lib.cut s.data.toList [32]).2.1 = [] then (0, 0, 8) else match Lib.atoiAll (Lib.cut s.data.toList [32]).2.1 with
   | .ok n => if n < 0 ∨ 999999 < n ∨ Lib.itoa n ≠ (Lib.cut s.data.toList [32]).2.1 then (0, 0, 9) else if isActP k n = true then (k, n, 0) else (0, 0, 3)
   | _ => (0, 0, 9)) else none
theorem act_walk (s : ByteArray) (r1 r2 r3 : Int) (w : World) (hL : Laid w) (hs : s.size ≤ 4096) (H : prog_act.f s = some (r1, r2, r3)) :
  Calls Tryz.prog 75 #[.string s] w fun e w' => e = .returned (.tuple #[.agg #[.int .i64 r1, .int .i64 r2], .int .i64 r3]) ∧ Below w.heap.size w w' := by
 unfold prog_act.f at H
 rw [if_pos hs] at H
 replace H := Option.some.inj H
 have HL := ak_ hL
 clear hL
 have hmm := @run_makeMap Tryz.prog
 have hown0 := World.ownsMap_made (H := Unit) (w.alloc (Obj.cells #[.int .i64 0, .int .i64 0] 49)) Tryz.prog 9 (plainElem Tryz.prog 3)
 rw [show (w.alloc (Obj.cells #[.int .i64 0, .int .i64 0] 49)).heap.size = w.heap.size + 1 by simp] at hown0
 obtain ⟨w1, hr1, hown1, hg1⟩ := hown0.update law9 Tryz.underlying164 (by decide) (key := .string ⟨#[108, 111, 99, 107]⟩) (WideMaps.keyOf_string_mk Tryz.underlying9 (by decide)) (plainElem_int (a := 0) Tryz.underlying3 (by decide))
 obtain ⟨w2, hr2, hown2, hg2⟩ := hown1.update law9 Tryz.underlying164 (by decide) (key := .string ⟨#[116, 114, 121]⟩) (WideMaps.keyOf_string_mk Tryz.underlying9 (by decide)) (plainElem_int (a := 1) Tryz.underlying3 (by decide))
 obtain ⟨w3, hr3, hown3, hg3⟩ := hown2.update law9 Tryz.underlying164 (by decide) (key := .string ⟨#[117, 110, 108, 111, 99, 107]⟩) (WideMaps.keyOf_string_mk Tryz.underlying9 (by decide)) (plainElem_int (a := 2) Tryz.underlying3 (by decide))
 obtain ⟨w4, hr4, hown4, hg4⟩ := hown3.update law9 Tryz.underlying164 (by decide) (key := .string ⟨#[119, 111, 114, 107]⟩) (WideMaps.keyOf_string_mk Tryz.underlying9 (by decide)) (plainElem_int (a := 3) Tryz.underlying3 (by decide))
 have hown : w4.ownsMap Tryz.prog 9 (plainElem Tryz.prog 3) (w.heap.size + 1) 4 kinds := hown4
 have hsz0 : w.heap.size < (w.alloc (Obj.cells #[.int .i64 0, .int .i64 0] 49)).heap.size := by simp
 have HB0 : Below w.heap.size w ((w.alloc (Obj.cells #[.int .i64 0, .int .i64 0] 49)).alloc (Obj.map #[] 0)) := ((Below.refl _ _).alloc (Nat.le_refl _) _).alloc (by simp) _
 have hrow : ∀ k, some (w.heap.size + 1) = some k → w.heap.size ≤ k := fun k e => by cases e; omega
 have HB1 := pw_below_grown HB0 _ HB0.size hg1 hrow
 have HB2 := pw_below_grown HB1 _ HB1.size hg2 hrow
 have HB3 := pw_below_grown HB2 _ HB2.size hg3 hrow
 have HB4 := ak_ (pw_below_grown HB3 _ HB3.size hg4 hrow)
 have BK0 := blk_alloc (blk_new w (.cells #[.int .i64 0, .int .i64 0] 49)) (Obj.map #[] 0)
 have BK1 := (hg1.block _ (blk_lt BK0) (by simp)).trans BK0
 have BK2 := (hg2.block _ (blk_lt BK1) (by simp)).trans BK1
 have BK3 := (hg3.block _ (blk_lt BK2) (by simp)).trans BK2
 have BK4 := ak_ ((hg4.block _ (blk_lt BK3) (by simp)).trans BK3)
 obtain ⟨m, hm⟩ := (HL.out.below HB4.out).mx
 obtain ⟨ws, hws⟩ : ∃ ws : ByteArray, ws = ⟨(Lib.cut s.data.toList [32]).1.toArray⟩ := ⟨_, rfl⟩
 obtain ⟨rs, hrs⟩ : ∃ rs : ByteArray, rs = ⟨(Lib.cut s.data.toList [32]).2.1.toArray⟩ := ⟨_, rfl⟩
 obtain ⟨fl, hfl⟩ : ∃ fl : Bool, fl = (Lib.cut s.data.toList [32]).2.2 := ⟨_, rfl⟩
 have CUT := ak_ (Tryz.strings_Cut s ⟨#[32]⟩ m w4 (by omega) hm)
 rw [show ((⟨#[32]⟩ : ByteArray).data.toList) = [32] from rfl, ← hws, ← hrs, ← hfl] at CUT
 have hcl := cut_len s.data.toList [32]
 have hsl : s.data.toList.length = s.size := by rw [Array.length_toList]; rfl
 have hwl : ws.size ≤ 4096 := by
  rw [hws]
  show (Lib.cut s.data.toList [32]).1.toArray.size ≤ 4096
  rw [List.size_toArray]
  omega
 have hrl : rs.size ≤ 4096 := by
  rw [hrs]
  show (Lib.cut s.data.toList [32]).2.1.toArray.size ≤ 4096
  rw [List.size_toArray]
  omega
 clear hcl hsl
 have hown' := ak_ hown
 have hws' := hws
 have hrs' := hrs
 clear hws hrs hfl hm hown0 hown1 hown2 hown3 hown4 hown hg1 hg2 hg3 hg4 hsz0 BK0 BK1 BK2 BK3 HB0 HB1 HB2 HB3
 have hwd : ws.data.toList = (Lib.cut s.data.toList [32]).1 := by rw [hws']
 have hrd : rs.data.toList = (Lib.cut s.data.toList [32]).2.1 := by rw [hrs']
 rw [← hwd, ← hrd] at H
 clear hws' hrs'
 have HH := ak_ H
 clear H
 generalize hKd : kindOf ws.data.toList = kd at HH
 rcases kd with _ | k
 ·have hK := hKd
  have H := HH.out
  simp only [Prod.mk.injEq] at H
  obtain ⟨rfl, rfl, rfl⟩ := H
  as_aux_lemma =>
   go_enter Tryz.func75, Tryz.ntmps75
   go_wp2_with (first | (go_at_call 108; refine CUT.out.mono ?_; rintro e w5 ⟨rfl, q, rfl⟩; have own5 := ak_ (show (w4.drewN q).ownsMap Tryz.prog 9 (plainElem Tryz.prog 3) (w.heap.size + 1) 4 kinds from hown'.out); have BK5 := ak_ (blk_drewN BK4.out q); have HB5 := ak_ (pw_below_drewN HB4.out q); generalize w4.drewN q = w5 at own5 BK5 HB5 ⊢; have z0 : w5.cell? ⟨w.heap.size, 0, none⟩ = some (.int .i64 0) := blk_cell BK5.out 0; have z1 : w5.cell? ⟨w.heap.size, 1, none⟩ = some (.int .i64 0) := blk_cell BK5.out 1; have f0 := blk_frozen BK5.out 0; have f1 := blk_frozen BK5.out 1; have f2 : (w5.setCell ⟨w.heap.size, 0, none⟩ (.int .i64 0)).cell? ⟨w.heap.size, 1, none⟩ = some (.int .i64 0) := blk_cell (blk_put BK5.out 0 (.int .i64 0) rfl) 1; have f3 := blk_frozen (blk_put BK5.out 0 (.int .i64 0) rfl) 1) | (at_lookup; refine wpList_lookup_own_ok_int _ rfl _ _ 164 rfl 9 3 .i64 law9 Tryz.underlying164 Tryz.underlying3 (zero3 _) (w.heap.size + 1) 4 kinds rfl own5.out _ _ rfl (WideMaps.keyOf_string_mk Tryz.underlying9 (by unfold maxLen; omega)) ?_; intro c hat hwc; rw [kinds_at, hK] at hat; rw [kinds_has, hK]; simp only [Option.isSome_none, Option.isSome_some, Option.getD_none, Option.getD_some, DataW.lit.injEq, Lit.int.injEq, true_and] at hat ⊢; subst hat; clear hwc) | fail)
   have B2 := blk_put (blk_put BK5.out 0 (.int .i64 0) rfl) 1 (.int .i64 0) rfl
   have hb2 := Below.setCell (p := ⟨w.heap.size, 1, none⟩) (Below.setCell (p := ⟨w.heap.size, 0, none⟩) HB5.out (by simp) (.int .i64 0)) (by simp) (.int .i64 0)
   exact bodyPost_ret (results_ct rfl _ _ w.heap.size 49 _ (0, 0) _ rfl B2 Tryz.underlying49 rfl (by kernel_rfl)) rfl ⟨rfl, hb2⟩
 ·have hK := hKd
  by_cases hE : rs.data.toList = []
  ·have hEb : rs.toList.isEmpty = true := by rw [Lib.toList_data, hE]; rfl
   have H := HH.out
   simp only [if_pos hE] at H
   simp only [Prod.mk.injEq] at H
   obtain ⟨rfl, rfl, rfl⟩ := H
   as_aux_lemma =>
    go_enter Tryz.func75, Tryz.ntmps75
    go_wp2_with (first | (go_at_call 108; refine CUT.out.mono ?_; rintro e w5 ⟨rfl, q, rfl⟩; have own5 := ak_ (show (w4.drewN q).ownsMap Tryz.prog 9 (plainElem Tryz.prog 3) (w.heap.size + 1) 4 kinds from hown'.out); have BK5 := ak_ (blk_drewN BK4.out q); have HB5 := ak_ (pw_below_drewN HB4.out q); generalize w4.drewN q = w5 at own5 BK5 HB5 ⊢; have z0 : w5.cell? ⟨w.heap.size, 0, none⟩ = some (.int .i64 0) := blk_cell BK5.out 0; have z1 : w5.cell? ⟨w.heap.size, 1, none⟩ = some (.int .i64 0) := blk_cell BK5.out 1; have f0 := blk_frozen BK5.out 0; have f1 := blk_frozen BK5.out 1; have f2 : (w5.setCell ⟨w.heap.size, 0, none⟩ (.int .i64 0)).cell? ⟨w.heap.size, 1, none⟩ = some (.int .i64 0) := blk_cell (blk_put BK5.out 0 (.int .i64 0) rfl) 1; have f3 := blk_frozen (blk_put BK5.out 0 (.int .i64 0) rfl) 1) | (at_lookup; refine wpList_lookup_own_ok_int _ rfl _ _ 164 rfl 9 3 .i64 law9 Tryz.underlying164 Tryz.underlying3 (zero3 _) (w.heap.size + 1) 4 kinds rfl own5.out _ _ rfl (WideMaps.keyOf_string_mk Tryz.underlying9 (by unfold maxLen; omega)) ?_; intro c hat hwc; rw [kinds_at, hK] at hat; rw [kinds_has, hK]; simp only [Option.isSome_none, Option.isSome_some, Option.getD_none, Option.getD_some, DataW.lit.injEq, Lit.int.injEq, true_and] at hat ⊢; subst hat; clear hwc) | fail)
    have B2 := blk_put (blk_put BK5.out 0 (.int .i64 0) rfl) 1 (.int .i64 0) rfl
    have hb2 := Below.setCell (p := ⟨w.heap.size, 1, none⟩) (Below.setCell (p := ⟨w.heap.size, 0, none⟩) HB5.out (by simp) (.int .i64 0)) (by simp) (.int .i64 0)
    exact bodyPost_ret (results_ct rfl _ _ w.heap.size 49 _ (0, 0) _ rfl B2 Tryz.underlying49 rfl (by kernel_rfl)) rfl ⟨rfl, hb2⟩
  ·have hEb : rs.toList.isEmpty = false := by rw [Lib.toList_data]; cases hr : rs.data.toList with | nil => exact absurd hr hE | cons a b => rfl
   have H := HH.out
   simp only [if_neg hE] at H
   have HH := ak_ H
   clear H
   rcases hA : Lib.atoiAll rs.data.toList with n | _ | _
   ·have H := HH.out
    rw [hA] at H
    simp only [] at H
    have hbd := Lib.atoiAll_bounds hA
    have ATOI : Aside0 (∀ w0, Laid w0 → Calls Tryz.prog 109 #[.string rs] w0 fun e w' => e = .returned (.tuple #[.int .i64 n, .nilIface]) ∧ Below w0.heap.size w0 w') := ⟨fun w0 h0 => (atoi_any rs (by omega) w0 h0).mono (by rintro e w' ⟨v, rfl, hv, hb⟩; unfold atoiErr at hv; unfold atoiNum; rw [hA] at hv ⊢; subst hv; exact ⟨rfl, hb⟩)⟩
    by_cases h0 : n < 0
    ·rw [if_pos (Or.inl h0)] at H
     simp only [Prod.mk.injEq] at H
     obtain ⟨rfl, rfl, rfl⟩ := H
     as_aux_lemma =>
      go_enter Tryz.func75, Tryz.ntmps75
      go_wp2_with (first | (go_at_call 108; refine CUT.out.mono ?_; rintro e w5 ⟨rfl, q, rfl⟩; have own5 := ak_ (show (w4.drewN q).ownsMap Tryz.prog 9 (plainElem Tryz.prog 3) (w.heap.size + 1) 4 kinds from hown'.out); have BK5 := ak_ (blk_drewN BK4.out q); have HB5 := ak_ (pw_below_drewN HB4.out q); generalize w4.drewN q = w5 at own5 BK5 HB5 ⊢; have z0 : w5.cell? ⟨w.heap.size, 0, none⟩ = some (.int .i64 0) := blk_cell BK5.out 0; have z1 : w5.cell? ⟨w.heap.size, 1, none⟩ = some (.int .i64 0) := blk_cell BK5.out 1; have f0 := blk_frozen BK5.out 0; have f1 := blk_frozen BK5.out 1; have f2 : (w5.setCell ⟨w.heap.size, 0, none⟩ (.int .i64 0)).cell? ⟨w.heap.size, 1, none⟩ = some (.int .i64 0) := blk_cell (blk_put BK5.out 0 (.int .i64 0) rfl) 1; have f3 := blk_frozen (blk_put BK5.out 0 (.int .i64 0) rfl) 1) | (at_lookup; refine wpList_lookup_own_ok_int _ rfl _ _ 164 rfl 9 3 .i64 law9 Tryz.underlying164 Tryz.underlying3 (zero3 _) (w.heap.size + 1) 4 kinds rfl own5.out _ _ rfl (WideMaps.keyOf_string_mk Tryz.underlying9 (by unfold maxLen; omega)) ?_; intro c hat hwc; rw [kinds_at, hK] at hat; rw [kinds_has, hK]; simp only [Option.isSome_none, Option.isSome_some, Option.getD_none, Option.getD_some, DataW.lit.injEq, Lit.int.injEq, true_and] at hat ⊢; subst hat; clear hwc) | (go_at_call 109; refine (ATOI.out w5 (HL.out.below HB5.out)).mono ?_; rintro e w6 ⟨rfl, hb6⟩; have BK6 := ak_ (blk_below BK5.out hb6); have HB6 := ak_ (HB5.out.trans (hb6.mono HB5.out.size)); have BA6 := ak_ (blk_new w6 (.cells #[.int .i64 k, .int .i64 n] 49)); have BR6 := ak_ (blk_alloc BK6.out (.cells #[.int .i64 k, .int .i64 n] 49)); have HC6 := ak_ (HB6.out.alloc HB6.out.size (.cells #[.int .i64 k, .int .i64 n] 49)); clear hb6; have y0 : (w6.alloc (.cells #[.int .i64 k, .int .i64 n] 49)).cell? ⟨w.heap.size, 0, none⟩ = some (.int .i64 0) := blk_cell BR6.out 0; have y1 : (w6.alloc (.cells #[.int .i64 k, .int .i64 n] 49)).cell? ⟨w.heap.size, 1, none⟩ = some (.int .i64 0) := blk_cell BR6.out 1; have y2 := blk_frozen BR6.out 0; have y3 := blk_frozen BR6.out 1; have y4 : ((w6.alloc (.cells #[.int .i64 k, .int .i64 n] 49)).setCell ⟨w.heap.size, 0, none⟩ (.int .i64 0)).cell? ⟨w.heap.size, 1, none⟩ = some (.int .i64 0) := blk_cell (blk_put BR6.out 0 (.int .i64 0) rfl) 1; have y5 := blk_frozen (blk_put BR6.out 0 (.int .i64 0) rfl) 1) | fail)
      have B2 := blk_put (blk_put BR6.out 0 (.int .i64 0) rfl) 1 (.int .i64 0) rfl
      have hb2 := Below.setCell (p := ⟨w.heap.size, 1, none⟩) (Below.setCell (p := ⟨w.heap.size, 0, none⟩) HC6.out (by simp) (.int .i64 0)) (by simp) (.int .i64 0)
      exact bodyPost_ret (results_ct rfl _ _ w.heap.size 49 _ (0, 0) _ rfl B2 Tryz.underlying49 rfl (by kernel_rfl)) rfl ⟨rfl, hb2⟩
    ·by_cases h9 : 999999 < n
     ·rw [if_pos (Or.inr (Or.inl h9))] at H
      simp only [Prod.mk.injEq] at H
      obtain ⟨rfl, rfl, rfl⟩ := H
      as_aux_lemma =>
       go_enter Tryz.func75, Tryz.ntmps75
       go_wp2_with (first | (go_at_call 108; refine CUT.out.mono ?_; rintro e w5 ⟨rfl, q, rfl⟩; have own5 := ak_ (show (w4.drewN q).ownsMap Tryz.prog 9 (plainElem Tryz.prog 3) (w.heap.size + 1) 4 kinds from hown'.out); have BK5 := ak_ (blk_drewN BK4.out q); have HB5 := ak_ (pw_below_drewN HB4.out q); generalize w4.drewN q = w5 at own5 BK5 HB5 ⊢; have z0 : w5.cell? ⟨w.heap.size, 0, none⟩ = some (.int .i64 0) := blk_cell BK5.out 0; have z1 : w5.cell? ⟨w.heap.size, 1, none⟩ = some (.int .i64 0) := blk_cell BK5.out 1; have f0 := blk_frozen BK5.out 0; have f1 := blk_frozen BK5.out 1; have f2 : (w5.setCell ⟨w.heap.size, 0, none⟩ (.int .i64 0)).cell? ⟨w.heap.size, 1, none⟩ = some (.int .i64 0) := blk_cell (blk_put BK5.out 0 (.int .i64 0) rfl) 1; have f3 := blk_frozen (blk_put BK5.out 0 (.int .i64 0) rfl) 1) | (at_lookup; refine wpList_lookup_own_ok_int _ rfl _ _ 164 rfl 9 3 .i64 law9 Tryz.underlying164 Tryz.underlying3 (zero3 _) (w.heap.size + 1) 4 kinds rfl own5.out _ _ rfl (WideMaps.keyOf_string_mk Tryz.underlying9 (by unfold maxLen; omega)) ?_; intro c hat hwc; rw [kinds_at, hK] at hat; rw [kinds_has, hK]; simp only [Option.isSome_none, Option.isSome_some, Option.getD_none, Option.getD_some, DataW.lit.injEq, Lit.int.injEq, true_and] at hat ⊢; subst hat; clear hwc) | (go_at_call 109; refine (ATOI.out w5 (HL.out.below HB5.out)).mono ?_; rintro e w6 ⟨rfl, hb6⟩; have BK6 := ak_ (blk_below BK5.out hb6); have HB6 := ak_ (HB5.out.trans (hb6.mono HB5.out.size)); have BA6 := ak_ (blk_new w6 (.cells #[.int .i64 k, .int .i64 n] 49)); have BR6 := ak_ (blk_alloc BK6.out (.cells #[.int .i64 k, .int .i64 n] 49)); have HC6 := ak_ (HB6.out.alloc HB6.out.size (.cells #[.int .i64 k, .int .i64 n] 49)); clear hb6; have y0 : (w6.alloc (.cells #[.int .i64 k, .int .i64 n] 49)).cell? ⟨w.heap.size, 0, none⟩ = some (.int .i64 0) := blk_cell BR6.out 0; have y1 : (w6.alloc (.cells #[.int .i64 k, .int .i64 n] 49)).cell? ⟨w.heap.size, 1, none⟩ = some (.int .i64 0) := blk_cell BR6.out 1; have y2 := blk_frozen BR6.out 0; have y3 := blk_frozen BR6.out 1; have y4 : ((w6.alloc (.cells #[.int .i64 k, .int .i64 n] 49)).setCell ⟨w.heap.size, 0, none⟩ (.int .i64 0)).cell? ⟨w.heap.size, 1, none⟩ = some (.int .i64 0) := blk_cell (blk_put BR6.out 0 (.int .i64 0) rfl) 1; have y5 := blk_frozen (blk_put BR6.out 0 (.int .i64 0) rfl) 1) | fail)
       have B2 := blk_put (blk_put BR6.out 0 (.int .i64 0) rfl) 1 (.int .i64 0) rfl
       have hb2 := Below.setCell (p := ⟨w.heap.size, 1, none⟩) (Below.setCell (p := ⟨w.heap.size, 0, none⟩) HC6.out (by simp) (.int .i64 0)) (by simp) (.int .i64 0)
       exact bodyPost_ret (results_ct rfl _ _ w.heap.size 49 _ (0, 0) _ rfl B2 Tryz.underlying49 rfl (by kernel_rfl)) rfl ⟨rfl, hb2⟩
     ·by_cases hI : Lib.itoa n = rs.data.toList
      ·rw [if_neg (fun q => q.elim h0 (fun q => q.elim h9 (fun q => q hI)))] at H
       have hIb : (!(Lib.itoa n == rs.toList)) = false := by rw [Lib.toList_data, hI]; simp
       clear hI
       rcases hI : isActP k n with _ | _
       ·rw [hI, if_neg (by decide)] at H
        simp only [Prod.mk.injEq] at H
        obtain ⟨rfl, rfl, rfl⟩ := H
        as_aux_lemma =>
         go_enter Tryz.func75, Tryz.ntmps75
         go_wp2_with (first | (go_at_call 108; refine CUT.out.mono ?_; rintro e w5 ⟨rfl, q, rfl⟩; have own5 := ak_ (show (w4.drewN q).ownsMap Tryz.prog 9 (plainElem Tryz.prog 3) (w.heap.size + 1) 4 kinds from hown'.out); have BK5 := ak_ (blk_drewN BK4.out q); have HB5 := ak_ (pw_below_drewN HB4.out q); generalize w4.drewN q = w5 at own5 BK5 HB5 ⊢; have z0 : w5.cell? ⟨w.heap.size, 0, none⟩ = some (.int .i64 0) := blk_cell BK5.out 0; have z1 : w5.cell? ⟨w.heap.size, 1, none⟩ = some (.int .i64 0) := blk_cell BK5.out 1; have f0 := blk_frozen BK5.out 0; have f1 := blk_frozen BK5.out 1; have f2 : (w5.setCell ⟨w.heap.size, 0, none⟩ (.int .i64 0)).cell? ⟨w.heap.size, 1, none⟩ = some (.int .i64 0) := blk_cell (blk_put BK5.out 0 (.int .i64 0) rfl) 1; have f3 := blk_frozen (blk_put BK5.out 0 (.int .i64 0) rfl) 1) | (at_lookup; refine wpList_lookup_own_ok_int _ rfl _ _ 164 rfl 9 3 .i64 law9 Tryz.underlying164 Tryz.underlying3 (zero3 _) (w.heap.size + 1) 4 kinds rfl own5.out _ _ rfl (WideMaps.keyOf_string_mk Tryz.underlying9 (by unfold maxLen; omega)) ?_; intro c hat hwc; rw [kinds_at, hK] at hat; rw [kinds_has, hK]; simp only [Option.isSome_none, Option.isSome_some, Option.getD_none, Option.getD_some, DataW.lit.injEq, Lit.int.injEq, true_and] at hat ⊢; subst hat; clear hwc) | (go_at_call 109; refine (ATOI.out w5 (HL.out.below HB5.out)).mono ?_; rintro e w6 ⟨rfl, hb6⟩; have BK6 := ak_ (blk_below BK5.out hb6); have HB6 := ak_ (HB5.out.trans (hb6.mono HB5.out.size)); have BA6 := ak_ (blk_new w6 (.cells #[.int .i64 k, .int .i64 n] 49)); have BR6 := ak_ (blk_alloc BK6.out (.cells #[.int .i64 k, .int .i64 n] 49)); have HC6 := ak_ (HB6.out.alloc HB6.out.size (.cells #[.int .i64 k, .int .i64 n] 49)); clear hb6; have y0 : (w6.alloc (.cells #[.int .i64 k, .int .i64 n] 49)).cell? ⟨w.heap.size, 0, none⟩ = some (.int .i64 0) := blk_cell BR6.out 0; have y1 : (w6.alloc (.cells #[.int .i64 k, .int .i64 n] 49)).cell? ⟨w.heap.size, 1, none⟩ = some (.int .i64 0) := blk_cell BR6.out 1; have y2 := blk_frozen BR6.out 0; have y3 := blk_frozen BR6.out 1; have y4 : ((w6.alloc (.cells #[.int .i64 k, .int .i64 n] 49)).setCell ⟨w.heap.size, 0, none⟩ (.int .i64 0)).cell? ⟨w.heap.size, 1, none⟩ = some (.int .i64 0) := blk_cell (blk_put BR6.out 0 (.int .i64 0) rfl) 1; have y5 := blk_frozen (blk_put BR6.out 0 (.int .i64 0) rfl) 1) | (go_at_call 110; refine (itoa_any n (by omega) (by omega) _ (HL.out.below HC6.out)).mono ?_; rintro e w7 ⟨rfl, hb7⟩; have BR7 := ak_ (blk_below BR6.out hb7); have BA7 := ak_ (blk_below BA6.out hb7); have HC7 := ak_ (HC6.out.trans (hb7.mono HC6.out.size)); clear hb7; have a0 : w7.cell? ⟨w6.heap.size, 0, none⟩ = some (.int .i64 k) := blk_cell BA7.out 0; have a1 : w7.cell? ⟨w6.heap.size, 1, none⟩ = some (.int .i64 n) := blk_cell BA7.out 1; have x0 : w7.cell? ⟨w.heap.size, 0, none⟩ = some (.int .i64 0) := blk_cell BR7.out 0; have x1 : w7.cell? ⟨w.heap.size, 1, none⟩ = some (.int .i64 0) := blk_cell BR7.out 1; have x2 := blk_frozen BR7.out 0; have x3 := blk_frozen BR7.out 1; have x4 : (w7.setCell ⟨w.heap.size, 0, none⟩ (.int .i64 0)).cell? ⟨w.heap.size, 1, none⟩ = some (.int .i64 0) := blk_cell (blk_put BR7.out 0 (.int .i64 0) rfl) 1; have x5 := blk_frozen (blk_put BR7.out 0 (.int .i64 0) rfl) 1) | (go_at_call 38; refine (isAct_calls k n _).mono ?_; rintro e w8 ⟨rfl, hb8⟩; have BR8 := ak_ (blk_below BR7.out hb8); have BA8 := ak_ (blk_below BA7.out hb8); have HC8 := ak_ (HC7.out.trans (hb8.mono HC7.out.size)); clear hb8; have e0 : w8.cell? ⟨w6.heap.size, 0, none⟩ = some (.int .i64 k) := blk_cell BA8.out 0; have e1 : w8.cell? ⟨w6.heap.size, 1, none⟩ = some (.int .i64 n) := blk_cell BA8.out 1; have t0 : w8.cell? ⟨w.heap.size, 0, none⟩ = some (.int .i64 0) := blk_cell BR8.out 0; have t1 : w8.cell? ⟨w.heap.size, 1, none⟩ = some (.int .i64 0) := blk_cell BR8.out 1; have t2 := blk_frozen BR8.out 0; have t3 := blk_frozen BR8.out 1; have t4 : (w8.setCell ⟨w.heap.size, 0, none⟩ (.int .i64 0)).cell? ⟨w.heap.size, 1, none⟩ = some (.int .i64 0) := blk_cell (blk_put BR8.out 0 (.int .i64 0) rfl) 1; have t5 := blk_frozen (blk_put BR8.out 0 (.int .i64 0) rfl) 1; rw [hI]) | fail)
         have B2 := blk_put (blk_put BR8.out 0 (.int .i64 0) rfl) 1 (.int .i64 0) rfl
         have hb2 := Below.setCell (p := ⟨w.heap.size, 1, none⟩) (Below.setCell (p := ⟨w.heap.size, 0, none⟩) HC8.out (by simp) (.int .i64 0)) (by simp) (.int .i64 0)
         exact bodyPost_ret (results_ct rfl _ _ w.heap.size 49 _ (0, 0) _ rfl B2 Tryz.underlying49 rfl (by kernel_rfl)) rfl ⟨rfl, hb2⟩
       ·rw [hI, if_pos rfl] at H
        simp only [Prod.mk.injEq] at H
        obtain ⟨e1, e2, e3⟩ := H
        subst e1
        subst e2
        subst e3
        as_aux_lemma =>
         go_enter Tryz.func75, Tryz.ntmps75
         go_wp2_with (first | (go_at_call 108; refine CUT.out.mono ?_; rintro e w5 ⟨rfl, q, rfl⟩; have own5 := ak_ (show (w4.drewN q).ownsMap Tryz.prog 9 (plainElem Tryz.prog 3) (w.heap.size + 1) 4 kinds from hown'.out); have BK5 := ak_ (blk_drewN BK4.out q); have HB5 := ak_ (pw_below_drewN HB4.out q); generalize w4.drewN q = w5 at own5 BK5 HB5 ⊢; have z0 : w5.cell? ⟨w.heap.size, 0, none⟩ = some (.int .i64 0) := blk_cell BK5.out 0; have z1 : w5.cell? ⟨w.heap.size, 1, none⟩ = some (.int .i64 0) := blk_cell BK5.out 1; have f0 := blk_frozen BK5.out 0; have f1 := blk_frozen BK5.out 1; have f2 : (w5.setCell ⟨w.heap.size, 0, none⟩ (.int .i64 0)).cell? ⟨w.heap.size, 1, none⟩ = some (.int .i64 0) := blk_cell (blk_put BK5.out 0 (.int .i64 0) rfl) 1; have f3 := blk_frozen (blk_put BK5.out 0 (.int .i64 0) rfl) 1) | (at_lookup; refine wpList_lookup_own_ok_int _ rfl _ _ 164 rfl 9 3 .i64 law9 Tryz.underlying164 Tryz.underlying3 (zero3 _) (w.heap.size + 1) 4 kinds rfl own5.out _ _ rfl (WideMaps.keyOf_string_mk Tryz.underlying9 (by unfold maxLen; omega)) ?_; intro c hat hwc; rw [kinds_at, hK] at hat; rw [kinds_has, hK]; simp only [Option.isSome_none, Option.isSome_some, Option.getD_none, Option.getD_some, DataW.lit.injEq, Lit.int.injEq, true_and] at hat ⊢; subst hat; clear hwc) | (go_at_call 109; refine (ATOI.out w5 (HL.out.below HB5.out)).mono ?_; rintro e w6 ⟨rfl, hb6⟩; have BK6 := ak_ (blk_below BK5.out hb6); have HB6 := ak_ (HB5.out.trans (hb6.mono HB5.out.size)); have BA6 := ak_ (blk_new w6 (.cells #[.int .i64 k, .int .i64 n] 49)); have BR6 := ak_ (blk_alloc BK6.out (.cells #[.int .i64 k, .int .i64 n] 49)); have HC6 := ak_ (HB6.out.alloc HB6.out.size (.cells #[.int .i64 k, .int .i64 n] 49)); clear hb6; have y0 : (w6.alloc (.cells #[.int .i64 k, .int .i64 n] 49)).cell? ⟨w.heap.size, 0, none⟩ = some (.int .i64 0) := blk_cell BR6.out 0; have y1 : (w6.alloc (.cells #[.int .i64 k, .int .i64 n] 49)).cell? ⟨w.heap.size, 1, none⟩ = some (.int .i64 0) := blk_cell BR6.out 1; have y2 := blk_frozen BR6.out 0; have y3 := blk_frozen BR6.out 1; have y4 : ((w6.alloc (.cells #[.int .i64 k, .int .i64 n] 49)).setCell ⟨w.heap.size, 0, none⟩ (.int .i64 k)).cell? ⟨w.heap.size, 1, none⟩ = some (.int .i64 0) := blk_cell (blk_put BR6.out 0 (.int .i64 k) rfl) 1; have y5 := blk_frozen (blk_put BR6.out 0 (.int .i64 k) rfl) 1) | (go_at_call 110; refine (itoa_any n (by omega) (by omega) _ (HL.out.below HC6.out)).mono ?_; rintro e w7 ⟨rfl, hb7⟩; have BR7 := ak_ (blk_below BR6.out hb7); have BA7 := ak_ (blk_below BA6.out hb7); have HC7 := ak_ (HC6.out.trans (hb7.mono HC6.out.size)); clear hb7; have a0 : w7.cell? ⟨w6.heap.size, 0, none⟩ = some (.int .i64 k) := blk_cell BA7.out 0; have a1 : w7.cell? ⟨w6.heap.size, 1, none⟩ = some (.int .i64 n) := blk_cell BA7.out 1; have x0 : w7.cell? ⟨w.heap.size, 0, none⟩ = some (.int .i64 0) := blk_cell BR7.out 0; have x1 : w7.cell? ⟨w.heap.size, 1, none⟩ = some (.int .i64 0) := blk_cell BR7.out 1; have x2 := blk_frozen BR7.out 0; have x3 := blk_frozen BR7.out 1; have x4 : (w7.setCell ⟨w.heap.size, 0, none⟩ (.int .i64 k)).cell? ⟨w.heap.size, 1, none⟩ = some (.int .i64 0) := blk_cell (blk_put BR7.out 0 (.int .i64 k) rfl) 1; have x5 := blk_frozen (blk_put BR7.out 0 (.int .i64 k) rfl) 1) | (go_at_call 38; refine (isAct_calls k n _).mono ?_; rintro e w8 ⟨rfl, hb8⟩; have BR8 := ak_ (blk_below BR7.out hb8); have BA8 := ak_ (blk_below BA7.out hb8); have HC8 := ak_ (HC7.out.trans (hb8.mono HC7.out.size)); clear hb8; have e0 : w8.cell? ⟨w6.heap.size, 0, none⟩ = some (.int .i64 k) := blk_cell BA8.out 0; have e1 : w8.cell? ⟨w6.heap.size, 1, none⟩ = some (.int .i64 n) := blk_cell BA8.out 1; have t0 : w8.cell? ⟨w.heap.size, 0, none⟩ = some (.int .i64 0) := blk_cell BR8.out 0; have t1 : w8.cell? ⟨w.heap.size, 1, none⟩ = some (.int .i64 0) := blk_cell BR8.out 1; have t2 := blk_frozen BR8.out 0; have t3 := blk_frozen BR8.out 1; have t4 : (w8.setCell ⟨w.heap.size, 0, none⟩ (.int .i64 k)).cell? ⟨w.heap.size, 1, none⟩ = some (.int .i64 0) := blk_cell (blk_put BR8.out 0 (.int .i64 k) rfl) 1; have t5 := blk_frozen (blk_put BR8.out 0 (.int .i64 k) rfl) 1; rw [hI]) | fail)
         have B2 := blk_put (blk_put BR8.out 0 (.int .i64 k) rfl) 1 (.int .i64 n) rfl
         have hb2 := Below.setCell (p := ⟨w.heap.size, 1, none⟩) (Below.setCell (p := ⟨w.heap.size, 0, none⟩) HC8.out (by simp) (.int .i64 k)) (by simp) (.int .i64 n)
         exact bodyPost_ret (results_ct rfl _ _ w.heap.size 49 _ (0, 0) _ rfl B2 Tryz.underlying49 rfl (by kernel_rfl)) rfl ⟨rfl, hb2⟩
      ·rw [if_pos (Or.inr (Or.inr hI))] at H
       have hIb : (!(Lib.itoa n == rs.toList)) = true := by rw [Lib.toList_data]; simp [hI]
       clear hI
       simp only [Prod.mk.injEq] at H
       obtain ⟨rfl, rfl, rfl⟩ := H
       as_aux_lemma =>
        go_enter Tryz.func75, Tryz.ntmps75
        go_wp2_with (first | (go_at_call 108; refine CUT.out.mono ?_; rintro e w5 ⟨rfl, q, rfl⟩; have own5 := ak_ (show (w4.drewN q).ownsMap Tryz.prog 9 (plainElem Tryz.prog 3) (w.heap.size + 1) 4 kinds from hown'.out); have BK5 := ak_ (blk_drewN BK4.out q); have HB5 := ak_ (pw_below_drewN HB4.out q); generalize w4.drewN q = w5 at own5 BK5 HB5 ⊢; have z0 : w5.cell? ⟨w.heap.size, 0, none⟩ = some (.int .i64 0) := blk_cell BK5.out 0; have z1 : w5.cell? ⟨w.heap.size, 1, none⟩ = some (.int .i64 0) := blk_cell BK5.out 1; have f0 := blk_frozen BK5.out 0; have f1 := blk_frozen BK5.out 1; have f2 : (w5.setCell ⟨w.heap.size, 0, none⟩ (.int .i64 0)).cell? ⟨w.heap.size, 1, none⟩ = some (.int .i64 0) := blk_cell (blk_put BK5.out 0 (.int .i64 0) rfl) 1; have f3 := blk_frozen (blk_put BK5.out 0 (.int .i64 0) rfl) 1) | (at_lookup; refine wpList_lookup_own_ok_int _ rfl _ _ 164 rfl 9 3 .i64 law9 Tryz.underlying164 Tryz.underlying3 (zero3 _) (w.heap.size + 1) 4 kinds rfl own5.out _ _ rfl (WideMaps.keyOf_string_mk Tryz.underlying9 (by unfold maxLen; omega)) ?_; intro c hat hwc; rw [kinds_at, hK] at hat; rw [kinds_has, hK]; simp only [Option.isSome_none, Option.isSome_some, Option.getD_none, Option.getD_some, DataW.lit.injEq, Lit.int.injEq, true_and] at hat ⊢; subst hat; clear hwc) | (go_at_call 109; refine (ATOI.out w5 (HL.out.below HB5.out)).mono ?_; rintro e w6 ⟨rfl, hb6⟩; have BK6 := ak_ (blk_below BK5.out hb6); have HB6 := ak_ (HB5.out.trans (hb6.mono HB5.out.size)); have BA6 := ak_ (blk_new w6 (.cells #[.int .i64 k, .int .i64 n] 49)); have BR6 := ak_ (blk_alloc BK6.out (.cells #[.int .i64 k, .int .i64 n] 49)); have HC6 := ak_ (HB6.out.alloc HB6.out.size (.cells #[.int .i64 k, .int .i64 n] 49)); clear hb6; have y0 : (w6.alloc (.cells #[.int .i64 k, .int .i64 n] 49)).cell? ⟨w.heap.size, 0, none⟩ = some (.int .i64 0) := blk_cell BR6.out 0; have y1 : (w6.alloc (.cells #[.int .i64 k, .int .i64 n] 49)).cell? ⟨w.heap.size, 1, none⟩ = some (.int .i64 0) := blk_cell BR6.out 1; have y2 := blk_frozen BR6.out 0; have y3 := blk_frozen BR6.out 1; have y4 : ((w6.alloc (.cells #[.int .i64 k, .int .i64 n] 49)).setCell ⟨w.heap.size, 0, none⟩ (.int .i64 0)).cell? ⟨w.heap.size, 1, none⟩ = some (.int .i64 0) := blk_cell (blk_put BR6.out 0 (.int .i64 0) rfl) 1; have y5 := blk_frozen (blk_put BR6.out 0 (.int .i64 0) rfl) 1) | (go_at_call 110; refine (itoa_any n (by omega) (by omega) _ (HL.out.below HC6.out)).mono ?_; rintro e w7 ⟨rfl, hb7⟩; have BR7 := ak_ (blk_below BR6.out hb7); have BA7 := ak_ (blk_below BA6.out hb7); have HC7 := ak_ (HC6.out.trans (hb7.mono HC6.out.size)); clear hb7; have a0 : w7.cell? ⟨w6.heap.size, 0, none⟩ = some (.int .i64 k) := blk_cell BA7.out 0; have a1 : w7.cell? ⟨w6.heap.size, 1, none⟩ = some (.int .i64 n) := blk_cell BA7.out 1; have x0 : w7.cell? ⟨w.heap.size, 0, none⟩ = some (.int .i64 0) := blk_cell BR7.out 0; have x1 : w7.cell? ⟨w.heap.size, 1, none⟩ = some (.int .i64 0) := blk_cell BR7.out 1; have x2 := blk_frozen BR7.out 0; have x3 := blk_frozen BR7.out 1; have x4 : (w7.setCell ⟨w.heap.size, 0, none⟩ (.int .i64 0)).cell? ⟨w.heap.size, 1, none⟩ = some (.int .i64 0) := blk_cell (blk_put BR7.out 0 (.int .i64 0) rfl) 1; have x5 := blk_frozen (blk_put BR7.out 0 (.int .i64 0) rfl) 1) | fail)
        have B2 := blk_put (blk_put BR7.out 0 (.int .i64 0) rfl) 1 (.int .i64 0) rfl
        have hb2 := Below.setCell (p := ⟨w.heap.size, 1, none⟩) (Below.setCell (p := ⟨w.heap.size, 0, none⟩) HC7.out (by simp) (.int .i64 0)) (by simp) (.int .i64 0)
        exact bodyPost_ret (results_ct rfl _ _ w.heap.size 49 _ (0, 0) _ rfl B2 Tryz.underlying49 rfl (by kernel_rfl)) rfl ⟨rfl, hb2⟩
   ·have H := HH.out
    rw [hA] at H
    simp only [] at H
    simp only [Prod.mk.injEq] at H
    obtain ⟨rfl, rfl, rfl⟩ := H
    as_aux_lemma =>
     go_enter Tryz.func75, Tryz.ntmps75
     go_wp2_with (first | (go_at_call 108; refine CUT.out.mono ?_; rintro e w5 ⟨rfl, q, rfl⟩; have own5 := ak_ (show (w4.drewN q).ownsMap Tryz.prog 9 (plainElem Tryz.prog 3) (w.heap.size + 1) 4 kinds from hown'.out); have BK5 := ak_ (blk_drewN BK4.out q); have HB5 := ak_ (pw_below_drewN HB4.out q); generalize w4.drewN q = w5 at own5 BK5 HB5 ⊢; have z0 : w5.cell? ⟨w.heap.size, 0, none⟩ = some (.int .i64 0) := blk_cell BK5.out 0; have z1 : w5.cell? ⟨w.heap.size, 1, none⟩ = some (.int .i64 0) := blk_cell BK5.out 1; have f0 := blk_frozen BK5.out 0; have f1 := blk_frozen BK5.out 1; have f2 : (w5.setCell ⟨w.heap.size, 0, none⟩ (.int .i64 0)).cell? ⟨w.heap.size, 1, none⟩ = some (.int .i64 0) := blk_cell (blk_put BK5.out 0 (.int .i64 0) rfl) 1; have f3 := blk_frozen (blk_put BK5.out 0 (.int .i64 0) rfl) 1) | (at_lookup; refine wpList_lookup_own_ok_int _ rfl _ _ 164 rfl 9 3 .i64 law9 Tryz.underlying164 Tryz.underlying3 (zero3 _) (w.heap.size + 1) 4 kinds rfl own5.out _ _ rfl (WideMaps.keyOf_string_mk Tryz.underlying9 (by unfold maxLen; omega)) ?_; intro c hat hwc; rw [kinds_at, hK] at hat; rw [kinds_has, hK]; simp only [Option.isSome_none, Option.isSome_some, Option.getD_none, Option.getD_some, DataW.lit.injEq, Lit.int.injEq, true_and] at hat ⊢; subst hat; clear hwc) | (go_at_call 109; refine (atoi_any rs (by omega) w5 (HL.out.below HB5.out)).mono ?_; rintro e w6 ⟨v, rfl, hv, hb6⟩; simp only [atoiErr, hA] at hv; obtain ⟨N, rfl⟩ := hv; generalize atoiNum rs.data.toList = nn; have BK6 := ak_ (blk_below BK5.out hb6); have HB6 := ak_ (HB5.out.trans (hb6.mono HB5.out.size)); have BA6 := ak_ (blk_new w6 (.cells #[.int .i64 k, .int .i64 nn] 49)); have BR6 := ak_ (blk_alloc BK6.out (.cells #[.int .i64 k, .int .i64 nn] 49)); have HC6 := ak_ (HB6.out.alloc HB6.out.size (.cells #[.int .i64 k, .int .i64 nn] 49)); clear hb6; have y0 : (w6.alloc (.cells #[.int .i64 k, .int .i64 nn] 49)).cell? ⟨w.heap.size, 0, none⟩ = some (.int .i64 0) := blk_cell BR6.out 0; have y1 : (w6.alloc (.cells #[.int .i64 k, .int .i64 nn] 49)).cell? ⟨w.heap.size, 1, none⟩ = some (.int .i64 0) := blk_cell BR6.out 1; have y2 := blk_frozen BR6.out 0; have y3 := blk_frozen BR6.out 1; have y4 : ((w6.alloc (.cells #[.int .i64 k, .int .i64 nn] 49)).setCell ⟨w.heap.size, 0, none⟩ (.int .i64 0)).cell? ⟨w.heap.size, 1, none⟩ = some (.int .i64 0) := blk_cell (blk_put BR6.out 0 (.int .i64 0) rfl) 1; have y5 := blk_frozen (blk_put BR6.out 0 (.int .i64 0) rfl) 1) | fail)
     have B2 := blk_put (blk_put BR6.out 0 (.int .i64 0) rfl) 1 (.int .i64 0) rfl
     have hb2 := Below.setCell (p := ⟨w.heap.size, 1, none⟩) (Below.setCell (p := ⟨w.heap.size, 0, none⟩) HC6.out (by simp) (.int .i64 0)) (by simp) (.int .i64 0)
     exact bodyPost_ret (results_ct rfl _ _ w.heap.size 49 _ (0, 0) _ rfl B2 Tryz.underlying49 rfl (by kernel_rfl)) rfl ⟨rfl, hb2⟩
   ·have H := HH.out
    rw [hA] at H
    simp only [] at H
    simp only [Prod.mk.injEq] at H
    obtain ⟨rfl, rfl, rfl⟩ := H
    as_aux_lemma =>
     go_enter Tryz.func75, Tryz.ntmps75
     go_wp2_with (first | (go_at_call 108; refine CUT.out.mono ?_; rintro e w5 ⟨rfl, q, rfl⟩; have own5 := ak_ (show (w4.drewN q).ownsMap Tryz.prog 9 (plainElem Tryz.prog 3) (w.heap.size + 1) 4 kinds from hown'.out); have BK5 := ak_ (blk_drewN BK4.out q); have HB5 := ak_ (pw_below_drewN HB4.out q); generalize w4.drewN q = w5 at own5 BK5 HB5 ⊢; have z0 : w5.cell? ⟨w.heap.size, 0, none⟩ = some (.int .i64 0) := blk_cell BK5.out 0; have z1 : w5.cell? ⟨w.heap.size, 1, none⟩ = some (.int .i64 0) := blk_cell BK5.out 1; have f0 := blk_frozen BK5.out 0; have f1 := blk_frozen BK5.out 1; have f2 : (w5.setCell ⟨w.heap.size, 0, none⟩ (.int .i64 0)).cell? ⟨w.heap.size, 1, none⟩ = some (.int .i64 0) := blk_cell (blk_put BK5.out 0 (.int .i64 0) rfl) 1; have f3 := blk_frozen (blk_put BK5.out 0 (.int .i64 0) rfl) 1) | (at_lookup; refine wpList_lookup_own_ok_int _ rfl _ _ 164 rfl 9 3 .i64 law9 Tryz.underlying164 Tryz.underlying3 (zero3 _) (w.heap.size + 1) 4 kinds rfl own5.out _ _ rfl (WideMaps.keyOf_string_mk Tryz.underlying9 (by unfold maxLen; omega)) ?_; intro c hat hwc; rw [kinds_at, hK] at hat; rw [kinds_has, hK]; simp only [Option.isSome_none, Option.isSome_some, Option.getD_none, Option.getD_some, DataW.lit.injEq, Lit.int.injEq, true_and] at hat ⊢; subst hat; clear hwc) | (go_at_call 109; refine (atoi_any rs (by omega) w5 (HL.out.below HB5.out)).mono ?_; rintro e w6 ⟨v, rfl, hv, hb6⟩; simp only [atoiErr, hA] at hv; obtain ⟨N, rfl⟩ := hv; generalize atoiNum rs.data.toList = nn; have BK6 := ak_ (blk_below BK5.out hb6); have HB6 := ak_ (HB5.out.trans (hb6.mono HB5.out.size)); have BA6 := ak_ (blk_new w6 (.cells #[.int .i64 k, .int .i64 nn] 49)); have BR6 := ak_ (blk_alloc BK6.out (.cells #[.int .i64 k, .int .i64 nn] 49)); have HC6 := ak_ (HB6.out.alloc HB6.out.size (.cells #[.int .i64 k, .int .i64 nn] 49)); clear hb6; have y0 : (w6.alloc (.cells #[.int .i64 k, .int .i64 nn] 49)).cell? ⟨w.heap.size, 0, none⟩ = some (.int .i64 0) := blk_cell BR6.out 0; have y1 : (w6.alloc (.cells #[.int .i64 k, .int .i64 nn] 49)).cell? ⟨w.heap.size, 1, none⟩ = some (.int .i64 0) := blk_cell BR6.out 1; have y2 := blk_frozen BR6.out 0; have y3 := blk_frozen BR6.out 1; have y4 : ((w6.alloc (.cells #[.int .i64 k, .int .i64 nn] 49)).setCell ⟨w.heap.size, 0, none⟩ (.int .i64 0)).cell? ⟨w.heap.size, 1, none⟩ = some (.int .i64 0) := blk_cell (blk_put BR6.out 0 (.int .i64 0) rfl) 1; have y5 := blk_frozen (blk_put BR6.out 0 (.int .i64 0) rfl) 1) | fail)
     have B2 := blk_put (blk_put BR6.out 0 (.int .i64 0) rfl) 1 (.int .i64 0) rfl
     have hb2 := Below.setCell (p := ⟨w.heap.size, 1, none⟩) (Below.setCell (p := ⟨w.heap.size, 0, none⟩) HC6.out (by simp) (.int .i64 0)) (by simp) (.int .i64 0)
     exact bodyPost_ret (results_ct rfl _ _ w.heap.size 49 _ (0, 0) _ rfl B2 Tryz.underlying49 rfl (by kernel_rfl)) rfl ⟨rfl, hb2⟩
theorem prog_act.calls (a0 : ByteArray) (r1 : Int) (r2 : Int) (r3 : Int) (w : World) (h : prog_act.f a0 = some (r1, r2, r3)) (hT : Laid w) :
  Calls Tryz.prog 75 #[.string a0] w fun e w' => e = .returned (.tuple #[.agg #[.int .i64 r1, .int .i64 r2], .int .i64 r3]) ∧ Below w.heap.size w w' := by
 by_cases hs : a0.size ≤ 4096
 ·exact act_walk a0 r1 r2 r3 w hT hs h
 ·unfold prog_act.f at h
  rw [if_neg hs] at h
  cases h
end Go.Proofs.YtoimfknjfeencaaGreatDoor.Hand
end
section
namespace Go.Proofs.YtoimfknjfeencaaGreatDoor.Hand
open Go.RowKit Go.Proofs.YtoimfknjfeencaaGreatDoorW.PrintWords Go.Proofs.YtoimfknjfeencaaGreatDoorW.PrintLast Go.Proofs.YtoimfknjfeencaaGreatDoorW.PrintMore
theorem reps_strings (w : World) (base : Nat) (ok : Nat → Prop) (l : List ByteArray) : Reps (Kd.string.M w base ok) Kd.string.sz l (l.map Value.string) := by
 refine ⟨by rw [List.length_map]; show l.length = l.length * 1; omega, fun j p h => ?_⟩
 show ((l.map Value.string).drop (j * 1)).take 1 = [Value.string p]
 rw [Nat.mul_one]
 have hj : (l.map Value.string)[j]? = some (Value.string p) := by rw [List.getElem?_map, h]; rfl
 obtain ⟨hlt, he⟩ := List.getElem?_eq_some_iff.1 hj
 rw [List.drop_eq_getElem_cons hlt, he]
 rfl
def strings_Split.f (a0 a1 : ByteArray) : Option (List ByteArray) := if a0.size ≤ 4096 ∧ 1 ≤ a1.size then some (Lib.splitB a1 0 (Lib.countB a0 a1) a0) else none
theorem strings_Split.calls (a0 : ByteArray) (a1 : ByteArray) (r : List ByteArray) (w : World) (h : strings_Split.f a0 a1 = some r) (hT : Laid w) :
  Calls Tryz.prog 41 #[.string a0, .string a1] w fun e w' => ∃ v0_ : Value, e = .returned (v0_) ∧ Kd.R Kd.string 9 w' w.heap.size (fun _ => True) v0_ r ∧ Below w.heap.size w w' := by
 unfold strings_Split.f at h
 by_cases hs : a0.size ≤ 4096 ∧ 1 ≤ a1.size
 ·rw [if_pos hs] at h
  obtain rfl := Option.some.inj h
  obtain ⟨m, hm⟩ := hT.mx
  refine (Tryz.strings_Split a0 a1 m w (by omega) hm hs.2).mono ?_
  rintro e w' ⟨rfl, rfl⟩
  have hlen := Lib.splitB_all a1 hs.2 0 _ a0 rfl
  have hle : (Lib.splitB a1 0 (Lib.countB a0 a1) a0).length ≤ 9223372036854775807 := by
   rw [hlen]
   have := Lib.countB_le a1 hs.2 _ a0 (Nat.le_refl _)
   omega
  have ho := OwnRow.lit (e := 9) w w.heap.size (reps_strings (w.alloc (.cells ((Lib.splitB a1 0 (Lib.countB a0 a1) a0).map Value.string).toArray 9)) w.heap.size (fun k => True ∧ some k ≠ (Value.slice (some ⟨w.heap.size, 0, none⟩) (Lib.countB a0 a1 + 1) (Lib.countB a0 a1 + 1)).ownBlock) (Lib.splitB a1 0 (Lib.countB a0 a1) a0)) (Nat.le_refl _) hle
  rw [hlen] at ho
  exact ⟨_, rfl, ⟨fun _ _ => trivial, ho⟩, (Below.refl _ _).alloc (Nat.le_refl _) _⟩
 ·rw [if_neg hs] at h
  cases h
def strings_TrimSuffix.f (a0 a1 : ByteArray) : Option ByteArray := if a0.size ≤ 9223372036854775807 then some ⟨(Lib.trimSuffix a0.data.toList a1.data.toList).toArray⟩ else none
theorem strings_TrimSuffix.calls (a0 : ByteArray) (a1 : ByteArray) (r : ByteArray) (w : World) (h : strings_TrimSuffix.f a0 a1 = some r) :
  Calls Tryz.prog 42 #[.string a0, .string a1] w fun e w' => e = .returned (.string r) ∧ Drawn0 w w' := by
 unfold strings_TrimSuffix.f at h
 by_cases hs : a0.size ≤ 9223372036854775807
 ·rw [if_pos hs] at h
  obtain rfl := Option.some.inj h
  refine (Tryz.strings_TrimSuffix a0 a1 w hs).mono ?_
  rintro e w' ⟨rfl, rfl⟩
  exact ⟨rfl, ⟨0, rfl⟩⟩
 ·rw [if_neg hs] at h
  cases h
end Go.Proofs.YtoimfknjfeencaaGreatDoor.Hand
end
section
namespace Go.Proofs.YtoimfknjfeencaaGreatDoorW.PrintWords
open Go.RowKit
section
section
variable {w w' u : World} {m B g : Nat} {o : Obj} {row : Option Nat} {S : Nat → Prop} {a : Addr} {v : Value}
theorem kept_at (hq : w.drewN m = w') (h : Kept u w S) : Kept u w' S := by subst hq; exact Kept.drewN h m
end
end
end Go.Proofs.YtoimfknjfeencaaGreatDoorW.PrintWords
end
section
namespace Go.Proofs.YtoimfknjfeencaaGreatDoorW.PrintWords
theorem Reps.one {α : Type} {R : α → List Value → Prop} {ps : List α} {cs : List Value} {p : α} {v : Value} (hp : R p [v]) (h : Reps R 1 ps cs) : Reps R 1 (p :: ps) (v :: cs) := by
 refine ⟨by simp [h.1], fun j q hq => ?_⟩
 cases j with
 | zero =>
  simp only [List.getElem?_cons_zero, Option.some.injEq] at hq
  subst hq
  simpa using hp
 | succ j =>
  simp only [List.getElem?_cons_succ] at hq
  have h1 := h.2 j q hq
  simpa [Nat.mul_one] using h1
end Go.Proofs.YtoimfknjfeencaaGreatDoorW.PrintWords
end
section
namespace Go.Proofs.YtoimfknjfeencaaGreatDoorW.PrintLast
def up (b : Nat → Bool) (i : Nat) : Nat → Bool := fun j => if j = i then true else b j
end Go.Proofs.YtoimfknjfeencaaGreatDoorW.PrintLast
end
section
namespace Go.Proofs.YtoimfknjfeencaaGreatDoor.Hand
open Go.RowKit Go.Proofs.YtoimfknjfeencaaGreatDoorW.PrintWords Go.Proofs.YtoimfknjfeencaaGreatDoorW.PrintLast Go.Proofs.YtoimfknjfeencaaGreatDoorW.PrintMore
theorem info3 : (Tryz.prog.info? 3).map (fun i => (i.zero, i.size, i.bytes)) = some (some (.int .i64 0), 1, 8) := by kernel_rfl
theorem info47 : (Tryz.prog.info? 47).map (fun i => (i.zero, i.size, i.bytes)) = some (some (.slice none 0 0), 1, 24) := by kernel_rfl
theorem info49 : (Tryz.prog.info? 49).map (fun i => (i.zero, i.size, i.bytes)) = some (some (.agg #[(.int .i64 0), (.int .i64 0)]), 2, 16) := by kernel_rfl
structure S49 where
 f0 : Int
 f1 : Int
def z49 : S49 := ⟨(0 : Int), (0 : Int)⟩
def k49 : Kd S49 := Kd.iso (Kd.pair (Kd.int .i64) (Kd.int .i64)) (fun x : S49 => (x.f0, x.f1))
theorem k49_open {w : World} {x : S49} {cs : List Value} (h : k49.K w x cs) : cs = [.int .i64 x.f0, .int .i64 x.f1] := by
 obtain ⟨_, _, rfl, rfl, rfl⟩ := h
 exact rfl
theorem k49_mk (w : World) (x : S49)  : k49.K w x [.int .i64 x.f0, .int .i64 x.f1] := ⟨[.int .i64 x.f0], [.int .i64 x.f1], rfl, rfl, rfl⟩
theorem k49_mkM (w : World) (base : Nat) (ok : Nat → Prop) (x : S49)  : k49.M w base ok x [.int .i64 x.f0, .int .i64 x.f1] := ⟨[.int .i64 x.f0], [.int .i64 x.f1], rfl, rfl, rfl⟩
def rd_T49 (xs : List S49) (i : Int) : S49 := xs.getD i.toNat z49
theorem at_T49 {w : World} {A : Option Addr} {n : Nat} {xs : List S49} (h : Kd.C k49 w A n xs) (i : Int) (h0 : 0 ≤ i) (h1 : i < n) : ∃ ad , A = some ad ∧ w.cell? (ad.add (i.toNat * 2)) = some (.int .i64 (rd_T49 xs i).f0) ∧ w.cell? ⟨(ad.add (i.toNat * 2)).block, (ad.add (i.toNat * 2)).off + 1, none⟩ = some (.int .i64 (rd_T49 xs i).f1) := by
 obtain ⟨ad, c, e, _, hK, hc0⟩ := Kd.C_get h z49 i h0 h1
 have hc : ∀ j u, c[j]? = some u → w.cell? (ad.add (i.toNat * 2 + j)) = some u := hc0
 obtain rfl := k49_open hK
 exact ⟨ad, e, hc 0 _ rfl, by rw [← add_field _ _ 1 (by omega)]; exact hc 1 _ rfl⟩
def rd_L4 (xs : List (List S49)) (i : Int) : (List S49) := xs.getD i.toNat ([] : List S49)
theorem at_L4 {w : World} {A : Option Addr} {n : Nat} {xs : List (List S49)} (h : Kd.C (Kd.slice 49 k49) w A n xs) (i : Int) (h0 : 0 ≤ i) (h1 : i < n) : ∃ ad A0 c0, A = some ad ∧ w.cell? (ad.add i.toNat) = some (.slice A0 (rd_L4 xs i).length c0) ∧ (rd_L4 xs i).length ≤ c0 ∧ k49.C w A0 (rd_L4 xs i).length (rd_L4 xs i) := by
 obtain ⟨ad, c, e, _, hK, hc0⟩ := Kd.C_get h ([] : List S49) i h0 h1
 have hc : ∀ j u, c[j]? = some u → w.cell? (ad.add (i.toNat * 1 + j)) = some u := hc0
 obtain ⟨A0, c0, rfl, l0, g0⟩ := hK
 exact ⟨ad, A0, c0, e, by have hq := hc 0 _ rfl; rwa [Nat.mul_one, Nat.add_zero] at hq, l0, g0⟩
end Go.Proofs.YtoimfknjfeencaaGreatDoor.Hand
end
