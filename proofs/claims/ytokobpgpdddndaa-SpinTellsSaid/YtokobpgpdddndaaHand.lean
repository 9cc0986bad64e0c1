/- The machine side of spin.Draw, spin.Turn and spin.Done: each call hands back what its Lean function here says, and what lay in memory stays. No conditions. -/
import Derived.Test.YtokobpgpdddndaaProg
import Derived.Below
import Derived.Deep.Draws
import Derived.Deep.AppendLies
import Derived.Maps.AppendAt
import Derived.OwnWalk
import Derived.Laws.BytesArg
import Derived.Laws.MakeOwn
import Derived.Laws.OwnMore
import Derived.Deep.OwnRows
import Derived.Tactics
import Derived.Lib.ConvBytes
import Derived.Laws.Slices
import Derived.WalkKit
import Derived.KernelRfl
import Derived.RowKit3
import Derived.Deep.LoopGhost
import Derived.Deep.QuietTactic
import Derived.BigQuiet
import Derived.WideLaws
import Derived.Deep.DeepCutAuto
import Derived.Deep.CutBlock
import Derived.Deep.RegionHeld3
import Derived.Laws.Rows
import Derived.Lib.AppendStr
import Derived.ArgAppend
import Derived.Laws.IdiomCopy
import Derived.OrdersHeld
import Derived.Laws.BitsLemmas
import Derived.RowKit
import Derived.Test.YtokobpgpdddndaaWWords
import Derived.Test.YtokobpgpdddndaaWLast
import Derived.Test.YtokobpgpdddndaaWTab
import Derived.Test.YtokobpgpdddndaaWFour
import Derived.Test.YtokobpgpdddndaaWQPut
import Derived.Test.YtokobpgpdddndaaWApart
import Derived.Test.YtokobpgpdddndaaWArr
import Derived.Test.YtokobpgpdddndaaWZeros
import Derived.Test.YtokobpgpdddndaaWFoot
import Derived.Test.YtokobpgpdddndaaWKept
import Derived.Test.YtokobpgpdddndaaWShare
import Derived.Test.YtokobpgpdddndaaWN
import Derived.Test.YtokobpgpdddndaaWFootNe
import Derived.Test.YtokobpgpdddndaaWAt
import Derived.Test.YtokobpgpdddndaaWEqStruct
import Derived.Test.YtokobpgpdddndaaWRepsOne
import Derived.Test.YtokobpgpdddndaaWInv
import Derived.Test.YtokobpgpdddndaaWInvWords
import Derived.Test.YtokobpgpdddndaaWGuard
import Derived.Test.YtokobpgpdddndaaWNEv
import Derived.Test.YtokobpgpdddndaaWMore
import Derived.Defers
namespace Go.Proofs.Ytokobpgpdddndaa.Hand
open Go.RowKit Go.Proofs.YtokobpgpdddndaaW.PrintWords Go.Proofs.YtokobpgpdddndaaW.PrintLast Go.Proofs.YtokobpgpdddndaaW.PrintMore
set_option linter.unusedVariables false
set_option linter.unusedSimpArgs false

def errW : Option Int → Value
  | none => .nilIface
  | some c => .iface 0 (.int .i64 c)
theorem errW_none : errW none = .nilIface := rfl
theorem errW_some (c : Int) : errW (some c) = .iface 0 (.int .i64 c) := rfl

/-! ### word_Wrap: function 6 -/
def word_Wrap.f (a0 : Int) (a1 : Int) : Option (Int × Int) := if a0 = 0 then (some (wrap64 (wrap32 (a1)), 0)) else (if a0 = 1 then (some ((a1) % 4294967296, 0)) else (if a0 = 2 then (some (a1, 0)) else (some (0, 1))))
set_option maxHeartbeats 8000000 in
set_option maxRecDepth 100000 in
theorem word_Wrap.calls (a0 : Int) (a1 : Int) (r1 : Int) (r2 : Int) (w : World) (h : word_Wrap.f a0 a1 = some (r1, r2)) :
    Calls Try.prog 6 #[.int .i64 a0, .int .i64 a1] w fun e w' => e = .returned (.tuple #[.int .i64 r1, .int .i64 r2]) ∧ Drawn0 w w' := by
  have H : (if a0 = 0 then (some (wrap64 (wrap32 (a1)), 0)) else (if a0 = 1 then (some ((a1) % 4294967296, 0)) else (if a0 = 2 then (some (a1, 0)) else (some (0, 1))))) = some (r1, r2) := h
  clear h
  by_cases c3 : a0 = 0
  · rw [if_pos c3] at H
    have c3b0 : (a0 == 0) = true := beq_iff_eq.mpr c3
    have c3b1 : (a0 != 0) = false := bne_eq_false_iff_eq.mpr c3
    clear c3
    simp only [Option.some.injEq, Prod.mk.injEq] at H
    obtain ⟨rfl, rfl⟩ := H
    go_enter Try.func6, Try.ntmps6
    go_wp2
    go_ret2
    exact ⟨by first | rfl | (simp; done) | (simp [*]; done), by repeat (first | exact Drawn0.refl _ | apply Drawn0.step)⟩
  · rw [if_neg c3] at H
    have c3b0 : (a0 == 0) = false := beq_eq_false_iff_ne.mpr c3
    have c3b1 : (a0 != 0) = true := bne_iff_ne.mpr c3
    by_cases c4 : a0 = 1
    · rw [if_pos c4] at H
      have c4b0 : (a0 == 1) = true := beq_iff_eq.mpr c4
      have c4b1 : (a0 != 1) = false := bne_eq_false_iff_eq.mpr c4
      clear c4
      simp only [Option.some.injEq, Prod.mk.injEq] at H
      obtain ⟨rfl, rfl⟩ := H
      go_enter Try.func6, Try.ntmps6
      go_wp2
      go_ret2
      exact ⟨by first | rfl | (simp; done) | (simp [*]; done), by repeat (first | exact Drawn0.refl _ | apply Drawn0.step)⟩
    · rw [if_neg c4] at H
      have c4b0 : (a0 == 1) = false := beq_eq_false_iff_ne.mpr c4
      have c4b1 : (a0 != 1) = true := bne_iff_ne.mpr c4
      by_cases c5 : a0 = 2
      · rw [if_pos c5] at H
        have c5b0 : (a0 == 2) = true := beq_iff_eq.mpr c5
        have c5b1 : (a0 != 2) = false := bne_eq_false_iff_eq.mpr c5
        clear c5
        simp only [Option.some.injEq, Prod.mk.injEq] at H
        obtain ⟨rfl, rfl⟩ := H
        go_enter Try.func6, Try.ntmps6
        go_wp2
        go_ret2
        exact ⟨by first | rfl | (simp; done) | (simp [*]; done), by repeat (first | exact Drawn0.refl _ | apply Drawn0.step)⟩
      · rw [if_neg c5] at H
        have c5b0 : (a0 == 2) = false := beq_eq_false_iff_ne.mpr c5
        have c5b1 : (a0 != 2) = true := bne_iff_ne.mpr c5
        simp only [Option.some.injEq, Prod.mk.injEq] at H
        obtain ⟨rfl, rfl⟩ := H
        go_enter Try.func6, Try.ntmps6
        go_wp2
        go_ret2
        exact ⟨by first | rfl | (simp; done) | (simp [*]; done), by repeat (first | exact Drawn0.refl _ | apply Drawn0.step)⟩

/-! ### word_Fits: function 24 -/
def word_Fits.f (a0 : Int) (a1 : Int) : Option (Bool) := (word_Wrap.f a0 a1).bind fun bt101 => (if bt101.2 = 0 then (some (bt101.1 == a1)) else (some false))
set_option maxHeartbeats 8000000 in
set_option maxRecDepth 100000 in
theorem word_Fits.calls (a0 : Int) (a1 : Int) (r : Bool) (w : World) (h : word_Fits.f a0 a1 = some r) :
    Calls Try.prog 24 #[.int .i64 a0, .int .i64 a1] w fun e w' => e = .returned (.bool r) ∧ Drawn0 w w' := by
  have H : ((word_Wrap.f a0 a1).bind fun bt101 => (if bt101.2 = 0 then (some (bt101.1 == a1)) else (some false))) = some r := h
  clear h
  replace H := Option.bind_eq_some_iff.mp H
  obtain ⟨⟨t101, t102⟩, A30, H⟩ := H
  replace H : (if t102 = 0 then (some (t101 == a1)) else (some false)) = some r := H
  have A3 := Aside0.mk A30
  clear A30
  by_cases c4 : t102 = 0
  · rw [if_pos c4] at H
    have c4b0 : (t102 == 0) = true := beq_iff_eq.mpr c4
    have c4b1 : (t102 != 0) = false := bne_eq_false_iff_eq.mpr c4
    clear c4
    obtain rfl := Option.some.inj H
    go_enter Try.func24, Try.ntmps24
    go_wp2_with (first | ((with_reducible refine gate_callee (f := 6) rfl ?_); refine goesL_ (some 10) rfl rfl Try.func6 (by kernel_rfl) rfl #[.int .i64 a0, .int .i64 a1] rfl (by (try simp only [List.map_toArray, List.map_cons, List.map_nil]); first | done | rfl | (simp only [List.length_drop, List.length_take]; rfl)) ?_; (with_reducible refine (word_Wrap.calls a0 a1 t101 t102 _ A3.out).mono ?_); rintro e w' ⟨rfl, ⟨nd, rfl⟩⟩; refine ⟨_, rfl, ?_⟩))
    go_ret
    exact ⟨by first | rfl | (simp; done) | (simp [*]; done), by repeat (first | exact Drawn0.refl _ | apply Drawn0.step)⟩
  · rw [if_neg c4] at H
    have c4b0 : (t102 == 0) = false := beq_eq_false_iff_ne.mpr c4
    have c4b1 : (t102 != 0) = true := bne_iff_ne.mpr c4
    obtain rfl := Option.some.inj H
    go_enter Try.func24, Try.ntmps24
    go_wp2_with (first | ((with_reducible refine gate_callee (f := 6) rfl ?_); refine goesL_ (some 10) rfl rfl Try.func6 (by kernel_rfl) rfl #[.int .i64 a0, .int .i64 a1] rfl (by (try simp only [List.map_toArray, List.map_cons, List.map_nil]); first | done | rfl | (simp only [List.length_drop, List.length_take]; rfl)) ?_; (with_reducible refine (word_Wrap.calls a0 a1 t101 t102 _ A3.out).mono ?_); rintro e w' ⟨rfl, ⟨nd, rfl⟩⟩; refine ⟨_, rfl, ?_⟩))
    go_ret
    exact ⟨by first | rfl | (simp; done) | (simp [*]; done), by repeat (first | exact Drawn0.refl _ | apply Drawn0.step)⟩

/-! ### spin_Right: function 13 -/
def spin_Right.f (a0_0 : Int) (a0_1 : Int) : Option (Bool) := (word_Fits.f 1 a0_0).bind fun t104 => (if t104 = true then ((word_Fits.f 1 a0_1).bind fun t105 => (some t105)) else (some false))
set_option maxHeartbeats 8000000 in
set_option maxRecDepth 100000 in
theorem spin_Right.calls (a0_0 : Int) (a0_1 : Int) (r : Bool) (w : World) (h : spin_Right.f a0_0 a0_1 = some r) :
    Calls Try.prog 13 #[.agg #[.int .i64 a0_0, .int .i64 a0_1]] w fun e w' => e = .returned (.bool r) ∧ Below w.heap.size w w' := by
  have hu27 := Try.underlying27
  have HB := Aside0.mk (Below.refl w.heap.size w)
  have H : ((word_Fits.f 1 a0_0).bind fun t104 => (if t104 = true then ((word_Fits.f 1 a0_1).bind fun t105 => (some t105)) else (some false))) = some r := h
  clear h
  replace H := Option.bind_eq_some_iff.mp H
  obtain ⟨t104, A20, H⟩ := H
  replace H : (if t104 = true then ((word_Fits.f 1 a0_1).bind fun t105 => (some t105)) else (some false)) = some r := H
  have A2 := Aside0.mk A20
  clear A20
  by_cases c3 : t104 = true
  · subst c3
    have H1 : ((word_Fits.f 1 a0_1).bind fun t105 => (some t105)) = some r := by rw [if_pos rfl] at H; exact H
    clear H
    have H := H1
    clear H1
    replace H := Option.bind_eq_some_iff.mp H
    obtain ⟨t105, A40, H⟩ := H
    replace H : (some t105) = some r := H
    have A4 := Aside0.mk A40
    clear A40
    obtain rfl := Option.some.inj H
    go_enter Try.func13, Try.ntmps13
    go_wp2_with (first | ((with_reducible refine gate_dst (N := 1) rfl ?_); refine box_event ?hg (N := 1) ?hd (cs := #[.int .i64 a0_0, .int .i64 a0_1]) (t := 27) ?hr ?_; (case hd => rfl); (case hg => rfl); (case hr => first | (go_simp; done) | (go_simp; rfl)); intro gb103 hg w5 hbox hb; have n0_ := Aside0.mk (below_step (by repeat (first | (with_reducible first | exact HB.out | apply below_alloc | apply pw_below_drewN | apply below_drew1) | exact HB.out)) hb); have n1_ := Aside0.mk (hbox); have n2_ := Aside0.mk ((by rw [hg]; exact (below_size (by repeat (first | (with_reducible first | exact HB.out | apply below_alloc | apply pw_below_drewN | apply below_drew1) | exact HB.out))) : w.heap.size ≤ gb103)); have n3_ := Aside0.mk ((by rw [hg]; exact (below_size (by repeat (first | (with_reducible first | exact HB.out | apply below_alloc | apply pw_below_drewN | apply below_drew1) | exact HB.out))) : w.heap.size ≤ gb103)); clear HB; have HB := n0_; have BK103 := n1_; have GW103 := n2_; have GE103 := n3_; clear n0_ n1_ n2_ n3_; clear hb hbox hg; have hcz6_0 : w5.cell? ⟨gb103, 0, none⟩ = some (.int .i64 a0_0) := (blk_cell BK103.out 0).trans rfl; have hcz6_1 : w5.cell? ⟨gb103, 1, none⟩ = some (.int .i64 a0_1) := (blk_cell BK103.out 1).trans rfl; have hfz6_0 := blk_frozen BK103.out 0; have hfz6_1 := blk_frozen BK103.out 1) | ((with_reducible refine gate_callee (f := 24) rfl ?_); refine goesL_ (some 5) rfl rfl Try.func24 (by kernel_rfl) rfl #[.int .i64 1, .int .i64 a0_0] rfl (by (try simp only [List.map_toArray, List.map_cons, List.map_nil]); first | done | rfl | (simp only [List.length_drop, List.length_take]; rfl)) ?_; (with_reducible refine (word_Fits.calls 1 a0_0 true _ A2.out).mono ?_); rintro e w' ⟨rfl, ⟨nd, rfl⟩⟩; refine ⟨_, rfl, ?_⟩) | (go_at_call 24; (with_reducible refine (word_Fits.calls 1 a0_1 t105 _ A4.out).mono ?_); rintro e w' ⟨rfl, ⟨nd, rfl⟩⟩))
    go_ret
    exact ⟨by first | rfl | (simp [errW_none, errW_some] <;> rfl) | (simp [*, errW_none, errW_some] <;> rfl), by repeat (first | (with_reducible first | exact HB.out | apply below_alloc | apply pw_below_drewN | apply below_drew1 | refine below_set ?_ GE103.out) | exact HB.out)⟩
  · replace c3 := Bool.eq_false_iff.mpr c3
    subst c3
    have H1 : (some false) = some r := by rw [if_neg (show ¬ (false = true) by decide)] at H; exact H
    clear H
    have H := H1
    clear H1
    obtain rfl := Option.some.inj H
    go_enter Try.func13, Try.ntmps13
    go_wp2_with (first | ((with_reducible refine gate_dst (N := 1) rfl ?_); refine box_event ?hg (N := 1) ?hd (cs := #[.int .i64 a0_0, .int .i64 a0_1]) (t := 27) ?hr ?_; (case hd => rfl); (case hg => rfl); (case hr => first | (go_simp; done) | (go_simp; rfl)); intro gb103 hg w7 hbox hb; have n0_ := Aside0.mk (below_step (by repeat (first | (with_reducible first | exact HB.out | apply below_alloc | apply pw_below_drewN | apply below_drew1) | exact HB.out)) hb); have n1_ := Aside0.mk (hbox); have n2_ := Aside0.mk ((by rw [hg]; exact (below_size (by repeat (first | (with_reducible first | exact HB.out | apply below_alloc | apply pw_below_drewN | apply below_drew1) | exact HB.out))) : w.heap.size ≤ gb103)); have n3_ := Aside0.mk ((by rw [hg]; exact (below_size (by repeat (first | (with_reducible first | exact HB.out | apply below_alloc | apply pw_below_drewN | apply below_drew1) | exact HB.out))) : w.heap.size ≤ gb103)); clear HB; have HB := n0_; have BK103 := n1_; have GW103 := n2_; have GE103 := n3_; clear n0_ n1_ n2_ n3_; clear hb hbox hg; have hcz8_0 : w7.cell? ⟨gb103, 0, none⟩ = some (.int .i64 a0_0) := (blk_cell BK103.out 0).trans rfl; have hcz8_1 : w7.cell? ⟨gb103, 1, none⟩ = some (.int .i64 a0_1) := (blk_cell BK103.out 1).trans rfl; have hfz8_0 := blk_frozen BK103.out 0; have hfz8_1 := blk_frozen BK103.out 1) | ((with_reducible refine gate_callee (f := 24) rfl ?_); refine goesL_ (some 5) rfl rfl Try.func24 (by kernel_rfl) rfl #[.int .i64 1, .int .i64 a0_0] rfl (by (try simp only [List.map_toArray, List.map_cons, List.map_nil]); first | done | rfl | (simp only [List.length_drop, List.length_take]; rfl)) ?_; (with_reducible refine (word_Fits.calls 1 a0_0 false _ A2.out).mono ?_); rintro e w' ⟨rfl, ⟨nd, rfl⟩⟩; refine ⟨_, rfl, ?_⟩))
    go_ret
    exact ⟨by first | rfl | (simp [errW_none, errW_some] <;> rfl) | (simp [*, errW_none, errW_some] <;> rfl), by repeat (first | (with_reducible first | exact HB.out | apply below_alloc | apply pw_below_drewN | apply below_drew1 | refine below_set ?_ GE103.out) | exact HB.out)⟩

/-! ### word_Add: function 22 -/
def word_Add.f (a0 : Int) (a1 : Int) (a2 : Int) : Option (Int × Int) := (word_Wrap.f a0 (wrap64 (a1 + a2))).bind fun bt106 => (some (bt106.1, bt106.2))
set_option maxHeartbeats 8000000 in
set_option maxRecDepth 100000 in
theorem word_Add.calls (a0 : Int) (a1 : Int) (a2 : Int) (r1 : Int) (r2 : Int) (w : World) (h : word_Add.f a0 a1 a2 = some (r1, r2)) :
    Calls Try.prog 22 #[.int .i64 a0, .int .i64 a1, .int .i64 a2] w fun e w' => e = .returned (.tuple #[.int .i64 r1, .int .i64 r2]) ∧ Drawn0 w w' := by
  have H : ((word_Wrap.f a0 (wrap64 (a1 + a2))).bind fun bt106 => (some (bt106.1, bt106.2))) = some (r1, r2) := h
  clear h
  replace H := Option.bind_eq_some_iff.mp H
  obtain ⟨⟨t106, t107⟩, A40, H⟩ := H
  replace H : (some (t106, t107)) = some (r1, r2) := H
  have A4 := Aside0.mk A40
  clear A40
  simp only [Option.some.injEq, Prod.mk.injEq] at H
  obtain ⟨rfl, rfl⟩ := H
  go_enter Try.func22, Try.ntmps22
  go_wp2_with (first | ((with_reducible refine gate_callee (f := 6) rfl ?_); refine goesL_ (some 12) rfl rfl Try.func6 (by kernel_rfl) rfl #[.int .i64 a0, .int .i64 (wrap64 (a1 + a2))] rfl (by (try simp only [List.map_toArray, List.map_cons, List.map_nil]); first | done | rfl | (simp only [List.length_drop, List.length_take]; rfl)) ?_; (with_reducible refine (word_Wrap.calls a0 (wrap64 (a1 + a2)) t106 t107 _ A4.out).mono ?_); rintro e w' ⟨rfl, ⟨nd, rfl⟩⟩; refine ⟨_, rfl, ?_⟩))
  go_ret2
  exact ⟨by first | rfl | (simp; done) | (simp [*]; done), by repeat (first | exact Drawn0.refl _ | apply Drawn0.step)⟩

/-! ### spin_Out: function 9 -/
def spin_Out.f (a0_0 : Int) (a0_1 : Int) : Option (Int × Int) := (spin_Right.f a0_0 a0_1).bind fun t109 => (if t109 = true then ((word_Add.f 1 a0_0 (wrap64 (-a0_1))).bind fun bt110 => (some (bt110.1, bt110.2))) else (some (0, 1)))
set_option maxHeartbeats 8000000 in
set_option maxRecDepth 100000 in
theorem spin_Out.calls (a0_0 : Int) (a0_1 : Int) (r1 : Int) (r2 : Int) (w : World) (h : spin_Out.f a0_0 a0_1 = some (r1, r2)) :
    Calls Try.prog 9 #[.agg #[.int .i64 a0_0, .int .i64 a0_1]] w fun e w' => e = .returned (.tuple #[.int .i64 r1, .int .i64 r2]) ∧ Below w.heap.size w w' := by
  have hu27 := Try.underlying27
  have HB := Aside0.mk (Below.refl w.heap.size w)
  have H : ((spin_Right.f a0_0 a0_1).bind fun t109 => (if t109 = true then ((word_Add.f 1 a0_0 (wrap64 (-a0_1))).bind fun bt110 => (some (bt110.1, bt110.2))) else (some (0, 1)))) = some (r1, r2) := h
  clear h
  replace H := Option.bind_eq_some_iff.mp H
  obtain ⟨t109, A20, H⟩ := H
  replace H : (if t109 = true then ((word_Add.f 1 a0_0 (wrap64 (-a0_1))).bind fun bt110 => (some (bt110.1, bt110.2))) else (some (0, 1))) = some (r1, r2) := H
  have A2 := Aside0.mk A20
  clear A20
  by_cases c3 : t109 = true
  · subst c3
    have H1 : ((word_Add.f 1 a0_0 (wrap64 (-a0_1))).bind fun bt110 => (some (bt110.1, bt110.2))) = some (r1, r2) := by rw [if_pos rfl] at H; exact H
    clear H
    have H := H1
    clear H1
    replace H := Option.bind_eq_some_iff.mp H
    obtain ⟨⟨t110, t111⟩, A40, H⟩ := H
    replace H : (some (t110, t111)) = some (r1, r2) := H
    have A4 := Aside0.mk A40
    clear A40
    simp only [Option.some.injEq, Prod.mk.injEq] at H
    obtain ⟨rfl, rfl⟩ := H
    go_enter Try.func9, Try.ntmps9
    go_wp2_with (first | ((with_reducible refine gate_dst (N := 1) rfl ?_); refine box_event ?hg (N := 1) ?hd (cs := #[.int .i64 a0_0, .int .i64 a0_1]) (t := 27) ?hr ?_; (case hd => rfl); (case hg => rfl); (case hr => first | (go_simp; done) | (go_simp; rfl)); intro gb108 hg w5 hbox hb; have n0_ := Aside0.mk (below_step (by repeat (first | (with_reducible first | exact HB.out | apply below_alloc | apply pw_below_drewN | apply below_drew1) | exact HB.out)) hb); have n1_ := Aside0.mk (hbox); have n2_ := Aside0.mk ((by rw [hg]; exact (below_size (by repeat (first | (with_reducible first | exact HB.out | apply below_alloc | apply pw_below_drewN | apply below_drew1) | exact HB.out))) : w.heap.size ≤ gb108)); have n3_ := Aside0.mk ((by rw [hg]; exact (below_size (by repeat (first | (with_reducible first | exact HB.out | apply below_alloc | apply pw_below_drewN | apply below_drew1) | exact HB.out))) : w.heap.size ≤ gb108)); clear HB; have HB := n0_; have BK108 := n1_; have GW108 := n2_; have GE108 := n3_; clear n0_ n1_ n2_ n3_; clear hb hbox hg; have hcz6_0 : w5.cell? ⟨gb108, 0, none⟩ = some (.int .i64 a0_0) := (blk_cell BK108.out 0).trans rfl; have hcz6_1 : w5.cell? ⟨gb108, 1, none⟩ = some (.int .i64 a0_1) := (blk_cell BK108.out 1).trans rfl; have hfz6_0 := blk_frozen BK108.out 0; have hfz6_1 := blk_frozen BK108.out 1) | ((with_reducible refine gate_callee (f := 13) rfl ?_); refine goesL_ (some 5) rfl rfl Try.func13 (by kernel_rfl) rfl #[.agg #[.int .i64 a0_0, .int .i64 a0_1]] rfl (by (try simp only [List.map_toArray, List.map_cons, List.map_nil]); first | done | rfl | (simp only [List.length_drop, List.length_take]; rfl)) ?_; (with_reducible refine (spin_Right.calls a0_0 a0_1 true _ A2.out).mono ?_); rintro e w7 ⟨rfl, hb⟩; refine ⟨_, rfl, ?_⟩; have n0_ := Aside0.mk (blk_below (g := gb108) (o := .cells #[.int .i64 a0_0, .int .i64 a0_1] 27 (0, 0)) (by (with_reducible repeat (first | refine blk_drewN ?_ _ | refine blk_drew ?_ | refine blk_alloc ?_ _)); exact BK108.out) hb); have n1_ := Aside0.mk (below_step (by repeat (first | (with_reducible first | exact HB.out | apply below_alloc | apply pw_below_drewN | apply below_drew1 | refine below_set ?_ GE108.out) | exact HB.out)) hb); clear BK108; clear HB; have BK108 := n0_; have HB := n1_; clear n0_ n1_; (try clear hb); (try clear hb2); (try clear hk); (try clear hi); have hcz8_0 : w7.cell? ⟨gb108, 0, none⟩ = some (.int .i64 a0_0) := (blk_cell BK108.out 0).trans rfl; have hcz8_1 : w7.cell? ⟨gb108, 1, none⟩ = some (.int .i64 a0_1) := (blk_cell BK108.out 1).trans rfl; have hfz8_0 := blk_frozen BK108.out 0; have hfz8_1 := blk_frozen BK108.out 1) | ((with_reducible refine gate_callee (f := 22) rfl ?_); refine goesL_ (some 12) rfl rfl Try.func22 (by kernel_rfl) rfl #[.int .i64 1, .int .i64 a0_0, .int .i64 (wrap64 (-a0_1))] rfl (by (try simp only [List.map_toArray, List.map_cons, List.map_nil]); first | done | rfl | (simp only [List.length_drop, List.length_take]; rfl)) ?_; (with_reducible refine (word_Add.calls 1 a0_0 (wrap64 (-a0_1)) t110 t111 _ A4.out).mono ?_); rintro e w' ⟨rfl, ⟨nd, rfl⟩⟩; refine ⟨_, rfl, ?_⟩))
    go_ret2
    exact ⟨by first | rfl | (simp [errW_none, errW_some] <;> rfl) | (simp [*, errW_none, errW_some] <;> rfl), by repeat (first | (with_reducible first | exact HB.out | apply below_alloc | apply pw_below_drewN | apply below_drew1 | refine below_set ?_ GE108.out) | exact HB.out)⟩
  · replace c3 := Bool.eq_false_iff.mpr c3
    subst c3
    have H1 : (some (0, 1)) = some (r1, r2) := by rw [if_neg (show ¬ (false = true) by decide)] at H; exact H
    clear H
    have H := H1
    clear H1
    simp only [Option.some.injEq, Prod.mk.injEq] at H
    obtain ⟨rfl, rfl⟩ := H
    go_enter Try.func9, Try.ntmps9
    go_wp2_with (first | ((with_reducible refine gate_dst (N := 1) rfl ?_); refine box_event ?hg (N := 1) ?hd (cs := #[.int .i64 a0_0, .int .i64 a0_1]) (t := 27) ?hr ?_; (case hd => rfl); (case hg => rfl); (case hr => first | (go_simp; done) | (go_simp; rfl)); intro gb108 hg w9 hbox hb; have n0_ := Aside0.mk (below_step (by repeat (first | (with_reducible first | exact HB.out | apply below_alloc | apply pw_below_drewN | apply below_drew1) | exact HB.out)) hb); have n1_ := Aside0.mk (hbox); have n2_ := Aside0.mk ((by rw [hg]; exact (below_size (by repeat (first | (with_reducible first | exact HB.out | apply below_alloc | apply pw_below_drewN | apply below_drew1) | exact HB.out))) : w.heap.size ≤ gb108)); have n3_ := Aside0.mk ((by rw [hg]; exact (below_size (by repeat (first | (with_reducible first | exact HB.out | apply below_alloc | apply pw_below_drewN | apply below_drew1) | exact HB.out))) : w.heap.size ≤ gb108)); clear HB; have HB := n0_; have BK108 := n1_; have GW108 := n2_; have GE108 := n3_; clear n0_ n1_ n2_ n3_; clear hb hbox hg; have hcz10_0 : w9.cell? ⟨gb108, 0, none⟩ = some (.int .i64 a0_0) := (blk_cell BK108.out 0).trans rfl; have hcz10_1 : w9.cell? ⟨gb108, 1, none⟩ = some (.int .i64 a0_1) := (blk_cell BK108.out 1).trans rfl; have hfz10_0 := blk_frozen BK108.out 0; have hfz10_1 := blk_frozen BK108.out 1) | ((with_reducible refine gate_callee (f := 13) rfl ?_); refine goesL_ (some 5) rfl rfl Try.func13 (by kernel_rfl) rfl #[.agg #[.int .i64 a0_0, .int .i64 a0_1]] rfl (by (try simp only [List.map_toArray, List.map_cons, List.map_nil]); first | done | rfl | (simp only [List.length_drop, List.length_take]; rfl)) ?_; (with_reducible refine (spin_Right.calls a0_0 a0_1 false _ A2.out).mono ?_); rintro e w11 ⟨rfl, hb⟩; refine ⟨_, rfl, ?_⟩; have n0_ := Aside0.mk (blk_below (g := gb108) (o := .cells #[.int .i64 a0_0, .int .i64 a0_1] 27 (0, 0)) (by (with_reducible repeat (first | refine blk_drewN ?_ _ | refine blk_drew ?_ | refine blk_alloc ?_ _)); exact BK108.out) hb); have n1_ := Aside0.mk (below_step (by repeat (first | (with_reducible first | exact HB.out | apply below_alloc | apply pw_below_drewN | apply below_drew1 | refine below_set ?_ GE108.out) | exact HB.out)) hb); clear BK108; clear HB; have BK108 := n0_; have HB := n1_; clear n0_ n1_; (try clear hb); (try clear hb2); (try clear hk); (try clear hi)))
    go_ret2
    exact ⟨by first | rfl | (simp [errW_none, errW_some] <;> rfl) | (simp [*, errW_none, errW_some] <;> rfl), by repeat (first | (with_reducible first | exact HB.out | apply below_alloc | apply pw_below_drewN | apply below_drew1 | refine below_set ?_ GE108.out) | exact HB.out)⟩


theorem bcell {W w1 : World} (hb : Below W.heap.size W w1) : (∀ b o, b < W.heap.size → w1.cell? ⟨b, o, none⟩ = W.cell? ⟨b, o, none⟩) ∧ (∀ b o, b < W.heap.size → w1.frozen? ⟨b, o, none⟩ = W.frozen? ⟨b, o, none⟩) :=
  ⟨fun b o h => hb.cell (p := ⟨b, o, none⟩) h, fun b o h => hb.frozen (p := ⟨b, o, none⟩) h⟩

set_option maxHeartbeats 1000000 in
set_option maxRecDepth 100000 in
theorem Turn_no (n s m : Int) (w : World) (h0 : spin_Right.f n s = some false) :
    Calls Try.prog 10 #[.agg #[.int .i64 n, .int .i64 s], .int .i64 m] w fun e w' => e = .returned (.tuple #[.bool false, .int .i64 1]) ∧ Below w.heap.size w w' := by
  have A := Aside0.mk h0
  clear h0
  have hu := Try.underlying27
  go_enter Try.func10, Try.ntmps10
  go_wp2_with (go_at_call 13; refine (spin_Right.calls n s _ _ A.out).mono ?_; rintro e w1 ⟨rfl, hb⟩)
  go_ret2
  exact ⟨rfl, ((Below.refl _ _).alloc (Nat.le_refl _) _).trans (hb.mono (by simp))⟩

set_option maxHeartbeats 1000000 in
set_option maxRecDepth 100000 in
theorem Turn_yes (n s m : Int) (w : World) (h0 : spin_Right.f n s = some true) :
    Calls Try.prog 10 #[.agg #[.int .i64 n, .int .i64 s], .int .i64 m] w fun e w' => e = .returned (.tuple #[.bool (m == s), .int .i64 0]) ∧ Below w.heap.size w w' := by
  have A := Aside0.mk h0
  clear h0
  have hu := Try.underlying27
  have hmf : ∀ (fn : Fn) (first cap : Array Value) (w : World), (Instr.makeFunc fn first cap).run Try.prog w = .ok (.func fn first cap) w := fun _ _ _ _ => rfl
  go_enter Try.func10, Try.ntmps10
  go_wp2_with fail
  refine (spin_Right.calls n s _ _ A.out).mono ?_
  rintro e w1 ⟨rfl, hb⟩
  have B0 := Aside0.mk (blk_below (blk_new w (.cells #[.int .i64 n, .int .i64 s] 27)) hb)
  have c0 : w1.cell? ⟨w.heap.size, 0, none⟩ = some (.int .i64 n) := blk_cell B0.out 0
  have c1 : w1.cell? ⟨w.heap.size, 1, none⟩ = some (.int .i64 s) := blk_cell B0.out 1
  have hz : w.heap.size < w1.heap.size := by have := hb.size; simp at this; omega
  go_wp2
  go_ret2
  exact ⟨rfl, (((Below.refl _ _).alloc (Nat.le_refl _) _).trans (hb.mono (by simp))).alloc (Nat.le_of_lt hz) _⟩

theorem fin2 {w w1 : World} {X Y : Obj} (hb : Below ((w.alloc X).alloc Y).heap.size ((w.alloc X).alloc Y) w1) : Below w.heap.size w w1 :=
  (((Below.refl _ _).alloc (Nat.le_refl _) X).alloc (by simp) Y).trans (hb.mono (by simp; omega))

theorem box0 {w w1 : World} {X : Array Value} {T : TypeId} {Y : Obj} (hb : Below ((w.alloc (.cells X T)).alloc Y).heap.size ((w.alloc (.cells X T)).alloc Y) w1) : w1.heap[w.heap.size]? = some (.cells X T (0, 0)) :=
  blk_below (blk_alloc (blk_new w (.cells X T)) Y) hb

theorem box1 {w w1 : World} {Y : Array Value} {T : TypeId} {X : Obj} (hb : Below ((w.alloc X).alloc (.cells Y T)).heap.size ((w.alloc X).alloc (.cells Y T)) w1) : w1.heap[w.heap.size + 1]? = some (.cells Y T (0, 0)) := by
  have := blk_below (blk_new (w.alloc X) (.cells Y T)) hb
  simpa using this

set_option maxHeartbeats 1000000 in
set_option maxRecDepth 100000 in
theorem Done_bad (n s o b : Int) (w : World) (h0 : spin_Out.f n s = some (o, b)) (hb0 : (b != 0) = true) :
    Calls Try.prog 8 #[.agg #[.int .i64 n, .int .i64 s]] w fun e w' => e = .returned (.tuple #[.agg #[.int .i64 0, .int .i64 0], .int .i64 b]) ∧ Below w.heap.size w w' := by
  have A := Aside0.mk h0
  clear h0
  have hu := Try.underlying27
  go_enter Try.func8, Try.ntmps8
  go_wp2_with fail
  refine (spin_Out.calls n s _ _ _ A.out).mono ?_
  rintro e w1 ⟨rfl, hb⟩
  have B1 := Aside0.mk (box1 hb)
  have c0 : w1.cell? ⟨w.heap.size + 1, 0, none⟩ = some (.int .i64 0) := blk_cell B1.out 0
  have c1 : w1.cell? ⟨w.heap.size + 1, 1, none⟩ = some (.int .i64 0) := blk_cell B1.out 1
  have f0 : w1.frozen? ⟨w.heap.size + 1, 0, none⟩ = false := blk_frozen B1.out 0
  have f1 : w1.frozen? ⟨w.heap.size + 1, 1, none⟩ = false := blk_frozen B1.out 1
  have hz : w.heap.size + 1 < w1.heap.size := by have := hb.size; simp at this; omega
  go_wp2
  refine bodyPost_ret (results_ct rfl _ _ (w.heap.size + 1) 27 #[.int .i64 0, .int .i64 0] (0, 0) _ rfl (blk_put (blk_put B1.out 0 _ rfl) 1 _ rfl) Try.underlying27 rfl (by kernel_rfl)) rfl ⟨rfl, ?_⟩
  exact ((fin2 hb).setCell (by simp) _).setCell (by simp) _

set_option maxHeartbeats 1000000 in
set_option maxRecDepth 100000 in
theorem Done_none (n s : Int) (w : World) (h0 : spin_Out.f n s = some (0, 0)) :
    Calls Try.prog 8 #[.agg #[.int .i64 n, .int .i64 s]] w fun e w' => e = .returned (.tuple #[.agg #[.int .i64 0, .int .i64 0], .int .i64 6]) ∧ Below w.heap.size w w' := by
  have A := Aside0.mk h0
  clear h0
  have hu := Try.underlying27
  go_enter Try.func8, Try.ntmps8
  go_wp2_with fail
  refine (spin_Out.calls n s _ _ _ A.out).mono ?_
  rintro e w1 ⟨rfl, hb⟩
  have B1 := Aside0.mk (box1 hb)
  have c0 : w1.cell? ⟨w.heap.size + 1, 0, none⟩ = some (.int .i64 0) := blk_cell B1.out 0
  have c1 : w1.cell? ⟨w.heap.size + 1, 1, none⟩ = some (.int .i64 0) := blk_cell B1.out 1
  have f0 : w1.frozen? ⟨w.heap.size + 1, 0, none⟩ = false := blk_frozen B1.out 0
  have f1 : w1.frozen? ⟨w.heap.size + 1, 1, none⟩ = false := blk_frozen B1.out 1
  have hz : w.heap.size + 1 < w1.heap.size := by have := hb.size; simp at this; omega
  go_wp2
  refine bodyPost_ret (results_ct rfl _ _ (w.heap.size + 1) 27 #[.int .i64 0, .int .i64 0] (0, 0) _ rfl (blk_put (blk_put B1.out 0 _ rfl) 1 _ rfl) Try.underlying27 rfl (by kernel_rfl)) rfl ⟨rfl, ?_⟩
  exact ((fin2 hb).setCell (by simp) _).setCell (by simp) _

set_option maxHeartbeats 1000000 in
set_option maxRecDepth 100000 in
theorem Done_good (n s o s' q : Int) (w : World) (h0 : spin_Out.f n s = some (o, 0)) (ho : (o == 0) = false) (h1 : word_Add.f 1 s 1 = some (s', q)) :
    Calls Try.prog 8 #[.agg #[.int .i64 n, .int .i64 s]] w fun e w' => e = .returned (.tuple #[.agg #[.int .i64 n, .int .i64 s'], .int .i64 0]) ∧ Below w.heap.size w w' := by
  have A := Aside0.mk h0
  have A1 := Aside0.mk h1
  clear h0 h1
  have hu := Try.underlying27
  go_enter Try.func8, Try.ntmps8
  go_wp2_with fail
  refine (spin_Out.calls n s _ _ _ A.out).mono ?_
  rintro e w1 ⟨rfl, hb⟩
  have B0 := Aside0.mk (box0 hb)
  have B1 := Aside0.mk (box1 hb)
  have a0 : w1.cell? ⟨w.heap.size, 0, none⟩ = some (.int .i64 n) := blk_cell B0.out 0
  have a1 : w1.cell? ⟨w.heap.size, 1, none⟩ = some (.int .i64 s) := blk_cell B0.out 1
  have c0 : w1.cell? ⟨w.heap.size + 1, 0, none⟩ = some (.int .i64 0) := blk_cell B1.out 0
  have c1 : w1.cell? ⟨w.heap.size + 1, 1, none⟩ = some (.int .i64 0) := blk_cell B1.out 1
  have f0 : w1.frozen? ⟨w.heap.size + 1, 0, none⟩ = false := blk_frozen B1.out 0
  have f1 : w1.frozen? ⟨w.heap.size + 1, 1, none⟩ = false := blk_frozen B1.out 1
  have hz : w.heap.size + 1 < w1.heap.size := by have := hb.size; simp at this; omega
  go_wp2_with (first | (go_at_call 22; refine (word_Add.calls 1 s 1 _ _ _ A1.out).mono ?_; rintro e w' ⟨rfl, ⟨nd, rfl⟩⟩) | go_in)
  go_end0
  go_wp2
  refine bodyPost_ret (results_ct rfl _ _ (w.heap.size + 1) 27 #[.int .i64 n, .int .i64 s'] (0, 0) _ rfl (blk_put (blk_put (blk_far (blk_drewN (blk_alloc B1.out _) nd) (p := ⟨w1.heap.size, 1, none⟩) (Nat.ne_of_lt hz) _) 0 _ rfl) 1 _ rfl) Try.underlying27 rfl (by kernel_rfl)) rfl ⟨rfl, ?_⟩
  exact (((pw_below_drewN ((fin2 hb).alloc (by omega) _) nd).setCell (by simp; omega) _).setCell (by simp) _).setCell (by simp) _

set_option maxHeartbeats 1000000 in
set_option maxRecDepth 100000 in
/-- The deferred closure of Draw: the next number goes up by one, and the ticket is told. -/
theorem Draw_closure (n s n' q : Int) (d p g : Nat) (u : FrameMode) (w : World) (h1 : word_Add.f 1 n 1 = some (n', q)) (hd0 : w.heap[d]? = some (.cells #[.int .i64 n, .int .i64 s] 49 (0, 0))) (hp0 : w.heap[p]? = some (.cells #[.pointer (some ⟨d, 0, none⟩)] 47 (0, 0)))
    (v0 v1 : Value) (hg0 : w.heap[g]? = some (.cells #[v0, v1] 27 (0, 0))) (B : Nat) (hBd : B ≤ d) (hBg : B ≤ g) :
    CallsD Try.prog 19 #[.pointer (some ⟨p, 0, none⟩), .pointer (some ⟨g, 0, none⟩)] u w fun e u' w' => u' = u ∧ (e = .returned (.tuple #[]) ∧ w'.heap[g]? = some (.cells #[.int .i64 n', .int .i64 s] 27 (0, 0)) ∧ Below B w w') := by
  have A1 := Aside0.mk h1
  have hdg : d ≠ g := blk_ne hd0 hg0 (by decide)
  have hdp : d ≠ p := blk_ne hd0 hp0 (by decide)
  have hpg : p ≠ g := blk_ne hp0 hg0 (by decide)
  have Hd := Aside0.mk hd0
  have Hg := Aside0.mk hg0
  have a0 : w.cell? ⟨d, 0, none⟩ = some (.int .i64 n) := blk_cell hd0 0
  have a1 : w.cell? ⟨d, 1, none⟩ = some (.int .i64 s) := blk_cell hd0 1
  have b0 : w.cell? ⟨p, 0, none⟩ = some (.pointer (some ⟨d, 0, none⟩)) := blk_cell hp0 0
  have c0 : w.cell? ⟨g, 0, none⟩ = some v0 := blk_cell hg0 0
  have c1 : w.cell? ⟨g, 1, none⟩ = some v1 := blk_cell hg0 1
  have f0 : w.frozen? ⟨d, 0, none⟩ = false := blk_frozen hd0 0
  have g0 : w.frozen? ⟨g, 0, none⟩ = false := blk_frozen hg0 0
  have g1 : w.frozen? ⟨g, 1, none⟩ = false := blk_frozen hg0 1
  have hu := Try.underlying27
  clear h1 hd0 hp0 hg0
  go_enter_d Try.func19, Try.ntmps19
  go_wp2_with (first | (go_at_call 22; refine (word_Add.calls 1 n 1 _ _ _ A1.out).mono ?_; rintro e w' ⟨rfl, ⟨nd, rfl⟩⟩) | go_in)
  go_end0
  go_wp2
  go_end0
  exact ⟨rfl, blk_put (blk_put (blk_far (blk_drewN Hg.out nd) (p := ⟨d, 0, none⟩) hdg.symm _) 0 _ rfl) 1 _ rfl, (((pw_below_drewN (Below.refl B w) nd).setCell hBd _).setCell hBg _).setCell hBg _⟩

set_option maxHeartbeats 1000000 in
set_option maxRecDepth 100000 in
theorem Draw_good (n s o n' q : Int) (w : World) (h0 : spin_Out.f n s = some (o, 0)) (ho : (o == 4294967295) = false) (h1 : word_Add.f 1 n 1 = some (n', q)) :
    Calls Try.prog 7 #[.agg #[.int .i64 n, .int .i64 s]] w fun e w' => e = .returned (.tuple #[.agg #[.int .i64 n', .int .i64 s], .int .i64 n, .int .i64 0]) ∧ Below w.heap.size w w' := by
  have A := Aside0.mk h0
  have A1 := Aside0.mk h1
  clear h0 h1
  have hu := Try.underlying27
  have hmf : ∀ (fn : Fn) (first cap : Array Value) (w : World), (Instr.makeFunc fn first cap).run Try.prog w = .ok (.func fn first cap) w := fun _ _ _ _ => rfl
  go_enter_defers Try.func7, Try.ntmps7
  go_wp2_with fail
  refine (spin_Out.calls n s _ _ _ A.out).mono ?_
  rintro e w1 ⟨rfl, hb⟩
  have B0 := Aside0.mk (box0 hb)
  have B1 := Aside0.mk (box1 hb)
  have a0 : w1.cell? ⟨w.heap.size, 0, none⟩ = some (.int .i64 n) := blk_cell B0.out 0
  have a1 : w1.cell? ⟨w.heap.size, 1, none⟩ = some (.int .i64 s) := blk_cell B0.out 1
  have c0 : w1.cell? ⟨w.heap.size + 1, 0, none⟩ = some (.int .i64 0) := blk_cell B1.out 0
  have c1 : w1.cell? ⟨w.heap.size + 1, 1, none⟩ = some (.int .i64 0) := blk_cell B1.out 1
  have f0 : w1.frozen? ⟨w.heap.size + 1, 0, none⟩ = false := blk_frozen B1.out 0
  have f1 : w1.frozen? ⟨w.heap.size + 1, 1, none⟩ = false := blk_frozen B1.out 1
  have hz : w.heap.size + 1 < w1.heap.size := by have := hb.size; simp at this; omega
  go_wp2
  have C0 := Aside0.mk (blk_alloc (blk_alloc B0.out (.cells #[.int .i64 n, .int .i64 s] 49)) (.cells #[.pointer (some ⟨w1.heap.size, 0, none⟩)] 47))
  have C1 := Aside0.mk (blk_alloc (blk_alloc B1.out (.cells #[.int .i64 n, .int .i64 s] 49)) (.cells #[.pointer (some ⟨w1.heap.size, 0, none⟩)] 47))
  have C2 := Aside0.mk (blk_alloc (blk_new w1 (.cells #[.int .i64 n, .int .i64 s] 49)) (.cells #[.pointer (some ⟨w1.heap.size, 0, none⟩)] 47))
  have C3 : Aside0 (((w1.alloc (.cells #[.int .i64 n, .int .i64 s] 49)).alloc (.cells #[.pointer (some ⟨w1.heap.size, 0, none⟩)] 47)).heap[w1.heap.size + 1]? = some (.cells #[.pointer (some ⟨w1.heap.size, 0, none⟩)] 47 (0, 0))) := Aside0.mk (by have := blk_new (w1.alloc (.cells #[.int .i64 n, .int .i64 s] 49)) (.cells #[.pointer (some ⟨w1.heap.size, 0, none⟩)] 47); simpa using this)
  have HB := Aside0.mk (((fin2 hb).alloc (by omega) (.cells #[.int .i64 n, .int .i64 s] 49)).alloc (by simp; omega) (.cells #[.pointer (some ⟨w1.heap.size, 0, none⟩)] 47))
  generalize ((w1.alloc (.cells #[.int .i64 n, .int .i64 s] 49)).alloc (.cells #[.pointer (some ⟨w1.heap.size, 0, none⟩)] 47)) = W2 at *
  clear a0 a1 c0 c1 f0 f1
  have a0 : W2.cell? ⟨w.heap.size, 0, none⟩ = some (.int .i64 n) := blk_cell C0.out 0
  have a1 : W2.cell? ⟨w.heap.size, 1, none⟩ = some (.int .i64 s) := blk_cell C0.out 1
  have c0 : W2.cell? ⟨w.heap.size + 1, 0, none⟩ = some (.int .i64 0) := blk_cell C1.out 0
  have c1 : W2.cell? ⟨w.heap.size + 1, 1, none⟩ = some (.int .i64 0) := blk_cell C1.out 1
  have f0 : W2.frozen? ⟨w.heap.size + 1, 0, none⟩ = false := blk_frozen C1.out 0
  have f1 : W2.frozen? ⟨w.heap.size + 1, 1, none⟩ = false := blk_frozen C1.out 1
  go_region
  all_goals go_wp2
  all_goals
    have n1 : w1.heap.size ≠ w.heap.size + 1 := by omega
    have n2 : w1.heap.size + 1 ≠ w.heap.size + 1 := by omega
    have D2 := Aside0.mk (blk_drew (blk_far (blk_far C2.out (p := ⟨w.heap.size + 1, 0, none⟩) n1 (.int .i64 n)) (p := ⟨w.heap.size + 1, 1, none⟩) n1 (.int .i64 s)))
    have D3 := Aside0.mk (blk_drew (blk_far (blk_far C3.out (p := ⟨w.heap.size + 1, 0, none⟩) n2 (.int .i64 n)) (p := ⟨w.heap.size + 1, 1, none⟩) n2 (.int .i64 s)))
    have D1 := Aside0.mk (blk_drew (blk_put (blk_put C1.out 0 (.int .i64 n) rfl) 1 (.int .i64 s) rfl))
    have HB2 := Aside0.mk (below_drew ((HB.out.setCell (p := ⟨w.heap.size + 1, 0, none⟩) (by simp) (.int .i64 n)).setCell (p := ⟨w.heap.size + 1, 1, none⟩) (by simp) (.int .i64 s)))
    refine leaves_cons (f := 19) (args := #[.pointer (some ⟨w1.heap.size + 1, 0, none⟩), .pointer (some ⟨w.heap.size + 1, 0, none⟩)]) (by simp) (by simp [go_sem]) ?_
    refine (Draw_closure n s n' q w1.heap.size (w1.heap.size + 1) (w.heap.size + 1) _ _ A1.out D2.out D3.out _ _ D1.out w.heap.size (by omega) (by omega)).mono ?_
    rintro e u' w2 ⟨rfl, rfl, hblk, hbel⟩
    exact ⟨_, results_ctt rfl _ _ (w.heap.size + 1) 27 #[.int .i64 n', .int .i64 s] (0, 0) _ rfl hblk Try.underlying27 rfl (by kernel_rfl), rfl, HB2.out.trans hbel⟩

set_option maxHeartbeats 1000000 in
set_option maxRecDepth 100000 in
theorem Draw_bad (n s o b : Int) (w : World) (h0 : spin_Out.f n s = some (o, b)) (hb0 : (b != 0) = true) :
    Calls Try.prog 7 #[.agg #[.int .i64 n, .int .i64 s]] w fun e w' => e = .returned (.tuple #[.agg #[.int .i64 0, .int .i64 0], .int .i64 0, .int .i64 b]) ∧ Below w.heap.size w w' := by
  have A := Aside0.mk h0
  clear h0
  have hu := Try.underlying27
  go_enter_defers Try.func7, Try.ntmps7
  go_wp2_with fail
  refine (spin_Out.calls n s _ _ _ A.out).mono ?_
  rintro e w1 ⟨rfl, hb⟩
  have B1 := Aside0.mk (box1 hb)
  have c0 : w1.cell? ⟨w.heap.size + 1, 0, none⟩ = some (.int .i64 0) := blk_cell B1.out 0
  have c1 : w1.cell? ⟨w.heap.size + 1, 1, none⟩ = some (.int .i64 0) := blk_cell B1.out 1
  have f0 : w1.frozen? ⟨w.heap.size + 1, 0, none⟩ = false := blk_frozen B1.out 0
  have f1 : w1.frozen? ⟨w.heap.size + 1, 1, none⟩ = false := blk_frozen B1.out 1
  have hz : w.heap.size + 1 < w1.heap.size := by have := hb.size; simp at this; omega
  go_wp2
  exact ⟨_, results_ctt rfl _ _ (w.heap.size + 1) 27 #[.int .i64 0, .int .i64 0] (0, 0) _ rfl (blk_put (blk_put B1.out 0 _ rfl) 1 _ rfl) Try.underlying27 rfl (by kernel_rfl), rfl, ((fin2 hb).setCell (by simp) _).setCell (by simp) _⟩

set_option maxHeartbeats 1000000 in
set_option maxRecDepth 100000 in
theorem Draw_full (n s : Int) (w : World) (h0 : spin_Out.f n s = some (4294967295, 0)) :
    Calls Try.prog 7 #[.agg #[.int .i64 n, .int .i64 s]] w fun e w' => e = .returned (.tuple #[.agg #[.int .i64 0, .int .i64 0], .int .i64 0, .int .i64 5]) ∧ Below w.heap.size w w' := by
  have A := Aside0.mk h0
  clear h0
  have hu := Try.underlying27
  go_enter_defers Try.func7, Try.ntmps7
  go_wp2_with fail
  refine (spin_Out.calls n s _ _ _ A.out).mono ?_
  rintro e w1 ⟨rfl, hb⟩
  have B1 := Aside0.mk (box1 hb)
  have c0 : w1.cell? ⟨w.heap.size + 1, 0, none⟩ = some (.int .i64 0) := blk_cell B1.out 0
  have c1 : w1.cell? ⟨w.heap.size + 1, 1, none⟩ = some (.int .i64 0) := blk_cell B1.out 1
  have f0 : w1.frozen? ⟨w.heap.size + 1, 0, none⟩ = false := blk_frozen B1.out 0
  have f1 : w1.frozen? ⟨w.heap.size + 1, 1, none⟩ = false := blk_frozen B1.out 1
  have hz : w.heap.size + 1 < w1.heap.size := by have := hb.size; simp at this; omega
  go_wp2
  exact ⟨_, results_ctt rfl _ _ (w.heap.size + 1) 27 #[.int .i64 0, .int .i64 0] (0, 0) _ rfl (blk_put (blk_put B1.out 0 _ rfl) 1 _ rfl) Try.underlying27 rfl (by kernel_rfl), rfl, ((fin2 hb).setCell (by simp) _).setCell (by simp) _⟩

/-! ### what the three tell -/
def spin_Draw.f (a0_0 : Int) (a0_1 : Int) : Option (Int × Int × Int × Int) := (spin_Out.f a0_0 a0_1).bind fun t => (if t.2 = 0 then (if t.1 = 4294967295 then (some (0, 0, 0, 5)) else ((word_Add.f 1 a0_0 1).bind fun u => (some (u.1, a0_1, a0_0, 0)))) else (some (0, 0, 0, t.2)))
theorem spin_Draw.calls (a0_0 : Int) (a0_1 : Int) (r1 : Int) (r2 : Int) (r3 : Int) (r4 : Int) (w : World) (h : spin_Draw.f a0_0 a0_1 = some (r1, r2, r3, r4)) :
    Calls Try.prog 7 #[.agg #[.int .i64 a0_0, .int .i64 a0_1]] w fun e w' => e = .returned (.tuple #[.agg #[.int .i64 r1, .int .i64 r2], .int .i64 r3, .int .i64 r4]) ∧ Below w.heap.size w w' := by
  obtain ⟨⟨o, b⟩, ho, h⟩ := Option.bind_eq_some_iff.mp h
  by_cases hb : b = 0
  · subst hb
    simp only [if_true] at h
    by_cases hf : o = 4294967295
    · subst hf
      simp only [if_true, Option.some.injEq, Prod.mk.injEq] at h
      obtain ⟨rfl, rfl, rfl, rfl⟩ := h
      exact Draw_full a0_0 a0_1 w ho
    · rw [if_neg hf] at h
      obtain ⟨⟨n', q⟩, hq, h⟩ := Option.bind_eq_some_iff.mp h
      simp only [Option.some.injEq, Prod.mk.injEq] at h
      obtain ⟨rfl, rfl, rfl, rfl⟩ := h
      exact Draw_good a0_0 a0_1 o n' q w ho (beq_eq_false_iff_ne.2 hf) hq
  · simp only [if_neg hb, Option.some.injEq, Prod.mk.injEq] at h
    obtain ⟨rfl, rfl, rfl, rfl⟩ := h
    exact Draw_bad a0_0 a0_1 o b w ho (bne_iff_ne.2 hb)

def spin_Done.f (a0_0 : Int) (a0_1 : Int) : Option (Int × Int × Int) := (spin_Out.f a0_0 a0_1).bind fun t => (if t.2 = 0 then (if t.1 = 0 then (some (0, 0, 6)) else ((word_Add.f 1 a0_1 1).bind fun u => (some (a0_0, u.1, 0)))) else (some (0, 0, t.2)))
theorem spin_Done.calls (a0_0 : Int) (a0_1 : Int) (r1 : Int) (r2 : Int) (r3 : Int) (w : World) (h : spin_Done.f a0_0 a0_1 = some (r1, r2, r3)) :
    Calls Try.prog 8 #[.agg #[.int .i64 a0_0, .int .i64 a0_1]] w fun e w' => e = .returned (.tuple #[.agg #[.int .i64 r1, .int .i64 r2], .int .i64 r3]) ∧ Below w.heap.size w w' := by
  obtain ⟨⟨o, b⟩, ho, h⟩ := Option.bind_eq_some_iff.mp h
  by_cases hb : b = 0
  · subst hb
    simp only [if_true] at h
    by_cases hf : o = 0
    · subst hf
      simp only [if_true, Option.some.injEq, Prod.mk.injEq] at h
      obtain ⟨rfl, rfl, rfl⟩ := h
      exact Done_none a0_0 a0_1 w ho
    · rw [if_neg hf] at h
      obtain ⟨⟨s', q⟩, hq, h⟩ := Option.bind_eq_some_iff.mp h
      simp only [Option.some.injEq, Prod.mk.injEq] at h
      obtain ⟨rfl, rfl, rfl⟩ := h
      exact Done_good a0_0 a0_1 o s' q w ho (beq_eq_false_iff_ne.2 hf) hq
  · simp only [if_neg hb, Option.some.injEq, Prod.mk.injEq] at h
    obtain ⟨rfl, rfl, rfl⟩ := h
    exact Done_bad a0_0 a0_1 o b w ho (bne_iff_ne.2 hb)

def spin_Turn.f (a0_0 : Int) (a0_1 : Int) (a1 : Int) : Option (Bool × Int) := (spin_Right.f a0_0 a0_1).bind fun t => (if t = true then (some (a1 == a0_1, 0)) else (some (false, 1)))
theorem spin_Turn.calls (a0_0 : Int) (a0_1 : Int) (a1 : Int) (r1 : Bool) (r2 : Int) (w : World) (h : spin_Turn.f a0_0 a0_1 a1 = some (r1, r2)) :
    Calls Try.prog 10 #[.agg #[.int .i64 a0_0, .int .i64 a0_1], .int .i64 a1] w fun e w' => e = .returned (.tuple #[.bool r1, .int .i64 r2]) ∧ Below w.heap.size w w' := by
  obtain ⟨t, ht, h⟩ := Option.bind_eq_some_iff.mp h
  cases t with
  | true =>
    simp only [if_true, Option.some.injEq, Prod.mk.injEq] at h
    obtain ⟨rfl, rfl⟩ := h
    exact Turn_yes a0_0 a0_1 a1 w ht
  | false =>
    simp only [Bool.false_eq_true, if_false, Option.some.injEq, Prod.mk.injEq] at h
    obtain ⟨rfl, rfl⟩ := h
    exact Turn_no a0_0 a0_1 a1 w ht

end Go.Proofs.Ytokobpgpdddndaa.Hand
