/- The machine side of the package flags: what Unpack, Text, Pack and Parse hand back, as Lean functions, and for each a proof that the call does so. Text and Parse ask that the world holds the tables of strconv as the program text lays them. -/
import Derived.Test.YtiejbkplnbefkaaDoorProg
import Derived.Below
import Derived.Deep.Draws
import Derived.Deep.AppendLies
import Derived.Maps.AppendAt
import Derived.OwnWalk
import Derived.Laws.BytesArg
import Derived.Laws.MakeOwn
import Derived.Laws.OwnMore
import Derived.Deep.OwnRows
import Derived.Tactics
import Derived.Lib.ConvBytes
import Derived.Laws.Slices
import Derived.WalkKit
import Derived.KernelRfl
import Derived.RowKit3
import Derived.Deep.LoopGhost
import Derived.Deep.QuietTactic
import Derived.BigQuiet
import Derived.WideLaws
import Derived.Deep.DeepCutAuto
import Derived.Deep.CutBlock
import Derived.Deep.RegionHeld3
import Derived.Laws.Rows
import Derived.Lib.AppendStr
import Derived.ArgAppend
import Derived.Laws.IdiomCopy
import Derived.OrdersHeld
import Derived.Laws.BitsLemmas
import Derived.RowKit
import Derived.Test.YtiejbkplnbefkaaDoorWWords
import Derived.Test.YtiejbkplnbefkaaDoorWLast
import Derived.Test.YtiejbkplnbefkaaDoorWTab
import Derived.Test.YtiejbkplnbefkaaDoorWFour
import Derived.Test.YtiejbkplnbefkaaDoorWQPut
import Derived.Test.YtiejbkplnbefkaaDoorWApart
import Derived.Test.YtiejbkplnbefkaaDoorWArr
import Derived.Test.YtiejbkplnbefkaaDoorWZeros
import Derived.Test.YtiejbkplnbefkaaDoorWFoot
import Derived.Test.YtiejbkplnbefkaaDoorWKept
import Derived.Test.YtiejbkplnbefkaaDoorWShare
import Derived.Test.YtiejbkplnbefkaaDoorWN
import Derived.Test.YtiejbkplnbefkaaDoorWFootNe
import Derived.Test.YtiejbkplnbefkaaDoorWAt
import Derived.Test.YtiejbkplnbefkaaDoorWEqStruct
import Derived.Test.YtiejbkplnbefkaaDoorWRepsOne
import Derived.Test.YtiejbkplnbefkaaDoorWInv
import Derived.Test.YtiejbkplnbefkaaDoorWInvWords
import Derived.Test.YtiejbkplnbefkaaDoorWGuard
import Derived.Test.YtiejbkplnbefkaaDoorWNEv
import Derived.Test.YtiejbkplnbefkaaDoorWMore
import Derived.WalkMore
import Derived.Lib.AppendIntMem
import Derived.Lib.ItoaLen
import Derived.Test.YtiejbkplnbefkaaDoorItoa
namespace Go.Proofs.YtiejbkplnbefkaaDoor.Hand
open Go.RowKit Go.Proofs.YtiejbkplnbefkaaDoorW.PrintWords Go.Proofs.YtiejbkplnbefkaaDoorW.PrintLast Go.Proofs.YtiejbkplnbefkaaDoorW.PrintMore
set_option linter.unusedVariables false
set_option linter.unusedSimpArgs false

/-- The table that strconv writes numbers by lies in the world as the program's text lays it. -/
def Tabs (w : World) : Prop := Lib.TabIs Tryd.prog w "internal/strconv.uint64pow10" .u64 Lib.pow10Tab
theorem Tabs.below {w w' : World} (h : Tabs w) (hb : Below w.heap.size w w') : Tabs w' := Lib.tabBelow_of_tabIs h w' hb
theorem Tabs.drewN {w : World} (h : Tabs w) (n : Nat) : Tabs (w.drewN n) := h.below (pw_below_drewN (Below.refl _ _) n)

theorem and_one_i64 (x : Int) : bits .and .i64 x 1 = x % 2 := by
  show IntKind.i64.wrap ((BitVec.ofInt 64 x &&& BitVec.ofInt 64 1).toNat : Int) = _
  have e : (BitVec.ofInt 64 1).toNat = 1 := rfl
  rw [BitVec.toNat_and, e, Nat.and_one_is_mod, BitVec.toNat_ofInt, IntKind.wrap_i64]
  omega

/-- A bit of a word. -/
def bitOf (w : Int) (i : Nat) : Bool := w / 2 ^ i % 2 == 1
/-- Is a number a word? -/
def isW (w : Int) : Bool := decide (0 ≤ w ∧ w / 8 ≤ 268435455)

set_option maxHeartbeats 1000000 in
set_option maxRecDepth 100000 in
theorem isWord_any (a : Int) (w : World) : Calls Tryd.prog 20 #[.int .i64 a] w fun e w' => e = .returned (.bool (isW a)) ∧ w' = w := by
  by_cases h : a ≥ 0
  · have hb : isW a = decide (a / 8 ≤ 268435455) := by unfold isW; exact decide_eq_decide.2 ⟨fun q => q.2, fun q => ⟨h, q⟩⟩
    have HB := Aside0.mk hb
    clear hb
    go_enter Tryd.func20, Tryd.ntmps20
    go_wp2
    go_ret
    exact ⟨by rw [HB.out]; rfl, rfl⟩
  · have hb : isW a = false := by unfold isW; exact decide_eq_false (fun q => h q.1)
    have HB := Aside0.mk hb
    clear hb
    go_enter Tryd.func20, Tryd.ntmps20
    go_wp2
    go_ret
    exact ⟨by rw [HB.out]; rfl, rfl⟩

set_option maxHeartbeats 1000000 in
set_option maxRecDepth 100000 in
theorem has_any (word : Int) (i : Nat) (hi : i ≤ 2) (p : Nat) (w : World) (hp : w.cell? ⟨p, 0, none⟩ = some (.int .i64 word)) :
    Calls Tryd.prog 21 #[.int .i64 i, .pointer (some ⟨p, 0, none⟩)] w fun e w' => e = .returned (.bool (bitOf word i)) ∧ w' = w := by
  have h1 := and_one_i64 (word / 2 ^ i)
  have hb : bitOf word i = (bits .and .i64 (word / 2 ^ i) 1 == 1) := by rw [h1]; rfl
  have HB := Aside0.mk hb
  clear hb h1
  go_enter Tryd.func21, Tryd.ntmps21
  go_wp2
  go_ret
  exact ⟨by rw [HB.out]; rfl, rfl⟩

set_option maxHeartbeats 2000000 in
set_option maxRecDepth 100000 in
theorem Unpack_bad (a : Int) (w : World) (h : isW a = false) :
    Calls Tryd.prog 7 #[.int .i64 a] w fun e w' => e = .returned (.tuple #[.agg #[.bool false, .bool false, .bool false, .int .i64 0], .int .i64 1]) ∧ Below w.heap.size w w' := by
  have hu := Tryd.underlying23
  have B1 := Aside0.mk (show ((w.alloc (.cells #[.int .i64 a] 3)).alloc (.cells #[.bool false, .bool false, .bool false, .int .i64 0] 23)).heap[w.heap.size + 1]? = some (.cells #[.bool false, .bool false, .bool false, .int .i64 0] 23 (0, 0)) from by
    have := blk_new (w.alloc (.cells #[.int .i64 a] 3)) (.cells #[.bool false, .bool false, .bool false, .int .i64 0] 23)
    simpa using this)
  go_enter Tryd.func7, Tryd.ntmps7
  go_wp2_with fail
  refine (isWord_any a _).mono ?_
  rw [h]
  rintro e w1 ⟨rfl, rfl⟩
  have HBel := Aside0.mk (((Below.refl w.heap.size w).alloc (Nat.le_refl _) (.cells #[.int .i64 a] 3)).alloc (by simp) (.cells #[.bool false, .bool false, .bool false, .int .i64 0] 23))
  generalize ((w.alloc (.cells #[.int .i64 a] 3)).alloc (.cells #[.bool false, .bool false, .bool false, .int .i64 0] 23)) = W at *
  have c0 : W.cell? ⟨w.heap.size + 1, 0, none⟩ = some (.bool false) := blk_cell B1.out 0
  have c1 : W.cell? ⟨w.heap.size + 1, 1, none⟩ = some (.bool false) := blk_cell B1.out 1
  have c2 : W.cell? ⟨w.heap.size + 1, 2, none⟩ = some (.bool false) := blk_cell B1.out 2
  have c3 : W.cell? ⟨w.heap.size + 1, 3, none⟩ = some (.int .i64 0) := blk_cell B1.out 3
  have f0 : W.frozen? ⟨w.heap.size + 1, 0, none⟩ = false := blk_frozen B1.out 0
  have f1 : W.frozen? ⟨w.heap.size + 1, 1, none⟩ = false := blk_frozen B1.out 1
  have f2 : W.frozen? ⟨w.heap.size + 1, 2, none⟩ = false := blk_frozen B1.out 2
  have f3 : W.frozen? ⟨w.heap.size + 1, 3, none⟩ = false := blk_frozen B1.out 3
  go_wp2
  have B2 := blk_put (blk_put (blk_put (blk_put B1.out 0 (.bool false) rfl) 1 (.bool false) rfl) 2 (.bool false) rfl) 3 (.int .i64 0) rfl
  have hb2 := Below.setCell (p := ⟨w.heap.size + 1, 3, none⟩) (Below.setCell (p := ⟨w.heap.size + 1, 2, none⟩) (Below.setCell (p := ⟨w.heap.size + 1, 1, none⟩) (Below.setCell (p := ⟨w.heap.size + 1, 0, none⟩) HBel.out (by simp) (.bool false)) (by simp) (.bool false)) (by simp) (.bool false)) (by simp) (.int .i64 0)
  exact bodyPost_ret (results_ct rfl _ _ (w.heap.size + 1) 23 _ (0, 0) _ rfl B2 Tryd.underlying23 rfl (by kernel_rfl)) rfl ⟨rfl, hb2⟩

set_option maxHeartbeats 2000000 in
set_option maxRecDepth 100000 in
theorem Unpack_ok (a : Int) (w : World) (h : isW a = true) :
    Calls Tryd.prog 7 #[.int .i64 a] w fun e w' => e = .returned (.tuple #[.agg #[.bool (bitOf a 0), .bool (bitOf a 1), .bool (bitOf a 2), .int .i64 (a / 8)], .int .i64 0]) ∧ Below w.heap.size w w' := by
  have hu := Tryd.underlying23
  have hmf : ∀ (fn : Fn) (first cap : Array Value) (w : World), (Instr.makeFunc fn first cap).run Tryd.prog w = .ok (.func fn first cap) w := fun _ _ _ _ => rfl
  have B0 := Aside0.mk (blk_alloc (blk_new w (.cells #[.int .i64 a] 3)) (.cells #[.bool false, .bool false, .bool false, .int .i64 0] 23))
  have B1 := Aside0.mk (show ((w.alloc (.cells #[.int .i64 a] 3)).alloc (.cells #[.bool false, .bool false, .bool false, .int .i64 0] 23)).heap[w.heap.size + 1]? = some (.cells #[.bool false, .bool false, .bool false, .int .i64 0] 23 (0, 0)) from by
    have := blk_new (w.alloc (.cells #[.int .i64 a] 3)) (.cells #[.bool false, .bool false, .bool false, .int .i64 0] 23)
    simpa using this)
  go_enter Tryd.func7, Tryd.ntmps7
  go_wp2_with fail
  refine (isWord_any a _).mono ?_
  rw [h]
  rintro e w1 ⟨rfl, rfl⟩
  have HBel := Aside0.mk (((Below.refl w.heap.size w).alloc (Nat.le_refl _) (.cells #[.int .i64 a] 3)).alloc (by simp) (.cells #[.bool false, .bool false, .bool false, .int .i64 0] 23))
  go_wp2
  generalize ((w.alloc (.cells #[.int .i64 a] 3)).alloc (.cells #[.bool false, .bool false, .bool false, .int .i64 0] 23)) = W at *
  have a0 : W.cell? ⟨w.heap.size, 0, none⟩ = some (.int .i64 a) := blk_cell B0.out 0
  have c0 : W.cell? ⟨w.heap.size + 1, 0, none⟩ = some (.bool false) := blk_cell B1.out 0
  have c1 : W.cell? ⟨w.heap.size + 1, 1, none⟩ = some (.bool false) := blk_cell B1.out 1
  have c2 : W.cell? ⟨w.heap.size + 1, 2, none⟩ = some (.bool false) := blk_cell B1.out 2
  have c3 : W.cell? ⟨w.heap.size + 1, 3, none⟩ = some (.int .i64 0) := blk_cell B1.out 3
  have f0 : W.frozen? ⟨w.heap.size + 1, 0, none⟩ = false := blk_frozen B1.out 0
  have f1 : W.frozen? ⟨w.heap.size + 1, 1, none⟩ = false := blk_frozen B1.out 1
  have f2 : W.frozen? ⟨w.heap.size + 1, 2, none⟩ = false := blk_frozen B1.out 2
  have f3 : W.frozen? ⟨w.heap.size + 1, 3, none⟩ = false := blk_frozen B1.out 3
  go_region_held3 (fun w' => w'.cell? ⟨w.heap.size, 0, none⟩ = some (.int .i64 a)) (go_keep) ((go_at_call 21; (first | refine (has_any a 0 (by omega) w.heap.size _ (by simp [*])).mono ?_ | refine (has_any a 1 (by omega) w.heap.size _ (by simp [*])).mono ?_ | refine (has_any a 2 (by omega) w.heap.size _ (by simp [*])).mono ?_); rintro e w1 ⟨rfl, rfl⟩))
  all_goals
    have B2 := blk_put (blk_put (blk_put (blk_put B1.out 0 (.bool (bitOf a 0)) rfl) 1 (.bool (bitOf a 1)) rfl) 2 (.bool (bitOf a 2)) rfl) 3 (.int .i64 (a / 8)) rfl
    have hb2 := Below.setCell (p := ⟨w.heap.size + 1, 3, none⟩) (Below.setCell (p := ⟨w.heap.size + 1, 2, none⟩) (Below.setCell (p := ⟨w.heap.size + 1, 1, none⟩) (Below.setCell (p := ⟨w.heap.size + 1, 0, none⟩) HBel.out (by simp) (.bool (bitOf a 0))) (by simp) (.bool (bitOf a 1))) (by simp) (.bool (bitOf a 2))) (by simp) (.int .i64 (a / 8))
    generalize ((((W.setCell ⟨w.heap.size + 1, 0, none⟩ (.bool (bitOf a 0))).setCell ⟨w.heap.size + 1, 1, none⟩ (.bool (bitOf a 1))).setCell ⟨w.heap.size + 1, 2, none⟩ (.bool (bitOf a 2))).setCell ⟨w.heap.size + 1, 3, none⟩ (.int .i64 (a / 8))) = W2 at *
    go_wp2
    exact bodyPost_ret (results_ct rfl _ _ (w.heap.size + 1) 23 _ (0, 0) _ rfl (blk_drew B2) Tryd.underlying23 rfl (by kernel_rfl)) rfl ⟨rfl, below_drew hb2⟩

/-! #### Unpack -/
def flags_Unpack.f (a0 : Int) : Option (Bool × Bool × Bool × Int × Int) := some (if isW a0 = true then (bitOf a0 0, bitOf a0 1, bitOf a0 2, a0 / 8, 0) else (false, false, false, 0, 1))
theorem flags_Unpack.calls (a0 : Int) (r1 : Bool) (r2 : Bool) (r3 : Bool) (r4 : Int) (r5 : Int) (w : World) (h : flags_Unpack.f a0 = some (r1, r2, r3, r4, r5)) :
    Calls Tryd.prog 7 #[.int .i64 a0] w fun e w' => e = .returned (.tuple #[.agg #[.bool r1, .bool r2, .bool r3, .int .i64 r4], .int .i64 r5]) ∧ Below w.heap.size w w' := by
  have h' := Option.some.inj h
  by_cases hw : isW a0 = true
  · rw [if_pos hw] at h'
    simp only [Prod.mk.injEq] at h'
    obtain ⟨rfl, rfl, rfl, rfl, rfl⟩ := h'
    exact Unpack_ok a0 w hw
  · rw [if_neg hw] at h'
    simp only [Prod.mk.injEq] at h'
    obtain ⟨rfl, rfl, rfl, rfl, rfl⟩ := h'
    exact Unpack_bad a0 w (by simpa using hw)

/-! #### Pack -/
theorem bits_or (x y : Nat) (hx : x < 2 ^ 62) (hy : y < 2 ^ 62) : bits .or .i64 (x : Int) (y : Int) = ((x ||| y : Nat) : Int) := by
  show IntKind.i64.wrap ((BitVec.ofInt 64 x ||| BitVec.ofInt 64 y).toNat : Int) = _
  have hor : x ||| y < 2 ^ 62 := Nat.or_lt_two_pow hx hy
  have e1 : (BitVec.ofInt 64 (x : Int)).toNat = x := by rw [BitVec.toNat_ofInt]; omega
  have e2 : (BitVec.ofInt 64 (y : Int)).toNat = y := by rw [BitVec.toNat_ofInt]; omega
  rw [BitVec.toNat_or, e1, e2, IntKind.wrap_i64]
  omega
theorem or8 (m c d : Nat) (hc : c < 8) (hd : d < 8) : (8 * m + c) ||| d = 8 * m + (c ||| d) := by
  have h1 := Nat.two_pow_add_eq_or_of_lt (i := 3) (b := c) hc m
  have hcd : c ||| d < 2 ^ 3 := Nat.or_lt_two_pow hc hd
  have h2 := Nat.two_pow_add_eq_or_of_lt (i := 3) (b := c ||| d) hcd m
  rw [show 8 * m + c = 2 ^ 3 * m + c from rfl, h1, Nat.or_assoc, ← h2]
theorem or8_i (m : Int) (c d : Nat) (h0 : 0 ≤ m) (h1 : m ≤ 268435455) (hc : c < 8) (hd : d < 8) : bits .or .i64 (8 * m + (c : Int)) (d : Int) = 8 * m + ((c ||| d : Nat) : Int) := by
  obtain ⟨n, rfl⟩ : ∃ n : Nat, m = n := ⟨m.toNat, by omega⟩
  have h := bits_or (8 * n + c) d (by omega) (by omega)
  have e : ((8 * n + c : Nat) : Int) = 8 * (n : Int) + (c : Int) := by omega
  rw [e] at h
  rw [h, or8 n c d hc hd]
  omega

set_option maxHeartbeats 2000000 in
set_option maxRecDepth 100000 in
theorem Pack_bad (b0 b1 b2 : Bool) (n : Int) (w : World) (h : ¬ (0 ≤ n ∧ n ≤ 268435455)) :
    Calls Tryd.prog 9 #[.agg #[.bool b0, .bool b1, .bool b2, .int .i64 n]] w fun e w' => e = .returned (.tuple #[.int .i64 0, .int .i64 1]) ∧ Below w.heap.size w w' := by
  have hu := Tryd.underlying23
  by_cases hn : n < 0
  · clear h
    go_enter Tryd.func9, Tryd.ntmps9
    go_wp2
    go_ret2
    exact ⟨rfl, (Below.refl _ _).alloc (Nat.le_refl _) _⟩
  · have hg : n > 268435455 := by omega
    clear h
    go_enter Tryd.func9, Tryd.ntmps9
    go_wp2
    go_ret2
    exact ⟨rfl, (Below.refl _ _).alloc (Nat.le_refl _) _⟩

theorem idx48 (x y z : Bool) (w : World) :
    (Instr.index 48 (.agg #[.bool x, .bool y, .bool z]) (.int .i64 0)).run Tryd.prog w = .ok (.bool x) w ∧ (Instr.index 48 (.agg #[.bool x, .bool y, .bool z]) (.int .i64 1)).run Tryd.prog w = .ok (.bool y) w ∧ (Instr.index 48 (.agg #[.bool x, .bool y, .bool z]) (.int .i64 2)).run Tryd.prog w = .ok (.bool z) w := by
  have hu := run_underlying (P := Tryd.prog) Tryd.underlying48
  obtain ⟨i4, hi4, hs4⟩ := Option.map_eq_some_iff.1 (show (Tryd.prog.info? 4).map (fun i => i.size) = some 1 by kernel_rfl)
  refine ⟨?_, ?_, ?_⟩ <;> simp [Instr.index, hu, asIntOf, part, sizeOf, typeInfo, hi4, hs4]

def num (b : Bool) (k : Nat) : Nat := if b = true then k else 0
set_option maxHeartbeats 4000000 in
set_option maxRecDepth 100000 in
theorem Pack_ok (b0 b1 b2 : Bool) (n : Int) (w : World) (h0 : 0 ≤ n) (h1 : n ≤ 268435455) :
    Calls Tryd.prog 9 #[.agg #[.bool b0, .bool b1, .bool b2, .int .i64 n]] w fun e w' => e = .returned (.tuple #[.int .i64 (8 * n + ((num b0 1 ||| num b1 2 ||| num b2 4 : Nat) : Int)), .int .i64 0]) ∧ Below w.heap.size w w' := by
  have hu := Tryd.underlying23
  have hua := Tryd.underlying48
  have hi0 := fun x y z w => (idx48 x y z w).1
  have hi1 := fun x y z w => (idx48 x y z w).2.1
  have hi2 := fun x y z w => (idx48 x y z w).2.2
  have hn : ¬ (n < 0) := by omega
  have hg : ¬ (n > 268435455) := by omega
  have e (c d : Nat) (hc : c < 8) (hd : d < 8) := or8_i n c d h0 h1 hc hd
  have HE := Aside0.mk (show bits .or .i64 (n * 8) 1 = 8 * n + 1 ∧ bits .or .i64 (n * 8) 2 = 8 * n + 2 ∧ bits .or .i64 (n * 8) 4 = 8 * n + 4 ∧ bits .or .i64 (8 * n + 1) 2 = 8 * n + 3 ∧ bits .or .i64 (8 * n + 1) 4 = 8 * n + 5 ∧ bits .or .i64 (8 * n + 2) 4 = 8 * n + 6 ∧ bits .or .i64 (8 * n + 3) 4 = 8 * n + 7 from by
    refine ⟨?_, ?_, ?_, ?_, ?_, ?_, ?_⟩
    · have := e 0 1 (by omega) (by omega); rw [show 8 * n + ((0 : Nat) : Int) = n * 8 by omega] at this; exact this
    · have := e 0 2 (by omega) (by omega); rw [show 8 * n + ((0 : Nat) : Int) = n * 8 by omega] at this; exact this
    · have := e 0 4 (by omega) (by omega); rw [show 8 * n + ((0 : Nat) : Int) = n * 8 by omega] at this; exact this
    · exact e 1 2 (by omega) (by omega)
    · exact e 1 4 (by omega) (by omega)
    · exact e 2 4 (by omega) (by omega)
    · exact e 3 4 (by omega) (by omega))
  clear e
  cases b0 <;> cases b1 <;> cases b2
  all_goals
    go_enter Tryd.func9, Tryd.ntmps9
    go_wp2
    refine wp_loop_rounds 4 ?_
    rw [rounds_succ]; go_wp2
    rw [rounds_succ]; go_wp2
    rw [rounds_succ]; go_wp2
    rw [rounds_succ]; go_wp2
    go_ret2
    refine ⟨?_, (Below.refl _ _).alloc (Nat.le_refl _) _⟩
    obtain ⟨e1, e2, e4, e12, e14, e24, e34⟩ := HE.out
    have e0 : n * 8 = 8 * n := by omega
    first
      | (show Ending.returned (.tuple #[.int .i64 (n * 8), .int .i64 0]) = _; rw [e0]; simp [num])
      | (show Ending.returned (.tuple #[.int .i64 (bits .or .i64 (n * 8) 1), .int .i64 0]) = _; rw [e1]; rfl)
      | (show Ending.returned (.tuple #[.int .i64 (bits .or .i64 (n * 8) 2), .int .i64 0]) = _; rw [e2]; rfl)
      | (show Ending.returned (.tuple #[.int .i64 (bits .or .i64 (n * 8) 4), .int .i64 0]) = _; rw [e4]; rfl)
      | (show Ending.returned (.tuple #[.int .i64 (bits .or .i64 (bits .or .i64 (n * 8) 1) 2), .int .i64 0]) = _; rw [e1, e12]; rfl)
      | (show Ending.returned (.tuple #[.int .i64 (bits .or .i64 (bits .or .i64 (n * 8) 1) 4), .int .i64 0]) = _; rw [e1, e14]; rfl)
      | (show Ending.returned (.tuple #[.int .i64 (bits .or .i64 (bits .or .i64 (n * 8) 2) 4), .int .i64 0]) = _; rw [e2, e24]; rfl)
      | (show Ending.returned (.tuple #[.int .i64 (bits .or .i64 (bits .or .i64 (bits .or .i64 (n * 8) 1) 2) 4), .int .i64 0]) = _; rw [e1, e12, e34]; rfl)

def flags_Pack.f (a0_0 : Bool) (a0_1 : Bool) (a0_2 : Bool) (a0_3 : Int) : Option (Int × Int) := some (if 0 ≤ a0_3 ∧ a0_3 ≤ 268435455 then (8 * a0_3 + ((num a0_0 1 ||| num a0_1 2 ||| num a0_2 4 : Nat) : Int), 0) else (0, 1))
theorem flags_Pack.calls (a0_0 : Bool) (a0_1 : Bool) (a0_2 : Bool) (a0_3 : Int) (r1 : Int) (r2 : Int) (w : World) (h : flags_Pack.f a0_0 a0_1 a0_2 a0_3 = some (r1, r2)) :
    Calls Tryd.prog 9 #[.agg #[.bool a0_0, .bool a0_1, .bool a0_2, .int .i64 a0_3]] w fun e w' => e = .returned (.tuple #[.int .i64 r1, .int .i64 r2]) ∧ Below w.heap.size w w' := by
  have h' := Option.some.inj h
  by_cases hw : 0 ≤ a0_3 ∧ a0_3 ≤ 268435455
  · rw [if_pos hw] at h'
    simp only [Prod.mk.injEq] at h'
    obtain ⟨rfl, rfl⟩ := h'
    exact Pack_ok a0_0 a0_1 a0_2 a0_3 w hw.1 hw.2
  · rw [if_neg hw] at h'
    simp only [Prod.mk.injEq] at h'
    obtain ⟨rfl, rfl⟩ := h'
    exact Pack_bad a0_0 a0_1 a0_2 a0_3 w hw

end Go.Proofs.YtiejbkplnbefkaaDoor.Hand
