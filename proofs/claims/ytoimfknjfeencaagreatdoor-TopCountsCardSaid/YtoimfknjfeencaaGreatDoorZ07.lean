/- Part of the walk of a law of the top, and what it leans on (LineHand, FlagsHand, Clock, Park, Park2, Park3, World, Table, Take). No conditions beyond those that each lemma names. -/
import Derived.Test.YtoimfknjfeencaaGreatDoorZ03
import Derived.Test.YtoimfknjfeencaaGreatDoorZ04
import Derived.Test.YtoimfknjfeencaaGreatDoorZ05
import Derived.Test.YtoimfknjfeencaaGreatDoorZ06
import Derived.ArgAppend
import Derived.Below
import Derived.BigQuiet
import Derived.Deep.AppendLies
import Derived.Deep.CutBlock
import Derived.Deep.DeepCutAuto
import Derived.Deep.Draws
import Derived.Deep.LoopGhost
import Derived.Deep.OwnRows
import Derived.Deep.QuietTactic
import Derived.Deep.RegionHeld3
import Derived.KernelRfl
import Derived.Laws.BitsLemmas
import Derived.Laws.BytesArg
import Derived.Laws.IdiomCopy
import Derived.Laws.MakeOwn
import Derived.Laws.OwnMore
import Derived.Laws.Rows
import Derived.Laws.Slices
import Derived.Laws.StructEq
import Derived.Lib.AppendStr
import Derived.Lib.ConvBytes
import Derived.Maps.AppendAt
import Derived.OrdersHeld
import Derived.OwnWalk
import Derived.RowKit
import Derived.RowKit3
import Derived.Tactics
import Derived.Test.YtoimfknjfeencaaGreatDoorProg
import Derived.WalkKit
import Derived.WalkMore
import Derived.WideLaws
import Derived.Lib.AppendIntMem
import Derived.Lib.ItoaLen
import Derived.Recover
import Derived.Laws.CopyOwn
import Derived.Laws.CopyRow
set_option linter.unusedVariables false
set_option linter.unusedSimpArgs false
set_option maxHeartbeats 8000000
set_option maxRecDepth 100000
section
namespace Go.Proofs.YtoimfknjfeencaaGreatDoor.Hand
open Go.RowKit Go.Proofs.YtoimfknjfeencaaGreatDoorW.PrintWords Go.Proofs.YtoimfknjfeencaaGreatDoorW.PrintLast Go.Proofs.YtoimfknjfeencaaGreatDoorW.PrintMore
def okLine (l : List Int) : Bool := decide (l.Nodup ∧ (∀ x ∈ l, 0 ≤ x) ∧ l.length ≤ 64)
def clean (l : List Int) (i : Nat) : Prop := (l.take i).Nodup ∧ ∀ x ∈ l.take i, 0 ≤ x
theorem rd_get (l : List Int) (i : Nat) (h : i < l.length) : rd l i = l[i] := by
 unfold rd
 rw [List.getD_eq_getElem?_getD, Int.toNat_natCast, List.getElem?_eq_getElem h]; rfl
theorem take_one (l : List Int) (i : Nat) (h : i < l.length) : l.take (i + 1) = l.take i ++ [rd l i] := by
 rw [List.take_succ_eq_append_getElem h, rd_get l i h]
theorem clean_zero (l : List Int) : clean l 0 := by simp [clean]
theorem mem_take_rd (l : List Int) (i : Nat) (hi : i ≤ l.length) (x : Int) (hx : x ∈ l.take i) : ∃ t, t < i ∧ rd l t = x := by
 obtain ⟨t, ht, he⟩ := List.getElem_of_mem hx
 have h1 : t < i := by rw [List.length_take] at ht; omega
 refine ⟨t, h1, ?_⟩
 rw [rd_get l t (by omega), ← he, List.getElem_take]
theorem clean_step (l : List Int) (i : Nat) (h : i < l.length) (hc : clean l i) (hd : ∀ t, t < i → ¬ rd l t = rd l i) (h0 : 0 ≤ rd l i) : clean l (i + 1) := by
 unfold clean
 rw [take_one l i h]
 refine ⟨?_, ?_⟩
 ·rw [List.nodup_append]
  refine ⟨hc.1, by simp, ?_⟩
  intro a ha b hb
  rw [List.mem_singleton.1 hb]
  obtain ⟨t, ht, he⟩ := mem_take_rd l i (by omega) a ha
  rw [← he]
  exact hd t ht
 ·intro x hx
  rcases List.mem_append.1 hx with hx | hx
  ·exact hc.2 x hx
  ·rw [List.mem_singleton.1 hx]; exact h0
theorem okLine_end (l : List Int) (hc : clean l l.length) : okLine l = decide (l.length ≤ 64) := by
 unfold clean at hc
 rw [List.take_length] at hc
 unfold okLine
 by_cases h : l.length ≤ 64
 ·rw [decide_eq_true h, decide_eq_true ⟨hc.1, hc.2, h⟩]
 ·rw [decide_eq_false h, decide_eq_false (fun q => h q.2.2)]
theorem okLine_dup (l : List Int) (t i : Nat) (ht : t < i) (hi : i < l.length) (he : rd l t = rd l i) : okLine l = false := by
 refine decide_eq_false (fun q => ?_)
 have hn := q.1
 rw [rd_get l t (by omega), rd_get l i hi] at he
 exact List.pairwise_iff_getElem.1 hn t i (by omega) hi ht he
theorem okLine_neg (l : List Int) (i : Nat) (hi : i < l.length) (h0 : rd l i < 0) : okLine l = false := by
 refine decide_eq_false (fun q => ?_)
 have := q.2.1 l[i] (List.getElem_mem hi)
 rw [rd_get l i hi] at h0
 omega
theorem lineRight_any (A : Option Addr) (c : Nat) (l : List Int) (w : World) (hC0 : Kd.C (Kd.int .i64) w A l.length l) (hc0 : l.length ≤ c) :
  Calls Tryz.prog 99 #[.slice A l.length c] w fun e w' => e = .returned (.bool (okLine l)) ∧ w' = w := by
 have hlen : l.length ≤ 9223372036854775807 := hC0.2.1
 have HC := ak_ hC0
 clear hC0
 go_enter Tryz.func99, Tryz.ntmps99
 go_wp2
 go_step3
 go_wp2
 go_step3
 go_wp2
 go_loopg [3, 4, 6, 9] l.length (fun g v3 v4 v6 v9 wx => wx = w ∧ ∃ i : Nat, i + g = l.length ∧ v9 = .int .i64 i ∧ Aside0 (clean l i))
 case atStart => exact ⟨rfl, 0, by omega, rfl, ⟨clean_zero l⟩⟩
 case round =>
  obtain ⟨rfl, i, hig, rfl, Hcl⟩ := hrel
  cases gk with
  | zero =>
   have hi : i = l.length := by omega
   have He := ak_ (okLine_end l (hi ▸ Hcl.out))
   clear Hcl
   have hnot : ¬ ((i : Int) < (l.length : Int)) := by omega
   clear hi
   go_wp2
   first | rw [Exit.noGoto_ret] | skip
   go_ret
   exact ⟨by rw [He.out]; simp; omega, rfl⟩
  | succ go =>
   have hlt : i < l.length := by omega
   obtain ⟨ad, rfl, hx⟩ := Kd.at_int HC.out (i : Int) (by omega) (by omega)
   have hil : (i : Int) < (l.length : Int) := by omega
   rw [Int.toNat_natCast] at hx
   obtain ⟨wo, rfl⟩ : ∃ wo : World, wo = wr := ⟨_, rfl⟩
   go_wp2
   go_loopg [6, 18] i (fun g v6 v18 wx => wx = wo ∧ ∃ j : Nat, j + g = i ∧ v18 = .int .i64 j ∧ Aside0 (∀ t : Nat, t < j → ¬ rd l t = rd l i))
   case atStart => exact ⟨rfl, 0, by omega, rfl, ⟨fun t ht => absurd ht (by omega)⟩⟩
   case round =>
    obtain ⟨rfl, j, hjg, rfl, Hd⟩ := hrel
    cases gk with
    | zero =>
     have hji : j = i := by omega
     have hnot : ¬ ((j : Int) < (i : Int)) := by omega
     by_cases h0 : 0 ≤ rd l i
     ·have Hs := ak_ (clean_step l i hlt Hcl.out (fun t ht => Hd.out t (by omega)) h0)
      clear hji
      go_wp2
      go_roundg go
      case rel => exact ⟨rfl, i + 1, by omega, by go_num, Hs⟩
      case measure => omega
     ·have Hs := ak_ (okLine_neg l i hlt (by omega))
      have h0' : ¬ (rd l i ≥ 0) := h0
      clear hji
      go_wp2
      first | rw [Exit.noGoto_ret] | skip
      go_ret
      exact ⟨by rw [Hs.out]; rfl, rfl⟩
    | succ g2 =>
     have hjlt : j < i := by omega
     obtain ⟨ad2, he2, hx2⟩ := Kd.at_int HC.out (j : Int) (by omega) (by omega)
     cases he2
     rw [Int.toNat_natCast] at hx2
     have hjl : (j : Int) < (i : Int) := by omega
     by_cases heq : rd l i = rd l j
     ·have Hs := ak_ (okLine_dup l j i hjlt hlt heq.symm)
      have hb : (rd l i != rd l j) = false := by rw [heq]; simp
      clear heq
      go_wp2
      first | rw [Exit.noGoto_ret] | skip
      go_ret
      exact ⟨by rw [Hs.out]; rfl, rfl⟩
     ·have hb : (rd l i != rd l j) = true := bne_iff_ne.2 heq
      have Hd2 := ak_ (show ∀ t : Nat, t < j + 1 → ¬ rd l t = rd l i from fun t ht => by
       by_cases h : t = j
       ·subst h; exact fun q => heq q.symm
       ·exact Hd.out t (by omega))
      clear heq
      go_wp2
      go_roundg g2
      case rel => exact ⟨rfl, j + 1, by omega, by go_num, Hd2⟩
      case measure => omega
def line_Right.f (l0 : List Int) : Option (Bool) := some (okLine l0)
theorem line_Right.calls (A0 : Option Addr) (c0 : Nat) (l0 : List Int) (r : Bool) (w : World) (hr0 : Kd.C (Kd.int .i64) w A0 l0.length l0) (hc0 : l0.length ≤ c0) (h : line_Right.f l0 = some r) :
  Calls Tryz.prog 99 #[.slice A0 l0.length c0] w fun e w' => e = .returned (.bool r) ∧ Drawn0 w w' := by
 obtain rfl := Option.some.inj h
 refine (lineRight_any A0 c0 l0 w hr0 hc0).mono ?_
 rintro e w' ⟨rfl, rfl⟩
 exact ⟨rfl, Drawn0.refl _⟩
theorem and_one_i64 (x : Int) : bits .and .i64 x 1 = x % 2 := by
 show IntKind.i64.wrap ((BitVec.ofInt 64 x &&& BitVec.ofInt 64 1).toNat : Int) = _
 have e : (BitVec.ofInt 64 1).toNat = 1 := rfl
 rw [BitVec.toNat_and, e, Nat.and_one_is_mod, BitVec.toNat_ofInt, IntKind.wrap_i64]
 omega
def bitOf (w : Int) (i : Nat) : Bool := w / 2 ^ i % 2 == 1
def isW (w : Int) : Bool := decide (0 ≤ w ∧ w / 8 ≤ 268435455)
theorem isWord_any (a : Int) (w : World) : Calls Tryz.prog 30 #[.int .i64 a] w fun e w' => e = .returned (.bool (isW a)) ∧ w' = w := by
 by_cases h : a ≥ 0
 ·have hb : isW a = decide (a / 8 ≤ 268435455) := by unfold isW; exact decide_eq_decide.2 ⟨fun q => q.2, fun q => ⟨h, q⟩⟩
  have HB := ak_ hb
  clear hb
  go_enter Tryz.func30, Tryz.ntmps30
  go_wp2
  go_ret
  exact ⟨by rw [HB.out]; rfl, rfl⟩
 ·have hb : isW a = false := by unfold isW; exact decide_eq_false (fun q => h q.1)
  have HB := ak_ hb
  clear hb
  go_enter Tryz.func30, Tryz.ntmps30
  go_wp2
  go_ret
  exact ⟨by rw [HB.out]; rfl, rfl⟩
theorem has_any (word : Int) (i : Nat) (hi : i ≤ 2) (p : Nat) (w : World) (hp : w.cell? ⟨p, 0, none⟩ = some (.int .i64 word)) :
  Calls Tryz.prog 31 #[.int .i64 i, .pointer (some ⟨p, 0, none⟩)] w fun e w' => e = .returned (.bool (bitOf word i)) ∧ w' = w := by
 have h1 := and_one_i64 (word / 2 ^ i)
 have hb : bitOf word i = (bits .and .i64 (word / 2 ^ i) 1 == 1) := by rw [h1]; rfl
 have HB := ak_ hb
 clear hb h1
 go_enter Tryz.func31, Tryz.ntmps31
 go_wp2
 go_ret
 exact ⟨by rw [HB.out]; rfl, rfl⟩
theorem Unpack_ok (a : Int) (w : World) (h : isW a = true) :
  Calls Tryz.prog 12 #[.int .i64 a] w fun e w' => e = .returned (.tuple #[.agg #[.bool (bitOf a 0), .bool (bitOf a 1), .bool (bitOf a 2), .int .i64 (a / 8)], .int .i64 0]) ∧ Below w.heap.size w w' := by
 have hu := Tryz.underlying56
 have hmf : ∀ (fn : Fn) (first cap : Array Value) (w : World), (Instr.makeFunc fn first cap).run Tryz.prog w = .ok (.func fn first cap) w := fun _ _ _ _ => rfl
 have B0 := ak_ (blk_alloc (blk_new w (.cells #[.int .i64 a] 3)) (.cells #[.bool false, .bool false, .bool false, .int .i64 0] 56))
 have B1 := ak_ (show ((w.alloc (.cells #[.int .i64 a] 3)).alloc (.cells #[.bool false, .bool false, .bool false, .int .i64 0] 56)).heap[w.heap.size + 1]? = some (.cells #[.bool false, .bool false, .bool false, .int .i64 0] 56 (0, 0)) from by
  have := blk_new (w.alloc (.cells #[.int .i64 a] 3)) (.cells #[.bool false, .bool false, .bool false, .int .i64 0] 56)
  simpa using this)
 go_enter Tryz.func12, Tryz.ntmps12
 go_wp2_with fail
 refine (isWord_any a _).mono ?_
 rw [h]
 rintro e w1 ⟨rfl, rfl⟩
 have HBel := ak_ (((Below.refl w.heap.size w).alloc (Nat.le_refl _) (.cells #[.int .i64 a] 3)).alloc (by simp) (.cells #[.bool false, .bool false, .bool false, .int .i64 0] 56))
 go_wp2
 generalize ((w.alloc (.cells #[.int .i64 a] 3)).alloc (.cells #[.bool false, .bool false, .bool false, .int .i64 0] 56)) = W at *
 have a0 : W.cell? ⟨w.heap.size, 0, none⟩ = some (.int .i64 a) := blk_cell B0.out 0
 have c0 : W.cell? ⟨w.heap.size + 1, 0, none⟩ = some (.bool false) := blk_cell B1.out 0
 have c1 : W.cell? ⟨w.heap.size + 1, 1, none⟩ = some (.bool false) := blk_cell B1.out 1
 have c2 : W.cell? ⟨w.heap.size + 1, 2, none⟩ = some (.bool false) := blk_cell B1.out 2
 have c3 : W.cell? ⟨w.heap.size + 1, 3, none⟩ = some (.int .i64 0) := blk_cell B1.out 3
 have f0 : W.frozen? ⟨w.heap.size + 1, 0, none⟩ = false := blk_frozen B1.out 0
 have f1 : W.frozen? ⟨w.heap.size + 1, 1, none⟩ = false := blk_frozen B1.out 1
 have f2 : W.frozen? ⟨w.heap.size + 1, 2, none⟩ = false := blk_frozen B1.out 2
 have f3 : W.frozen? ⟨w.heap.size + 1, 3, none⟩ = false := blk_frozen B1.out 3
 go_region_held3 (fun w' => w'.cell? ⟨w.heap.size, 0, none⟩ = some (.int .i64 a)) (go_keep) ((go_at_call 31; (first | refine (has_any a 0 (by omega) w.heap.size _ (by simp [*])).mono ?_ | refine (has_any a 1 (by omega) w.heap.size _ (by simp [*])).mono ?_ | refine (has_any a 2 (by omega) w.heap.size _ (by simp [*])).mono ?_); rintro e w1 ⟨rfl, rfl⟩))
 all_goals
  have B2 := blk_put (blk_put (blk_put (blk_put B1.out 0 (.bool (bitOf a 0)) rfl) 1 (.bool (bitOf a 1)) rfl) 2 (.bool (bitOf a 2)) rfl) 3 (.int .i64 (a / 8)) rfl
  have hb2 := Below.setCell (p := ⟨w.heap.size + 1, 3, none⟩) (Below.setCell (p := ⟨w.heap.size + 1, 2, none⟩) (Below.setCell (p := ⟨w.heap.size + 1, 1, none⟩) (Below.setCell (p := ⟨w.heap.size + 1, 0, none⟩) HBel.out (by simp) (.bool (bitOf a 0))) (by simp) (.bool (bitOf a 1))) (by simp) (.bool (bitOf a 2))) (by simp) (.int .i64 (a / 8))
  generalize ((((W.setCell ⟨w.heap.size + 1, 0, none⟩ (.bool (bitOf a 0))).setCell ⟨w.heap.size + 1, 1, none⟩ (.bool (bitOf a 1))).setCell ⟨w.heap.size + 1, 2, none⟩ (.bool (bitOf a 2))).setCell ⟨w.heap.size + 1, 3, none⟩ (.int .i64 (a / 8))) = W2 at *
  go_wp2
  exact bodyPost_ret (results_ct rfl _ _ (w.heap.size + 1) 56 _ (0, 0) _ rfl (blk_drew B2) Tryz.underlying56 rfl (by kernel_rfl)) rfl ⟨rfl, below_drew hb2⟩
theorem bits_or (x y : Nat) (hx : x < 2 ^ 62) (hy : y < 2 ^ 62) : bits .or .i64 (x : Int) (y : Int) = ((x ||| y : Nat) : Int) := by
 show IntKind.i64.wrap ((BitVec.ofInt 64 x ||| BitVec.ofInt 64 y).toNat : Int) = _
 have hor : x ||| y < 2 ^ 62 := Nat.or_lt_two_pow hx hy
 have e1 : (BitVec.ofInt 64 (x : Int)).toNat = x := by rw [BitVec.toNat_ofInt]; omega
 have e2 : (BitVec.ofInt 64 (y : Int)).toNat = y := by rw [BitVec.toNat_ofInt]; omega
 rw [BitVec.toNat_or, e1, e2, IntKind.wrap_i64]
 omega
theorem or8 (m c d : Nat) (hc : c < 8) (hd : d < 8) : (8 * m + c) ||| d = 8 * m + (c ||| d) := by
 have h1 := Nat.two_pow_add_eq_or_of_lt (i := 3) (b := c) hc m
 have hcd : c ||| d < 2 ^ 3 := Nat.or_lt_two_pow hc hd
 have h2 := Nat.two_pow_add_eq_or_of_lt (i := 3) (b := c ||| d) hcd m
 rw [show 8 * m + c = 2 ^ 3 * m + c from rfl, h1, Nat.or_assoc, ← h2]
theorem or8_i (m : Int) (c d : Nat) (h0 : 0 ≤ m) (h1 : m ≤ 268435455) (hc : c < 8) (hd : d < 8) : bits .or .i64 (8 * m + (c : Int)) (d : Int) = 8 * m + ((c ||| d : Nat) : Int) := by
 obtain ⟨n, rfl⟩ : ∃ n : Nat, m = n := ⟨m.toNat, by omega⟩
 have h := bits_or (8 * n + c) d (by omega) (by omega)
 have e : ((8 * n + c : Nat) : Int) = 8 * (n : Int) + (c : Int) := by omega
 rw [e] at h
 rw [h, or8 n c d hc hd]
 omega
theorem idx48 (x y z : Bool) (w : World) :
  (Instr.index 235 (.agg #[.bool x, .bool y, .bool z]) (.int .i64 0)).run Tryz.prog w = .ok (.bool x) w ∧ (Instr.index 235 (.agg #[.bool x, .bool y, .bool z]) (.int .i64 1)).run Tryz.prog w = .ok (.bool y) w ∧ (Instr.index 235 (.agg #[.bool x, .bool y, .bool z]) (.int .i64 2)).run Tryz.prog w = .ok (.bool z) w := by
 have hu := run_underlying (P := Tryz.prog) Tryz.underlying235
 obtain ⟨i4, hi4, hs4⟩ := Option.map_eq_some_iff.1 (show (Tryz.prog.info? 4).map (fun i => i.size) = some 1 by kernel_rfl)
 refine ⟨?_, ?_, ?_⟩ <;> simp [Instr.index, hu, asIntOf, part, sizeOf, typeInfo, hi4, hs4]
def num (b : Bool) (k : Nat) : Nat := if b = true then k else 0
theorem Pack_ok (b0 b1 b2 : Bool) (n : Int) (w : World) (h0 : 0 ≤ n) (h1 : n ≤ 268435455) :
  Calls Tryz.prog 154 #[.agg #[.bool b0, .bool b1, .bool b2, .int .i64 n]] w fun e w' => e = .returned (.tuple #[.int .i64 (8 * n + ((num b0 1 ||| num b1 2 ||| num b2 4 : Nat) : Int)), .int .i64 0]) ∧ Below w.heap.size w w' := by
 have hu := Tryz.underlying56
 have hua := Tryz.underlying235
 have hi0 := fun x y z w => (idx48 x y z w).1
 have hi1 := fun x y z w => (idx48 x y z w).2.1
 have hi2 := fun x y z w => (idx48 x y z w).2.2
 have hn : ¬ (n < 0) := by omega
 have hg : ¬ (n > 268435455) := by omega
 have e (c d : Nat) (hc : c < 8) (hd : d < 8) := or8_i n c d h0 h1 hc hd
 have HE := ak_ (show bits .or .i64 (n * 8) 1 = 8 * n + 1 ∧ bits .or .i64 (n * 8) 2 = 8 * n + 2 ∧ bits .or .i64 (n * 8) 4 = 8 * n + 4 ∧ bits .or .i64 (8 * n + 1) 2 = 8 * n + 3 ∧ bits .or .i64 (8 * n + 1) 4 = 8 * n + 5 ∧ bits .or .i64 (8 * n + 2) 4 = 8 * n + 6 ∧ bits .or .i64 (8 * n + 3) 4 = 8 * n + 7 from by
  refine ⟨?_, ?_, ?_, ?_, ?_, ?_, ?_⟩
  ·have := e 0 1 (by omega) (by omega); rw [show 8 * n + ((0 : Nat) : Int) = n * 8 by omega] at this; exact this
  ·have := e 0 2 (by omega) (by omega); rw [show 8 * n + ((0 : Nat) : Int) = n * 8 by omega] at this; exact this
  ·have := e 0 4 (by omega) (by omega); rw [show 8 * n + ((0 : Nat) : Int) = n * 8 by omega] at this; exact this
  ·exact e 1 2 (by omega) (by omega)
  ·exact e 1 4 (by omega) (by omega)
  ·exact e 2 4 (by omega) (by omega)
  ·exact e 3 4 (by omega) (by omega))
 clear e
 cases b0 <;> cases b1 <;> cases b2
 all_goals
  go_enter Tryz.func154, Tryz.ntmps154
  go_wp2
  refine wp_loop_rounds 4 ?_
  rw [rounds_succ]; go_wp2
  rw [rounds_succ]; go_wp2
  rw [rounds_succ]; go_wp2
  rw [rounds_succ]; go_wp2
  go_ret2
  refine ⟨?_, (Below.refl _ _).alloc (Nat.le_refl _) _⟩
  obtain ⟨e1, e2, e4, e12, e14, e24, e34⟩ := HE.out
  have e0 : n * 8 = 8 * n := by omega
  first
   | (show Ending.returned (.tuple #[.int .i64 (n * 8), .int .i64 0]) = _; rw [e0]; simp [num])
   | (show Ending.returned (.tuple #[.int .i64 (bits .or .i64 (n * 8) 1), .int .i64 0]) = _; rw [e1]; rfl)
   | (show Ending.returned (.tuple #[.int .i64 (bits .or .i64 (n * 8) 2), .int .i64 0]) = _; rw [e2]; rfl)
   | (show Ending.returned (.tuple #[.int .i64 (bits .or .i64 (n * 8) 4), .int .i64 0]) = _; rw [e4]; rfl)
   | (show Ending.returned (.tuple #[.int .i64 (bits .or .i64 (bits .or .i64 (n * 8) 1) 2), .int .i64 0]) = _; rw [e1, e12]; rfl)
   | (show Ending.returned (.tuple #[.int .i64 (bits .or .i64 (bits .or .i64 (n * 8) 1) 4), .int .i64 0]) = _; rw [e1, e14]; rfl)
   | (show Ending.returned (.tuple #[.int .i64 (bits .or .i64 (bits .or .i64 (n * 8) 2) 4), .int .i64 0]) = _; rw [e2, e24]; rfl)
   | (show Ending.returned (.tuple #[.int .i64 (bits .or .i64 (bits .or .i64 (bits .or .i64 (n * 8) 1) 2) 4), .int .i64 0]) = _; rw [e1, e12, e34]; rfl)
def okT (t : Int) : Prop := 0 ≤ t ∧ t ≤ 4611686018427387904
theorem clockRight_yes (t : Int) (w : World) (h : okT t) : Calls Tryz.prog 46 #[.int .i64 t] w fun e w' => e = .returned (.bool true) ∧ w' = w := by
 obtain ⟨h0, h1⟩ := h
 go_enter Tryz.func46, Tryz.ntmps46
 go_wp2
 go_ret
 exact ⟨rfl, rfl⟩
theorem pairOf_yes (a b : Int) (w : World) (ha : okT a) (hb : okT b) : Calls Tryz.prog 135 #[.int .i64 a, .int .i64 b] w fun e w' => e = .returned (.agg #[.int .i64 a, .int .i64 b]) ∧ Below w.heap.size w w' := by
 have hu := Tryz.underlying195
 go_enter Tryz.func135, Tryz.ntmps135
 go_wp2_with (go_at_call 46; refine (clockRight_yes _ _ (by assumption)).mono ?_; rintro e w1 ⟨rfl, rfl⟩)
 exact bodyPost_ret (results_cell_row rfl _ _ w.heap.size 195 #[.int .i64 a, .int .i64 b] (0, 0) _ rfl (blk_new _ _) Tryz.underlying195 rfl (by kernel_rfl)) rfl ⟨rfl, (Below.refl _ _).alloc (Nat.le_refl _) _⟩
theorem arr2_eq (a b c e : Int) (w : World) : (Op.equalIn 10000 195 (.agg #[.int .i64 a, .int .i64 b]) (.agg #[.int .i64 c, .int .i64 e])).run Tryz.prog w = .ok (a == c && b == e) w := by
 have hu := run_underlying (P := Tryz.prog) Tryz.underlying195
 have he : ∀ (x y : Int) (w : World), (Op.equalIn 9999 3 (.int .i64 x) (.int .i64 y)).run Tryz.prog w = .ok (x == y) w := fun x y w => run_equalIn_int w 9998 3 .i64 .i64 x y Tryz.underlying3
 obtain ⟨i3, hi3, hs3⟩ := Option.map_eq_some_iff.1 (show (Tryz.prog.info? 3).map (fun i => i.size) = some 1 by kernel_rfl)
 rw [show (10000 : Nat) = 9999 + 1 from rfl, Op.equalIn]
 simp [hu, sizeOf, typeInfo, hi3, hs3, part, he, List.range']
 by_cases h1 : a = c
 ·by_cases h2 : b = e <;> simp [h1, h2]
 ·simp [h1]
theorem wrong_no (a b : Int) (w : World) (ha : okT a) (hb : okT b) : Calls Tryz.prog 136 #[.agg #[.int .i64 a, .int .i64 b]] w fun e w' => e = .returned (.bool false) ∧ Below w.heap.size w w' := by
 have hu := Tryz.underlying195
 have heq : ∀ w, (Op.equalIn 10000 195 (.agg #[.int .i64 a, .int .i64 b]) (.agg #[.int .i64 (-1), .int .i64 (-1)])).run Tryz.prog w = .ok false w := fun w => by
  rw [arr2_eq]
  obtain ⟨a0, a1⟩ := ha
  have : (a == -1) = false := beq_eq_false_iff_ne.2 (by omega)
  rw [this]
  rfl
 go_enter Tryz.func136, Tryz.ntmps136
 go_wp2
 go_ret
 exact ⟨rfl, (Below.refl _ _).alloc (Nat.le_refl _) _⟩
theorem bel2 {w w1 : World} (hb : Below w.heap.size w w1) (o : Obj) : Below w.heap.size w (w1.alloc o) := hb.alloc hb.size o
theorem bel3 {w w1 w2 : World} (hb : Below w.heap.size w w1) (hb2 : Below w1.heap.size w1 w2) : Below w.heap.size w w2 := hb.trans (hb2.mono hb.size)
theorem clockTick_ok (a b : Int) (w : World) (ha : okT a) (hb : okT b) (hs : ¬ 4611686018427387904 - a < b) : Calls Tryz.prog 102 #[.int .i64 a, .int .i64 b] w fun e w' => e = .returned (.tuple #[.int .i64 (a + b), .int .i64 0]) ∧ Below w.heap.size w w' := by
 have hu := Tryz.underlying195
 have a0 := ha.1
 have a1 := ha.2
 have b0 := hb.1
 have b1 := hb.2
 go_enter Tryz.func102, Tryz.ntmps102
 go_wp2_with fail
 refine (pairOf_yes a b _ ha hb).mono ?_
 rintro e w1 ⟨rfl, hb1⟩
 have B1 := ak_ hb1
 clear hb1
 go_wp2_with fail
 refine (wrong_no a b _ ha hb).mono ?_
 rintro e w2 ⟨rfl, hb2⟩
 have BK := blk_below (blk_new w1 (.cells #[.int .i64 a, .int .i64 b] 195)) hb2
 have c0 : w2.cell? ⟨w1.heap.size, 0, none⟩ = some (.int .i64 a) := blk_cell BK 0
 have c1 : w2.cell? ⟨w1.heap.size, 1, none⟩ = some (.int .i64 b) := blk_cell BK 1
 have B2 := ak_ (bel3 (bel2 B1.out _) hb2)
 clear hb2 BK
 go_wp2
 go_ret2
 exact ⟨rfl, B2.out⟩
theorem clockTick_over (a b : Int) (w : World) (ha : okT a) (hb : okT b) (hs : 4611686018427387904 - a < b) : Calls Tryz.prog 102 #[.int .i64 a, .int .i64 b] w fun e w' => e = .returned (.tuple #[.int .i64 0, .int .i64 10]) ∧ Below w.heap.size w w' := by
 have hu := Tryz.underlying195
 have a0 := ha.1
 have a1 := ha.2
 have b0 := hb.1
 have b1 := hb.2
 go_enter Tryz.func102, Tryz.ntmps102
 go_wp2_with fail
 refine (pairOf_yes a b _ ha hb).mono ?_
 rintro e w1 ⟨rfl, hb1⟩
 have B1 := ak_ hb1
 clear hb1
 go_wp2_with fail
 refine (wrong_no a b _ ha hb).mono ?_
 rintro e w2 ⟨rfl, hb2⟩
 have BK := blk_below (blk_new w1 (.cells #[.int .i64 a, .int .i64 b] 195)) hb2
 have c0 : w2.cell? ⟨w1.heap.size, 0, none⟩ = some (.int .i64 a) := blk_cell BK 0
 have c1 : w2.cell? ⟨w1.heap.size, 1, none⟩ = some (.int .i64 b) := blk_cell BK 1
 have B2 := ak_ (bel3 (bel2 B1.out _) hb2)
 clear hb2 BK
 go_wp2
 go_ret2
 exact ⟨rfl, B2.out⟩
theorem since_yes (a b : Int) (w : World) (ha : okT a) (hb : okT b) : Calls Tryz.prog 196 #[.int .i64 a, .int .i64 b] w fun e w' => e = .returned (.tuple #[.int .i64 (max (a - b) 0), .int .i64 0]) ∧ Below w.heap.size w w' := by
 have hu := Tryz.underlying195
 have a0 := ha.1
 have a1 := ha.2
 have b0 := hb.1
 have b1 := hb.2
 go_enter Tryz.func196, Tryz.ntmps196
 go_wp2_with fail
 refine (pairOf_yes a b _ ha hb).mono ?_
 rintro e w1 ⟨rfl, hb1⟩
 have B1 := ak_ hb1
 clear hb1
 go_wp2_with fail
 refine (wrong_no a b _ ha hb).mono ?_
 rintro e w2 ⟨rfl, hb2⟩
 have BK := blk_below (blk_new w1 (.cells #[.int .i64 a, .int .i64 b] 195)) hb2
 have c0 : w2.cell? ⟨w1.heap.size, 0, none⟩ = some (.int .i64 a) := blk_cell BK 0
 have c1 : w2.cell? ⟨w1.heap.size, 1, none⟩ = some (.int .i64 b) := blk_cell BK 1
 have B2 := ak_ (bel3 (bel2 B1.out _) hb2)
 clear hb2 BK
 go_wp2
 go_ret2
 exact ⟨rfl, B2.out⟩
theorem late_yes (a b : Int) (w : World) (ha : okT a) (hb : okT b) : Calls Tryz.prog 165 #[.int .i64 a, .int .i64 b] w fun e w' => e = .returned (.tuple #[.bool (decide (1000000 < a - b)), .int .i64 0]) ∧ Below w.heap.size w w' := by
 have HD := ak_ (show (1000000 < max (a - b) 0) = (1000000 < a - b) from propext (by omega))
 have S := since_yes a b
 go_enter Tryz.func165, Tryz.ntmps165
 go_wp2_with fail
 refine (S _ ha hb).mono ?_
 rintro e w1 ⟨rfl, hb1⟩
 generalize hg : max (a - b) 0 = g at *
 have HG := ak_ hg
 clear hg S
 go_wp2
 go_ret2
 refine ⟨?_, hb1⟩
 have := HD.out
 simp only [this]
 rfl
theorem gor_index (A : Option Addr) (c : Nat) (l : List M.Gor) (w : World) (hC0 : kGor.C w A l.length l) (hn : ∀ x ∈ l, ∀ w, Calls Tryz.prog 69 #[.agg #[.int .i64 x.state, .bool x.permit]] w fun e w' => e = .returned (.bool false) ∧ Below w.heap.size w w') :
  Calls Tryz.prog 103 #[.slice A l.length c, .func (.func 69) #[] #[]] w fun e w' => e = .returned (.int .i64 (-1)) ∧ Below w.heap.size w w' := by
 have hlen : l.length ≤ 9223372036854775807 := hC0.2.1
 have HC := ak_ hC0
 have HN := ak_ hn
 clear hC0 hn
 go_enter Tryz.func103, Tryz.ntmps103
 go_wp2
 go_loopg [5, 8] l.length (fun g v5 v8 wx => Aside0 (Below w.heap.size w wx) ∧ ∃ i : Nat, i + g = l.length ∧ v8 = .int .i64 i)
 case atStart => exact ⟨⟨Below.refl _ _⟩, 0, by omega, rfl⟩
 case round =>
  obtain ⟨HB, i, hig, rfl⟩ := hrel
  cases gk with
  | zero =>
   have hi : i = l.length := by omega
   have hnot : ¬ ((i : Int) < (l.length : Int)) := by omega
   clear hi
   go_wp2
   go_ret
   exact ⟨rfl, by repeat (first | exact HB.out | apply pw_below_drewN | apply below_drew1)⟩
  | succ go =>
   have hlt : i < l.length := by omega
   obtain ⟨x, hx⟩ : ∃ x, l[i]? = some x := ⟨_, List.getElem?_eq_getElem hlt⟩
   obtain ⟨ad, he, h0, hj⟩ := flat_cells HC.out i x hx
   cases he
   have y0 := h0 _ rfl
   have y1 := hj 1 _ (by decide) rfl
   clear h0 hj
   replace y0 := (HB.out.cell (World.block_lt_of_cell? w _ y0)).trans y0
   replace y1 := (HB.out.cell (World.block_lt_of_cell? w _ y1)).trans y1
   have hil : (i : Int) < (l.length : Int) := by omega
   have HX := ak_ (HN.out x (List.mem_of_getElem? hx))
   clear hx
   go_wp2_with (go_at_call 69; refine (HX.out _).mono ?_; rintro e w2 ⟨rfl, hb⟩; have NB := ak_ (HB.out.trans (hb.mono (by have := HB.out.size; simp; omega))))
   go_roundg go
   case rel => exact ⟨⟨by repeat (first | exact NB.out | apply pw_below_drewN | apply below_drew1)⟩, i + 1, by omega, by go_num⟩
   case measure => omega
theorem gor_contains (A : Option Addr) (c : Nat) (l : List M.Gor) (w : World) (hC0 : kGor.C w A l.length l) (hn : ∀ x ∈ l, ∀ w, Calls Tryz.prog 69 #[.agg #[.int .i64 x.state, .bool x.permit]] w fun e w' => e = .returned (.bool false) ∧ Below w.heap.size w w') :
  Calls Tryz.prog 70 #[.slice A l.length c, .func (.func 69) #[] #[]] w fun e w' => e = .returned (.bool false) ∧ Below w.heap.size w w' := by
 have HC := ak_ hC0
 have HN := ak_ hn
 clear hC0 hn
 go_enter Tryz.func70, Tryz.ntmps70
 go_wp2_with fail
 refine (gor_index A c l _ HC.out HN.out).mono ?_
 rintro e w1 ⟨rfl, hb⟩
 go_wp2
 go_ret
 exact ⟨rfl, hb⟩
def okGor (g : M.Gor) : Prop := 0 ≤ g.state ∧ g.state ≤ 2 ∧ g.permit = false
theorem odd69 (g : M.Gor) (h : okGor g) (w : World) : Calls Tryz.prog 69 #[.agg #[.int .i64 g.state, .bool g.permit]] w fun e w' => e = .returned (.bool false) ∧ Below w.heap.size w w' := by
 obtain ⟨h0, h2, hp⟩ := h
 obtain ⟨st, pm⟩ := g
 simp only at h0 h2 hp
 subst hp
 have hu := Tryz.underlying40
 obtain rfl | rfl | rfl : st = 0 ∨ st = 1 ∨ st = 2 := by omega
 all_goals
  clear h0 h2
  go_enter Tryz.func69, Tryz.ntmps69
  go_wp2
  go_ret
  exact ⟨rfl, (Below.refl _ _).alloc (Nat.le_refl _) _⟩
theorem parkRight_yes (A : Option Addr) (c : Nat) (l : List M.Gor) (w : World) (hC0 : kGor.C w A l.length l) (h8 : l.length ≤ 8) (hg : ∀ g ∈ l, okGor g) :
  Calls Tryz.prog 34 #[.slice A l.length c] w fun e w' => e = .returned (.bool true) ∧ Below w.heap.size w w' := by
 have HK := ak_ (fun w' (hb : Below w.heap.size w w') => gor_contains A c l w' (Kd.C_below hC0 hb) (fun x hx w => odd69 x (hg x hx) w))
 clear hC0 hg
 have h8' : (l.length : Int) ≤ 8 := by omega
 have hmf : ∀ (fn : Fn) (first cap : Array Value) (w : World), (Instr.makeFunc fn first cap).run Tryz.prog w = .ok (.func fn first cap) w := fun _ _ _ _ => rfl
 go_enter Tryz.func34, Tryz.ntmps34
 go_wp2_with fail
 refine (HK.out _ (Below.refl _ _)).mono ?_
 rintro e w1 ⟨rfl, hb⟩
 go_wp2
 go_ret
 exact ⟨rfl, hb⟩
theorem run_copyK {P : Program} (w : World) (dT sT ty elem : TypeId) (k g n m c : Nat) (a : Addr) (cur : Array Value) (t : TypeId) (cs : List Value)
  (hu : P.underlying dT = some (.slice elem)) (hs : (P.info? elem).map (·.size) = some k)
  (hg : w.heap[g]? = some (.cells cur t (0, 0))) (hn : cs.length = n * k) (hcur : cur.size = n * k)
  (hsrc : ∀ j v, cs[j]? = some v → w.cell? (a.add j) = some v) (h1 : ∀ v ∈ cs, v.oneCell' = true) :
  (Builtin.copy_ #[dT, sT] ty #[.slice (some ⟨g, 0, none⟩) n m, .slice (some a) n c]).run P w = .ok (goInt n) (w.setRow g cs.toArray) := by
 have hl := run_loadCells_list (P := P) w a cs hsrc
 have hst := run_storeCells_at P g 0 t cs 0 cur w hg (by omega) h1
 have hd : cur.toList.drop (0 + 0 + cs.length) = [] := List.drop_eq_nil_of_le (by simp; omega)
 rw [hd] at hst
 simp only [Nat.add_zero, List.take_zero, List.nil_append, List.append_nil] at hst
 cases hq : P.info? elem with
 | none => simp [hq] at hs
 | some i =>
  have hi : i.size = k := by simpa [hq] using hs
  rw [hn] at hl
  simp [Builtin.copy_, run_underlying hu, Builtin.lenOf, Builtin.firstCells, sizeOf, typeInfo, hq, hi, hl, hst]
def Turns1 (m : Nat) (s s' : Int) : Prop := ∀ (p : Nat) (w : World) (B : Nat), B ≤ p → w.heap[p]? = some (.cells #[.int .i64 s, .bool false] 153 (0, 0)) →
 Calls Tryz.prog m #[.pointer (some ⟨p, 0, none⟩)] w fun e w' => e = .returned (.int .i64 0) ∧ w'.heap[p]? = some (.cells #[.int .i64 s', .bool false] 153 (0, 0)) ∧ Below B w w'
theorem park164 : Turns1 164 0 1 := by
 intro p w B hB hp
 have HP := ak_ hp
 have z0 : w.cell? ⟨p, 0, none⟩ = some (.int .i64 0) := blk_cell hp 0
 have z1 : w.cell? ⟨p, 1, none⟩ = some (.bool false) := blk_cell hp 1
 have f0 : w.frozen? ⟨p, 0, none⟩ = false := blk_frozen hp 0
 clear hp
 go_enter Tryz.func164, Tryz.ntmps164
 go_wp2
 go_ret
 exact ⟨rfl, blk_put HP.out 0 _ rfl, (Below.refl _ _).setCell (p := ⟨p, 0, none⟩) hB _⟩
theorem end60 : Turns1 60 0 2 := by
 intro p w B hB hp
 have HP := ak_ hp
 have z0 : w.cell? ⟨p, 0, none⟩ = some (.int .i64 0) := blk_cell hp 0
 have z1 : w.cell? ⟨p, 1, none⟩ = some (.bool false) := blk_cell hp 1
 have f0 : w.frozen? ⟨p, 0, none⟩ = false := blk_frozen hp 0
 have f1 : w.frozen? ⟨p, 1, none⟩ = false := blk_frozen hp 1
 clear hp
 have hu := Tryz.underlying40
 go_enter Tryz.func60, Tryz.ntmps60
 go_wp2
 go_ret
 exact ⟨rfl, blk_put (blk_put HP.out 0 _ rfl) 1 _ rfl, ((Below.refl _ _).setCell (p := ⟨p, 0, none⟩) hB _).setCell (p := ⟨p, 1, none⟩) hB _⟩
theorem ready169 : Turns1 169 1 0 := by
 intro p w B hB hp
 have HP := ak_ hp
 have z0 : w.cell? ⟨p, 0, none⟩ = some (.int .i64 1) := blk_cell hp 0
 have z1 : w.cell? ⟨p, 1, none⟩ = some (.bool false) := blk_cell hp 1
 have f0 : w.frozen? ⟨p, 0, none⟩ = false := blk_frozen hp 0
 have f1 : w.frozen? ⟨p, 1, none⟩ = false := blk_frozen hp 1
 clear hp
 go_enter Tryz.func169, Tryz.ntmps169
 go_wp2
 go_ret
 exact ⟨rfl, blk_put (blk_put HP.out 0 _ rfl) 1 _ rfl, ((Below.refl _ _).setCell (p := ⟨p, 0, none⟩) hB _).setCell (p := ⟨p, 1, none⟩) hB _⟩
theorem mk163 (p : Value) (w : World) : Calls Tryz.prog 163 #[p] w fun e w' => e = .returned (.func (.func 164) #[p] #[]) ∧ w = w' := by
 have hmf : ∀ (fn : Fn) (first cap : Array Value) (w : World), (Instr.makeFunc fn first cap).run Tryz.prog w = .ok (.func fn first cap) w := fun _ _ _ _ => rfl
 go_enter Tryz.func163, Tryz.ntmps163
 go_wp2
 go_ret
 exact ⟨rfl, rfl⟩
theorem mk59 (p : Value) (w : World) : Calls Tryz.prog 59 #[p] w fun e w' => e = .returned (.func (.func 60) #[p] #[]) ∧ w = w' := by
 have hmf : ∀ (fn : Fn) (first cap : Array Value) (w : World), (Instr.makeFunc fn first cap).run Tryz.prog w = .ok (.func fn first cap) w := fun _ _ _ _ => rfl
 go_enter Tryz.func59, Tryz.ntmps59
 go_wp2
 go_ret
 exact ⟨rfl, rfl⟩
theorem mk168 (p : Value) (w : World) : Calls Tryz.prog 168 #[p] w fun e w' => e = .returned (.func (.func 169) #[p] #[]) ∧ w = w' := by
 have hmf : ∀ (fn : Fn) (first cap : Array Value) (w : World), (Instr.makeFunc fn first cap).run Tryz.prog w = .ok (.func fn first cap) w := fun _ _ _ _ => rfl
 go_enter Tryz.func168, Tryz.ntmps168
 go_wp2
 go_ret
 exact ⟨rfl, rfl⟩
def Gives (k m : Nat) : Prop := (k = 163 ∧ m = 164) ∨ (k = 59 ∧ m = 60) ∨ (k = 168 ∧ m = 169)
theorem gives_calls {k m : Nat} (h : Gives k m) (p : Value) (w : World) : Calls Tryz.prog k #[p] w fun e w' => e = .returned (.func (.func m) #[p] #[]) ∧ w = w' := by
 rcases h with ⟨rfl, rfl⟩ | ⟨rfl, rfl⟩ | ⟨rfl, rfl⟩
 ·exact mk163 p w
 ·exact mk59 p w
 ·exact mk168 p w
theorem change1 (k m : Nat) (hk : Gives k m) (s s' : Int) (h0 : 0 ≤ s) (h2 : s ≤ 2) (ht : Turns1 m s s') (A : Option Addr) (c : Nat) (w : World) (hC0 : kGor.C w A 1 [⟨s, false⟩]) :
  Calls Tryz.prog 58 #[.slice A 1 c, .int .i64 0, .func (.func k) #[] #[]] w fun e w' => ∃ v, e = .returned (.tuple #[v, .int .i64 0]) ∧ Sl kGor w' v [⟨s', false⟩] ∧ Below w.heap.size w w' := by
 have HC := ak_ hC0
 have HR := ak_ (parkRight_yes A c [⟨s, false⟩] w hC0 (by simp) (fun g hg => by rw [List.mem_singleton.1 hg]; exact ⟨h0, h2, rfl⟩))
 clear hC0
 have HT := ak_ ht
 have HG := ak_ (fun p w => gives_calls hk p w)
 clear ht
 obtain ⟨i40, hi40, hz40⟩ := Option.map_eq_some_iff.1 (show (Tryz.prog.info? 40).map (fun i => (i.zero, i.size, i.bytes)) = some (some (.agg #[.int .i64 0, .bool false]), 2, 16) by kernel_rfl)
 simp only [Prod.mk.injEq] at hz40
 have hmk : ∀ W : World, (Instr.makeSlice 65 (.int .i64 1) (.int .i64 1)).run Tryz.prog W = .ok (.slice (some ⟨W.heap.size, 0, none⟩) 1 1) (W.alloc (.cells #[.int .i64 0, .bool false] 40)) := by
  intro W
  have h := run_make (P := Tryz.prog) W 65 40 i40 _ Tryz.underlying65 hi40 hz40.1 .i64 .i64 1 1 (by omega) (by omega) (by rw [hz40.2.2]; omega) (by omega)
  simp only [hz40.2.1] at h
  rw [h, show madeCells (Value.agg #[Value.int IntKind.i64 0, Value.bool false]).cells (Int.toNat 1 * 2) = #[.int .i64 0, .bool false] by kernel_rfl]
  rfl
 have hs40 : (Tryz.prog.info? 40).map (·.size) = some 2 := by rw [hi40]; simp [hz40.2.1]
 clear hz40 hi40
 have hu40 := Tryz.underlying40
 have hu153 := Tryz.underlying153
 obtain ⟨ad, rfl, g0, gj⟩ := flat_cells HC.out 0 _ rfl
 have y0 := g0 _ rfl
 have y1 := gj 1 _ (by decide) rfl
 have e0 : ad.add (0 * 2) = ad := rfl
 rw [e0] at y0 y1
 clear g0 gj e0
 have hlow : ad.block < w.heap.size := World.block_lt_of_cell? w _ y0
 rcases hk with ⟨rfl, rfl⟩ | ⟨rfl, rfl⟩ | ⟨rfl, rfl⟩
 all_goals
  go_enter Tryz.func58, Tryz.ntmps58
  go_wp2_with fail
  refine HR.out.mono ?_
  rintro e w1 ⟨rfl, hb1⟩
  replace y0 := (hb1.cell (p := ad) hlow).trans y0
  replace y1 := (hb1.cell (p := ⟨ad.block, ad.off + 1, none⟩) hlow).trans y1
  have HB := ak_ hb1
  clear hb1
  go_wp2_with fail
  refine (HG.out _ _).mono ?_
  rintro e w2 ⟨rfl, rfl⟩
  go_wp2_with fail
  refine (HT.out w1.heap.size _ w1.heap.size (Nat.le_refl _) (blk_new _ _)).mono ?_
  rintro e w3 ⟨rfl, hp3, hb3⟩
  have HP3 := ak_ hp3
  have hl1 : ad.block < w1.heap.size := Nat.lt_of_lt_of_le hlow HB.out.size
  have hb13 : Below w1.heap.size w1 w3 := ((Below.refl _ w1).alloc (Nat.le_refl _) _).trans hb3
  replace y0 := (hb13.cell (p := ad) hl1).trans y0
  replace y1 := (hb13.cell (p := ⟨ad.block, ad.off + 1, none⟩) hl1).trans y1
  have HB3 := ak_ (bel3 HB.out hb13)
  have hz3 : w1.heap.size < w3.heap.size := blk_lt hp3
  clear hp3 hb3 hb13
  have hcp := run_copyK (P := Tryz.prog) (w3.alloc (.cells #[.int .i64 0, .bool false] 40)) 65 65 3 40 2 w3.heap.size 1 1 c ad #[.int .i64 0, .bool false] 40 [.int .i64 s, .bool false] Tryz.underlying65 hs40 (blk_new _ _) rfl rfl (by
   intro j v hj
   have hq : j = 0 ∨ j = 1 := by have := (List.getElem?_eq_some_iff.1 hj).1; simp at this; omega
   rcases hq with rfl | rfl
   ·cases hj
    exact (Below.cell ((Below.refl _ w3).alloc (Nat.le_refl _) _) (World.block_lt_of_cell? w3 _ y0)).trans y0
   ·cases hj
    exact (Below.cell ((Below.refl _ w3).alloc (Nat.le_refl _) _) (p := ⟨ad.block, ad.off + 1, none⟩) (World.block_lt_of_cell? w3 _ y1)).trans y1) (by
   intro v hv
   simp at hv
   rcases hv with rfl | rfl <;> rfl)
  have hrow := ak_ (setRow_heap (w3.alloc (.cells #[.int .i64 0, .bool false] 40)) w3.heap.size _ #[.int .i64 s, .bool false] 40 _ (blk_new w3 _))
  have hbw := below_setRow ((Below.refl _ w3).alloc (Nat.le_refl _) (.cells #[.int .i64 0, .bool false] 40)) (Nat.le_refl _) #[.int .i64 s, .bool false]
  have hp4 := ak_ (blk_below HP3.out hbw)
  have HB4 := ak_ (bel3 HB3.out hbw)
  clear hbw HP3 y0 y1
  obtain ⟨W, hW⟩ : ∃ W, W = (w3.alloc (.cells #[.int .i64 0, .bool false] 40)).setRow w3.heap.size #[.int .i64 s, .bool false] := ⟨_, rfl⟩
  rw [← hW] at hrow hp4 HB4
  have hcp' : (Builtin.copy_ #[65, 65] 3 #[.slice (some ⟨w3.heap.size, 0, none⟩) 1 1, .slice (some ad) 1 c]).run Tryz.prog (w3.alloc (.cells #[.int .i64 0, .bool false] 40)) = .ok (goInt 1) W := by rw [hW]; exact hcp
  clear hcp hW
  have x0 : W.cell? ⟨w1.heap.size, 0, none⟩ = some (.int .i64 s') := blk_cell hp4.out 0
  have x1 : W.cell? ⟨w1.heap.size, 1, none⟩ = some (.bool false) := blk_cell hp4.out 1
  have u0 : W.cell? ⟨w3.heap.size, 0, none⟩ = some (.int .i64 s) := blk_cell hrow.out 0
  have u1 : W.cell? ⟨w3.heap.size, 1, none⟩ = some (.bool false) := blk_cell hrow.out 1
  have f0 : W.frozen? ⟨w3.heap.size, 0, none⟩ = false := blk_frozen hrow.out 0
  have f1 : W.frozen? ⟨w3.heap.size, 1, none⟩ = false := blk_frozen hrow.out 1
  go_wp2
  have E := blk_put (blk_put hrow.out 0 (.int .i64 s') rfl) 1 (.bool false) rfl
  have hle : w.heap.size ≤ w3.heap.size := HB3.out.size
  have E2 := (HB4.out.setCell (p := ⟨w3.heap.size, 0, none⟩) hle (.int .i64 s')).setCell (p := ⟨w3.heap.size, 1, none⟩) hle (.bool false)
  go_ret2
  exact ⟨_, rfl, Sl.one (⟨s', false⟩ : M.Gor) E, E2⟩
def OneGor (s' : Int) (w : World) (e : Ending) (w' : World) : Prop := ∃ v, e = .returned (.tuple #[v, .int .i64 0]) ∧ Sl kGor w' v [⟨s', false⟩] ∧ Below w.heap.size w w'
theorem park1 (A : Option Addr) (c : Nat) (w : World) (hC0 : kGor.C w A 1 [⟨0, false⟩]) : Calls Tryz.prog 127 #[.slice A 1 c, .int .i64 0] w (OneGor 1 w) := by
 have HK := ak_ (change1 163 164 (.inl ⟨rfl, rfl⟩) 0 1 (by decide) (by decide) park164 A c w hC0)
 clear hC0
 go_enter Tryz.func127, Tryz.ntmps127
 go_wp2_with fail
 refine HK.out.mono ?_
 rintro e w1 ⟨v, rfl, hs, hb⟩
 have HS := ak_ hs
 have HB := ak_ hb
 clear hs hb
 go_wp2
 go_ret2
 exact ⟨_, rfl, HS.out, HB.out⟩
theorem ready1 (A : Option Addr) (c : Nat) (w : World) (hC0 : kGor.C w A 1 [⟨1, false⟩]) : Calls Tryz.prog 132 #[.slice A 1 c, .int .i64 0] w (OneGor 0 w) := by
 have HK := ak_ (change1 168 169 (.inr (.inr ⟨rfl, rfl⟩)) 1 0 (by decide) (by decide) ready169 A c w hC0)
 clear hC0
 go_enter Tryz.func132, Tryz.ntmps132
 go_wp2_with fail
 refine HK.out.mono ?_
 rintro e w1 ⟨v, rfl, hs, hb⟩
 have HS := ak_ hs
 have HB := ak_ hb
 clear hs hb
 go_wp2
 go_ret2
 exact ⟨_, rfl, HS.out, HB.out⟩
theorem end1 (A : Option Addr) (c : Nat) (w : World) (hC0 : kGor.C w A 1 [⟨0, false⟩]) : Calls Tryz.prog 24 #[.slice A 1 c, .int .i64 0] w (OneGor 2 w) := by
 have HK := ak_ (change1 59 60 (.inr (.inl ⟨rfl, rfl⟩)) 0 2 (by decide) (by decide) end60 A c w hC0)
 clear hC0
 go_enter Tryz.func24, Tryz.ntmps24
 go_wp2_with fail
 refine HK.out.mono ?_
 rintro e w1 ⟨v, rfl, hs, hb⟩
 have HS := ak_ hs
 have HB := ak_ hb
 clear hs hb
 go_wp2
 go_ret2
 exact ⟨_, rfl, HS.out, HB.out⟩
def runList (l : List M.Gor) : Nat → List Int
 | 0 => []
 | i + 1 => runList l i ++ (if (l.getD i ⟨0, false⟩).state = 0 then [(i : Int)] else [])
theorem info3T : (Tryz.prog.info? 3).map (fun i => (i.zero, i.size, i.bytes)) = some (some (.int .i64 0), 1, 8) := by kernel_rfl
theorem runList_len (l : List M.Gor) : ∀ i, (runList l i).length ≤ i
 | 0 => Nat.le_refl _
 | i + 1 => by
  have := runList_len l i
  unfold runList
  split <;> simp <;> omega
def RowOf {α : Type} (d : Kd α) (e : Nat) (xs : List α) (w : World) (en : Ending) (w' : World) : Prop := ∃ v, en = .returned (.tuple #[v, .int .i64 0]) ∧ Sl d w' v xs ∧ Below w.heap.size w w'
theorem runnable_yes (A : Option Addr) (c : Nat) (l : List M.Gor) (w : World) (hC0 : kGor.C w A l.length l) (h8 : l.length ≤ 8) (hg : ∀ g ∈ l, okGor g) :
  Calls Tryz.prog 15 #[.slice A l.length c] w (RowOf (Kd.int .i64) 3 (runList l l.length) w) := by
 have HR := ak_ (parkRight_yes A c l w hC0 h8 hg)
 have HC := ak_ hC0
 clear hC0 hg
 have hu := Tryz.underlying40
 go_enter Tryz.func15, Tryz.ntmps15
 go_wp2_with fail
 refine HR.out.mono ?_
 rintro e w1 ⟨rfl, hb⟩
 have HB1 := ak_ hb
 clear hb
 go_wp2
 go_loopg [4, 12] l.length (fun g v4 v12 wx => Aside0 (Below w.heap.size w wx) ∧ ∃ i : Nat, i + g = l.length ∧ v12 = .int .i64 i ∧ Aside0 (Kd.R (Kd.int .i64) 3 wx w.heap.size (fun _ => True) v4 (runList l i)))
 case atStart => exact ⟨HB1, 0, by omega, rfl, ⟨Kd.R_nil _ _ _ _ _⟩⟩
 case round =>
  obtain ⟨HB, i, hig, rfl, HO⟩ := hrel
  cases gk with
  | zero =>
   have hi : i = l.length := by omega
   have hnot : ¬ ((i : Int) < (l.length : Int)) := by omega
   subst hi
   go_wp2
   go_ret2
   exact ⟨_, rfl, Sl.of_R HO.out, HB.out⟩
  | succ go =>
   have hlt : i < l.length := by omega
   obtain ⟨x, hx⟩ : ∃ x, l[i]? = some x := ⟨_, List.getElem?_eq_getElem hlt⟩
   obtain ⟨ad, he, h0, hj⟩ := flat_cells HC.out i x hx
   cases he
   have y0 := h0 _ rfl
   have y1 := hj 1 _ (by decide) rfl
   clear h0 hj
   replace y0 := (HB.out.cell (World.block_lt_of_cell? w _ y0)).trans y0
   replace y1 := (HB.out.cell (World.block_lt_of_cell? w _ y1)).trans y1
   have hil : (i : Int) < (l.length : Int) := by omega
   have hxi : l.getD i ⟨0, false⟩ = x := by rw [List.getD_eq_getElem?_getD, hx]; rfl
   have hrl := runList_len l i
   have HW := ak_ (HB.out.alloc HB.out.size (.cells #[.int .i64 x.state, .bool x.permit] 40))
   by_cases hs : x.state = 0
   ·have hs1 : (x.state == 0) = true := beq_iff_eq.2 hs
    have HE := ak_ (show runList l (i + 1) = runList l i ++ [(i : Int)] by rw [runList, hxi, if_pos hs])
    clear hs hxi hx
    go_wp2_with (first | (at_builtin; refine Kd.R_append (Kd.int .i64) (w0 := w) w.heap.size rfl (.tmp 20) (.tmp 22) 23 3 (.int .i64 0) 8 rfl Tryz.underlying23 info3T rfl (by decide) (by omega) _ (runList l i) (i : Int) [.int .i64 i] (fun _ => True) (fun _ => False) rfl ?aX ?aP (fun _ hk => hk.elim) ?aF ?aO ?aB ?aS ?aL ?_; (case aX => simp [Act.eval]); (case aP => exact rfl); (case aB => exact HW.out); (case aF => exact (fun _ _ => trivial)); (case aO => exact Kd.R_alloc HO.out _); (case aS => exact HW.out.size); (case aL => omega); intro v5 w10 ho hb hg hat; have HO5 := ak_ ho; have HB5 := ak_ hb; clear ho hb hg hat))
    go_roundg go
    case rel => exact ⟨HB5, i + 1, by omega, by go_num, ⟨by rw [HE.out]; exact HO5.out⟩⟩
    case measure => omega
   ·have hs1 : (x.state == 0) = false := beq_eq_false_iff_ne.2 hs
    have HE := ak_ (show runList l (i + 1) = runList l i by rw [runList, hxi, if_neg hs, List.append_nil])
    clear hs hxi hx
    go_wp2
    go_roundg go
    case rel => exact ⟨HW, i + 1, by omega, by go_num, ⟨by rw [HE.out]; exact Kd.R_alloc HO.out _⟩⟩
    case measure => omega
def spotOf (s : M.Sem) (m : Nat) : List Spot := if s.count = 0 ∧ s.line = [] then [] else [⟨8 * (m : Int), s.count, s.line.map Int.ofNat⟩]
def tableFrom : List M.Sem → Nat → List Spot
 | [], _ => []
 | s :: r, m => spotOf s m ++ tableFrom r (m + 1)
def tableOf (l : List M.Sem) : List Spot := tableFrom l 0
def wv (x : M.W) (Ap Ac Am At : Option Addr) (cp cc cm ct : Nat) : Value :=
 .agg #[.int .i64 x.now, .slice Ap x.cl.length cp, .slice Ac x.cl.length cc, .slice Am x.mu.length cm, .slice At (tableOf x.sem).length ct, .int .i64 x.stop]
structure WP (w : World) (x : M.W) (Ap Ac Am At : Option Addr) (cp cc cm ct : Nat) : Prop where
 p : (Kd.slice 49 kAct).C w Ap x.cl.length (x.cl.map (·.prog))
 pc : x.cl.length ≤ cp
 c : kClient.C w Ac x.cl.length (x.cl.map (·.c))
 cc : x.cl.length ≤ cc
 m : kMutex.C w Am x.mu.length x.mu
 mc : x.mu.length ≤ cm
 t : kSpot.C w At (tableOf x.sem).length (tableOf x.sem)
 tc : (tableOf x.sem).length ≤ ct
theorem WP.below {w w' : World} {x : M.W} {Ap Ac Am At : Option Addr} {cp cc cm ct : Nat} (h : WP w x Ap Ac Am At cp cc cm ct) (hb : Below w.heap.size w w') : WP w' x Ap Ac Am At cp cc cm ct :=
 ⟨Kd.C_below h.p hb, h.pc, Kd.C_below h.c hb, h.cc, Kd.C_below h.m hb, h.mc, Kd.C_below h.t hb, h.tc⟩
def WV (w : World) (v : Value) (x : M.W) : Prop := ∃ Ap Ac Am At cp cc cm ct, v = wv x Ap Ac Am At cp cc cm ct ∧ WP w x Ap Ac Am At cp cc cm ct
def RowOf1 {α : Type} (d : Kd α) (xs : List α) (w : World) (en : Ending) (w' : World) : Prop := ∃ v, en = .returned v ∧ Sl d w' v xs ∧ Below w.heap.size w w'
theorem info40T : (Tryz.prog.info? 40).map (fun i => (i.zero, i.size, i.bytes)) = some (some (.agg #[.int .i64 0, .bool false]), 2, 16) := by kernel_rfl
theorem gors_yes (now stop : Int) (v1 v3 v4 : Value) (A1 A3 A4 : Option Addr) (n1 n3 n4 k1 k3 k4 : Nat) (Ac : Option Addr) (cc : Nat) (l : List M.Client) (w : World) (hC0 : kClient.C w Ac l.length l) (h8 : l.length ≤ 8) :
  Calls Tryz.prog 47 #[.agg #[.int .i64 now, .slice A1 n1 k1, .slice Ac l.length cc, .slice A3 n3 k3, .slice A4 n4 k4, .int .i64 stop]] w (RowOf1 kGor (l.map (·.gor)) w) := by
 have HC := ak_ hC0
 clear hC0
 have hu := Tryz.underlying29
 have hu44 := Tryz.underlying44
 have hu40 := Tryz.underlying40
 have HB0 := ak_ ((Below.refl _ w).alloc (Nat.le_refl _) (.cells #[.int .i64 now, .slice A1 n1 k1, .slice Ac l.length cc, .slice A3 n3 k3, .slice A4 n4 k4, .int .i64 stop] 29))
 go_enter Tryz.func47, Tryz.ntmps47
 go_wp2
 go_loopg [3, 9] l.length (fun g v3 v9 wx => Aside0 (Below w.heap.size w wx) ∧ ∃ i : Nat, i + g = l.length ∧ v9 = .int .i64 i ∧ Aside0 (Kd.R kGor 40 wx w.heap.size (fun _ => True) v3 ((l.take i).map (·.gor))))
 case atStart => exact ⟨HB0, 0, by omega, rfl, ⟨Kd.R_nil _ _ _ _ _⟩⟩
 case round =>
  obtain ⟨HB, i, hig, rfl, HO⟩ := hrel
  cases gk with
  | zero =>
   have hi : i = l.length := by omega
   have hnot : ¬ ((i : Int) < (l.length : Int)) := by omega
   subst hi
   have HE := ak_ (show (l.take l.length).map (·.gor) = l.map (·.gor) by rw [List.take_length])
   go_wp2
   go_ret
   exact ⟨_, rfl, by rw [← HE.out]; exact Sl.of_R HO.out, HB.out⟩
  | succ go =>
   have hlt : i < l.length := by omega
   obtain ⟨x, hx⟩ : ∃ x, l[i]? = some x := ⟨_, List.getElem?_eq_getElem hlt⟩
   obtain ⟨ad, he, h0, hj⟩ := flat_cells HC.out i x hx
   cases he
   have y0 := h0 _ rfl
   have y1 := hj 1 _ (by decide) rfl
   have y2 := hj 2 _ (by decide) rfl
   have y3 := hj 3 _ (by decide) rfl
   have y4 := hj 4 _ (by decide) rfl
   have y5 := hj 5 _ (by decide) rfl
   have y6 := hj 6 _ (by decide) rfl
   have y7 := hj 7 _ (by decide) rfl
   have y8 := hj 8 _ (by decide) rfl
   have y9 := hj 9 _ (by decide) rfl
   have y10 := hj 10 _ (by decide) rfl
   have y11 := hj 11 _ (by decide) rfl
   have y12 := hj 12 _ (by decide) rfl
   clear h0 hj
   replace y0 := (HB.out.cell (World.block_lt_of_cell? w _ y0)).trans y0
   replace y1 := (HB.out.cell (World.block_lt_of_cell? w _ y1)).trans y1
   replace y2 := (HB.out.cell (World.block_lt_of_cell? w _ y2)).trans y2
   replace y3 := (HB.out.cell (World.block_lt_of_cell? w _ y3)).trans y3
   replace y4 := (HB.out.cell (World.block_lt_of_cell? w _ y4)).trans y4
   replace y5 := (HB.out.cell (World.block_lt_of_cell? w _ y5)).trans y5
   replace y6 := (HB.out.cell (World.block_lt_of_cell? w _ y6)).trans y6
   replace y7 := (HB.out.cell (World.block_lt_of_cell? w _ y7)).trans y7
   replace y8 := (HB.out.cell (World.block_lt_of_cell? w _ y8)).trans y8
   replace y9 := (HB.out.cell (World.block_lt_of_cell? w _ y9)).trans y9
   replace y10 := (HB.out.cell (World.block_lt_of_cell? w _ y10)).trans y10
   replace y11 := (HB.out.cell (World.block_lt_of_cell? w _ y11)).trans y11
   replace y12 := (HB.out.cell (World.block_lt_of_cell? w _ y12)).trans y12
   have hil : (i : Int) < (l.length : Int) := by omega
   have HE := ak_ (show (l.take (i + 1)).map (·.gor) = (l.take i).map (·.gor) ++ [x.gor] by rw [List.take_succ_eq_append_getElem hlt, List.map_append]; rw [List.getElem?_eq_getElem hlt] at hx; cases hx; rfl)
   have hlen : ((l.take i).map (·.gor)).length = i := by rw [List.length_map, List.length_take]; omega
   have HL := ak_ hlen
   clear hx hlen
   have HW := ak_ (HB.out.alloc HB.out.size (.cells #[.int .i64 x.gor.state, .bool x.gor.permit, .int .i64 x.act, .int .i64 x.pc, .int .i64 x.worked, .int .i64 x.ticket, .bool x.first, .bool x.told, .int .i64 x.own.since, .bool x.own.starving, .bool x.own.awake, .int .i64 x.own.rounds, .int .i64 x.own.old] 44))
   go_wp2_with (first | (at_builtin; refine Kd.R_append kGor (w0 := w) w.heap.size rfl (.tmp 13) (.tmp 16) 65 40 (.agg #[.int .i64 0, .bool false]) 16 rfl Tryz.underlying65 info40T rfl (by decide) (by omega) _ ((l.take i).map (·.gor)) x.gor [.int .i64 x.gor.state, .bool x.gor.permit] (fun _ => True) (fun _ => False) rfl ?aX ?aP (fun _ hk => hk.elim) ?aF ?aO ?aB ?aS ?aL ?_; (case aX => simp [Act.eval]); (case aP => exact rfl); (case aB => exact HW.out); (case aF => exact (fun _ _ => trivial)); (case aO => exact Kd.R_alloc HO.out _); (case aS => exact HW.out.size); (case aL => rw [HL.out]; omega); intro v5 w10 ho hb hg hat; have HO5 := ak_ ho; have HB5 := ak_ hb; clear ho hb hg hat))
   go_roundg go
   case rel => exact ⟨HB5, i + 1, by omega, by go_num, ⟨by rw [HE.out]; exact HO5.out⟩⟩
   case measure => omega
theorem spot_cells {w : World} {A : Option Addr} {n : Nat} {xs : List Spot} (h : kSpot.C w A n xs) (i : Nat) (s : Spot) (hs : xs[i]? = some s) :
  ∃ ad A0 c0, A = some ad ∧ w.cell? (ad.add (i * 3)) = some (.int .i64 s.addr) ∧ w.cell? ⟨(ad.add (i * 3)).block, (ad.add (i * 3)).off + 1, none⟩ = some (.int .i64 s.count) ∧ w.cell? ⟨(ad.add (i * 3)).block, (ad.add (i * 3)).off + 2, none⟩ = some (.slice A0 s.line.length c0) ∧ s.line.length ≤ c0 ∧ (Kd.int .i64).C w A0 s.line.length s.line := by
 have hi := (List.getElem?_eq_some_iff.1 hs).1
 obtain ⟨hl, hm, hc⟩ := h
 obtain ⟨ad, e, hc⟩ := hc (by omega)
 obtain ⟨c, hsz, hK, hcell⟩ := hc i s hs
 obtain ⟨_, _, rfl, rfl, _, _, rfl, rfl, A0, c0, rfl, l0, g0⟩ := hK
 have hc2 : ∀ j u, ([.int .i64 s.addr, .int .i64 s.count, .slice A0 s.line.length c0] : List Value)[j]? = some u → w.cell? (ad.add (i * 3 + j)) = some u := hcell
 refine ⟨ad, A0, c0, e, by simpa using hc2 0 _ rfl, ?_, ?_, l0, g0⟩
 ·rw [← add_field _ _ 1 (by omega)]; exact hc2 1 _ rfl
 ·rw [← add_field _ _ 2 (by omega)]; exact hc2 2 _ rfl
theorem isAddr_yes (a : Int) (w : World) (h0 : 0 ≤ a) (h1 : a ≤ 4294967295) : Calls Tryz.prog 98 #[.int .i64 a] w fun e w' => e = .returned (.bool true) ∧ w = w' := by
 go_enter Tryz.func98, Tryz.ntmps98
 go_wp2
 go_ret
 exact ⟨rfl, rfl⟩
theorem root_yes (m : Nat) (w : World) (h : m < 4) : Calls Tryz.prog 100 #[.int .i64 (8 * (m : Int))] w fun e w' => e = .returned (.tuple #[.int .i64 m, .int .i64 0]) ∧ w = w' := by
 have hk := isAddr_yes (8 * (m : Int)) w (by omega) (by omega)
 obtain rfl | rfl | rfl | rfl : m = 0 ∨ m = 1 ∨ m = 2 ∨ m = 3 := by omega
 all_goals
  go_enter Tryz.func100, Tryz.ntmps100
  go_wp2_with (go_at_call 98; refine hk.mono ?_; rintro e w1 ⟨rfl, rfl⟩)
  go_ret2
  exact ⟨rfl, rfl⟩
theorem order_yes (i j : Nat) (w : World) (h : i < 4) (h2 : j < 4) : Calls Tryz.prog 63 #[.int .i64 (8 * (i : Int)), .int .i64 (8 * (j : Int))] w fun e w' => e = .returned (.int .i64 ((i : Int) - j)) ∧ w = w' := by
 have h8 : wrap64 (8 * (i : Int) - 8 * j) = 8 * (i : Int) - 8 * j := by unfold wrap64; omega
 have h9 : wrap64 ((i : Int) - j) = (i : Int) - j := by unfold wrap64; omega
 go_enter Tryz.func63, Tryz.ntmps63
 go_wp2_with fail
 refine (root_yes i w h).mono ?_
 rintro e w1 ⟨rfl, rfl⟩
 go_wp2_with fail
 refine (root_yes j w h2).mono ?_
 rintro e w1 ⟨rfl, rfl⟩
 by_cases hij : (i : Int) = j
 ·have hb : ((i : Int) != j) = false := by simp [hij]
  have hz : 8 * (i : Int) - 8 * j = (i : Int) - j := by omega
  go_wp2
  go_ret
  exact ⟨by simp; omega, rfl⟩
 ·have hb : ((i : Int) != j) = true := by simpa using hij
  go_wp2
  go_ret
  exact ⟨rfl, rfl⟩
structure OkSpot (s : Spot) : Prop where
 a0 : 0 ≤ s.addr
 a1 : s.addr ≤ 4294967295
 c0 : 0 ≤ s.count
 c1 : s.count ≤ 2147483647
 l : okLine s.line = true
 n : s.count = 0 ∨ s.line = []
theorem isEmpty_any (a n : Int) (A : Option Addr) (k c : Nat) (w : World) (b : Bool) (hb : b = (decide (n = 0) && decide (k = 0))) : Calls Tryz.prog 62 #[.agg #[.int .i64 a, .int .i64 n, .slice A k c]] w fun e w' => e = .returned (.bool b) ∧ Below w.heap.size w w' := by
 have hu := Tryz.underlying87
 subst hb
 by_cases h0 : n = 0 <;> by_cases h1 : k = 0
 all_goals
  have h0' := h0
  have h1' : ((k : Int) == 0) = decide (k = 0) := by by_cases q : k = 0 <;> simp [q]
  go_enter Tryz.func62, Tryz.ntmps62
  go_wp2
  go_ret
  exact ⟨by simp [h0, h1], (Below.refl _ _).alloc (Nat.le_refl _) _⟩
theorem isSpot_yes (s : Spot) (A : Option Addr) (c : Nat) (w : World) (h : OkSpot s) (hC0 : (Kd.int .i64).C w A s.line.length s.line) (hc : s.line.length ≤ c) : Calls Tryz.prog 61 #[.agg #[.int .i64 s.addr, .int .i64 s.count, .slice A s.line.length c]] w fun e w' => e = .returned (.bool true) ∧ Below w.heap.size w w' := by
 have HL := ak_ (fun w' (hb : Below w.heap.size w w') => line_Right.calls A c s.line true w' (Kd.C_below hC0 hb) hc (by unfold line_Right.f; rw [h.l]))
 obtain ⟨a0, a1, c0, c1, _, n⟩ := h
 clear hC0
 obtain ⟨a, k, l⟩ := s
 simp only at *
 have hu := Tryz.underlying87
 have n2 : k = 0 ∨ (l.length : Int) = 0 := by rcases n with q | q; exact .inl q; exact .inr (by rw [q]; rfl)
 rcases n2 with rfl | hl0
 all_goals
  clear n
  go_enter Tryz.func61, Tryz.ntmps61
  go_wp2_with (first | (go_at_call 98; refine (isAddr_yes a _ a0 a1).mono ?_; rintro e w1 ⟨rfl, rfl⟩) | (go_at_call 99; refine (HL.out _ ((Below.refl _ _).alloc (Nat.le_refl _) _)).mono ?_; rintro e w2 ⟨rfl, ⟨nd, rfl⟩⟩))
 all_goals
  go_ret
  exact ⟨by simp_all, pw_below_drewN ((Below.refl _ _).alloc (Nat.le_refl _) _) _⟩
end Go.Proofs.YtoimfknjfeencaaGreatDoor.Hand
end
section
namespace Go.Proofs.YtoimfknjfeencaaGreatDoor.Hand
open Go Go.RowKit
section
variable {P : Program} {ops : Array Oper} {Q : Exit → Act → World → Prop} {md : Region.Mode} {S : World → Prop} {i : Nat} {oi : Oper} {v : Value} {fuel : Nat} {listed : Array Bool} {a : Act} {w : World}
def up1 (md : Region.Mode) (ops : Array Oper) (listed : Array Bool) (i : Nat) : Bool := Region.noSelect ops && (Region.free md ops listed i && (Region.ready md ops listed).contains i)
theorem tk1 (hi : ops[i]? = some oi) (hb : up1 md ops listed i = true) (hS : S w) (hw : Region.wanted oi (yielded ops a.tmps) = true)
  (hv : ∀ w, S w → (execOp a.eval oi).run P w = .ok (.value v) w) (hQ : ∀ c a w, Q (.panic c) (a.put oi.dst v) w → Q (.panic c) a w)
  (h : wpAnyH P md ops Q S fuel (listed.setIfInBounds i true) (a.put oi.dst v) w) : wpAnyH P md ops Q S (fuel + 1) listed a w := by
 unfold up1 at hb
 simp only [Bool.and_eq_true] at hb
 exact wpAnyH_take hi hb.1 hb.2.1 hb.2.2 hQ (.inl ⟨hw, hv⟩) hS h
theorem sk1 (hi : ops[i]? = some oi) (hb : up1 md ops listed i = true) (hS : S w) (hw : Region.wanted oi (yielded ops a.tmps) = false)
  (hQ : ∀ c a w, Q (.panic c) (a.put oi.dst undef) w → Q (.panic c) a w)
  (h : wpAnyH P md ops Q S fuel (listed.setIfInBounds i true) (a.put oi.dst undef) w) : wpAnyH P md ops Q S (fuel + 1) listed a w := by
 unfold up1 at hb
 simp only [Bool.and_eq_true] at hb
 exact wpAnyH_take hi hb.1 hb.2.1 hb.2.2 hQ (.inr ⟨hw, rfl⟩) hS h
theorem g1_ {α : Type _} (l : List α) (n : Nat) : l.toArray[n]? = l[n]? := List.getElem?_toArray
theorem g2_ {α : Type _} (x : α) (l : List α) : (x :: l)[0]? = some x := List.getElem?_cons_zero
theorem g3_ {α : Type _} (x : α) (l : List α) (n : Nat) : (x :: l)[n + 1]? = l[n]? := List.getElem?_cons_succ
theorem p1_ {α : Type _} (l : List α) (n : Nat) (x : α) : l.toArray.setIfInBounds n x = (l.set n x).toArray := List.setIfInBounds_toArray ..
theorem p2_ {α : Type _} (x y : α) (l : List α) : (x :: l).set 0 y = y :: l := List.set_cons_zero
theorem p3_ {α : Type _} (x y : α) (l : List α) (n : Nat) : (x :: l).set (n + 1) y = x :: l.set n y := List.set_cons_succ
end
end Go.Proofs.YtoimfknjfeencaaGreatDoor.Hand
end
