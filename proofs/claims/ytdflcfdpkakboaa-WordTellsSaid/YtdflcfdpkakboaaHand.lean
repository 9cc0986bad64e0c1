/- The machine side of word.Bits: strings.Builder's WriteByte and String at this program's numbers, and what word.Bits hands back: the digits of a word of a kind, or ErrArg. No conditions. -/
import Derived.Test.YtdflcfdpkakboaaProg
import Derived.Below
import Derived.Deep.Draws
import Derived.Deep.AppendLies
import Derived.Maps.AppendAt
import Derived.OwnWalk
import Derived.Laws.BytesArg
import Derived.Laws.MakeOwn
import Derived.Laws.OwnMore
import Derived.Deep.OwnRows
import Derived.Tactics
import Derived.Lib.ConvBytes
import Derived.Laws.Slices
import Derived.WalkKit
import Derived.KernelRfl
import Derived.RowKit3
import Derived.Deep.LoopGhost
import Derived.Deep.QuietTactic
import Derived.BigQuiet
import Derived.WideLaws
import Derived.Deep.DeepCutAuto
import Derived.Deep.CutBlock
import Derived.Deep.RegionHeld3
import Derived.Laws.Rows
import Derived.Lib.AppendStr
import Derived.ArgAppend
import Derived.Laws.IdiomCopy
import Derived.OrdersHeld
import Derived.Laws.BitsLemmas
import Derived.RowKit
import Derived.Test.YtdflcfdpkakboaaWWords
import Derived.Test.YtdflcfdpkakboaaWLast
import Derived.Test.YtdflcfdpkakboaaWTab
import Derived.Test.YtdflcfdpkakboaaWFour
import Derived.Test.YtdflcfdpkakboaaWQPut
import Derived.Test.YtdflcfdpkakboaaWApart
import Derived.Test.YtdflcfdpkakboaaWArr
import Derived.Test.YtdflcfdpkakboaaWZeros
import Derived.Test.YtdflcfdpkakboaaWFoot
import Derived.Test.YtdflcfdpkakboaaWKept
import Derived.Test.YtdflcfdpkakboaaWShare
import Derived.Test.YtdflcfdpkakboaaWN
import Derived.Test.YtdflcfdpkakboaaWFootNe
import Derived.Test.YtdflcfdpkakboaaWAt
import Derived.Test.YtdflcfdpkakboaaWEqStruct
import Derived.Test.YtdflcfdpkakboaaWRepsOne
import Derived.Test.YtdflcfdpkakboaaWInv
import Derived.Test.YtdflcfdpkakboaaWInvWords
import Derived.Test.YtdflcfdpkakboaaWGuard
import Derived.Test.YtdflcfdpkakboaaWNEv
import Derived.Test.YtdflcfdpkakboaaWMore
import Derived.Shelf.Strings.Builder1
import Derived.OwnWalk
import Derived.Lib.Builder
import Derived.Laws.Externs
import Derived.Lib.UnsafeStr
namespace Go.Proofs.Ytdflcfdpkakboaa.Hand
open Go.RowKit Go.Shelf Go.Proofs.YtdflcfdpkakboaaW.PrintWords Go.Proofs.YtdflcfdpkakboaaW.PrintLast Go.Proofs.YtdflcfdpkakboaaW.PrintMore
set_option linter.unusedVariables false
set_option linter.unusedSimpArgs false

/-! ### word_Wrap: function 8 -/
def word_Wrap.f (a0 : Int) (a1 : Int) : Option (Int × Int) := if a0 = 0 then (some (wrap64 (wrap32 (a1)), 0)) else (if a0 = 1 then (some ((a1) % 4294967296, 0)) else (if a0 = 2 then (some (a1, 0)) else (some (0, 1))))
set_option maxHeartbeats 8000000 in
set_option maxRecDepth 100000 in
theorem word_Wrap.calls (a0 : Int) (a1 : Int) (r1 : Int) (r2 : Int) (w : World) (h : word_Wrap.f a0 a1 = some (r1, r2)) :
    Calls Try.prog 8 #[.int .i64 a0, .int .i64 a1] w fun e w' => e = .returned (.tuple #[.int .i64 r1, .int .i64 r2]) ∧ Drawn0 w w' := by
  have H : (if a0 = 0 then (some (wrap64 (wrap32 (a1)), 0)) else (if a0 = 1 then (some ((a1) % 4294967296, 0)) else (if a0 = 2 then (some (a1, 0)) else (some (0, 1))))) = some (r1, r2) := h
  clear h
  by_cases c3 : a0 = 0
  · rw [if_pos c3] at H
    have c3b0 : (a0 == 0) = true := beq_iff_eq.mpr c3
    have c3b1 : (a0 != 0) = false := bne_eq_false_iff_eq.mpr c3
    clear c3
    simp only [Option.some.injEq, Prod.mk.injEq] at H
    obtain ⟨rfl, rfl⟩ := H
    go_enter Try.func8, Try.ntmps8
    go_wp2
    go_ret2
    exact ⟨by first | rfl | (simp; done) | (simp [*]; done), by repeat (first | exact Drawn0.refl _ | apply Drawn0.step)⟩
  · rw [if_neg c3] at H
    have c3b0 : (a0 == 0) = false := beq_eq_false_iff_ne.mpr c3
    have c3b1 : (a0 != 0) = true := bne_iff_ne.mpr c3
    by_cases c4 : a0 = 1
    · rw [if_pos c4] at H
      have c4b0 : (a0 == 1) = true := beq_iff_eq.mpr c4
      have c4b1 : (a0 != 1) = false := bne_eq_false_iff_eq.mpr c4
      clear c4
      simp only [Option.some.injEq, Prod.mk.injEq] at H
      obtain ⟨rfl, rfl⟩ := H
      go_enter Try.func8, Try.ntmps8
      go_wp2
      go_ret2
      exact ⟨by first | rfl | (simp; done) | (simp [*]; done), by repeat (first | exact Drawn0.refl _ | apply Drawn0.step)⟩
    · rw [if_neg c4] at H
      have c4b0 : (a0 == 1) = false := beq_eq_false_iff_ne.mpr c4
      have c4b1 : (a0 != 1) = true := bne_iff_ne.mpr c4
      by_cases c5 : a0 = 2
      · rw [if_pos c5] at H
        have c5b0 : (a0 == 2) = true := beq_iff_eq.mpr c5
        have c5b1 : (a0 != 2) = false := bne_eq_false_iff_eq.mpr c5
        clear c5
        simp only [Option.some.injEq, Prod.mk.injEq] at H
        obtain ⟨rfl, rfl⟩ := H
        go_enter Try.func8, Try.ntmps8
        go_wp2
        go_ret2
        exact ⟨by first | rfl | (simp; done) | (simp [*]; done), by repeat (first | exact Drawn0.refl _ | apply Drawn0.step)⟩
      · rw [if_neg c5] at H
        have c5b0 : (a0 == 2) = false := beq_eq_false_iff_ne.mpr c5
        have c5b1 : (a0 != 2) = true := bne_iff_ne.mpr c5
        simp only [Option.some.injEq, Prod.mk.injEq] at H
        obtain ⟨rfl, rfl⟩ := H
        go_enter Try.func8, Try.ntmps8
        go_wp2
        go_ret2
        exact ⟨by first | rfl | (simp; done) | (simp [*]; done), by repeat (first | exact Drawn0.refl _ | apply Drawn0.step)⟩

/-! ### word_Fits: function 10 -/
def word_Fits.f (a0 : Int) (a1 : Int) : Option (Bool) := (word_Wrap.f a0 a1).bind fun bt105 => (if bt105.2 = 0 then (some (bt105.1 == a1)) else (some false))
set_option maxHeartbeats 8000000 in
set_option maxRecDepth 100000 in
theorem word_Fits.calls (a0 : Int) (a1 : Int) (r : Bool) (w : World) (h : word_Fits.f a0 a1 = some r) :
    Calls Try.prog 10 #[.int .i64 a0, .int .i64 a1] w fun e w' => e = .returned (.bool r) ∧ Drawn0 w w' := by
  have H : ((word_Wrap.f a0 a1).bind fun bt105 => (if bt105.2 = 0 then (some (bt105.1 == a1)) else (some false))) = some r := h
  clear h
  replace H := Option.bind_eq_some_iff.mp H
  obtain ⟨⟨t105, t106⟩, A30, H⟩ := H
  replace H : (if t106 = 0 then (some (t105 == a1)) else (some false)) = some r := H
  have A3 := Aside0.mk A30
  clear A30
  by_cases c4 : t106 = 0
  · rw [if_pos c4] at H
    have c4b0 : (t106 == 0) = true := beq_iff_eq.mpr c4
    have c4b1 : (t106 != 0) = false := bne_eq_false_iff_eq.mpr c4
    clear c4
    obtain rfl := Option.some.inj H
    go_enter Try.func10, Try.ntmps10
    go_wp2_with (first | ((with_reducible refine gate_callee (f := 8) rfl ?_); refine goesL_ (some 10) rfl rfl Try.func8 (by kernel_rfl) rfl #[.int .i64 a0, .int .i64 a1] rfl (by (try simp only [List.map_toArray, List.map_cons, List.map_nil]); first | done | rfl | (simp only [List.length_drop, List.length_take]; rfl)) ?_; (with_reducible refine (word_Wrap.calls a0 a1 t105 t106 _ A3.out).mono ?_); rintro e w' ⟨rfl, ⟨nd, rfl⟩⟩; refine ⟨_, rfl, ?_⟩))
    go_ret
    exact ⟨by first | rfl | (simp; done) | (simp [*]; done), by repeat (first | exact Drawn0.refl _ | apply Drawn0.step)⟩
  · rw [if_neg c4] at H
    have c4b0 : (t106 == 0) = false := beq_eq_false_iff_ne.mpr c4
    have c4b1 : (t106 != 0) = true := bne_iff_ne.mpr c4
    obtain rfl := Option.some.inj H
    go_enter Try.func10, Try.ntmps10
    go_wp2_with (first | ((with_reducible refine gate_callee (f := 8) rfl ?_); refine goesL_ (some 10) rfl rfl Try.func8 (by kernel_rfl) rfl #[.int .i64 a0, .int .i64 a1] rfl (by (try simp only [List.map_toArray, List.map_cons, List.map_nil]); first | done | rfl | (simp only [List.length_drop, List.length_take]; rfl)) ?_; (with_reducible refine (word_Wrap.calls a0 a1 t105 t106 _ A3.out).mono ?_); rintro e w' ⟨rfl, ⟨nd, rfl⟩⟩; refine ⟨_, rfl, ?_⟩))
    go_ret
    exact ⟨by first | rfl | (simp; done) | (simp [*]; done), by repeat (first | exact Drawn0.refl _ | apply Drawn0.step)⟩

def lays169_ren : Go.Shelf.Ren := ⟨fun | 169 => 18 | n => n, fun | 70 => 37 | 9 => 9 | 0 => 0 | 72 => 40 | 37 => 38 | 127 => 46 | 3 => 3 | 5 => 5 | n => n, fun | n => n⟩
theorem lays169 : Go.Proofs.Lays.n169 Try.prog lays169_ren := {
  mixed := by kernel_rfl
  f169 := Try.func18.trans (congrArg some (by kernel_rfl))
  t0 := Try.underlying0
  a0 := Try.isAgg0
  z0 := Try.sizeOf0
  v0 := Try.zeroValue0
  t3 := Try.underlying3
  a3 := Try.isAgg3
  z3 := Try.sizeOf3
  v3 := Try.zeroValue3
  t9 := Try.underlying9
  a9 := Try.isAgg9
  z9 := Try.sizeOf9
  v9 := Try.zeroValue9
  t37 := Try.underlying38
  a37 := Try.isAgg38
  z37 := Try.sizeOf38
  v37 := Try.zeroValue38
  t70 := Try.underlying37
  a70 := Try.isAgg37
  z70 := Try.sizeOf37
  v70 := Try.zeroValue37
  t72 := Try.underlying40
  a72 := Try.isAgg40
  z72 := Try.sizeOf40
  v72 := Try.zeroValue40
  t127 := Try.underlying46
  a127 := Try.isAgg46
  z127 := Try.sizeOf46
  v127 := Try.zeroValue46 }
theorem Builder_Extra_169 : Builder.Extra Try.prog lays169_ren := {
  sizeBuilder := by kernel_rfl
  liesBuilder := by kernel_rfl
  t5 := Try.underlying5
  a5 := Try.isAgg5
  z5 := Try.sizeOf5
  v5 := Try.zeroValue5
  infoByte := by kernel_rfl
  cellsByte := by kernel_rfl
  sizeByte := by kernel_rfl
  neB5 := by decide }
theorem Builder_String_any (B b : Nat) (l : List UInt8) (w : World) (h : Lib.IsBuilder 40 5 B b (Lib.byteCells l) w) (hBw : B ≤ w.heap.size) :
    Calls Try.prog 18 #[.pointer (some ⟨b, 0, none⟩)] w fun e w' => e = .returned (.string ⟨l.toArray⟩) ∧ Below B w w' := Any.Builder_String_any lays169 Builder_Extra_169 B b l w h hBw

set_option maxHeartbeats 1000000 in
set_option maxRecDepth 100000 in
theorem copyCheck_used (b : Nat) (w : World) (h0 : w.cell? ⟨b, 0, none⟩ = some (.pointer (some ⟨b, 0, none⟩))) :
    Calls Try.prog 19 #[.pointer (some ⟨b, 0, none⟩)] w fun e w' => e = .returned (.tuple #[]) ∧ w' = w := by
  obtain ⟨j, hj, _⟩ := Option.map_eq_some_iff.1 Builder_Extra_169.sizeBuilder
  go_enter Try.func19, Try.ntmps19
  go_wp2
  rw [Lib.run_neq_ptr_same w _ Try.underlying37 hj]
  go_wp2
  go_end0
  exact ⟨rfl, rfl⟩

set_option maxHeartbeats 1000000 in
set_option maxRecDepth 100000 in
theorem copyCheck_fresh (b : Nat) (w : World) (h0 : w.cell? ⟨b, 0, none⟩ = some (.pointer none)) (hsh : w.shape? b = some (40, 2)) (hfz : w.frozen? ⟨b, 0, none⟩ = false) :
    Calls Try.prog 19 #[.pointer (some ⟨b, 0, none⟩)] w fun e w' => e = .returned (.tuple #[]) ∧ w' = w.setCell ⟨b, 0, none⟩ (.pointer (some ⟨b, 0, none⟩)) := by
  obtain ⟨j, hj, hjs⟩ := Option.map_eq_some_iff.1 Builder_Extra_169.sizeBuilder
  go_enter Try.func19, Try.ntmps19
  go_wp2
  rw [Lib.run_to_unsafe w ⟨b, 0, none⟩ Try.underlying37 Try.underlying47 hj (by rw [hjs]; decide) hsh (Nat.zero_lt_succ 1)]
  simp only [Result.andThen]
  rw [Oper.upon_value]
  go_wp2
  rw [run_callFunc_extern Try.func20 (by kernel_rfl) (by kernel_rfl) (by kernel_rfl) (e := Extern.AbiNoEscape.same) (by kernel_rfl)]
  rw [Lib.run_noEscape]
  simp only [Result.andThen]
  rw [Oper.upon_value]
  go_wp2
  rw [Lib.run_from_unsafe w ⟨b, 0, none⟩ Try.underlying47 Try.underlying37 hj hsh Builder_Extra_169.liesBuilder]
  simp only [Result.andThen]
  rw [Oper.upon_value]
  go_wp2
  go_end0
  exact ⟨rfl, rfl⟩

theorem copyCheck (B b : Nat) (bs : List Value) (w : World) (h : Lib.IsBuilder 40 5 B b bs w) :
    Calls Try.prog 19 #[.pointer (some ⟨b, 0, none⟩)] w fun e w' => e = .returned (.tuple #[]) ∧ (Lib.BuilderAt 40 5 B b (.pointer (some ⟨b, 0, none⟩)) bs w' ∧ Below B w w') := by
  rcases h with h | h
  · refine (copyCheck_fresh b w h.cell0 h.shape h.frozen0).mono ?_
    rintro e w' ⟨rfl, rfl⟩
    exact ⟨rfl, h.used _, (Below.refl B w).setCell (p := ⟨b, 0, none⟩) h.1 _⟩
  · refine (copyCheck_used b w h.cell0).mono ?_
    rintro e w' ⟨rfl, rfl⟩
    exact ⟨rfl, h, Below.refl B _⟩

set_option maxHeartbeats 2000000 in
set_option maxRecDepth 100000 in
theorem WriteByte (B b : Nat) (bs : List Value) (c : Int) (w : World) (h : Lib.IsBuilder 40 5 B b bs w) (hlen : bs.length + 1 ≤ 140737488355328) (hBw : B ≤ w.heap.size) :
    Calls Try.prog 17 #[.pointer (some ⟨b, 0, none⟩), .int .u8 c] w fun e w' => e = .returned .nilIface ∧ (Lib.BuilderAt 40 5 B b (.pointer (some ⟨b, 0, none⟩)) (bs ++ [.int .u8 c]) w' ∧ Below B w w') := by
  obtain ⟨i0, hi, hz0, hz1, hz2⟩ := info_parts Builder_Extra_169.infoByte
  go_enter Try.func17, Try.ntmps17
  go_wp2_with (go_at_call 19; refine (copyCheck B b bs _ h).mono ?_)
  rintro e w1 ⟨rfl, h1, hb1⟩
  obtain ⟨hB, v, hbk, hown, hne⟩ := h1
  have c0 : w1.cell? ⟨b, 0, none⟩ = some (.pointer (some ⟨b, 0, none⟩)) := by rw [Lib.cell_of_heap hbk]; rfl
  have c1 : w1.cell? ⟨b, 1, none⟩ = some v := by rw [Lib.cell_of_heap hbk]; rfl
  go_wp2_with (at_builtin; refine wpList_append_own _ rfl _ _ 38 rfl B 5 i0 (.int .u8 0) 1 1 Try.underlying38 hi hz0 hz1 hz2 rfl (by decide) _ _ _ rfl (hown.alloc _) ⟨w1.heap.size, 0, none⟩ 1 1 [.int .u8 c] rfl rfl ?c1 ?c2 ?c3 ?c4 ?c5 ?_)
  case c1 =>
    intro j u hj
    match j, hj with
    | 0, hj => simp at hj; subst hj; simp [Addr.add]
  case c2 => intro u hu; simp at hu; subst hu; rfl
  case c3 => unfold maxLen; omega
  case c4 => omega
  case c5 => have := hb1.size; simp; omega
  intro v' w2 hown' hgrow _
  have hlt : b < w1.heap.size := by
    rcases Nat.lt_or_ge b w1.heap.size with h' | h'
    · exact h'
    · simp [Array.getElem?_eq_none h'] at hbk
  have hb2 : w2.heap[b]? = some (.cells #[.pointer (some ⟨b, 0, none⟩), v] 40 (0, 0)) := by
    rw [hgrow.block b (by simp; omega) (fun e => hne e.symm), Lib.alloc_old w1 _ b hlt]
    exact hbk
  have d0 : w2.cell? ⟨b, 0, none⟩ = some (.pointer (some ⟨b, 0, none⟩)) := by rw [Lib.cell_of_heap hb2]; rfl
  have d1 : w2.cell? ⟨b, 1, none⟩ = some v := by rw [Lib.cell_of_heap hb2]; rfl
  have f1 : w2.frozen? ⟨b, 1, none⟩ = false := Lib.frozen_of_heap hb2 1
  obtain ⟨g, cap, rfl⟩ : ∃ g cap, v' = .slice (some ⟨g, 0, none⟩) (bs.length + 1) cap := by
    rcases hown'.2 with ⟨_, h0⟩ | ⟨g, cap, cur, hv, _⟩
    · omega
    · exact ⟨g, cap, hv⟩
  go_wp2
  go_ret
  refine ⟨rfl, ?_, ?_⟩
  · exact Lib.BuilderAt.put (T := 40) (e := 5) hB hb2 (bs' := bs ++ [.int .u8 c]) (by simpa using hown') Builder_Extra_169.neB5
  · exact ((hb1.alloc (by have := hb1.size; omega) _).grown hgrow (by have := hb1.size; simp; omega) (fun k hk => (hown.lt k hk).1)).setCell (p := ⟨b, 1, none⟩) hB _

def bitAt (v : Int) (j : Nat) : UInt8 := if v / 2 ^ j % 2 = 1 then 49 else 48
def bitsUp (n : Nat) (v : Int) (i : Nat) : List UInt8 := (List.range i).map fun t => bitAt v (n - 1 - t)

theorem and_one_i64 (x : Int) : bits .and .i64 x 1 = x % 2 := by
  show IntKind.i64.wrap ((BitVec.ofInt 64 x &&& BitVec.ofInt 64 1).toNat : Int) = _
  have e : (BitVec.ofInt 64 1).toNat = 1 := rfl
  rw [BitVec.toNat_and, e, Nat.and_one_is_mod, BitVec.toNat_ofInt, IntKind.wrap_i64]
  omega

theorem bitAt_cell (v : Int) (j : Nat) : Value.int .u8 ((48 + bits .and .i64 (v / 2 ^ j) 1) % 256) = Value.int .u8 (bitAt v j).toNat := by
  rw [and_one_i64]
  unfold bitAt
  generalize v / 2 ^ j = y
  by_cases h : y % 2 = 1
  · rw [if_pos h, h]; rfl
  · rw [if_neg h, show y % 2 = 0 by omega]; rfl

theorem bitsUp_succ (n : Nat) (v : Int) (i : Nat) : bitsUp n v (i + 1) = bitsUp n v i ++ [bitAt v (n - 1 - i)] := by
  simp [bitsUp, List.range_succ]

set_option maxHeartbeats 1000000 in
set_option maxRecDepth 100000 in
theorem Bits_32 (a0 a1 : Int) (w : World) (h0 : (a0 == 2) = false) (hf0 : word_Fits.f a0 a1 = some true) :
    Calls Try.prog 11 #[.int .i64 a0, .int .i64 a1] w fun e w' => e = .returned (.tuple #[.string ⟨(bitsUp 32 a1 32).toArray⟩, .int .i64 0]) ∧ Below w.heap.size w w' := by
  have hf := Aside0.mk hf0
  clear hf0
  go_enter Try.func11, Try.ntmps11
  go_wp2_with (go_at_call 10; refine (word_Fits.calls _ _ _ _ hf.out).mono ?_; rintro e w' ⟨rfl, ⟨nd, rfl⟩⟩)
  go_loopw [8, 16] (fun _ c wr => ∃ i : Nat, i ≤ 32 ∧ c = .int .i64 i ∧ Lib.IsBuilder 40 5 w.heap.size w.heap.size (Lib.byteCells (bitsUp 32 a1 i)) wr ∧ Below w.heap.size w wr) (fun _ c _ => 32 - (intOf c).toNat)
  case atStart =>
    exact ⟨0, by omega, rfl, Lib.fresh_isBuilder 40 5 (w.drewN nd), (pw_below_drewN (Below.refl _ _) nd).alloc (Nat.le_refl _) _⟩
  case round =>
    obtain ⟨i, hi, rfl, hB, hb⟩ := hrel
    by_cases hlt : i < 32
    · have hsz := hb.size
      have hl : (Lib.byteCells (bitsUp 32 a1 i)).length ≤ 32 := by simp [Lib.byteCells_length, bitsUp]; omega
      have hc := bitAt_cell a1 (31 - i)
      go_wp2_with fail
      clear hc
      refine (WriteByte w.heap.size w.heap.size _ _ wr hB (by omega) hsz).mono ?_
      rintro e w1 ⟨rfl, hB1, hb1⟩
      go_wp2_with fail
      go_roundw
      case rel =>
        exact ⟨i + 1, by omega, by go_num, .inr (by rw [bitsUp_succ, Lib.byteCells_append]; exact hB1), hb.trans hb1⟩
      case measure => simp [intOf]; omega
    · obtain rfl : i = 32 := by omega
      have hsz := hb.size
      go_wp2_with fail
      refine (Builder_String_any w.heap.size w.heap.size _ wr hB hsz).mono ?_
      rintro e w1 ⟨rfl, hb1⟩
      go_wp2_with fail
      go_ret2
      exact ⟨rfl, hb.trans hb1⟩
set_option maxHeartbeats 1000000 in
set_option maxRecDepth 100000 in
theorem Bits_64 (a0 a1 : Int) (w : World) (h0 : (a0 == 2) = true) (hf0 : word_Fits.f a0 a1 = some true) :
    Calls Try.prog 11 #[.int .i64 a0, .int .i64 a1] w fun e w' => e = .returned (.tuple #[.string ⟨(bitsUp 64 a1 64).toArray⟩, .int .i64 0]) ∧ Below w.heap.size w w' := by
  have hf := Aside0.mk hf0
  clear hf0
  go_enter Try.func11, Try.ntmps11
  go_wp2_with (go_at_call 10; refine (word_Fits.calls _ _ _ _ hf.out).mono ?_; rintro e w' ⟨rfl, ⟨nd, rfl⟩⟩)
  go_loopw [8, 16] (fun _ c wr => ∃ i : Nat, i ≤ 64 ∧ c = .int .i64 i ∧ Lib.IsBuilder 40 5 w.heap.size w.heap.size (Lib.byteCells (bitsUp 64 a1 i)) wr ∧ Below w.heap.size w wr) (fun _ c _ => 64 - (intOf c).toNat)
  case atStart =>
    exact ⟨0, by omega, rfl, Lib.fresh_isBuilder 40 5 (w.drewN nd), (pw_below_drewN (Below.refl _ _) nd).alloc (Nat.le_refl _) _⟩
  case round =>
    obtain ⟨i, hi, rfl, hB, hb⟩ := hrel
    by_cases hlt : i < 64
    · have hsz := hb.size
      have hl : (Lib.byteCells (bitsUp 64 a1 i)).length ≤ 64 := by simp [Lib.byteCells_length, bitsUp]; omega
      have hc := bitAt_cell a1 (63 - i)
      go_wp2_with fail
      clear hc
      refine (WriteByte w.heap.size w.heap.size _ _ wr hB (by omega) hsz).mono ?_
      rintro e w1 ⟨rfl, hB1, hb1⟩
      go_wp2_with fail
      go_roundw
      case rel =>
        exact ⟨i + 1, by omega, by go_num, .inr (by rw [bitsUp_succ, Lib.byteCells_append]; exact hB1), hb.trans hb1⟩
      case measure => simp [intOf]; omega
    · obtain rfl : i = 64 := by omega
      have hsz := hb.size
      go_wp2_with fail
      refine (Builder_String_any w.heap.size w.heap.size _ wr hB hsz).mono ?_
      rintro e w1 ⟨rfl, hb1⟩
      go_wp2_with fail
      go_ret2
      exact ⟨rfl, hb.trans hb1⟩

set_option maxHeartbeats 1000000 in
set_option maxRecDepth 100000 in
theorem Bits_no (a0 a1 : Int) (w : World) (hf0 : word_Fits.f a0 a1 = some false) :
    Calls Try.prog 11 #[.int .i64 a0, .int .i64 a1] w fun e w' => e = .returned (.tuple #[.string ⟨#[]⟩, .int .i64 1]) ∧ Below w.heap.size w w' := by
  have hf := Aside0.mk hf0
  clear hf0
  go_enter Try.func11, Try.ntmps11
  go_wp2_with (go_at_call 10; refine (word_Fits.calls _ _ _ _ hf.out).mono ?_; rintro e w' ⟨rfl, ⟨nd, rfl⟩⟩)
  go_ret2
  exact ⟨rfl, pw_below_drewN (Below.refl _ _) nd⟩

/-! ### word_Bits: function 11 (by hand) -/
def word_Bits.f (a0 : Int) (a1 : Int) : Option (ByteArray × Int) := (word_Fits.f a0 a1).bind fun b => (if b = true then (if a0 = 2 then (some (⟨(bitsUp 64 a1 64).toArray⟩, 0)) else (some (⟨(bitsUp 32 a1 32).toArray⟩, 0))) else (some (⟨#[]⟩, 1)))
theorem word_Bits.calls (a0 : Int) (a1 : Int) (r1 : ByteArray) (r2 : Int) (w : World) (h : word_Bits.f a0 a1 = some (r1, r2)) :
    Calls Try.prog 11 #[.int .i64 a0, .int .i64 a1] w fun e w' => e = .returned (.tuple #[.string r1, .int .i64 r2]) ∧ Below w.heap.size w w' := by
  unfold word_Bits.f at h
  obtain ⟨b, hb, h⟩ := Option.bind_eq_some_iff.mp h
  cases b with
  | false =>
    simp only [Bool.false_eq_true, if_false, Option.some.injEq, Prod.mk.injEq] at h
    obtain ⟨rfl, rfl⟩ := h
    exact Bits_no a0 a1 w hb
  | true =>
    rw [if_pos rfl] at h
    by_cases e : a0 = 2
    · rw [if_pos e] at h
      simp only [Option.some.injEq, Prod.mk.injEq] at h
      obtain ⟨rfl, rfl⟩ := h
      exact Bits_64 a0 a1 w (beq_iff_eq.2 e) hb
    · rw [if_neg e] at h
      simp only [Option.some.injEq, Prod.mk.injEq] at h
      obtain ⟨rfl, rfl⟩ := h
      exact Bits_32 a0 a1 w (beq_eq_false_iff_ne.2 e) hb

end Go.Proofs.Ytdflcfdpkakboaa.Hand
