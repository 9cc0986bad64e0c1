/- The machine side of the package flags, second text: Text hands back a word's signs and how many wait, or ErrArg. It asks that the table of strconv lies in the world as the program text lays it. -/
import Derived.Test.YtiejbkplnbefkaaDoorHand
namespace Go.Proofs.YtiejbkplnbefkaaDoor.Hand
open Go.RowKit Go.Proofs.YtiejbkplnbefkaaDoorW.PrintWords Go.Proofs.YtiejbkplnbefkaaDoorW.PrintLast Go.Proofs.YtiejbkplnbefkaaDoorW.PrintMore
set_option linter.unusedVariables false
set_option linter.unusedSimpArgs false

/-! #### Text -/
def sign (b : Bool) (c : UInt8) : UInt8 := if b = true then c else 45
/-- A word's text. -/
def textOf (a : Int) : ByteArray := ⟨([sign (bitOf a 0) 76, sign (bitOf a 1) 87, sign (bitOf a 2) 83] ++ Lib.itoa (a / 8)).toArray⟩

set_option maxHeartbeats 2000000 in
set_option maxRecDepth 100000 in
theorem Text_bad (a : Int) (w : World) (h : isW a = false) :
    Calls Tryd.prog 8 #[.int .i64 a] w fun e w' => e = .returned (.tuple #[.string ByteArray.empty, .int .i64 1]) ∧ Below w.heap.size w w' := by
  go_enter Tryd.func8, Tryd.ntmps8
  go_wp2_with (go_at_call 20; refine (isWord_any a _).mono ?_; rw [h]; rintro e w' ⟨rfl, rfl⟩)
  go_ret2
  exact ⟨rfl, Below.refl _ _⟩

theorem ba_app (x y : List UInt8) : (⟨x.toArray⟩ : ByteArray) ++ ⟨y.toArray⟩ = ⟨(x ++ y).toArray⟩ := by
  apply ByteArray.ext
  simp [ByteArray.data_append]
theorem itoa_any (n : Int) (h0 : 0 ≤ n) (h1 : n ≤ 268435455) (w : World) (hT : Tabs w) : Calls Tryd.prog 22 #[.int .i64 n] w fun e w' => e = .returned (.string ⟨(Lib.itoa n).toArray⟩) ∧ Below w.heap.size w w' := by
  refine (Tryd.strconv_Itoa n (by omega) (by omega) w hT).mono ?_
  rintro e w' ⟨rfl, k, os, rfl⟩
  exact ⟨rfl, Lib.below_grow _ w (Nat.le_refl _) k os⟩
theorem conv_any (g : Nat) (x y z : UInt8) (V : World) (hb : V.heap[g]? = some (.cells #[.int .u8 x.toNat, .int .u8 y.toNat, .int .u8 z.toNat] 46 (0, 0))) :
    (convert 47 9 (.slice (some ⟨g, 0, none⟩) 3 3)).run Tryd.prog V = .ok (.string ⟨#[x, y, z]⟩) V := by
  have h := run_convert_bytes_back (P := Tryd.prog) V 47 9 5 ⟨g, 0, none⟩ 3 [x, y, z] Tryd.underlying47 Tryd.underlying5 Tryd.underlying9 (fun j hj => by
    have e : (⟨g, 0, none⟩ : Addr).add j = ⟨g, j, none⟩ := by unfold Addr.add; split <;> simp_all
    rw [e, blk_cell hb j]
    match j, hj with
    | 0, _ => rfl
    | 1, _ => rfl
    | 2, _ => rfl)
  exact h

set_option maxHeartbeats 4000000 in
set_option maxRecDepth 100000 in
theorem Text_ok (a : Int) (w : World) (hT : Tabs w) (h : isW a = true) :
    Calls Tryd.prog 8 #[.int .i64 a] w fun e w' => e = .returned (.tuple #[.string (textOf a), .int .i64 0]) ∧ Below w.heap.size w w' := by
  have hr : 0 ≤ a ∧ a / 8 ≤ 268435455 := by unfold isW at h; exact of_decide_eq_true h
  have hua := Tryd.underlying46
  have HTab := Aside0.mk hT
  have HR := Aside0.mk hr
  clear hT
  have q0 : bitOf a 0 = (bits .and .i64 a 1 == 1) := by rw [and_one_i64]; unfold bitOf; simp
  have q1 : bitOf a 1 = (bits .and .i64 (a / 2) 1 == 1) := by rw [and_one_i64]; rfl
  have q2 : bitOf a 2 = (bits .and .i64 (a / 4) 1 == 1) := by rw [and_one_i64]; rfl
  have HTx : Aside0 (textOf a = ⟨([sign (bitOf a 0) 76, sign (bitOf a 1) 87, sign (bitOf a 2) 83] ++ Lib.itoa (a / 8)).toArray⟩) := ⟨rfl⟩
  obtain ⟨si, hsi⟩ : ∃ si : ByteArray, si = ⟨(Lib.itoa (a / 8)).toArray⟩ := ⟨_, rfl⟩
  have hsl : si.size ≤ 21 := by rw [hsi]; exact Lib.itoa_length_le (a / 8) (by omega) (by omega)
  have HSI := Aside0.mk hsi
  clear hsi hr
  generalize bitOf a 0 = b0 at *
  generalize bitOf a 1 = b1 at *
  generalize bitOf a 2 = b2 at *
  cases b0 <;> cases b1 <;> cases b2
  · replace q0 := q0.symm
    replace q1 := q1.symm
    replace q2 := q2.symm
    obtain ⟨ss, hss⟩ : ∃ ss : ByteArray, ss = ⟨#[45, 45, 45]⟩ := ⟨_, rfl⟩
    have HC : Aside0 (∀ V : World, V.heap[w.heap.size]? = some (.cells #[.int .u8 (45 : UInt8).toNat, .int .u8 (45 : UInt8).toNat, .int .u8 (45 : UInt8).toNat] 46 (0, 0)) → (convert 47 9 (.slice (some ⟨w.heap.size, 0, none⟩) 3 3)).run Tryd.prog V = .ok (.string ss) V) := ⟨fun V hV => by rw [hss]; exact conv_any w.heap.size 45 45 45 V hV⟩
    have hsum : ss.size + si.size ≤ 9223372036854775807 := by have : ss.size = 3 := (by rw [hss]; rfl); omega
    have HSS := Aside0.mk hss
    clear hss
    go_enter Tryd.func8, Tryd.ntmps8
    go_wp2_with fail
    refine (isWord_any a _).mono ?_
    rw [h]
    rintro e w1 ⟨rfl, hw⟩
    obtain rfl := hw.symm
    have B := Aside0.mk (blk_new w (.cells #[.int .u8 0, .int .u8 0, .int .u8 0] 46))
    have HBel := Aside0.mk ((Below.refl w.heap.size w).alloc (Nat.le_refl _) (.cells #[.int .u8 0, .int .u8 0, .int .u8 0] 46))
    go_wp2
    generalize (w.alloc (.cells #[.int .u8 0, .int .u8 0, .int .u8 0] 46)) = W at *
    have c0 : W.cell? ⟨w.heap.size, 0, none⟩ = some (.int .u8 0) := blk_cell B.out 0
    have c1 : W.cell? ⟨w.heap.size, 1, none⟩ = some (.int .u8 0) := blk_cell B.out 1
    have c2 : W.cell? ⟨w.heap.size, 2, none⟩ = some (.int .u8 0) := blk_cell B.out 2
    have f0 : W.frozen? ⟨w.heap.size, 0, none⟩ = false := blk_frozen B.out 0
    have f1 : W.frozen? ⟨w.heap.size, 1, none⟩ = false := blk_frozen B.out 1
    have f2 : W.frozen? ⟨w.heap.size, 2, none⟩ = false := blk_frozen B.out 2
    refine wp_loop_rounds 4 ?_
    rw [rounds_succ]; go_wp2
    rw [rounds_succ]; go_wp2
    rw [rounds_succ]; go_wp2
    rw [rounds_succ]; go_wp2
    have B2 := Aside0.mk (blk_put (blk_put (blk_put B.out 0 (.int .u8 45) rfl) 1 (.int .u8 45) rfl) 2 (.int .u8 45) rfl)
    have HB2 := Aside0.mk (Below.setCell (p := ⟨w.heap.size, 2, none⟩) (Below.setCell (p := ⟨w.heap.size, 1, none⟩) (Below.setCell (p := ⟨w.heap.size, 0, none⟩) HBel.out (Nat.le_refl _) (.int .u8 45)) (Nat.le_refl _) (.int .u8 45)) (Nat.le_refl _) (.int .u8 45))
    clear c0 c1 c2 f0 f1 f2
    generalize (((W.setCell ⟨w.heap.size, 0, none⟩ (.int .u8 45)).setCell ⟨w.heap.size, 1, none⟩ (.int .u8 45)).setCell ⟨w.heap.size, 2, none⟩ (.int .u8 45)) = W2 at *
    have HT2 := Aside0.mk (HTab.out.below HB2.out)
    have hcv0 := HC.out _ (blk_drew B2.out)
    go_region_with (go_at_call 22; refine (itoa_any (a / 8) (by have := HR.out; omega) (by have := HR.out; omega) _ (HT2.out.drewN 1)).mono ?_; rw [← HSI.out]; rintro e w1 ⟨rfl, hb1⟩; have hcv1 := HC.out w1 (blk_below (blk_drew B2.out) hb1))
    all_goals go_wp2
    all_goals go_ret2
    all_goals exact ⟨by rw [HTx.out, HSS.out, HSI.out, ← ba_app]; rfl, HB2.out.trans (below_drew (Below.refl _ _) |>.trans (hb1.mono (by have := HB2.out.size; simpa using this)))⟩
  · replace q0 := q0.symm
    replace q1 := q1.symm
    replace q2 := q2.symm
    obtain ⟨ss, hss⟩ : ∃ ss : ByteArray, ss = ⟨#[45, 45, 83]⟩ := ⟨_, rfl⟩
    have HC : Aside0 (∀ V : World, V.heap[w.heap.size]? = some (.cells #[.int .u8 (45 : UInt8).toNat, .int .u8 (45 : UInt8).toNat, .int .u8 (83 : UInt8).toNat] 46 (0, 0)) → (convert 47 9 (.slice (some ⟨w.heap.size, 0, none⟩) 3 3)).run Tryd.prog V = .ok (.string ss) V) := ⟨fun V hV => by rw [hss]; exact conv_any w.heap.size 45 45 83 V hV⟩
    have hsum : ss.size + si.size ≤ 9223372036854775807 := by have : ss.size = 3 := (by rw [hss]; rfl); omega
    have HSS := Aside0.mk hss
    clear hss
    go_enter Tryd.func8, Tryd.ntmps8
    go_wp2_with fail
    refine (isWord_any a _).mono ?_
    rw [h]
    rintro e w1 ⟨rfl, hw⟩
    obtain rfl := hw.symm
    have B := Aside0.mk (blk_new w (.cells #[.int .u8 0, .int .u8 0, .int .u8 0] 46))
    have HBel := Aside0.mk ((Below.refl w.heap.size w).alloc (Nat.le_refl _) (.cells #[.int .u8 0, .int .u8 0, .int .u8 0] 46))
    go_wp2
    generalize (w.alloc (.cells #[.int .u8 0, .int .u8 0, .int .u8 0] 46)) = W at *
    have c0 : W.cell? ⟨w.heap.size, 0, none⟩ = some (.int .u8 0) := blk_cell B.out 0
    have c1 : W.cell? ⟨w.heap.size, 1, none⟩ = some (.int .u8 0) := blk_cell B.out 1
    have c2 : W.cell? ⟨w.heap.size, 2, none⟩ = some (.int .u8 0) := blk_cell B.out 2
    have f0 : W.frozen? ⟨w.heap.size, 0, none⟩ = false := blk_frozen B.out 0
    have f1 : W.frozen? ⟨w.heap.size, 1, none⟩ = false := blk_frozen B.out 1
    have f2 : W.frozen? ⟨w.heap.size, 2, none⟩ = false := blk_frozen B.out 2
    refine wp_loop_rounds 4 ?_
    rw [rounds_succ]; go_wp2
    rw [rounds_succ]; go_wp2
    rw [rounds_succ]; go_wp2
    rw [rounds_succ]; go_wp2
    have B2 := Aside0.mk (blk_put (blk_put (blk_put (blk_put B.out 0 (.int .u8 45) rfl) 1 (.int .u8 45) rfl) 2 (.int .u8 45) rfl) 2 (.int .u8 (((⟨#[76, 87, 83]⟩ : ByteArray)[2]).toNat : Int)) rfl)
    have HB2 := Aside0.mk (Below.setCell (p := ⟨w.heap.size, 2, none⟩) (Below.setCell (p := ⟨w.heap.size, 2, none⟩) (Below.setCell (p := ⟨w.heap.size, 1, none⟩) (Below.setCell (p := ⟨w.heap.size, 0, none⟩) HBel.out (Nat.le_refl _) (.int .u8 45)) (Nat.le_refl _) (.int .u8 45)) (Nat.le_refl _) (.int .u8 45)) (Nat.le_refl _) (.int .u8 (((⟨#[76, 87, 83]⟩ : ByteArray)[2]).toNat : Int)))
    clear c0 c1 c2 f0 f1 f2
    generalize ((((W.setCell ⟨w.heap.size, 0, none⟩ (.int .u8 45)).setCell ⟨w.heap.size, 1, none⟩ (.int .u8 45)).setCell ⟨w.heap.size, 2, none⟩ (.int .u8 45)).setCell ⟨w.heap.size, 2, none⟩ (.int .u8 (((⟨#[76, 87, 83]⟩ : ByteArray)[2]).toNat : Int))) = W2 at *
    have HT2 := Aside0.mk (HTab.out.below HB2.out)
    have hcv0 := HC.out _ (blk_drew B2.out)
    go_region_with (go_at_call 22; refine (itoa_any (a / 8) (by have := HR.out; omega) (by have := HR.out; omega) _ (HT2.out.drewN 1)).mono ?_; rw [← HSI.out]; rintro e w1 ⟨rfl, hb1⟩; have hcv1 := HC.out w1 (blk_below (blk_drew B2.out) hb1))
    all_goals go_wp2
    all_goals go_ret2
    all_goals exact ⟨by rw [HTx.out, HSS.out, HSI.out, ← ba_app]; rfl, HB2.out.trans (below_drew (Below.refl _ _) |>.trans (hb1.mono (by have := HB2.out.size; simpa using this)))⟩
  · replace q0 := q0.symm
    replace q1 := q1.symm
    replace q2 := q2.symm
    obtain ⟨ss, hss⟩ : ∃ ss : ByteArray, ss = ⟨#[45, 87, 45]⟩ := ⟨_, rfl⟩
    have HC : Aside0 (∀ V : World, V.heap[w.heap.size]? = some (.cells #[.int .u8 (45 : UInt8).toNat, .int .u8 (87 : UInt8).toNat, .int .u8 (45 : UInt8).toNat] 46 (0, 0)) → (convert 47 9 (.slice (some ⟨w.heap.size, 0, none⟩) 3 3)).run Tryd.prog V = .ok (.string ss) V) := ⟨fun V hV => by rw [hss]; exact conv_any w.heap.size 45 87 45 V hV⟩
    have hsum : ss.size + si.size ≤ 9223372036854775807 := by have : ss.size = 3 := (by rw [hss]; rfl); omega
    have HSS := Aside0.mk hss
    clear hss
    go_enter Tryd.func8, Tryd.ntmps8
    go_wp2_with fail
    refine (isWord_any a _).mono ?_
    rw [h]
    rintro e w1 ⟨rfl, hw⟩
    obtain rfl := hw.symm
    have B := Aside0.mk (blk_new w (.cells #[.int .u8 0, .int .u8 0, .int .u8 0] 46))
    have HBel := Aside0.mk ((Below.refl w.heap.size w).alloc (Nat.le_refl _) (.cells #[.int .u8 0, .int .u8 0, .int .u8 0] 46))
    go_wp2
    generalize (w.alloc (.cells #[.int .u8 0, .int .u8 0, .int .u8 0] 46)) = W at *
    have c0 : W.cell? ⟨w.heap.size, 0, none⟩ = some (.int .u8 0) := blk_cell B.out 0
    have c1 : W.cell? ⟨w.heap.size, 1, none⟩ = some (.int .u8 0) := blk_cell B.out 1
    have c2 : W.cell? ⟨w.heap.size, 2, none⟩ = some (.int .u8 0) := blk_cell B.out 2
    have f0 : W.frozen? ⟨w.heap.size, 0, none⟩ = false := blk_frozen B.out 0
    have f1 : W.frozen? ⟨w.heap.size, 1, none⟩ = false := blk_frozen B.out 1
    have f2 : W.frozen? ⟨w.heap.size, 2, none⟩ = false := blk_frozen B.out 2
    refine wp_loop_rounds 4 ?_
    rw [rounds_succ]; go_wp2
    rw [rounds_succ]; go_wp2
    rw [rounds_succ]; go_wp2
    rw [rounds_succ]; go_wp2
    have B2 := Aside0.mk (blk_put (blk_put (blk_put (blk_put B.out 0 (.int .u8 45) rfl) 1 (.int .u8 45) rfl) 1 (.int .u8 (((⟨#[76, 87, 83]⟩ : ByteArray)[1]).toNat : Int)) rfl) 2 (.int .u8 45) rfl)
    have HB2 := Aside0.mk (Below.setCell (p := ⟨w.heap.size, 2, none⟩) (Below.setCell (p := ⟨w.heap.size, 1, none⟩) (Below.setCell (p := ⟨w.heap.size, 1, none⟩) (Below.setCell (p := ⟨w.heap.size, 0, none⟩) HBel.out (Nat.le_refl _) (.int .u8 45)) (Nat.le_refl _) (.int .u8 45)) (Nat.le_refl _) (.int .u8 (((⟨#[76, 87, 83]⟩ : ByteArray)[1]).toNat : Int))) (Nat.le_refl _) (.int .u8 45))
    clear c0 c1 c2 f0 f1 f2
    generalize ((((W.setCell ⟨w.heap.size, 0, none⟩ (.int .u8 45)).setCell ⟨w.heap.size, 1, none⟩ (.int .u8 45)).setCell ⟨w.heap.size, 1, none⟩ (.int .u8 (((⟨#[76, 87, 83]⟩ : ByteArray)[1]).toNat : Int))).setCell ⟨w.heap.size, 2, none⟩ (.int .u8 45)) = W2 at *
    have HT2 := Aside0.mk (HTab.out.below HB2.out)
    have hcv0 := HC.out _ (blk_drew B2.out)
    go_region_with (go_at_call 22; refine (itoa_any (a / 8) (by have := HR.out; omega) (by have := HR.out; omega) _ (HT2.out.drewN 1)).mono ?_; rw [← HSI.out]; rintro e w1 ⟨rfl, hb1⟩; have hcv1 := HC.out w1 (blk_below (blk_drew B2.out) hb1))
    all_goals go_wp2
    all_goals go_ret2
    all_goals exact ⟨by rw [HTx.out, HSS.out, HSI.out, ← ba_app]; rfl, HB2.out.trans (below_drew (Below.refl _ _) |>.trans (hb1.mono (by have := HB2.out.size; simpa using this)))⟩
  · replace q0 := q0.symm
    replace q1 := q1.symm
    replace q2 := q2.symm
    obtain ⟨ss, hss⟩ : ∃ ss : ByteArray, ss = ⟨#[45, 87, 83]⟩ := ⟨_, rfl⟩
    have HC : Aside0 (∀ V : World, V.heap[w.heap.size]? = some (.cells #[.int .u8 (45 : UInt8).toNat, .int .u8 (87 : UInt8).toNat, .int .u8 (83 : UInt8).toNat] 46 (0, 0)) → (convert 47 9 (.slice (some ⟨w.heap.size, 0, none⟩) 3 3)).run Tryd.prog V = .ok (.string ss) V) := ⟨fun V hV => by rw [hss]; exact conv_any w.heap.size 45 87 83 V hV⟩
    have hsum : ss.size + si.size ≤ 9223372036854775807 := by have : ss.size = 3 := (by rw [hss]; rfl); omega
    have HSS := Aside0.mk hss
    clear hss
    go_enter Tryd.func8, Tryd.ntmps8
    go_wp2_with fail
    refine (isWord_any a _).mono ?_
    rw [h]
    rintro e w1 ⟨rfl, hw⟩
    obtain rfl := hw.symm
    have B := Aside0.mk (blk_new w (.cells #[.int .u8 0, .int .u8 0, .int .u8 0] 46))
    have HBel := Aside0.mk ((Below.refl w.heap.size w).alloc (Nat.le_refl _) (.cells #[.int .u8 0, .int .u8 0, .int .u8 0] 46))
    go_wp2
    generalize (w.alloc (.cells #[.int .u8 0, .int .u8 0, .int .u8 0] 46)) = W at *
    have c0 : W.cell? ⟨w.heap.size, 0, none⟩ = some (.int .u8 0) := blk_cell B.out 0
    have c1 : W.cell? ⟨w.heap.size, 1, none⟩ = some (.int .u8 0) := blk_cell B.out 1
    have c2 : W.cell? ⟨w.heap.size, 2, none⟩ = some (.int .u8 0) := blk_cell B.out 2
    have f0 : W.frozen? ⟨w.heap.size, 0, none⟩ = false := blk_frozen B.out 0
    have f1 : W.frozen? ⟨w.heap.size, 1, none⟩ = false := blk_frozen B.out 1
    have f2 : W.frozen? ⟨w.heap.size, 2, none⟩ = false := blk_frozen B.out 2
    refine wp_loop_rounds 4 ?_
    rw [rounds_succ]; go_wp2
    rw [rounds_succ]; go_wp2
    rw [rounds_succ]; go_wp2
    rw [rounds_succ]; go_wp2
    have B2 := Aside0.mk (blk_put (blk_put (blk_put (blk_put (blk_put B.out 0 (.int .u8 45) rfl) 1 (.int .u8 45) rfl) 1 (.int .u8 (((⟨#[76, 87, 83]⟩ : ByteArray)[1]).toNat : Int)) rfl) 2 (.int .u8 45) rfl) 2 (.int .u8 (((⟨#[76, 87, 83]⟩ : ByteArray)[2]).toNat : Int)) rfl)
    have HB2 := Aside0.mk (Below.setCell (p := ⟨w.heap.size, 2, none⟩) (Below.setCell (p := ⟨w.heap.size, 2, none⟩) (Below.setCell (p := ⟨w.heap.size, 1, none⟩) (Below.setCell (p := ⟨w.heap.size, 1, none⟩) (Below.setCell (p := ⟨w.heap.size, 0, none⟩) HBel.out (Nat.le_refl _) (.int .u8 45)) (Nat.le_refl _) (.int .u8 45)) (Nat.le_refl _) (.int .u8 (((⟨#[76, 87, 83]⟩ : ByteArray)[1]).toNat : Int))) (Nat.le_refl _) (.int .u8 45)) (Nat.le_refl _) (.int .u8 (((⟨#[76, 87, 83]⟩ : ByteArray)[2]).toNat : Int)))
    clear c0 c1 c2 f0 f1 f2
    generalize (((((W.setCell ⟨w.heap.size, 0, none⟩ (.int .u8 45)).setCell ⟨w.heap.size, 1, none⟩ (.int .u8 45)).setCell ⟨w.heap.size, 1, none⟩ (.int .u8 (((⟨#[76, 87, 83]⟩ : ByteArray)[1]).toNat : Int))).setCell ⟨w.heap.size, 2, none⟩ (.int .u8 45)).setCell ⟨w.heap.size, 2, none⟩ (.int .u8 (((⟨#[76, 87, 83]⟩ : ByteArray)[2]).toNat : Int))) = W2 at *
    have HT2 := Aside0.mk (HTab.out.below HB2.out)
    have hcv0 := HC.out _ (blk_drew B2.out)
    go_region_with (go_at_call 22; refine (itoa_any (a / 8) (by have := HR.out; omega) (by have := HR.out; omega) _ (HT2.out.drewN 1)).mono ?_; rw [← HSI.out]; rintro e w1 ⟨rfl, hb1⟩; have hcv1 := HC.out w1 (blk_below (blk_drew B2.out) hb1))
    all_goals go_wp2
    all_goals go_ret2
    all_goals exact ⟨by rw [HTx.out, HSS.out, HSI.out, ← ba_app]; rfl, HB2.out.trans (below_drew (Below.refl _ _) |>.trans (hb1.mono (by have := HB2.out.size; simpa using this)))⟩
  · replace q0 := q0.symm
    replace q1 := q1.symm
    replace q2 := q2.symm
    obtain ⟨ss, hss⟩ : ∃ ss : ByteArray, ss = ⟨#[76, 45, 45]⟩ := ⟨_, rfl⟩
    have HC : Aside0 (∀ V : World, V.heap[w.heap.size]? = some (.cells #[.int .u8 (76 : UInt8).toNat, .int .u8 (45 : UInt8).toNat, .int .u8 (45 : UInt8).toNat] 46 (0, 0)) → (convert 47 9 (.slice (some ⟨w.heap.size, 0, none⟩) 3 3)).run Tryd.prog V = .ok (.string ss) V) := ⟨fun V hV => by rw [hss]; exact conv_any w.heap.size 76 45 45 V hV⟩
    have hsum : ss.size + si.size ≤ 9223372036854775807 := by have : ss.size = 3 := (by rw [hss]; rfl); omega
    have HSS := Aside0.mk hss
    clear hss
    go_enter Tryd.func8, Tryd.ntmps8
    go_wp2_with fail
    refine (isWord_any a _).mono ?_
    rw [h]
    rintro e w1 ⟨rfl, hw⟩
    obtain rfl := hw.symm
    have B := Aside0.mk (blk_new w (.cells #[.int .u8 0, .int .u8 0, .int .u8 0] 46))
    have HBel := Aside0.mk ((Below.refl w.heap.size w).alloc (Nat.le_refl _) (.cells #[.int .u8 0, .int .u8 0, .int .u8 0] 46))
    go_wp2
    generalize (w.alloc (.cells #[.int .u8 0, .int .u8 0, .int .u8 0] 46)) = W at *
    have c0 : W.cell? ⟨w.heap.size, 0, none⟩ = some (.int .u8 0) := blk_cell B.out 0
    have c1 : W.cell? ⟨w.heap.size, 1, none⟩ = some (.int .u8 0) := blk_cell B.out 1
    have c2 : W.cell? ⟨w.heap.size, 2, none⟩ = some (.int .u8 0) := blk_cell B.out 2
    have f0 : W.frozen? ⟨w.heap.size, 0, none⟩ = false := blk_frozen B.out 0
    have f1 : W.frozen? ⟨w.heap.size, 1, none⟩ = false := blk_frozen B.out 1
    have f2 : W.frozen? ⟨w.heap.size, 2, none⟩ = false := blk_frozen B.out 2
    refine wp_loop_rounds 4 ?_
    rw [rounds_succ]; go_wp2
    rw [rounds_succ]; go_wp2
    rw [rounds_succ]; go_wp2
    rw [rounds_succ]; go_wp2
    have B2 := Aside0.mk (blk_put (blk_put (blk_put (blk_put B.out 0 (.int .u8 45) rfl) 0 (.int .u8 (((⟨#[76, 87, 83]⟩ : ByteArray)[0]).toNat : Int)) rfl) 1 (.int .u8 45) rfl) 2 (.int .u8 45) rfl)
    have HB2 := Aside0.mk (Below.setCell (p := ⟨w.heap.size, 2, none⟩) (Below.setCell (p := ⟨w.heap.size, 1, none⟩) (Below.setCell (p := ⟨w.heap.size, 0, none⟩) (Below.setCell (p := ⟨w.heap.size, 0, none⟩) HBel.out (Nat.le_refl _) (.int .u8 45)) (Nat.le_refl _) (.int .u8 (((⟨#[76, 87, 83]⟩ : ByteArray)[0]).toNat : Int))) (Nat.le_refl _) (.int .u8 45)) (Nat.le_refl _) (.int .u8 45))
    clear c0 c1 c2 f0 f1 f2
    generalize ((((W.setCell ⟨w.heap.size, 0, none⟩ (.int .u8 45)).setCell ⟨w.heap.size, 0, none⟩ (.int .u8 (((⟨#[76, 87, 83]⟩ : ByteArray)[0]).toNat : Int))).setCell ⟨w.heap.size, 1, none⟩ (.int .u8 45)).setCell ⟨w.heap.size, 2, none⟩ (.int .u8 45)) = W2 at *
    have HT2 := Aside0.mk (HTab.out.below HB2.out)
    have hcv0 := HC.out _ (blk_drew B2.out)
    go_region_with (go_at_call 22; refine (itoa_any (a / 8) (by have := HR.out; omega) (by have := HR.out; omega) _ (HT2.out.drewN 1)).mono ?_; rw [← HSI.out]; rintro e w1 ⟨rfl, hb1⟩; have hcv1 := HC.out w1 (blk_below (blk_drew B2.out) hb1))
    all_goals go_wp2
    all_goals go_ret2
    all_goals exact ⟨by rw [HTx.out, HSS.out, HSI.out, ← ba_app]; rfl, HB2.out.trans (below_drew (Below.refl _ _) |>.trans (hb1.mono (by have := HB2.out.size; simpa using this)))⟩
  · replace q0 := q0.symm
    replace q1 := q1.symm
    replace q2 := q2.symm
    obtain ⟨ss, hss⟩ : ∃ ss : ByteArray, ss = ⟨#[76, 45, 83]⟩ := ⟨_, rfl⟩
    have HC : Aside0 (∀ V : World, V.heap[w.heap.size]? = some (.cells #[.int .u8 (76 : UInt8).toNat, .int .u8 (45 : UInt8).toNat, .int .u8 (83 : UInt8).toNat] 46 (0, 0)) → (convert 47 9 (.slice (some ⟨w.heap.size, 0, none⟩) 3 3)).run Tryd.prog V = .ok (.string ss) V) := ⟨fun V hV => by rw [hss]; exact conv_any w.heap.size 76 45 83 V hV⟩
    have hsum : ss.size + si.size ≤ 9223372036854775807 := by have : ss.size = 3 := (by rw [hss]; rfl); omega
    have HSS := Aside0.mk hss
    clear hss
    go_enter Tryd.func8, Tryd.ntmps8
    go_wp2_with fail
    refine (isWord_any a _).mono ?_
    rw [h]
    rintro e w1 ⟨rfl, hw⟩
    obtain rfl := hw.symm
    have B := Aside0.mk (blk_new w (.cells #[.int .u8 0, .int .u8 0, .int .u8 0] 46))
    have HBel := Aside0.mk ((Below.refl w.heap.size w).alloc (Nat.le_refl _) (.cells #[.int .u8 0, .int .u8 0, .int .u8 0] 46))
    go_wp2
    generalize (w.alloc (.cells #[.int .u8 0, .int .u8 0, .int .u8 0] 46)) = W at *
    have c0 : W.cell? ⟨w.heap.size, 0, none⟩ = some (.int .u8 0) := blk_cell B.out 0
    have c1 : W.cell? ⟨w.heap.size, 1, none⟩ = some (.int .u8 0) := blk_cell B.out 1
    have c2 : W.cell? ⟨w.heap.size, 2, none⟩ = some (.int .u8 0) := blk_cell B.out 2
    have f0 : W.frozen? ⟨w.heap.size, 0, none⟩ = false := blk_frozen B.out 0
    have f1 : W.frozen? ⟨w.heap.size, 1, none⟩ = false := blk_frozen B.out 1
    have f2 : W.frozen? ⟨w.heap.size, 2, none⟩ = false := blk_frozen B.out 2
    refine wp_loop_rounds 4 ?_
    rw [rounds_succ]; go_wp2
    rw [rounds_succ]; go_wp2
    rw [rounds_succ]; go_wp2
    rw [rounds_succ]; go_wp2
    have B2 := Aside0.mk (blk_put (blk_put (blk_put (blk_put (blk_put B.out 0 (.int .u8 45) rfl) 0 (.int .u8 (((⟨#[76, 87, 83]⟩ : ByteArray)[0]).toNat : Int)) rfl) 1 (.int .u8 45) rfl) 2 (.int .u8 45) rfl) 2 (.int .u8 (((⟨#[76, 87, 83]⟩ : ByteArray)[2]).toNat : Int)) rfl)
    have HB2 := Aside0.mk (Below.setCell (p := ⟨w.heap.size, 2, none⟩) (Below.setCell (p := ⟨w.heap.size, 2, none⟩) (Below.setCell (p := ⟨w.heap.size, 1, none⟩) (Below.setCell (p := ⟨w.heap.size, 0, none⟩) (Below.setCell (p := ⟨w.heap.size, 0, none⟩) HBel.out (Nat.le_refl _) (.int .u8 45)) (Nat.le_refl _) (.int .u8 (((⟨#[76, 87, 83]⟩ : ByteArray)[0]).toNat : Int))) (Nat.le_refl _) (.int .u8 45)) (Nat.le_refl _) (.int .u8 45)) (Nat.le_refl _) (.int .u8 (((⟨#[76, 87, 83]⟩ : ByteArray)[2]).toNat : Int)))
    clear c0 c1 c2 f0 f1 f2
    generalize (((((W.setCell ⟨w.heap.size, 0, none⟩ (.int .u8 45)).setCell ⟨w.heap.size, 0, none⟩ (.int .u8 (((⟨#[76, 87, 83]⟩ : ByteArray)[0]).toNat : Int))).setCell ⟨w.heap.size, 1, none⟩ (.int .u8 45)).setCell ⟨w.heap.size, 2, none⟩ (.int .u8 45)).setCell ⟨w.heap.size, 2, none⟩ (.int .u8 (((⟨#[76, 87, 83]⟩ : ByteArray)[2]).toNat : Int))) = W2 at *
    have HT2 := Aside0.mk (HTab.out.below HB2.out)
    have hcv0 := HC.out _ (blk_drew B2.out)
    go_region_with (go_at_call 22; refine (itoa_any (a / 8) (by have := HR.out; omega) (by have := HR.out; omega) _ (HT2.out.drewN 1)).mono ?_; rw [← HSI.out]; rintro e w1 ⟨rfl, hb1⟩; have hcv1 := HC.out w1 (blk_below (blk_drew B2.out) hb1))
    all_goals go_wp2
    all_goals go_ret2
    all_goals exact ⟨by rw [HTx.out, HSS.out, HSI.out, ← ba_app]; rfl, HB2.out.trans (below_drew (Below.refl _ _) |>.trans (hb1.mono (by have := HB2.out.size; simpa using this)))⟩
  · replace q0 := q0.symm
    replace q1 := q1.symm
    replace q2 := q2.symm
    obtain ⟨ss, hss⟩ : ∃ ss : ByteArray, ss = ⟨#[76, 87, 45]⟩ := ⟨_, rfl⟩
    have HC : Aside0 (∀ V : World, V.heap[w.heap.size]? = some (.cells #[.int .u8 (76 : UInt8).toNat, .int .u8 (87 : UInt8).toNat, .int .u8 (45 : UInt8).toNat] 46 (0, 0)) → (convert 47 9 (.slice (some ⟨w.heap.size, 0, none⟩) 3 3)).run Tryd.prog V = .ok (.string ss) V) := ⟨fun V hV => by rw [hss]; exact conv_any w.heap.size 76 87 45 V hV⟩
    have hsum : ss.size + si.size ≤ 9223372036854775807 := by have : ss.size = 3 := (by rw [hss]; rfl); omega
    have HSS := Aside0.mk hss
    clear hss
    go_enter Tryd.func8, Tryd.ntmps8
    go_wp2_with fail
    refine (isWord_any a _).mono ?_
    rw [h]
    rintro e w1 ⟨rfl, hw⟩
    obtain rfl := hw.symm
    have B := Aside0.mk (blk_new w (.cells #[.int .u8 0, .int .u8 0, .int .u8 0] 46))
    have HBel := Aside0.mk ((Below.refl w.heap.size w).alloc (Nat.le_refl _) (.cells #[.int .u8 0, .int .u8 0, .int .u8 0] 46))
    go_wp2
    generalize (w.alloc (.cells #[.int .u8 0, .int .u8 0, .int .u8 0] 46)) = W at *
    have c0 : W.cell? ⟨w.heap.size, 0, none⟩ = some (.int .u8 0) := blk_cell B.out 0
    have c1 : W.cell? ⟨w.heap.size, 1, none⟩ = some (.int .u8 0) := blk_cell B.out 1
    have c2 : W.cell? ⟨w.heap.size, 2, none⟩ = some (.int .u8 0) := blk_cell B.out 2
    have f0 : W.frozen? ⟨w.heap.size, 0, none⟩ = false := blk_frozen B.out 0
    have f1 : W.frozen? ⟨w.heap.size, 1, none⟩ = false := blk_frozen B.out 1
    have f2 : W.frozen? ⟨w.heap.size, 2, none⟩ = false := blk_frozen B.out 2
    refine wp_loop_rounds 4 ?_
    rw [rounds_succ]; go_wp2
    rw [rounds_succ]; go_wp2
    rw [rounds_succ]; go_wp2
    rw [rounds_succ]; go_wp2
    have B2 := Aside0.mk (blk_put (blk_put (blk_put (blk_put (blk_put B.out 0 (.int .u8 45) rfl) 0 (.int .u8 (((⟨#[76, 87, 83]⟩ : ByteArray)[0]).toNat : Int)) rfl) 1 (.int .u8 45) rfl) 1 (.int .u8 (((⟨#[76, 87, 83]⟩ : ByteArray)[1]).toNat : Int)) rfl) 2 (.int .u8 45) rfl)
    have HB2 := Aside0.mk (Below.setCell (p := ⟨w.heap.size, 2, none⟩) (Below.setCell (p := ⟨w.heap.size, 1, none⟩) (Below.setCell (p := ⟨w.heap.size, 1, none⟩) (Below.setCell (p := ⟨w.heap.size, 0, none⟩) (Below.setCell (p := ⟨w.heap.size, 0, none⟩) HBel.out (Nat.le_refl _) (.int .u8 45)) (Nat.le_refl _) (.int .u8 (((⟨#[76, 87, 83]⟩ : ByteArray)[0]).toNat : Int))) (Nat.le_refl _) (.int .u8 45)) (Nat.le_refl _) (.int .u8 (((⟨#[76, 87, 83]⟩ : ByteArray)[1]).toNat : Int))) (Nat.le_refl _) (.int .u8 45))
    clear c0 c1 c2 f0 f1 f2
    generalize (((((W.setCell ⟨w.heap.size, 0, none⟩ (.int .u8 45)).setCell ⟨w.heap.size, 0, none⟩ (.int .u8 (((⟨#[76, 87, 83]⟩ : ByteArray)[0]).toNat : Int))).setCell ⟨w.heap.size, 1, none⟩ (.int .u8 45)).setCell ⟨w.heap.size, 1, none⟩ (.int .u8 (((⟨#[76, 87, 83]⟩ : ByteArray)[1]).toNat : Int))).setCell ⟨w.heap.size, 2, none⟩ (.int .u8 45)) = W2 at *
    have HT2 := Aside0.mk (HTab.out.below HB2.out)
    have hcv0 := HC.out _ (blk_drew B2.out)
    go_region_with (go_at_call 22; refine (itoa_any (a / 8) (by have := HR.out; omega) (by have := HR.out; omega) _ (HT2.out.drewN 1)).mono ?_; rw [← HSI.out]; rintro e w1 ⟨rfl, hb1⟩; have hcv1 := HC.out w1 (blk_below (blk_drew B2.out) hb1))
    all_goals go_wp2
    all_goals go_ret2
    all_goals exact ⟨by rw [HTx.out, HSS.out, HSI.out, ← ba_app]; rfl, HB2.out.trans (below_drew (Below.refl _ _) |>.trans (hb1.mono (by have := HB2.out.size; simpa using this)))⟩
  · replace q0 := q0.symm
    replace q1 := q1.symm
    replace q2 := q2.symm
    obtain ⟨ss, hss⟩ : ∃ ss : ByteArray, ss = ⟨#[76, 87, 83]⟩ := ⟨_, rfl⟩
    have HC : Aside0 (∀ V : World, V.heap[w.heap.size]? = some (.cells #[.int .u8 (76 : UInt8).toNat, .int .u8 (87 : UInt8).toNat, .int .u8 (83 : UInt8).toNat] 46 (0, 0)) → (convert 47 9 (.slice (some ⟨w.heap.size, 0, none⟩) 3 3)).run Tryd.prog V = .ok (.string ss) V) := ⟨fun V hV => by rw [hss]; exact conv_any w.heap.size 76 87 83 V hV⟩
    have hsum : ss.size + si.size ≤ 9223372036854775807 := by have : ss.size = 3 := (by rw [hss]; rfl); omega
    have HSS := Aside0.mk hss
    clear hss
    go_enter Tryd.func8, Tryd.ntmps8
    go_wp2_with fail
    refine (isWord_any a _).mono ?_
    rw [h]
    rintro e w1 ⟨rfl, hw⟩
    obtain rfl := hw.symm
    have B := Aside0.mk (blk_new w (.cells #[.int .u8 0, .int .u8 0, .int .u8 0] 46))
    have HBel := Aside0.mk ((Below.refl w.heap.size w).alloc (Nat.le_refl _) (.cells #[.int .u8 0, .int .u8 0, .int .u8 0] 46))
    go_wp2
    generalize (w.alloc (.cells #[.int .u8 0, .int .u8 0, .int .u8 0] 46)) = W at *
    have c0 : W.cell? ⟨w.heap.size, 0, none⟩ = some (.int .u8 0) := blk_cell B.out 0
    have c1 : W.cell? ⟨w.heap.size, 1, none⟩ = some (.int .u8 0) := blk_cell B.out 1
    have c2 : W.cell? ⟨w.heap.size, 2, none⟩ = some (.int .u8 0) := blk_cell B.out 2
    have f0 : W.frozen? ⟨w.heap.size, 0, none⟩ = false := blk_frozen B.out 0
    have f1 : W.frozen? ⟨w.heap.size, 1, none⟩ = false := blk_frozen B.out 1
    have f2 : W.frozen? ⟨w.heap.size, 2, none⟩ = false := blk_frozen B.out 2
    refine wp_loop_rounds 4 ?_
    rw [rounds_succ]; go_wp2
    rw [rounds_succ]; go_wp2
    rw [rounds_succ]; go_wp2
    rw [rounds_succ]; go_wp2
    have B2 := Aside0.mk (blk_put (blk_put (blk_put (blk_put (blk_put (blk_put B.out 0 (.int .u8 45) rfl) 0 (.int .u8 (((⟨#[76, 87, 83]⟩ : ByteArray)[0]).toNat : Int)) rfl) 1 (.int .u8 45) rfl) 1 (.int .u8 (((⟨#[76, 87, 83]⟩ : ByteArray)[1]).toNat : Int)) rfl) 2 (.int .u8 45) rfl) 2 (.int .u8 (((⟨#[76, 87, 83]⟩ : ByteArray)[2]).toNat : Int)) rfl)
    have HB2 := Aside0.mk (Below.setCell (p := ⟨w.heap.size, 2, none⟩) (Below.setCell (p := ⟨w.heap.size, 2, none⟩) (Below.setCell (p := ⟨w.heap.size, 1, none⟩) (Below.setCell (p := ⟨w.heap.size, 1, none⟩) (Below.setCell (p := ⟨w.heap.size, 0, none⟩) (Below.setCell (p := ⟨w.heap.size, 0, none⟩) HBel.out (Nat.le_refl _) (.int .u8 45)) (Nat.le_refl _) (.int .u8 (((⟨#[76, 87, 83]⟩ : ByteArray)[0]).toNat : Int))) (Nat.le_refl _) (.int .u8 45)) (Nat.le_refl _) (.int .u8 (((⟨#[76, 87, 83]⟩ : ByteArray)[1]).toNat : Int))) (Nat.le_refl _) (.int .u8 45)) (Nat.le_refl _) (.int .u8 (((⟨#[76, 87, 83]⟩ : ByteArray)[2]).toNat : Int)))
    clear c0 c1 c2 f0 f1 f2
    generalize ((((((W.setCell ⟨w.heap.size, 0, none⟩ (.int .u8 45)).setCell ⟨w.heap.size, 0, none⟩ (.int .u8 (((⟨#[76, 87, 83]⟩ : ByteArray)[0]).toNat : Int))).setCell ⟨w.heap.size, 1, none⟩ (.int .u8 45)).setCell ⟨w.heap.size, 1, none⟩ (.int .u8 (((⟨#[76, 87, 83]⟩ : ByteArray)[1]).toNat : Int))).setCell ⟨w.heap.size, 2, none⟩ (.int .u8 45)).setCell ⟨w.heap.size, 2, none⟩ (.int .u8 (((⟨#[76, 87, 83]⟩ : ByteArray)[2]).toNat : Int))) = W2 at *
    have HT2 := Aside0.mk (HTab.out.below HB2.out)
    have hcv0 := HC.out _ (blk_drew B2.out)
    go_region_with (go_at_call 22; refine (itoa_any (a / 8) (by have := HR.out; omega) (by have := HR.out; omega) _ (HT2.out.drewN 1)).mono ?_; rw [← HSI.out]; rintro e w1 ⟨rfl, hb1⟩; have hcv1 := HC.out w1 (blk_below (blk_drew B2.out) hb1))
    all_goals go_wp2
    all_goals go_ret2
    all_goals exact ⟨by rw [HTx.out, HSS.out, HSI.out, ← ba_app]; rfl, HB2.out.trans (below_drew (Below.refl _ _) |>.trans (hb1.mono (by have := HB2.out.size; simpa using this)))⟩

def flags_Text.f (a0 : Int) : Option (ByteArray × Int) := some (if isW a0 = true then (textOf a0, 0) else (ByteArray.empty, 1))
theorem flags_Text.calls (a0 : Int) (r1 : ByteArray) (r2 : Int) (w : World) (h : flags_Text.f a0 = some (r1, r2)) (hT : Tabs w) :
    Calls Tryd.prog 8 #[.int .i64 a0] w fun e w' => e = .returned (.tuple #[.string r1, .int .i64 r2]) ∧ Below w.heap.size w w' := by
  have h' := Option.some.inj h
  by_cases hw : isW a0 = true
  · rw [if_pos hw] at h'
    simp only [Prod.mk.injEq] at h'
    obtain ⟨rfl, rfl⟩ := h'
    exact Text_ok a0 w hT hw
  · rw [if_neg hw] at h'
    simp only [Prod.mk.injEq] at h'
    obtain ⟨rfl, rfl⟩ := h'
    exact Text_bad a0 w (by simpa using hw)

end Go.Proofs.YtiejbkplnbefkaaDoor.Hand
