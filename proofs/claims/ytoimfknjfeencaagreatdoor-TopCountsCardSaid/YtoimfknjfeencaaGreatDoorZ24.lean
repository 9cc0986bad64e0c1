/- Part of the walk of a law of the top, and what it leans on (Script1, Script2). No conditions beyond those that each lemma names. -/
import Derived.Test.YtoimfknjfeencaaGreatDoorZ04
import Derived.LoopIn
import Derived.LoopNIn
import Derived.Maps.AppendAt
import Derived.OwnWalkIn
import Derived.RangeFuncBound
import Derived.RangeFuncCalls
import Derived.RangeFuncLeaves
import Derived.RangeFuncNested
import Derived.Shelf.Abstract
import Derived.Shelf.RegionOpen
import Derived.TacticsInMore
import Derived.Test.YtoimfknjfeencaaGreatDoorProg
import Derived.WalkKit
set_option linter.unusedVariables false
set_option linter.unusedSimpArgs false
set_option maxHeartbeats 8000000
set_option maxRecDepth 100000
section
namespace Go.Proofs.YtoimfknjfeencaaGreatDoor.Hand
open Go Go.RowKit Go.Shelf Go.Proofs.YtoimfknjfeencaaGreatDoorW.PrintWords Go.Proofs.YtoimfknjfeencaaGreatDoorW.PrintLast Go.Proofs.YtoimfknjfeencaaGreatDoorW.PrintMore
section
attribute [local go_sem] Oper.semAt_some
def pickOf (v : Int) : Int × Int := if 0 ≤ v then (0, v % 16) else (1, -(max v (-4611686018427387904)))
theorem read_in (F : Fence) (n : Nat) (h : F.fn 134) (hro : F.round = none) (v : Int) (w : World) (h0 : -9223372036854775808 ≤ v) (h1 : v ≤ 9223372036854775807) :
  CallsIn F n Tryz.prog 134 #[.int .i64 v] w fun e w' => e = .returned (.agg #[.int .i64 (pickOf v).1, .int .i64 (pickOf v).2]) ∧ Below w.heap.size w w' := by
 refine callsIn_of_wp Tryz.func134 rfl h ?_ hro
 simp only [Tryz.ntmps134, List.size_toArray, List.length_cons, List.length_nil, Nat.reduceAdd, Nat.reduceSub, Array.replicate_succ, Array.replicate_zero, List.push_toArray, List.append_toArray, List.nil_append, List.cons_append]
 have hu := Tryz.underlying133
 unfold pickOf
 by_cases hv : 0 ≤ v
 ·rw [if_pos hv]
  gi_wp2
  exact bodyPost_ret (results_single rfl (.cell w.heap.size 133 _ (0, 0) _ rfl (blk_new w _) Tryz.underlying133 rfl (by kernel_rfl) .nil)) rfl ⟨rfl, (Below.refl _ w).alloc (Nat.le_refl _) _⟩
 ·rw [if_neg hv]
  by_cases hm : v < -4611686018427387904
  ·rw [show max v (-4611686018427387904) = -4611686018427387904 by omega]
   gi_wp2
   all_goals exact bodyPost_ret (results_single rfl (.cell w.heap.size 133 _ (0, 0) _ rfl (blk_new w _) Tryz.underlying133 rfl (by kernel_rfl) .nil)) rfl ⟨rfl, (Below.refl _ w).alloc (Nat.le_refl _) _⟩
  ·rw [show max v (-4611686018427387904) = v by omega]
   gi_wp2
   all_goals exact bodyPost_ret (results_single rfl (.cell w.heap.size 133 _ (0, 0) _ rfl (blk_new w _) Tryz.underlying133 rfl (by kernel_rfl) .nil)) rfl ⟨rfl, (Below.refl _ w).alloc (Nat.le_refl _) _⟩
def uptoK {α : Type} (f : Nat → α) (k : Nat) : List α := (List.range k).map f
theorem uptoK_succ {α : Type} (f : Nat → α) (k : Nat) : uptoK f (k + 1) = uptoK f k ++ [f k] := by simp [uptoK, List.range_succ]
theorem uptoK_length {α : Type} (f : Nat → α) (k : Nat) : (uptoK f k).length = k := by simp [uptoK]
theorem uptoK_all {β : Type} (g : Int → β) (zs : List Int) : uptoK (fun j => g (zs[j]?.getD 0)) zs.length = zs.map g := by
 apply List.ext_getElem
 ·simp [uptoK]
 ·intro i h1 h2
  simp [uptoK] at h1 ⊢
  simp [h1]
theorem uptoK_take {β : Type} (g : Int → β) (zs : List Int) {k : Nat} (hk : k ≤ zs.length) : uptoK (fun j => g (zs[j]?.getD 0)) k = (zs.map g).take k := by
 apply List.ext_getElem
 ·simp [uptoK, hk]
 ·intro i h1 h2
  have : i < zs.length := by simp [uptoK] at h1; omega
  simp [uptoK, this]
theorem grown_of_below {W W1 : World} (h : Below W.heap.size W W1) : W.grownBy W1 none := ⟨h.os, h.tape, h.output, h.size, fun i hi _ => h.block i hi⟩
def encsP (x : Int × Int) : Array Value := #[.agg #[.int .i64 x.1, .int .i64 x.2]]
theorem picks1_in (F : Fence) (n : Nat) (h133 : F.fn 133) (h134 : F.fn 134) (hro : F.round = none) (hn : 2 ≤ n) (l Bs : Nat) (A : Option Addr) (cap : Nat) (zs : List Int) (w0 : World) (hlen : zs.length ≤ 20000) (hC : (Kd.int .i64).C w0 A zs.length zs)
  (hwf : ∀ z ∈ zs, -9223372036854775808 ≤ z ∧ z ≤ 9223372036854775807)
  (J Jx : List (Int × Int) → World → Prop) (hJ : ∀ pre A B, J pre A → A.grownBy B none → J pre B)
  (hY : ∀ pre x W, J pre W → pre.length < zs.length → YieldAt F (n - 1) Tryz.prog l (encsP x) W fun e W' =>
   (e = .returned (.bool true) ∧ J (pre ++ [x]) W' ∧ Below w0.heap.size W W') ∨ (e = .returned (.bool false) ∧ Jx (pre ++ [x]) W'))
  (W : World) (hW : Below w0.heap.size w0 W) (hBs : W.cell? ⟨Bs, 0, none⟩ = some (.slice A zs.length cap)) (h0 : J [] W) :
  CallsIn F n Tryz.prog 133 #[.func (.yield l) #[] #[], .pointer (some ⟨Bs, 0, none⟩)] W fun e W' => (∃ v, e = .returned v) ∧
   ((∃ ys, ys = uptoK (fun j => pickOf (zs[j]?.getD 0)) zs.length ∧ J ys W') ∨ (∃ pre, (∃ k, k ≤ zs.length ∧ pre = uptoK (fun j => pickOf (zs[j]?.getD 0)) k) ∧ Jx pre W')) := by
 refine callsIn_of_wp Tryz.func133 rfl h133 ?_ hro
 simp only [Tryz.ntmps133, List.size_toArray, List.length_cons, List.length_nil, Nat.reduceAdd, Nat.reduceSub, Array.replicate_succ, Array.replicate_zero, List.push_toArray, List.append_toArray, List.nil_append, List.cons_append]
 have h1 : 1 ≤ n := by omega
 gi_wp2
 gi_loopw [7] (fun i wr => ∃ k : Nat, k ≤ zs.length ∧ i = .int .i64 k ∧ J (uptoK (fun j => pickOf (zs[j]?.getD 0)) k) wr ∧ Below w0.heap.size w0 wr)
  (fun i _ => zs.length - (intOf i).toNat)
 case atStart => exact ⟨0, Nat.zero_le _, rfl, h0, hW⟩
 case round =>
  obtain ⟨k, hk, rfl, hJs, hnx⟩ := hrel
  by_cases hlt : k < zs.length
  ·obtain ⟨z, hz⟩ : ∃ z, zs[k]? = some z := ⟨_, List.getElem?_eq_getElem hlt⟩
   obtain ⟨ad, e, hcc⟩ := hC.2.2 (by omega)
   subst e
   obtain ⟨cs, hs, hK, hcell⟩ := hcc k z hz
   have hzg : zs[k]?.getD 0 = z := by rw [hz]; rfl
   have hwz := hwf z (List.mem_of_getElem? hz)
   obtain rfl : cs = [.int .i64 z] := hK
   have y0 : w0.cell? (ad.add k) = some (.int .i64 z) := by
    have := hcell 0 _ rfl
    have e1 : (Kd.int IntKind.i64).sz = 1 := rfl
    rw [e1, Nat.mul_one, Nat.add_zero] at this
    exact this
   have hcx := (hnx.cell (World.block_lt_of_cell? w0 _ y0)).trans y0
   have hkl : (k : Int) < (zs.length : Int) := by omega
   gi_wp2_with (gi_at_call 134; refine (read_in F (n - 1) h134 hro z _ hwz.1 hwz.2).mono ?_; rintro e W1 ⟨rfl, hb⟩; obtain ⟨fn, tmps, assign, body, hy, hR⟩ := hY _ (pickOf (zs[k]?.getD 0)) W1 (hJ _ _ _ hJs (grown_of_below hb)) (by rw [uptoK_length]; exact hlt); unfold encsP at hy; rw [hzg] at hy)
   refine hR.mono ?_
   rintro e W3 (⟨rfl, hJ3, hk3⟩ | ⟨rfl, hJx3⟩)
   ·gi_wp2
    go_roundw
    case rel => exact ⟨k + 1, by omega, by simp, by rw [uptoK_succ]; exact hJ3, (hnx.trans (hb.mono hnx.size)).trans hk3⟩
    case measure => simp [intOf]; omega
   ·gi_wp2
    refine bodyPost_ret (results_none rfl _ _ _) rfl ?_
    exact ⟨⟨_, rfl⟩, .inr ⟨_, ⟨k + 1, by omega, (uptoK_succ _ _).symm⟩, hJx3⟩⟩
  ·obtain rfl : k = zs.length := by omega
   gi_wp2
   go_end0
   exact ⟨⟨_, rfl⟩, .inl ⟨_, rfl, hJs⟩⟩
theorem picks_in (F : Fence) (n : Nat) (h : F.fn 101) (hro : F.round = none) (A : Option Addr) (len cap : Nat) (w : World) :
  CallsIn F n Tryz.prog 101 #[.slice A len cap] w fun e w' => e = .returned (.func (.func 133) #[] #[.pointer (some ⟨w.heap.size, 0, none⟩)]) ∧ w' = w.alloc (.cells #[.slice A len cap] 23) := by
 have hmf : ∀ (fn : Fn) (first cap : Array Value) (w : World), (Instr.makeFunc fn first cap).run Tryz.prog w = .ok (.func fn first cap) w := fun _ _ _ _ => rfl
 refine callsIn_of_wp Tryz.func101 rfl h ?_ hro
 simp only [Tryz.ntmps101, List.size_toArray, List.length_cons, List.length_nil, Nat.reduceAdd, Nat.reduceSub, Array.replicate_succ, Array.replicate_zero, List.push_toArray, List.append_toArray, List.nil_append, List.cons_append]
 gi_wp2
 go_ret
 exact ⟨rfl, rfl⟩
theorem picks_stops (F : Fence) (n : Nat) (h133 : F.fn 133) (h134 : F.fn 134) (hro : F.round = none) (hn : 2 ≤ n) (Bs : Nat) (A : Option Addr) (cap : Nat) (zs : List Int) (w0 w : World) (hlen : zs.length ≤ 20000) (hC : (Kd.int .i64).C w0 A zs.length zs)
  (hwf : ∀ z ∈ zs, -9223372036854775808 ≤ z ∧ z ≤ 9223372036854775807) (hW0 : Below w0.heap.size w0 w) (hBs : Bs < w.heap.size) (hc : w.cell? ⟨Bs, 0, none⟩ = some (.slice A zs.length cap)) :
  SeqStopsK F n Tryz.prog 133 #[.pointer (some ⟨Bs, 0, none⟩)] encsP (Below w0.heap.size) (fun ys => ys = zs.map pickOf) (fun pre => pre <+: zs.map pickOf) zs.length w := fun l J Jx W hW hJ _ hY h0 => by
 refine (picks1_in F n h133 h134 hro hn l Bs A cap zs w0 hlen hC hwf J Jx (fun pre X Y hx hg => hJ pre X Y none hx hg (fun r e => by cases e)) hY W (hW0.trans (hW.mono hW0.size)) ((hW.cell (p := ⟨Bs, 0, none⟩) hBs).trans hc) h0).mono ?_
 rintro e W' ⟨he, ⟨ys, rfl, hj⟩ | ⟨pre, ⟨k, hk, rfl⟩, hj⟩⟩
 ·exact ⟨he, .inl ⟨_, uptoK_all _ _, hj⟩⟩
 ·exact ⟨he, .inr ⟨_, by rw [uptoK_take _ zs hk]; exact List.take_prefix _ _, hj⟩⟩
end
section
attribute [local go_sem] Oper.semAt_some
def encP (x : Int × Int) : List Value := [.int .i64 x.1, .int .i64 x.2]
def boxP (W : World) (B : Nat) (x : Int × Int) : Prop := W.heap[B]? = some (.cells #[.int .i64 x.1, .int .i64 x.2] 133 (0, 0))
theorem boxP_own {W W' : World} {row : Option Nat} {B : Nat} {x : Int × Int} (h : boxP W B x) (hg : W.grownBy W' row) (hr : ∀ r, row = some r → ∃ o : Obj, W.heap[r]? = some o ∧ o.isCells = false) : boxP W' B x :=
 (hg.block B (blk_lt h) (fun e => by
  obtain ⟨o, ho, hc⟩ := hr B e.symm
  rw [show W.heap[B]? = _ from h] at ho
  cases ho
  cases hc)).trans h
theorem info133 : (Tryz.prog.info? 133).map (fun i => (i.zero, i.size, i.bytes)) = some (some (.agg #[.int .i64 0, .int .i64 0]), 2, 16) := by kernel_rfl
theorem cells_two (w : World) (a b : Value) (t : TypeId) : ∀ j u, [a, b][j]? = some u → (w.alloc (.cells #[a, b] t)).cell? ((⟨w.heap.size, 0, none⟩ : Addr).add j) = some u := by
 intro j u hj
 have hb := blk_new w (.cells #[a, b] t)
 match j, hj with
 | 0, hj =>
  simp at hj
  subst hj
  exact blk_cell hb 0
 | 1, hj =>
  simp at hj
  subst hj
  exact blk_cell hb 1
 | j + 2, hj => simp at hj
theorem all_in (F : Fence) (n : Nat) (h67 : F.fn 67) (h101 : F.fn 101) (h133 : F.fn 133) (h134 : F.fn 134) (hro : F.round = none) (hn : 6 ≤ n) (A : Option Addr) (cap : Nat) (zs : List Int) (w : World) (hlen : zs.length ≤ 20000) (hC : (Kd.int .i64).C w A zs.length zs)
  (hwf : ∀ z ∈ zs, -9223372036854775808 ≤ z ∧ z ≤ 9223372036854775807) :
  CallsIn F n Tryz.prog 67 #[.slice A zs.length cap] w fun e W' => ∃ v, e = .returned v ∧ W'.ownsRow w.heap.size 133 2 v (zs.map pickOf).length ((zs.map pickOf).flatMap encP) ∧ Below w.heap.size w W' := by
 have h1 : 1 ≤ n := by omega
 obtain ⟨i0, hi, hz0, hz1, hz2⟩ := info_parts info133
 refine callsIn_of_wp_marks Tryz.func67 rfl h67 ?_ hro
 simp only [Tryz.ntmps67, List.size_toArray, List.length_cons, List.length_nil, Nat.reduceAdd, Nat.reduceSub, Array.replicate_succ, Array.replicate_zero, List.push_toArray, List.append_toArray, List.nil_append, List.cons_append]
 gi_wp2_with (gi_at_call 101; refine (picks_in F (n - 1) h101 hro _ _ _ _).mono ?_; rintro e w' ⟨rfl, rfl⟩)
 have bO := (Boxed.new w 131 (.slice none 0 0)).alloc (.cells #[.slice A zs.length cap] 23)
 have bN := Boxed.new (w.alloc (.cells #[.slice none 0 0] 131)) 23 (.slice A zs.length cap)
 rw [World.size_alloc] at bN
 have hB0 : Below w.heap.size w ((w.alloc (.cells #[.slice none 0 0] 131)).alloc (.cells #[.slice A zs.length cap] 23)) := ((Below.refl _ w).alloc (Nat.le_refl _) _).alloc (by simp) _
 have hsz : ((w.alloc (.cells #[.slice none 0 0] 131)).alloc (.cells #[.slice A zs.length cap] 23)).heap.size = w.heap.size + 2 := by simp
 obtain ⟨W0, hW0⟩ : ∃ W0, (w.alloc (.cells #[.slice none 0 0] 131)).alloc (.cells #[.slice A zs.length cap] 23) = W0 := ⟨_, rfl⟩
 rw [hW0] at bO bN hB0 hsz ⊢
 clear hW0
 refine wpIn_rangeFunc_ownH hro h1 (gf := 133) (lb := #[.pointer (some ⟨w.heap.size + 1, 0, none⟩)]) rfl h133 (enters_of Tryz.func133 (by kernel_rfl) rfl)
  (picks_stops F (n - 1) h133 h134 hro (by omega) (w.heap.size + 1) A cap zs w W0 hlen hC hwf hB0 (by omega) bN.cell) belowK_t (belowK_b (by omega)) (Below.refl _ _) (fun _ => rfl)
  (fun (pre : List (Int × Int)) W => (∃ v, Boxed W w.heap.size 131 v ∧ W.ownsRow w.heap.size 133 2 v pre.length (pre.flatMap encP) ∧ True) ∧ Below w.heap.size w W)
  (fun _ _ _ => False)
  (OwnFrom.and (Own.from (holdsRow_own w.heap.size w.heap.size 131 133 2 (fun (pre : List (Int × Int)) => pre.length) (fun pre => pre.flatMap encP) (fun pre v => True)) _) (ownFrom_below (Nat.le_refl _) (by omega)))
  (fun _ _ _ _ _ hs _ _ => hs)
  ⟨⟨_, bO, World.ownsRow_nil _ _ _ _, trivial⟩, hB0⟩
  (fun x a' W => ∃ Bx, w.heap.size < Bx ∧ boxP W Bx x ∧ a' = { tmps := #[.slice A zs.length cap, undef, .slice none 0 0, .pointer (some ⟨w.heap.size, 0, none⟩), .pointer (some ⟨Bx, 0, none⟩), .slice A zs.length cap, .func (.func 133) #[] #[.pointer (some ⟨w.heap.size + 1, 0, none⟩)], .agg #[.int .i64 x.1, .int .i64 x.2], undef, undef, undef, undef, undef], defers := [] })
  (fun x a' _ X Y row hs hg hr => by obtain ⟨Bx, h1, h2, h3⟩ := hs; exact ⟨Bx, h1, boxP_own h2 hg (fun r e => (hr r e).2), h3⟩)
  ?assign ?body ?done ?stop
 case assign =>
  rintro l pre x W K ⟨⟨v, hv, hrow, _⟩, hB1⟩ hK
  unfold encsP
  gi_wp2
  exact hK _ _ ((KeepsOthers.alloc _ _).from _) ((Below.refl _ W).alloc hB1.size _) ⟨⟨_, hv.alloc _, hrow.alloc _, trivial⟩, hB1.alloc hB1.size _⟩ ⟨W.heap.size, hv.lt, blk_new W _, rfl⟩
 case body =>
  rintro l pre x a' W hl ⟨r, hr⟩ ⟨⟨v, hv, hrow, _⟩, hB1⟩ ⟨Bx, hBx, bX, rfl⟩ hlt
  have hc := hv.cell
  have x0 : W.cell? ⟨Bx, 0, none⟩ = some (.int .i64 x.1) := blk_cell bX 0
  have x1 : W.cell? ⟨Bx, 1, none⟩ = some (.int .i64 x.2) := blk_cell bX 1
  have hu133 := Tryz.underlying133
  gi_wp2_with (gi_at_builtin; refine wpListIn_append_own _ rfl _ _ 131 rfl w.heap.size 133 i0 (.agg #[.int .i64 0, .int .i64 0]) 2 16 Tryz.underlying131 hi hz0 hz1 hz2 rfl (by decide) _ _ _ rfl (hrow.alloc _) ⟨W.heap.size, 0, none⟩ 1 1 [.int .i64 x.1, .int .i64 x.2] rfl rfl (cells_two _ _ _ _) (by intro u hu; simp at hu; rcases hu with rfl | rfl <;> rfl) (by unfold maxLen; omega) (by omega) (by have := hB1.size; simp; omega) ?_; intro v' w1 hown' hgrow _; obtain ⟨g', cap', rfl⟩ := ownsRow_succ hown'; obtain ⟨hv1, hv2, hr2, hk2, hb2⟩ := hv.appended (by decide) hrow hB1.size (Nat.le_refl _) hown' hgrow; have hc1 := hv1.cell; have hf1 := hv1.frozen)
  exact ⟨hk2.from _, hb2, ⟨_, hv2, by simpa [encP] using hr2, trivial⟩, hB1.trans hb2⟩
 case done =>
  rintro D ys W hD rfl ⟨⟨v, hv, hrow, _⟩, hB⟩ hK
  have hc := hv.cell
  gi_wp2
  refine ⟨by simp, .inl ⟨_, _, rfl, run_takeDeferred hK, ?_⟩⟩
  exact ⟨_, results_tmp rfl _ _ _, v, rfl, ownsRow_putObj hrow _ hK rfl, hB.trans (belowK_b (w := w) (Nat.le_refl _) W D _ _ (by omega) hK rfl rfl)⟩
 case stop =>
  rintro D c pre W _ _ h _
  exact h.elim
theorem all_calls (A : Option Addr) (cap : Nat) (zs : List Int) (w : World) (hlen : zs.length ≤ 20000) (hC : (Kd.int .i64).C w A zs.length zs)
  (hwf : ∀ z ∈ zs, -9223372036854775808 ≤ z ∧ z ≤ 9223372036854775807) :
  Calls Tryz.prog 67 #[.slice A zs.length cap] w fun e W' => ∃ v, e = .returned v ∧ W'.ownsRow w.heap.size 133 2 v (zs.map pickOf).length ((zs.map pickOf).flatMap encP) ∧ Below w.heap.size w W' :=
 callsIn_wide.1 (all_in Fence.wide 6 trivial trivial trivial trivial rfl (Nat.le_refl _) A cap zs w hlen hC hwf)
end
end Go.Proofs.YtoimfknjfeencaaGreatDoor.Hand
end
