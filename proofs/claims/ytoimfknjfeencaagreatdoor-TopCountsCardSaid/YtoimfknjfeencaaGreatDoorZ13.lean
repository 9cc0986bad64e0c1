/- Part of the walk of a law of the top, and what it leans on (VS, Tree6, Tree7, Spot1, Spot2). No conditions beyond those that each lemma names. -/
import Derived.Test.YtoimfknjfeencaaGreatDoorZ07
import Derived.Test.YtoimfknjfeencaaGreatDoorZ12
import Derived.Test.YtoimfknjfeencaaGreatDoorZ08
import Derived.LoopIn
import Derived.LoopNIn
import Derived.OwnWalkIn
import Derived.RangeFuncBound
import Derived.RangeFuncCalls
import Derived.RangeFuncLeaves
import Derived.RangeFuncNested
import Derived.TacticsInMore
set_option linter.unusedVariables false
set_option linter.unusedSimpArgs false
set_option maxHeartbeats 8000000
set_option maxRecDepth 100000
section
namespace Go.Proofs.YtoimfknjfeencaaGreatDoor.Hand
open Go.RowKit Go.Proofs.YtoimfknjfeencaaGreatDoorW.PrintWords Go.Proofs.YtoimfknjfeencaaGreatDoorW.PrintLast Go.Proofs.YtoimfknjfeencaaGreatDoorW.PrintMore
structure VS where
 addr : Int
 count : Int
 A : Option Addr
 n : Nat
 c : Nat
def encV (v : VS) : List Value := [.int .i64 v.addr, .int .i64 v.count, .slice v.A v.n v.c]
def kV : Kd VS := flat 3 encV (fun _ => rfl) (fun x u h => by simp [encV] at h; rcases h with rfl | rfl | rfl <;> rfl)
structure VReads (w : World) (v : VS) (s : Spot) : Prop where
 a : v.addr = s.addr
 k : v.count = s.count
 n : v.n = s.line.length
 c : v.n ≤ v.c
 l : (Kd.int .i64).C w v.A s.line.length s.line
def VRow (w : World) (vs : List VS) (xs : List Spot) : Prop := vs.length = xs.length ∧ ∀ (i : Nat) (v : VS) (s : Spot), vs[i]? = some v → xs[i]? = some s → VReads w v s
theorem kSpot_open {w : World} {s : Spot} {cs : List Value} (h : kSpot.K w s cs) : ∃ v, cs = encV v ∧ VReads w v s := by
 obtain ⟨_, _, rfl, rfl, _, _, rfl, rfl, A0, c0, rfl, l0, g0⟩ := h
 exact ⟨⟨s.addr, s.count, A0, s.line.length, c0⟩, rfl, rfl, rfl, rfl, l0, g0⟩
theorem kSpot_mk {w : World} {v : VS} {s : Spot} (h : VReads w v s) : kSpot.K w s (encV v) := by
 obtain ⟨a, k, n, c, l⟩ := h
 obtain ⟨va, vk, vA, vn, vc⟩ := v
 simp only at a k n c l
 subst a; subst k; subst n
 exact ⟨_, _, rfl, rfl, _, _, rfl, rfl, vA, vc, rfl, c, l⟩
theorem kSpot_to {w : World} {A : Option Addr} {n : Nat} {xs : List Spot} (h : kSpot.C w A n xs) : ∃ vs, kV.C w A n vs ∧ VRow w vs xs := by
 obtain ⟨hl, hm, hc⟩ := h
 have hk : ∀ i : Nat, ∀ s, xs[i]? = some s → ∃ v, VReads w v s ∧ ∀ ad, A = some ad → ∀ j u, (encV v)[j]? = some u → w.cell? (ad.add (i * 3 + j)) = some u := by
  intro i s hs
  have hi := (List.getElem?_eq_some_iff.1 hs).1
  obtain ⟨ad, e, hc⟩ := hc (by omega)
  obtain ⟨c, hsz, hK, hcell⟩ := hc i s hs
  obtain ⟨v, rfl, hv⟩ := kSpot_open hK
  exact ⟨v, hv, fun ad' e' => by rw [e] at e'; cases e'; exact hcell⟩
 have hx : ∃ vs : List VS, vs.length = xs.length ∧ ∀ (i : Nat) (v : VS) (s : Spot), vs[i]? = some v → xs[i]? = some s → VReads w v s ∧ ∀ ad, A = some ad → ∀ j u, (encV v)[j]? = some u → w.cell? (ad.add (i * 3 + j)) = some u := by
  clear hc hl hm
  have : ∀ (ys : List Spot) (P : Nat → VS → Spot → Prop), (∀ (i : Nat) (s : Spot), ys[i]? = some s → ∃ v, P i v s) → ∃ vs : List VS, vs.length = ys.length ∧ ∀ (i : Nat) (v : VS) (s : Spot), vs[i]? = some v → ys[i]? = some s → P i v s := by
   intro ys
   induction ys with
   | nil => intro P _; exact ⟨[], rfl, fun i v s hv => by simp at hv⟩
   | cons y r ih =>
    intro P hP
    obtain ⟨v0, h0⟩ := hP 0 y rfl
    obtain ⟨vs, h1, h2⟩ := ih (fun i => P (i + 1)) (fun i s hs => hP (i + 1) s (by simpa using hs))
    refine ⟨v0 :: vs, by simp [h1], ?_⟩
    intro i v s hv hs
    cases i with
    | zero => simp at hv hs; subst hv; subst hs; exact h0
    | succ i => simp at hv hs; exact h2 i v s hv hs
  exact this xs _ hk
 obtain ⟨vs, h1, h2⟩ := hx
 refine ⟨vs, ⟨by rw [h1]; exact hl, hm, fun hn => ?_⟩, h1, fun i v s hv hs => (h2 i v s hv hs).1⟩
 obtain ⟨ad, e, hc'⟩ := hc hn
 refine ⟨ad, e, fun i v hv => ?_⟩
 have hi := (List.getElem?_eq_some_iff.1 hv).1
 obtain ⟨s, hs⟩ : ∃ s, xs[i]? = some s := ⟨_, List.getElem?_eq_getElem (by omega)⟩
 exact ⟨encV v, rfl, rfl, (h2 i v s hv hs).2 ad e⟩
theorem kSpot_of {w : World} {A : Option Addr} {n : Nat} {vs : List VS} {xs : List Spot} (h : kV.C w A n vs) (hv : VRow w vs xs) : kSpot.C w A n xs := by
 obtain ⟨hl, hm, hc⟩ := h
 refine ⟨by rw [← hv.1]; exact hl, hm, fun hn => ?_⟩
 obtain ⟨ad, e, hc'⟩ := hc hn
 refine ⟨ad, e, fun i s hs => ?_⟩
 have hi := (List.getElem?_eq_some_iff.1 hs).1
 obtain ⟨v, hv1⟩ : ∃ v, vs[i]? = some v := ⟨_, List.getElem?_eq_getElem (by rw [hv.1]; exact hi)⟩
 obtain ⟨c, hsz, hK, hcell⟩ := hc' i v hv1
 have hK' : c = encV v := hK
 subst hK'
 exact ⟨encV v, rfl, kSpot_mk (hv.2 i v s hv1 hs), hcell⟩
section
attribute [local go_sem] Oper.semAt_some
def KeepsB (n b : Nat) (W W' : World) : Prop := W.heap.size ≤ W'.heap.size ∧ ∀ i, i < n → i ≠ b → W'.heap[i]? = W.heap[i]?
theorem KeepsB.refl (n b : Nat) (W : World) : KeepsB n b W W := ⟨Nat.le_refl _, fun _ _ _ => rfl⟩
theorem keepsB_t {n b : Nat} {X Y Z : World} (h : KeepsB n b X Y) (k : KeepsB n b Y Z) : KeepsB n b X Z := ⟨Nat.le_trans h.1 k.1, fun i h1 h2 => (k.2 i h1 h2).trans (h.2 i h1 h2)⟩
theorem keepsB_b {n b : Nat} {w : World} (hn : n ≤ w.heap.size) (W : World) (l : Nat) (o o' : Obj) (hl : w.heap.size ≤ l) (h : W.heap[l]? = some o) (_ : o.isCells = false) (_ : o.isWalk = false) : KeepsB n b W (W.putObj l o') := ⟨by simp, fun i h1 _ => World.putObj_heap_other (by omega)⟩
theorem KeepsB.of_below {n b : Nat} {W W' : World} (h : Below n W W') : KeepsB n b W W' := ⟨h.size, fun i h1 _ => h.block i h1⟩
theorem KeepsB.cell {n b : Nat} {W W' : World} (h : KeepsB n b W W') {a : Addr} (h1 : a.block < n) (h2 : a.block ≠ b) : W'.cell? a = W.cell? a := by
 have := h.2 a.block h1 h2
 simp [World.cell?, this]
def atRoot (m : Nat) (v : VS) : Bool := v.addr == 8 * (m : Int)
def evs (m : Nat) (v : VS) : Array Value := #[.agg #[.int .i64 (8 * (m : Int)), .int .i64 v.count, .slice v.A v.n v.c]]
theorem under1_in (n : Nat) (hn : 2 ≤ n) (l Bt Br n₀ b : Nat) (ad : Addr) (c m : Nat) (hm : m < 4) (vs : List VS) (hlen : vs.length ≤ 64) (hpos : 0 < vs.length) (hb1 : ad.block < n₀) (hb2 : ad.block ≠ b) (ht1 : Bt < n₀) (ht2 : Bt ≠ b) (hr1 : Br < n₀) (hr2 : Br ≠ b)
  (had : ∀ v ∈ vs, ∃ j : Nat, j < 4 ∧ v.addr = 8 * (j : Int)) (J Jx : List VS → World → Prop)
  (W : World) (hn₀ : n₀ ≤ W.heap.size) (hJa : AbidesFrom W.heap.size J)
  (hY : ∀ pre x W, J pre W → pre.length < (vs.filter (atRoot m)).length → YieldAt Fence.wide (n - 1) Tryz.prog l (evs m x) W fun e W' =>
   (e = .returned (.bool true) ∧ J (pre ++ [x]) W' ∧ KeepsB n₀ b W W') ∨ (e = .returned (.bool false) ∧ Jx (pre ++ [x]) W'))
  (hBt : W.cell? ⟨Bt, 0, none⟩ = some (.slice (some ad) vs.length c)) (hBr : W.cell? ⟨Br, 0, none⟩ = some (.int .i64 m)) (hC : kV.C W (some ad) vs.length vs) (h0 : J [] W) :
  CallsIn Fence.wide n Tryz.prog 224 #[.func (.yield l) #[] #[], .pointer (some ⟨Bt, 0, none⟩), .pointer (some ⟨Br, 0, none⟩)] W fun e W' => (∃ v, e = .returned v) ∧
   ((∃ ys, ys = vs.filter (atRoot m) ∧ J ys W') ∨ (∃ pre, (∃ k, pre = (vs.take k).filter (atRoot m)) ∧ Jx pre W')) := by
 have hu := Tryz.underlying87
 have HC := ak_ hC
 refine callsIn_of_wp Tryz.func224 rfl trivial ?_ rfl
 simp only [Tryz.ntmps224, List.size_toArray, List.length_cons, List.length_nil, Nat.reduceAdd, Nat.reduceSub, Array.replicate_succ, Array.replicate_zero, List.push_toArray, List.append_toArray, List.nil_append, List.cons_append]
 gi_wp2
 gi_loopw [10] (fun i wr => ∃ k : Nat, k ≤ vs.length ∧ i = .int .i64 k ∧ J ((vs.take k).filter (atRoot m)) wr ∧ KeepsB n₀ b W wr)
  (fun i _ => vs.length - (intOf i).toNat)
 case atStart => exact ⟨0, Nat.zero_le _, rfl, h0, KeepsB.refl _ _ _⟩
 case round =>
  obtain ⟨k, hk, rfl, hJs, hnx⟩ := hrel
  have hsz := hnx.1
  by_cases hlt : k < vs.length
  ·obtain ⟨v, hv⟩ : ∃ v, vs[k]? = some v := ⟨_, List.getElem?_eq_getElem hlt⟩
   obtain ⟨ad', he, y0, yj⟩ := flat_cells HC.out k v hv
   cases he
   have y1 := yj 1 _ (by decide) rfl
   have y2 := yj 2 _ (by decide) rfl
   have y0 := y0 _ rfl
   clear yj
   have hbk : ∀ o, (⟨(ad.add (k * 3)).block, o, none⟩ : Addr).block < n₀ := fun o => by rw [show (⟨(ad.add (k * 3)).block, o, none⟩ : Addr).block = ad.block from add_block _ _]; exact hb1
   have hbk2 : ∀ o, (⟨(ad.add (k * 3)).block, o, none⟩ : Addr).block ≠ b := fun o => by rw [show (⟨(ad.add (k * 3)).block, o, none⟩ : Addr).block = ad.block from add_block _ _]; exact hb2
   replace y0 := (hnx.cell (a := ad.add (k * 3)) (hbk 0) (hbk2 0)).trans y0
   replace y1 := (hnx.cell (hbk _) (hbk2 _)).trans y1
   replace y2 := (hnx.cell (hbk _) (hbk2 _)).trans y2
   have hroot := (hnx.cell (a := ⟨Br, 0, none⟩) hr1 hr2).trans hBr
   have hadk : (ad.add (k * 3)).block < wr.heap.size := World.block_lt_of_cell? wr _ y0
   have hBrs : Br < wr.heap.size := World.block_lt_of_cell? wr _ hroot
   obtain ⟨j, hj4, hja⟩ := had v (List.mem_of_getElem? hv)
   obtain ⟨va, vk, vA, vn, vc⟩ := v
   simp only at hja y0 y1 y2
   subst hja
   have hkl : (k : Int) < (vs.length : Int) := by omega
   have htk : vs.take (k + 1) = vs.take k ++ [⟨8 * (j : Int), vk, vA, vn, vc⟩] := by rw [List.take_succ_eq_append_getElem hlt]; rw [List.getElem?_eq_getElem hlt] at hv; rw [Option.some.inj hv]
   have hJ1 : ∀ o, J ((vs.take k).filter (atRoot m)) (wr.alloc o) := fun o => hJa _ _ _ none hJs (World.grownBy_alloc wr o none) (fun r e => by cases e)
   have hnx1 : ∀ o, KeepsB n₀ b W (wr.alloc o) := fun o => keepsB_t hnx ⟨by simp, fun i h1 h2 => Below.heap_alloc _ _ _ (by omega)⟩
   have hr3 : ∀ o, (wr.alloc o).cell? ⟨Br, 0, none⟩ = some (.int .i64 m) := fun o => pw_cell_below (below_alloc (Below.refl _ _) o) hroot
   have hr4 := hr3 (.cells #[.int .i64 (8 * (j : Int)), .int .i64 vk, .slice vA vn vc] 87)
   have x0 : (wr.alloc (.cells #[.int .i64 (8 * (j : Int)), .int .i64 vk, .slice vA vn vc] 87)).cell? ⟨wr.heap.size, 0, none⟩ = some (.int .i64 (8 * (j : Int))) := blk_cell (blk_new wr _) 0
   have x1 : (wr.alloc (.cells #[.int .i64 (8 * (j : Int)), .int .i64 vk, .slice vA vn vc] 87)).cell? ⟨wr.heap.size, 1, none⟩ = some (.int .i64 vk) := blk_cell (blk_new wr _) 1
   have x2 : (wr.alloc (.cells #[.int .i64 (8 * (j : Int)), .int .i64 vk, .slice vA vn vc] 87)).cell? ⟨wr.heap.size, 2, none⟩ = some (.slice vA vn vc) := blk_cell (blk_new wr _) 2
   have HJ := ak_ (hJ1 (.cells #[.int .i64 (8 * (j : Int)), .int .i64 vk, .slice vA vn vc] 87))
   have HN := ak_ (hnx1 (.cells #[.int .i64 (8 * (j : Int)), .int .i64 vk, .slice vA vn vc] 87))
   clear hr3 hJ1 hnx1
   by_cases hjm : j = m
   ·have hat : atRoot m ⟨8 * (j : Int), vk, vA, vn, vc⟩ = true := by unfold atRoot; rw [hjm]; simp
    have hf : (vs.take (k + 1)).filter (atRoot m) = (vs.take k).filter (atRoot m) ++ [⟨8 * (j : Int), vk, vA, vn, vc⟩] := by rw [htk, List.filter_append]; simp [hat]
    have hlt2 : ((vs.take k).filter (atRoot m)).length < (vs.filter (atRoot m)).length := by
     have h1 : ((vs.take (k + 1)).filter (atRoot m)).length ≤ (vs.filter (atRoot m)).length := List.Sublist.length_le ((List.take_sublist _ _).filter _)
     rw [hf, List.length_append, List.length_singleton] at h1
     omega
    obtain ⟨fn, tmps, assign, body, hy, hR⟩ := hY _ ⟨8 * (j : Int), vk, vA, vn, vc⟩ _ HJ.out hlt2
    unfold evs at hy
    subst hjm
    gi_wp2_with fail
    refine ⟨trivial, fun _ => by omega, ?_⟩
    refine (callsIn_wide.2 (root_yes j _ hj4)).mono ?_
    rintro e w' ⟨rfl, rfl⟩
    gi_wp2_with fail
    refine ⟨fun _ => by omega, hR.mono ?_⟩
    rintro e W3 (⟨rfl, hJ3, hk3⟩ | ⟨rfl, hJx3⟩)
    ·gi_wp2
     go_roundw
     case rel => exact ⟨k + 1, by omega, by simp, by rw [hf]; exact hJ3, keepsB_t HN.out hk3⟩
     case measure => simp [intOf]; omega
    ·gi_wp2
     refine bodyPost_ret (results_none rfl _ _ _) rfl ?_
     exact ⟨⟨_, rfl⟩, .inr ⟨_, ⟨k + 1, hf.symm⟩, hJx3⟩⟩
   ·have hat : atRoot m ⟨8 * (j : Int), vk, vA, vn, vc⟩ = false := by unfold atRoot; simp; omega
    have hf : (vs.take (k + 1)).filter (atRoot m) = (vs.take k).filter (atRoot m) := by rw [htk, List.filter_append]; simp [hat]
    have hrc : ¬ (j : Int) = (m : Int) := by omega
    have hrb : ((j : Int) == (m : Int)) = false := by simpa using hrc
    gi_wp2_with fail
    refine ⟨trivial, fun _ => by omega, ?_⟩
    refine (callsIn_wide.2 (root_yes j _ hj4)).mono ?_
    rintro e w' ⟨rfl, rfl⟩
    gi_wp2
    refine ⟨fun f hf => (by cases hf), ?_⟩
    gi_wp2
    go_roundw
    case rel => exact ⟨k + 1, by omega, by simp, by rw [hf]; exact HJ.out, HN.out⟩
    case measure => simp [intOf]; omega
  ·obtain rfl : k = vs.length := by omega
   gi_wp2
   go_end0
   exact ⟨⟨_, rfl⟩, .inl ⟨_, rfl, by simpa using hJs⟩⟩
end
section
attribute [local go_sem] Oper.semAt_some
theorem under1_nil (n : Nat) (l Bt Br c : Nat) (A : Option Addr) (J : List VS → World → Prop) (W : World) (hBt : W.cell? ⟨Bt, 0, none⟩ = some (.slice A 0 c)) (h0 : J [] W) :
  CallsIn Fence.wide n Tryz.prog 224 #[.func (.yield l) #[] #[], .pointer (some ⟨Bt, 0, none⟩), .pointer (some ⟨Br, 0, none⟩)] W fun e W' => (∃ v, e = .returned v) ∧ J [] W' := by
 refine callsIn_of_wp Tryz.func224 rfl trivial ?_ rfl
 simp only [Tryz.ntmps224, List.size_toArray, List.length_cons, List.length_nil, Nat.reduceAdd, Nat.reduceSub, Array.replicate_succ, Array.replicate_zero, List.push_toArray, List.append_toArray, List.nil_append, List.cons_append]
 gi_wp2
 gi_loopw [10] (fun i wr => i = .int .i64 0 ∧ J [] wr) (fun _ _ => 0)
 case atStart => exact ⟨rfl, h0⟩
 case round =>
  obtain ⟨rfl, hJs⟩ := hrel
  gi_wp2
  go_end0
  exact ⟨⟨_, rfl⟩, hJs⟩
theorem under_stops (n : Nat) (hn : 2 ≤ n) (Bt Br n₀ b c m : Nat) (A : Option Addr) (vs : List VS) (w : World) (hm : m < 4) (hlen : vs.length ≤ 64) (hn₀ : n₀ ≤ w.heap.size) (hA : ∀ ad, A = some ad → 0 < vs.length → ad.block < n₀ ∧ ad.block ≠ b) (ht1 : Bt < n₀) (ht2 : Bt ≠ b) (hr1 : Br < n₀) (hr2 : Br ≠ b)
  (had : ∀ v ∈ vs, ∃ j : Nat, j < 4 ∧ v.addr = 8 * (j : Int)) (hBt : w.cell? ⟨Bt, 0, none⟩ = some (.slice A vs.length c)) (hBr : w.cell? ⟨Br, 0, none⟩ = some (.int .i64 m)) (hC : kV.C w A vs.length vs) :
  SeqStopsK Fence.wide n Tryz.prog 224 #[.pointer (some ⟨Bt, 0, none⟩), .pointer (some ⟨Br, 0, none⟩)] (evs m) (KeepsB n₀ b) (fun ys => ys = vs.filter (atRoot m)) (fun _ => True) (vs.filter (atRoot m)).length w := fun l J Jx W hW hJ hJx hY h0 => by
 by_cases hp : 0 < vs.length
 ·obtain ⟨ad, rfl, _⟩ := hC.2.2 hp
  obtain ⟨h1, h2⟩ := hA ad rfl hp
  refine (under1_in n hn l Bt Br n₀ b ad c m hm vs hlen hp h1 h2 ht1 ht2 hr1 hr2 had J Jx W (Nat.le_trans hn₀ hW.size) hJ hY (pw_cell_below hW hBt) (pw_cell_below hW hBr) (Kd.C_below hC hW) h0).mono ?_
  rintro e W' ⟨he, ⟨ys, rfl, hj⟩ | ⟨pre, _, hj⟩⟩
  ·exact ⟨he, .inl ⟨_, rfl, hj⟩⟩
  ·exact ⟨he, .inr ⟨_, trivial, hj⟩⟩
 ·have h0' : vs = [] := List.length_eq_zero_iff.1 (by omega)
  subst h0'
  exact (under1_nil n l Bt Br c A J W (pw_cell_below hW hBt) h0).mono fun e W' ⟨he, hj⟩ => ⟨he, .inl ⟨_, rfl, hj⟩⟩
theorem under210 (tv : Value) (hs : ∃ A n c, tv = .slice A n c) (m : Int) (w : World) : Calls Tryz.prog 210 #[tv, .int .i64 m] w fun e w' => e = .returned (.func (.func 224) #[] #[.pointer (some ⟨w.heap.size, 0, none⟩), .pointer (some ⟨w.heap.size + 1, 0, none⟩)]) ∧ w' = (w.alloc (.cells #[tv] 26)).alloc (.cells #[.int .i64 m] 3) := by
 obtain ⟨A, n, c, rfl⟩ := hs
 have hmf : ∀ (fn : Fn) (first cap : Array Value) (w : World), (Instr.makeFunc fn first cap).run Tryz.prog w = .ok (.func fn first cap) w := fun _ _ _ _ => rfl
 go_enter Tryz.func210, Tryz.ntmps210
 go_wp2
 go_ret
 exact ⟨rfl, rfl⟩
def TreeOf (w : World) (B : Nat) (m : Nat) (l : List VS) (v : Value) : Prop := (l = [] ∧ v = .agg #[.int .i64 (-1), .slice none 0 0]) ∨ (l ≠ [] ∧ OneTree w B (8 * (m : Int)) v)
def TreePost (m : Nat) (l : List VS) (w : World) (e : Ending) (w' : World) : Prop := ∃ v, e = .returned v ∧ TreeOf w' w.heap.size m l v ∧ Below w.heap.size w w'
def TreeBox (W : World) (B b m : Nat) (l : List VS) : Prop := ∃ v, TreeOf W B m l v ∧ W.heap[b]? = some (.cells v.cells 239 (0, 0))
theorem treeBox_own (B0 B b m : Nat) : OwnFrom B0 (fun (pre : List VS) W => TreeBox W B b m pre) := fun s W W' row hs hg hr => by
 have hne : ∀ (k : Nat) (cs : Array Value) (ty : TypeId), W.heap[k]? = some (Obj.cells cs ty (0, 0)) → W'.heap[k]? = some (Obj.cells cs ty (0, 0)) := fun k cs ty hk => (hg.block k (blk_lt hk) (fun e => by obtain ⟨_, o', ho, hc⟩ := hr k e.symm; rw [hk] at ho; cases ho; cases hc)).trans hk
 obtain ⟨v, hv, hb⟩ := hs
 refine ⟨v, ?_, hne b _ _ hb⟩
 rcases hv with ⟨h1, h2⟩ | ⟨h1, g, c, cur, h2, h3, h4, h5⟩
 ·exact .inl ⟨h1, h2⟩
 ·exact .inr ⟨h1, g, c, cur, h2, h3, hne g _ _ h4, h5⟩
theorem OneTree.below {w w' : World} {B : Nat} {k : Int} {v : Value} (h : OneTree w B k v) (hb : Below w.heap.size w w') : OneTree w' B k v := by
 obtain ⟨g, c, cur, h2, h3, h4, h5⟩ := h
 exact ⟨g, c, cur, h2, h3, blk_below h4 hb, h5⟩
theorem TreeOf.below {w w' : World} {B m : Nat} {l : List VS} {v : Value} (h : TreeOf w B m l v) (hb : Below w.heap.size w w') : TreeOf w' B m l v := by
 rcases h with h | ⟨h1, h2⟩
 ·exact .inl h
 ·exact .inr ⟨h1, h2.below hb⟩
theorem keepsFrom_below {B : Nat} {W W' : World} (hb : Below W.heap.size W W') : KeepsFrom B W W' := ⟨hb.size, fun k o _ hk _ => (hb.block k (Array.getElem?_eq_some_iff.1 hk).1).trans hk⟩
theorem blk_own {β : Type} (B0 g : Nat) (cs : Array Value) (ty : TypeId) : OwnFrom B0 (fun (_ : β) W => W.heap[g]? = some (.cells cs ty (0, 0))) := fun s W W' row hs hg hr =>
 (hg.block g (blk_lt hs) (fun e => by obtain ⟨_, o', ho, hc⟩ := hr g e.symm; rw [hs] at ho; cases ho; cases hc)).trans hs
theorem C_lt {w : World} {A : Option Addr} {n : Nat} {vs : List VS} (h : kV.C w A n vs) {ad : Addr} (e : A = some ad) (hp : 0 < vs.length) : ad.block < w.heap.size := by
 obtain ⟨v, hv⟩ : ∃ v, vs[0]? = some v := ⟨_, List.getElem?_eq_getElem hp⟩
 obtain ⟨ad', e', y0, _⟩ := flat_cells h 0 v hv
 rw [e] at e'
 cases e'
 have := World.block_lt_of_cell? w _ (y0 _ rfl)
 rwa [add_block] at this
theorem tree_calls (A : Option Addr) (c m : Nat) (vs : List VS) (w : World) (hm : m < 4) (hlen : vs.length ≤ 64) (had : ∀ v ∈ vs, ∃ j : Nat, j < 4 ∧ v.addr = 8 * (j : Int)) (h1l : (vs.filter (atRoot m)).length ≤ 1) (hC : kV.C w A vs.length vs) :
  Calls Tryz.prog 186 #[.slice A vs.length c, .int .i64 m] w (TreePost m (vs.filter (atRoot m)) w) := by
 have hu := Tryz.underlying239
 have hu87 := Tryz.underlying87
 have HC := ak_ hC
 have HA := ak_ had
 have hA2 : ∀ ad, A = some ad → 0 < vs.length → ad.block < w.heap.size := fun ad h1 h2 => C_lt hC h1 h2
 refine (callsIn_wide (n := 8)).1 ?_
 refine callsIn_of_wp_marks Tryz.func186 rfl trivial ?_ rfl
 simp only [Tryz.ntmps186, List.size_toArray, List.length_cons, List.length_nil, Nat.reduceAdd, Nat.reduceSub, Array.replicate_succ, Array.replicate_zero, List.push_toArray, List.append_toArray, List.nil_append, List.cons_append]
 gi_wp2_with fail
 refine ⟨trivial, (callsIn_wide.2 (treeNew _)).mono ?_⟩
 rintro e w1 ⟨rfl, hb1⟩
 have R1 := ak_ (blk_below (blk_new w (.cells #[.int .i64 0, .slice none 0 0] 239)) hb1)
 have B1 := ak_ (bel3 (bel2 (Below.refl _ w) (.cells #[.int .i64 0, .slice none 0 0] 239)) hb1)
 clear hb1
 gi_wp2_with fail
 refine ⟨trivial, (callsIn_wide.2 (under210 _ ⟨_, _, _, rfl⟩ m _)).mono ?_⟩
 rintro e w2 ⟨rfl, rfl⟩
 obtain ⟨b, hb0⟩ : ∃ b, b = w1.heap.size := ⟨_, rfl⟩
 have hwb : w.heap.size < b := by have := blk_lt R1.out; omega
 have R2 := ak_ (blk_alloc (blk_alloc (blk_alloc R1.out (.cells #[.int .i64 (-1), .slice none 0 0] 239)) (.cells #[.slice A vs.length c] 26)) (.cells #[.int .i64 m] 3))
 have O2 := ak_ (blk_alloc (blk_alloc (blk_new w1 (.cells #[.int .i64 (-1), .slice none 0 0] 239)) (.cells #[.slice A vs.length c] 26)) (.cells #[.int .i64 m] 3))
 have T2 := ak_ (blk_alloc (blk_new (w1.alloc (.cells #[.int .i64 (-1), .slice none 0 0] 239)) (.cells #[.slice A vs.length c] 26)) (.cells #[.int .i64 m] 3))
 have M2 := ak_ (blk_new ((w1.alloc (.cells #[.int .i64 (-1), .slice none 0 0] 239)).alloc (.cells #[.slice A vs.length c] 26)) (.cells #[.int .i64 m] 3))
 have B2 := ak_ (bel2 (bel2 (bel2 B1.out (.cells #[.int .i64 (-1), .slice none 0 0] 239)) (.cells #[.slice A vs.length c] 26)) (.cells #[.int .i64 m] 3))
 have hs2 : (((w1.alloc (.cells #[.int .i64 (-1), .slice none 0 0] 239)).alloc (.cells #[.slice A vs.length c] 26)).alloc (.cells #[.int .i64 m] 3)).heap.size = b + 3 := by simp [hb0]
 rw [World.size_alloc] at T2
 rw [World.size_alloc, World.size_alloc] at M2
 gi_wp2_with fail
 have HW := ak_ (hA2 : ∀ ad, A = some ad → 0 < vs.length → ad.block < w.heap.size)
 rw [← hb0] at T2 M2 O2 ⊢
 generalize (((w1.alloc (.cells #[.int .i64 (-1), .slice none 0 0] 239)).alloc (.cells #[.slice A vs.length c] 26)).alloc (.cells #[.int .i64 m] 3)) = W0 at *
 clear hb0 R1 B1
 refine wpIn_rangeFunc_ownH rfl (by decide) (gf := 224) (lb := #[.pointer (some ⟨b + 1, 0, none⟩), .pointer (some ⟨b + 1 + 1, 0, none⟩)]) rfl trivial (enters_of Tryz.func224 (by kernel_rfl) rfl)
  (under_stops 7 (by decide) (b + 1) (b + 1 + 1) (b + 3) b c m A vs W0 hm hlen (by omega) (fun ad h1 h2 => ⟨by have := HW.out ad h1 h2; omega, by have := HW.out ad h1 h2; omega⟩) (by omega) (by omega) (by omega) (by omega) HA.out (blk_cell T2.out 0) (blk_cell M2.out 0) (Kd.C_below HC.out B2.out)) keepsB_t (keepsB_b (by omega)) (Below.refl _ _) (fun _ => rfl)
  (fun pre W => (TreeBox W w.heap.size b m pre ∧ W.heap[w.heap.size]? = some (.cells #[.int .i64 0, .slice none 0 0] 239 (0, 0))) ∧ Below w.heap.size w W ∧ b + 3 ≤ W.heap.size)
  (fun _ _ _ => False)
  (OwnFrom.and (OwnFrom.and (treeBox_own _ _ _ _) (blk_own _ _ _ _)) (OwnFrom.and (ownFrom_below (Nat.le_refl _) (by omega)) (fun _ _ _ _ hs hg _ => Nat.le_trans hs hg.size)))
  (fun _ _ _ _ _ hs _ _ => hs)
  ⟨⟨⟨_, .inl ⟨rfl, rfl⟩, O2.out⟩, R2.out⟩, B2.out, Nat.le_of_eq hs2.symm⟩
  (fun x a' W => ∃ Bx, b + 3 ≤ Bx ∧ W.heap[Bx]? = some (.cells #[.int .i64 (8 * (m : Int)), .int .i64 x.count, .slice x.A x.n x.c] 87 (0, 0)) ∧ a' = { tmps := #[.slice A vs.length c, .int .i64 m, undef, undef, .pointer (some ⟨w.heap.size, 0, none⟩), .pointer (some ⟨b, 0, none⟩), .pointer (some ⟨Bx, 0, none⟩), .agg #[.int .i64 (-1), .slice none 0 0], .slice A vs.length c, .int .i64 m, .func (.func 224) #[] #[.pointer (some ⟨b + 1, 0, none⟩), .pointer (some ⟨b + 1 + 1, 0, none⟩)], .agg #[.int .i64 (8 * (m : Int)), .int .i64 x.count, .slice x.A x.n x.c], undef, undef, undef, undef, undef, undef, undef, undef], defers := [] })
  (fun x a' _ X Y row hs hg hr => by obtain ⟨Bx, h1, h2, h3⟩ := hs; exact ⟨Bx, h1, blk_own _ Bx _ _ () X Y row h2 hg hr, h3⟩)
  ?assign ?body ?done ?stop
 case assign =>
  rintro l pre x W K ⟨⟨hT, hR⟩, hB, hbW⟩ hK
  unfold evs
  gi_wp2
  obtain ⟨tv, hv, hb⟩ := hT
  exact hK _ _ ((KeepsOthers.alloc _ _).from _) ⟨by simp, fun i h1 h2 => Below.heap_alloc _ _ _ (by omega)⟩ ⟨⟨⟨tv, hv.below (below_alloc (Below.refl _ _) _), blk_alloc hb _⟩, blk_alloc hR _⟩, hB.alloc hB.size _, by simp; omega⟩ ⟨W.heap.size, hbW, blk_new _ _, rfl⟩
 case body =>
  rintro l pre x a' W hl _ ⟨⟨hT, hR⟩, hB, hbW⟩ ⟨Bx, hBx, hX, rfl⟩ hlt
  obtain rfl : pre = [] := List.length_eq_zero_iff.1 (by omega)
  obtain ⟨tv, hv, hb⟩ := hT
  rcases hv with ⟨_, rfl⟩ | ⟨h, _⟩
  ·have z0 : W.cell? ⟨b, 0, none⟩ = some (.int .i64 (-1)) := blk_cell hb 0
   have z1 : W.cell? ⟨b, 1, none⟩ = some (.slice none 0 0) := blk_cell hb 1
   have x0 : W.cell? ⟨Bx, 0, none⟩ = some (.int .i64 (8 * (m : Int))) := blk_cell hX 0
   gi_wp2_with fail
   refine ⟨trivial, CallsIn.inRound l (callsIn_wide.2 ((put_none (8 * (m : Int)) (by omega) (by omega) W).mono ?_))⟩
   rintro e W2 ⟨v, rfl, hO, hb2⟩
   obtain ⟨g, c2, cur, rfl, hg, hG, q0, q1, q2⟩ := hO
   have hb3 := blk_below hb hb2
   have y0 : W2.cell? ⟨b, 0, none⟩ = some (.int .i64 (-1)) := blk_cell hb3 0
   have y1 : W2.cell? ⟨b, 1, none⟩ = some (.slice none 0 0) := blk_cell hb3 1
   have f0 : W2.frozen? ⟨b, 0, none⟩ = false := blk_frozen hb3 0
   have f1 : W2.frozen? ⟨b, 1, none⟩ = false := blk_frozen hb3 1
   gi_wp2
   have hgb : g ≠ b := blk_ne hG hb3 (by decide)
   have hwg : w.heap.size ≤ g := Nat.le_trans hB.size hg
   have hb4 := blk_put (blk_put hb3 0 (.int .i64 0) rfl) 1 (.slice (some ⟨g, 0, none⟩) 1 c2) rfl
   have hG4 := blk_far (blk_far hG (p := ⟨b, 0, none⟩) hgb (.int .i64 0)) (p := ⟨b, 1, none⟩) hgb (.slice (some ⟨g, 0, none⟩) 1 c2)
   have hR4 := blk_far (blk_far (blk_below hR hb2) (p := ⟨b, 0, none⟩) (by simp; omega) (.int .i64 0)) (p := ⟨b, 1, none⟩) (by simp; omega) (.slice (some ⟨g, 0, none⟩) 1 c2)
   refine ⟨?_, ?_, ⟨⟨⟨_, .inr ⟨by simp, g, c2, cur, rfl, hwg, hG4, q0, q1, q2⟩, hb4⟩, hR4⟩, ((bel3 hB hb2).setCell (p := ⟨b, 0, none⟩) (by simp; omega) _).setCell (p := ⟨b, 1, none⟩) (by simp; omega) _, ?_⟩⟩
   ·exact ((keepsFrom_below hb2).trans ((KeepsOthers.setCell _ _ _).from _)).trans ((KeepsOthers.setCell _ _ _).from _)
   ·exact keepsB_t (keepsB_t (KeepsB.of_below (hb2.mono hbW)) ⟨by simp, fun i _ h2 => Below.heap_setCell _ _ _ _ h2⟩) ⟨by simp, fun i _ h2 => Below.heap_setCell _ _ _ _ h2⟩
   ·have := hb2.size; simp; omega
  ·exact absurd rfl h
 case done =>
  rintro D ys W hD rfl ⟨⟨⟨tv, hv, hb⟩, hR⟩, hB, hbW⟩ hK
  have r0 : W.cell? ⟨w.heap.size, 0, none⟩ = some (.int .i64 0) := blk_cell hR 0
  have r1 : W.cell? ⟨w.heap.size, 1, none⟩ = some (.slice none 0 0) := blk_cell hR 1
  have f0 : W.frozen? ⟨w.heap.size, 0, none⟩ = false := blk_frozen hR 0
  have f1 : W.frozen? ⟨w.heap.size, 1, none⟩ = false := blk_frozen hR 1
  have hne : b ≠ w.heap.size := by omega
  rcases hv with ⟨hn, rfl⟩ | ⟨hn, g, c2, cur, rfl, hg, hG, q0, q1, q2⟩
  ·have z0 : W.cell? ⟨b, 0, none⟩ = some (.int .i64 (-1)) := blk_cell hb 0
   have z1 : W.cell? ⟨b, 1, none⟩ = some (.slice none 0 0) := blk_cell hb 1
   have hK2 := (KeepsOthers.setCell W ⟨w.heap.size, 0, none⟩ (.int .i64 (-1))).same D _ hK rfl
   have hK3 := (KeepsOthers.setCell (W.setCell ⟨w.heap.size, 0, none⟩ (.int .i64 (-1))) ⟨w.heap.size, 1, none⟩ (.slice none 0 0)).same D _ hK2 rfl
   have hR4 := blk_put (blk_put hR 0 (.int .i64 (-1)) rfl) 1 (.slice none 0 0) rfl
   have hB4 := (hB.setCell (p := ⟨w.heap.size, 0, none⟩) (Nat.le_refl _) (.int .i64 (-1))).setCell (p := ⟨w.heap.size, 1, none⟩) (Nat.le_refl _) (.slice none 0 0)
   gi_wp2
   refine ⟨by simp, .inl ⟨_, _, rfl, run_takeDeferred hK3, ?_⟩⟩
   exact ⟨_, results_cell_row rfl _ _ w.heap.size 239 _ (0, 0) _ rfl ((World.putObj_heap_other (by omega)).trans hR4) Tryz.underlying239 rfl (by kernel_rfl), _, rfl, .inl ⟨hn, rfl⟩, hB4.trans (belowK_b (w := w) (Nat.le_refl _) _ D _ _ (by omega) hK3 rfl rfl)⟩
  ·have z0 : W.cell? ⟨b, 0, none⟩ = some (.int .i64 0) := blk_cell hb 0
   have z1 : W.cell? ⟨b, 1, none⟩ = some (.slice (some ⟨g, 0, none⟩) 1 c2) := blk_cell hb 1
   have hK2 := (KeepsOthers.setCell W ⟨w.heap.size, 0, none⟩ (.int .i64 0)).same D _ hK rfl
   have hK3 := (KeepsOthers.setCell (W.setCell ⟨w.heap.size, 0, none⟩ (.int .i64 0)) ⟨w.heap.size, 1, none⟩ (.slice (some ⟨g, 0, none⟩) 1 c2)).same D _ hK2 rfl
   have hR4 := blk_put (blk_put hR 0 (.int .i64 0) rfl) 1 (.slice (some ⟨g, 0, none⟩) 1 c2) rfl
   have hB4 := (hB.setCell (p := ⟨w.heap.size, 0, none⟩) (Nat.le_refl _) (.int .i64 0)).setCell (p := ⟨w.heap.size, 1, none⟩) (Nat.le_refl _) (.slice (some ⟨g, 0, none⟩) 1 c2)
   have hgr : g ≠ w.heap.size := by have := blk_ne hG hR (by decide); exact this
   have hG4 := blk_far (blk_far hG (p := ⟨w.heap.size, 0, none⟩) hgr (.int .i64 0)) (p := ⟨w.heap.size, 1, none⟩) hgr (.slice (some ⟨g, 0, none⟩) 1 c2)
   have hgD : g ≠ D := fun e => by rw [e, hK] at hG; cases hG
   gi_wp2
   refine ⟨by simp, .inl ⟨_, _, rfl, run_takeDeferred hK3, ?_⟩⟩
   exact ⟨_, results_cell_row rfl _ _ w.heap.size 239 _ (0, 0) _ rfl ((World.putObj_heap_other (by omega)).trans hR4) Tryz.underlying239 rfl (by kernel_rfl), _, rfl, .inr ⟨hn, g, c2, cur, rfl, hg, (World.putObj_heap_other hgD).trans hG4, q0, q1, q2⟩, hB4.trans (belowK_b (w := w) (Nat.le_refl _) _ D _ _ (by omega) hK3 rfl rfl)⟩
 case stop =>
  rintro D c pre W _ _ h _
  exact h.elim
end
def idxI (p : VS → Bool) (vs : List VS) : Int := match vs.findIdx? p with
 | some i => (i : Int)
 | none => -1
def vv (v : VS) : Value := .agg #[.int .i64 v.addr, .int .i64 v.count, .slice v.A v.n v.c]
theorem spotIndex (f : Nat) (hf : f = 188 ∨ f = 192 ∨ f = 193) (q : Value) (A : Option Addr) (c : Nat) (vs : List VS) (p : VS → Bool) (S : World → Prop) (hS : ∀ w w', S w → Below w.heap.size w w' → S w')
  (hp : ∀ v ∈ vs, ∀ w, S w → Calls Tryz.prog f #[vv v, q] w fun e w' => e = .returned (.bool (p v)) ∧ Below w.heap.size w w') (w : World) (hw : S w) (hC : kV.C w A vs.length vs) :
  Calls Tryz.prog 187 #[.slice A vs.length c, .func (.func f) #[] #[q]] w fun e w' => e = .returned (.int .i64 (idxI p vs)) ∧ Below w.heap.size w w' := by
 have hlen : vs.length ≤ 9223372036854775807 := hC.2.1
 have HC := ak_ hC
 have HP := ak_ hp
 have HS := ak_ hS
 have HW := ak_ hw
 clear hC hp hS hw
 go_enter Tryz.func187, Tryz.ntmps187
 go_wp2
 go_loopg [5, 8] vs.length (fun g v5 v8 wx => Aside0 (Below w.heap.size w wx) ∧ ∃ i : Nat, i + g = vs.length ∧ v8 = .int .i64 i ∧ Aside0 (∀ j : Nat, j < i → ∀ v, vs[j]? = some v → p v = false))
 case atStart => exact ⟨⟨Below.refl _ _⟩, 0, by omega, rfl, ⟨fun j hj => absurd hj (by omega)⟩⟩
 case round =>
  obtain ⟨HB, i, hig, rfl, HN⟩ := hrel
  cases gk with
  | zero =>
   have hi : i = vs.length := by omega
   have hnot : ¬ ((i : Int) < (vs.length : Int)) := by omega
   have HI : Aside0 (idxI p vs = -1) := ⟨by
    have : vs.findIdx? p = none := by
     rw [List.findIdx?_eq_none_iff]
     intro v hv
     obtain ⟨j, hj⟩ := List.getElem?_of_mem hv
     have := (List.getElem?_eq_some_iff.1 hj).1
     exact HN.out j (by omega) v hj
    unfold idxI
    rw [this]⟩
   clear hi
   go_wp2
   go_ret
   exact ⟨by rw [HI.out]; rfl, HB.out⟩
  | succ go =>
   have hlt : i < vs.length := by omega
   obtain ⟨v, hx⟩ : ∃ v, vs[i]? = some v := ⟨_, List.getElem?_eq_getElem hlt⟩
   obtain ⟨ad, he, y0, yj⟩ := flat_cells HC.out i v hx
   cases he
   have y1 := yj 1 _ (by decide) rfl
   have y2 := yj 2 _ (by decide) rfl
   replace y0 := y0 _ rfl
   clear yj
   replace y0 := (HB.out.cell (World.block_lt_of_cell? w _ y0)).trans y0
   replace y1 := (HB.out.cell (World.block_lt_of_cell? w _ y1)).trans y1
   replace y2 := (HB.out.cell (World.block_lt_of_cell? w _ y2)).trans y2
   have hil : (i : Int) < (vs.length : Int) := by omega
   have HX := ak_ (HP.out v (List.mem_of_getElem? hx) wr (HS.out w wr HW.out HB.out))
   unfold vv at HX
   have HI : Aside0 (p v = true → idxI p vs = (i : Int)) := ⟨fun hpv => by
    have : vs.findIdx? p = some i := by
     rw [List.findIdx?_eq_some_iff_getElem]
     refine ⟨hlt, ?_, fun j hj => ?_⟩
     ·rw [List.getElem?_eq_getElem hlt] at hx
      rw [Option.some.inj hx]
      exact hpv
     ·rw [HN.out j hj _ (List.getElem?_eq_getElem (by omega))]
      decide
    unfold idxI
    rw [this]⟩
   have HN2 : Aside0 (p v = false → ∀ j : Nat, j < i + 1 → ∀ u, vs[j]? = some u → p u = false) := ⟨fun hpv j hj u hu => by
    by_cases hji : j = i
    ·rw [hji, hx] at hu
     cases hu
     exact hpv
    ·exact HN.out j (by omega) u hu⟩
   clear hx HN
   rcases hf with rfl | rfl | rfl
   all_goals
    cases hpv : p v
    ·have HN3 := ak_ (HN2.out hpv)
     rw [hpv] at HX
     clear HN2 HI hpv
     go_wp2_with (first | (go_at_call 188; refine HX.out.mono ?_; rintro e w2 ⟨rfl, hb⟩; have HB2 := ak_ (bel3 HB.out hb); clear hb) | (go_at_call 192; refine HX.out.mono ?_; rintro e w2 ⟨rfl, hb⟩; have HB2 := ak_ (bel3 HB.out hb); clear hb) | (go_at_call 193; refine HX.out.mono ?_; rintro e w2 ⟨rfl, hb⟩; have HB2 := ak_ (bel3 HB.out hb); clear hb))
     go_roundg go
     case rel => exact ⟨HB2, i + 1, by omega, by go_num, HN3⟩
     case measure => omega
    ·have HI3 := ak_ (HI.out hpv)
     rw [hpv] at HX
     clear HN2 HI hpv
     go_wp2_with (first | (go_at_call 188; refine HX.out.mono ?_; rintro e w2 ⟨rfl, hb⟩; have HB2 := ak_ (bel3 HB.out hb); clear hb) | (go_at_call 192; refine HX.out.mono ?_; rintro e w2 ⟨rfl, hb⟩; have HB2 := ak_ (bel3 HB.out hb); clear hb) | (go_at_call 193; refine HX.out.mono ?_; rintro e w2 ⟨rfl, hb⟩; have HB2 := ak_ (bel3 HB.out hb); clear hb))
     go_ret
     exact ⟨by rw [HI3.out]; rfl, HB2.out⟩
def getV (vs : List VS) (m : Nat) : VS := match vs.find? (atRoot m) with
 | some v => v
 | none => ⟨8 * (m : Int), 0, none, 0, 0⟩
theorem filter_one {w : World} {vs : List VS} {t : List Spot} (hv : VRow w vs t) (ht : OkTab t) (m : Nat) : (vs.filter (atRoot m)).length ≤ 1 := by
 have hlt : ∀ (d i : Nat) (a b : VS), vs[i]? = some a → vs[i + d + 1]? = some b → a.addr < b.addr := by
  intro d
  induction d with
  | zero =>
   intro i a b ha hb
   have h1 := (List.getElem?_eq_some_iff.1 ha).1
   have h2 := (List.getElem?_eq_some_iff.1 hb).1
   rw [hv.1] at h1 h2
   have e1 := (hv.2 i a _ ha (List.getElem?_eq_getElem h1)).a
   have e2 := (hv.2 (i + 1) b _ hb (List.getElem?_eq_getElem h2)).a
   rw [e1, e2]
   exact ht.up i _ _ (List.getElem?_eq_getElem h1) (List.getElem?_eq_getElem h2)
  | succ d ih =>
   intro i a b ha hb
   have h2 := (List.getElem?_eq_some_iff.1 hb).1
   obtain ⟨x, hx⟩ : ∃ x, vs[i + d + 1]? = some x := ⟨_, List.getElem?_eq_getElem (by omega)⟩
   have h3 := ih i a x ha hx
   have h1 := (List.getElem?_eq_some_iff.1 hx).1
   rw [hv.1] at h1 h2
   have e1 := (hv.2 _ x _ hx (List.getElem?_eq_getElem h1)).a
   have e2 := (hv.2 _ b _ hb (List.getElem?_eq_getElem h2)).a
   have := ht.up (i + d + 1) _ _ (List.getElem?_eq_getElem h1) (List.getElem?_eq_getElem h2)
   omega
 have hp : vs.Pairwise (fun a b => a.addr < b.addr) := by
  rw [List.pairwise_iff_getElem]
  intro i j hi hj hij
  obtain ⟨d, rfl⟩ : ∃ d, j = i + d + 1 := ⟨j - i - 1, by omega⟩
  exact hlt d i _ _ (List.getElem?_eq_getElem hi) (List.getElem?_eq_getElem hj)
 have hp2 := hp.filter (atRoot m)
 generalize hl : vs.filter (atRoot m) = l at hp2 ⊢
 match l, hl, hp2 with
 | [], _, _ => simp
 | [_], _, _ => simp
 | a :: b :: r, hl, hp2 =>
  have h1 : a.addr < b.addr := (List.pairwise_cons.1 hp2).1 b (by simp)
  have ha : atRoot m a = true := (List.mem_filter.1 (hl ▸ (by simp : a ∈ a :: b :: r))).2
  have hb : atRoot m b = true := (List.mem_filter.1 (hl ▸ (by simp : b ∈ a :: b :: r))).2
  unfold atRoot at ha hb
  simp at ha hb
  omega
theorem VRow.ad {w : World} {vs : List VS} {t : List Spot} (hv : VRow w vs t) (ht : OkTab t) : ∀ v ∈ vs, ∃ j : Nat, j < 4 ∧ v.addr = 8 * (j : Int) := by
 intro v hm
 obtain ⟨i, hi⟩ := List.getElem?_of_mem hm
 have h1 := (List.getElem?_eq_some_iff.1 hi).1
 rw [hv.1] at h1
 have e1 := (hv.2 i v _ hi (List.getElem?_eq_getElem h1)).a
 rw [e1]
 exact ht.ad _ (List.getElem_mem h1)
theorem get188 (m p : Nat) (v : VS) (w : World) (h : w.cell? ⟨p, 0, none⟩ = some (.int .i64 (8 * (m : Int)))) : Calls Tryz.prog 188 #[vv v, .pointer (some ⟨p, 0, none⟩)] w fun e w' => e = .returned (.bool (atRoot m v)) ∧ Below w.heap.size w w' := by
 have hu := Tryz.underlying87
 have HB := ak_ ((Below.refl w.heap.size w).alloc (Nat.le_refl _) (.cells #[.int .i64 v.addr, .int .i64 v.count, .slice v.A v.n v.c] 87))
 have z0 := pw_cell_below HB.out h
 unfold vv atRoot
 clear h
 go_enter Tryz.func188, Tryz.ntmps188
 go_wp2
 go_ret
 exact ⟨rfl, HB.out⟩
def GetPost (v : VS) (w : World) (e : Ending) (w' : World) : Prop := e = .returned (.tuple #[vv v, .int .i64 0]) ∧ Below w.heap.size w w'
theorem get_none (A : Option Addr) (c m : Nat) (vs : List VS) (t : List Spot) (w : World) (hm : m < 4) (hC : kV.C w A vs.length vs) (hc : vs.length ≤ c) (hv : VRow w vs t) (ht : OkTab t) (hf : vs.filter (atRoot m) = []) :
  Calls Tryz.prog 159 #[.slice A vs.length c, .int .i64 (8 * (m : Int))] w (GetPost ⟨8 * (m : Int), 0, none, 0, 0⟩ w) := by
 have hu := Tryz.underlying87
 have h1l := filter_one hv ht m
 have hlv := hv.1
 have HR := ak_ (fun w' (hb : Below w.heap.size w w') => rootRight_yes A c t w' (Kd.C_below (kSpot_of (by rw [← hlv]; exact hC) hv) hb) (by rw [← hlv]; exact hc) ht)
 have HT := ak_ (fun w' (hb : Below w.heap.size w w') => tree_calls A c m vs w' hm (by rw [hlv]; exact ht.len) (hv.ad ht) h1l (Kd.C_below hC hb))
 rw [hf] at HT
 rw [← hlv] at HR
 have HK := ak_ (blk_alloc (blk_new w (.cells #[.int .i64 (8 * (m : Int))] 3)) (.cells #[.int .i64 0, .int .i64 0, .slice none 0 0] 87))
 have HO : Aside0 (((w.alloc (.cells #[.int .i64 (8 * (m : Int))] 3)).alloc (.cells #[.int .i64 0, .int .i64 0, .slice none 0 0] 87)).heap[w.heap.size + 1]? = some (.cells #[.int .i64 0, .int .i64 0, .slice none 0 0] 87 (0, 0))) := ⟨by have := blk_new (w.alloc (.cells #[.int .i64 (8 * (m : Int))] 3)) (.cells #[.int .i64 0, .int .i64 0, .slice none 0 0] 87); rw [World.size_alloc] at this; exact this⟩
 have HB := ak_ (bel2 (bel2 (Below.refl _ w) (.cells #[.int .i64 (8 * (m : Int))] 3)) (.cells #[.int .i64 0, .int .i64 0, .slice none 0 0] 87))
 clear hC hv ht hf h1l hlv
 go_enter Tryz.func159, Tryz.ntmps159
 go_wp2_with fail
 refine (HR.out _ HB.out).mono ?_
 rintro e w1 ⟨rfl, hb⟩
 have K1 := ak_ (blk_below HK.out hb)
 have O1 := ak_ (blk_below HO.out hb)
 have B1 := ak_ (bel3 HB.out hb)
 have k1 : w1.cell? ⟨w.heap.size, 0, none⟩ = some (.int .i64 (8 * (m : Int))) := blk_cell K1.out 0
 clear hb
 go_wp2_with (first | (go_at_call 98; refine (isAddr_yes (8 * (m : Int)) _ (by omega) (by omega)).mono ?_; rintro e w2 ⟨rfl, rfl⟩) | (go_at_call 100; refine (root_yes m _ hm).mono ?_; rintro e w2 ⟨rfl, rfl⟩))
 go_region_held3 (fun w' => w'.cell? ⟨w.heap.size, 0, none⟩ = some (.int .i64 (8 * (m : Int)))) (go_keep) (first | (go_at_call 186; refine (HT.out _ (below_drew B1.out)).mono ?_; rintro e w2 ⟨v, rfl, hv, hb⟩; obtain rfl : v = .agg #[.int .i64 (-1), .slice none 0 0] := (by rcases hv with ⟨_, h⟩ | ⟨h, _⟩; exact h; exact absurd rfl h); have K2 := ak_ (blk_below (blk_drew K1.out) hb); have O2 := ak_ (blk_below (blk_drew O1.out) hb); have B2 := ak_ (bel3 (below_drew B1.out) hb); have k2 : w2.cell? ⟨w.heap.size, 0, none⟩ = some (.int .i64 (8 * (m : Int))) := blk_cell K2.out 0; clear hb) | (go_at_call 185; refine (find_none (8 * (m : Int)) (by omega) (by omega) _).mono ?_; rintro e w3 ⟨rfl, hb⟩; have K3 := ak_ (blk_below K2.out hb); have O3 := ak_ (blk_below O2.out hb); have B3 := ak_ (bel3 B2.out hb); have k3 : w3.cell? ⟨w.heap.size, 0, none⟩ = some (.int .i64 (8 * (m : Int))) := blk_cell K3.out 0; clear hb))
 have o0 : w3.cell? ⟨w.heap.size + 1, 0, none⟩ = some (.int .i64 0) := blk_cell O3.out 0
 have o1 : w3.cell? ⟨w.heap.size + 1, 1, none⟩ = some (.int .i64 0) := blk_cell O3.out 1
 have o2 : w3.cell? ⟨w.heap.size + 1, 2, none⟩ = some (.slice none 0 0) := blk_cell O3.out 2
 have f0 : w3.frozen? ⟨w.heap.size + 1, 0, none⟩ = false := blk_frozen O3.out 0
 have f1 : w3.frozen? ⟨w.heap.size + 1, 1, none⟩ = false := blk_frozen O3.out 1
 have f2 : w3.frozen? ⟨w.heap.size + 1, 2, none⟩ = false := blk_frozen O3.out 2
 go_wp2
 have O4 := blk_put (blk_put (blk_put O3.out 0 (.int .i64 (8 * (m : Int))) rfl) 1 (.int .i64 0) rfl) 2 (.slice none 0 0) rfl
 have B4 := ((B3.out.setCell (p := ⟨w.heap.size + 1, 0, none⟩) (by simp) (.int .i64 (8 * (m : Int)))).setCell (p := ⟨w.heap.size + 1, 1, none⟩) (by simp) (.int .i64 0)).setCell (p := ⟨w.heap.size + 1, 2, none⟩) (by simp) (.slice none 0 0)
 exact bodyPost_ret (results_ct rfl _ _ (w.heap.size + 1) 87 _ (0, 0) _ rfl O4 Tryz.underlying87 rfl (by kernel_rfl)) rfl ⟨rfl, B4⟩
theorem get_one (A : Option Addr) (c m : Nat) (vs : List VS) (t : List Spot) (w : World) (hm : m < 4) (hC : kV.C w A vs.length vs) (hc : vs.length ≤ c) (hv : VRow w vs t) (ht : OkTab t) (v : VS) (i : Nat) (hx : vs[i]? = some v) (hidx : idxI (atRoot m) vs = (i : Int)) (hf : vs.filter (atRoot m) ≠ []) :
  Calls Tryz.prog 159 #[.slice A vs.length c, .int .i64 (8 * (m : Int))] w (GetPost v w) := by
 have hu := Tryz.underlying87
 have h1l := filter_one hv ht m
 have hlv := hv.1
 have HR := ak_ (fun w' (hb : Below w.heap.size w w') => rootRight_yes A c t w' (Kd.C_below (kSpot_of (by rw [← hlv]; exact hC) hv) hb) (by rw [← hlv]; exact hc) ht)
 have HT := ak_ (fun w' (hb : Below w.heap.size w w') => tree_calls A c m vs w' hm (by rw [hlv]; exact ht.len) (hv.ad ht) h1l (Kd.C_below hC hb))
 have HF := ak_ hf
 have HX := ak_ hx
 have HI := ak_ hidx
 have HC := ak_ hC
 have hil : (i : Int) < (vs.length : Int) := by have := (List.getElem?_eq_some_iff.1 hx).1; omega
 rw [← hlv] at HR
 have HK := ak_ (blk_alloc (blk_new w (.cells #[.int .i64 (8 * (m : Int))] 3)) (.cells #[.int .i64 0, .int .i64 0, .slice none 0 0] 87))
 have HO : Aside0 (((w.alloc (.cells #[.int .i64 (8 * (m : Int))] 3)).alloc (.cells #[.int .i64 0, .int .i64 0, .slice none 0 0] 87)).heap[w.heap.size + 1]? = some (.cells #[.int .i64 0, .int .i64 0, .slice none 0 0] 87 (0, 0))) := ⟨by have := blk_new (w.alloc (.cells #[.int .i64 (8 * (m : Int))] 3)) (.cells #[.int .i64 0, .int .i64 0, .slice none 0 0] 87); rw [World.size_alloc] at this; exact this⟩
 have HB := ak_ (bel2 (bel2 (Below.refl _ w) (.cells #[.int .i64 (8 * (m : Int))] 3)) (.cells #[.int .i64 0, .int .i64 0, .slice none 0 0] 87))
 clear hC hv ht hf h1l hlv hx hidx
 have hmf : ∀ (fn : Fn) (first cap : Array Value) (w : World), (Instr.makeFunc fn first cap).run Tryz.prog w = .ok (.func fn first cap) w := fun _ _ _ _ => rfl
 go_enter Tryz.func159, Tryz.ntmps159
 go_wp2_with fail
 refine (HR.out _ HB.out).mono ?_
 rintro e w1 ⟨rfl, hb⟩
 have K1 := ak_ (blk_below HK.out hb)
 have O1 := ak_ (blk_below HO.out hb)
 have B1 := ak_ (bel3 HB.out hb)
 have k1 : w1.cell? ⟨w.heap.size, 0, none⟩ = some (.int .i64 (8 * (m : Int))) := blk_cell K1.out 0
 clear hb
 go_wp2_with (first | (go_at_call 98; refine (isAddr_yes (8 * (m : Int)) _ (by omega) (by omega)).mono ?_; rintro e w2 ⟨rfl, rfl⟩) | (go_at_call 100; refine (root_yes m _ hm).mono ?_; rintro e w2 ⟨rfl, rfl⟩))
 go_region_held3 (fun w' => w'.cell? ⟨w.heap.size, 0, none⟩ = some (.int .i64 (8 * (m : Int)))) (go_keep) (first | (go_at_call 186; refine (HT.out _ (below_drew B1.out)).mono ?_; rintro e w2 ⟨v, rfl, hv, hb⟩; obtain ⟨g, gc, cur, rfl, hg, hG, q0, q1, q2⟩ : OneTree w2 w1.drew.heap.size (8 * (m : Int)) v := (by rcases hv with ⟨h, _⟩ | ⟨_, h⟩; exact absurd h HF.out; exact h); have c0 := (blk_cell hG 0).trans q0; have c1 := (blk_cell hG 1).trans q1; have c2 := (blk_cell hG 2).trans q2; have K2 := ak_ (blk_below (blk_drew K1.out) hb); have O2 := ak_ (blk_below (blk_drew O1.out) hb); have B2 := ak_ (bel3 (below_drew B1.out) hb); have k2 : w2.cell? ⟨w.heap.size, 0, none⟩ = some (.int .i64 (8 * (m : Int))) := blk_cell K2.out 0; clear hb) | (go_at_call 185; refine (find_one g gc (8 * (m : Int)) (by omega) (by omega) _ (by assumption) (by assumption) (by assumption)).mono ?_; rintro e w3 ⟨rfl, hb⟩; have K3 := ak_ (blk_below K2.out hb); have O3 := ak_ (blk_below O2.out hb); have B3 := ak_ (bel3 B2.out hb); have k3 : w3.cell? ⟨w.heap.size, 0, none⟩ = some (.int .i64 (8 * (m : Int))) := blk_cell K3.out 0; clear hb))
 go_wp2_with fail
 refine (spotIndex 188 (by simp) (.pointer (some ⟨w.heap.size, 0, none⟩)) A c vs (atRoot m) (fun w' => w'.heap[w.heap.size]? = some (.cells #[.int .i64 (8 * (m : Int))] 3 (0, 0))) (fun w1 w2 h hb => blk_below h hb) (fun v _ w' h => get188 m _ v w' (blk_cell h 0)) w3 K3.out (Kd.C_below HC.out B3.out)).mono ?_
 rintro e w4 ⟨rfl, hb⟩
 have O4 := ak_ (blk_below O3.out hb)
 have B4 := ak_ (bel3 B3.out hb)
 clear hb
 rw [HI.out]
 obtain ⟨ad, he, y0, yj⟩ := flat_cells HC.out i v HX.out
 cases he
 have y1 := yj 1 _ (by decide) rfl
 have y2 := yj 2 _ (by decide) rfl
 replace y0 := y0 _ rfl
 clear yj
 replace y0 := (B4.out.cell (World.block_lt_of_cell? w _ y0)).trans y0
 replace y1 := (B4.out.cell (World.block_lt_of_cell? w _ y1)).trans y1
 replace y2 := (B4.out.cell (World.block_lt_of_cell? w _ y2)).trans y2
 have o0 : w4.cell? ⟨w.heap.size + 1, 0, none⟩ = some (.int .i64 0) := blk_cell O4.out 0
 have o1 : w4.cell? ⟨w.heap.size + 1, 1, none⟩ = some (.int .i64 0) := blk_cell O4.out 1
 have o2 : w4.cell? ⟨w.heap.size + 1, 2, none⟩ = some (.slice none 0 0) := blk_cell O4.out 2
 have f0 : w4.frozen? ⟨w.heap.size + 1, 0, none⟩ = false := blk_frozen O4.out 0
 have f1 : w4.frozen? ⟨w.heap.size + 1, 1, none⟩ = false := blk_frozen O4.out 1
 have f2 : w4.frozen? ⟨w.heap.size + 1, 2, none⟩ = false := blk_frozen O4.out 2
 go_wp2
 have O5 := blk_put (blk_put (blk_put O4.out 0 (.int .i64 v.addr) rfl) 1 (.int .i64 v.count) rfl) 2 (.slice v.A v.n v.c) rfl
 have B5 := ((B4.out.setCell (p := ⟨w.heap.size + 1, 0, none⟩) (by simp) (.int .i64 v.addr)).setCell (p := ⟨w.heap.size + 1, 1, none⟩) (by simp) (.int .i64 v.count)).setCell (p := ⟨w.heap.size + 1, 2, none⟩) (by simp) (.slice v.A v.n v.c)
 exact bodyPost_ret (results_ct rfl _ _ (w.heap.size + 1) 87 _ (0, 0) _ rfl O5 Tryz.underlying87 rfl (by kernel_rfl)) rfl ⟨rfl, B5⟩
theorem get_calls (A : Option Addr) (c m : Nat) (vs : List VS) (t : List Spot) (w : World) (hm : m < 4) (hC : kV.C w A vs.length vs) (hc : vs.length ≤ c) (hv : VRow w vs t) (ht : OkTab t) :
  Calls Tryz.prog 159 #[.slice A vs.length c, .int .i64 (8 * (m : Int))] w (GetPost (getV vs m) w) := by
 by_cases hf : vs.filter (atRoot m) = []
 ·have : getV vs m = ⟨8 * (m : Int), 0, none, 0, 0⟩ := by
   have h2 : vs.find? (atRoot m) = none := by
    rw [List.find?_eq_none]
    intro v hv hp
    have : v ∈ vs.filter (atRoot m) := List.mem_filter.2 ⟨hv, hp⟩
    rw [hf] at this
    cases this
   unfold getV
   rw [h2]
  rw [this]
  exact get_none A c m vs t w hm hC hc hv ht hf
 ·obtain ⟨i, hi⟩ : ∃ i, vs.findIdx? (atRoot m) = some i := by
   cases q : vs.findIdx? (atRoot m) with
   | some i => exact ⟨i, rfl⟩
   | none =>
    rw [List.findIdx?_eq_none_iff] at q
    refine absurd (List.filter_eq_nil_iff.2 fun v hv => ?_) hf
    rw [q v hv]
    decide
  obtain ⟨h1, h2, h3⟩ := List.findIdx?_eq_some_iff_getElem.1 hi
  have hg : getV vs m = vs[i] := by
   have : vs.find? (atRoot m) = some vs[i] := by
    rw [List.find?_eq_some_iff_getElem]
    exact ⟨h2, i, h1, rfl, fun j hj => by simpa using h3 j hj⟩
   unfold getV
   rw [this]
  rw [hg]
  exact get_one A c m vs t w hm hC hc hv ht vs[i] i (List.getElem?_eq_getElem h1) (by unfold idxI; rw [hi]) hf
end Go.Proofs.YtoimfknjfeencaaGreatDoor.Hand
end
