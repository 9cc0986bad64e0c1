/- Part of the walk of a law of the top, and what it leans on (St, Grab2, Grab3, Grab4). No conditions beyond those that each lemma names. -/
import Derived.Test.YtoimfknjfeencaaGreatDoorZ07
import Derived.Test.YtoimfknjfeencaaGreatDoorZ09
set_option linter.unusedVariables false
set_option linter.unusedSimpArgs false
set_option maxHeartbeats 8000000
set_option maxRecDepth 100000
section
namespace Go.Proofs.YtoimfknjfeencaaGreatDoor.Hand
open Go.RowKit Go.Proofs.YtoimfknjfeencaaGreatDoorW.PrintWords Go.Proofs.YtoimfknjfeencaaGreatDoorW.PrintLast Go.Proofs.YtoimfknjfeencaaGreatDoorW.PrintMore
section
structure Blk where
 sp : Nat
 np : Nat
 cp : Nat
 mb : Nat
 cb : Nat
 ex : Nat → Prop
 fr : List (Nat × Obj) := []
def Blk.has (k : Blk) (b : Nat) : Prop := b = k.sp ∨ b = k.np ∨ b = k.cp ∨ b = k.mb ∨ b = k.cb
def Blk.hx (k : Blk) (b : Nat) : Prop := k.has b ∨ k.ex b
structure Sx where
 now : Int
 pv : Value
 cv : Value
 mv : Value
 tv : Value
 stop : Int
 c : M.Client
 mp : Value
 who : Int
 at_ : Int
 over : Bool
 ev : Value
 evs : List M.Event
 mu : List M.Mutex
 cl : List M.Client
 tab : List Spot
def Rows {α : Type} (enc : α → List Value) (sz : Nat) (arr : Array Value) (l : List α) : Prop := ∀ i x, l[i]? = some x → ∀ j u, (enc x)[j]? = some u → arr[i * sz + j]? = some u
structure St (B : Nat) (k : Blk) (s : Sx) (w : World) : Prop where
 bs : w.heap[k.sp]? = some (.cells #[.pointer (some ⟨k.np, 0, none⟩), .pointer (some ⟨k.cp, 0, none⟩), s.mp, .int .i64 s.who, .int .i64 s.at_, .bool s.over, s.ev] 81 (0, 0))
 bn : w.heap[k.np]? = some (.cells #[.int .i64 s.now, s.pv, s.cv, s.mv, s.tv, .int .i64 s.stop] 29 (0, 0))
 bc : w.heap[k.cp]? = some (.cells (encClient s.c).toArray 44 (0, 0))
 bm : ∃ arr, w.heap[k.mb]? = some (.cells arr 53 (0, 0)) ∧ Rows encMutex 3 arr s.mu
 bl : ∃ arr, w.heap[k.cb]? = some (.cells arr 44 (0, 0)) ∧ Rows encClient 13 arr s.cl
 ne : k.cp ≠ k.cb
 lo : ∀ b, k.has b → B ≤ b
 ev : Kd.R kEvent 136 w B (fun _ => True) s.ev s.evs
 tb : ∀ W, Kept w W k.hx → Sl kSpot W s.tv s.tab
 fr : ∀ q ∈ k.fr, w.heap[q.1]? = some q.2 ∧ ¬ k.has q.1
 exl : ∀ b, k.ex b → b < w.heap.size
theorem Rows.get {α : Type} {enc : α → List Value} {sz : Nat} {arr : Array Value} {l : List α} (h : Rows enc sz arr l) {i : Nat} {x : α} (hx : l[i]? = some x) (j : Nat) {u : Value} (hu : (enc x)[j]? = some u) : arr[i * sz + j]? = some u := h i x hx j u hu
theorem Rows.put {α : Type} {enc : α → List Value} {sz : Nat} {arr : Array Value} {l : List α} (h1 : ∀ x, (enc x).length = sz) (h : Rows enc sz arr l) {i : Nat} {x y : α} (hx : l[i]? = some x) (j : Nat) (hj : j < sz) (u : Value) (e : (enc x).set j u = enc y) : Rows enc sz (arr.setIfInBounds (i * sz + j) u) (l.set i y) := by
 intro i' x' hx' j' u' hu'
 have hj' : j' < sz := by
  rw [← h1 x']
  exact (List.getElem?_eq_some_iff.1 hu').1
 rw [List.getElem?_set] at hx'
 by_cases hi : i = i'
 ·subst hi
  rw [if_pos rfl] at hx'
  split at hx'
  ·cases hx'
   rw [← e, List.getElem?_set] at hu'
   by_cases hjj : j = j'
   ·subst hjj
    rw [if_pos rfl, if_pos (by rw [h1]; exact hj)] at hu'
    cases hu'
    have := h i x hx j ((enc x)[j]'(by rw [h1]; exact hj)) (List.getElem?_eq_getElem _)
    have hlt := (Array.getElem?_eq_some_iff.1 this).1
    rw [Array.getElem?_setIfInBounds, if_pos rfl, if_pos hlt]
   ·rw [if_neg hjj] at hu'
    rw [Array.getElem?_setIfInBounds_ne (by omega)]
    exact h i x hx j' u' hu'
  ·cases hx'
 ·rw [if_neg hi] at hx'
  have hne : i * sz + j ≠ i' * sz + j' := by
   intro q
   rcases Nat.lt_or_gt_of_ne hi with g | g
   ·have : (i + 1) * sz ≤ i' * sz := Nat.mul_le_mul_right _ g
    rw [Nat.succ_mul] at this
    omega
   ·have : (i' + 1) * sz ≤ i * sz := Nat.mul_le_mul_right _ g
    rw [Nat.succ_mul] at this
    omega
  rw [Array.getElem?_setIfInBounds_ne hne]
  exact h i' x' hx' j' u' hu'
section
variable {B : Nat} {k : Blk} {s : Sx} {w : World}
theorem St.below (h : St B k s w) {w' : World} (hb : Below w.heap.size w w') : St B k s w' := by
 obtain ⟨a1, m1, m2⟩ := h.bm
 obtain ⟨a2, l1, l2⟩ := h.bl
 exact ⟨blk_below h.bs hb, blk_below h.bn hb, blk_below h.bc hb, ⟨a1, blk_below m1 hb, m2⟩, ⟨a2, blk_below l1 hb, l2⟩, h.ne, h.lo, Kd.R_below h.ev hb, fun W hk => h.tb W ((Kept.of_below hb _).then_ hk (fun _ q => .inl q)), fun q hq => ⟨blk_below (h.fr q hq).1 hb, (h.fr q hq).2⟩, fun b q => Nat.lt_of_lt_of_le (h.exl b q) hb.size⟩
theorem St.alloc (h : St B k s w) (o : Obj) : St B k s (w.alloc o) := h.below (below_alloc (Below.refl _ _) o)
theorem St.drew (h : St B k s w) : St B k s w.drew := h.below (below_drew (Below.refl _ _))
theorem St.lt_of (h : St B k s w) (b : Nat) (hb : k.has b) : b < w.heap.size := by
 obtain ⟨a1, m1, m2⟩ := h.bm
 obtain ⟨a2, l1, l2⟩ := h.bl
 rcases hb with rfl | rfl | rfl | rfl | rfl
 ·exact blk_lt h.bs
 ·exact blk_lt h.bn
 ·exact blk_lt h.bc
 ·exact blk_lt m1
 ·exact blk_lt l1
theorem St.tbSet (h : St B k s w) {p : Addr} (hp : k.has p.block) (u : Value) : ∀ W, Kept (w.setCell p u) W k.hx → Sl kSpot W s.tv s.tab := fun W hk =>
 h.tb W (((Kept.refl w k.hx).setCell (.inl (.inl hp)) u).then_ hk (fun _ q => .inl q))
theorem St.frSet (h : St B k s w) {p : Addr} (hp : k.has p.block) (u : Value) : ∀ q ∈ k.fr, (w.setCell p u).heap[q.1]? = some q.2 ∧ ¬ k.has q.1 := fun q hq =>
 ⟨(Below.heap_setCell w p u q.1 (fun e => (h.fr q hq).2 (by rw [e]; exact hp))).trans (h.fr q hq).1, (h.fr q hq).2⟩
theorem St.exSet (h : St B k s w) (p : Addr) (u : Value) : ∀ b, k.ex b → b < (w.setCell p u).heap.size := fun b q => by simpa [World.setCell] using h.exl b q
theorem St.lt_hx (h : St B k s w) (b : Nat) (hb : k.hx b) : b < w.heap.size := hb.elim (h.lt_of b) (h.exl b)
theorem St.aside (h : St B k s w) (l : List (Nat × Obj)) (hl : ∀ q ∈ l, w.heap[q.1]? = some q.2 ∧ ¬ k.has q.1) : St B { k with fr := l } s w := ⟨h.bs, h.bn, h.bc, h.bm, h.bl, h.ne, h.lo, h.ev, h.tb, hl, h.exl⟩
theorem St.putc (h : St B k s w) (i : Nat) (u : Value) (c' : M.Client) (e : (encClient s.c).toArray.setIfInBounds i u = (encClient c').toArray) : St B k { s with c := c' } (w.setCell ⟨k.cp, i, none⟩ u) := by
 obtain ⟨a1, m1, m2⟩ := h.bm
 obtain ⟨a2, l1, l2⟩ := h.bl
 exact ⟨blk_far h.bs (p := ⟨k.cp, i, none⟩) (blk_ne h.bs h.bc (by decide)) u, blk_far h.bn (p := ⟨k.cp, i, none⟩) (blk_ne h.bn h.bc (by decide)) u, blk_put h.bc i u e, ⟨a1, blk_far m1 (p := ⟨k.cp, i, none⟩) (blk_ne m1 h.bc (by decide)) u, m2⟩, ⟨a2, blk_far l1 (p := ⟨k.cp, i, none⟩) (fun q => h.ne q.symm) u, l2⟩, h.ne, h.lo, Kd.R_set h.ev h.bc (by decide) i u, h.tbSet (p := ⟨k.cp, i, none⟩) (.inr (.inr (.inl rfl))) u, h.frSet (p := ⟨k.cp, i, none⟩) (.inr (.inr (.inl rfl))) u, h.exSet ⟨k.cp, i, none⟩ _⟩
theorem St.putOver (h : St B k s w) (b : Bool) : St B k { s with over := b } (w.setCell ⟨k.sp, 5, none⟩ (.bool b)) := by
 obtain ⟨a1, m1, m2⟩ := h.bm
 obtain ⟨a2, l1, l2⟩ := h.bl
 exact ⟨blk_put h.bs 5 (.bool b) rfl, blk_far h.bn (p := ⟨k.sp, 5, none⟩) (blk_ne h.bn h.bs (by decide)) _, blk_far h.bc (p := ⟨k.sp, 5, none⟩) (blk_ne h.bc h.bs (by decide)) _, ⟨a1, blk_far m1 (p := ⟨k.sp, 5, none⟩) (blk_ne m1 h.bs (by decide)) _, m2⟩, ⟨a2, blk_far l1 (p := ⟨k.sp, 5, none⟩) (blk_ne l1 h.bs (by decide)) _, l2⟩, h.ne, h.lo, Kd.R_set h.ev h.bs (by decide) 5 _, h.tbSet (p := ⟨k.sp, 5, none⟩) (.inl rfl) _, h.frSet (p := ⟨k.sp, 5, none⟩) (.inl rfl) _, h.exSet ⟨k.sp, 5, none⟩ _⟩
theorem St.putEv (h : St B k s w) (v : Value) (l : List M.Event) (hv : Kd.R kEvent 136 w B (fun _ => True) v l) : St B k { s with ev := v, evs := l } (w.setCell ⟨k.sp, 6, none⟩ v) := by
 obtain ⟨a1, m1, m2⟩ := h.bm
 obtain ⟨a2, l1, l2⟩ := h.bl
 exact ⟨blk_put h.bs 6 v rfl, blk_far h.bn (p := ⟨k.sp, 6, none⟩) (blk_ne h.bn h.bs (by decide)) _, blk_far h.bc (p := ⟨k.sp, 6, none⟩) (blk_ne h.bc h.bs (by decide)) _, ⟨a1, blk_far m1 (p := ⟨k.sp, 6, none⟩) (blk_ne m1 h.bs (by decide)) _, m2⟩, ⟨a2, blk_far l1 (p := ⟨k.sp, 6, none⟩) (blk_ne l1 h.bs (by decide)) _, l2⟩, h.ne, h.lo, Kd.R_set hv h.bs (by decide) 6 _, h.tbSet (p := ⟨k.sp, 6, none⟩) (.inl rfl) _, h.frSet (p := ⟨k.sp, 6, none⟩) (.inl rfl) _, h.exSet ⟨k.sp, 6, none⟩ _⟩
theorem St.putAt (h : St B k s w) (n : Int) : St B k { s with at_ := n } (w.setCell ⟨k.sp, 4, none⟩ (.int .i64 n)) := by
 obtain ⟨a1, m1, m2⟩ := h.bm
 obtain ⟨a2, l1, l2⟩ := h.bl
 exact ⟨blk_put h.bs 4 _ rfl, blk_far h.bn (p := ⟨k.sp, 4, none⟩) (blk_ne h.bn h.bs (by decide)) _, blk_far h.bc (p := ⟨k.sp, 4, none⟩) (blk_ne h.bc h.bs (by decide)) _, ⟨a1, blk_far m1 (p := ⟨k.sp, 4, none⟩) (blk_ne m1 h.bs (by decide)) _, m2⟩, ⟨a2, blk_far l1 (p := ⟨k.sp, 4, none⟩) (blk_ne l1 h.bs (by decide)) _, l2⟩, h.ne, h.lo, Kd.R_set h.ev h.bs (by decide) 4 _, h.tbSet (p := ⟨k.sp, 4, none⟩) (.inl rfl) _, h.frSet (p := ⟨k.sp, 4, none⟩) (.inl rfl) _, h.exSet ⟨k.sp, 4, none⟩ _⟩
theorem St.putMp (h : St B k s w) (v : Value) : St B k { s with mp := v } (w.setCell ⟨k.sp, 2, none⟩ v) := by
 obtain ⟨a1, m1, m2⟩ := h.bm
 obtain ⟨a2, l1, l2⟩ := h.bl
 exact ⟨blk_put h.bs 2 _ rfl, blk_far h.bn (p := ⟨k.sp, 2, none⟩) (blk_ne h.bn h.bs (by decide)) _, blk_far h.bc (p := ⟨k.sp, 2, none⟩) (blk_ne h.bc h.bs (by decide)) _, ⟨a1, blk_far m1 (p := ⟨k.sp, 2, none⟩) (blk_ne m1 h.bs (by decide)) _, m2⟩, ⟨a2, blk_far l1 (p := ⟨k.sp, 2, none⟩) (blk_ne l1 h.bs (by decide)) _, l2⟩, h.ne, h.lo, Kd.R_set h.ev h.bs (by decide) 2 _, h.tbSet (p := ⟨k.sp, 2, none⟩) (.inl rfl) _, h.frSet (p := ⟨k.sp, 2, none⟩) (.inl rfl) _, h.exSet ⟨k.sp, 2, none⟩ _⟩
theorem St.putStop (h : St B k s w) (n : Int) : St B k { s with stop := n } (w.setCell ⟨k.np, 5, none⟩ (.int .i64 n)) := by
 obtain ⟨a1, m1, m2⟩ := h.bm
 obtain ⟨a2, l1, l2⟩ := h.bl
 exact ⟨blk_far h.bs (p := ⟨k.np, 5, none⟩) (blk_ne h.bs h.bn (by decide)) _, blk_put h.bn 5 _ rfl, blk_far h.bc (p := ⟨k.np, 5, none⟩) (blk_ne h.bc h.bn (by decide)) _, ⟨a1, blk_far m1 (p := ⟨k.np, 5, none⟩) (blk_ne m1 h.bn (by decide)) _, m2⟩, ⟨a2, blk_far l1 (p := ⟨k.np, 5, none⟩) (blk_ne l1 h.bn (by decide)) _, l2⟩, h.ne, h.lo, Kd.R_set h.ev h.bn (by decide) 5 _, h.tbSet (p := ⟨k.np, 5, none⟩) (.inr (.inl rfl)) _, h.frSet (p := ⟨k.np, 5, none⟩) (.inr (.inl rfl)) _, h.exSet ⟨k.np, 5, none⟩ _⟩
theorem St.putTab (h : St B k s w) (v : Value) (t : List Spot) (hv : ∀ W, Kept w W k.hx → Sl kSpot W v t) : St B k { s with tv := v, tab := t } (w.setCell ⟨k.np, 4, none⟩ v) := by
 obtain ⟨a1, m1, m2⟩ := h.bm
 obtain ⟨a2, l1, l2⟩ := h.bl
 exact ⟨blk_far h.bs (p := ⟨k.np, 4, none⟩) (blk_ne h.bs h.bn (by decide)) _, blk_put h.bn 4 _ rfl, blk_far h.bc (p := ⟨k.np, 4, none⟩) (blk_ne h.bc h.bn (by decide)) _, ⟨a1, blk_far m1 (p := ⟨k.np, 4, none⟩) (blk_ne m1 h.bn (by decide)) _, m2⟩, ⟨a2, blk_far l1 (p := ⟨k.np, 4, none⟩) (blk_ne l1 h.bn (by decide)) _, l2⟩, h.ne, h.lo, Kd.R_set h.ev h.bn (by decide) 4 _,
  fun W hk => hv W (((Kept.refl w k.hx).setCell (p := ⟨k.np, 4, none⟩) (.inl (.inl (.inr (.inl rfl)))) v).then_ hk (fun _ q => .inl q)), h.frSet (p := ⟨k.np, 4, none⟩) (.inr (.inl rfl)) v, h.exSet ⟨k.np, 4, none⟩ _⟩
theorem St.putm (h : St B k s w) (m : Nat) (x y : M.Mutex) (hx : s.mu[m]? = some x) (j : Nat) (hj : j < 3) (u : Value) (e : (encMutex x).set j u = encMutex y) : St B k { s with mu := s.mu.set m y } (w.setCell ⟨k.mb, m * 3 + j, none⟩ u) := by
 obtain ⟨a1, m1, m2⟩ := h.bm
 obtain ⟨a2, l1, l2⟩ := h.bl
 exact ⟨blk_far h.bs (p := ⟨k.mb, m * 3 + j, none⟩) (blk_ne h.bs m1 (by decide)) _, blk_far h.bn (p := ⟨k.mb, m * 3 + j, none⟩) (blk_ne h.bn m1 (by decide)) _, blk_far h.bc (p := ⟨k.mb, m * 3 + j, none⟩) (blk_ne h.bc m1 (by decide)) _, ⟨_, blk_put m1 (m * 3 + j) u rfl, m2.put (sz := 3) (fun _ => rfl) hx j hj u e⟩, ⟨a2, blk_far l1 (p := ⟨k.mb, m * 3 + j, none⟩) (blk_ne l1 m1 (by decide)) _, l2⟩, h.ne, h.lo, Kd.R_set h.ev m1 (by decide) _ _, h.tbSet (p := ⟨k.mb, m * 3 + j, none⟩) (.inr (.inr (.inr (.inl rfl)))) _, h.frSet (p := ⟨k.mb, m * 3 + j, none⟩) (.inr (.inr (.inr (.inl rfl)))) _, h.exSet ⟨k.mb, m * 3 + j, none⟩ _⟩
theorem St.putl (h : St B k s w) (m : Nat) (x y : M.Client) (hx : s.cl[m]? = some x) (j : Nat) (hj : j < 13) (u : Value) (e : (encClient x).set j u = encClient y) : St B k { s with cl := s.cl.set m y } (w.setCell ⟨k.cb, m * 13 + j, none⟩ u) := by
 obtain ⟨a1, m1, m2⟩ := h.bm
 obtain ⟨a2, l1, l2⟩ := h.bl
 exact ⟨blk_far h.bs (p := ⟨k.cb, m * 13 + j, none⟩) (blk_ne h.bs l1 (by decide)) _, blk_far h.bn (p := ⟨k.cb, m * 13 + j, none⟩) (blk_ne h.bn l1 (by decide)) _, blk_far h.bc (p := ⟨k.cb, m * 13 + j, none⟩) h.ne _, ⟨a1, blk_far m1 (p := ⟨k.cb, m * 13 + j, none⟩) (blk_ne m1 l1 (by decide)) _, m2⟩, ⟨_, blk_put l1 (m * 13 + j) u rfl, l2.put (sz := 13) (fun _ => rfl) hx j hj u e⟩, h.ne, h.lo, Kd.R_set h.ev l1 (by decide) _ _, h.tbSet (p := ⟨k.cb, m * 13 + j, none⟩) (.inr (.inr (.inr (.inr rfl)))) _, h.frSet (p := ⟨k.cb, m * 13 + j, none⟩) (.inr (.inr (.inr (.inr rfl)))) _, h.exSet ⟨k.cb, m * 13 + j, none⟩ _⟩
theorem St.mcell (h : St B k s w) {m : Nat} {x : M.Mutex} (hx : s.mu[m]? = some x) (j : Nat) {u : Value} (hu : (encMutex x)[j]? = some u) : w.cell? ⟨k.mb, m * 3 + j, none⟩ = some u := by
 obtain ⟨a1, m1, m2⟩ := h.bm
 rw [blk_cell m1]
 exact m2.get hx j hu
theorem St.mfrozen (h : St B k s w) (j : Nat) : w.frozen? ⟨k.mb, j, none⟩ = false := by
 obtain ⟨a1, m1, m2⟩ := h.bm
 exact blk_frozen m1 j
theorem St.lcell (h : St B k s w) {m : Nat} {x : M.Client} (hx : s.cl[m]? = some x) (j : Nat) {u : Value} (hu : (encClient x)[j]? = some u) : w.cell? ⟨k.cb, m * 13 + j, none⟩ = some u := by
 obtain ⟨a2, l1, l2⟩ := h.bl
 rw [blk_cell l1]
 exact l2.get hx j hu
theorem St.lfrozen (h : St B k s w) (j : Nat) : w.frozen? ⟨k.cb, j, none⟩ = false := by
 obtain ⟨a2, l1, l2⟩ := h.bl
 exact blk_frozen l1 j
end
section
variable {B : Nat} {k : Blk} {s : Sx} {w : World}
theorem St.ne_sn (h : St B k s w) : k.sp ≠ k.np := by exact blk_ne h.bs h.bn (by decide)
theorem St.ne_sc (h : St B k s w) : k.sp ≠ k.cp := by exact blk_ne h.bs h.bc (by decide)
theorem St.ne_ns (h : St B k s w) : k.np ≠ k.sp := by exact blk_ne h.bn h.bs (by decide)
theorem St.ne_nc (h : St B k s w) : k.np ≠ k.cp := by exact blk_ne h.bn h.bc (by decide)
theorem St.ne_nl (h : St B k s w) : k.np ≠ k.cb := by obtain ⟨a2, l1, l2⟩ := h.bl; exact blk_ne h.bn l1 (by decide)
theorem St.ne_cs (h : St B k s w) : k.cp ≠ k.sp := by exact blk_ne h.bc h.bs (by decide)
theorem St.ne_cn (h : St B k s w) : k.cp ≠ k.np := by exact blk_ne h.bc h.bn (by decide)
theorem St.ne_cm (h : St B k s w) : k.cp ≠ k.mb := by obtain ⟨a1, m1, m2⟩ := h.bm; exact blk_ne h.bc m1 (by decide)
theorem St.ne_cl (h : St B k s w) : k.cp ≠ k.cb := h.ne
theorem St.ne_ln (h : St B k s w) : k.cb ≠ k.np := by obtain ⟨a2, l1, l2⟩ := h.bl; exact blk_ne l1 h.bn (by decide)
theorem St.ne_lc (h : St B k s w) : k.cb ≠ k.cp := fun q => h.ne q.symm
theorem St.lt_s (h : St B k s w) : k.sp < w.heap.size := h.lt_of _ (.inl rfl)
end
section
variable {B : Nat} {k : Blk} {s : Sx} {w : World}
theorem St.s0 (h : St B k s w) : w.cell? ⟨k.sp, 0, none⟩ = some (.pointer (some ⟨k.np, 0, none⟩)) := blk_cell h.bs 0
theorem St.s1 (h : St B k s w) : w.cell? ⟨k.sp, 1, none⟩ = some (.pointer (some ⟨k.cp, 0, none⟩)) := blk_cell h.bs 1
theorem St.s2 (h : St B k s w) : w.cell? ⟨k.sp, 2, none⟩ = some (s.mp) := blk_cell h.bs 2
theorem St.fs2 (h : St B k s w) : w.frozen? ⟨k.sp, 2, none⟩ = false := blk_frozen h.bs 2
theorem St.s3 (h : St B k s w) : w.cell? ⟨k.sp, 3, none⟩ = some (.int .i64 s.who) := blk_cell h.bs 3
theorem St.s4 (h : St B k s w) : w.cell? ⟨k.sp, 4, none⟩ = some (.int .i64 s.at_) := blk_cell h.bs 4
theorem St.fs4 (h : St B k s w) : w.frozen? ⟨k.sp, 4, none⟩ = false := blk_frozen h.bs 4
theorem St.s5 (h : St B k s w) : w.cell? ⟨k.sp, 5, none⟩ = some (.bool s.over) := blk_cell h.bs 5
theorem St.fs5 (h : St B k s w) : w.frozen? ⟨k.sp, 5, none⟩ = false := blk_frozen h.bs 5
theorem St.s6 (h : St B k s w) : w.cell? ⟨k.sp, 6, none⟩ = some (s.ev) := blk_cell h.bs 6
theorem St.fs6 (h : St B k s w) : w.frozen? ⟨k.sp, 6, none⟩ = false := blk_frozen h.bs 6
theorem St.n0 (h : St B k s w) : w.cell? ⟨k.np, 0, none⟩ = some (.int .i64 s.now) := blk_cell h.bn 0
theorem St.n1 (h : St B k s w) : w.cell? ⟨k.np, 1, none⟩ = some (s.pv) := blk_cell h.bn 1
theorem St.n2 (h : St B k s w) : w.cell? ⟨k.np, 2, none⟩ = some (s.cv) := blk_cell h.bn 2
theorem St.n3 (h : St B k s w) : w.cell? ⟨k.np, 3, none⟩ = some (s.mv) := blk_cell h.bn 3
theorem St.n4 (h : St B k s w) : w.cell? ⟨k.np, 4, none⟩ = some (s.tv) := blk_cell h.bn 4
theorem St.fn4 (h : St B k s w) : w.frozen? ⟨k.np, 4, none⟩ = false := blk_frozen h.bn 4
theorem St.n5 (h : St B k s w) : w.cell? ⟨k.np, 5, none⟩ = some (.int .i64 s.stop) := blk_cell h.bn 5
theorem St.fn5 (h : St B k s w) : w.frozen? ⟨k.np, 5, none⟩ = false := blk_frozen h.bn 5
theorem St.c0 (h : St B k s w) : w.cell? ⟨k.cp, 0, none⟩ = some (.int .i64 s.c.gor.state) := blk_cell h.bc 0
theorem St.fc0 (h : St B k s w) : w.frozen? ⟨k.cp, 0, none⟩ = false := blk_frozen h.bc 0
theorem St.c1 (h : St B k s w) : w.cell? ⟨k.cp, 1, none⟩ = some (.bool s.c.gor.permit) := blk_cell h.bc 1
theorem St.fc1 (h : St B k s w) : w.frozen? ⟨k.cp, 1, none⟩ = false := blk_frozen h.bc 1
theorem St.c2 (h : St B k s w) : w.cell? ⟨k.cp, 2, none⟩ = some (.int .i64 s.c.act) := blk_cell h.bc 2
theorem St.fc2 (h : St B k s w) : w.frozen? ⟨k.cp, 2, none⟩ = false := blk_frozen h.bc 2
theorem St.c3 (h : St B k s w) : w.cell? ⟨k.cp, 3, none⟩ = some (.int .i64 s.c.pc) := blk_cell h.bc 3
theorem St.fc3 (h : St B k s w) : w.frozen? ⟨k.cp, 3, none⟩ = false := blk_frozen h.bc 3
theorem St.c4 (h : St B k s w) : w.cell? ⟨k.cp, 4, none⟩ = some (.int .i64 s.c.worked) := blk_cell h.bc 4
theorem St.fc4 (h : St B k s w) : w.frozen? ⟨k.cp, 4, none⟩ = false := blk_frozen h.bc 4
theorem St.c5 (h : St B k s w) : w.cell? ⟨k.cp, 5, none⟩ = some (.int .i64 s.c.ticket) := blk_cell h.bc 5
theorem St.fc5 (h : St B k s w) : w.frozen? ⟨k.cp, 5, none⟩ = false := blk_frozen h.bc 5
theorem St.c6 (h : St B k s w) : w.cell? ⟨k.cp, 6, none⟩ = some (.bool s.c.first) := blk_cell h.bc 6
theorem St.fc6 (h : St B k s w) : w.frozen? ⟨k.cp, 6, none⟩ = false := blk_frozen h.bc 6
theorem St.c7 (h : St B k s w) : w.cell? ⟨k.cp, 7, none⟩ = some (.bool s.c.told) := blk_cell h.bc 7
theorem St.fc7 (h : St B k s w) : w.frozen? ⟨k.cp, 7, none⟩ = false := blk_frozen h.bc 7
theorem St.c8 (h : St B k s w) : w.cell? ⟨k.cp, 8, none⟩ = some (.int .i64 s.c.own.since) := blk_cell h.bc 8
theorem St.fc8 (h : St B k s w) : w.frozen? ⟨k.cp, 8, none⟩ = false := blk_frozen h.bc 8
theorem St.c9 (h : St B k s w) : w.cell? ⟨k.cp, 9, none⟩ = some (.bool s.c.own.starving) := blk_cell h.bc 9
theorem St.fc9 (h : St B k s w) : w.frozen? ⟨k.cp, 9, none⟩ = false := blk_frozen h.bc 9
theorem St.c10 (h : St B k s w) : w.cell? ⟨k.cp, 10, none⟩ = some (.bool s.c.own.awake) := blk_cell h.bc 10
theorem St.fc10 (h : St B k s w) : w.frozen? ⟨k.cp, 10, none⟩ = false := blk_frozen h.bc 10
theorem St.c11 (h : St B k s w) : w.cell? ⟨k.cp, 11, none⟩ = some (.int .i64 s.c.own.rounds) := blk_cell h.bc 11
theorem St.fc11 (h : St B k s w) : w.frozen? ⟨k.cp, 11, none⟩ = false := blk_frozen h.bc 11
theorem St.c12 (h : St B k s w) : w.cell? ⟨k.cp, 12, none⟩ = some (.int .i64 s.c.own.old) := blk_cell h.bc 12
theorem St.fc12 (h : St B k s w) : w.frozen? ⟨k.cp, 12, none⟩ = false := blk_frozen h.bc 12
theorem St.mp_ (h : St B k s w) {m : Nat} (hm : s.mp = .pointer (some ⟨k.mb, m * 3, none⟩)) : w.cell? ⟨k.sp, 2, none⟩ = some (.pointer (some ⟨k.mb, m * 3, none⟩)) := by rw [← hm]; exact h.s2
theorem St.m0 (h : St B k s w) {m : Nat} {x : M.Mutex} (hx : s.mu[m]? = some x) : w.cell? ⟨k.mb, m * 3, none⟩ = some (.int .i64 x.word) := h.mcell hx 0 rfl
theorem St.fm0 (h : St B k s w) {m : Nat} {x : M.Mutex} (hx : s.mu[m]? = some x) : w.frozen? ⟨k.mb, m * 3, none⟩ = false := h.mfrozen _
theorem St.m1 (h : St B k s w) {m : Nat} {x : M.Mutex} (hx : s.mu[m]? = some x) : w.cell? ⟨k.mb, m * 3 + 1, none⟩ = some (.int .i64 x.line.next) := h.mcell hx 1 rfl
theorem St.fm1 (h : St B k s w) {m : Nat} {x : M.Mutex} (hx : s.mu[m]? = some x) : w.frozen? ⟨k.mb, m * 3 + 1, none⟩ = false := h.mfrozen _
theorem St.m2 (h : St B k s w) {m : Nat} {x : M.Mutex} (hx : s.mu[m]? = some x) : w.cell? ⟨k.mb, m * 3 + 2, none⟩ = some (.int .i64 x.line.serve) := h.mcell hx 2 rfl
theorem St.fm2 (h : St B k s w) {m : Nat} {x : M.Mutex} (hx : s.mu[m]? = some x) : w.frozen? ⟨k.mb, m * 3 + 2, none⟩ = false := h.mfrozen _
theorem St.lo_s (h : St B k s w) : B ≤ k.sp := h.lo _ (.inl rfl)
theorem St.lo_n (h : St B k s w) : B ≤ k.np := h.lo _ (.inr (.inl rfl))
theorem St.lo_c (h : St B k s w) : B ≤ k.cp := h.lo _ (.inr (.inr (.inl rfl)))
theorem St.lo_m (h : St B k s w) : B ≤ k.mb := h.lo _ (.inr (.inr (.inr (.inl rfl))))
theorem St.lo_l (h : St B k s w) : B ≤ k.cb := h.lo _ (.inr (.inr (.inr (.inr rfl))))
theorem St.Blt (h : St B k s w) : B ≤ w.heap.size := Nat.le_of_lt (Nat.lt_of_le_of_lt h.lo_s (blk_lt h.bs))
theorem set_at_same {α : Type} {l : List α} {i : Nat} {x y : α} (h : l[i]? = some x) : (l.set i y)[i]? = some y := by rw [List.getElem?_set, if_pos rfl, if_pos (List.getElem?_eq_some_iff.1 h).1]
end
def Dx (B : Nat) (k : Blk) (P : Sx → Prop) (w : World) (e : Ending) (w' : World) : Prop := e = .returned (.tuple #[]) ∧ Below B w w' ∧ ∃ s, P s ∧ St B k s w'
end
def OwnAt (p : Nat) (si : Int) (st aw : Bool) (rd ol : Int) (w : World) : Prop := w.heap[p]? = some (.cells #[.int .i64 si, .bool st, .bool aw, .int .i64 rd, .int .i64 ol] 42 (0, 0))
theorem OwnAt.below {p : Nat} {si : Int} {st aw : Bool} {rd ol : Int} (w w' : World) (h : OwnAt p si st aw rd ol w) (hb : Below w.heap.size w w') : OwnAt p si st aw rd ol w' := blk_below h hb
theorem got155 (p : Nat) (si : Int) (st aw : Bool) (rd ol : Int) (h : OkOwn si rd ol) : Tells 155 #[.pointer (some ⟨p, 0, none⟩)] (OwnAt p si st aw rd ol) (.bool (!bitOf ol 0 && !bitOf ol 2)) := by
 intro w hp
 have HO := ak_ h
 clear h
 have z0 : w.cell? ⟨p, 0, none⟩ = some (.int .i64 si) := blk_cell hp 0
 have z1 : w.cell? ⟨p, 1, none⟩ = some (.bool st) := blk_cell hp 1
 have z2 : w.cell? ⟨p, 2, none⟩ = some (.bool aw) := blk_cell hp 2
 have z3 : w.cell? ⟨p, 3, none⟩ = some (.int .i64 rd) := blk_cell hp 3
 have z4 : w.cell? ⟨p, 4, none⟩ = some (.int .i64 ol) := blk_cell hp 4
 clear hp
 have hu := Tryz.underlying42
 have hu2 := Tryz.underlying56
 have SY := ak_ (fun w => seen_yes si st aw rd ol w HO.out)
 generalize bitOf ol 0 = b0 at *
 generalize bitOf ol 1 = b1 at *
 generalize bitOf ol 2 = b2 at *
 generalize ol / 8 = n at *
 go_enter Tryz.func155, Tryz.ntmps155
 go_wp2_with fail
 refine (SY.out _).mono ?_
 rintro e w1 ⟨rfl, hb1⟩
 have HB := ak_ (bel2 hb1 (.cells #[.bool b0, .bool b1, .bool b2, .int .i64 n] 56))
 clear hb1 z0 z1 z2 z3 z4
 cases b0 <;> cases b2
 all_goals
  go_wp2
  go_ret
  exact ⟨rfl, HB.out⟩
theorem got_yes (si : Int) (st aw : Bool) (rd ol : Int) (w : World) (h : OkOwn si rd ol) : Calls Tryz.prog 121 #[.agg #[.int .i64 si, .bool st, .bool aw, .int .i64 rd, .int .i64 ol]] w fun e w' => e = .returned (.tuple #[.bool (!bitOf ol 0 && !bitOf ol 2), .int .i64 0]) ∧ Below w.heap.size w w' := by
 have T := ak_ (fun w' h' => toldB 155 (by simp) _ _ _ OwnAt.below (got155 w.heap.size si st aw rd ol h) w' h')
 have hu := Tryz.underlying42
 have hmf : ∀ (fn : Fn) (first cap : Array Value) (w : World), (Instr.makeFunc fn first cap).run Tryz.prog w = .ok (.func fn first cap) w := fun _ _ _ _ => rfl
 generalize (!bitOf ol 0 && !bitOf ol 2) = r at *
 go_enter Tryz.func121, Tryz.ntmps121
 go_wp2_with fail
 refine (T.out _ (blk_new _ _)).mono ?_
 rintro e w1 ⟨rfl, hb1⟩
 have HB := ak_ (bel3 (bel2 (Below.refl _ w) _) hb1)
 clear hb1
 go_wp2
 go_ret2
 exact ⟨rfl, HB.out⟩
theorem wakes183 (p : Nat) (si : Int) (st aw : Bool) (rd ol : Int) (h : OkOwn si rd ol) : Tells 183 #[.pointer (some ⟨p, 0, none⟩)] (OwnAt p si st aw rd ol) (.bool (!aw && !bitOf ol 1 && decide (0 < ol / 8))) := by
 intro w hp
 have HO := ak_ h
 clear h
 have z0 : w.cell? ⟨p, 0, none⟩ = some (.int .i64 si) := blk_cell hp 0
 have z1 : w.cell? ⟨p, 1, none⟩ = some (.bool st) := blk_cell hp 1
 have z2 : w.cell? ⟨p, 2, none⟩ = some (.bool aw) := blk_cell hp 2
 have z3 : w.cell? ⟨p, 3, none⟩ = some (.int .i64 rd) := blk_cell hp 3
 have z4 : w.cell? ⟨p, 4, none⟩ = some (.int .i64 ol) := blk_cell hp 4
 have hu := Tryz.underlying42
 have hu2 := Tryz.underlying56
 have SY := ak_ (fun w => seen_yes si st aw rd ol w HO.out)
 generalize hg0 : bitOf ol 0 = b0 at *
 generalize hg1 : bitOf ol 1 = b1 at *
 generalize hg2 : bitOf ol 2 = b2 at *
 generalize hgn : ol / 8 = n at *
 have hn0 : 0 ≤ n := by have := HO.out.ol; simp [isW] at this; omega
 have hn1 : n ≤ 268435455 := by have := HO.out.ol; simp [isW] at this; omega
 clear hg0 hg1 hg2 hgn
 go_enter Tryz.func183, Tryz.ntmps183
 go_wp2_with fail
 refine (SY.out _).mono ?_
 rintro e w1 ⟨rfl, hb1⟩
 have HB := ak_ (bel2 hb1 (.cells #[.bool b0, .bool b1, .bool b2, .int .i64 n] 56))
 have PK := ak_ (blk_alloc (blk_below hp hb1) (.cells #[.bool b0, .bool b1, .bool b2, .int .i64 n] 56))
 have FK := ak_ (blk_new w1 (.cells #[.bool b0, .bool b1, .bool b2, .int .i64 n] 56))
 clear hp hb1 z0 z1 z2 z3 z4
 have z1 : (w1.alloc (.cells #[.bool b0, .bool b1, .bool b2, .int .i64 n] 56)).cell? ⟨p, 1, none⟩ = some (.bool st) := blk_cell PK.out 1
 have z2 : (w1.alloc (.cells #[.bool b0, .bool b1, .bool b2, .int .i64 n] 56)).cell? ⟨p, 2, none⟩ = some (.bool aw) := blk_cell PK.out 2
 cases aw <;> cases b1
 all_goals
  go_wp2
  go_ret
  exact ⟨rfl, HB.out⟩
theorem wakes_yes (si : Int) (st aw : Bool) (rd ol : Int) (w : World) (h : OkOwn si rd ol) : Calls Tryz.prog 151 #[.agg #[.int .i64 si, .bool st, .bool aw, .int .i64 rd, .int .i64 ol]] w fun e w' => e = .returned (.tuple #[.bool (!aw && !bitOf ol 1 && decide (0 < ol / 8)), .int .i64 0]) ∧ Below w.heap.size w w' := by
 have T := ak_ (fun w' h' => toldB 183 (by simp) _ _ _ OwnAt.below (wakes183 w.heap.size si st aw rd ol h) w' h')
 have hu := Tryz.underlying42
 have hmf : ∀ (fn : Fn) (first cap : Array Value) (w : World), (Instr.makeFunc fn first cap).run Tryz.prog w = .ok (.func fn first cap) w := fun _ _ _ _ => rfl
 generalize (!aw && !bitOf ol 1 && decide (0 < ol / 8)) = r at *
 go_enter Tryz.func151, Tryz.ntmps151
 go_wp2_with fail
 refine (T.out _ (blk_new _ _)).mono ?_
 rintro e w1 ⟨rfl, hb1⟩
 have HB := ak_ (bel3 (bel2 (Below.refl _ w) _) hb1)
 clear hb1
 go_wp2
 go_ret2
 exact ⟨rfl, HB.out⟩
theorem can_yes (r n : Int) (w : World) (hr : 0 ≤ r) (hn : 0 ≤ n) : Calls Tryz.prog 149 #[.int .i64 r, .int .i64 n] w fun e w' => e = .returned (.tuple #[.bool (decide (r < 4) && decide (1 < n)), .int .i64 0]) ∧ w' = w := by
  by_cases h4 : r < 4
  · go_enter Tryz.func149, Tryz.ntmps149
    go_wp2
    go_ret2
    exact ⟨by simp [h4], rfl⟩
  · have h5 : 4 ≤ r := by omega
    clear h4
    go_enter Tryz.func149, Tryz.ntmps149
    go_wp2
    go_ret2
    exact ⟨by have h4 : ¬ r < 4 := by omega
              simp [h4], rfl⟩
def OwnInt (p q : Nat) (si : Int) (st aw : Bool) (rd ol run : Int) (w : World) : Prop := OwnAt p si st aw rd ol w ∧ w.heap[q]? = some (.cells #[.int .i64 run] 3 (0, 0))
theorem OwnInt.below {p q : Nat} {si : Int} {st aw : Bool} {rd ol run : Int} (w w' : World) (h : OwnInt p q si st aw rd ol run w) (hb : Below w.heap.size w w') : OwnInt p q si st aw rd ol run w' := ⟨blk_below h.1 hb, blk_below h.2 hb⟩
theorem spins147 (p : Nat) (si : Int) (st aw : Bool) (rd ol : Int) (h : OkOwn si rd ol) (q : Nat) (run : Int) (hrun : 0 ≤ run) : Tells 147 #[.pointer (some ⟨p, 0, none⟩), .pointer (some ⟨q, 0, none⟩)] (OwnInt p q si st aw rd ol run) (.bool (decide (rd < 4) && decide (1 < run) && bitOf ol 0 && !bitOf ol 2)) := by
 intro w hpq
 obtain ⟨hp, hq⟩ := hpq
 have r0 := h.r0
 have CY := ak_ (fun w => can_yes rd run w r0 hrun)
 generalize (decide (rd < 4) && decide (1 < run)) = cn at *
 have HO := ak_ h
 clear h
 have z0 : w.cell? ⟨p, 0, none⟩ = some (.int .i64 si) := blk_cell hp 0
 have z1 : w.cell? ⟨p, 1, none⟩ = some (.bool st) := blk_cell hp 1
 have z2 : w.cell? ⟨p, 2, none⟩ = some (.bool aw) := blk_cell hp 2
 have z3 : w.cell? ⟨p, 3, none⟩ = some (.int .i64 rd) := blk_cell hp 3
 have z4 : w.cell? ⟨p, 4, none⟩ = some (.int .i64 ol) := blk_cell hp 4
 have hu := Tryz.underlying42
 have hu2 := Tryz.underlying56
 have SY := ak_ (fun w => seen_yes si st aw rd ol w HO.out)
 generalize hg0 : bitOf ol 0 = b0 at *
 generalize hg1 : bitOf ol 1 = b1 at *
 generalize hg2 : bitOf ol 2 = b2 at *
 generalize hgn : ol / 8 = n at *
 have hn0 : 0 ≤ n := by have := HO.out.ol; simp [isW] at this; omega
 have hn1 : n ≤ 268435455 := by have := HO.out.ol; simp [isW] at this; omega
 clear hg0 hg1 hg2 hgn
 go_enter Tryz.func147, Tryz.ntmps147
 go_wp2_with fail
 refine (SY.out _).mono ?_
 rintro e w1 ⟨rfl, hb1⟩
 have HB := ak_ (bel2 hb1 (.cells #[.bool b0, .bool b1, .bool b2, .int .i64 n] 56))
 have PK := ak_ (blk_alloc (blk_below hp hb1) (.cells #[.bool b0, .bool b1, .bool b2, .int .i64 n] 56))
 clear hp z0 z1 z2 z3 z4
 have QK := blk_alloc (blk_below hq hb1) (.cells #[.bool b0, .bool b1, .bool b2, .int .i64 n] 56)
 have z3 : (w1.alloc (.cells #[.bool b0, .bool b1, .bool b2, .int .i64 n] 56)).cell? ⟨p, 3, none⟩ = some (.int .i64 rd) := blk_cell PK.out 3
 have y0 : (w1.alloc (.cells #[.bool b0, .bool b1, .bool b2, .int .i64 n] 56)).cell? ⟨q, 0, none⟩ = some (.int .i64 run) := blk_cell QK 0
 clear QK hb1 hq
 cases cn <;> cases b0 <;> cases b2
 all_goals
  go_wp2_with (first | (go_at_call 149; refine (CY.out _).mono ?_; rintro e w5 ⟨rfl, rfl⟩) | (go_at_call 150; refine (must_ok _).mono ?_; rintro e w6 ⟨rfl, rfl⟩))
  go_ret
  exact ⟨rfl, HB.out⟩
theorem spins_yes (si : Int) (st aw : Bool) (rd ol run : Int) (w : World) (h : OkOwn si rd ol) (hr : 0 ≤ run) : Calls Tryz.prog 117 #[.agg #[.int .i64 si, .bool st, .bool aw, .int .i64 rd, .int .i64 ol], .int .i64 run] w fun e w' => e = .returned (.tuple #[.bool (decide (rd < 4) && decide (1 < run) && bitOf ol 0 && !bitOf ol 2), .int .i64 0]) ∧ Below w.heap.size w w' := by
 have T := ak_ (fun w' h' => toldB 147 (by simp) _ _ _ OwnInt.below (spins147 w.heap.size si st aw rd ol h (w.heap.size + 1) run hr) w' h')
 have hu := Tryz.underlying42
 have hmf : ∀ (fn : Fn) (first cap : Array Value) (w : World), (Instr.makeFunc fn first cap).run Tryz.prog w = .ok (.func fn first cap) w := fun _ _ _ _ => rfl
 generalize (decide (rd < 4) && decide (1 < run) && bitOf ol 0 && !bitOf ol 2) = r at *
 have C0 := ak_ (blk_alloc (blk_new w (.cells #[.int .i64 si, .bool st, .bool aw, .int .i64 rd, .int .i64 ol] 42)) (.cells #[.int .i64 run] 3))
 have C1 : Aside0 (((w.alloc (.cells #[.int .i64 si, .bool st, .bool aw, .int .i64 rd, .int .i64 ol] 42)).alloc (.cells #[.int .i64 run] 3)).heap[w.heap.size + 1]? = some (.cells #[.int .i64 run] 3 (0, 0))) := ak_ (by have := blk_new (w.alloc (.cells #[.int .i64 si, .bool st, .bool aw, .int .i64 rd, .int .i64 ol] 42)) (.cells #[.int .i64 run] 3); simpa using this)
 go_enter Tryz.func117, Tryz.ntmps117
 go_wp2_with fail
 refine (T.out _ ⟨C0.out, C1.out⟩).mono ?_
 rintro e w1 ⟨rfl, hb1⟩
 have HB := ak_ (fin2 hb1)
 clear hb1
 go_wp2
 go_ret2
 exact ⟨rfl, HB.out⟩
theorem handed166 (p : Nat) (si : Int) (st aw : Bool) (rd ol : Int) (h : OkOwn si rd ol) (hb : bitOf ol 0 = false ∧ bitOf ol 1 = false ∧ ol / 8 ≠ 0) : Tells 166 #[.pointer (some ⟨p, 0, none⟩)] (OwnAt p si st aw rd ol) (.int .i64 (if !st || decide (ol / 8 = 1) then -11 else -7)) := by
 intro w hp
 have HF := ak_ hb
 clear hb
 have HO := ak_ h
 clear h
 have z0 : w.cell? ⟨p, 0, none⟩ = some (.int .i64 si) := blk_cell hp 0
 have z1 : w.cell? ⟨p, 1, none⟩ = some (.bool st) := blk_cell hp 1
 have z2 : w.cell? ⟨p, 2, none⟩ = some (.bool aw) := blk_cell hp 2
 have z3 : w.cell? ⟨p, 3, none⟩ = some (.int .i64 rd) := blk_cell hp 3
 have z4 : w.cell? ⟨p, 4, none⟩ = some (.int .i64 ol) := blk_cell hp 4
 have hu := Tryz.underlying42
 have hu2 := Tryz.underlying56
 have SY := ak_ (fun w => seen_yes si st aw rd ol w HO.out)
 generalize hg0 : bitOf ol 0 = b0 at *
 generalize hg1 : bitOf ol 1 = b1 at *
 generalize hg2 : bitOf ol 2 = b2 at *
 generalize hgn : ol / 8 = n at *
 have hn0 : 0 ≤ n := by have := HO.out.ol; simp [isW] at this; omega
 have hn1 : n ≤ 268435455 := by have := HO.out.ol; simp [isW] at this; omega
 clear hg0 hg1 hg2 hgn
 go_enter Tryz.func166, Tryz.ntmps166
 go_wp2_with fail
 refine (SY.out _).mono ?_
 rintro e w1 ⟨rfl, hb1⟩
 have HB := ak_ (bel2 hb1 (.cells #[.bool b0, .bool b1, .bool b2, .int .i64 n] 56))
 have PK := ak_ (blk_alloc (blk_below hp hb1) (.cells #[.bool b0, .bool b1, .bool b2, .int .i64 n] 56))
 clear hp hb1 z0 z1 z2 z3 z4
 have z1 : (w1.alloc (.cells #[.bool b0, .bool b1, .bool b2, .int .i64 n] 56)).cell? ⟨p, 1, none⟩ = some (.bool st) := blk_cell PK.out 1
 obtain ⟨rfl, rfl, hne⟩ := HF.out
 have hne1 : (n == 0) = false := beq_eq_false_iff_ne.2 hne
 clear hne HF
 cases st <;> by_cases h1 : n = 1
 all_goals
  first | (have e1 : (n == 1) = true := beq_iff_eq.2 h1; have e2 : decide (n = 1) = true := decide_eq_true h1) | (have e1 : (n == 1) = false := beq_eq_false_iff_ne.2 h1; have e2 : decide (n = 1) = false := decide_eq_false h1)
  clear h1
  go_wp2_with (go_at_call 150; refine (must_ok _).mono ?_; rintro e w6 ⟨rfl, rfl⟩)
  all_goals
   go_ret
   exact ⟨by simp [e2], HB.out⟩
theorem handed_yes (si : Int) (st aw : Bool) (rd ol : Int) (w : World) (h : OkOwn si rd ol) (hb : bitOf ol 0 = false ∧ bitOf ol 1 = false ∧ ol / 8 ≠ 0) : Calls Tryz.prog 129 #[.agg #[.int .i64 si, .bool st, .bool aw, .int .i64 rd, .int .i64 ol]] w fun e w' => e = .returned (.tuple #[.int .i64 (if !st || decide (ol / 8 = 1) then -11 else -7), .int .i64 0]) ∧ Below w.heap.size w w' := by
 have T := ak_ (fun w' h' => toldI 166 (by simp) _ _ _ OwnAt.below (handed166 w.heap.size si st aw rd ol h hb) w' h')
 have hu := Tryz.underlying42
 have hmf : ∀ (fn : Fn) (first cap : Array Value) (w : World), (Instr.makeFunc fn first cap).run Tryz.prog w = .ok (.func fn first cap) w := fun _ _ _ _ => rfl
 generalize (if !st || decide (ol / 8 = 1) then (-11 : Int) else -7) = r at *
 go_enter Tryz.func129, Tryz.ntmps129
 go_wp2_with fail
 refine (T.out _ (blk_new _ _)).mono ?_
 rintro e w1 ⟨rfl, hb1⟩
 have HB := ak_ (bel3 (bel2 (Below.refl _ w) _) hb1)
 clear hb1
 go_wp2
 go_ret2
 exact ⟨rfl, HB.out⟩
def wantsW (b0 b1 b2 st aw : Bool) (n : Int) : Int := 8 * (n + if b0 || b2 then 1 else 0) + ((num (b0 || !b2) 1 ||| num (b1 && !aw) 2 ||| num (b2 || (st && b0)) 4 : Nat) : Int)
theorem wants153 (p : Nat) (si : Int) (st aw : Bool) (rd ol : Int) (h : OkOwn si rd ol) (ha : aw = true → bitOf ol 1 = true) (hm : ol / 8 < 268435455) : Tells 153 #[.pointer (some ⟨p, 0, none⟩)] (OwnAt p si st aw rd ol) (.int .i64 (wantsW (bitOf ol 0) (bitOf ol 1) (bitOf ol 2) st aw (ol / 8))) := by
  intro w hp
  have hp0 := hp
  have HA := ak_ ha
  clear ha
  have HO := ak_ h
  clear h
  have z0 : w.cell? ⟨p, 0, none⟩ = some (.int .i64 si) := blk_cell hp 0
  have z1 : w.cell? ⟨p, 1, none⟩ = some (.bool st) := blk_cell hp 1
  have z2 : w.cell? ⟨p, 2, none⟩ = some (.bool aw) := blk_cell hp 2
  have z3 : w.cell? ⟨p, 3, none⟩ = some (.int .i64 rd) := blk_cell hp 3
  have z4 : w.cell? ⟨p, 4, none⟩ = some (.int .i64 ol) := blk_cell hp 4
  have hu := Tryz.underlying42
  have hu2 := Tryz.underlying56
  have SY := ak_ (fun w => seen_yes si st aw rd ol w HO.out)
  generalize hg0 : bitOf ol 0 = b0 at *
  generalize hg1 : bitOf ol 1 = b1 at *
  generalize hg2 : bitOf ol 2 = b2 at *
  generalize hgn : ol / 8 = n at *
  have hn0 : 0 ≤ n := by have := HO.out.ol; simp [isW] at this; omega
  have hn1 : n ≤ 268435455 := by have := HO.out.ol; simp [isW] at this; omega
  clear hg0 hg1 hg2 hgn
  go_enter Tryz.func153, Tryz.ntmps153
  go_wp2_with fail
  refine (SY.out _).mono ?_
  rintro e w1 ⟨rfl, hb1⟩
  have HB := ak_ (bel2 hb1 (.cells #[.bool b0, .bool b1, .bool b2, .int .i64 n] 56))
  clear hp z0 z1 z2 z3 z4
  have PW := blk_below hp0 hb1
  have z1 : ∀ o1, (w1.alloc o1).cell? ⟨p, 1, none⟩ = some (.bool st) := fun o1 => blk_cell (blk_alloc PW o1) 1
  have z2 : ∀ o1, (w1.alloc o1).cell? ⟨p, 2, none⟩ = some (.bool aw) := fun o1 => blk_cell (blk_alloc PW o1) 2
  have y1 : ∀ o1 o2, ((w1.alloc o1).alloc o2).cell? ⟨p, 1, none⟩ = some (.bool st) := fun o1 o2 => blk_cell (blk_alloc (blk_alloc PW o1) o2) 1
  have y2 : ∀ o1 o2, ((w1.alloc o1).alloc o2).cell? ⟨p, 2, none⟩ = some (.bool aw) := fun o1 o2 => blk_cell (blk_alloc (blk_alloc PW o1) o2) 2
  have x1 : ∀ o1 o2 o3, (((w1.alloc o1).alloc o2).alloc o3).cell? ⟨p, 1, none⟩ = some (.bool st) := fun o1 o2 o3 => blk_cell (blk_alloc (blk_alloc (blk_alloc PW o1) o2) o3) 1
  have HB0 := ak_ hb1
  clear PW hp0 hb1 HB
  cases aw <;> cases b0 <;> cases b1 <;> cases b2 <;> cases st
  all_goals
    first
      | exact absurd (HA.out rfl) (by decide)
      | (go_wp2_with (first | (go_at_call 154; refine (Pack_ok _ _ _ _ _ (by omega) (by omega)).mono ?_; rintro e w7 ⟨rfl, hb7⟩; have HB7 := ak_ hb7; clear hb7) | (go_at_call 150; refine (must_ok _).mono ?_; rintro e w6 ⟨rfl, rfl⟩))
         go_ret
         refine ⟨by simp [wantsW], bel3 (((HB0.out.alloc HB0.out.size _).alloc (by have := HB0.out.size; simp; omega) _).alloc (by have := HB0.out.size; simp; omega) _) HB7.out⟩)
theorem wants_yes (si : Int) (st aw : Bool) (rd ol : Int) (w : World) (h : OkOwn si rd ol) (ha : aw = true → bitOf ol 1 = true) (hm : ol / 8 < 268435455) : Calls Tryz.prog 119 #[.agg #[.int .i64 si, .bool st, .bool aw, .int .i64 rd, .int .i64 ol]] w fun e w' => e = .returned (.tuple #[.int .i64 (wantsW (bitOf ol 0) (bitOf ol 1) (bitOf ol 2) st aw (ol / 8)), .int .i64 0]) ∧ Below w.heap.size w w' := by
 have T := ak_ (fun w' h' => toldI 153 (by simp) _ _ _ OwnAt.below (wants153 w.heap.size si st aw rd ol h ha hm) w' h')
 have hu := Tryz.underlying42
 have hmf : ∀ (fn : Fn) (first cap : Array Value) (w : World), (Instr.makeFunc fn first cap).run Tryz.prog w = .ok (.func fn first cap) w := fun _ _ _ _ => rfl
 generalize (wantsW (bitOf ol 0) (bitOf ol 1) (bitOf ol 2) st aw (ol / 8)) = r at *
 go_enter Tryz.func119, Tryz.ntmps119
 go_wp2_with fail
 refine (T.out _ (blk_new _ _)).mono ?_
 rintro e w1 ⟨rfl, hb1⟩
 have HB := ak_ (bel3 (bel2 (Below.refl _ w) _) hb1)
 clear hb1
 go_wp2
 go_ret2
 exact ⟨rfl, HB.out⟩
end Go.Proofs.YtoimfknjfeencaaGreatDoor.Hand
end
