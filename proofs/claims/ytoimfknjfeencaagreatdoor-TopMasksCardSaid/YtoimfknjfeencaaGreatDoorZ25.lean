/- Part of the walk of a law of the top, and what it leans on (Chan, Go1). No conditions beyond those that each lemma names. -/
import Derived.Test.YtoimfknjfeencaaGreatDoorZ09
import Derived.Test.YtoimfknjfeencaaGreatDoorZ23
import Derived.Test.YtoimfknjfeencaaGreatDoorZ24
import Derived.Conc.LoneCalls
import Derived.Test.YtoimfknjfeencaaGreatDoorProg
import Derived.Conc.EventLaws
import Derived.Conc.SmallLaws
set_option linter.unusedVariables false
set_option linter.unusedSimpArgs false
set_option maxHeartbeats 8000000
set_option maxRecDepth 100000
section
namespace Go.Proofs.YtoimfknjfeencaaGreatDoor.Hand
open Go Go.Conc Go.RowKit
section
def OpsTo (P : Program) (ops : Array Oper) (Q : Exit → Act → World → Prop) (l : List Nat) (a : Act) (w : World) : Prop :=
 ∀ (b : Frame) (k : List Item) (cs : List Frame), ∃ e a' w', Q e a' w' ∧ Arrives P (lone (b.at a (.inRegion ops l :: k)) cs w) b k cs e a' w'
section
variable {P : Program} {Q : Exit → Act → World → Prop} {a : Act} {w : World} {ops : Array Oper}
theorem OpsTo.of {l : List Nat} (h : wpOps P ops Q l a w) : OpsTo P ops Q l a w := wp_ops l a w h
theorem wp_region_to {id : Nat} (h : OpsTo P ops Q (List.range ops.size) a w) : (Code.region id ops false).wp P Q a w :=
 fun b k cs => let ⟨e, a', w', q, r⟩ := h b k cs; ⟨e, a', w', q, .of_steps (.one step_region) r⟩
theorem comm_step {b : Frame} {k : List Item} {cs : List Frame} {w' : World} {i : Nat} {rest : List Nat} {o : Oper} {cases : Array CommCase} {blocking : Bool} {shape : CommShape} (ho : ops[i]? = some o) (hw : Region.wanted o (yielded ops a.tmps) = true)
  (hr : (execOp a.eval o).run P w = .ok (.comm cases blocking shape) w') :
  ∃ es, stepG P true (Conc.G (b.at a (.inRegion ops (i :: rest) :: k)) cs) w = .comm (Conc.G (b.at a (.inRegion ops (i :: rest) :: k)) cs) cases blocking shape w' es := by
 rw [stepG_oper ho hw]
 simp [stepG.apply, hr, Conc.G, Frame.at, GStep.after]
theorem OpsTo.value {i : Nat} {rest : List Nat} {o : Oper} {v : Value} {w' : World} (ho : ops[i]? = some o) (hw : Region.wanted o (yielded ops a.tmps) = true)
  (hr : (execOp a.eval o).run P w = .ok (.value v) w') (h : OpsTo P ops Q rest (a.put o.dst v) w') : OpsTo P ops Q (i :: rest) a w := by
 intro b k cs
 obtain ⟨e, a', w'', hq, harr⟩ := h b k cs
 have hfin : (b.at a (.inRegion ops (i :: rest) :: k)).finish v = b.at (a.put o.dst v) (.inRegion ops rest :: k) := by rw [Frame.finish_at, ho]; rfl
 refine ⟨e, a', w'', hq, .of_steps (.one (step_lone_go ?_)) harr⟩
 rw [stepG_op ho hw, ← hfin]
 simp [stepG.apply, hr]
theorem OpsTo.end_ (h : Q .normal a w) : OpsTo P ops Q [] a w := OpsTo.of h
variable {c cap s r : Nat} {buf : Array Value} {z z' v : Value} {tm closed : Bool}
theorem OpsTo.send {i : Nat} {rest : List Nat} {o : Oper} {w' : World} (ho : ops[i]? = some o) (hw : Region.wanted o (yielded ops a.tmps) = true)
  (hr : (execOp a.eval o).run P w = .ok (.comm #[scase c v z'] true .send) w') (hc : w'.heap[c]? = some (.chan cap buf false s r tm)) (hroom : buf.size < cap)
  (h : OpsTo P ops Q rest (a.put o.dst undef) (w'.setChan c cap (buf.push v) false (s + 1) r tm)) : OpsTo P ops Q (i :: rest) a w := by
 intro b k cs
 obtain ⟨e, a', w'', hq, harr⟩ := h b k cs
 have hfin : (b.at a (.inRegion ops (i :: rest) :: k)).finish undef = b.at (a.put o.dst undef) (.inRegion ops rest :: k) := by rw [Frame.finish_at, ho]; rfl
 obtain ⟨es, hs⟩ := comm_step (P := P) (b := b) (k := k) (cs := cs) (rest := rest) ho hw hr
 have := step_lone_send_room hs hc hroom
 rw [hfin] at this
 exact ⟨e, a', w'', hq, .of_steps (.one this) harr⟩
theorem OpsTo.recv {i : Nat} {rest : List Nat} {o : Oper} {w' : World} (ok : Bool) (ho : ops[i]? = some o) (hw : Region.wanted o (yielded ops a.tmps) = true)
  (hr : (execOp a.eval o).run P w = .ok (.comm #[rcase c z] true (.recv ok)) w') (hc : w'.heap[c]? = some (.chan cap buf closed s r tm)) (hsome : 0 < buf.size)
  (h : OpsTo P ops Q rest (a.put o.dst (got ok (buf.getD 0 undef) true)) (w'.setChan c cap (buf.extract 1 buf.size) closed s (r + 1) tm)) : OpsTo P ops Q (i :: rest) a w := by
 intro b k cs
 obtain ⟨e, a', w'', hq, harr⟩ := h b k cs
 have hfin : ∀ u, (b.at a (.inRegion ops (i :: rest) :: k)).finish u = b.at (a.put o.dst u) (.inRegion ops rest :: k) := by intro u; rw [Frame.finish_at, ho]; rfl
 obtain ⟨es, hs⟩ := comm_step (P := P) (b := b) (k := k) (cs := cs) (rest := rest) ho hw hr
 have := step_lone_recv_buf ok hs hc hsome
 rw [hfin] at this
 exact ⟨e, a', w'', hq, .of_steps (.one this) harr⟩
theorem OpsTo.shut {i : Nat} {rest : List Nat} {o : Oper} {w' : World} (ok : Bool) (ho : ops[i]? = some o) (hw : Region.wanted o (yielded ops a.tmps) = true)
  (hr : (execOp a.eval o).run P w = .ok (.comm #[rcase c z] true (.recv ok)) w') (hc : w'.heap[c]? = some (.chan cap #[] true s r tm))
  (h : OpsTo P ops Q rest (a.put o.dst (got ok z false)) w') : OpsTo P ops Q (i :: rest) a w := by
 intro b k cs
 obtain ⟨e, a', w'', hq, harr⟩ := h b k cs
 have hfin : ∀ u, (b.at a (.inRegion ops (i :: rest) :: k)).finish u = b.at (a.put o.dst u) (.inRegion ops rest :: k) := by intro u; rw [Frame.finish_at, ho]; rfl
 obtain ⟨es, hs⟩ := comm_step (P := P) (b := b) (k := k) (cs := cs) (rest := rest) ho hw hr
 have := step_lone_recv_shut ok hs hc
 rw [hfin] at this
 exact ⟨e, a', w'', hq, .of_steps (.one this) harr⟩
end
end
end Go.Proofs.YtoimfknjfeencaaGreatDoor.Hand
end
section
namespace Go.Proofs.YtoimfknjfeencaaGreatDoor.Hand
open Go Go.RowKit Go.Conc Go.Proofs.YtoimfknjfeencaaGreatDoorW.PrintWords Go.Proofs.YtoimfknjfeencaaGreatDoorW.PrintLast Go.Proofs.YtoimfknjfeencaaGreatDoorW.PrintMore
structure Hap where
 at_ : Int
 now : Int
 ev : M.Event
def encHap (h : Hap) : List Value := [.int .i64 h.at_, .int .i64 h.now, .int .i64 h.ev.who, .int .i64 h.ev.kind, .int .i64 h.ev.mutex]
def kHap : Kd Hap := flat 5 encHap (fun _ => rfl) (fun x u h => by simp [encHap] at h; rcases h with rfl | rfl | rfl | rfl | rfl <;> rfl)
def pickW (x : M.W) (p : Int × Int) : M.W := if p.1 = 1 then M.tick x p.2 else (M.step x p.2).1
def pickE (x : M.W) (p : Int × Int) : List M.Event := if p.1 = 1 then [] else (M.step x p.2).2
def goW (x : M.W) : List (Int × Int) → M.W
 | [] => x
 | p :: r => goW (pickW x p) r
def goH (x : M.W) (k : Int) : List (Int × Int) → List Hap
 | [] => []
 | p :: r => (pickE x p).map (fun e => ⟨k, (pickW x p).now, e⟩) ++ goH (pickW x p) (k + 1) r
theorem goW_snoc (p : Int × Int) : ∀ (x : M.W) (l : List (Int × Int)), goW x (l ++ [p]) = pickW (goW x l) p
 | x, [] => rfl
 | x, q :: r => goW_snoc p (pickW x q) r
theorem goH_snoc (p : Int × Int) : ∀ (x : M.W) (k : Int) (l : List (Int × Int)), goH x k (l ++ [p]) = goH x k l ++ (pickE (goW x l) p).map (fun e => ⟨k + l.length, (pickW (goW x l) p).now, e⟩)
 | x, k, [] => by
  show (pickE x p).map _ ++ [] = [] ++ _
  rw [List.append_nil, List.nil_append]
  simp [goW]
 | x, k, q :: r => by
  show (pickE x q).map _ ++ goH (pickW x q) (k + 1) (r ++ [p]) = (pickE x q).map _ ++ goH (pickW x q) (k + 1) r ++ _
  rw [goH_snoc p (pickW x q) (k + 1) r, List.append_assoc]
  have e : k + 1 + (r.length : Int) = k + ((q :: r).length : Int) := by rw [List.length_cons]; omega
  rw [e]
  rfl
def okPick (p : Int × Int) : Prop := (p.1 = 0 ∧ 0 ≤ p.2 ∧ p.2 < 16) ∨ (p.1 = 1 ∧ okT p.2)
theorem okPick_of (v : Int) : okPick (pickOf v) := by
 unfold pickOf okPick okT
 by_cases h : 0 ≤ v
 ·rw [if_pos h]
  left
  refine ⟨rfl, ?_, ?_⟩ <;> simp only <;> omega
 ·rw [if_neg h]
  right
  refine ⟨rfl, ?_, ?_⟩ <;> simp only <;> omega
theorem good_pick {x : M.W} (g : M.Good x) {p : Int × Int} (h : okPick p) : M.Good (pickW x p) := by
 unfold pickW
 rcases h with ⟨h, _⟩ | ⟨h, h0, h1⟩
 ·rw [if_neg (by omega)]
  exact g.step _
 ·rw [if_pos h]
  exact g.tick _ h0
theorem good_go {l : List (Int × Int)} (h : ∀ p ∈ l, okPick p) : ∀ {x : M.W}, M.Good x → M.Good (goW x l) := by
 induction l with
 | nil => exact fun g => g
 | cons p r ih => exact fun g => ih (fun q hq => h q (List.mem_cons_of_mem _ hq)) (good_pick g (h p (List.mem_cons_self ..)))
theorem info138 : (Tryz.prog.info? 138).map (fun i => (i.zero, i.size, i.bytes)) = some (some (.agg #[.int .i64 0, .int .i64 0, .int .i64 0, .int .i64 0, .int .i64 0]), 5, 40) := by kernel_rfl
def pv2 (p : Int × Int) : Value := .agg #[.int .i64 p.1, .int .i64 p.2]
theorem picks_at {w : World} {base : Nat} {v : Value} {ps : List (Int × Int)} (h : w.ownsRow base 133 2 v ps.length (ps.flatMap encP)) :
  ∃ A c, v = .slice A ps.length c ∧ ∀ i p, ps[i]? = some p → ∃ ad, A = some ad ∧ base ≤ ad.block ∧ (∃ cs, w.heap[ad.block]? = some (.cells cs 133 (0, 0))) ∧ w.cell? (ad.add (i * 2)) = some (.int .i64 p.1) ∧ w.cell? ⟨(ad.add (i * 2)).block, (ad.add (i * 2)).off + 1, none⟩ = some (.int .i64 p.2) := by
 have hf : ∀ l : List (Int × Int), l.flatMap encP = flatNews encP l := by
  intro l
  induction l with
  | nil => rfl
  | cons a r ih => rw [List.flatMap_cons, ih]; rfl
 rw [hf] at h
 rcases h.2 with ⟨rfl, h0⟩ | ⟨g, cap, cur, rfl, hb, hg, hc, _, _, ht⟩
 ·have : ps = [] := List.length_eq_zero_iff.1 h0
  subst this
  exact ⟨none, 0, rfl, fun i p hp => by simp at hp⟩
 ·refine ⟨some ⟨g, 0, none⟩, cap, rfl, fun i p hp => ⟨_, rfl, hb, ⟨cur, hg⟩, ?_⟩⟩
  have hseg := flatNews_seg (enc := encP) (sz := 2) (fun _ => rfl) ps i p hp
  have hi := (List.getElem?_eq_some_iff.1 hp).1
  have hj : ∀ j u, (encP p)[j]? = some u → cur[i * 2 + j]? = some u := by
   intro j u hu
   have hj2 : j < 2 := (List.getElem?_eq_some_iff.1 hu).1
   rw [← hseg, ← ht, List.getElem?_take, if_pos hj2, List.getElem?_drop, List.getElem?_take, if_pos (by omega)] at hu
   rw [← Array.getElem?_toList]
   exact hu
  have e0 : (⟨g, 0, none⟩ : Addr).add (i * 2) = ⟨g, i * 2, none⟩ := by rw [Addr.add_lit, Nat.zero_add]
  rw [e0]
  exact ⟨(blk_cell hg _).trans (hj 0 _ rfl), (blk_cell hg _).trans (hj 1 _ rfl)⟩
end Go.Proofs.YtoimfknjfeencaaGreatDoor.Hand
end
