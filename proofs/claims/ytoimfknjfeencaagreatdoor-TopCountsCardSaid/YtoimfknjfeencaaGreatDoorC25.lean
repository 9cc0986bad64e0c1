/- Part of the walk of a law of the top, and what it leans on (Chan, Go1, Go2). No conditions beyond those that each lemma names. -/
import Derived.Test.YtoimfknjfeencaaGreatDoorZ09
import Derived.Test.YtoimfknjfeencaaGreatDoorZ23
import Derived.Test.YtoimfknjfeencaaGreatDoorZ24
import Derived.Conc.LoneCalls
import Derived.Test.YtoimfknjfeencaaGreatDoorProg
import Derived.Conc.EventLaws
import Derived.Conc.SmallLaws
set_option linter.unusedVariables false
set_option linter.unusedSimpArgs false
set_option maxHeartbeats 8000000
set_option maxRecDepth 100000
section
namespace Go.Proofs.YtoimfknjfeencaaGreatDoor.Hand
open Go Go.Conc Go.RowKit
section
def OpsTo (P : Program) (ops : Array Oper) (Q : Exit → Act → World → Prop) (l : List Nat) (a : Act) (w : World) : Prop :=
 ∀ (b : Frame) (k : List Item) (cs : List Frame), ∃ e a' w', Q e a' w' ∧ Arrives P (lone (b.at a (.inRegion ops l :: k)) cs w) b k cs e a' w'
section
variable {P : Program} {Q : Exit → Act → World → Prop} {a : Act} {w : World} {ops : Array Oper}
theorem OpsTo.of {l : List Nat} (h : wpOps P ops Q l a w) : OpsTo P ops Q l a w := wp_ops l a w h
theorem wp_region_to {id : Nat} (h : OpsTo P ops Q (List.range ops.size) a w) : (Code.region id ops false).wp P Q a w :=
 fun b k cs => let ⟨e, a', w', q, r⟩ := h b k cs; ⟨e, a', w', q, .of_steps (.one step_region) r⟩
theorem comm_step {b : Frame} {k : List Item} {cs : List Frame} {w' : World} {i : Nat} {rest : List Nat} {o : Oper} {cases : Array CommCase} {blocking : Bool} {shape : CommShape} (ho : ops[i]? = some o) (hw : Region.wanted o (yielded ops a.tmps) = true)
  (hr : (execOp a.eval o).run P w = .ok (.comm cases blocking shape) w') :
  ∃ es, stepG P true (Conc.G (b.at a (.inRegion ops (i :: rest) :: k)) cs) w = .comm (Conc.G (b.at a (.inRegion ops (i :: rest) :: k)) cs) cases blocking shape w' es := by
 rw [stepG_oper ho hw]
 simp [stepG.apply, hr, Conc.G, Frame.at, GStep.after]
theorem OpsTo.value {i : Nat} {rest : List Nat} {o : Oper} {v : Value} {w' : World} (ho : ops[i]? = some o) (hw : Region.wanted o (yielded ops a.tmps) = true)
  (hr : (execOp a.eval o).run P w = .ok (.value v) w') (h : OpsTo P ops Q rest (a.put o.dst v) w') : OpsTo P ops Q (i :: rest) a w := by
 intro b k cs
 obtain ⟨e, a', w'', hq, harr⟩ := h b k cs
 have hfin : (b.at a (.inRegion ops (i :: rest) :: k)).finish v = b.at (a.put o.dst v) (.inRegion ops rest :: k) := by rw [Frame.finish_at, ho]; rfl
 refine ⟨e, a', w'', hq, .of_steps (.one (step_lone_go ?_)) harr⟩
 rw [stepG_op ho hw, ← hfin]
 simp [stepG.apply, hr]
theorem OpsTo.end_ (h : Q .normal a w) : OpsTo P ops Q [] a w := OpsTo.of h
variable {c cap s r : Nat} {buf : Array Value} {z z' v : Value} {tm closed : Bool}
theorem OpsTo.send {i : Nat} {rest : List Nat} {o : Oper} {w' : World} (ho : ops[i]? = some o) (hw : Region.wanted o (yielded ops a.tmps) = true)
  (hr : (execOp a.eval o).run P w = .ok (.comm #[scase c v z'] true .send) w') (hc : w'.heap[c]? = some (.chan cap buf false s r tm)) (hroom : buf.size < cap)
  (h : OpsTo P ops Q rest (a.put o.dst undef) (w'.setChan c cap (buf.push v) false (s + 1) r tm)) : OpsTo P ops Q (i :: rest) a w := by
 intro b k cs
 obtain ⟨e, a', w'', hq, harr⟩ := h b k cs
 have hfin : (b.at a (.inRegion ops (i :: rest) :: k)).finish undef = b.at (a.put o.dst undef) (.inRegion ops rest :: k) := by rw [Frame.finish_at, ho]; rfl
 obtain ⟨es, hs⟩ := comm_step (P := P) (b := b) (k := k) (cs := cs) (rest := rest) ho hw hr
 have := step_lone_send_room hs hc hroom
 rw [hfin] at this
 exact ⟨e, a', w'', hq, .of_steps (.one this) harr⟩
theorem OpsTo.recv {i : Nat} {rest : List Nat} {o : Oper} {w' : World} (ok : Bool) (ho : ops[i]? = some o) (hw : Region.wanted o (yielded ops a.tmps) = true)
  (hr : (execOp a.eval o).run P w = .ok (.comm #[rcase c z] true (.recv ok)) w') (hc : w'.heap[c]? = some (.chan cap buf closed s r tm)) (hsome : 0 < buf.size)
  (h : OpsTo P ops Q rest (a.put o.dst (got ok (buf.getD 0 undef) true)) (w'.setChan c cap (buf.extract 1 buf.size) closed s (r + 1) tm)) : OpsTo P ops Q (i :: rest) a w := by
 intro b k cs
 obtain ⟨e, a', w'', hq, harr⟩ := h b k cs
 have hfin : ∀ u, (b.at a (.inRegion ops (i :: rest) :: k)).finish u = b.at (a.put o.dst u) (.inRegion ops rest :: k) := by intro u; rw [Frame.finish_at, ho]; rfl
 obtain ⟨es, hs⟩ := comm_step (P := P) (b := b) (k := k) (cs := cs) (rest := rest) ho hw hr
 have := step_lone_recv_buf ok hs hc hsome
 rw [hfin] at this
 exact ⟨e, a', w'', hq, .of_steps (.one this) harr⟩
theorem OpsTo.shut {i : Nat} {rest : List Nat} {o : Oper} {w' : World} (ok : Bool) (ho : ops[i]? = some o) (hw : Region.wanted o (yielded ops a.tmps) = true)
  (hr : (execOp a.eval o).run P w = .ok (.comm #[rcase c z] true (.recv ok)) w') (hc : w'.heap[c]? = some (.chan cap #[] true s r tm))
  (h : OpsTo P ops Q rest (a.put o.dst (got ok z false)) w') : OpsTo P ops Q (i :: rest) a w := by
 intro b k cs
 obtain ⟨e, a', w'', hq, harr⟩ := h b k cs
 have hfin : ∀ u, (b.at a (.inRegion ops (i :: rest) :: k)).finish u = b.at (a.put o.dst u) (.inRegion ops rest :: k) := by intro u; rw [Frame.finish_at, ho]; rfl
 obtain ⟨es, hs⟩ := comm_step (P := P) (b := b) (k := k) (cs := cs) (rest := rest) ho hw hr
 have := step_lone_recv_shut ok hs hc
 rw [hfin] at this
 exact ⟨e, a', w'', hq, .of_steps (.one this) harr⟩
end
end
end Go.Proofs.YtoimfknjfeencaaGreatDoor.Hand
end
section
namespace Go.Proofs.YtoimfknjfeencaaGreatDoor.Hand
open Go Go.RowKit Go.Conc Go.Proofs.YtoimfknjfeencaaGreatDoorW.PrintWords Go.Proofs.YtoimfknjfeencaaGreatDoorW.PrintLast Go.Proofs.YtoimfknjfeencaaGreatDoorW.PrintMore
structure Hap where
 at_ : Int
 now : Int
 ev : M.Event
def encHap (h : Hap) : List Value := [.int .i64 h.at_, .int .i64 h.now, .int .i64 h.ev.who, .int .i64 h.ev.kind, .int .i64 h.ev.mutex]
def kHap : Kd Hap := flat 5 encHap (fun _ => rfl) (fun x u h => by simp [encHap] at h; rcases h with rfl | rfl | rfl | rfl | rfl <;> rfl)
def pickW (x : M.W) (p : Int × Int) : M.W := if p.1 = 1 then M.tick x p.2 else (M.step x p.2).1
def pickE (x : M.W) (p : Int × Int) : List M.Event := if p.1 = 1 then [] else (M.step x p.2).2
def goW (x : M.W) : List (Int × Int) → M.W
 | [] => x
 | p :: r => goW (pickW x p) r
def goH (x : M.W) (k : Int) : List (Int × Int) → List Hap
 | [] => []
 | p :: r => (pickE x p).map (fun e => ⟨k, (pickW x p).now, e⟩) ++ goH (pickW x p) (k + 1) r
theorem goW_snoc (p : Int × Int) : ∀ (x : M.W) (l : List (Int × Int)), goW x (l ++ [p]) = pickW (goW x l) p
 | x, [] => rfl
 | x, q :: r => goW_snoc p (pickW x q) r
theorem goH_snoc (p : Int × Int) : ∀ (x : M.W) (k : Int) (l : List (Int × Int)), goH x k (l ++ [p]) = goH x k l ++ (pickE (goW x l) p).map (fun e => ⟨k + l.length, (pickW (goW x l) p).now, e⟩)
 | x, k, [] => by
  show (pickE x p).map _ ++ [] = [] ++ _
  rw [List.append_nil, List.nil_append]
  simp [goW]
 | x, k, q :: r => by
  show (pickE x q).map _ ++ goH (pickW x q) (k + 1) (r ++ [p]) = (pickE x q).map _ ++ goH (pickW x q) (k + 1) r ++ _
  rw [goH_snoc p (pickW x q) (k + 1) r, List.append_assoc]
  have e : k + 1 + (r.length : Int) = k + ((q :: r).length : Int) := by rw [List.length_cons]; omega
  rw [e]
  rfl
def okPick (p : Int × Int) : Prop := (p.1 = 0 ∧ 0 ≤ p.2 ∧ p.2 < 16) ∨ (p.1 = 1 ∧ okT p.2)
theorem okPick_of (v : Int) : okPick (pickOf v) := by
 unfold pickOf okPick okT
 by_cases h : 0 ≤ v
 ·rw [if_pos h]
  left
  refine ⟨rfl, ?_, ?_⟩ <;> simp only <;> omega
 ·rw [if_neg h]
  right
  refine ⟨rfl, ?_, ?_⟩ <;> simp only <;> omega
theorem good_pick {x : M.W} (g : M.Good x) {p : Int × Int} (h : okPick p) : M.Good (pickW x p) := by
 unfold pickW
 rcases h with ⟨h, _⟩ | ⟨h, h0, h1⟩
 ·rw [if_neg (by omega)]
  exact g.step _
 ·rw [if_pos h]
  exact g.tick _ h0
theorem good_go {l : List (Int × Int)} (h : ∀ p ∈ l, okPick p) : ∀ {x : M.W}, M.Good x → M.Good (goW x l) := by
 induction l with
 | nil => exact fun g => g
 | cons p r ih => exact fun g => ih (fun q hq => h q (List.mem_cons_of_mem _ hq)) (good_pick g (h p (List.mem_cons_self ..)))
theorem info138 : (Tryz.prog.info? 138).map (fun i => (i.zero, i.size, i.bytes)) = some (some (.agg #[.int .i64 0, .int .i64 0, .int .i64 0, .int .i64 0, .int .i64 0]), 5, 40) := by kernel_rfl
def pv2 (p : Int × Int) : Value := .agg #[.int .i64 p.1, .int .i64 p.2]
theorem picks_at {w : World} {base : Nat} {v : Value} {ps : List (Int × Int)} (h : w.ownsRow base 133 2 v ps.length (ps.flatMap encP)) :
  ∃ A c, v = .slice A ps.length c ∧ ∀ i p, ps[i]? = some p → ∃ ad, A = some ad ∧ base ≤ ad.block ∧ (∃ cs, w.heap[ad.block]? = some (.cells cs 133 (0, 0))) ∧ w.cell? (ad.add (i * 2)) = some (.int .i64 p.1) ∧ w.cell? ⟨(ad.add (i * 2)).block, (ad.add (i * 2)).off + 1, none⟩ = some (.int .i64 p.2) := by
 have hf : ∀ l : List (Int × Int), l.flatMap encP = flatNews encP l := by
  intro l
  induction l with
  | nil => rfl
  | cons a r ih => rw [List.flatMap_cons, ih]; rfl
 rw [hf] at h
 rcases h.2 with ⟨rfl, h0⟩ | ⟨g, cap, cur, rfl, hb, hg, hc, _, _, ht⟩
 ·have : ps = [] := List.length_eq_zero_iff.1 h0
  subst this
  exact ⟨none, 0, rfl, fun i p hp => by simp at hp⟩
 ·refine ⟨some ⟨g, 0, none⟩, cap, rfl, fun i p hp => ⟨_, rfl, hb, ⟨cur, hg⟩, ?_⟩⟩
  have hseg := flatNews_seg (enc := encP) (sz := 2) (fun _ => rfl) ps i p hp
  have hi := (List.getElem?_eq_some_iff.1 hp).1
  have hj : ∀ j u, (encP p)[j]? = some u → cur[i * 2 + j]? = some u := by
   intro j u hu
   have hj2 : j < 2 := (List.getElem?_eq_some_iff.1 hu).1
   rw [← hseg, ← ht, List.getElem?_take, if_pos hj2, List.getElem?_drop, List.getElem?_take, if_pos (by omega)] at hu
   rw [← Array.getElem?_toList]
   exact hu
  have e0 : (⟨g, 0, none⟩ : Addr).add (i * 2) = ⟨g, i * 2, none⟩ := by rw [Addr.add_lit, Nat.zero_add]
  rw [e0]
  exact ⟨(blk_cell hg _).trans (hj 0 _ rfl), (blk_cell hg _).trans (hj 1 _ rfl)⟩
def GoOk (S : Nat → Prop) (x : M.W) (ps : List (Int × Int)) (w : World) (e : Ending) (w' : World) : Prop :=
 ∃ a0 a1 a2 a3 a4 a5 ve, e = .returned (.tuple #[.agg #[a0, a1, a2, a3, a4, a5], ve, .int .i64 0]) ∧ Below w.heap.size w w' ∧ WVS S w' (.agg #[a0, a1, a2, a3, a4, a5]) (goW x ps) ∧ Sl kHap w' ve (goH x 0 ps)
theorem kept_setChan {w W : World} {S : Nat → Prop} (h : Kept w W S) {c : Nat} (hc : S c) (cap : Nat) (buf : Array Value) (cl : Bool) (s r : Nat) (tm : Bool) : Kept w (W.setChan c cap buf cl s r tm) S :=
 ⟨by rw [Conc.size_setChan]; exact h.1, fun i hi hn => by
  rw [← h.2 i hi hn]
  show (W.heap.setIfInBounds c _)[i]? = W.heap[i]?
  rw [Array.getElem?_setIfInBounds_ne (fun e => hn (by rw [← e]; exact hc))]⟩
theorem kept_at {w W : World} {g : Nat} {o : Obj} (h : w.heap[g]? = some o) {c : Nat} (hk : Kept w W (fun b => b = c)) (hne : g ≠ c) : W.heap[g]? = some o := (hk.2 g (blk_lt h) hne).trans h
theorem chan_far {w : World} {g : Nat} {o : Obj} (h : w.heap[g]? = some o) {c : Nat} (hne : g ≠ c) (cap : Nat) (buf : Array Value) (cl : Bool) (s r : Nat) (tm : Bool) : (w.setChan c cap buf cl s r tm).heap[g]? = some o := by
 rw [← h]
 show (w.heap.setIfInBounds c _)[g]? = w.heap[g]?
 rw [Array.getElem?_setIfInBounds_ne (fun e => hne e.symm)]
def exS (S : Nat → Prop) (a b : Nat) (v : Value) : Nat → Prop := fun q => S q ∨ q = a ∨ q = a + 1 ∨ q = b ∨ v.ownBlock = some q
theorem kept6 {w : World} {S : Nat → Prop} (g : Nat) (hg : S g) (q0 q1 q2 q3 q4 q5 : Value) : Kept w ((((((w.setCell ⟨g, 0, none⟩ q0).setCell ⟨g, 1, none⟩ q1).setCell ⟨g, 2, none⟩ q2).setCell ⟨g, 3, none⟩ q3).setCell ⟨g, 4, none⟩ q4).setCell ⟨g, 5, none⟩ q5) S :=
 ((((((Kept.refl w S).setCell (p := ⟨g, 0, none⟩) (.inl hg) q0).setCell (p := ⟨g, 1, none⟩) (.inl hg) q1).setCell (p := ⟨g, 2, none⟩) (.inl hg) q2).setCell (p := ⟨g, 3, none⟩) (.inl hg) q3).setCell (p := ⟨g, 4, none⟩) (.inl hg) q4).setCell (p := ⟨g, 5, none⟩) (.inl hg) q5
theorem wv_inj {a0 a1 a2 a3 a4 a5 : Value} {x : M.W} {Ap Ac Am At : Option Addr} {cp cc cm ct : Nat} (h : Value.agg #[a0, a1, a2, a3, a4, a5] = wv x Ap Ac Am At cp cc cm ct) : a0 = .int .i64 x.now ∧ a1 = .slice Ap x.cl.length cp ∧ a2 = .slice Ac x.cl.length cc ∧ a3 = .slice Am x.mu.length cm ∧ a4 = .slice At (tableOf x.sem).length ct ∧ a5 = .int .i64 x.stop := by
 unfold wv at h
 injection h with h
 have := congrArg Array.toList h
 simp at this
 exact this
theorem chan_own {α : Type} {d : Kd α} {e base : Nat} {ok : Nat → Prop} {w : World} {v : Value} {xs : List α} (h : d.R e w base ok v xs) {g cap s r : Nat} {buf : Array Value} {cl tm : Bool} (hg : w.heap[g]? = some (.chan cap buf cl s r tm)) : some g ≠ v.ownBlock := by
 intro q
 obtain ⟨_, _, _, _, _, cs, hc⟩ := (Kd.R_bound h).1 g q.symm
 rw [hg] at hc
 cases hc
theorem far6 {w : World} {g g' : Nat} {o : Obj} (h : w.heap[g]? = some o) (hne : g ≠ g') (q0 q1 q2 q3 q4 q5 : Value) : ((((((w.setCell ⟨g', 0, none⟩ q0).setCell ⟨g', 1, none⟩ q1).setCell ⟨g', 2, none⟩ q2).setCell ⟨g', 3, none⟩ q3).setCell ⟨g', 4, none⟩ q4).setCell ⟨g', 5, none⟩ q5).heap[g]? = some o := by
 rw [Below.heap_setCell _ _ _ _ hne, Below.heap_setCell _ _ _ _ hne, Below.heap_setCell _ _ _ _ hne, Below.heap_setCell _ _ _ _ hne, Below.heap_setCell _ _ _ _ hne, Below.heap_setCell _ _ _ _ hne]
 exact h
theorem step_evs (x : M.W) (who : Int) : (M.step x who).2.length ≤ 1 := by
 unfold M.step
 split
 ·simp
 ·split
  ·simp
  ·split
   ·simp
   ·rename_i z _ _
    by_cases hk : z.cur.kind = 3
    ·unfold M.stepAt
     rw [if_pos hk]
     simp
    ·unfold M.stepAt
     rw [if_neg hk]
     dsimp only
     split <;> simp
theorem goH_len : ∀ (x : M.W) (k : Int) (l : List (Int × Int)), (goH x k l).length ≤ l.length
 | x, k, [] => Nat.le_refl _
 | x, k, p :: r => by
  have h1 := goH_len (pickW x p) (k + 1) r
  have h2 : (pickE x p).length ≤ 1 := by
   unfold pickE
   split
   ·simp
   ·exact step_evs x p.2
  show ((pickE x p).map _ ++ goH (pickW x p) (k + 1) r).length ≤ r.length + 1
  rw [List.length_append, List.length_map]
  omega
def wcs (x : M.W) (Ap Ac Am At : Option Addr) (cp cc cm ct : Nat) : Array Value := #[.int .i64 x.now, .slice Ap x.cl.length cp, .slice Ac x.cl.length cc, .slice Am x.mu.length cm, .slice At (tableOf x.sem).length ct, .int .i64 x.stop]
abbrev wO (y : M.W) (Ap Ac Am At : Option Addr) (cp cc cm ct : Nat) : Obj := .cells #[.int .i64 y.now, .slice Ap y.cl.length cp, .slice Ac y.cl.length cc, .slice Am y.mu.length cm, .slice At (tableOf y.sem).length ct, .int .i64 y.stop] 29
theorem go_at (x : M.W) (g : M.Good x) (Ap Ac Am At : Option Addr) (cp cc cm ct : Nat) (w : World) (S : Nat → Prop) (hWS : ∀ W, Kept w W S → WP W x Ap Ac Am At cp cc cm ct) (hSB : ∀ b, S b → b < w.heap.size) (A : Option Addr) (cap : Nat) (zs : List Int) (hlen : zs.length ≤ 20000) (hC : (Kd.int .i64).C w A zs.length zs)
  (hwf : ∀ z ∈ zs, -9223372036854775808 ≤ z ∧ z ≤ 9223372036854775807) :
  Calls Tryz.prog 33 #[wv x Ap Ac Am At cp cc cm ct, .slice A zs.length cap] w (GoOk S x (zs.map pickOf) w) := by
 have h := hWS w (Kept.refl _ _)
 have HWS := ak_ hWS
 clear hWS
 have HSB := ak_ hSB
 clear hSB
 have HW := ak_ h
 have P1 := ak_ (fun w' (hb : Below w.heap.size w w') => machRight_at x g Ap Ac Am At cp cc cm ct w' (h.below hb))
 have P2 := ak_ (fun w' (hb : Below w.heap.size w w') => all_calls A cap zs w' hlen (Kd.C_below hC hb) hwf)
 have hu := Tryz.underlying29
 have hu133 := Tryz.underlying133
 have hu136 := Tryz.underlying136
 have hu138 := Tryz.underlying138
 obtain ⟨i133, hi133, hz133⟩ := Option.map_eq_some_iff.1 info133
 simp only [Prod.mk.injEq] at hz133
 have hmk := fun W : World => Conc.run_makeChan (P := Tryz.prog) (w := W) Tryz.underlying130 hi133 .i64 zs.length (by omega) (by rw [hz133.2.2]; omega)
 have hln : ¬ ((zs.length : Int) > 20000) := by omega
 have hln2 : (20000 < (zs.length : Int)) = False := eq_false (by omega)
 have G := ak_ g
 clear h g hC hi133 hz133
 unfold wv at P1 ⊢
 have BK := ak_ (blk_alloc (blk_new w (wO x Ap Ac Am At cp cc cm ct)) (.cells #[.int .i64 0, .slice none 0 0, .slice none 0 0, .slice none 0 0, .slice none 0 0, .int .i64 0] 29))
 have BR0 := blk_new (w.alloc (wO x Ap Ac Am At cp cc cm ct)) (.cells #[.int .i64 0, .slice none 0 0, .slice none 0 0, .slice none 0 0, .slice none 0 0, .int .i64 0] 29)
 rw [World.size_alloc] at BR0
 have BR := ak_ BR0
 clear BR0
 have BB := ak_ (bel2 (bel2 (Below.refl _ w) (wO x Ap Ac Am At cp cc cm ct)) (.cells #[.int .i64 0, .slice none 0 0, .slice none 0 0, .slice none 0 0, .slice none 0 0, .int .i64 0] 29))
 go_enter Tryz.func33, Tryz.ntmps33
 go_wp2_with fail
 refine (P1.out _ BB.out).mono ?_
 rintro e w2 ⟨rfl, hb2⟩
 have BK2 := ak_ (blk_alloc (blk_below BK.out hb2) (.chan zs.length #[] false 0 0 false))
 have BR2 := ak_ (blk_alloc (blk_below BR.out hb2) (.chan zs.length #[] false 0 0 false))
 have BC2 := ak_ (blk_new w2 (.chan zs.length #[] false 0 0 false))
 have hs2 : w.heap.size + 1 < w2.heap.size := blk_lt (blk_below BR.out hb2)
 have BB2 := ak_ (bel2 (bel3 BB.out hb2) (.chan zs.length #[] false 0 0 false))
 clear hb2 BK BB BR P1
 go_wp2_with fail
 refine (P2.out _ BB2.out).mono ?_
 rintro e w4 ⟨vs, rfl, hO4, hb4⟩
 have BK4 := ak_ (blk_below BK2.out hb4)
 have BR4 := ak_ (blk_below BR2.out hb4)
 have BC4 := ak_ (blk_below BC2.out hb4)
 have BB4 := ak_ (bel3 BB2.out hb4)
 obtain ⟨ps, hps⟩ : ∃ ps, ps = zs.map pickOf := ⟨_, rfl⟩
 have hpl : ps.length = zs.length := by rw [hps, List.length_map]
 rw [← hps] at hO4 ⊢
 have hok : ∀ p ∈ ps, okPick p := by
  intro p hp
  rw [hps] at hp
  obtain ⟨v, _, rfl⟩ := List.mem_map.1 hp
  exact okPick_of v
 obtain ⟨As, cs, rfl, hat⟩ := picks_at hO4
 have HAT := ak_ hat
 have HOK := ak_ hok
 have HPL := ak_ hpl
 have HPS := ak_ hps
 rw [← hpl] at BC4
 rw [World.size_alloc] at HAT
 clear hb4 hO4 BK2 BR2 BC2 BB2 P2 hps hok hat hmk hln hln2
 have hlen2 : ps.length ≤ 20000 := by omega
 rw [← hpl]
 clear hpl hwf hlen
 go_wp2
 go_loopg [36] ps.length (fun g v36 wx => Aside0 (Below w.heap.size w wx) ∧ Aside0 (Kept w4 wx (fun b => b = w2.heap.size)) ∧ ∃ i : Nat, i + g = ps.length ∧ v36 = .int .i64 i ∧ Aside0 (wx.heap[w2.heap.size]? = some (.chan ps.length ((ps.take i).map pv2).toArray false i 0 false)))
 case atStart => exact ⟨BB4, ⟨Kept.refl _ _⟩, 0, by omega, rfl, BC4⟩
 case round =>
  obtain ⟨HB, HK, i, hig, rfl, HCH⟩ := hrel
  cases gk with
  | zero =>
   have hi : i = ps.length := by omega
   have hnot : ¬ ((i : Int) < (ps.length : Int)) := by omega
   subst hi
   have hch := HCH.out
   rw [List.take_length] at hch
   have HCH2 := ak_ hch
   clear HCH hch
   have hcl : ∀ ats ty, (Builtin.close_ ats ty #[.chan (some w2.heap.size)]).run Tryz.prog wr = .ok (.tuple #[]) (wr.setChan w2.heap.size ps.length (ps.map pv2).toArray true ps.length 0 false) := fun ats ty => run_close_open ats ty HCH2.out
   have BK7 := ak_ (kept_at BK4.out HK.out (show w.heap.size ≠ w2.heap.size by omega))
   have BR7 := ak_ (kept_at BR4.out HK.out (show w.heap.size + 1 ≠ w2.heap.size by omega))
   have BK8 := ak_ (chan_far BK7.out (show w.heap.size ≠ w2.heap.size by omega) ps.length (ps.map pv2).toArray true ps.length 0 false)
   have BR8 := ak_ (chan_far BR7.out (show w.heap.size + 1 ≠ w2.heap.size by omega) ps.length (ps.map pv2).toArray true ps.length 0 false)
   have BC8 := ak_ (Conc.heap_setChan wr w2.heap.size ps.length (ps.map pv2).toArray true ps.length 0 false (blk_lt HCH2.out))
   have BB8 := ak_ (Conc.below_setChan HB.out (show w.heap.size ≤ w2.heap.size by omega) ps.length (ps.map pv2).toArray true ps.length 0 false)
   clear BK7 BR7 HCH2 HK HB
   go_upto_block 3 with fail
   clear hcl
   generalize wr.setChan w2.heap.size ps.length (ps.map pv2).toArray true ps.length 0 false = W8 at *
   go_wp2
   go_loopg [10, 11] ps.length (fun g v10 v11 wx => Aside0 (Below w.heap.size w wx) ∧ ∃ i : Nat, i + g = ps.length ∧ v11 = .int .i64 ((i : Int) - 1) ∧ Aside0 (wx.heap[w2.heap.size]? = some (.chan ps.length ((ps.drop i).map pv2).toArray true ps.length i false)) ∧ Aside0 (wx.heap[w.heap.size + 1]? = some (.cells zeroW 29 (0, 0))) ∧ (∃ Ap Ac Am At cp cc cm ct, Aside0 (wx.heap[w.heap.size]? = some (.cells (wcs (goW x (ps.take i)) Ap Ac Am At cp cc cm ct) 29 (0, 0))) ∧ Aside0 (∀ W, Kept wx W (exS S w.heap.size w2.heap.size v10) → WP W (goW x (ps.take i)) Ap Ac Am At cp cc cm ct)) ∧ Aside0 (Kd.R kHap 138 wx w.heap.size (fun _ => True) v10 (goH x 0 (ps.take i))))
   case atStart => exact ⟨BB8, 0, by omega, by simp, BC8, BR8, ⟨Ap, Ac, Am, At, cp, cc, cm, ct, BK8, ⟨fun W hk => HWS.out W ((Kept.of_below BB8.out S).then_ hk (fun b q => by rcases q with q | q | q | q | q; exact .inl q; exact .inr (by omega); exact .inr (by omega); exact .inr (by omega); cases q))⟩⟩, ⟨Kd.R_nil _ _ _ _ _⟩⟩
   case round =>
    obtain ⟨HB, i, hig, rfl, HCH, HZ, ⟨Ap', Ac', Am', At', cp', cc', cm', ct', HV, HP⟩, HR⟩ := hrel
    cases gk with
    | zero =>
     have hi : i = ps.length := by omega
     subst hi
     have hch := HCH.out
     rw [List.drop_length] at hch
     have HCH2 := ak_ hch
     clear HCH hch
     go_upto_region 15 with fail
     apply wp_region_to
     show OpsTo _ _ _ [0, 1] _ _
     refine OpsTo.shut (c := w2.heap.size) (z := .agg #[.int .i64 0, .int .i64 0]) (w' := wr) true rfl (by kernel_rfl) ?h0 HCH2.out ?_
     case h0 => (go_simp; rfl)
     refine OpsTo.value (v := .bool false) (w' := wr) rfl (by kernel_rfl) ?h1 ?_
     case h1 => (go_simp; rfl)
     refine OpsTo.end_ ?_
     simp only [Act.put, List.setIfInBounds_toArray, List.set_cons_zero, List.set_cons_succ]
     have HE := ak_ (show goW x (ps.take ps.length) = goW x ps by rw [List.take_length])
     have HE2 := ak_ (show goH x 0 (ps.take ps.length) = goH x 0 ps by rw [List.take_length])
     obtain ⟨y, hy⟩ : ∃ y, y = goW x (ps.take ps.length) := ⟨_, rfl⟩
     rw [← hy] at HV HP HE
     clear hy
     unfold wcs at HV
     have v0 : wr.cell? ⟨w.heap.size, 0, none⟩ = some (.int .i64 y.now) := blk_cell HV.out 0
     have v1 : wr.cell? ⟨w.heap.size, 1, none⟩ = some (.slice Ap' y.cl.length cp') := blk_cell HV.out 1
     have v2 : wr.cell? ⟨w.heap.size, 2, none⟩ = some (.slice Ac' y.cl.length cc') := blk_cell HV.out 2
     have v3 : wr.cell? ⟨w.heap.size, 3, none⟩ = some (.slice Am' y.mu.length cm') := blk_cell HV.out 3
     have v4 : wr.cell? ⟨w.heap.size, 4, none⟩ = some (.slice At' (tableOf y.sem).length ct') := blk_cell HV.out 4
     have v5 : wr.cell? ⟨w.heap.size, 5, none⟩ = some (.int .i64 y.stop) := blk_cell HV.out 5
     have z0 : wr.cell? ⟨w.heap.size + 1, 0, none⟩ = some (.int .i64 0) := blk_cell HZ.out 0
     have fz0 : wr.frozen? ⟨w.heap.size + 1, 0, none⟩ = false := blk_frozen HZ.out 0
     have z1 : wr.cell? ⟨w.heap.size + 1, 1, none⟩ = some (.slice none 0 0) := blk_cell HZ.out 1
     have fz1 : wr.frozen? ⟨w.heap.size + 1, 1, none⟩ = false := blk_frozen HZ.out 1
     have z2 : wr.cell? ⟨w.heap.size + 1, 2, none⟩ = some (.slice none 0 0) := blk_cell HZ.out 2
     have fz2 : wr.frozen? ⟨w.heap.size + 1, 2, none⟩ = false := blk_frozen HZ.out 2
     have z3 : wr.cell? ⟨w.heap.size + 1, 3, none⟩ = some (.slice none 0 0) := blk_cell HZ.out 3
     have fz3 : wr.frozen? ⟨w.heap.size + 1, 3, none⟩ = false := blk_frozen HZ.out 3
     have z4 : wr.cell? ⟨w.heap.size + 1, 4, none⟩ = some (.slice none 0 0) := blk_cell HZ.out 4
     have fz4 : wr.frozen? ⟨w.heap.size + 1, 4, none⟩ = false := blk_frozen HZ.out 4
     have z5 : wr.cell? ⟨w.heap.size + 1, 5, none⟩ = some (.int .i64 0) := blk_cell HZ.out 5
     have fz5 : wr.frozen? ⟨w.heap.size + 1, 5, none⟩ = false := blk_frozen HZ.out 5
     go_wp2
     refine bodyPost_ret (results_ctt rfl _ _ (w.heap.size + 1) 29 _ (0, 0) _ rfl (set6 HZ.out (.int .i64 y.now) (.slice Ap' y.cl.length cp') (.slice Ac' y.cl.length cc') (.slice Am' y.mu.length cm') (.slice At' (tableOf y.sem).length ct') (.int .i64 y.stop)) Tryz.underlying29 rfl (by kernel_rfl)) rfl ?_
     have hB6 := below6 HB.out (Nat.le_succ w.heap.size) (.int .i64 y.now) (.slice Ap' y.cl.length cp') (.slice Ac' y.cl.length cc') (.slice Am' y.mu.length cm') (.slice At' (tableOf y.sem).length ct') (.int .i64 y.stop)
     have hK6 := kept6 (w := wr) (S := exS S w.heap.size w2.heap.size u10) (w.heap.size + 1) (.inr (.inr (.inl rfl))) (.int .i64 y.now) (.slice Ap' y.cl.length cp') (.slice Ac' y.cl.length cc') (.slice Am' y.mu.length cm') (.slice At' (tableOf y.sem).length ct') (.int .i64 y.stop)
     rw [← HPS.out]
     refine ⟨_, _, _, _, _, _, _, rfl, hB6, ?_, ?_⟩
     ·rw [← HE.out]
      exact ⟨Ap', Ac', Am', At', cp', cc', cm', ct', rfl, fun W hk => HP.out W (hK6.then_ hk (fun _ q => .inl (.inl q)))⟩
     ·rw [← HE2.out]
      exact Sl.of_R (R_set6 HR.out HZ.out (by decide) _ _ _ _ _ _)
    | succ go =>
     have hlt : i < ps.length := by omega
     obtain ⟨p, hp⟩ : ∃ p, ps[i]? = some p := ⟨_, List.getElem?_eq_getElem hlt⟩
     have hdr : ps.drop i = p :: ps.drop (i + 1) := by
      rw [List.getElem?_eq_getElem hlt] at hp
      cases hp
      rw [List.drop_eq_getElem_cons hlt]
     have hch := HCH.out
     rw [hdr] at hch
     have HCH2 := ak_ hch
     have HOKP := ak_ (HOK.out p (List.mem_of_getElem? hp))
     have HTK := ak_ (show ps.take (i + 1) = ps.take i ++ [p] by
      rw [List.take_succ_eq_append_getElem hlt]
      rw [List.getElem?_eq_getElem hlt] at hp
      cases hp
      rfl)
     clear HCH hch hdr hp
     have HC6 := ak_ (Conc.heap_setChan wr w2.heap.size ps.length ((ps.drop (i + 1)).map pv2).toArray true ps.length (i + 1) false (blk_lt HCH2.out))
     have HB6 := ak_ (Conc.below_setChan HB.out (show w.heap.size ≤ w2.heap.size by omega) ps.length ((ps.drop (i + 1)).map pv2).toArray true ps.length (i + 1) false)
     have HZ6 := ak_ (chan_far HZ.out (show w.heap.size + 1 ≠ w2.heap.size by omega) ps.length ((ps.drop (i + 1)).map pv2).toArray true ps.length (i + 1) false)
     have HV6 := ak_ (chan_far HV.out (show w.heap.size ≠ w2.heap.size by omega) ps.length ((ps.drop (i + 1)).map pv2).toArray true ps.length (i + 1) false)
     have HKC := kept_setChan (Kept.refl wr (fun b => b = w2.heap.size)) (show w2.heap.size = w2.heap.size from rfl) ps.length ((ps.drop (i + 1)).map pv2).toArray true ps.length (i + 1) false
     have HEX : ((p :: ps.drop (i + 1)).map pv2).toArray.extract 1 ((p :: ps.drop (i + 1)).map pv2).toArray.size = ((ps.drop (i + 1)).map pv2).toArray := by
      simp
      rw [List.take_of_length_le]
      simp
     have HEG : ((p :: ps.drop (i + 1)).map pv2).toArray.getD 0 undef = pv2 p := by simp
     go_upto_region 15 with fail
     apply wp_region_to
     show OpsTo _ _ _ [0, 1] _ _
     refine OpsTo.recv (c := w2.heap.size) (z := .agg #[.int .i64 0, .int .i64 0]) (w' := wr) true rfl (by kernel_rfl) ?h0 HCH2.out (by simp) ?_
     case h0 => (go_simp; rfl)
     rw [HEX, HEG]
     refine OpsTo.value (v := .bool true) (w' := wr.setChan w2.heap.size ps.length ((ps.drop (i + 1)).map pv2).toArray true ps.length (i + 1) false) rfl (by kernel_rfl) ?h1 ?_
     case h1 => (go_simp; rfl)
     refine OpsTo.end_ ?_
     simp only [Act.put, List.setIfInBounds_toArray, List.set_cons_zero, List.set_cons_succ]
     rw [show Conc.got true (pv2 p) true = Value.tuple #[.agg #[.int .i64 p.1, .int .i64 p.2], .bool true] from rfl]
     obtain ⟨y, hy⟩ : ∃ y, y = goW x (ps.take i) := ⟨_, rfl⟩
     have gy : M.Good y := by
      rw [hy]
      exact good_go (fun q hq => HOK.out q (List.mem_of_mem_take hq)) G.out
     rw [← hy] at HV6 HP
     have HY := ak_ hy
     have GY := ak_ gy
     have HP6 := ak_ (fun W (hk : Kept (wr.setChan w2.heap.size ps.length ((ps.drop (i + 1)).map pv2).toArray true ps.length (i + 1) false) W (exS S w.heap.size w2.heap.size u10)) => HP.out W ((HKC.mono (S' := (exS S w.heap.size w2.heap.size u10)) (fun b q => .inr (.inr (.inr (.inl q))))).then_ hk (fun _ q => .inl q)))
     have HR6 := ak_ (Kd.R_kept (S := fun b => b = w2.heap.size) (Kd.R_mono (Kd.R_bound HR.out) (fun k hk => hk)) HKC (fun k hk q => by
      obtain ⟨_, _, _, _, _, cs9, hc9⟩ := hk
      rw [q, HCH2.out] at hc9
      cases hc9))
     have HR6' := ak_ (Kd.R_mono (ok' := fun _ => True) HR6.out (fun _ _ => trivial))
     unfold wcs at HV6
     clear hy gy HEX HEG HR6 HKC HCH2 HP HR HZ HV HB
     generalize wr.setChan w2.heap.size ps.length ((ps.drop (i + 1)).map pv2).toArray true ps.length (i + 1) false = W6 at *
     have hSS : ∀ b, (exS S w.heap.size w2.heap.size u10) b → b < W6.heap.size := by
      intro b q
      rcases q with q | q | q | q | q
      ·have := HSB.out b q
       have := HB6.out.size
       omega
      ·rw [q]; exact blk_lt HV6.out
      ·rw [q]; exact blk_lt HZ6.out
      ·rw [q]; exact blk_lt HC6.out
      ·exact ((Kd.R_bound HR6'.out).1 b q).2.2.1
     have HSS := ak_ hSS
     clear hSS
     have v0 : (W6.alloc (.cells #[.int .i64 p.1, .int .i64 p.2] 133)).cell? ⟨w.heap.size, 0, none⟩ = some (.int .i64 y.now) := blk_cell (blk_alloc HV6.out (.cells #[.int .i64 p.1, .int .i64 p.2] 133)) 0
     have v1 : (W6.alloc (.cells #[.int .i64 p.1, .int .i64 p.2] 133)).cell? ⟨w.heap.size, 1, none⟩ = some (.slice Ap' y.cl.length cp') := blk_cell (blk_alloc HV6.out (.cells #[.int .i64 p.1, .int .i64 p.2] 133)) 1
     have v2 : (W6.alloc (.cells #[.int .i64 p.1, .int .i64 p.2] 133)).cell? ⟨w.heap.size, 2, none⟩ = some (.slice Ac' y.cl.length cc') := blk_cell (blk_alloc HV6.out (.cells #[.int .i64 p.1, .int .i64 p.2] 133)) 2
     have v3 : (W6.alloc (.cells #[.int .i64 p.1, .int .i64 p.2] 133)).cell? ⟨w.heap.size, 3, none⟩ = some (.slice Am' y.mu.length cm') := blk_cell (blk_alloc HV6.out (.cells #[.int .i64 p.1, .int .i64 p.2] 133)) 3
     have v4 : (W6.alloc (.cells #[.int .i64 p.1, .int .i64 p.2] 133)).cell? ⟨w.heap.size, 4, none⟩ = some (.slice At' (tableOf y.sem).length ct') := blk_cell (blk_alloc HV6.out (.cells #[.int .i64 p.1, .int .i64 p.2] 133)) 4
     have v5 : (W6.alloc (.cells #[.int .i64 p.1, .int .i64 p.2] 133)).cell? ⟨w.heap.size, 5, none⟩ = some (.int .i64 y.stop) := blk_cell (blk_alloc HV6.out (.cells #[.int .i64 p.1, .int .i64 p.2] 133)) 5
     have x0 : (W6.alloc (.cells #[.int .i64 p.1, .int .i64 p.2] 133)).cell? ⟨W6.heap.size, 0, none⟩ = some (.int .i64 p.1) := blk_cell (blk_new W6 (.cells #[.int .i64 p.1, .int .i64 p.2] 133)) 0
     have x1 : (W6.alloc (.cells #[.int .i64 p.1, .int .i64 p.2] 133)).cell? ⟨W6.heap.size, 1, none⟩ = some (.int .i64 p.2) := blk_cell (blk_new W6 (.cells #[.int .i64 p.1, .int .i64 p.2] 133)) 1
     have HVV := ak_ (show WVS (exS S w.heap.size w2.heap.size u10) (W6.alloc (.cells #[.int .i64 p.1, .int .i64 p.2] 133)) (wv y Ap' Ac' Am' At' cp' cc' cm' ct') y from ⟨Ap', Ac', Am', At', cp', cc', cm', ct', rfl, fun W hk => HP6.out W (((Kept.refl W6 (exS S w.heap.size w2.heap.size u10)).alloc (.cells #[.int .i64 p.1, .int .i64 p.2] 133)).then_ hk (fun _ q => .inl q))⟩)
     have HSS7 := ak_ (fun b (q : (exS S w.heap.size w2.heap.size u10) b) => show b < (W6.alloc (.cells #[.int .i64 p.1, .int .i64 p.2] 133)).heap.size by have := HSS.out b q; simp; omega)
     rcases HOKP.out with ⟨hk, h0, h16⟩ | ⟨hk, hd⟩
     ·have hkb : (p.1 == 1) = false := by rw [hk]; rfl
      have STP := ak_ (step9 y GY.out _ _ (exS S w.heap.size w2.heap.size u10) HSS7.out HVV.out p.2)
      unfold wv at STP
      have HKD := ak_ hk
      have HB7 := ak_ (bel2 HB6.out (.cells #[.int .i64 p.1, .int .i64 p.2] 133))
      have HC7 := ak_ (blk_alloc HC6.out (.cells #[.int .i64 p.1, .int .i64 p.2] 133))
      have HZ7 := ak_ (blk_alloc HZ6.out (.cells #[.int .i64 p.1, .int .i64 p.2] 133))
      have HV7 := ak_ (blk_alloc HV6.out (.cells #[.int .i64 p.1, .int .i64 p.2] 133))
      have HR7 := ak_ (Kd.R_alloc HR6'.out (.cells #[.int .i64 p.1, .int .i64 p.2] 133))
      clear hk h0 h16
      go_wp2_with fail
      refine STP.out.mono ?_
      rintro e w7 ⟨a0, a1, a2, a3, a4, a5, ve, rfl, hb7, ⟨Ap2, Ac2, Am2, At2, cp2, cc2, cm2, ct2, e7, hP7⟩, hE7⟩
      obtain ⟨rfl, rfl, rfl, rfl, rfl, rfl⟩ := wv_inj e7
      obtain ⟨Ae, ce, rfl, hle, _⟩ := hE7 w7 (Kept.refl _ _)
      obtain ⟨y2, hy2⟩ : ∃ y2, y2 = (M.step y p.2).1 := ⟨_, rfl⟩
      obtain ⟨evs, hevs⟩ : ∃ evs, evs = (M.step y p.2).2 := ⟨_, rfl⟩
      rw [← hy2] at hP7 ⊢
      rw [← hevs] at hE7 hle ⊢
      have HY2 := ak_ hy2
      have HEV := ak_ hevs
      have HP7 := ak_ hP7
      have HE7 := ak_ hE7
      have HLE := ak_ hle
      have HB8 := ak_ (bel2 (bel3 HB7.out hb7) (wO y2 Ap2 Ac2 Am2 At2 cp2 cc2 cm2 ct2))
      have HC8 := ak_ (blk_alloc (blk_below HC7.out hb7) (wO y2 Ap2 Ac2 Am2 At2 cp2 cc2 cm2 ct2))
      have HZ8 := ak_ (blk_alloc (blk_below HZ7.out hb7) (wO y2 Ap2 Ac2 Am2 At2 cp2 cc2 cm2 ct2))
      have HV8 := ak_ (blk_alloc (blk_below HV7.out hb7) (wO y2 Ap2 Ac2 Am2 At2 cp2 cc2 cm2 ct2))
      have HR8 := ak_ (Kd.R_alloc (Kd.R_below HR7.out hb7) (wO y2 Ap2 Ac2 Am2 At2 cp2 cc2 cm2 ct2))
      clear e7 hy2 hevs hP7 hE7 hle hb7 STP v0 v1 v2 v3 v4 v5
      have v0 : (w7.alloc (wO y2 Ap2 Ac2 Am2 At2 cp2 cc2 cm2 ct2)).cell? ⟨w.heap.size, 0, none⟩ = some (.int .i64 y.now) := blk_cell HV8.out 0
      have fv0 : (w7.alloc (wO y2 Ap2 Ac2 Am2 At2 cp2 cc2 cm2 ct2)).frozen? ⟨w.heap.size, 0, none⟩ = false := blk_frozen HV8.out 0
      have v1 : (w7.alloc (wO y2 Ap2 Ac2 Am2 At2 cp2 cc2 cm2 ct2)).cell? ⟨w.heap.size, 1, none⟩ = some (.slice Ap' y.cl.length cp') := blk_cell HV8.out 1
      have fv1 : (w7.alloc (wO y2 Ap2 Ac2 Am2 At2 cp2 cc2 cm2 ct2)).frozen? ⟨w.heap.size, 1, none⟩ = false := blk_frozen HV8.out 1
      have v2 : (w7.alloc (wO y2 Ap2 Ac2 Am2 At2 cp2 cc2 cm2 ct2)).cell? ⟨w.heap.size, 2, none⟩ = some (.slice Ac' y.cl.length cc') := blk_cell HV8.out 2
      have fv2 : (w7.alloc (wO y2 Ap2 Ac2 Am2 At2 cp2 cc2 cm2 ct2)).frozen? ⟨w.heap.size, 2, none⟩ = false := blk_frozen HV8.out 2
      have v3 : (w7.alloc (wO y2 Ap2 Ac2 Am2 At2 cp2 cc2 cm2 ct2)).cell? ⟨w.heap.size, 3, none⟩ = some (.slice Am' y.mu.length cm') := blk_cell HV8.out 3
      have fv3 : (w7.alloc (wO y2 Ap2 Ac2 Am2 At2 cp2 cc2 cm2 ct2)).frozen? ⟨w.heap.size, 3, none⟩ = false := blk_frozen HV8.out 3
      have v4 : (w7.alloc (wO y2 Ap2 Ac2 Am2 At2 cp2 cc2 cm2 ct2)).cell? ⟨w.heap.size, 4, none⟩ = some (.slice At' (tableOf y.sem).length ct') := blk_cell HV8.out 4
      have fv4 : (w7.alloc (wO y2 Ap2 Ac2 Am2 At2 cp2 cc2 cm2 ct2)).frozen? ⟨w.heap.size, 4, none⟩ = false := blk_frozen HV8.out 4
      have v5 : (w7.alloc (wO y2 Ap2 Ac2 Am2 At2 cp2 cc2 cm2 ct2)).cell? ⟨w.heap.size, 5, none⟩ = some (.int .i64 y.stop) := blk_cell HV8.out 5
      have fv5 : (w7.alloc (wO y2 Ap2 Ac2 Am2 At2 cp2 cc2 cm2 ct2)).frozen? ⟨w.heap.size, 5, none⟩ = false := blk_frozen HV8.out 5
      go_upto_block 5 with fail
      have HB9 := ak_ (below6 HB8.out (Nat.le_refl w.heap.size) (.int .i64 y2.now) (.slice Ap2 y2.cl.length cp2) (.slice Ac2 y2.cl.length cc2) (.slice Am2 y2.mu.length cm2) (.slice At2 (tableOf y2.sem).length ct2) (.int .i64 y2.stop))
      have HC9 := ak_ (far6 HC8.out (show w2.heap.size ≠ w.heap.size by omega) (.int .i64 y2.now) (.slice Ap2 y2.cl.length cp2) (.slice Ac2 y2.cl.length cc2) (.slice Am2 y2.mu.length cm2) (.slice At2 (tableOf y2.sem).length ct2) (.int .i64 y2.stop))
      have HZ9 := ak_ (blk_set6 HZ8.out (g' := w.heap.size) (show w.heap.size + 1 ≠ w.heap.size by omega) (.int .i64 y2.now) (.slice Ap2 y2.cl.length cp2) (.slice Ac2 y2.cl.length cc2) (.slice Am2 y2.mu.length cm2) (.slice At2 (tableOf y2.sem).length ct2) (.int .i64 y2.stop))
      have HV9 := ak_ (set6 HV8.out (.int .i64 y2.now) (.slice Ap2 y2.cl.length cp2) (.slice Ac2 y2.cl.length cc2) (.slice Am2 y2.mu.length cm2) (.slice At2 (tableOf y2.sem).length ct2) (.int .i64 y2.stop))
      have HR9 := ak_ (R_set6 HR8.out HV8.out (by decide) (.int .i64 y2.now) (.slice Ap2 y2.cl.length cp2) (.slice Ac2 y2.cl.length cc2) (.slice Am2 y2.mu.length cm2) (.slice At2 (tableOf y2.sem).length ct2) (.int .i64 y2.stop))
      have HKS : Kept w7 ((((((((w7.alloc (wO y2 Ap2 Ac2 Am2 At2 cp2 cc2 cm2 ct2)).setCell ⟨w.heap.size, 0, none⟩ (.int .i64 y2.now)).setCell ⟨w.heap.size, 1, none⟩ (.slice Ap2 y2.cl.length cp2)).setCell ⟨w.heap.size, 2, none⟩ (.slice Ac2 y2.cl.length cc2)).setCell ⟨w.heap.size, 3, none⟩ (.slice Am2 y2.mu.length cm2)).setCell ⟨w.heap.size, 4, none⟩ (.slice At2 (tableOf y2.sem).length ct2)).setCell ⟨w.heap.size, 5, none⟩ (.int .i64 y2.stop))) (exS S w.heap.size w2.heap.size u10) := ((Kept.refl w7 (exS S w.heap.size w2.heap.size u10)).alloc (wO y2 Ap2 Ac2 Am2 At2 cp2 cc2 cm2 ct2)).then_ (kept6 (S := (exS S w.heap.size w2.heap.size u10)) w.heap.size (.inr (.inl rfl)) (.int .i64 y2.now) (.slice Ap2 y2.cl.length cp2) (.slice Ac2 y2.cl.length cc2) (.slice Am2 y2.mu.length cm2) (.slice At2 (tableOf y2.sem).length ct2) (.int .i64 y2.stop)) (fun _ q => .inl q)
      have HP9 := ak_ (fun W (hk : Kept ((((((((w7.alloc (wO y2 Ap2 Ac2 Am2 At2 cp2 cc2 cm2 ct2)).setCell ⟨w.heap.size, 0, none⟩ (.int .i64 y2.now)).setCell ⟨w.heap.size, 1, none⟩ (.slice Ap2 y2.cl.length cp2)).setCell ⟨w.heap.size, 2, none⟩ (.slice Ac2 y2.cl.length cc2)).setCell ⟨w.heap.size, 3, none⟩ (.slice Am2 y2.mu.length cm2)).setCell ⟨w.heap.size, 4, none⟩ (.slice At2 (tableOf y2.sem).length ct2)).setCell ⟨w.heap.size, 5, none⟩ (.int .i64 y2.stop))) W (exS S w.heap.size w2.heap.size u10)) => HP7.out W (HKS.then_ hk (fun _ q => .inl q)))
      have HE9 := ak_ (fun W (hk : Kept ((((((((w7.alloc (wO y2 Ap2 Ac2 Am2 At2 cp2 cc2 cm2 ct2)).setCell ⟨w.heap.size, 0, none⟩ (.int .i64 y2.now)).setCell ⟨w.heap.size, 1, none⟩ (.slice Ap2 y2.cl.length cp2)).setCell ⟨w.heap.size, 2, none⟩ (.slice Ac2 y2.cl.length cc2)).setCell ⟨w.heap.size, 3, none⟩ (.slice Am2 y2.mu.length cm2)).setCell ⟨w.heap.size, 4, none⟩ (.slice At2 (tableOf y2.sem).length ct2)).setCell ⟨w.heap.size, 5, none⟩ (.int .i64 y2.stop))) W (exS S w.heap.size w2.heap.size u10)) => HE7.out W (HKS.then_ hk (fun _ q => .inl q)))
      have hev1 : evs.length ≤ 1 := by rw [HEV.out]; exact step_evs y p.2
      have hgl := goH_len x 0 (ps.take i)
      rw [List.length_take] at hgl
      clear HKS HB8 HC8 HZ8 HV8 HR8 HP7 HE7 x0 x1 HB7 HC7 HZ7 HV7 HR7 HVV HSS7 v0 fv0 v1 fv1 v2 fv2 v3 fv3 v4 fv4 v5 fv5
      generalize (((((((w7.alloc (wO y2 Ap2 Ac2 Am2 At2 cp2 cc2 cm2 ct2)).setCell ⟨w.heap.size, 0, none⟩ (.int .i64 y2.now)).setCell ⟨w.heap.size, 1, none⟩ (.slice Ap2 y2.cl.length cp2)).setCell ⟨w.heap.size, 2, none⟩ (.slice Ac2 y2.cl.length cc2)).setCell ⟨w.heap.size, 3, none⟩ (.slice Am2 y2.mu.length cm2)).setCell ⟨w.heap.size, 4, none⟩ (.slice At2 (tableOf y2.sem).length ct2)).setCell ⟨w.heap.size, 5, none⟩ (.int .i64 y2.stop)) = W9 at *
      go_wp2
      go_loopg [10, 74] evs.length (fun g v10 v74 wx => Aside0 (Below w.heap.size w wx) ∧ ∃ j : Nat, j + g = evs.length ∧ v74 = .int .i64 j ∧ Aside0 (wx.heap[w2.heap.size]? = some (.chan ps.length ((ps.drop (i + 1)).map pv2).toArray true ps.length (i + 1) false)) ∧ Aside0 (wx.heap[w.heap.size + 1]? = some (.cells zeroW 29 (0, 0))) ∧ Aside0 (wx.heap[w.heap.size]? = some (.cells #[.int .i64 y2.now, .slice Ap2 y2.cl.length cp2, .slice Ac2 y2.cl.length cc2, .slice Am2 y2.mu.length cm2, .slice At2 (tableOf y2.sem).length ct2, .int .i64 y2.stop] 29 (0, 0))) ∧ Aside0 (∀ W, Kept wx W (exS S w.heap.size w2.heap.size v10) → WP W y2 Ap2 Ac2 Am2 At2 cp2 cc2 cm2 ct2) ∧ Aside0 (∀ W, Kept wx W (exS S w.heap.size w2.heap.size v10) → Sl kEvent W (.slice Ae evs.length ce) evs) ∧ Aside0 (Kd.R kHap 138 wx w.heap.size (fun _ => True) v10 (goH x 0 (ps.take i) ++ (evs.take j).map (fun e => (⟨(i : Int), y2.now, e⟩ : Hap)))))
      case atStart => exact ⟨HB9, 0, by omega, rfl, HC9, HZ9, HV9, HP9, HE9, ⟨by simpa using HR9.out⟩⟩
      case round =>
       obtain ⟨HBi, j, hjg, rfl, HCi, HZi, HVi, HPi, HEi, HRi⟩ := hrel
       cases gk with
       | zero =>
        have hj : j = evs.length := by omega
        have hnot2 : ¬ ((j : Int) < (evs.length : Int)) := by omega
        subst hj
        have HWS1 := ak_ (show goW x (ps.take (i + 1)) = y2 by rw [HTK.out, goW_snoc, ← HY.out, HY2.out]; unfold pickW; rw [if_neg (by rw [HKD.out]; decide)])
        have HHS1 := ak_ (show goH x 0 (ps.take (i + 1)) = goH x 0 (ps.take i) ++ (evs.take evs.length).map (fun e => (⟨(i : Int), y2.now, e⟩ : Hap)) by
         rw [HTK.out, goH_snoc, ← HY.out, List.take_length, HEV.out]
         unfold pickE pickW
         rw [if_neg (by rw [HKD.out]; decide), if_neg (by rw [HKD.out]; decide), ← HY2.out, List.length_take, Nat.min_eq_left (by omega), Int.zero_add])
        go_wp2
        go_roundg go
        case rel => exact ⟨HBi, i + 1, by omega, by go_num, HCi, HZi, ⟨Ap2, Ac2, Am2, At2, cp2, cc2, cm2, ct2, ⟨by rw [HWS1.out]; exact HVi.out⟩, ⟨by rw [HWS1.out]; exact HPi.out⟩⟩, ⟨by rw [HHS1.out]; exact HRi.out⟩⟩
        case measure => omega
       | succ gj =>
        have hjlt : j < evs.length := by omega
        obtain ⟨ev, hev⟩ : ∃ ev, evs[j]? = some ev := ⟨_, List.getElem?_eq_getElem hjlt⟩
        obtain ⟨Ae2, ce2, hsl, _, hCe⟩ := HEi.out wr (Kept.refl _ _)
        cases hsl
        obtain ⟨ade, hae, e0, ej⟩ := flat_cells hCe j ev hev
        cases hae
        have y0 := e0 _ rfl
        have y1 := ej 1 _ (by decide) rfl
        have y2' := ej 2 _ (by decide) rfl
        have hjl : (j : Int) < (evs.length : Int) := by omega
        have HTJ := ak_ (show (evs.take (j + 1)).map (fun e => (⟨(i : Int), y2.now, e⟩ : Hap)) = (evs.take j).map (fun e => (⟨(i : Int), y2.now, e⟩ : Hap)) ++ [(⟨(i : Int), y2.now, ev⟩ : Hap)] by
         rw [List.getElem?_eq_getElem hjlt] at hev
         cases hev
         rw [List.take_succ_eq_append_getElem hjlt, List.map_append]
         rfl)
        have hxl : (goH x 0 (ps.take i) ++ (evs.take j).map (fun e => (⟨(i : Int), y2.now, e⟩ : Hap))).length ≤ 20001 := by
         rw [List.length_append, List.length_map, List.length_take]
         omega
        have HXL := ak_ hxl
        clear hev e0 ej hCe hxl
        have t0 : wr.cell? ⟨w.heap.size, 0, none⟩ = some (.int .i64 y2.now) := blk_cell HVi.out 0
        have t0' : (wr.alloc (.cells #[.int .i64 ev.who, .int .i64 ev.kind, .int .i64 ev.mutex] 136)).cell? ⟨w.heap.size, 0, none⟩ = some (.int .i64 y2.now) := blk_cell (blk_alloc HVi.out (.cells #[.int .i64 ev.who, .int .i64 ev.kind, .int .i64 ev.mutex] 136)) 0
        have HBa := ak_ (bel2 HBi.out (.cells #[.int .i64 ev.who, .int .i64 ev.kind, .int .i64 ev.mutex] 136))
        have HCa := ak_ (blk_alloc HCi.out (.cells #[.int .i64 ev.who, .int .i64 ev.kind, .int .i64 ev.mutex] 136))
        have HZa := ak_ (blk_alloc HZi.out (.cells #[.int .i64 ev.who, .int .i64 ev.kind, .int .i64 ev.mutex] 136))
        have HVa := ak_ (blk_alloc HVi.out (.cells #[.int .i64 ev.who, .int .i64 ev.kind, .int .i64 ev.mutex] 136))
        have HRa := ak_ (Kd.R_alloc HRi.out (.cells #[.int .i64 ev.who, .int .i64 ev.kind, .int .i64 ev.mutex] 136))
        go_wp2_with (first | (at_builtin; refine Kd.R_append kHap (w0 := w) w.heap.size rfl (.tmp 78) (.tmp 84) 62 138 (.agg #[.int .i64 0, .int .i64 0, .int .i64 0, .int .i64 0, .int .i64 0]) 40 rfl Tryz.underlying62 info138 rfl (by decide) (by omega) _ (goH x 0 (ps.take i) ++ (evs.take j).map (fun e => (⟨(i : Int), y2.now, e⟩ : Hap))) (⟨(i : Int), y2.now, ev⟩ : Hap) [.int .i64 i, .int .i64 y2.now, .int .i64 ev.who, .int .i64 ev.kind, .int .i64 ev.mutex] (fun _ => True) (fun _ => False) rfl ?aX ?aP (fun _ hk => hk.elim) ?aF ?aO ?aB ?aS ?aL ?_; (case aX => simp [Act.eval]); (case aP => exact rfl); (case aB => exact HBa.out); (case aF => exact (fun _ _ => trivial)); (case aO => exact HRa.out); (case aS => exact HBa.out.size); (case aL => have := HXL.out; omega); intro v5 w10 ho hb hg hat; have HO5 := ak_ ho; have HB5 := ak_ hb; have HG5 := ak_ hg; have HA5 := ak_ hat; clear ho hb hg hat))
        have HC10 := ak_ ((HG5.out.block _ (blk_lt HCa.out) (chan_own HRa.out HCa.out)).trans HCa.out)
        have HZ10 := ak_ ((HG5.out.block _ (blk_lt HZa.out) (fun e => ((Kd.R_types HRa.out HZa.out (by decide)).1 _ e.symm).2 rfl)).trans HZa.out)
        have HV10 := ak_ ((HG5.out.block _ (blk_lt HVa.out) (fun e => ((Kd.R_types HRa.out HVa.out (by decide)).1 _ e.symm).2 rfl)).trans HVa.out)
        have HK10 : Kept wr w10 (exS S w.heap.size w2.heap.size u10) := Kept.of_grown HG5.out ((Kept.refl wr _).alloc (.cells #[.int .i64 ev.who, .int .i64 ev.kind, .int .i64 ev.mutex] 136)) (fun k hk => .inl (.inr (.inr (.inr (.inr hk)))))
        have HM10 : ∀ b, exS S w.heap.size w2.heap.size v5 b → exS S w.heap.size w2.heap.size u10 b ∨ wr.heap.size ≤ b := by
         intro b q
         rcases q with q | q | q | q | q
         ·exact .inl (.inl q)
         ·exact .inl (.inr (.inl q))
         ·exact .inl (.inr (.inr (.inl q)))
         ·exact .inl (.inr (.inr (.inr (.inl q))))
         ·rcases HA5.out with hh | ⟨b', hb', hle'⟩
          ·exact .inl (.inr (.inr (.inr (.inr (hh.symm.trans q)))))
          ·rw [hb'] at q
           cases q
           right
           simp at hle'
           omega
        have HP10 := ak_ (fun W (hk : Kept w10 W (exS S w.heap.size w2.heap.size v5)) => HPi.out W (HK10.then_ hk HM10))
        have HE10 := ak_ (fun W (hk : Kept w10 W (exS S w.heap.size w2.heap.size v5)) => HEi.out W (HK10.then_ hk HM10))
        clear HK10 HM10
        go_roundg gj
        case rel => exact ⟨HB5, j + 1, by omega, by go_num, HC10, HZ10, HV10, HP10, HE10, ⟨by rw [HTJ.out, ← List.append_assoc]; exact HO5.out⟩⟩
        case measure => omega
     ·have hkb : (p.1 == 1) = true := by rw [hk]; rfl
      have STP := ak_ (tick68 y GY.out _ _ (exS S w.heap.size w2.heap.size u10) HVV.out p.2 hd)
      unfold wv at STP
      have HKD := ak_ hk
      have HB7 := ak_ (bel2 HB6.out (.cells #[.int .i64 p.1, .int .i64 p.2] 133))
      have HC7 := ak_ (blk_alloc HC6.out (.cells #[.int .i64 p.1, .int .i64 p.2] 133))
      have HZ7 := ak_ (blk_alloc HZ6.out (.cells #[.int .i64 p.1, .int .i64 p.2] 133))
      have HV7 := ak_ (blk_alloc HV6.out (.cells #[.int .i64 p.1, .int .i64 p.2] 133))
      have HR7 := ak_ (Kd.R_alloc HR6'.out (.cells #[.int .i64 p.1, .int .i64 p.2] 133))
      have HHS1 := ak_ (show goH x 0 (ps.take (i + 1)) = goH x 0 (ps.take i) by
       rw [HTK.out, goH_snoc, ← HY.out]
       unfold pickE
       rw [if_pos HKD.out, List.map_nil, List.append_nil])
      have HWS1 := ak_ (show goW x (ps.take (i + 1)) = M.tick y p.2 by rw [HTK.out, goW_snoc, ← HY.out]; unfold pickW; rw [if_pos HKD.out])
      have HKX : Kept W6 (W6.alloc (.cells #[.int .i64 p.1, .int .i64 p.2] 133)) (exS S w.heap.size w2.heap.size u10) := (Kept.refl W6 (exS S w.heap.size w2.heap.size u10)).alloc (.cells #[.int .i64 p.1, .int .i64 p.2] 133)
      have HKX2 := ak_ HKX
      clear hk hd HKX
      go_wp2_with fail
      refine STP.out.mono ?_
      rintro e w7 ⟨a0, a1, a2, a3, a4, a5, b, rfl, hb7, (⟨rfl, Ap2, Ac2, Am2, At2, cp2, cc2, cm2, ct2, e7, hP7⟩ | ⟨rfl, hte, rfl, rfl, rfl, rfl, rfl, rfl⟩)⟩
      ·obtain ⟨rfl, rfl, rfl, rfl, rfl, rfl⟩ := wv_inj e7
       obtain ⟨y2, hy2⟩ : ∃ y2, y2 = M.tick y p.2 := ⟨_, rfl⟩
       rw [← hy2] at hP7 HWS1 ⊢
       have HP7 := ak_ hP7
       have HB8 := ak_ (bel2 (bel3 HB7.out hb7) (wO y2 Ap2 Ac2 Am2 At2 cp2 cc2 cm2 ct2))
       have HC8 := ak_ (blk_alloc (blk_below HC7.out hb7) (wO y2 Ap2 Ac2 Am2 At2 cp2 cc2 cm2 ct2))
       have HZ8 := ak_ (blk_alloc (blk_below HZ7.out hb7) (wO y2 Ap2 Ac2 Am2 At2 cp2 cc2 cm2 ct2))
       have HV8 := ak_ (blk_alloc (blk_below HV7.out hb7) (wO y2 Ap2 Ac2 Am2 At2 cp2 cc2 cm2 ct2))
       have HR8 := ak_ (Kd.R_alloc (Kd.R_below HR7.out hb7) (wO y2 Ap2 Ac2 Am2 At2 cp2 cc2 cm2 ct2))
       have HB9 := ak_ (below6 HB8.out (Nat.le_refl w.heap.size) (.int .i64 y2.now) (.slice Ap2 y2.cl.length cp2) (.slice Ac2 y2.cl.length cc2) (.slice Am2 y2.mu.length cm2) (.slice At2 (tableOf y2.sem).length ct2) (.int .i64 y2.stop))
       have HC9 := ak_ (far6 HC8.out (show w2.heap.size ≠ w.heap.size by omega) (.int .i64 y2.now) (.slice Ap2 y2.cl.length cp2) (.slice Ac2 y2.cl.length cc2) (.slice Am2 y2.mu.length cm2) (.slice At2 (tableOf y2.sem).length ct2) (.int .i64 y2.stop))
       have HZ9 := ak_ (blk_set6 HZ8.out (g' := w.heap.size) (show w.heap.size + 1 ≠ w.heap.size by omega) (.int .i64 y2.now) (.slice Ap2 y2.cl.length cp2) (.slice Ac2 y2.cl.length cc2) (.slice Am2 y2.mu.length cm2) (.slice At2 (tableOf y2.sem).length ct2) (.int .i64 y2.stop))
       have HV9 := ak_ (set6 HV8.out (.int .i64 y2.now) (.slice Ap2 y2.cl.length cp2) (.slice Ac2 y2.cl.length cc2) (.slice Am2 y2.mu.length cm2) (.slice At2 (tableOf y2.sem).length ct2) (.int .i64 y2.stop))
       have HR9 := ak_ (R_set6 HR8.out HV8.out (by decide) (.int .i64 y2.now) (.slice Ap2 y2.cl.length cp2) (.slice Ac2 y2.cl.length cc2) (.slice Am2 y2.mu.length cm2) (.slice At2 (tableOf y2.sem).length ct2) (.int .i64 y2.stop))
       have HKS : Kept w7 ((((((((w7.alloc (wO y2 Ap2 Ac2 Am2 At2 cp2 cc2 cm2 ct2)).setCell ⟨w.heap.size, 0, none⟩ (.int .i64 y2.now)).setCell ⟨w.heap.size, 1, none⟩ (.slice Ap2 y2.cl.length cp2)).setCell ⟨w.heap.size, 2, none⟩ (.slice Ac2 y2.cl.length cc2)).setCell ⟨w.heap.size, 3, none⟩ (.slice Am2 y2.mu.length cm2)).setCell ⟨w.heap.size, 4, none⟩ (.slice At2 (tableOf y2.sem).length ct2)).setCell ⟨w.heap.size, 5, none⟩ (.int .i64 y2.stop))) (exS S w.heap.size w2.heap.size u10) := ((Kept.refl w7 (exS S w.heap.size w2.heap.size u10)).alloc (wO y2 Ap2 Ac2 Am2 At2 cp2 cc2 cm2 ct2)).then_ (kept6 (S := (exS S w.heap.size w2.heap.size u10)) w.heap.size (.inr (.inl rfl)) (.int .i64 y2.now) (.slice Ap2 y2.cl.length cp2) (.slice Ac2 y2.cl.length cc2) (.slice Am2 y2.mu.length cm2) (.slice At2 (tableOf y2.sem).length ct2) (.int .i64 y2.stop)) (fun _ q => .inl q)
       have HP9 := ak_ (fun W (hk : Kept ((((((((w7.alloc (wO y2 Ap2 Ac2 Am2 At2 cp2 cc2 cm2 ct2)).setCell ⟨w.heap.size, 0, none⟩ (.int .i64 y2.now)).setCell ⟨w.heap.size, 1, none⟩ (.slice Ap2 y2.cl.length cp2)).setCell ⟨w.heap.size, 2, none⟩ (.slice Ac2 y2.cl.length cc2)).setCell ⟨w.heap.size, 3, none⟩ (.slice Am2 y2.mu.length cm2)).setCell ⟨w.heap.size, 4, none⟩ (.slice At2 (tableOf y2.sem).length ct2)).setCell ⟨w.heap.size, 5, none⟩ (.int .i64 y2.stop))) W (exS S w.heap.size w2.heap.size u10)) => HP7.out W (HKS.then_ hk (fun _ q => .inl q)))
       clear e7 hy2 hP7 hb7 STP v0 v1 v2 v3 v4 v5 HKS
       have v0 : (w7.alloc (wO y2 Ap2 Ac2 Am2 At2 cp2 cc2 cm2 ct2)).cell? ⟨w.heap.size, 0, none⟩ = some (.int .i64 y.now) := blk_cell HV8.out 0
       have fv0 : (w7.alloc (wO y2 Ap2 Ac2 Am2 At2 cp2 cc2 cm2 ct2)).frozen? ⟨w.heap.size, 0, none⟩ = false := blk_frozen HV8.out 0
       have v1 : (w7.alloc (wO y2 Ap2 Ac2 Am2 At2 cp2 cc2 cm2 ct2)).cell? ⟨w.heap.size, 1, none⟩ = some (.slice Ap' y.cl.length cp') := blk_cell HV8.out 1
       have fv1 : (w7.alloc (wO y2 Ap2 Ac2 Am2 At2 cp2 cc2 cm2 ct2)).frozen? ⟨w.heap.size, 1, none⟩ = false := blk_frozen HV8.out 1
       have v2 : (w7.alloc (wO y2 Ap2 Ac2 Am2 At2 cp2 cc2 cm2 ct2)).cell? ⟨w.heap.size, 2, none⟩ = some (.slice Ac' y.cl.length cc') := blk_cell HV8.out 2
       have fv2 : (w7.alloc (wO y2 Ap2 Ac2 Am2 At2 cp2 cc2 cm2 ct2)).frozen? ⟨w.heap.size, 2, none⟩ = false := blk_frozen HV8.out 2
       have v3 : (w7.alloc (wO y2 Ap2 Ac2 Am2 At2 cp2 cc2 cm2 ct2)).cell? ⟨w.heap.size, 3, none⟩ = some (.slice Am' y.mu.length cm') := blk_cell HV8.out 3
       have fv3 : (w7.alloc (wO y2 Ap2 Ac2 Am2 At2 cp2 cc2 cm2 ct2)).frozen? ⟨w.heap.size, 3, none⟩ = false := blk_frozen HV8.out 3
       have v4 : (w7.alloc (wO y2 Ap2 Ac2 Am2 At2 cp2 cc2 cm2 ct2)).cell? ⟨w.heap.size, 4, none⟩ = some (.slice At' (tableOf y.sem).length ct') := blk_cell HV8.out 4
       have fv4 : (w7.alloc (wO y2 Ap2 Ac2 Am2 At2 cp2 cc2 cm2 ct2)).frozen? ⟨w.heap.size, 4, none⟩ = false := blk_frozen HV8.out 4
       have v5 : (w7.alloc (wO y2 Ap2 Ac2 Am2 At2 cp2 cc2 cm2 ct2)).cell? ⟨w.heap.size, 5, none⟩ = some (.int .i64 y.stop) := blk_cell HV8.out 5
       have fv5 : (w7.alloc (wO y2 Ap2 Ac2 Am2 At2 cp2 cc2 cm2 ct2)).frozen? ⟨w.heap.size, 5, none⟩ = false := blk_frozen HV8.out 5
       go_wp2
       go_roundg go
       case rel => exact ⟨HB9, i + 1, by omega, by go_num, HC9, HZ9, ⟨Ap2, Ac2, Am2, At2, cp2, cc2, cm2, ct2, ⟨by rw [HWS1.out]; exact HV9.out⟩, ⟨by rw [HWS1.out]; exact HP9.out⟩⟩, ⟨by rw [HHS1.out]; exact HR9.out⟩⟩
       case measure => omega
      ·have HTE := ak_ hte
       have HB8 := ak_ (bel2 (bel3 HB7.out hb7) (.cells #[.int .i64 0, .slice none 0 0, .slice none 0 0, .slice none 0 0, .slice none 0 0, .int .i64 0] 29))
       have HC8 := ak_ (blk_alloc (blk_below HC7.out hb7) (.cells #[.int .i64 0, .slice none 0 0, .slice none 0 0, .slice none 0 0, .slice none 0 0, .int .i64 0] 29))
       have HZ8 := ak_ (blk_alloc (blk_below HZ7.out hb7) (.cells #[.int .i64 0, .slice none 0 0, .slice none 0 0, .slice none 0 0, .slice none 0 0, .int .i64 0] 29))
       have HV8 := ak_ (blk_alloc (blk_below HV7.out hb7) (.cells #[.int .i64 0, .slice none 0 0, .slice none 0 0, .slice none 0 0, .slice none 0 0, .int .i64 0] 29))
       have HR8 := ak_ (Kd.R_alloc (Kd.R_below HR7.out hb7) (.cells #[.int .i64 0, .slice none 0 0, .slice none 0 0, .slice none 0 0, .slice none 0 0, .int .i64 0] 29))
       have HK8 : Kept W6 (w7.alloc (.cells #[.int .i64 0, .slice none 0 0, .slice none 0 0, .slice none 0 0, .slice none 0 0, .int .i64 0] 29)) (exS S w.heap.size w2.heap.size u10) := (HKX2.out.then_ (Kept.of_below hb7 (exS S w.heap.size w2.heap.size u10)) (fun _ q => .inl q)).alloc (.cells #[.int .i64 0, .slice none 0 0, .slice none 0 0, .slice none 0 0, .slice none 0 0, .int .i64 0] 29)
       have HP8 := ak_ (fun W (hk : Kept (w7.alloc (.cells #[.int .i64 0, .slice none 0 0, .slice none 0 0, .slice none 0 0, .slice none 0 0, .int .i64 0] 29)) W (exS S w.heap.size w2.heap.size u10)) => HP6.out W (HK8.then_ hk (fun _ q => .inl q)))
       clear hte hb7 STP v0 v1 v2 v3 v4 v5 HK8
       go_wp2
       go_roundg go
       case rel => exact ⟨HB8, i + 1, by omega, by go_num, HC8, HZ8, ⟨Ap', Ac', Am', At', cp', cc', cm', ct', ⟨by rw [HWS1.out, HTE.out]; exact HV8.out⟩, ⟨by rw [HWS1.out, HTE.out]; exact HP8.out⟩⟩, ⟨by rw [HHS1.out]; exact HR8.out⟩⟩
       case measure => omega
  | succ go =>
   have hlt : i < ps.length := by omega
   obtain ⟨p, hp⟩ : ∃ p, ps[i]? = some p := ⟨_, List.getElem?_eq_getElem hlt⟩
   obtain ⟨ad, hea, hbase, ⟨arr, hrow⟩, y0, y1⟩ := HAT.out i p hp
   cases hea
   have hab : (ad.add (i * 2)).block ≠ w2.heap.size := by
    rw [show (ad.add (i * 2)).block = ad.block by unfold Addr.add; split <;> rfl]
    omega
   replace y0 := Go.Proofs.YtoimfknjfeencaaGreatDoorW.PrintWords.cell_kept y0 HK.out hab
   replace y1 := Go.Proofs.YtoimfknjfeencaaGreatDoorW.PrintWords.cell_kept (a := ⟨(ad.add (i * 2)).block, (ad.add (i * 2)).off + 1, none⟩) y1 HK.out hab
   have hil : (i : Int) < (ps.length : Int) := by omega
   have HP := ak_ hp
   clear hp hbase hrow
   go_upto_region 9 with fail
   have BX := blk_new wr (.cells #[.int .i64 p.1, .int .i64 p.2] 133)
   have HB2 := ak_ (bel2 HB.out (.cells #[.int .i64 p.1, .int .i64 p.2] 133))
   have HK2 := ak_ (HK.out.alloc (.cells #[.int .i64 p.1, .int .i64 p.2] 133))
   have HCH2 := ak_ (blk_alloc HCH.out (.cells #[.int .i64 p.1, .int .i64 p.2] 133))
   have x0 : (wr.alloc (.cells #[.int .i64 p.1, .int .i64 p.2] 133)).cell? ⟨wr.heap.size, 0, none⟩ = some (.int .i64 p.1) := blk_cell BX 0
   have x1 : (wr.alloc (.cells #[.int .i64 p.1, .int .i64 p.2] 133)).cell? ⟨wr.heap.size, 1, none⟩ = some (.int .i64 p.2) := blk_cell BX 1
   clear BX y0 y1 hab
   generalize wr.alloc (.cells #[.int .i64 p.1, .int .i64 p.2] 133) = W5 at *
   apply wp_region_to
   show OpsTo _ _ _ [0, 1, 2] _ _
   refine OpsTo.value (v := .chan (some w2.heap.size)) (w' := W5) rfl (by kernel_rfl) ?h0 ?_
   case h0 => go_simp
   refine OpsTo.value (v := .agg #[.int .i64 p.1, .int .i64 p.2]) (w' := W5) rfl (by kernel_rfl) ?h1 ?_
   case h1 => go_simp
   refine OpsTo.send (c := w2.heap.size) (v := .agg #[.int .i64 p.1, .int .i64 p.2]) (z' := .tuple #[]) (w' := W5) rfl (by kernel_rfl) ?h2 HCH2.out (by simp; omega) ?_
   case h2 => (go_simp; rfl)
   refine OpsTo.end_ ?_
   have HE := ak_ (show ((ps.take i).map pv2).toArray.push (pv2 p) = ((ps.take (i + 1)).map pv2).toArray by
    have e := HP.out
    rw [List.getElem?_eq_getElem hlt] at e
    cases e
    rw [List.take_succ_eq_append_getElem hlt, List.map_append]
    simp)
   have HB6 := ak_ (Conc.below_setChan HB2.out (show w.heap.size ≤ w2.heap.size by omega) ps.length (((ps.take i).map pv2).toArray.push (pv2 p)) false (i + 1) 0 false)
   have HK6 := ak_ (kept_setChan HK2.out (show w2.heap.size = w2.heap.size from rfl) ps.length (((ps.take i).map pv2).toArray.push (pv2 p)) false (i + 1) 0 false)
   have HC6 := ak_ (Conc.heap_setChan W5 w2.heap.size ps.length (((ps.take i).map pv2).toArray.push (pv2 p)) false (i + 1) 0 false (blk_lt HCH2.out))
   simp only [Act.put, List.setIfInBounds_toArray, List.set_cons_zero, List.set_cons_succ]
   have hpv : Value.agg #[Value.int IntKind.i64 p.1, Value.int IntKind.i64 p.2] = pv2 p := rfl
   rw [hpv]
   clear x0 x1 hpv
   generalize W5.setChan w2.heap.size ps.length (((ps.take i).map pv2).toArray.push (pv2 p)) false (i + 1) 0 false = W6 at *
   go_wp2
   go_roundg go
   case rel => exact ⟨HB6, HK6, i + 1, by omega, by go_num, ⟨by rw [← HE.out]; exact HC6.out⟩⟩
   case measure => omega
theorem go33 (x : M.W) (g : M.Good x) (v : Value) (w : World) (S : Nat → Prop) (h : WVS S w v x) (hSB : ∀ b, S b → b < w.heap.size) (A : Option Addr) (cap : Nat) (zs : List Int) (hlen : zs.length ≤ 20000) (hC : (Kd.int .i64).C w A zs.length zs) (hwf : ∀ z ∈ zs, -9223372036854775808 ≤ z ∧ z ≤ 9223372036854775807) :
  Calls Tryz.prog 33 #[v, .slice A zs.length cap] w (GoOk S x (zs.map pickOf) w) := by
 obtain ⟨Ap, Ac, Am, At, cp, cc, cm, ct, rfl, hp⟩ := h
 exact go_at x g Ap Ac Am At cp cc cm ct w S hp hSB A cap zs hlen hC hwf
end Go.Proofs.YtoimfknjfeencaaGreatDoor.Hand
end
