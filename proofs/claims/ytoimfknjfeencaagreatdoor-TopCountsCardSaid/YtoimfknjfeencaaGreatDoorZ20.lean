/- Part of the walk of a law of the top, and what it leans on (Run2, Want1, Want2, Want3). No conditions beyond those that each lemma names. -/
import Derived.Test.YtoimfknjfeencaaGreatDoorZ07
import Derived.Test.YtoimfknjfeencaaGreatDoorZ09
import Derived.Test.YtoimfknjfeencaaGreatDoorZ19
import Derived.Deep.RegionWith
set_option linter.unusedVariables false
set_option linter.unusedSimpArgs false
set_option maxHeartbeats 8000000
set_option maxRecDepth 100000
section
namespace Go.Proofs.YtoimfknjfeencaaGreatDoor.Hand
open Go.RowKit Go.Proofs.YtoimfknjfeencaaGreatDoorW.PrintWords Go.Proofs.YtoimfknjfeencaaGreatDoorW.PrintLast Go.Proofs.YtoimfknjfeencaaGreatDoorW.PrintMore
theorem idle54 (p : Addr) (w : World) :
  CallsD Tryz.prog 54 #[.pointer (some p)] .returning w fun e u' w' => e = .returned (.tuple #[]) ∧ u' = .returning ∧ w' = w := by
 have hu20 : Tryz.prog.underlying 20 = some (.interface (Tryz.prog.methodsAt 20)) := by kernel_rfl
 refine callsD_of_wpS Tryz.func54 rfl fun c₀ cs hu => ?_
 apply wpS_seq
 apply wpS_region
 simp [wpOpsS, go_sem, recoverD, hu, Tryz.ntmps54, Exit.thenS]
 apply wpS_seq
 apply wpS_region
 simp [wpOpsS, go_sem, Exit.thenS]
 refine wpS_cond (t := false) (by simp [Act.eval, Array.replicate]) ?_
 simp only [Bool.false_eq_true, if_false]
 refine wpS_of_wp (wp_skip ?_)
 cases c₀
 simp_all [bodyPostS, results, Tryz.results54]
def RunOk (B : Nat) (k : Blk) (R : Sx → Prop) (w : World) (e : Ending) (w' : World) : Prop := e = .returned (.int .i64 0) ∧ Below B w w' ∧ ∃ s, R s ∧ St B k s w'
theorem setCell_zero {w : World} {g : Nat} (h : w.heap[g]? = some (.cells #[.int .i64 0] 27 (0, 0))) : w.setCell ⟨g, 0, none⟩ (.int .i64 0) = w := by
 have hm : (w.setCell ⟨g, 0, none⟩ (.int .i64 0)).heap = w.heap := by
  refine Array.ext_getElem? (fun i => ?_)
  by_cases q : i = g
  ·subst q
   rw [h]
   exact blk_put h 0 (.int .i64 0) rfl
  ·exact Below.heap_setCell w ⟨g, 0, none⟩ _ i q
 show ({ w with heap := (w.setCell ⟨g, 0, none⟩ (.int .i64 0)).heap } : World) = w
 rw [hm]
def noP (Q : Exit → Act → World → Prop) : Exit → Act → World → Prop
 | .panic _, _, _ => False
 | e, a, w => Q e a w
theorem wp_noP {P : Program} {Q : Exit → Act → World → Prop} {c : Code} {a : Act} {w : World} (h : c.wp P (noP Q) a w) : c.wp P Q a w :=
 wp_mono h (fun e a w hq => by cases e <;> first | exact hq | exact hq.elim)
theorem run_work {B : Nat} {k : Blk} {s : Sx} {w : World} (h : St B k s w) (n : Int) (hov : s.over = false) (hwk : 0 ≤ s.c.worked ∧ s.c.worked ≤ 1000000000) :
  Calls Tryz.prog 23 #[.pointer (some ⟨k.sp, 0, none⟩), .agg #[.int .i64 3, .int .i64 n]] w (RunOk B k (fun s' => s' = { s with c := { s.c with worked := s.c.worked + 1 }, over := decide (n ≤ s.c.worked + 1) }) w) := by
 have H0 := ak_ h
 have HW := ak_ (fun l W (h : St B { k with fr := l } s W) => work55 h n hov hwk)
 have hmf : ∀ (fn : Fn) (first cap : Array Value) (w : World), (Instr.makeFunc fn first cap).run Tryz.prog w = .ok (.func fn first cap) w := fun _ _ _ _ => rfl
 have hu49 := Tryz.underlying49
 clear h
 have hlo := H0.out.Blt
 have hbad := blk_new (w.alloc (.cells #[.int .i64 3, .int .i64 n] 49)) (.cells #[.int .i64 0] 27)
 rw [World.size_alloc] at hbad
 have HA := ak_ (((H0.out.alloc (.cells #[.int .i64 3, .int .i64 n] 49)).alloc (.cells #[.int .i64 0] 27)).aside ((w.heap.size + 1, .cells #[.int .i64 0] 27 (0, 0)) :: k.fr) (by
  intro q hq
  rcases List.mem_cons.1 hq with rfl | hq
  ·exact ⟨hbad, fun hk => by have := H0.out.lt_of _ hk; simp at this; omega⟩
  ·exact ((H0.out.alloc _).alloc _).fr q hq))
 have HB := ak_ (((Below.refl B w).alloc hlo (.cells #[.int .i64 3, .int .i64 n] 49)).alloc (by simp; omega) (.cells #[.int .i64 0] 27))
 clear hbad
 go_enter_defers Tryz.func23, Tryz.ntmps23
 go_wp2_with fail
 refine (HW.out _ _ HA.out).mono ?_
 rintro e w1 ⟨rfl, hb1, s1, hs1, h1⟩
 have HB1 := ak_ (HB.out.trans hb1)
 have HX := ak_ (h1.fr _ (List.mem_cons_self ..)).1
 have H1 := ak_ h1
 clear hb1 h1
 have x0 : w1.cell? ⟨w.heap.size + 1, 0, none⟩ = some (.int .i64 0) := blk_cell HX.out 0
 have f0 : w1.frozen? ⟨w.heap.size + 1, 0, none⟩ = false := blk_frozen HX.out 0
 have e0 : w1.setCell ⟨w.heap.size + 1, 0, none⟩ (.int .i64 0) = w1 := setCell_zero HX.out
 go_wp2
 refine leaves_cons (f := 54) (args := #[.pointer (some ⟨w.heap.size + 1, 0, none⟩)]) (by simp) (by simp [go_sem]) ?_
 refine (idle54 _ _).mono ?_
 rintro e u' w'' ⟨rfl, rfl, rfl⟩
 refine ⟨.int .i64 0, ?_, rfl, ?_⟩
 ·simp [results, Tryz.results23, go_sem, x0]
 ·exact ⟨HB1.out, s1, hs1, H1.out.aside k.fr (fun q hq => H1.out.fr q (List.mem_cons_of_mem _ hq))⟩
theorem run_starts {B : Nat} {k : Blk} {s : Sx} {w : World} {R : Sx → Prop} (h : St B k s w) (kd n : Int) (i f : Nat) (hl : look kd startsL 0 = some (i, f)) (h3 : kd ≠ 3) (hpc : s.c.pc = 0) (hcf : ∀ args w, (callFunc f args).run Tryz.prog w = .ok (.enter f args) w)
  (hf : ∀ l W, St B { k with fr := l } s W → Calls Tryz.prog f #[.pointer (some ⟨k.sp, 0, none⟩)] W (Dx B { k with fr := l } R W)) :
  Calls Tryz.prog 23 #[.pointer (some ⟨k.sp, 0, none⟩), .agg #[.int .i64 kd, .int .i64 n]] w (RunOk B k R w) := by
 have H0 := ak_ h
 have HF := ak_ hf
 have hmf : ∀ (fn : Fn) (first cap : Array Value) (w : World), (Instr.makeFunc fn first cap).run Tryz.prog w = .ok (.func fn first cap) w := fun _ _ _ _ => rfl
 have hu49 := Tryz.underlying49
 have hu81 := Tryz.underlying81
 have hu44 := Tryz.underlying44
 have hk3 : (kd == 3) = false := by simpa using h3
 have hlo := h.Blt
 have hbad := blk_new (w.alloc (.cells #[.int .i64 kd, .int .i64 n] 49)) (.cells #[.int .i64 0] 27)
 rw [World.size_alloc] at hbad
 have HA := ak_ (((h.alloc (.cells #[.int .i64 kd, .int .i64 n] 49)).alloc (.cells #[.int .i64 0] 27)).aside ((w.heap.size + 1, .cells #[.int .i64 0] 27 (0, 0)) :: (w.heap.size, .cells #[.int .i64 kd, .int .i64 n] 49 (0, 0)) :: k.fr) (by
  intro q hq
  rcases List.mem_cons.1 hq with rfl | hq
  ·exact ⟨hbad, fun hk => by have := h.lt_of _ hk; simp at this; omega⟩
  rcases List.mem_cons.1 hq with rfl | hq
  ·exact ⟨blk_alloc (blk_new w _) _, fun hk => by have := h.lt_of _ hk; simp at this⟩
  ·exact ((h.alloc _).alloc _).fr q hq))
 have HB := ak_ (((Below.refl B w).alloc hlo (.cells #[.int .i64 kd, .int .i64 n] 49)).alloc (by simp; omega) (.cells #[.int .i64 0] 27))
 have HK := ak_ (blk_alloc (blk_new w (.cells #[.int .i64 kd, .int .i64 n] 49)) (.cells #[.int .i64 0] 27))
 have s1_ : ((w.alloc (.cells #[.int .i64 kd, .int .i64 n] 49)).alloc (.cells #[.int .i64 0] 27)).cell? ⟨k.sp, 1, none⟩ = some (.pointer (some ⟨k.cp, 0, none⟩)) := HA.out.s1
 have c3_ : ((w.alloc (.cells #[.int .i64 kd, .int .i64 n] 49)).alloc (.cells #[.int .i64 0] 27)).cell? ⟨k.cp, 3, none⟩ = some (.int .i64 s.c.pc) := HA.out.c3
 rw [hpc] at c3_
 clear hbad h hf
 go_enter_defers Tryz.func23, Tryz.ntmps23
 go_wp2
 clear s1_ c3_ H0
 generalize (w.alloc (.cells #[.int .i64 kd, .int .i64 n] 49)).alloc (.cells #[.int .i64 0] 27) = W0 at *
 have k0 : W0.cell? ⟨w.heap.size, 0, none⟩ = some (.int .i64 kd) := blk_cell HK.out 0
 have hlk := run_look startsL 3 W0.heap.size kd i f (W0.alloc (.map (ent startsL) 3)).drew (blk_drew (blk_new _ _)) hl
 have HA2 := ak_ (HA.out.alloc (.map (ent startsL) 3)).drew
 have HB2 := ak_ (below_drew (HB.out.alloc HA.out.Blt (.map (ent startsL) 3)))
 apply wp_noP
 refine wp_region_held_drew (S := (fun W => W.cell? ⟨w.heap.size, 0, none⟩ = some (.int .i64 kd))) (by kernel_rfl) ?hS_1 (fun hHeld => ?rest_1)
 case hS_1 => ((try dsimp only); exact k0)
 refine tk1 (i := 1) (by (try simp only [g1_, g2_, g3_]); exact rfl) (by kernel_rfl) (by assumption) (by kernel_rfl) (by intro w hSw; (try dsimp only at hSw); go_simp; first | done | with_reducible rfl | rfl) (by exact fun _ _ _ h => h) ?_
 try simp only [Act.put, p1_, p2_, p3_]
 refine tk1 (i := 2) (by (try simp only [g1_, g2_, g3_]); exact rfl) (by kernel_rfl) (by assumption) (by kernel_rfl) (by intro w hSw; (try dsimp only at hSw); go_simp; first | done | with_reducible rfl | rfl) (by exact fun _ _ _ h => h) ?_
 try simp only [Act.put, p1_, p2_, p3_]
 refine tk1 (i := 4) (by (try simp only [g1_, g2_, g3_]); exact rfl) (by kernel_rfl) (by assumption) (by kernel_rfl) (by intro w hSw; (try dsimp only at hSw); go_simp; first | done | with_reducible rfl | rfl) (by exact fun _ _ _ h => h) ?_
 try simp only [Act.put, p1_, p2_, p3_]
 refine wpAnyH_ready (rs := [0]) (by kernel_rfl) (by simp) ?_
 refine AllReadyH.cons rfl (fun K hK => ?_) AllReadyH.nil
 go_simp
 refine (starts56 _).mono ?_
 rintro e w2 ⟨rfl, rfl⟩
 refine hK.out _ _ (blk_cell (blk_alloc (show W0.drew.heap[w.heap.size]? = _ from HK.out) _) 0) (fun hHeld => ?_)
 clear hK K
 try simp only [Act.put, List.setIfInBounds_toArray, List.set_cons_zero, List.set_cons_succ]
 refine wpAnyH_ready (rs := [3]) (by kernel_rfl) (by simp) ?_
 refine AllReadyH.cons rfl (fun K hK => ?_) AllReadyH.nil
 go_simp
 refine hK.out _ _ ?hS_5 (fun hHeld => ?rest_5)
 case hS_5 => ((try dsimp only); exact blk_cell (blk_alloc (show W0.drew.heap[w.heap.size]? = _ from HK.out) _) 0)
 clear hK K
 try simp only [Act.put, p1_, p2_, p3_]
 refine wpAnyH_ready (rs := [5]) (by kernel_rfl) (by simp) ?_
 refine AllReadyH.cons rfl (fun K hK => ?_) AllReadyH.nil
 go_simp
 refine (HF.out _ _ HA2.out).mono ?_
 rintro e w1 ⟨rfl, hb1, s1, hs1, h1⟩
 have HB1 := ak_ (HB2.out.trans hb1)
 have HX := ak_ (h1.fr _ (List.mem_cons_self ..)).1
 have HX2 := ak_ (h1.fr _ (List.mem_cons_of_mem _ (List.mem_cons_self ..))).1
 have H1 := ak_ h1
 refine hK.out _ _ (blk_cell HX2.out 0) (fun hHeld => ?_)
 clear hK K hb1 h1
 refine wpAnyH_done (by kernel_rfl) ?_ _
 have x0 : w1.cell? ⟨w.heap.size + 1, 0, none⟩ = some (.int .i64 0) := blk_cell HX.out 0
 have f0 : w1.frozen? ⟨w.heap.size + 1, 0, none⟩ = false := blk_frozen HX.out 0
 have e0 : w1.setCell ⟨w.heap.size + 1, 0, none⟩ (.int .i64 0) = w1 := setCell_zero HX.out
 unfold noP
 go_wp2
 refine leaves_cons (f := 54) (args := #[.pointer (some ⟨w.heap.size + 1, 0, none⟩)]) (by simp) (by simp [go_sem]) ?_
 refine (idle54 _ _).mono ?_
 rintro e u' w'' ⟨rfl, rfl, rfl⟩
 refine ⟨.int .i64 0, ?_, rfl, ?_⟩
 ·simp [results, Tryz.results23, go_sem, x0]
 ·exact ⟨HB1.out, s1, hs1, H1.out.aside k.fr (fun q hq => H1.out.fr q (List.mem_cons_of_mem _ (List.mem_cons_of_mem _ hq)))⟩
theorem run_steps {B : Nat} {k : Blk} {s : Sx} {w : World} {R : Sx → Prop} (h : St B k s w) (kd n : Int) (i f : Nat) (hl : look s.c.pc stepsL 0 = some (i, f)) (h3 : kd ≠ 3) (hpc : s.c.pc ≠ 0) (hcf : ∀ args w, (callFunc f args).run Tryz.prog w = .ok (.enter f args) w)
  (hf : ∀ l W, St B { k with fr := l } s W → Calls Tryz.prog f #[.pointer (some ⟨k.sp, 0, none⟩)] W (Dx B { k with fr := l } R W)) :
  Calls Tryz.prog 23 #[.pointer (some ⟨k.sp, 0, none⟩), .agg #[.int .i64 kd, .int .i64 n]] w (RunOk B k R w) := by
 have H0 := ak_ h
 have HF := ak_ hf
 have hmf : ∀ (fn : Fn) (first cap : Array Value) (w : World), (Instr.makeFunc fn first cap).run Tryz.prog w = .ok (.func fn first cap) w := fun _ _ _ _ => rfl
 have hu49 := Tryz.underlying49
 have hu81 := Tryz.underlying81
 have hu44 := Tryz.underlying44
 have hk3 : (kd == 3) = false := by simpa using h3
 have hlo := h.Blt
 have hbad := blk_new (w.alloc (.cells #[.int .i64 kd, .int .i64 n] 49)) (.cells #[.int .i64 0] 27)
 rw [World.size_alloc] at hbad
 have HA := ak_ (((h.alloc (.cells #[.int .i64 kd, .int .i64 n] 49)).alloc (.cells #[.int .i64 0] 27)).aside ((w.heap.size + 1, .cells #[.int .i64 0] 27 (0, 0)) :: (w.heap.size, .cells #[.int .i64 kd, .int .i64 n] 49 (0, 0)) :: k.fr) (by
  intro q hq
  rcases List.mem_cons.1 hq with rfl | hq
  ·exact ⟨hbad, fun hk => by have := h.lt_of _ hk; simp at this; omega⟩
  rcases List.mem_cons.1 hq with rfl | hq
  ·exact ⟨blk_alloc (blk_new w _) _, fun hk => by have := h.lt_of _ hk; simp at this⟩
  ·exact ((h.alloc _).alloc _).fr q hq))
 have HB := ak_ (((Below.refl B w).alloc hlo (.cells #[.int .i64 kd, .int .i64 n] 49)).alloc (by simp; omega) (.cells #[.int .i64 0] 27))
 have HK := ak_ (blk_alloc (blk_new w (.cells #[.int .i64 kd, .int .i64 n] 49)) (.cells #[.int .i64 0] 27))
 have s1_ : ((w.alloc (.cells #[.int .i64 kd, .int .i64 n] 49)).alloc (.cells #[.int .i64 0] 27)).cell? ⟨k.sp, 1, none⟩ = some (.pointer (some ⟨k.cp, 0, none⟩)) := HA.out.s1
 have c3_ : ((w.alloc (.cells #[.int .i64 kd, .int .i64 n] 49)).alloc (.cells #[.int .i64 0] 27)).cell? ⟨k.cp, 3, none⟩ = some (.int .i64 s.c.pc) := HA.out.c3
 have hp0 : (s.c.pc == 0) = false := by simpa using hpc
 clear hbad h hf
 go_enter_defers Tryz.func23, Tryz.ntmps23
 go_wp2
 clear H0
 generalize (w.alloc (.cells #[.int .i64 kd, .int .i64 n] 49)).alloc (.cells #[.int .i64 0] 27) = W0 at *
 have hlk := run_look stepsL 15 W0.heap.size s.c.pc i f (W0.alloc (.map (ent stepsL) 15)).drew (blk_drew (blk_new _ _)) hl
 have HA2 := ak_ (HA.out.alloc (.map (ent stepsL) 15)).drew
 have HB2 := ak_ (below_drew (HB.out.alloc HA.out.Blt (.map (ent stepsL) 15)))
 have d1_ : (W0.alloc (.map (ent stepsL) 15)).drew.cell? ⟨k.sp, 1, none⟩ = some (.pointer (some ⟨k.cp, 0, none⟩)) := HA2.out.s1
 have d3_ : (W0.alloc (.map (ent stepsL) 15)).drew.cell? ⟨k.cp, 3, none⟩ = some (.int .i64 s.c.pc) := HA2.out.c3
 have e3_ : W0.drew.cell? ⟨k.cp, 3, none⟩ = some (.int .i64 s.c.pc) := c3_
 apply wp_noP
 refine wp_region_held_drew (S := (fun W => W.cell? ⟨k.sp, 1, none⟩ = some (.pointer (some ⟨k.cp, 0, none⟩)))) (by kernel_rfl) ?hS_7 (fun hHeld => ?rest_7)
 case hS_7 => ((try dsimp only); exact s1_)
 refine tk1 (i := 1) (by (try simp only [g1_, g2_, g3_]); exact rfl) (by kernel_rfl) (by assumption) (by kernel_rfl) (by intro w hSw; (try dsimp only at hSw); go_simp; first | done | with_reducible rfl | rfl) (by exact fun _ _ _ h => h) ?_
 try simp only [Act.put, p1_, p2_, p3_]
 refine tk1 (i := 2) (by (try simp only [g1_, g2_, g3_]); exact rfl) (by kernel_rfl) (by assumption) (by kernel_rfl) (by intro w hSw; (try dsimp only at hSw); go_simp; first | done | with_reducible rfl | rfl) (by exact fun _ _ _ h => h) ?_
 try simp only [Act.put, p1_, p2_, p3_]
 refine tk1 (i := 3) (by (try simp only [g1_, g2_, g3_]); exact rfl) (by kernel_rfl) (by assumption) (by kernel_rfl) (by intro w hSw; (try dsimp only at hSw); go_simp; first | done | with_reducible rfl | rfl) (by exact fun _ _ _ h => h) ?_
 try simp only [Act.put, p1_, p2_, p3_]
 refine tk1 (i := 4) (by (try simp only [g1_, g2_, g3_]); exact rfl) (by kernel_rfl) (by assumption) (by kernel_rfl) (by intro w hSw; (try dsimp only at hSw); go_simp; first | done | with_reducible rfl | rfl) (by exact fun _ _ _ h => h) ?_
 try simp only [Act.put, p1_, p2_, p3_]
 refine tk1 (i := 5) (by (try simp only [g1_, g2_, g3_]); exact rfl) (by kernel_rfl) (by assumption) (by kernel_rfl) (by intro w hSw; (try dsimp only at hSw); go_simp; first | done | with_reducible rfl | rfl) (by exact fun _ _ _ h => h) ?_
 try simp only [Act.put, p1_, p2_, p3_]
 refine tk1 (i := 6) (by (try simp only [g1_, g2_, g3_]); exact rfl) (by kernel_rfl) (by assumption) (by kernel_rfl) (by intro w hSw; (try dsimp only at hSw); go_simp; first | done | with_reducible rfl | rfl) (by exact fun _ _ _ h => h) ?_
 try simp only [Act.put, p1_, p2_, p3_]
 refine tk1 (i := 9) (by (try simp only [g1_, g2_, g3_]); exact rfl) (by kernel_rfl) (by assumption) (by kernel_rfl) (by intro w hSw; (try dsimp only at hSw); go_simp; first | done | with_reducible rfl | rfl) (by exact fun _ _ _ h => h) ?_
 try simp only [Act.put, p1_, p2_, p3_]
 refine wpAnyH_ready (rs := [0, 7]) (by kernel_rfl) (by simp) ?_
 refine AllReadyH.cons rfl (fun K hK => ?c1) (AllReadyH.cons rfl (fun K hK => ?c2) AllReadyH.nil)
 case c1 =>
  go_simp
  refine (steps57 _).mono ?_
  rintro e w2 ⟨rfl, rfl⟩
  refine hK.out _ _ d1_ (fun hHeld => ?_)
  clear hK K
  try simp only [Act.put, List.setIfInBounds_toArray, List.set_cons_zero, List.set_cons_succ]
  refine wpAnyH_ready (rs := [7]) (by kernel_rfl) (by simp) ?_
  refine AllReadyH.cons rfl (fun K hK => ?_) AllReadyH.nil
  go_simp
  refine hK.out _ _ (by first | exact d1_ | exact s1_) (fun hHeld => ?_)
  clear hK K
  try simp only [Act.put, List.setIfInBounds_toArray, List.set_cons_zero, List.set_cons_succ]
  refine wpAnyH_ready (rs := [8]) (by kernel_rfl) (by simp) ?_
  refine AllReadyH.cons rfl (fun K hK => ?_) AllReadyH.nil
  go_simp
  refine hK.out _ _ ?hS_15 (fun hHeld => ?rest_15)
  case hS_15 => ((try dsimp only); exact d1_)
  clear hK K
  try simp only [Act.put, p1_, p2_, p3_]
  refine wpAnyH_ready (rs := [10]) (by kernel_rfl) (by simp) ?_
  refine AllReadyH.cons rfl (fun K hK => ?_) AllReadyH.nil
  go_simp
  refine (HF.out _ _ HA2.out).mono ?_
  rintro e w1 ⟨rfl, hb1, s1, hs1, h1⟩
  have HB1 := ak_ (HB2.out.trans hb1)
  have HX := ak_ (h1.fr _ (List.mem_cons_self ..)).1
  have HX2 := ak_ (h1.fr _ (List.mem_cons_of_mem _ (List.mem_cons_self ..))).1
  have H1 := ak_ h1
  refine hK.out _ _ h1.s1 (fun hHeld => ?_)
  clear hK K hb1 h1
  refine wpAnyH_done (by kernel_rfl) ?_ _
  have x0 : w1.cell? ⟨w.heap.size + 1, 0, none⟩ = some (.int .i64 0) := blk_cell HX.out 0
  have f0 : w1.frozen? ⟨w.heap.size + 1, 0, none⟩ = false := blk_frozen HX.out 0
  have e0 : w1.setCell ⟨w.heap.size + 1, 0, none⟩ (.int .i64 0) = w1 := setCell_zero HX.out
  unfold noP
  go_wp2
  refine leaves_cons (f := 54) (args := #[.pointer (some ⟨w.heap.size + 1, 0, none⟩)]) (by simp) (by simp [go_sem]) ?_
  refine (idle54 _ _).mono ?_
  rintro e u' w'' ⟨rfl, rfl, rfl⟩
  refine ⟨.int .i64 0, ?_, rfl, ?_⟩
  ·simp [results, Tryz.results23, go_sem, x0]
  ·exact ⟨HB1.out, s1, hs1, H1.out.aside k.fr (fun q hq => H1.out.fr q (List.mem_cons_of_mem _ (List.mem_cons_of_mem _ hq)))⟩
 case c2 =>
  go_simp
  refine hK.out _ _ (by first | exact d1_ | exact s1_) (fun hHeld => ?_)
  clear hK K
  try simp only [Act.put, List.setIfInBounds_toArray, List.set_cons_zero, List.set_cons_succ]
  refine wpAnyH_ready (rs := [0]) (by kernel_rfl) (by simp) ?_
  refine AllReadyH.cons rfl (fun K hK => ?_) AllReadyH.nil
  go_simp
  refine (steps57 _).mono ?_
  rintro e w2 ⟨rfl, rfl⟩
  refine hK.out _ _ d1_ (fun hHeld => ?_)
  clear hK K
  try simp only [Act.put, List.setIfInBounds_toArray, List.set_cons_zero, List.set_cons_succ]
  refine wpAnyH_ready (rs := [8]) (by kernel_rfl) (by simp) ?_
  refine AllReadyH.cons rfl (fun K hK => ?_) AllReadyH.nil
  go_simp
  refine hK.out _ _ ?hS_17 (fun hHeld => ?rest_17)
  case hS_17 => ((try dsimp only); exact d1_)
  clear hK K
  try simp only [Act.put, p1_, p2_, p3_]
  refine wpAnyH_ready (rs := [10]) (by kernel_rfl) (by simp) ?_
  refine AllReadyH.cons rfl (fun K hK => ?_) AllReadyH.nil
  go_simp
  refine (HF.out _ _ HA2.out).mono ?_
  rintro e w1 ⟨rfl, hb1, s1, hs1, h1⟩
  have HB1 := ak_ (HB2.out.trans hb1)
  have HX := ak_ (h1.fr _ (List.mem_cons_self ..)).1
  have HX2 := ak_ (h1.fr _ (List.mem_cons_of_mem _ (List.mem_cons_self ..))).1
  have H1 := ak_ h1
  refine hK.out _ _ h1.s1 (fun hHeld => ?_)
  clear hK K hb1 h1
  refine wpAnyH_done (by kernel_rfl) ?_ _
  have x0 : w1.cell? ⟨w.heap.size + 1, 0, none⟩ = some (.int .i64 0) := blk_cell HX.out 0
  have f0 : w1.frozen? ⟨w.heap.size + 1, 0, none⟩ = false := blk_frozen HX.out 0
  have e0 : w1.setCell ⟨w.heap.size + 1, 0, none⟩ (.int .i64 0) = w1 := setCell_zero HX.out
  unfold noP
  go_wp2
  refine leaves_cons (f := 54) (args := #[.pointer (some ⟨w.heap.size + 1, 0, none⟩)]) (by simp) (by simp [go_sem]) ?_
  refine (idle54 _ _).mono ?_
  rintro e u' w'' ⟨rfl, rfl, rfl⟩
  refine ⟨.int .i64 0, ?_, rfl, ?_⟩
  ·simp [results, Tryz.results23, go_sem, x0]
  ·exact ⟨HB1.out, s1, hs1, H1.out.aside k.fr (fun q hq => H1.out.fr q (List.mem_cons_of_mem _ (List.mem_cons_of_mem _ hq)))⟩
theorem St.clients {B : Nat} {k : Blk} {s : Sx} {w : World} (h : St B k s w) (hl : s.cl.length ≤ 1000) : kClient.C w (some ⟨k.cb, 0, none⟩) s.cl.length s.cl := by
  refine ⟨rfl, by have : s.cl.length ≤ 9223372036854775807 := by omega
                  exact this, fun _ => ⟨_, rfl, fun i z hz => ⟨encClient z, rfl, rfl, fun j u hu => ?_⟩⟩⟩
  rw [Addr.add_lit, Nat.zero_add]
  exact h.lcell hz j hu
theorem wants_eq (o : M.Own) : wantsW (M.lk o.old) (M.wk o.old) (M.sv o.old) o.starving o.awake (o.old / 8) = M.wants o := by
 unfold wantsW M.wants M.b2i num
 cases M.lk o.old <;> cases M.wk o.old <;> cases M.sv o.old <;> cases o.starving <;> cases o.awake <;> simp <;> omega
theorem runList_count (l : List M.Gor) : ∀ i, i ≤ l.length → (runList l i).length = (l.take i).countP (fun g => g.state == 0)
 | 0, _ => by simp [runList]
 | i + 1, h => by
  have ih := runList_count l i (by omega)
  have hlt : i < l.length := by omega
  rw [List.take_succ_eq_append_getElem hlt, List.countP_append, runList, List.length_append, ih]
  congr 1
  rw [List.getD_eq_getElem?_getD, List.getElem?_eq_getElem hlt, Option.getD_some, List.countP_singleton]
  by_cases q : l[i].state = 0 <;> simp [q]
def runsOf (cl : List M.Client) : Nat := cl.countP (fun c => c.gor.state == 0)
theorem runsOf_list (cl : List M.Client) : (runList (cl.map (·.gor)) (cl.map (·.gor)).length).length = runsOf cl := by
 rw [runList_count _ _ (Nat.le_refl _), List.take_length, List.countP_map]
 rfl
structure Wx (k : Blk) (s : Sx) (x : M.Mutex) : Prop where
 pv : ∃ A n c, s.pv = .slice A n c
 cv : ∃ c, s.cv = .slice (some ⟨k.cb, 0, none⟩) s.cl.length c
 mv : ∃ A n c, s.mv = .slice A n c
 l8 : s.cl.length ≤ 8
 ok : ∀ c ∈ s.cl, okGor c.gor
 ow : OkOwn s.c.own.since s.c.own.rounds s.c.own.old
 aw : s.c.own.awake = true → M.wk s.c.own.old = true
 mx : s.c.own.old / 8 < 268435455
 ww : isW (M.wants s.c.own) = true
 xw : isW x.word = true
 nw : okT s.now
theorem spins_eq (a b : Bool) (r : Int) (n : Nat) : (decide (r < 4) && decide (1 < (n : Int)) && a && !b) = (decide (r < 4) && decide (1 < n) && a && !b) := by
 have : decide (1 < (n : Int)) = decide (1 < n) := by by_cases q : 1 < n <;> simp [q] <;> omega
 rw [this]
theorem ownC {B : Nat} {k : Blk} {s : Sx} {w : World} (h : St B k s w) : w.cell? ⟨k.cp, 8, none⟩ = some (.int .i64 s.c.own.since) ∧ w.cell? ⟨k.cp, 9, none⟩ = some (.bool s.c.own.starving) ∧ w.cell? ⟨k.cp, 10, none⟩ = some (.bool s.c.own.awake) ∧ w.cell? ⟨k.cp, 11, none⟩ = some (.int .i64 s.c.own.rounds) ∧ w.cell? ⟨k.cp, 12, none⟩ = some (.int .i64 s.c.own.old) := ⟨h.c8, h.c9, h.c10, h.c11, h.c12⟩
theorem want_spins {B m : Nat} {k : Blk} {s : Sx} {w : World} {x : M.Mutex} {L : List M.Sem} {y : M.Sem} (h : St B k s w) (cx : Cx k s m x L y) (wx : Wx k s x) (hsp : M.spins s.c.own (runsOf s.cl) = true) :
  Calls Tryz.prog 86 #[.pointer (some ⟨k.sp, 0, none⟩)] w (Dx B k (Rx s m L (M.wantR (runsOf s.cl) s.now s.c x y)) w) := by
 have H0 := ak_ h
 have CX := ak_ cx
 obtain ⟨⟨A1, n1, k1, hpv⟩, ⟨cc, hcv⟩, ⟨A3, n3, k3, hmv⟩, h8, hok, how, haw, hmx, hww, hxw, hnw⟩ := wx
 obtain ⟨A4, k4, htv, _, _⟩ := h.tb w (Kept.refl _ _)
 have s0_ := h.s0
 have n0_ := h.n0
 have n1_ := h.n1
 have n2_ := h.n2
 have n3_ := h.n3
 have n4_ := h.n4
 have n5_ := h.n5
 rw [hpv] at n1_
 rw [hcv] at n2_
 rw [hmv] at n3_
 rw [htv] at n4_
 have hu81 := Tryz.underlying81
 have hu53 := Tryz.underlying53
 have hu44 := Tryz.underlying44
 have hu42 := Tryz.underlying42
 have hu29 := Tryz.underlying29
 have HG := ak_ (gors_yes s.now s.stop (.int .i64 0) (.int .i64 0) (.int .i64 0) A1 A3 A4 n1 n3 s.tab.length k1 k3 k4 (some ⟨k.cb, 0, none⟩) cc s.cl w (h.clients (by omega)) h8)
 have hcount := runsOf_list s.cl
 obtain ⟨gl, hgl⟩ : ∃ gl, gl = s.cl.map (·.gor) := ⟨_, rfl⟩
 have hgll : gl.length ≤ 8 := by rw [hgl, List.length_map]; exact h8
 rw [← hgl] at HG hcount
 have hokm : ∀ g ∈ gl, okGor g := fun g hg => by
  rw [hgl] at hg
  obtain ⟨c, hc, rfl⟩ := List.mem_map.1 hg
  exact hok c hc
 have HRUN := ak_ (fun A c W hC => runnable_yes A c gl W hC hgll hokm)
 have HSP := ak_ (fun W => spins_yes s.c.own.since s.c.own.starving s.c.own.awake s.c.own.rounds s.c.own.old (runsOf s.cl : Nat) W how (by omega))
 rw [bit_lk, bit_sv, spins_eq, show (decide (s.c.own.rounds < 4) && decide (1 < runsOf s.cl) && M.lk s.c.own.old && !M.sv s.c.own.old) = M.spins s.c.own (runsOf s.cl) from rfl, hsp] at HSP
 have HOW := ak_ how
 have HXW := ak_ hxw
 have HWW := ak_ hww
 have HNW := ak_ hnw
 have HWA := ak_ (fun W => wants_yes s.c.own.since s.c.own.starving s.c.own.awake s.c.own.rounds s.c.own.old W how (by rw [bit_wk]; exact haw) hmx)
 rw [bit_lk, bit_wk, bit_sv, wants_eq] at HWA
 have HGT := ak_ (fun W => got_yes s.c.own.since s.c.own.starving s.c.own.awake s.c.own.rounds s.c.own.old W how)
 rw [bit_lk, bit_sv] at HGT
 have HSL := ak_ (fun W => sleep_yes s.c.own.since s.c.own.starving s.c.own.awake s.c.own.rounds s.c.own.old s.now W how hnw)
 have HSM := ak_ (fun w (h : St B k s w) => same120 h m x CX.out.mp CX.out.mx)
 have HC0 := ak_ hcount
 clear hcount hgl
 have HR : Aside0 (M.wantR (runsOf s.cl) s.now s.c x y = M.roundR s.c x y) := ⟨by unfold M.wantR; rw [hsp]; rfl⟩
 clear hsp
 clear h cx hpv hcv hmv htv h8 hok how haw hmx hww hxw hnw hokm
 go_enter Tryz.func86, Tryz.ntmps86
 go_wp2_with fail
 refine HG.out.mono ?_
 rintro e w1 ⟨v1, rfl, hS, hb⟩
 obtain ⟨Ag, cg, rfl, _, hCg⟩ := hS
 have H1 := ak_ (H0.out.below hb)
 have B1 := ak_ (hb.mono H0.out.Blt)
 have HR1 := ak_ (HRUN.out Ag cg w1 hCg)
 clear hb hCg s0_ n0_ n1_ n2_ n3_ n4_ n5_
 go_wp2_with fail
 refine HR1.out.mono ?_
 rintro e w2 ⟨v2, rfl, hS, hb⟩
 obtain ⟨Ar, cr, rfl, _, _⟩ := hS
 rw [HC0.out]
 have H2 := ak_ (H1.out.below hb)
 have B2 := ak_ (B1.out.trans (hb.mono H1.out.Blt))
 clear hb
 have s1_ := H2.out.s1
 obtain ⟨c8_, c9_, c10_, c11_, c12_⟩ := ownC H2.out
 go_wp2_with (go_at_call 113; refine (must113 _).mono ?_; rintro e w3 ⟨rfl, rfl⟩)
 refine (HSP.out _).mono ?_
 rintro e w4 ⟨rfl, hb⟩
 have H3 := ak_ (H2.out.below hb)
 have B3 := ak_ (B2.out.trans (hb.mono H2.out.Blt))
 clear hb s1_ c8_ c9_ c10_ c11_ c12_
 go_wp2_with (first | (go_at_call 113; refine (must113 _).mono ?_; rintro e w3 ⟨rfl, rfl⟩) | (go_at_call 118; refine (round118 H3.out CX.out HOW.out HXW.out).mono ?_; rintro e w5 ⟨rfl, hb, s4, hs4, h4⟩; have H4 := ak_ h4; have B4 := ak_ (B3.out.trans hb); have R4 := ak_ hs4; clear h4 hb hs4))
 go_end0
 exact ⟨rfl, B4.out, s4, by rw [HR.out]; exact R4.out, H4.out⟩
theorem want_lost {B m : Nat} {k : Blk} {s : Sx} {w : World} {x : M.Mutex} {L : List M.Sem} {y : M.Sem} (h : St B k s w) (cx : Cx k s m x L y) (wx : Wx k s x) (hsp : M.spins s.c.own (runsOf s.cl) = false) (hne : x.word ≠ s.c.own.old) :
  Calls Tryz.prog 86 #[.pointer (some ⟨k.sp, 0, none⟩)] w (Dx B k (Rx s m L (M.wantR (runsOf s.cl) s.now s.c x y)) w) := by
 have H0 := ak_ h
 have CX := ak_ cx
 obtain ⟨⟨A1, n1, k1, hpv⟩, ⟨cc, hcv⟩, ⟨A3, n3, k3, hmv⟩, h8, hok, how, haw, hmx, hww, hxw, hnw⟩ := wx
 obtain ⟨A4, k4, htv, _, _⟩ := h.tb w (Kept.refl _ _)
 have s0_ := h.s0
 have n0_ := h.n0
 have n1_ := h.n1
 have n2_ := h.n2
 have n3_ := h.n3
 have n4_ := h.n4
 have n5_ := h.n5
 rw [hpv] at n1_
 rw [hcv] at n2_
 rw [hmv] at n3_
 rw [htv] at n4_
 have hu81 := Tryz.underlying81
 have hu53 := Tryz.underlying53
 have hu44 := Tryz.underlying44
 have hu42 := Tryz.underlying42
 have hu29 := Tryz.underlying29
 have HG := ak_ (gors_yes s.now s.stop (.int .i64 0) (.int .i64 0) (.int .i64 0) A1 A3 A4 n1 n3 s.tab.length k1 k3 k4 (some ⟨k.cb, 0, none⟩) cc s.cl w (h.clients (by omega)) h8)
 have hcount := runsOf_list s.cl
 obtain ⟨gl, hgl⟩ : ∃ gl, gl = s.cl.map (·.gor) := ⟨_, rfl⟩
 have hgll : gl.length ≤ 8 := by rw [hgl, List.length_map]; exact h8
 rw [← hgl] at HG hcount
 have hokm : ∀ g ∈ gl, okGor g := fun g hg => by
  rw [hgl] at hg
  obtain ⟨c, hc, rfl⟩ := List.mem_map.1 hg
  exact hok c hc
 have HRUN := ak_ (fun A c W hC => runnable_yes A c gl W hC hgll hokm)
 have HSP := ak_ (fun W => spins_yes s.c.own.since s.c.own.starving s.c.own.awake s.c.own.rounds s.c.own.old (runsOf s.cl : Nat) W how (by omega))
 rw [bit_lk, bit_sv, spins_eq, show (decide (s.c.own.rounds < 4) && decide (1 < runsOf s.cl) && M.lk s.c.own.old && !M.sv s.c.own.old) = M.spins s.c.own (runsOf s.cl) from rfl, hsp] at HSP
 have HOW := ak_ how
 have HXW := ak_ hxw
 have HWW := ak_ hww
 have HNW := ak_ hnw
 have HWA := ak_ (fun W => wants_yes s.c.own.since s.c.own.starving s.c.own.awake s.c.own.rounds s.c.own.old W how (by rw [bit_wk]; exact haw) hmx)
 rw [bit_lk, bit_wk, bit_sv, wants_eq] at HWA
 have HGT := ak_ (fun W => got_yes s.c.own.since s.c.own.starving s.c.own.awake s.c.own.rounds s.c.own.old W how)
 rw [bit_lk, bit_sv] at HGT
 have HSL := ak_ (fun W => sleep_yes s.c.own.since s.c.own.starving s.c.own.awake s.c.own.rounds s.c.own.old s.now W how hnw)
 have HSM := ak_ (fun w (h : St B k s w) => same120 h m x CX.out.mp CX.out.mx)
 have HC0 := ak_ hcount
 clear hcount hgl
 have hwr : ∀ r : M.Res, (if x.word ≠ s.c.own.old then ⟨{ s.c with pc := 1 }, x, y, false, none, none, 0⟩ else if (!M.lk s.c.own.old && !M.sv s.c.own.old) = true then ⟨s.c, { x with word := M.wants s.c.own }, y, true, some 0, none, 0⟩ else ⟨{ s.c with own := { s.c.own with since := if s.c.own.since = -1 then s.now else s.c.own.since }, first := decide (s.c.own.since ≠ -1), pc := 3 }, { x with word := M.wants s.c.own }, y, false, none, none, 0⟩ : M.Res) = r → M.wantR (runsOf s.cl) s.now s.c x y = r := fun r h => by rw [← h]; unfold M.wantR; rw [hsp]; rfl
 have HR := ak_ (hwr _ (if_pos hne))
 have hnb : (x.word == s.c.own.old) = false := by simp [hne]
 rw [hnb] at HSM
 clear hsp hwr hne hnb
 clear h cx hpv hcv hmv htv h8 hok how haw hmx hww hxw hnw hokm
 go_enter Tryz.func86, Tryz.ntmps86
 go_wp2_with fail
 refine HG.out.mono ?_
 rintro e w1 ⟨v1, rfl, hS, hb⟩
 obtain ⟨Ag, cg, rfl, _, hCg⟩ := hS
 have H1 := ak_ (H0.out.below hb)
 have B1 := ak_ (hb.mono H0.out.Blt)
 have HR1 := ak_ (HRUN.out Ag cg w1 hCg)
 clear hb hCg s0_ n0_ n1_ n2_ n3_ n4_ n5_
 go_wp2_with fail
 refine HR1.out.mono ?_
 rintro e w2 ⟨v2, rfl, hS, hb⟩
 obtain ⟨Ar, cr, rfl, _, _⟩ := hS
 rw [HC0.out]
 have H2 := ak_ (H1.out.below hb)
 have B2 := ak_ (B1.out.trans (hb.mono H1.out.Blt))
 clear hb
 have s1_ := H2.out.s1
 obtain ⟨c8_, c9_, c10_, c11_, c12_⟩ := ownC H2.out
 go_wp2_with (go_at_call 113; refine (must113 _).mono ?_; rintro e w3 ⟨rfl, rfl⟩)
 refine (HSP.out _).mono ?_
 rintro e w4 ⟨rfl, hb⟩
 have H3 := ak_ (H2.out.below hb)
 have B3 := ak_ (B2.out.trans (hb.mono H2.out.Blt))
 clear hb s1_ c8_ c9_ c10_ c11_ c12_
 have s1_ := H3.out.s1
 obtain ⟨c8_, c9_, c10_, c11_, c12_⟩ := ownC H3.out
 go_wp2_with (go_at_call 113; refine (must113 _).mono ?_; rintro e w3 ⟨rfl, rfl⟩)
 refine (HWA.out _).mono ?_
 rintro e w5 ⟨rfl, hb⟩
 have H4 := ak_ (H3.out.below hb)
 have B4 := ak_ (B3.out.trans (hb.mono H3.out.Blt))
 clear hb s1_ c8_ c9_ c10_ c11_ c12_
 go_wp2_with (go_at_call 113; refine (must113 _).mono ?_; rintro e w3 ⟨rfl, rfl⟩)
 refine (HSM.out _ H4.out).mono ?_
 rintro e w6 ⟨rfl, hb⟩
 have H5 := ak_ (H4.out.below hb)
 have B5 := ak_ (B4.out.trans (hb.mono H4.out.Blt))
 clear hb
 have s1_ := H5.out.s1
 have c3_ := H5.out.c3
 have fc3_ := H5.out.fc3
 go_wp2
 go_end0
 refine ⟨rfl, B5.out.setCell (p := ⟨k.cp, 3, none⟩) H0.out.lo_c _, _, ?_, H5.out.putc 3 (.int .i64 1) { s.c with pc := 1 } rfl⟩
 rw [HR.out]
 exact ⟨rfl, (set_self CX.out.mx).symm, CX.out.tabS, CX.out.ov, CX.out.evs, CX.out.st, rfl, rfl, rfl, rfl, rfl, rfl⟩
theorem want_got {B m : Nat} {k : Blk} {s : Sx} {w : World} {x : M.Mutex} {L : List M.Sem} {y : M.Sem} (h : St B k s w) (cx : Cx k s m x L y) (wx : Wx k s x) (hsp : M.spins s.c.own (runsOf s.cl) = false) (hne : x.word = s.c.own.old) (hg : (!M.lk s.c.own.old && !M.sv s.c.own.old) = true) :
  Calls Tryz.prog 86 #[.pointer (some ⟨k.sp, 0, none⟩)] w (Dx B k (Rx s m L (M.wantR (runsOf s.cl) s.now s.c x y)) w) := by
 have H0 := ak_ h
 have CX := ak_ cx
 obtain ⟨⟨A1, n1, k1, hpv⟩, ⟨cc, hcv⟩, ⟨A3, n3, k3, hmv⟩, h8, hok, how, haw, hmx, hww, hxw, hnw⟩ := wx
 obtain ⟨A4, k4, htv, _, _⟩ := h.tb w (Kept.refl _ _)
 have s0_ := h.s0
 have n0_ := h.n0
 have n1_ := h.n1
 have n2_ := h.n2
 have n3_ := h.n3
 have n4_ := h.n4
 have n5_ := h.n5
 rw [hpv] at n1_
 rw [hcv] at n2_
 rw [hmv] at n3_
 rw [htv] at n4_
 have hu81 := Tryz.underlying81
 have hu53 := Tryz.underlying53
 have hu44 := Tryz.underlying44
 have hu42 := Tryz.underlying42
 have hu29 := Tryz.underlying29
 have HG := ak_ (gors_yes s.now s.stop (.int .i64 0) (.int .i64 0) (.int .i64 0) A1 A3 A4 n1 n3 s.tab.length k1 k3 k4 (some ⟨k.cb, 0, none⟩) cc s.cl w (h.clients (by omega)) h8)
 have hcount := runsOf_list s.cl
 obtain ⟨gl, hgl⟩ : ∃ gl, gl = s.cl.map (·.gor) := ⟨_, rfl⟩
 have hgll : gl.length ≤ 8 := by rw [hgl, List.length_map]; exact h8
 rw [← hgl] at HG hcount
 have hokm : ∀ g ∈ gl, okGor g := fun g hg => by
  rw [hgl] at hg
  obtain ⟨c, hc, rfl⟩ := List.mem_map.1 hg
  exact hok c hc
 have HRUN := ak_ (fun A c W hC => runnable_yes A c gl W hC hgll hokm)
 have HSP := ak_ (fun W => spins_yes s.c.own.since s.c.own.starving s.c.own.awake s.c.own.rounds s.c.own.old (runsOf s.cl : Nat) W how (by omega))
 rw [bit_lk, bit_sv, spins_eq, show (decide (s.c.own.rounds < 4) && decide (1 < runsOf s.cl) && M.lk s.c.own.old && !M.sv s.c.own.old) = M.spins s.c.own (runsOf s.cl) from rfl, hsp] at HSP
 have HOW := ak_ how
 have HXW := ak_ hxw
 have HWW := ak_ hww
 have HNW := ak_ hnw
 have HWA := ak_ (fun W => wants_yes s.c.own.since s.c.own.starving s.c.own.awake s.c.own.rounds s.c.own.old W how (by rw [bit_wk]; exact haw) hmx)
 rw [bit_lk, bit_wk, bit_sv, wants_eq] at HWA
 have HGT := ak_ (fun W => got_yes s.c.own.since s.c.own.starving s.c.own.awake s.c.own.rounds s.c.own.old W how)
 rw [bit_lk, bit_sv] at HGT
 have HSL := ak_ (fun W => sleep_yes s.c.own.since s.c.own.starving s.c.own.awake s.c.own.rounds s.c.own.old s.now W how hnw)
 have HSM := ak_ (fun w (h : St B k s w) => same120 h m x CX.out.mp CX.out.mx)
 have HC0 := ak_ hcount
 clear hcount hgl
 have hwr : ∀ r : M.Res, (if x.word ≠ s.c.own.old then ⟨{ s.c with pc := 1 }, x, y, false, none, none, 0⟩ else if (!M.lk s.c.own.old && !M.sv s.c.own.old) = true then ⟨s.c, { x with word := M.wants s.c.own }, y, true, some 0, none, 0⟩ else ⟨{ s.c with own := { s.c.own with since := if s.c.own.since = -1 then s.now else s.c.own.since }, first := decide (s.c.own.since ≠ -1), pc := 3 }, { x with word := M.wants s.c.own }, y, false, none, none, 0⟩ : M.Res) = r → M.wantR (runsOf s.cl) s.now s.c x y = r := fun r h => by rw [← h]; unfold M.wantR; rw [hsp]; rfl
 have HR := ak_ (hwr _ ((if_neg (fun q => q hne)).trans (if_pos hg)))
 have hnb : (x.word == s.c.own.old) = true := by simp [hne]
 rw [hnb] at HSM
 rw [hg] at HGT
 clear hsp hwr hne hnb hg
 clear h cx hpv hcv hmv htv h8 hok how haw hmx hww hxw hnw hokm
 go_enter Tryz.func86, Tryz.ntmps86
 go_wp2_with fail
 refine HG.out.mono ?_
 rintro e w1 ⟨v1, rfl, hS, hb⟩
 obtain ⟨Ag, cg, rfl, _, hCg⟩ := hS
 have H1 := ak_ (H0.out.below hb)
 have B1 := ak_ (hb.mono H0.out.Blt)
 have HR1 := ak_ (HRUN.out Ag cg w1 hCg)
 clear hb hCg s0_ n0_ n1_ n2_ n3_ n4_ n5_
 go_wp2_with fail
 refine HR1.out.mono ?_
 rintro e w2 ⟨v2, rfl, hS, hb⟩
 obtain ⟨Ar, cr, rfl, _, _⟩ := hS
 rw [HC0.out]
 have H2 := ak_ (H1.out.below hb)
 have B2 := ak_ (B1.out.trans (hb.mono H1.out.Blt))
 clear hb
 have s1_ := H2.out.s1
 obtain ⟨c8_, c9_, c10_, c11_, c12_⟩ := ownC H2.out
 go_wp2_with (go_at_call 113; refine (must113 _).mono ?_; rintro e w3 ⟨rfl, rfl⟩)
 refine (HSP.out _).mono ?_
 rintro e w4 ⟨rfl, hb⟩
 have H3 := ak_ (H2.out.below hb)
 have B3 := ak_ (B2.out.trans (hb.mono H2.out.Blt))
 clear hb s1_ c8_ c9_ c10_ c11_ c12_
 have s1_ := H3.out.s1
 obtain ⟨c8_, c9_, c10_, c11_, c12_⟩ := ownC H3.out
 go_wp2_with (go_at_call 113; refine (must113 _).mono ?_; rintro e w3 ⟨rfl, rfl⟩)
 refine (HWA.out _).mono ?_
 rintro e w5 ⟨rfl, hb⟩
 have H4 := ak_ (H3.out.below hb)
 have B4 := ak_ (B3.out.trans (hb.mono H3.out.Blt))
 clear hb s1_ c8_ c9_ c10_ c11_ c12_
 go_wp2_with (go_at_call 113; refine (must113 _).mono ?_; rintro e w3 ⟨rfl, rfl⟩)
 refine (HSM.out _ H4.out).mono ?_
 rintro e w6 ⟨rfl, hb⟩
 have H5 := ak_ (H4.out.below hb)
 have B5 := ak_ (B4.out.trans (hb.mono H4.out.Blt))
 clear hb
 go_wp2_with fail
 refine (put111 H5.out m x CX.out.mp CX.out.mx (M.wants s.c.own) HWW.out).mono ?_
 rintro e w7 ⟨rfl, hb, s6, rfl, h6⟩
 have H6 := ak_ h6
 have B6 := ak_ (B5.out.trans hb)
 clear h6 hb
 have s1_ := H6.out.s1
 obtain ⟨c8_, c9_, c10_, c11_, c12_⟩ := ownC H6.out
 go_wp2_with fail
 refine (HGT.out _).mono ?_
 rintro e w8 ⟨rfl, hb⟩
 have H7 := ak_ (H6.out.below hb)
 have B7 := ak_ (B6.out.trans (hb.mono H6.out.Blt))
 clear hb s1_ c8_ c9_ c10_ c11_ c12_
 go_wp2_with (first | (go_at_call 113; refine (must113 _).mono ?_; rintro e w3 ⟨rfl, rfl⟩) | (go_at_call 112; refine (got112 H7.out CX.out.ev CX.out.evs).mono ?_; rintro e w9 ⟨rfl, hb, s8, ⟨v, rfl⟩, h8⟩; have H8 := ak_ h8; have B8 := ak_ (B7.out.trans hb); clear h8 hb))
 go_end0
 refine ⟨rfl, B8.out, _, ?_, H8.out⟩
 rw [HR.out]
 exact ⟨rfl, rfl, CX.out.tabS, rfl, rfl, CX.out.st, rfl, rfl, rfl, rfl, rfl, rfl⟩
theorem wantS_of {B : Nat} {k : Blk} {s : Sx} {w' : World} (h : St B k s w') : w'.cell? ⟨k.sp, 0, none⟩ = some (.pointer (some ⟨k.np, 0, none⟩)) ∧ w'.cell? ⟨k.sp, 1, none⟩ = some (.pointer (some ⟨k.cp, 0, none⟩)) ∧ w'.cell? ⟨k.np, 0, none⟩ = some (.int .i64 s.now) := ⟨h.s0, h.s1, h.n0⟩
theorem want_queue {B m : Nat} {k : Blk} {s : Sx} {w : World} {x : M.Mutex} {L : List M.Sem} {y : M.Sem} (h : St B k s w) (cx : Cx k s m x L y) (wx : Wx k s x) (hsp : M.spins s.c.own (runsOf s.cl) = false) (hne : x.word = s.c.own.old) (hg : (!M.lk s.c.own.old && !M.sv s.c.own.old) = false) :
  Calls Tryz.prog 86 #[.pointer (some ⟨k.sp, 0, none⟩)] w (Dx B k (Rx s m L (M.wantR (runsOf s.cl) s.now s.c x y)) w) := by
 have H0 := ak_ h
 have CX := ak_ cx
 obtain ⟨⟨A1, n1, k1, hpv⟩, ⟨cc, hcv⟩, ⟨A3, n3, k3, hmv⟩, h8, hok, how, haw, hmx, hww, hxw, hnw⟩ := wx
 obtain ⟨A4, k4, htv, _, _⟩ := h.tb w (Kept.refl _ _)
 have s0_ := h.s0
 have n0_ := h.n0
 have n1_ := h.n1
 have n2_ := h.n2
 have n3_ := h.n3
 have n4_ := h.n4
 have n5_ := h.n5
 rw [hpv] at n1_
 rw [hcv] at n2_
 rw [hmv] at n3_
 rw [htv] at n4_
 have hu81 := Tryz.underlying81
 have hu53 := Tryz.underlying53
 have hu44 := Tryz.underlying44
 have hu42 := Tryz.underlying42
 have hu29 := Tryz.underlying29
 have HG := ak_ (gors_yes s.now s.stop (.int .i64 0) (.int .i64 0) (.int .i64 0) A1 A3 A4 n1 n3 s.tab.length k1 k3 k4 (some ⟨k.cb, 0, none⟩) cc s.cl w (h.clients (by omega)) h8)
 have hcount := runsOf_list s.cl
 obtain ⟨gl, hgl⟩ : ∃ gl, gl = s.cl.map (·.gor) := ⟨_, rfl⟩
 have hgll : gl.length ≤ 8 := by rw [hgl, List.length_map]; exact h8
 rw [← hgl] at HG hcount
 have hokm : ∀ g ∈ gl, okGor g := fun g hg => by
  rw [hgl] at hg
  obtain ⟨c, hc, rfl⟩ := List.mem_map.1 hg
  exact hok c hc
 have HRUN := ak_ (fun A c W hC => runnable_yes A c gl W hC hgll hokm)
 have HSP := ak_ (fun W => spins_yes s.c.own.since s.c.own.starving s.c.own.awake s.c.own.rounds s.c.own.old (runsOf s.cl : Nat) W how (by omega))
 rw [bit_lk, bit_sv, spins_eq, show (decide (s.c.own.rounds < 4) && decide (1 < runsOf s.cl) && M.lk s.c.own.old && !M.sv s.c.own.old) = M.spins s.c.own (runsOf s.cl) from rfl, hsp] at HSP
 have HOW := ak_ how
 have HXW := ak_ hxw
 have HWW := ak_ hww
 have HNW := ak_ hnw
 have HWA := ak_ (fun W => wants_yes s.c.own.since s.c.own.starving s.c.own.awake s.c.own.rounds s.c.own.old W how (by rw [bit_wk]; exact haw) hmx)
 rw [bit_lk, bit_wk, bit_sv, wants_eq] at HWA
 have HGT := ak_ (fun W => got_yes s.c.own.since s.c.own.starving s.c.own.awake s.c.own.rounds s.c.own.old W how)
 rw [bit_lk, bit_sv] at HGT
 have HSL := ak_ (fun W => sleep_yes s.c.own.since s.c.own.starving s.c.own.awake s.c.own.rounds s.c.own.old s.now W how hnw)
 have HSM := ak_ (fun w (h : St B k s w) => same120 h m x CX.out.mp CX.out.mx)
 have HC0 := ak_ hcount
 clear hcount hgl
 have hwr : ∀ r : M.Res, (if x.word ≠ s.c.own.old then ⟨{ s.c with pc := 1 }, x, y, false, none, none, 0⟩ else if (!M.lk s.c.own.old && !M.sv s.c.own.old) = true then ⟨s.c, { x with word := M.wants s.c.own }, y, true, some 0, none, 0⟩ else ⟨{ s.c with own := { s.c.own with since := if s.c.own.since = -1 then s.now else s.c.own.since }, first := decide (s.c.own.since ≠ -1), pc := 3 }, { x with word := M.wants s.c.own }, y, false, none, none, 0⟩ : M.Res) = r → M.wantR (runsOf s.cl) s.now s.c x y = r := fun r h => by rw [← h]; unfold M.wantR; rw [hsp]; rfl
 have HR := ak_ (hwr _ ((if_neg (fun q => q hne)).trans (if_neg (by rw [hg]; simp))))
 have hnb : (x.word == s.c.own.old) = true := by simp [hne]
 rw [hnb] at HSM
 rw [hg] at HGT
 obtain ⟨qs, hqs⟩ : ∃ qs, qs = (if s.c.own.since != -1 then s.c.own.since else s.now) := ⟨_, rfl⟩
 obtain ⟨qb, hqb⟩ : ∃ qb, qb = (s.c.own.since != -1) := ⟨_, rfl⟩
 rw [← hqs, ← hqb] at HSL
 have HQ : Aside0 ((if s.c.own.since = -1 then s.now else s.c.own.since) = qs ∧ decide (s.c.own.since ≠ -1) = qb) := ⟨by rw [hqs, hqb]; by_cases q : s.c.own.since = -1 <;> simp [q]⟩
 rw [HQ.out.1, HQ.out.2] at HR
 clear hsp hwr hne hnb hg hqs hqb HQ
 clear h cx hpv hcv hmv htv h8 hok how haw hmx hww hxw hnw hokm
 go_enter Tryz.func86, Tryz.ntmps86
 go_wp2_with fail
 refine HG.out.mono ?_
 rintro e w1 ⟨v1, rfl, hS, hb⟩
 obtain ⟨Ag, cg, rfl, _, hCg⟩ := hS
 have H1 := ak_ (H0.out.below hb)
 have B1 := ak_ (hb.mono H0.out.Blt)
 have HR1 := ak_ (HRUN.out Ag cg w1 hCg)
 clear hb hCg s0_ n0_ n1_ n2_ n3_ n4_ n5_
 go_wp2_with fail
 refine HR1.out.mono ?_
 rintro e w2 ⟨v2, rfl, hS, hb⟩
 obtain ⟨Ar, cr, rfl, _, _⟩ := hS
 rw [HC0.out]
 have H2 := ak_ (H1.out.below hb)
 have B2 := ak_ (B1.out.trans (hb.mono H1.out.Blt))
 clear hb
 have s1_ := H2.out.s1
 obtain ⟨c8_, c9_, c10_, c11_, c12_⟩ := ownC H2.out
 go_wp2_with (go_at_call 113; refine (must113 _).mono ?_; rintro e w3 ⟨rfl, rfl⟩)
 refine (HSP.out _).mono ?_
 rintro e w4 ⟨rfl, hb⟩
 have H3 := ak_ (H2.out.below hb)
 have B3 := ak_ (B2.out.trans (hb.mono H2.out.Blt))
 clear hb s1_ c8_ c9_ c10_ c11_ c12_
 have s1_ := H3.out.s1
 obtain ⟨c8_, c9_, c10_, c11_, c12_⟩ := ownC H3.out
 go_wp2_with (go_at_call 113; refine (must113 _).mono ?_; rintro e w3 ⟨rfl, rfl⟩)
 refine (HWA.out _).mono ?_
 rintro e w5 ⟨rfl, hb⟩
 have H4 := ak_ (H3.out.below hb)
 have B4 := ak_ (B3.out.trans (hb.mono H3.out.Blt))
 clear hb s1_ c8_ c9_ c10_ c11_ c12_
 go_wp2_with (go_at_call 113; refine (must113 _).mono ?_; rintro e w3 ⟨rfl, rfl⟩)
 refine (HSM.out _ H4.out).mono ?_
 rintro e w6 ⟨rfl, hb⟩
 have H5 := ak_ (H4.out.below hb)
 have B5 := ak_ (B4.out.trans (hb.mono H4.out.Blt))
 clear hb
 go_wp2_with fail
 refine (put111 H5.out m x CX.out.mp CX.out.mx (M.wants s.c.own) HWW.out).mono ?_
 rintro e w7 ⟨rfl, hb, s6, rfl, h6⟩
 have H6 := ak_ h6
 have B6 := ak_ (B5.out.trans hb)
 clear h6 hb
 have s1_ := H6.out.s1
 obtain ⟨c8_, c9_, c10_, c11_, c12_⟩ := ownC H6.out
 go_wp2_with fail
 refine (HGT.out _).mono ?_
 rintro e w8 ⟨rfl, hb⟩
 have H7 := ak_ (H6.out.below hb)
 have B7 := ak_ (B6.out.trans (hb.mono H6.out.Blt))
 clear hb s1_ c8_ c9_ c10_ c11_ c12_
 have hrfl : ∀ w : World, Calls Tryz.prog 113 #[.int .i64 0] w fun e w' => e = .returned (.tuple #[]) ∧ w = w' := fun w => (must113 w).mono (fun e w' h => ⟨h.1, h.2.symm⟩)
 go_wp2_with (go_at_call 113; refine (hrfl _).mono ?_; rintro e w3 ⟨rfl, rfl⟩)
 obtain ⟨c8_, c9_, c10_, c11_, c12_⟩ := ownC H7.out
 clear HG HRUN HSP HWA HGT HSM HWW HXW HOW HC0 hgll
 refine wp_region_held_drew (S := (fun w' => w'.cell? ⟨k.sp, 0, none⟩ = some (.pointer (some ⟨k.np, 0, none⟩)) ∧ w'.cell? ⟨k.sp, 1, none⟩ = some (.pointer (some ⟨k.cp, 0, none⟩)) ∧ w'.cell? ⟨k.np, 0, none⟩ = some (.int .i64 s.now))) (by kernel_rfl) ?hS_1 (fun hHeld => ?rest_1)
 case hS_1 => ((try dsimp only); exact (by have := wantS_of H7.out.drew; exact this))
 refine tk1 (i := 0) (by (try simp only [g1_, g2_, g3_]); exact rfl) (by kernel_rfl) (by assumption) (by kernel_rfl) (by intro w hSw; (try dsimp only at hSw); go_simp; first | done | with_reducible rfl | rfl) (by exact fun _ _ _ h => h) ?_
 try simp only [Act.put, p1_, p2_, p3_]
 refine tk1 (i := 1) (by (try simp only [g1_, g2_, g3_]); exact rfl) (by kernel_rfl) (by assumption) (by kernel_rfl) (by intro w hSw; (try dsimp only at hSw); go_simp; first | done | with_reducible rfl | rfl) (by exact fun _ _ _ h => h) ?_
 try simp only [Act.put, p1_, p2_, p3_]
 refine tk1 (i := 2) (by (try simp only [g1_, g2_, g3_]); exact rfl) (by kernel_rfl) (by assumption) (by kernel_rfl) (by intro w hSw; (try dsimp only at hSw); go_simp; first | done | with_reducible rfl | rfl) (by exact fun _ _ _ h => h) ?_
 try simp only [Act.put, p1_, p2_, p3_]
 refine tk1 (i := 3) (by (try simp only [g1_, g2_, g3_]); exact rfl) (by kernel_rfl) (by assumption) (by kernel_rfl) (by intro w hSw; (try dsimp only at hSw); go_simp; first | done | with_reducible rfl | rfl) (by exact fun _ _ _ h => h) ?_
 try simp only [Act.put, p1_, p2_, p3_]
 refine tk1 (i := 4) (by (try simp only [g1_, g2_, g3_]); exact rfl) (by kernel_rfl) (by assumption) (by kernel_rfl) (by intro w hSw; (try dsimp only at hSw); go_simp; first | done | with_reducible rfl | rfl) (by exact fun _ _ _ h => h) ?_
 try simp only [Act.put, p1_, p2_, p3_]
 refine tk1 (i := 5) (by (try simp only [g1_, g2_, g3_]); exact rfl) (by kernel_rfl) (by assumption) (by kernel_rfl) (by intro w hSw; (try dsimp only at hSw); go_simp; first | done | with_reducible rfl | rfl) (by exact fun _ _ _ h => h) ?_
 try simp only [Act.put, p1_, p2_, p3_]
 refine tk1 (i := 6) (by (try simp only [g1_, g2_, g3_]); exact rfl) (by kernel_rfl) (by assumption) (by kernel_rfl) (by intro w hSw; (try dsimp only at hSw); go_simp; first | done | with_reducible rfl | rfl) (by exact fun _ _ _ h => h) ?_
 try simp only [Act.put, p1_, p2_, p3_]
 refine tk1 (i := 7) (by (try simp only [g1_, g2_, g3_]); exact rfl) (by kernel_rfl) (by assumption) (by kernel_rfl) (by intro w hSw; (try dsimp only at hSw); go_simp; first | done | with_reducible rfl | rfl) (by exact fun _ _ _ h => h) ?_
 try simp only [Act.put, p1_, p2_, p3_]
 refine tk1 (i := 8) (by (try simp only [g1_, g2_, g3_]); exact rfl) (by kernel_rfl) (by assumption) (by kernel_rfl) (by intro w hSw; (try dsimp only at hSw); go_simp; first | done | with_reducible rfl | rfl) (by exact fun _ _ _ h => h) ?_
 try simp only [Act.put, p1_, p2_, p3_]
 refine tk1 (i := 9) (by (try simp only [g1_, g2_, g3_]); exact rfl) (by kernel_rfl) (by assumption) (by kernel_rfl) (by intro w hSw; (try dsimp only at hSw); go_simp; first | done | with_reducible rfl | rfl) (by exact fun _ _ _ h => h) ?_
 try simp only [Act.put, p1_, p2_, p3_]
 refine tk1 (i := 10) (by (try simp only [g1_, g2_, g3_]); exact rfl) (by kernel_rfl) (by assumption) (by kernel_rfl) (by intro w hSw; (try dsimp only at hSw); go_simp; first | done | with_reducible rfl | rfl) (by exact fun _ _ _ h => h) ?_
 try simp only [Act.put, p1_, p2_, p3_]
 refine tk1 (i := 11) (by (try simp only [g1_, g2_, g3_]); exact rfl) (by kernel_rfl) (by assumption) (by kernel_rfl) (by intro w hSw; (try dsimp only at hSw); go_simp; first | done | with_reducible rfl | rfl) (by exact fun _ _ _ h => h) ?_
 try simp only [Act.put, p1_, p2_, p3_]
 refine tk1 (i := 12) (by (try simp only [g1_, g2_, g3_]); exact rfl) (by kernel_rfl) (by assumption) (by kernel_rfl) (by intro w hSw; (try dsimp only at hSw); go_simp; first | done | with_reducible rfl | rfl) (by exact fun _ _ _ h => h) ?_
 try simp only [Act.put, p1_, p2_, p3_]
 refine tk1 (i := 13) (by (try simp only [g1_, g2_, g3_]); exact rfl) (by kernel_rfl) (by assumption) (by kernel_rfl) (by intro w hSw; (try dsimp only at hSw); go_simp; first | done | with_reducible rfl | rfl) (by exact fun _ _ _ h => h) ?_
 try simp only [Act.put, p1_, p2_, p3_]
 refine tk1 (i := 15) (by (try simp only [g1_, g2_, g3_]); exact rfl) (by kernel_rfl) (by assumption) (by kernel_rfl) (by intro w hSw; (try dsimp only at hSw); go_simp; first | done | with_reducible rfl | rfl) (by exact fun _ _ _ h => h) ?_
 try simp only [Act.put, p1_, p2_, p3_]
 refine tk1 (i := 16) (by (try simp only [g1_, g2_, g3_]); exact rfl) (by kernel_rfl) (by assumption) (by kernel_rfl) (by intro w hSw; (try dsimp only at hSw); go_simp; first | done | with_reducible rfl | rfl) (by exact fun _ _ _ h => h) ?_
 try simp only [Act.put, p1_, p2_, p3_]
 refine tk1 (i := 17) (by (try simp only [g1_, g2_, g3_]); exact rfl) (by kernel_rfl) (by assumption) (by kernel_rfl) (by intro w hSw; (try dsimp only at hSw); go_simp; first | done | with_reducible rfl | rfl) (by exact fun _ _ _ h => h) ?_
 try simp only [Act.put, p1_, p2_, p3_]
 refine tk1 (i := 18) (by (try simp only [g1_, g2_, g3_]); exact rfl) (by kernel_rfl) (by assumption) (by kernel_rfl) (by intro w hSw; (try dsimp only at hSw); go_simp; first | done | with_reducible rfl | rfl) (by exact fun _ _ _ h => h) ?_
 try simp only [Act.put, p1_, p2_, p3_]
 refine tk1 (i := 19) (by (try simp only [g1_, g2_, g3_]); exact rfl) (by kernel_rfl) (by assumption) (by kernel_rfl) (by intro w hSw; (try dsimp only at hSw); go_simp; first | done | with_reducible rfl | rfl) (by exact fun _ _ _ h => h) ?_
 try simp only [Act.put, p1_, p2_, p3_]
 refine tk1 (i := 20) (by (try simp only [g1_, g2_, g3_]); exact rfl) (by kernel_rfl) (by assumption) (by kernel_rfl) (by intro w hSw; (try dsimp only at hSw); go_simp; first | done | with_reducible rfl | rfl) (by exact fun _ _ _ h => h) ?_
 try simp only [Act.put, p1_, p2_, p3_]
 refine tk1 (i := 21) (by (try simp only [g1_, g2_, g3_]); exact rfl) (by kernel_rfl) (by assumption) (by kernel_rfl) (by intro w hSw; (try dsimp only at hSw); go_simp; first | done | with_reducible rfl | rfl) (by exact fun _ _ _ h => h) ?_
 try simp only [Act.put, p1_, p2_, p3_]
 refine wpAnyH_ready (rs := [14]) (by kernel_rfl) (by simp) ?_
 refine AllReadyH.cons rfl (fun K hK => ?_) AllReadyH.nil
 go_simp
 refine hK.out _ _ (by have := wantS_of H7.out.drew; exact this) (fun hHeld => ?_)
 clear hK K
 try simp only [Act.put, List.setIfInBounds_toArray, List.set_cons_zero, List.set_cons_succ]
 refine wpAnyH_ready (rs := [22]) (by kernel_rfl) (by simp) ?_
 refine AllReadyH.cons rfl (fun K hK => ?_) AllReadyH.nil
 go_simp
 refine (HSL.out _).mono ?_
 rintro e w9 ⟨rfl, hb⟩
 have H8 := ak_ (H7.out.drew.below hb)
 have B8 := ak_ ((below_drew B7.out).trans (hb.mono H7.out.drew.Blt))
 refine hK.out _ _ (by have := wantS_of H8.out; exact this) (fun hHeld => ?_)
 clear hK K hb
 try simp only [Act.put, List.setIfInBounds_toArray, List.set_cons_zero, List.set_cons_succ]
 refine tk1 (i := 23) (by (try simp only [g1_, g2_, g3_]); exact rfl) (by kernel_rfl) (by assumption) (by kernel_rfl) (by intro w hSw; (try dsimp only at hSw); go_simp; first | done | with_reducible rfl | rfl) (by exact fun _ _ _ h => h) ?_
 try simp only [Act.put, p1_, p2_, p3_]
 refine tk1 (i := 24) (by (try simp only [g1_, g2_, g3_]); exact rfl) (by kernel_rfl) (by assumption) (by kernel_rfl) (by intro w hSw; (try dsimp only at hSw); go_simp; first | done | with_reducible rfl | rfl) (by exact fun _ _ _ h => h) ?_
 try simp only [Act.put, p1_, p2_, p3_]
 refine tk1 (i := 25) (by (try simp only [g1_, g2_, g3_]); exact rfl) (by kernel_rfl) (by assumption) (by kernel_rfl) (by intro w hSw; (try dsimp only at hSw); go_simp; first | done | with_reducible rfl | rfl) (by exact fun _ _ _ h => h) ?_
 try simp only [Act.put, p1_, p2_, p3_]
 refine tk1 (i := 26) (by (try simp only [g1_, g2_, g3_]); exact rfl) (by kernel_rfl) (by assumption) (by kernel_rfl) (by intro w hSw; (try dsimp only at hSw); go_simp; first | done | with_reducible rfl | rfl) (by exact fun _ _ _ h => h) ?_
 try simp only [Act.put, p1_, p2_, p3_]
 refine tk1 (i := 27) (by (try simp only [g1_, g2_, g3_]); exact rfl) (by kernel_rfl) (by assumption) (by kernel_rfl) (by intro w hSw; (try dsimp only at hSw); go_simp; first | done | with_reducible rfl | rfl) (by exact fun _ _ _ h => h) ?_
 try simp only [Act.put, p1_, p2_, p3_]
 refine tk1 (i := 28) (by (try simp only [g1_, g2_, g3_]); exact rfl) (by kernel_rfl) (by assumption) (by kernel_rfl) (by intro w hSw; (try dsimp only at hSw); go_simp; first | done | with_reducible rfl | rfl) (by exact fun _ _ _ h => h) ?_
 try simp only [Act.put, p1_, p2_, p3_]
 clear c8_ c9_ c10_ c11_ c12_
 obtain ⟨c8_, c9_, c10_, c11_, c12_⟩ := ownC H8.out
 have fc8_ := H8.out.fc8
 have fc9_ := H8.out.fc9
 have fc10_ := H8.out.fc10
 have fc11_ := H8.out.fc11
 have fc12_ := H8.out.fc12
 have c6_ := H8.out.c6
 have fc6_ := H8.out.fc6
 have H9 := ak_ (H8.out.putOwn qs s.c.own.starving s.c.own.awake s.c.own.rounds s.c.own.old)
 refine wpAnyH_ready (rs := [29]) (by kernel_rfl) (by simp) ?_
 refine AllReadyH.cons rfl (fun K hK => ?_) AllReadyH.nil
 go_simp
 refine hK.out _ _ ?hS_29 (fun hHeld => ?rest_29)
 case hS_29 => ((try dsimp only); exact (by have := wantS_of H9.out; exact this))
 clear hK K
 try simp only [Act.put, p1_, p2_, p3_]
 refine tk1 (i := 30) (by (try simp only [g1_, g2_, g3_]); exact rfl) (by kernel_rfl) (by assumption) (by kernel_rfl) (by intro w hSw; (try dsimp only at hSw); go_simp; first | done | with_reducible rfl | rfl) (by exact fun _ _ _ h => h) ?_
 try simp only [Act.put, p1_, p2_, p3_]
 refine tk1 (i := 31) (by (try simp only [g1_, g2_, g3_]); exact rfl) (by kernel_rfl) (by assumption) (by kernel_rfl) (by intro w hSw; (try dsimp only at hSw); go_simp; first | done | with_reducible rfl | rfl) (by exact fun _ _ _ h => h) ?_
 try simp only [Act.put, p1_, p2_, p3_]
 have H10 := ak_ (H9.out.putc 6 (.bool qb) { s.c with own := { s.c.own with since := qs }, first := qb } rfl)
 refine wpAnyH_ready (rs := [32]) (by kernel_rfl) (by simp) ?_
 refine AllReadyH.cons rfl (fun K hK => ?_) AllReadyH.nil
 go_simp
 refine hK.out _ _ ?hS_32 (fun hHeld => ?rest_32)
 case hS_32 => ((try dsimp only); exact (by have := wantS_of H10.out; exact this))
 clear hK K
 try simp only [Act.put, p1_, p2_, p3_]
 refine tk1 (i := 33) (by (try simp only [g1_, g2_, g3_]); exact rfl) (by kernel_rfl) (by assumption) (by kernel_rfl) (by intro w hSw; (try dsimp only at hSw); go_simp; first | done | with_reducible rfl | rfl) (by exact fun _ _ _ h => h) ?_
 try simp only [Act.put, p1_, p2_, p3_]
 refine wpAnyH_done (by kernel_rfl) ?_ _
 have B10 := ak_ ((below_own B8.out H0.out.lo_c (.int .i64 qs) (.bool s.c.own.starving) (.bool s.c.own.awake) (.int .i64 s.c.own.rounds) (.int .i64 s.c.own.old)).setCell (p := ⟨k.cp, 6, none⟩) H0.out.lo_c (.bool qb))
 clear c8_ c9_ c10_ c11_ c12_ fc8_ fc9_ fc10_ fc11_ fc12_ c6_ fc6_ hHeld
 obtain ⟨W, hW⟩ : ∃ W, W = (((((w9.setCell ⟨k.cp, 8, none⟩ (.int .i64 qs)).setCell ⟨k.cp, 9, none⟩ (.bool s.c.own.starving)).setCell ⟨k.cp, 10, none⟩ (.bool s.c.own.awake)).setCell ⟨k.cp, 11, none⟩ (.int .i64 s.c.own.rounds)).setCell ⟨k.cp, 12, none⟩ (.int .i64 s.c.own.old)).setCell ⟨k.cp, 6, none⟩ (.bool qb) := ⟨_, rfl⟩
 rw [← hW] at H10 B10 ⊢
 clear hW
 have s1_ := H10.out.s1
 have c3_ := H10.out.c3
 have fc3_ := H10.out.fc3
 go_wp2_with (go_at_call 113; refine (hrfl _).mono ?_; rintro e w3 ⟨rfl, rfl⟩)
 go_end0
 refine ⟨rfl, B10.out.setCell (p := ⟨k.cp, 3, none⟩) H0.out.lo_c _, _, ?_, H10.out.putc 3 (.int .i64 3) { s.c with own := { s.c.own with since := qs }, first := qb, pc := 3 } rfl⟩
 rw [HR.out]
 exact ⟨rfl, rfl, CX.out.tabS, CX.out.ov, CX.out.evs, CX.out.st, rfl, rfl, rfl, rfl, rfl, rfl⟩
theorem want86 {B m : Nat} {k : Blk} {s : Sx} {w : World} {x : M.Mutex} {L : List M.Sem} {y : M.Sem} (h : St B k s w) (cx : Cx k s m x L y) (wx : Wx k s x) :
  Calls Tryz.prog 86 #[.pointer (some ⟨k.sp, 0, none⟩)] w (Dx B k (Rx s m L (M.wantR (runsOf s.cl) s.now s.c x y)) w) := by
 cases hsp : M.spins s.c.own (runsOf s.cl) with
 | true => exact want_spins h cx wx hsp
 | false =>
  by_cases hne : x.word = s.c.own.old
  ·cases hg : (!M.lk s.c.own.old && !M.sv s.c.own.old) with
   | true => exact want_got h cx wx hsp hne hg
   | false => exact want_queue h cx wx hsp hne hg
  ·exact want_lost h cx wx hsp hne
end Go.Proofs.YtoimfknjfeencaaGreatDoor.Hand
end
