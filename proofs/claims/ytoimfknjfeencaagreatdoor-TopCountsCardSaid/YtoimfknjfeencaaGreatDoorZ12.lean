/- Part of the walk of a law of the top, and what it leans on (Tree1, Tree2, Tree3, Tree4, Tree5). No conditions beyond those that each lemma names. -/
import Derived.Test.YtoimfknjfeencaaGreatDoorZ07
import Derived.Laws.EntriesVeiled
set_option linter.unusedVariables false
set_option linter.unusedSimpArgs false
set_option maxHeartbeats 8000000
set_option maxRecDepth 100000
section
namespace Go.Proofs.YtoimfknjfeencaaGreatDoor.Hand
open Go.RowKit Go.Proofs.YtoimfknjfeencaaGreatDoorW.PrintWords Go.Proofs.YtoimfknjfeencaaGreatDoorW.PrintLast Go.Proofs.YtoimfknjfeencaaGreatDoorW.PrintMore
theorem isKey_yes (k : Int) (w : World) (h0 : 0 ≤ k) (h1 : k ≤ 4294967295) : Calls Tryz.prog 222 #[.int .i64 k] w fun e w' => e = .returned (.bool true) ∧ w' = w := by
 go_enter Tryz.func222, Tryz.ntmps222
 go_wp2
 go_ret
 exact ⟨rfl, rfl⟩
theorem treeNew (w : World) : Calls Tryz.prog 209 #[] w fun e w' => e = .returned (.agg #[.int .i64 (-1), .slice none 0 0]) ∧ Below w.heap.size w w' := by
 have hu := Tryz.underlying239
 go_enter Tryz.func209, Tryz.ntmps209
 go_wp2
 exact bodyPost_ret (results_cell_row rfl _ _ w.heap.size 239 #[.int .i64 (-1), .slice none 0 0] (0, 0) _ rfl (blk_new _ _) Tryz.underlying239 rfl (by kernel_rfl)) rfl ⟨rfl, (Below.refl _ _).alloc (Nat.le_refl _) _⟩
theorem walk_none (f : Value) (w : World) : Calls Tryz.prog 231 #[.agg #[.int .i64 (-1), .slice none 0 0], f] w fun e w' => e = .returned (.bool true) ∧ Below w.heap.size w w' := by
 have hu := Tryz.underlying239
 go_enter Tryz.func231, Tryz.ntmps231
 go_wp2
 refine wp_loop_rounds 1 ?_
 rw [rounds_succ]
 go_wp2
 go_ret
 exact ⟨rfl, (Below.refl _ _).alloc (Nat.le_refl _) _⟩
theorem see232 (key last : Int) (l r : Int) (h0 : 0 ≤ key) (h1 : key ≤ 4294967295) (hl : last < key) (p q B : Nat) (w : World) (hB : B ≤ p) (hB2 : B ≤ q) (hB3 : B ≤ w.heap.size) (hp : w.heap[p]? = some (.cells #[.bool true] 4 (0, 0))) (hq : w.heap[q]? = some (.cells #[.int .i64 last] 3 (0, 0))) :
  Calls Tryz.prog 232 #[.agg #[.int .i64 key, .int .i64 l, .int .i64 r], .pointer (some ⟨p, 0, none⟩), .pointer (some ⟨q, 0, none⟩)] w fun e w' => e = .returned (.tuple #[]) ∧ w'.heap[p]? = some (.cells #[.bool true] 4 (0, 0)) ∧ w'.heap[q]? = some (.cells #[.int .i64 key] 3 (0, 0)) ∧ Below B w w' ∧ Kept w w' (fun i => i = p ∨ i = q) := by
 have hu := Tryz.underlying291
 have hpq : p ≠ q := blk_ne hp hq (by decide)
 have P1 := ak_ (blk_alloc hp (.cells #[.int .i64 key, .int .i64 l, .int .i64 r] 291))
 have Q1 := ak_ (blk_alloc hq (.cells #[.int .i64 key, .int .i64 l, .int .i64 r] 291))
 have N1 := ak_ (blk_new w (.cells #[.int .i64 key, .int .i64 l, .int .i64 r] 291))
 have HB := ak_ ((Below.refl B w).alloc hB3 (.cells #[.int .i64 key, .int .i64 l, .int .i64 r] 291))
 have hwp : w.heap.size ≠ p := by have := blk_lt hp; omega
 go_enter Tryz.func232, Tryz.ntmps232
 clear hp hq
 have a0 : (w.alloc (.cells #[.int .i64 key, .int .i64 l, .int .i64 r] 291)).cell? ⟨p, 0, none⟩ = some (.bool true) := blk_cell P1.out 0
 have a1 : (w.alloc (.cells #[.int .i64 key, .int .i64 l, .int .i64 r] 291)).cell? ⟨q, 0, none⟩ = some (.int .i64 last) := blk_cell Q1.out 0
 have a2 : (w.alloc (.cells #[.int .i64 key, .int .i64 l, .int .i64 r] 291)).cell? ⟨w.heap.size, 0, none⟩ = some (.int .i64 key) := blk_cell N1.out 0
 have f0 : (w.alloc (.cells #[.int .i64 key, .int .i64 l, .int .i64 r] 291)).frozen? ⟨p, 0, none⟩ = false := blk_frozen P1.out 0
 have f1 : (w.alloc (.cells #[.int .i64 key, .int .i64 l, .int .i64 r] 291)).frozen? ⟨q, 0, none⟩ = false := blk_frozen Q1.out 0
 go_wp2_with fail
 refine (isKey_yes key _ h0 h1).mono ?_
 rintro e w1 ⟨rfl, rfl⟩
 go_wp2
 go_end0
 exact ⟨rfl, blk_far (blk_put P1.out 0 _ rfl) (p := ⟨q, 0, none⟩) hpq _, blk_put (blk_far Q1.out (p := ⟨p, 0, none⟩) hpq.symm _) 0 _ rfl, (HB.out.setCell (p := ⟨p, 0, none⟩) hB _).setCell (p := ⟨q, 0, none⟩) hB2 _, (((Kept.refl w _).alloc _).setCell (p := ⟨p, 0, none⟩) (.inl (.inl rfl)) _).setCell (p := ⟨q, 0, none⟩) (.inl (.inr rfl)) _⟩
theorem R_own1 {α : Type} {d : Kd α} {e base : Nat} {w : World} {ok : Nat → Prop} {v : Value} {xs : List α} (h : d.R e w base ok v xs) (n : Nat) (hl : xs.length = n) (hn : 0 < n) : ∃ g cap, v = .slice (some ⟨g, 0, none⟩) n cap ∧ n ≤ cap ∧ base ≤ g ∧ g < w.heap.size ∧ d.C w (some ⟨g, 0, none⟩) n xs := by
 subst hl
 obtain ⟨A, c, e1, hl, hC⟩ := Kd.R_reads h
 obtain ⟨_, inner, ho, hr⟩ := h
 rcases ho.2 with ⟨rfl, hz⟩ | ⟨g, cap, cur, rfl, hg, hh, hnc, hcm, hcs, htake⟩
 ·omega
 ·cases e1
  exact ⟨g, c, rfl, hl, hg, blk_lt hh, hC⟩
theorem int_at {w : World} {g n : Nat} {xs : List Int} (h : (Kd.int .i64).C w (some ⟨g, 0, none⟩) n xs) (i : Nat) (x : Int) (hs : xs[i]? = some x) : w.cell? ⟨g, i, none⟩ = some (.int .i64 x) := by
 have hi := (List.getElem?_eq_some_iff.1 hs).1
 obtain ⟨hl, hm, hc⟩ := h
 obtain ⟨ad, e, hc⟩ := hc (by omega)
 obtain ⟨c, hsz, hK, hcell⟩ := hc i x hs
 have hK' : c = [.int .i64 x] := hK
 subst hK'
 cases e
 have hc2 : ∀ j u, ([.int .i64 x] : List Value)[j]? = some u → w.cell? ((⟨g, 0, none⟩ : Addr).add (i * 1 + j)) = some u := hcell
 have := hc2 0 _ rfl
 simpa [add_plain] using this
theorem walk_one (g c p q B : Nat) (key : Int) (h0 : 0 ≤ key) (h1 : key ≤ 4294967295) (w : World) (hB : B ≤ p) (hB2 : B ≤ q) (hB3 : B ≤ w.heap.size)
  (hp : w.heap[p]? = some (.cells #[.bool true] 4 (0, 0))) (hq : w.heap[q]? = some (.cells #[.int .i64 (-1)] 3 (0, 0))) (c0 : w.cell? ⟨g, 0, none⟩ = some (.int .i64 key)) (c1 : w.cell? ⟨g, 1, none⟩ = some (.int .i64 (-1))) (c2 : w.cell? ⟨g, 2, none⟩ = some (.int .i64 (-1))) :
  Calls Tryz.prog 231 #[.agg #[.int .i64 0, .slice (some ⟨g, 0, none⟩) 1 c], .func (.func 232) #[] #[.pointer (some ⟨p, 0, none⟩), .pointer (some ⟨q, 0, none⟩)]] w fun e w' => e = .returned (.bool true) ∧ w'.heap[p]? = some (.cells #[.bool true] 4 (0, 0)) ∧ Below B w w' ∧ Kept w w' (fun i => i = p ∨ i = q) := by
 have hu := Tryz.underlying239
 have hu2 := Tryz.underlying291
 have hu3 := Tryz.underlying237
 have HB0 := ak_ ((Below.refl w.heap.size w).alloc (Nat.le_refl _) (.cells #[.int .i64 0, .slice (some ⟨g, 0, none⟩) 1 c] 239))
 have P0 := ak_ hp
 have Q0 := ak_ hq
 have hg := World.block_lt_of_cell? w _ c0
 have z0 := (HB0.out.cell (p := ⟨g, 0, none⟩) hg).trans c0
 have z1 := (HB0.out.cell (p := ⟨g, 1, none⟩) hg).trans c1
 have z2 := (HB0.out.cell (p := ⟨g, 2, none⟩) hg).trans c2
 clear hp hq c0 c1 c2
 have t0 : (w.alloc (.cells #[.int .i64 0, .slice (some ⟨g, 0, none⟩) 1 c] 239)).cell? ⟨w.heap.size, 0, none⟩ = some (.int .i64 0) := blk_cell (blk_new w _) 0
 have t1 : (w.alloc (.cells #[.int .i64 0, .slice (some ⟨g, 0, none⟩) 1 c] 239)).cell? ⟨w.heap.size, 1, none⟩ = some (.slice (some ⟨g, 0, none⟩) 1 c) := blk_cell (blk_new w _) 1
 have T0 := ak_ (blk_new w (.cells #[.int .i64 0, .slice (some ⟨g, 0, none⟩) 1 c] 239))
 go_enter Tryz.func231, Tryz.ntmps231
 go_wp2
 refine wp_loop_rounds 2 ?_
 rw [rounds_succ]
 go_wp2
 refine wp_loop_rounds 2 ?_
 rw [rounds_succ]
 go_wp2_with (first | (at_builtin; refine Kd.R_append (Kd.int .i64) (w0 := w) w.heap.size rfl (.tmp 36) (.tmp 38) 23 3 (.int .i64 0) 8 rfl Tryz.underlying23 info3T rfl (by decide) (by omega) (.slice none 0 0) ([] : List Int) 0 [.int .i64 0] (fun _ => True) (fun _ => False) rfl ?aX ?aP (fun _ hk => hk.elim) ?aF ?aO ?aB ?aS ?aL ?_; (case aX => simp [Act.eval]); (case aP => exact rfl); (case aB => exact HB0.out); (case aF => exact (fun _ _ => trivial)); (case aO => exact Kd.R_nil _ _ _ _ _); (case aS => exact HB0.out.size); (case aL => simp); intro v5 w10 ho hb hgr hat; obtain ⟨g1, k1, rfl, hk1, hg1, hg2, hC1⟩ := R_own1 ho 1 rfl (by omega); have HB5 := ak_ hb; have T1 := ak_ (blk_grown T0.out hgr (by simp [Value.ownBlock])); have r0 : w10.cell? ⟨g1, 0, none⟩ = some (.int .i64 0) := int_at hC1 0 0 rfl; have x0 := (hb.cell (p := ⟨g, 0, none⟩) hg).trans ((HB0.out.cell (p := ⟨g, 0, none⟩) hg).symm.trans z0); have x1 := (hb.cell (p := ⟨g, 1, none⟩) hg).trans ((HB0.out.cell (p := ⟨g, 1, none⟩) hg).symm.trans z1); have x2 := (hb.cell (p := ⟨g, 2, none⟩) hg).trans ((HB0.out.cell (p := ⟨g, 2, none⟩) hg).symm.trans z2); have y0 : w10.cell? ⟨w.heap.size, 0, none⟩ = some (.int .i64 0) := blk_cell T1.out 0; have y1 : w10.cell? ⟨w.heap.size, 1, none⟩ = some (.slice (some ⟨g, 0, none⟩) 1 c) := blk_cell T1.out 1; clear ho hb hgr hat hC1 z0 z1 z2 t0 t1))
 rw [rounds_succ]
 go_wp2
 have hw0 : IntKind.i64.wrap (0 : Int) = 0 := by decide
 have hw1 : IntKind.i64.wrap ((1 : Int) - 1) = 0 := by decide
 go_region_held3 (fun w' => w'.cell? ⟨w.heap.size, 1, none⟩ = some (.slice (some ⟨g, 0, none⟩) 1 c) ∧ w'.cell? ⟨g1, 0, none⟩ = some (.int .i64 0) ∧ w'.cell? ⟨g, 0, none⟩ = some (.int .i64 key) ∧ w'.cell? ⟨g, 1, none⟩ = some (.int .i64 (-1)) ∧ w'.cell? ⟨g, 2, none⟩ = some (.int .i64 (-1))) (go_keep) (fail)
 all_goals
  go_wp2_with fail
  have P1 := ak_ (blk_drew (blk_alloc (blk_below P0.out HB5.out) (.cells #[.int .i64 key, .int .i64 (-1), .int .i64 (-1)] 291)))
  have Q1 := ak_ (blk_drew (blk_alloc (blk_below Q0.out HB5.out) (.cells #[.int .i64 key, .int .i64 (-1), .int .i64 (-1)] 291)))
  have N1 := ak_ (blk_drew (blk_new w10 (.cells #[.int .i64 key, .int .i64 (-1), .int .i64 (-1)] 291)))
  have T2 := ak_ (blk_drew (blk_alloc T1.out (.cells #[.int .i64 key, .int .i64 (-1), .int .i64 (-1)] 291)))
  have HB6 := ak_ (below_drew (HB5.out.alloc HB5.out.size (.cells #[.int .i64 key, .int .i64 (-1), .int .i64 (-1)] 291)))
  have hpw := blk_lt P0.out
  have hqw := blk_lt Q0.out
  have hsz := HB5.out.size
  refine (see232 key (-1) (-1) (-1) h0 h1 (by omega) p q B _ hB hB2 (by simp; omega) P1.out Q1.out).mono ?_
  rintro e w11 ⟨rfl, hP, hQ, hb11, hk11⟩
  have P2 := ak_ hP
  have N2 := ak_ (blk_kept N1.out hk11 (by simp; omega))
  have T3 := ak_ (blk_kept T2.out hk11 (by simp; omega))
  have HB7 := ak_ ((HB6.out.mono hB3).trans hb11)
  have HK7 := ak_ ((((Kept.of_below HB5.out (fun i => i = p ∨ i = q)).alloc (.cells #[.int .i64 key, .int .i64 (-1), .int .i64 (-1)] 291)).drew).then_ hk11 (fun _ q => .inl q))
  clear hP hQ hb11 hk11 r0 x0 x1 x2 y0 y1
  have n2 : w11.cell? ⟨w10.heap.size, 2, none⟩ = some (.int .i64 (-1)) := blk_cell N2.out 2
  have y1 : w11.cell? ⟨w.heap.size, 1, none⟩ = some (.slice (some ⟨g, 0, none⟩) 1 c) := blk_cell T3.out 1
  go_wp2
  rw [rounds_succ]
  go_wp2
  go_ret
  exact ⟨rfl, P2.out, HB7.out, HK7.out⟩
theorem heavy233 (key l r : Int) (p : Value) (w : World) : Calls Tryz.prog 233 #[.agg #[.int .i64 key, .int .i64 l, .int .i64 r], .int .i64 (-1), p] w fun e w' => e = .returned (.bool false) ∧ Below w.heap.size w w' := by
 have hu := Tryz.underlying291
 go_enter Tryz.func233, Tryz.ntmps233
 go_wp2
 refine wp_region_held_drew (S := (fun _ => True)) (by kernel_rfl) ?hS_1 (fun hHeld => ?rest_1)
 case hS_1 => ((try dsimp only); skip)
 refine tk1 (i := 0) (by (try simp only [g1_, g2_, g3_]); exact rfl) (by kernel_rfl) (by assumption) (by kernel_rfl) (by intro w hSw; (try dsimp only at hSw); go_simp; first | done | with_reducible rfl | rfl) (by exact fun _ _ _ h => h) ?_
 try simp only [Act.put, p1_, p2_, p3_]
 refine tk1 (i := 1) (by (try simp only [g1_, g2_, g3_]); exact rfl) (by kernel_rfl) (by assumption) (by kernel_rfl) (by intro w hSw; (try dsimp only at hSw); go_simp; first | done | with_reducible rfl | rfl) (by exact fun _ _ _ h => h) ?_
 try simp only [Act.put, p1_, p2_, p3_]
 refine tk1 (i := 2) (by (try simp only [g1_, g2_, g3_]); exact rfl) (by kernel_rfl) (by assumption) (by kernel_rfl) (by intro w hSw; (try dsimp only at hSw); go_simp; first | done | with_reducible rfl | rfl) (by exact fun _ _ _ h => h) ?_
 try simp only [Act.put, p1_, p2_, p3_]
 refine sk1 (i := 3) (by (try simp only [g1_, g2_, g3_]); exact rfl) (by kernel_rfl) (by assumption) (by kernel_rfl) (by exact fun _ _ _ h => h) ?_
 try simp only [Act.put, p1_, p2_, p3_]
 refine sk1 (i := 4) (by (try simp only [g1_, g2_, g3_]); exact rfl) (by kernel_rfl) (by assumption) (by kernel_rfl) (by exact fun _ _ _ h => h) ?_
 try simp only [Act.put, p1_, p2_, p3_]
 refine sk1 (i := 5) (by (try simp only [g1_, g2_, g3_]); exact rfl) (by kernel_rfl) (by assumption) (by kernel_rfl) (by exact fun _ _ _ h => h) ?_
 try simp only [Act.put, p1_, p2_, p3_]
 refine sk1 (i := 6) (by (try simp only [g1_, g2_, g3_]); exact rfl) (by kernel_rfl) (by assumption) (by kernel_rfl) (by exact fun _ _ _ h => h) ?_
 try simp only [Act.put, p1_, p2_, p3_]
 refine sk1 (i := 7) (by (try simp only [g1_, g2_, g3_]); exact rfl) (by kernel_rfl) (by assumption) (by kernel_rfl) (by exact fun _ _ _ h => h) ?_
 try simp only [Act.put, p1_, p2_, p3_]
 refine sk1 (i := 8) (by (try simp only [g1_, g2_, g3_]); exact rfl) (by kernel_rfl) (by assumption) (by kernel_rfl) (by exact fun _ _ _ h => h) ?_
 try simp only [Act.put, p1_, p2_, p3_]
 refine sk1 (i := 9) (by (try simp only [g1_, g2_, g3_]); exact rfl) (by kernel_rfl) (by assumption) (by kernel_rfl) (by exact fun _ _ _ h => h) ?_
 try simp only [Act.put, p1_, p2_, p3_]
 refine sk1 (i := 10) (by (try simp only [g1_, g2_, g3_]); exact rfl) (by kernel_rfl) (by assumption) (by kernel_rfl) (by exact fun _ _ _ h => h) ?_
 try simp only [Act.put, p1_, p2_, p3_]
 refine sk1 (i := 11) (by (try simp only [g1_, g2_, g3_]); exact rfl) (by kernel_rfl) (by assumption) (by kernel_rfl) (by exact fun _ _ _ h => h) ?_
 try simp only [Act.put, p1_, p2_, p3_]
 refine sk1 (i := 12) (by (try simp only [g1_, g2_, g3_]); exact rfl) (by kernel_rfl) (by assumption) (by kernel_rfl) (by exact fun _ _ _ h => h) ?_
 try simp only [Act.put, p1_, p2_, p3_]
 refine sk1 (i := 13) (by (try simp only [g1_, g2_, g3_]); exact rfl) (by kernel_rfl) (by assumption) (by kernel_rfl) (by exact fun _ _ _ h => h) ?_
 try simp only [Act.put, p1_, p2_, p3_]
 refine tk1 (i := 14) (by (try simp only [g1_, g2_, g3_]); exact rfl) (by kernel_rfl) (by assumption) (by kernel_rfl) (by intro w hSw; (try dsimp only at hSw); go_simp; first | done | with_reducible rfl | rfl) (by exact fun _ _ _ h => h) ?_
 try simp only [Act.put, p1_, p2_, p3_]
 refine tk1 (i := 15) (by (try simp only [g1_, g2_, g3_]); exact rfl) (by kernel_rfl) (by assumption) (by kernel_rfl) (by intro w hSw; (try dsimp only at hSw); go_simp; first | done | with_reducible rfl | rfl) (by exact fun _ _ _ h => h) ?_
 try simp only [Act.put, p1_, p2_, p3_]
 refine wpAnyH_done (by kernel_rfl) ?_ _
 go_wp2
 go_ret
 exact ⟨rfl, by repeat (first | exact (Below.refl _ _).alloc (Nat.le_refl _) _ | apply pw_below_drewN | apply below_drew1)⟩
theorem odd235 (key : Int) (p : Nat) (q : Value) (w : World) (hp : w.cell? ⟨p, 0, none⟩ = some (.func (.func 233) #[] #[q])) : Calls Tryz.prog 235 #[.agg #[.int .i64 key, .int .i64 (-1), .int .i64 (-1)], .pointer (some ⟨p, 0, none⟩)] w fun e w' => e = .returned (.bool false) ∧ Below w.heap.size w w' := by
 have hu := Tryz.underlying291
 have hlt := World.block_lt_of_cell? w _ hp
 have HB := ak_ (bel2 (Below.refl w.heap.size w) (.cells #[.int .i64 key, .int .i64 (-1), .int .i64 (-1)] 291))
 have N1 := ak_ (blk_new w (.cells #[.int .i64 key, .int .i64 (-1), .int .i64 (-1)] 291))
 have P1 : (w.alloc (.cells #[.int .i64 key, .int .i64 (-1), .int .i64 (-1)] 291)).cell? ⟨p, 0, none⟩ = some (.func (.func 233) #[] #[q]) := (HB.out.cell (p := ⟨p, 0, none⟩) hlt).trans hp
 go_enter Tryz.func235, Tryz.ntmps235
 clear hp
 go_wp2_with fail
 refine (heavy233 key (-1) (-1) q _).mono ?_
 rintro e w1 ⟨rfl, hb⟩
 have N2 := ak_ (blk_below N1.out hb)
 have HB2 := ak_ (bel3 HB.out hb)
 have P2 := (hb.cell (p := ⟨p, 0, none⟩) (by simp; omega)).trans P1
 clear hb P1
 have x0 : w1.cell? ⟨w.heap.size, 0, none⟩ = some (.int .i64 key) := blk_cell N2.out 0
 have x1 : w1.cell? ⟨w.heap.size, 1, none⟩ = some (.int .i64 (-1)) := blk_cell N2.out 1
 have x2 : w1.cell? ⟨w.heap.size, 2, none⟩ = some (.int .i64 (-1)) := blk_cell N2.out 2
 go_wp2_with fail
 refine (heavy233 key (-1) (-1) q _).mono ?_
 rintro e w2 ⟨rfl, hb⟩
 go_wp2
 go_ret
 exact ⟨rfl, bel3 HB2.out hb⟩
theorem nodes_none (A : Option Addr) (c : Nat) (f : Value) (w : World) : Calls Tryz.prog 234 #[.slice A 0 c, f] w fun e w' => e = .returned (.bool false) ∧ w' = w := by
 have hx : Calls Tryz.prog 238 #[.slice A 0 c, f] w fun e w' => e = .returned (.int .i64 (-1)) ∧ w' = w := by
  go_enter Tryz.func238, Tryz.ntmps238
  go_wp2
  refine wp_loop_rounds 1 ?_
  rw [rounds_succ]
  go_wp2
  go_ret
  exact ⟨rfl, rfl⟩
 go_enter Tryz.func234, Tryz.ntmps234
 go_wp2_with fail
 refine hx.mono ?_
 rintro e w1 ⟨rfl, rfl⟩
 go_wp2
 go_ret
 exact ⟨rfl, rfl⟩
theorem nodes_one (g c p : Nat) (key : Int) (q : Value) (w : World) (hp : w.cell? ⟨p, 0, none⟩ = some (.func (.func 233) #[] #[q])) (c0 : w.cell? ⟨g, 0, none⟩ = some (.int .i64 key)) (c1 : w.cell? ⟨g, 1, none⟩ = some (.int .i64 (-1))) (c2 : w.cell? ⟨g, 2, none⟩ = some (.int .i64 (-1))) :
  Calls Tryz.prog 234 #[.slice (some ⟨g, 0, none⟩) 1 c, .func (.func 235) #[] #[.pointer (some ⟨p, 0, none⟩)]] w fun e w' => e = .returned (.bool false) ∧ Below w.heap.size w w' := by
 have hx : Calls Tryz.prog 238 #[.slice (some ⟨g, 0, none⟩) 1 c, .func (.func 235) #[] #[.pointer (some ⟨p, 0, none⟩)]] w fun e w' => e = .returned (.int .i64 (-1)) ∧ Below w.heap.size w w' := by
  have hu := Tryz.underlying291
  have HO := ak_ (odd235 key p q w hp)
  clear hp
  go_enter Tryz.func238, Tryz.ntmps238
  go_wp2
  refine wp_loop_rounds 2 ?_
  rw [rounds_succ]
  go_wp2_with (go_at_call 235; refine HO.out.mono ?_; rintro e w1 ⟨rfl, hb⟩; have HB := ak_ hb; clear hb)
  rw [rounds_succ]
  go_wp2
  go_ret
  exact ⟨rfl, HB.out⟩
 have HX := ak_ hx
 clear hx hp c0 c1 c2
 go_enter Tryz.func234, Tryz.ntmps234
 go_wp2_with fail
 refine HX.out.mono ?_
 rintro e w1 ⟨rfl, hb⟩
 go_wp2
 go_ret
 exact ⟨rfl, hb⟩
theorem treeRight_none (w : World) : Calls Tryz.prog 221 #[.agg #[.int .i64 (-1), .slice none 0 0]] w fun e w' => e = .returned (.bool true) ∧ Below w.heap.size w w' := by
 have hu := Tryz.underlying239
 have hmf : ∀ (fn : Fn) (first cap : Array Value) (w : World), (Instr.makeFunc fn first cap).run Tryz.prog w = .ok (.func fn first cap) w := fun _ _ _ _ => rfl
 have T0 := ak_ (blk_alloc (blk_alloc (blk_new w (.cells #[.int .i64 (-1), .slice none 0 0] 239)) (.cells #[.int .i64 (-1)] 3)) (.cells #[.bool true] 4))
 have L0 : Aside0 ((((w.alloc (.cells #[.int .i64 (-1), .slice none 0 0] 239)).alloc (.cells #[.int .i64 (-1)] 3)).alloc (.cells #[.bool true] 4)).heap[w.heap.size + 1]? = some (.cells #[.int .i64 (-1)] 3 (0, 0))) := ⟨by have := blk_alloc (blk_new (w.alloc (.cells #[.int .i64 (-1), .slice none 0 0] 239)) (.cells #[.int .i64 (-1)] 3)) (.cells #[.bool true] 4); simpa using this⟩
 have R0 : Aside0 ((((w.alloc (.cells #[.int .i64 (-1), .slice none 0 0] 239)).alloc (.cells #[.int .i64 (-1)] 3)).alloc (.cells #[.bool true] 4)).heap[w.heap.size + 1 + 1]? = some (.cells #[.bool true] 4 (0, 0))) := ⟨by have := blk_new ((w.alloc (.cells #[.int .i64 (-1), .slice none 0 0] 239)).alloc (.cells #[.int .i64 (-1)] 3)) (.cells #[.bool true] 4); simpa using this⟩
 have B0 := ak_ ((((Below.refl w.heap.size w).alloc (Nat.le_refl _) (.cells #[.int .i64 (-1), .slice none 0 0] 239)).alloc (by simp) (.cells #[.int .i64 (-1)] 3)).alloc (by simp; omega) (.cells #[.bool true] 4))
 go_enter Tryz.func221, Tryz.ntmps221
 go_wp2_with fail
 refine (walk_none _ _).mono ?_
 rintro e w1 ⟨rfl, hb⟩
 have R1 := ak_ (blk_below R0.out hb)
 have B1 := ak_ (bel3 B0.out hb)
 have T1 := ak_ (blk_below T0.out hb)
 clear hb
 have r0 : w1.cell? ⟨w.heap.size + 1 + 1, 0, none⟩ = some (.bool true) := blk_cell R1.out 0
 have t1 : w1.cell? ⟨w.heap.size, 1, none⟩ = some (.slice none 0 0) := blk_cell T1.out 1
 have HS := ak_ (below_alloc (Below.refl _ w1) (.cells #[.func (.func 233) #[] #[.pointer (some ⟨w.heap.size, 0, none⟩)]] 297))
 have t2 : (w1.alloc (.cells #[.func (.func 233) #[] #[.pointer (some ⟨w.heap.size, 0, none⟩)]] 297)).cell? ⟨w.heap.size, 1, none⟩ = some (.slice none 0 0) := blk_cell (blk_below T1.out HS.out) 1
 go_wp2_with fail
 refine (nodes_none _ _ _ _).mono ?_
 rintro e w2 ⟨rfl, rfl⟩
 go_wp2
 go_ret
 exact ⟨rfl, bel3 B1.out HS.out⟩
theorem treeRight_one (w : World) (g c : Nat) (key : Int) (h0 : 0 ≤ key) (h1 : key ≤ 4294967295) (c0 : w.cell? ⟨g, 0, none⟩ = some (.int .i64 key)) (c1 : w.cell? ⟨g, 1, none⟩ = some (.int .i64 (-1))) (c2 : w.cell? ⟨g, 2, none⟩ = some (.int .i64 (-1))) : Calls Tryz.prog 221 #[.agg #[.int .i64 0, .slice (some ⟨g, 0, none⟩) 1 c]] w fun e w' => e = .returned (.bool true) ∧ Below w.heap.size w w' := by
 have hu := Tryz.underlying239
 have hmf : ∀ (fn : Fn) (first cap : Array Value) (w : World), (Instr.makeFunc fn first cap).run Tryz.prog w = .ok (.func fn first cap) w := fun _ _ _ _ => rfl
 have T0 := ak_ (blk_alloc (blk_alloc (blk_new w (.cells #[.int .i64 0, .slice (some ⟨g, 0, none⟩) 1 c] 239)) (.cells #[.int .i64 (-1)] 3)) (.cells #[.bool true] 4))
 have L0 : Aside0 ((((w.alloc (.cells #[.int .i64 0, .slice (some ⟨g, 0, none⟩) 1 c] 239)).alloc (.cells #[.int .i64 (-1)] 3)).alloc (.cells #[.bool true] 4)).heap[w.heap.size + 1]? = some (.cells #[.int .i64 (-1)] 3 (0, 0))) := ⟨by have := blk_alloc (blk_new (w.alloc (.cells #[.int .i64 0, .slice (some ⟨g, 0, none⟩) 1 c] 239)) (.cells #[.int .i64 (-1)] 3)) (.cells #[.bool true] 4); simpa using this⟩
 have R0 : Aside0 ((((w.alloc (.cells #[.int .i64 0, .slice (some ⟨g, 0, none⟩) 1 c] 239)).alloc (.cells #[.int .i64 (-1)] 3)).alloc (.cells #[.bool true] 4)).heap[w.heap.size + 1 + 1]? = some (.cells #[.bool true] 4 (0, 0))) := ⟨by have := blk_new ((w.alloc (.cells #[.int .i64 0, .slice (some ⟨g, 0, none⟩) 1 c] 239)).alloc (.cells #[.int .i64 (-1)] 3)) (.cells #[.bool true] 4); simpa using this⟩
 have B0 := ak_ ((((Below.refl w.heap.size w).alloc (Nat.le_refl _) (.cells #[.int .i64 0, .slice (some ⟨g, 0, none⟩) 1 c] 239)).alloc (by simp) (.cells #[.int .i64 (-1)] 3)).alloc (by simp; omega) (.cells #[.bool true] 4))
 have hg := World.block_lt_of_cell? w _ c0
 have z0 := (B0.out.cell (p := ⟨g, 0, none⟩) hg).trans c0
 have z1 := (B0.out.cell (p := ⟨g, 1, none⟩) hg).trans c1
 have z2 := (B0.out.cell (p := ⟨g, 2, none⟩) hg).trans c2
 have Z0 := ak_ z0
 have Z1 := ak_ z1
 have Z2 := ak_ z2
 clear c0 c1 c2 z0 z1 z2
 go_enter Tryz.func221, Tryz.ntmps221
 go_wp2_with fail
 refine (walk_one g c (w.heap.size + 1 + 1) (w.heap.size + 1) w.heap.size key h0 h1 _ (by omega) (by omega) (by simp; omega) R0.out L0.out Z0.out Z1.out Z2.out).mono ?_
 rintro e w1 ⟨rfl, hr, hb, hk⟩
 have R1 := ak_ hr
 have B1 := ak_ (B0.out.trans hb)
 have T1 := ak_ (blk_kept T0.out hk (by omega))
 have Z0 := ak_ (cell_kept Z0.out hk (by simp; omega))
 have Z1 := ak_ (cell_kept Z1.out hk (by simp; omega))
 have Z2 := ak_ (cell_kept Z2.out hk (by simp; omega))
 clear hr hb hk
 have r0 : w1.cell? ⟨w.heap.size + 1 + 1, 0, none⟩ = some (.bool true) := blk_cell R1.out 0
 have t1 : w1.cell? ⟨w.heap.size, 1, none⟩ = some (.slice (some ⟨g, 0, none⟩) 1 c) := blk_cell T1.out 1
 have HS := ak_ (below_alloc (Below.refl _ w1) (.cells #[.func (.func 233) #[] #[.pointer (some ⟨w.heap.size, 0, none⟩)]] 297))
 have t2 : (w1.alloc (.cells #[.func (.func 233) #[] #[.pointer (some ⟨w.heap.size, 0, none⟩)]] 297)).cell? ⟨w.heap.size, 1, none⟩ = some (.slice (some ⟨g, 0, none⟩) 1 c) := blk_cell (blk_below T1.out HS.out) 1
 go_wp2_with fail
 refine (nodes_one g c w1.heap.size key (.pointer (some ⟨w.heap.size, 0, none⟩)) _ (blk_cell (blk_new w1 (.cells #[.func (.func 233) #[] #[.pointer (some ⟨w.heap.size, 0, none⟩)]] 297)) 0) (pw_cell_below HS.out Z0.out) (pw_cell_below HS.out Z1.out) (pw_cell_below HS.out Z2.out)).mono ?_
 rintro e w2 ⟨rfl, hb⟩
 go_wp2
 go_ret
 exact ⟨rfl, bel3 (bel3 B1.out HS.out) hb⟩
theorem may_none (k : Int) (k0 : 0 ≤ k) (k1 : k ≤ 4294967295) (w : World) : Calls Tryz.prog 206 #[.agg #[.int .i64 (-1), .slice none 0 0], .int .i64 k] w fun e w' => e = .returned (.bool true) ∧ Below w.heap.size w w' := by
 have hu := Tryz.underlying239
 have B0 := ak_ ((Below.refl w.heap.size w).alloc (Nat.le_refl _) (.cells #[.int .i64 (-1), .slice none 0 0] 239))
 have HR := ak_ (treeRight_none (w.alloc (.cells #[.int .i64 (-1), .slice none 0 0] 239)))
 go_enter Tryz.func206, Tryz.ntmps206
 go_wp2_with fail
 refine HR.out.mono ?_
 rintro e w1 ⟨rfl, hb⟩
 go_wp2_with (go_at_call 222; refine (isKey_yes k _ k0 k1).mono ?_; rintro e w2 ⟨rfl, rfl⟩)
 go_ret
 exact ⟨rfl, bel3 B0.out hb⟩
theorem may_one (k : Int) (k0 : 0 ≤ k) (k1 : k ≤ 4294967295) (w : World) (g c : Nat) (key : Int) (h0 : 0 ≤ key) (h1 : key ≤ 4294967295) (c0 : w.cell? ⟨g, 0, none⟩ = some (.int .i64 key)) (c1 : w.cell? ⟨g, 1, none⟩ = some (.int .i64 (-1))) (c2 : w.cell? ⟨g, 2, none⟩ = some (.int .i64 (-1))) : Calls Tryz.prog 206 #[.agg #[.int .i64 0, .slice (some ⟨g, 0, none⟩) 1 c], .int .i64 k] w fun e w' => e = .returned (.bool true) ∧ Below w.heap.size w w' := by
 have hu := Tryz.underlying239
 have B0 := ak_ ((Below.refl w.heap.size w).alloc (Nat.le_refl _) (.cells #[.int .i64 0, .slice (some ⟨g, 0, none⟩) 1 c] 239))
 have HR := ak_ (treeRight_one (w.alloc (.cells #[.int .i64 0, .slice (some ⟨g, 0, none⟩) 1 c] 239)) g c key h0 h1 (pw_cell_below (below_alloc (Below.refl _ _) _) c0) (pw_cell_below (below_alloc (Below.refl _ _) _) c1) (pw_cell_below (below_alloc (Below.refl _ _) _) c2))
 clear c0 c1 c2
 go_enter Tryz.func206, Tryz.ntmps206
 go_wp2_with fail
 refine HR.out.mono ?_
 rintro e w1 ⟨rfl, hb⟩
 go_wp2_with (go_at_call 222; refine (isKey_yes k _ k0 k1).mono ?_; rintro e w2 ⟨rfl, rfl⟩)
 go_ret
 exact ⟨rfl, bel3 B0.out hb⟩
theorem seek_none (p : Nat) (key : Int) (f : Value) (w : World) (h0 : w.cell? ⟨p, 0, none⟩ = some (.int .i64 (-1))) :
  Calls Tryz.prog 207 #[.pointer (some ⟨p, 0, none⟩), .int .i64 key, f] w fun e w' => e = .returned (.tuple #[.pointer (some ⟨p, 0, none⟩), .int .i64 0]) ∧ Below w.heap.size w w' := by
 have hu := Tryz.underlying239
 go_enter Tryz.func207, Tryz.ntmps207
 go_wp2
 refine wp_scope_straight ?_
 go_wp2
 refine wp_label ?_
 go_wp2
 refine wp_region_held_drew (S := (fun w' => w'.cell? ⟨p, 0, none⟩ = some (.int .i64 (-1)))) (by kernel_rfl) ?hS_1 (fun hHeld => ?rest_1)
 case hS_1 => ((try dsimp only); go_keep)
 refine tk1 (i := 0) (by (try simp only [g1_, g2_, g3_]); exact rfl) (by kernel_rfl) (by assumption) (by kernel_rfl) (by intro w hSw; (try dsimp only at hSw); go_simp; first | done | with_reducible rfl | rfl) (by exact fun _ _ _ h => h) ?_
 try simp only [Act.put, p1_, p2_, p3_]
 refine tk1 (i := 1) (by (try simp only [g1_, g2_, g3_]); exact rfl) (by kernel_rfl) (by assumption) (by kernel_rfl) (by intro w hSw; (try dsimp only at hSw); go_simp; first | done | with_reducible rfl | rfl) (by exact fun _ _ _ h => h) ?_
 try simp only [Act.put, p1_, p2_, p3_]
 refine tk1 (i := 2) (by (try simp only [g1_, g2_, g3_]); exact rfl) (by kernel_rfl) (by assumption) (by kernel_rfl) (by intro w hSw; (try dsimp only at hSw); go_simp; first | done | with_reducible rfl | rfl) (by exact fun _ _ _ h => h) ?_
 try simp only [Act.put, p1_, p2_, p3_]
 refine tk1 (i := 3) (by (try simp only [g1_, g2_, g3_]); exact rfl) (by kernel_rfl) (by assumption) (by kernel_rfl) (by intro w hSw; (try dsimp only at hSw); go_simp; first | done | with_reducible rfl | rfl) (by exact fun _ _ _ h => h) ?_
 try simp only [Act.put, p1_, p2_, p3_]
 refine tk1 (i := 4) (by (try simp only [g1_, g2_, g3_]); exact rfl) (by kernel_rfl) (by assumption) (by kernel_rfl) (by intro w hSw; (try dsimp only at hSw); go_simp; first | done | with_reducible rfl | rfl) (by exact fun _ _ _ h => h) ?_
 try simp only [Act.put, p1_, p2_, p3_]
 refine sk1 (i := 5) (by (try simp only [g1_, g2_, g3_]); exact rfl) (by kernel_rfl) (by assumption) (by kernel_rfl) (by exact fun _ _ _ h => h) ?_
 try simp only [Act.put, p1_, p2_, p3_]
 refine sk1 (i := 6) (by (try simp only [g1_, g2_, g3_]); exact rfl) (by kernel_rfl) (by assumption) (by kernel_rfl) (by exact fun _ _ _ h => h) ?_
 try simp only [Act.put, p1_, p2_, p3_]
 refine sk1 (i := 7) (by (try simp only [g1_, g2_, g3_]); exact rfl) (by kernel_rfl) (by assumption) (by kernel_rfl) (by exact fun _ _ _ h => h) ?_
 try simp only [Act.put, p1_, p2_, p3_]
 refine sk1 (i := 8) (by (try simp only [g1_, g2_, g3_]); exact rfl) (by kernel_rfl) (by assumption) (by kernel_rfl) (by exact fun _ _ _ h => h) ?_
 try simp only [Act.put, p1_, p2_, p3_]
 refine sk1 (i := 9) (by (try simp only [g1_, g2_, g3_]); exact rfl) (by kernel_rfl) (by assumption) (by kernel_rfl) (by exact fun _ _ _ h => h) ?_
 try simp only [Act.put, p1_, p2_, p3_]
 refine sk1 (i := 10) (by (try simp only [g1_, g2_, g3_]); exact rfl) (by kernel_rfl) (by assumption) (by kernel_rfl) (by exact fun _ _ _ h => h) ?_
 try simp only [Act.put, p1_, p2_, p3_]
 refine sk1 (i := 11) (by (try simp only [g1_, g2_, g3_]); exact rfl) (by kernel_rfl) (by assumption) (by kernel_rfl) (by exact fun _ _ _ h => h) ?_
 try simp only [Act.put, p1_, p2_, p3_]
 refine sk1 (i := 12) (by (try simp only [g1_, g2_, g3_]); exact rfl) (by kernel_rfl) (by assumption) (by kernel_rfl) (by exact fun _ _ _ h => h) ?_
 try simp only [Act.put, p1_, p2_, p3_]
 refine sk1 (i := 13) (by (try simp only [g1_, g2_, g3_]); exact rfl) (by kernel_rfl) (by assumption) (by kernel_rfl) (by exact fun _ _ _ h => h) ?_
 try simp only [Act.put, p1_, p2_, p3_]
 refine sk1 (i := 14) (by (try simp only [g1_, g2_, g3_]); exact rfl) (by kernel_rfl) (by assumption) (by kernel_rfl) (by exact fun _ _ _ h => h) ?_
 try simp only [Act.put, p1_, p2_, p3_]
 refine sk1 (i := 15) (by (try simp only [g1_, g2_, g3_]); exact rfl) (by kernel_rfl) (by assumption) (by kernel_rfl) (by exact fun _ _ _ h => h) ?_
 try simp only [Act.put, p1_, p2_, p3_]
 refine sk1 (i := 16) (by (try simp only [g1_, g2_, g3_]); exact rfl) (by kernel_rfl) (by assumption) (by kernel_rfl) (by exact fun _ _ _ h => h) ?_
 try simp only [Act.put, p1_, p2_, p3_]
 refine tk1 (i := 17) (by (try simp only [g1_, g2_, g3_]); exact rfl) (by kernel_rfl) (by assumption) (by kernel_rfl) (by intro w hSw; (try dsimp only at hSw); go_simp; first | done | with_reducible rfl | rfl) (by exact fun _ _ _ h => h) ?_
 try simp only [Act.put, p1_, p2_, p3_]
 refine wpAnyH_done (by kernel_rfl) ?_ _
 go_wp2
 rw [Exit.noGoto_ret]
 go_ret2
 exact ⟨rfl, by repeat (first | exact Below.refl _ _ | apply pw_below_drewN | apply below_drew1)⟩
theorem other223 (p : Nat) (key : Int) (w : World) (h0 : w.cell? ⟨p, 0, none⟩ = some (.int .i64 key)) :
  Calls Tryz.prog 223 #[.agg #[.int .i64 key, .int .i64 (-1), .int .i64 (-1)], .pointer (some ⟨p, 0, none⟩)] w fun e w' => e = .returned (.bool false) ∧ Below w.heap.size w w' := by
 have hu := Tryz.underlying291
 have HB := ak_ ((Below.refl w.heap.size w).alloc (Nat.le_refl _) (.cells #[.int .i64 key, .int .i64 (-1), .int .i64 (-1)] 291))
 have z0 := (HB.out.cell (World.block_lt_of_cell? w _ h0)).trans h0
 have n0 : (w.alloc (.cells #[.int .i64 key, .int .i64 (-1), .int .i64 (-1)] 291)).cell? ⟨w.heap.size, 0, none⟩ = some (.int .i64 key) := blk_cell (blk_new _ _) 0
 clear h0
 go_enter Tryz.func223, Tryz.ntmps223
 go_wp2
 go_ret
 exact ⟨by simp, HB.out⟩
theorem other208 (key : Int) (w : World) : Calls Tryz.prog 208 #[.int .i64 key] w fun e w' => e = .returned (.func (.func 223) #[] #[.pointer (some ⟨w.heap.size, 0, none⟩)]) ∧ w' = w.alloc (.cells #[.int .i64 key] 3) := by
 have hmf : ∀ (fn : Fn) (first cap : Array Value) (w : World), (Instr.makeFunc fn first cap).run Tryz.prog w = .ok (.func fn first cap) w := fun _ _ _ _ => rfl
 go_enter Tryz.func208, Tryz.ntmps208
 go_wp2
 go_ret
 exact ⟨rfl, rfl⟩
theorem seek_one (p q g c : Nat) (key : Int) (w : World) (h0 : w.cell? ⟨p, 0, none⟩ = some (.int .i64 0)) (h1 : w.cell? ⟨p, 1, none⟩ = some (.slice (some ⟨g, 0, none⟩) 1 c)) (h2 : w.cell? ⟨q, 0, none⟩ = some (.int .i64 key)) (c0 : w.cell? ⟨g, 0, none⟩ = some (.int .i64 key)) (c1 : w.cell? ⟨g, 1, none⟩ = some (.int .i64 (-1))) (c2 : w.cell? ⟨g, 2, none⟩ = some (.int .i64 (-1))) :
  Calls Tryz.prog 207 #[.pointer (some ⟨p, 0, none⟩), .int .i64 key, .func (.func 223) #[] #[.pointer (some ⟨q, 0, none⟩)]] w fun e w' => e = .returned (.tuple #[.pointer (some ⟨p, 0, none⟩), .int .i64 0]) ∧ Below w.heap.size w w' := by
 have hu := Tryz.underlying239
 have HO := ak_ (fun w' (hb : Below w.heap.size w w') => other223 q key w' ((hb.cell (World.block_lt_of_cell? w _ h2)).trans h2))
 clear h2
 go_enter Tryz.func207, Tryz.ntmps207
 go_wp2
 refine wp_scope_straight ?_
 go_wp2
 refine wp_label ?_
 go_wp2
 refine wp_region_held_drew (S := (fun w' => w'.cell? ⟨p, 0, none⟩ = some (.int .i64 0) ∧ w'.cell? ⟨p, 1, none⟩ = some (.slice (some ⟨g, 0, none⟩) 1 c) ∧ w'.cell? ⟨g, 0, none⟩ = some (.int .i64 key) ∧ w'.cell? ⟨g, 1, none⟩ = some (.int .i64 (-1)) ∧ w'.cell? ⟨g, 2, none⟩ = some (.int .i64 (-1)))) (by kernel_rfl) ?hS_21 (fun hHeld => ?rest_21)
 case hS_21 => ((try dsimp only); go_keep)
 refine tk1 (i := 0) (by (try simp only [g1_, g2_, g3_]); exact rfl) (by kernel_rfl) (by assumption) (by kernel_rfl) (by intro w hSw; (try dsimp only at hSw); go_simp; first | done | with_reducible rfl | rfl) (by exact fun _ _ _ h => h) ?_
 try simp only [Act.put, p1_, p2_, p3_]
 refine tk1 (i := 1) (by (try simp only [g1_, g2_, g3_]); exact rfl) (by kernel_rfl) (by assumption) (by kernel_rfl) (by intro w hSw; (try dsimp only at hSw); go_simp; first | done | with_reducible rfl | rfl) (by exact fun _ _ _ h => h) ?_
 try simp only [Act.put, p1_, p2_, p3_]
 refine tk1 (i := 2) (by (try simp only [g1_, g2_, g3_]); exact rfl) (by kernel_rfl) (by assumption) (by kernel_rfl) (by intro w hSw; (try dsimp only at hSw); go_simp; first | done | with_reducible rfl | rfl) (by exact fun _ _ _ h => h) ?_
 try simp only [Act.put, p1_, p2_, p3_]
 refine tk1 (i := 3) (by (try simp only [g1_, g2_, g3_]); exact rfl) (by kernel_rfl) (by assumption) (by kernel_rfl) (by intro w hSw; (try dsimp only at hSw); go_simp; first | done | with_reducible rfl | rfl) (by exact fun _ _ _ h => h) ?_
 try simp only [Act.put, p1_, p2_, p3_]
 refine tk1 (i := 4) (by (try simp only [g1_, g2_, g3_]); exact rfl) (by kernel_rfl) (by assumption) (by kernel_rfl) (by intro w hSw; (try dsimp only at hSw); go_simp; first | done | with_reducible rfl | rfl) (by exact fun _ _ _ h => h) ?_
 try simp only [Act.put, p1_, p2_, p3_]
 refine tk1 (i := 5) (by (try simp only [g1_, g2_, g3_]); exact rfl) (by kernel_rfl) (by assumption) (by kernel_rfl) (by intro w hSw; (try dsimp only at hSw); go_simp; first | done | with_reducible rfl | rfl) (by exact fun _ _ _ h => h) ?_
 try simp only [Act.put, p1_, p2_, p3_]
 refine tk1 (i := 6) (by (try simp only [g1_, g2_, g3_]); exact rfl) (by kernel_rfl) (by assumption) (by kernel_rfl) (by intro w hSw; (try dsimp only at hSw); go_simp; first | done | with_reducible rfl | rfl) (by exact fun _ _ _ h => h) ?_
 try simp only [Act.put, p1_, p2_, p3_]
 refine tk1 (i := 7) (by (try simp only [g1_, g2_, g3_]); exact rfl) (by kernel_rfl) (by assumption) (by kernel_rfl) (by intro w hSw; (try dsimp only at hSw); go_simp; first | done | with_reducible rfl | rfl) (by exact fun _ _ _ h => h) ?_
 try simp only [Act.put, p1_, p2_, p3_]
 refine tk1 (i := 8) (by (try simp only [g1_, g2_, g3_]); exact rfl) (by kernel_rfl) (by assumption) (by kernel_rfl) (by intro w hSw; (try dsimp only at hSw); go_simp; first | done | with_reducible rfl | rfl) (by exact fun _ _ _ h => h) ?_
 try simp only [Act.put, p1_, p2_, p3_]
 refine tk1 (i := 9) (by (try simp only [g1_, g2_, g3_]); exact rfl) (by kernel_rfl) (by assumption) (by kernel_rfl) (by intro w hSw; (try dsimp only at hSw); go_simp; first | done | with_reducible rfl | rfl) (by exact fun _ _ _ h => h) ?_
 try simp only [Act.put, p1_, p2_, p3_]
 refine tk1 (i := 10) (by (try simp only [g1_, g2_, g3_]); exact rfl) (by kernel_rfl) (by assumption) (by kernel_rfl) (by intro w hSw; (try dsimp only at hSw); go_simp; first | done | with_reducible rfl | rfl) (by exact fun _ _ _ h => h) ?_
 try simp only [Act.put, p1_, p2_, p3_]
 refine tk1 (i := 11) (by (try simp only [g1_, g2_, g3_]); exact rfl) (by kernel_rfl) (by assumption) (by kernel_rfl) (by intro w hSw; (try dsimp only at hSw); go_simp; first | done | with_reducible rfl | rfl) (by exact fun _ _ _ h => h) ?_
 try simp only [Act.put, p1_, p2_, p3_]
 refine tk1 (i := 12) (by (try simp only [g1_, g2_, g3_]); exact rfl) (by kernel_rfl) (by assumption) (by kernel_rfl) (by intro w hSw; (try dsimp only at hSw); go_simp; first | done | with_reducible rfl | rfl) (by exact fun _ _ _ h => h) ?_
 try simp only [Act.put, p1_, p2_, p3_]
 refine tk1 (i := 13) (by (try simp only [g1_, g2_, g3_]); exact rfl) (by kernel_rfl) (by assumption) (by kernel_rfl) (by intro w hSw; (try dsimp only at hSw); go_simp; first | done | with_reducible rfl | rfl) (by exact fun _ _ _ h => h) ?_
 try simp only [Act.put, p1_, p2_, p3_]
 refine tk1 (i := 14) (by (try simp only [g1_, g2_, g3_]); exact rfl) (by kernel_rfl) (by assumption) (by kernel_rfl) (by intro w hSw; (try dsimp only at hSw); go_simp; first | done | with_reducible rfl | rfl) (by exact fun _ _ _ h => h) ?_
 try simp only [Act.put, p1_, p2_, p3_]
 refine wpAnyH_ready (rs := [15]) (by kernel_rfl) (by simp) ?_
 refine AllReadyH.cons rfl (fun K hK => ?_) AllReadyH.nil
 go_simp
 (go_at_call 223; refine (HO.out _ (below_drew (Below.refl _ _))).mono ?_; rintro e w1 ⟨rfl, hb⟩; have y0 := pw_cell_below hb (show w.drew.cell? ⟨p, 0, none⟩ = _ from h0); have y1 := pw_cell_below hb (show w.drew.cell? ⟨p, 1, none⟩ = _ from h1); have x0 := pw_cell_below hb (show w.drew.cell? ⟨g, 0, none⟩ = _ from c0); have x1 := pw_cell_below hb (show w.drew.cell? ⟨g, 1, none⟩ = _ from c1); have x2 := pw_cell_below hb (show w.drew.cell? ⟨g, 2, none⟩ = _ from c2); have HB := ak_ (bel3 (below_drew (Below.refl _ _)) hb); clear hb; go_wp2_with fail)
 refine hK.out _ _ ?hS_37 (fun hHeld => ?rest_37)
 case hS_37 => ((try dsimp only); exact ⟨y0, y1, x0, x1, x2⟩)
 clear hK K
 try simp only [Act.put, p1_, p2_, p3_]
 refine tk1 (i := 16) (by (try simp only [g1_, g2_, g3_]); exact rfl) (by kernel_rfl) (by assumption) (by kernel_rfl) (by intro w hSw; (try dsimp only at hSw); go_simp; first | done | with_reducible rfl | rfl) (by exact fun _ _ _ h => h) ?_
 try simp only [Act.put, p1_, p2_, p3_]
 refine tk1 (i := 17) (by (try simp only [g1_, g2_, g3_]); exact rfl) (by kernel_rfl) (by assumption) (by kernel_rfl) (by intro w hSw; (try dsimp only at hSw); go_simp; first | done | with_reducible rfl | rfl) (by exact fun _ _ _ h => h) ?_
 try simp only [Act.put, p1_, p2_, p3_]
 refine wpAnyH_done (by kernel_rfl) ?_ _
 go_wp2
 rw [Exit.noGoto_ret]
 go_ret2
 exact ⟨rfl, by repeat (first | exact HB.out | apply pw_below_drewN | apply below_drew1)⟩
theorem find_none (key : Int) (k0 : 0 ≤ key) (k1 : key ≤ 4294967295) (w : World) :
  Calls Tryz.prog 185 #[.agg #[.int .i64 (-1), .slice none 0 0], .int .i64 key] w fun e w' => e = .returned (.tuple #[.int .i64 0, .int .i64 4]) ∧ Below w.heap.size w w' := by
 have hu := Tryz.underlying239
 have N0 := ak_ (blk_new w (.cells #[.int .i64 (-1), .slice none 0 0] 239))
 have B0 := ak_ ((Below.refl w.heap.size w).alloc (Nat.le_refl _) (.cells #[.int .i64 (-1), .slice none 0 0] 239))
 go_enter Tryz.func185, Tryz.ntmps185
 go_wp2_with fail
 refine (may_none key k0 k1 _).mono ?_
 rintro e w1 ⟨rfl, hb⟩
 have N1 := ak_ (blk_below N0.out hb)
 have B1 := ak_ (bel3 B0.out hb)
 clear hb
 go_wp2_with fail
 refine (other208 key _).mono ?_
 rintro e w2 ⟨rfl, rfl⟩
 have N2 := ak_ (blk_alloc N1.out (.cells #[.int .i64 key] 3))
 go_wp2_with fail
 refine (seek_none _ key _ _ (blk_cell N2.out 0)).mono ?_
 rintro e w3 ⟨rfl, hb⟩
 have z0 : w3.cell? ⟨w.heap.size, 0, none⟩ = some (.int .i64 (-1)) := blk_cell (blk_below N2.out hb) 0
 have B3 := ak_ (bel3 (B1.out.alloc B1.out.size _) hb)
 clear hb
 go_wp2
 go_ret2
 exact ⟨rfl, B3.out⟩
theorem find_one (g c : Nat) (key : Int) (k0 : 0 ≤ key) (k1 : key ≤ 4294967295) (w : World) (c0 : w.cell? ⟨g, 0, none⟩ = some (.int .i64 key)) (c1 : w.cell? ⟨g, 1, none⟩ = some (.int .i64 (-1))) (c2 : w.cell? ⟨g, 2, none⟩ = some (.int .i64 (-1))) :
  Calls Tryz.prog 185 #[.agg #[.int .i64 0, .slice (some ⟨g, 0, none⟩) 1 c], .int .i64 key] w fun e w' => e = .returned (.tuple #[.int .i64 0, .int .i64 0]) ∧ Below w.heap.size w w' := by
 have hu := Tryz.underlying239
 have N0 := ak_ (blk_new w (.cells #[.int .i64 0, .slice (some ⟨g, 0, none⟩) 1 c] 239))
 have B0 := ak_ ((Below.refl w.heap.size w).alloc (Nat.le_refl _) (.cells #[.int .i64 0, .slice (some ⟨g, 0, none⟩) 1 c] 239))
 have Z := ak_ (And.intro (pw_cell_below B0.out c0) (And.intro (pw_cell_below B0.out c1) (pw_cell_below B0.out c2)))
 clear c0 c1 c2
 go_enter Tryz.func185, Tryz.ntmps185
 go_wp2_with fail
 refine (may_one key k0 k1 _ g c key k0 k1 Z.out.1 Z.out.2.1 Z.out.2.2).mono ?_
 rintro e w1 ⟨rfl, hb⟩
 have N1 := ak_ (blk_below N0.out hb)
 have B1 := ak_ (bel3 B0.out hb)
 have Z1 := ak_ (And.intro (pw_cell_below hb Z.out.1) (And.intro (pw_cell_below hb Z.out.2.1) (pw_cell_below hb Z.out.2.2)))
 clear hb Z
 go_wp2_with fail
 refine (other208 key _).mono ?_
 rintro e w2 ⟨rfl, rfl⟩
 have N2 := ak_ (blk_alloc N1.out (.cells #[.int .i64 key] 3))
 have hA := ak_ (below_alloc (Below.refl _ w1) (.cells #[.int .i64 key] 3))
 go_wp2_with fail
 refine (seek_one _ w1.heap.size g c key _ (blk_cell N2.out 0) (blk_cell N2.out 1) (blk_cell (blk_new w1 _) 0) (pw_cell_below hA.out Z1.out.1) (pw_cell_below hA.out Z1.out.2.1) (pw_cell_below hA.out Z1.out.2.2)).mono ?_
 rintro e w3 ⟨rfl, hb⟩
 have z0 : w3.cell? ⟨w.heap.size, 0, none⟩ = some (.int .i64 0) := blk_cell (blk_below N2.out hb) 0
 have B3 := ak_ (bel3 (B1.out.alloc B1.out.size _) hb)
 clear hb
 go_wp2
 go_ret2
 exact ⟨rfl, B3.out⟩
theorem nileq (t : TypeId) (h : t = 237 ∨ t = 24 ∨ t = 25 ∨ t = 26) (w : World) : (binOp .eql t (.slice none 0 0) (.slice none 0 0)).run Tryz.prog w = .ok (.bool true) w := by
 rcases h with rfl | rfl | rfl | rfl <;> kernel_rfl
theorem nilne (t : TypeId) (h : t = 237 ∨ t = 24 ∨ t = 25 ∨ t = 26) (a : Addr) (n c : Nat) (w : World) : (binOp .eql t (.slice (some a) n c) (.slice none 0 0)).run Tryz.prog w = .ok (.bool false) w := by
 rcases h with rfl | rfl | rfl | rfl <;> kernel_rfl
def encN (k : Int) : List Value := [.int .i64 k, .int .i64 (-1), .int .i64 (-1)]
def kN : Kd Int := flat 3 encN (fun _ => rfl) (fun x u h => by simp [encN] at h; rcases h with rfl | rfl | rfl <;> rfl)
theorem info291T : (Tryz.prog.info? 291).map (fun i => (i.zero, i.size, i.bytes)) = some (some (.agg #[.int .i64 0, .int .i64 0, .int .i64 0]), 3, 24) := by kernel_rfl
theorem R_own2 {α : Type} {d : Kd α} {e base : Nat} {w : World} {ok : Nat → Prop} {v : Value} {xs : List α} (h : d.R e w base ok v xs) (n : Nat) (hl : xs.length = n) (hn : 0 < n) : ∃ g cap cur, v = .slice (some ⟨g, 0, none⟩) n cap ∧ n ≤ cap ∧ base ≤ g ∧ g < w.heap.size ∧ d.C w (some ⟨g, 0, none⟩) n xs ∧ w.heap[g]? = some (.cells cur e (0, 0)) := by
 subst hl
 obtain ⟨A, c, e1, hl, hC⟩ := Kd.R_reads h
 obtain ⟨_, inner, ho, hr⟩ := h
 rcases ho.2 with ⟨rfl, hz⟩ | ⟨g, cap, cur, rfl, hg, hh, hnc, hcm, hcs, htake⟩
 ·omega
 ·cases e1
  exact ⟨g, c, cur, rfl, hl, hg, blk_lt hh, hC, hh⟩
theorem flat_cells0 {α : Type} {sz : Nat} {enc : α → List Value} {h1 : ∀ x, (enc x).length = sz} {h2 : ∀ x, ∀ u ∈ enc x, u.oneCell' = true} {w : World} {g n : Nat} {xs : List α} (h : (flat sz enc h1 h2).C w (some ⟨g, 0, none⟩) n xs) (i : Nat) (x : α) (hx : xs[i]? = some x) (j : Nat) (u : Value) (hu : (enc x)[j]? = some u) : w.cell? ⟨g, i * sz + j, none⟩ = some u := by
 have hi := (List.getElem?_eq_some_iff.1 hx).1
 obtain ⟨hl, hm, hc⟩ := h
 obtain ⟨ad, e, hc⟩ := hc (by omega)
 obtain ⟨c, hsz, hK, hcell⟩ := hc i x hx
 have hK' : c = enc x := hK
 subst hK'
 cases e
 have := hcell j u hu
 rw [add_plain] at this
 exact this
theorem nodesClone_nil (w : World) : Calls Tryz.prog 236 #[.slice none 0 0] w fun e w' => e = .returned (.slice none 0 0) ∧ w' = w := by
 have hu := Tryz.underlying237
 have hq := nileq 237 (by simp) w
 go_enter Tryz.func236, Tryz.ntmps236
 go_wp2
 go_ret
 exact ⟨rfl, rfl⟩
theorem own225 (w : World) : Calls Tryz.prog 225 #[.agg #[.int .i64 (-1), .slice none 0 0]] w fun e w' => e = .returned (.pointer (some ⟨w.heap.size + 1, 0, none⟩)) ∧ w'.heap[w.heap.size + 1]? = some (.cells #[.int .i64 (-1), .slice none 0 0] 239 (0, 0)) ∧ Below w.heap.size w w' := by
 have hu := Tryz.underlying239
 have N0 : (w.alloc (.cells #[.int .i64 (-1), .slice none 0 0] 239)).cell? ⟨w.heap.size, 0, none⟩ = some (.int .i64 (-1)) := blk_cell (blk_new _ _) 0
 have N1 : (w.alloc (.cells #[.int .i64 (-1), .slice none 0 0] 239)).cell? ⟨w.heap.size, 1, none⟩ = some (.slice none 0 0) := blk_cell (blk_new _ _) 1
 have HB := ak_ (below_alloc (Below.refl _ w) (.cells #[.int .i64 (-1), .slice none 0 0] 239))
 go_enter Tryz.func225, Tryz.ntmps225
 go_wp2
 go_region_held3 (fun w' => w'.cell? ⟨w.heap.size, 0, none⟩ = some (.int .i64 (-1)) ∧ w'.cell? ⟨w.heap.size, 1, none⟩ = some (.slice none 0 0)) (go_keep) ((go_at_call 236; refine (nodesClone_nil _).mono ?_; rintro e w1 ⟨rfl, rfl⟩))
 go_wp2
 go_ret
 refine ⟨by simp, ?_, below_drew (bel3 HB.out (below_alloc (Below.refl _ _) _))⟩
 have := blk_new (w.alloc (.cells #[.int .i64 (-1), .slice none 0 0] 239)) (.cells #[.int .i64 (-1), .slice none 0 0] 239)
 rw [World.size_alloc] at this
 exact blk_drew this
def OneTree (w : World) (B : Nat) (key : Int) (v : Value) : Prop := ∃ (g c : Nat) (cur : Array Value), v = .agg #[.int .i64 0, .slice (some ⟨g, 0, none⟩) 1 c] ∧ B ≤ g ∧ w.heap[g]? = some (.cells cur 291 (0, 0)) ∧ cur[0]? = some (.int .i64 key) ∧ cur[1]? = some (.int .i64 (-1)) ∧ cur[2]? = some (.int .i64 (-1))
def PutPost (key : Int) (w : World) (e : Ending) (w' : World) : Prop := ∃ v, e = .returned (.tuple #[v, .int .i64 0]) ∧ OneTree w' w.heap.size key v ∧ Below w.heap.size w w'
theorem below_of_grown {W w6 : World} (hg : W.grownBy w6 (Value.slice none 0 0).ownBlock) : Below W.heap.size W w6 := ⟨hg.os, hg.tape, hg.output, hg.size, fun i hi => hg.block i hi (by simp [Value.ownBlock])⟩
theorem put_none (key : Int) (k0 : 0 ≤ key) (k1 : key ≤ 4294967295) (w : World) :
  Calls Tryz.prog 211 #[.agg #[.int .i64 (-1), .slice none 0 0], .int .i64 key] w (PutPost key w) := by
 have hu := Tryz.underlying239
 have hu291 := Tryz.underlying291
 have hu237 := Tryz.underlying237
 have hmf : ∀ (fn : Fn) (first cap : Array Value) (w : World), (Instr.makeFunc fn first cap).run Tryz.prog w = .ok (.func fn first cap) w := fun _ _ _ _ => rfl
 have T0 : Aside0 ((((w.alloc (.cells #[.int .i64 (-1), .slice none 0 0] 239)).alloc (.cells #[.int .i64 key] 3)).alloc (.cells #[.int .i64 0, .slice none 0 0] 239)).heap[w.heap.size]? = some (.cells #[.int .i64 (-1), .slice none 0 0] 239 (0, 0))) := ⟨blk_alloc (blk_alloc (blk_new w _) _) _⟩
 have K0 : Aside0 ((((w.alloc (.cells #[.int .i64 (-1), .slice none 0 0] 239)).alloc (.cells #[.int .i64 key] 3)).alloc (.cells #[.int .i64 0, .slice none 0 0] 239)).heap[w.heap.size + 1]? = some (.cells #[.int .i64 key] 3 (0, 0))) := ⟨by have := blk_alloc (blk_new (w.alloc (.cells #[.int .i64 (-1), .slice none 0 0] 239)) (.cells #[.int .i64 key] 3)) (.cells #[.int .i64 0, .slice none 0 0] 239); rw [World.size_alloc] at this; exact this⟩
 have R0 : Aside0 ((((w.alloc (.cells #[.int .i64 (-1), .slice none 0 0] 239)).alloc (.cells #[.int .i64 key] 3)).alloc (.cells #[.int .i64 0, .slice none 0 0] 239)).heap[w.heap.size + 1 + 1]? = some (.cells #[.int .i64 0, .slice none 0 0] 239 (0, 0))) := ⟨by have := blk_new ((w.alloc (.cells #[.int .i64 (-1), .slice none 0 0] 239)).alloc (.cells #[.int .i64 key] 3)) (.cells #[.int .i64 0, .slice none 0 0] 239); rw [World.size_alloc, World.size_alloc] at this; exact this⟩
 have B0 := ak_ (bel2 (bel2 (bel2 (Below.refl _ w) (.cells #[.int .i64 (-1), .slice none 0 0] 239)) (.cells #[.int .i64 key] 3)) (.cells #[.int .i64 0, .slice none 0 0] 239))
 go_enter Tryz.func211, Tryz.ntmps211
 go_wp2_with fail
 refine (may_none key k0 k1 _).mono ?_
 rintro e w1 ⟨rfl, hb⟩
 have T1 := ak_ (blk_below T0.out hb)
 have K1 := ak_ (blk_below K0.out hb)
 have R1 := ak_ (blk_below R0.out hb)
 have B1 := ak_ (bel3 B0.out hb)
 clear hb
 have a0 : w1.cell? ⟨w.heap.size + 1, 0, none⟩ = some (.int .i64 key) := blk_cell K1.out 0
 go_wp2_with fail
 go_region_held3 (fun w' => w'.cell? ⟨w.heap.size + 1, 0, none⟩ = some (.int .i64 key)) (go_keep) (first | (go_at_call 208; refine (other208 key _).mono ?_; rintro e w2 ⟨rfl, rfl⟩) | (go_at_call 207; refine (seek_none _ key _ _ (by first | exact blk_cell (blk_alloc T1.out _) 0 | exact blk_cell (blk_drew (blk_alloc T1.out _)) 0 | exact blk_cell (blk_alloc (blk_drew T1.out) _) 0)).mono ?_; rintro e w3 ⟨rfl, hb⟩; have T3 := ak_ (blk_below (blk_alloc (blk_drew T1.out) _) hb); have K3 := ak_ (blk_below (blk_alloc (blk_drew K1.out) _) hb); have R3 := ak_ (blk_below (blk_alloc (blk_drew R1.out) _) hb); have B3 := ak_ (bel3 (bel2 (below_drew B1.out) _) hb); have a3 : w3.cell? ⟨w.heap.size + 1, 0, none⟩ = some (.int .i64 key) := blk_cell K3.out 0; clear hb))
 have t30 : w3.cell? ⟨w.heap.size, 0, none⟩ = some (.int .i64 (-1)) := blk_cell T3.out 0
 have t31 : w3.cell? ⟨w.heap.size, 1, none⟩ = some (.slice none 0 0) := blk_cell T3.out 1
 go_wp2_with fail
 refine (own225 _).mono ?_
 rintro e w4 ⟨rfl, hU, hb⟩
 obtain ⟨u, hu0⟩ : ∃ u, u = w3.heap.size + 1 := ⟨_, rfl⟩
 have hul : w.heap.size ≤ u := by have := B3.out.size; omega
 rw [← hu0] at hU ⊢
 have K4 := ak_ (blk_below K3.out hb)
 have R4 := ak_ (blk_below R3.out hb)
 have B4 := ak_ (bel3 B3.out hb)
 have U4 := ak_ hU
 have hku : u ≠ w.heap.size + 1 := by have := blk_lt K3.out; omega
 have hru : u ≠ w.heap.size + 1 + 1 := by have := blk_lt R3.out; omega
 clear hb hU hu0 T3 K3 R3 B3 a3 t30 t31
 have a4 : w4.cell? ⟨w.heap.size + 1, 0, none⟩ = some (.int .i64 key) := blk_cell K4.out 0
 have u0 : w4.cell? ⟨u, 0, none⟩ = some (.int .i64 (-1)) := blk_cell U4.out 0
 have u1 : w4.cell? ⟨u, 1, none⟩ = some (.slice none 0 0) := blk_cell U4.out 1
 have u1' : ∀ o, (w4.alloc o).cell? ⟨u, 1, none⟩ = some (.slice none 0 0) := fun o => blk_cell (blk_alloc U4.out o) 1
 go_wp2
 go_region_law (refine Kd.R_append_step kN (w0 := w) (W := w4.drew) w.heap.size (by rfl) (.tmp 44) (.tmp 47) 237 291 (.agg #[.int .i64 0, .int .i64 0, .int .i64 0]) 24 rfl Tryz.underlying237 info291T rfl (by decide) (by omega) (.slice none 0 0) [] key [.int .i64 key, .int .i64 (-1), .int .i64 (-1)] (fun _ => True) (fun _ => False) rfl rfl rfl (fun _ hk => hk.elim) (fun _ _ => trivial) (Kd.R_nil _ _ _ _ _) (by first | exact below_drew B4.out) (by have := B4.out.size; simp; omega) (by simp) ?_; intro v1 w6 ho6 hb6 hg6 hat6; obtain ⟨g, c, cur, rfl, hgc, hg0, hg1, hC, hcur⟩ := R_own2 ho6 1 rfl (by omega); have hB5 := below_of_grown hg6; have K6 := ak_ (blk_below (blk_drew K4.out) hB5); have R6 := ak_ (blk_below (blk_drew R4.out) hB5); have U6 := ak_ (blk_below (blk_drew U4.out) hB5); have B6 := ak_ hb6; have u61 : w6.cell? ⟨u, 1, none⟩ = some (.slice none 0 0) := blk_cell U6.out 1; have fu61 : w6.frozen? ⟨u, 1, none⟩ = false := blk_frozen U6.out 1; have x0 := ak_ (flat_cells0 hC 0 key rfl 0 _ rfl); have x1 := ak_ (flat_cells0 hC 0 key rfl 1 _ rfl); have x2 := ak_ (flat_cells0 hC 0 key rfl 2 _ rfl); have HG := ak_ hcur; clear ho6 hb6 hg6 hat6 hB5 hC hcur)
 all_goals
  have hgu : g ≠ u := blk_ne HG.out U6.out (by decide)
  have hgk : g ≠ w.heap.size + 1 := blk_ne HG.out K6.out (by decide)
  have hgr : g ≠ w.heap.size + 1 + 1 := blk_ne HG.out R6.out (by decide)
  have q0 : cur[0]? = some (.int .i64 key) := (blk_cell HG.out 0).symm.trans x0.out
  have q1 : cur[1]? = some (.int .i64 (-1)) := (blk_cell HG.out 1).symm.trans x1.out
  have q2 : cur[2]? = some (.int .i64 (-1)) := (blk_cell HG.out 2).symm.trans x2.out
  have U7 := ak_ (blk_put U6.out 1 (.slice (some ⟨g, 0, none⟩) 1 c) rfl)
  have K7 := ak_ (blk_far K6.out (p := ⟨u, 1, none⟩) hku.symm (.slice (some ⟨g, 0, none⟩) 1 c))
  have R7 := ak_ (blk_far R6.out (p := ⟨u, 1, none⟩) hru.symm (.slice (some ⟨g, 0, none⟩) 1 c))
  have G7 := ak_ (blk_far HG.out (p := ⟨u, 1, none⟩) hgu (.slice (some ⟨g, 0, none⟩) 1 c))
  have B7 := ak_ (B6.out.setCell (p := ⟨u, 1, none⟩) hul (.slice (some ⟨g, 0, none⟩) 1 c))
  generalize w6.setCell ⟨u, 1, none⟩ (.slice (some ⟨g, 0, none⟩) 1 c) = W7 at *
  clear x0 x1 x2 HG U6 K6 R6 B6 u61 fu61 u0 u1 u1' a4
  have u71 : W7.cell? ⟨u, 1, none⟩ = some (.slice (some ⟨g, 0, none⟩) 1 c) := blk_cell U7.out 1
  have k70 : W7.cell? ⟨w.heap.size + 1, 0, none⟩ = some (.int .i64 key) := blk_cell K7.out 0
  go_wp2_with fail
  refine (seek_none u key _ _ (blk_cell U7.out 0)).mono ?_
  rintro e w8 ⟨rfl, hb⟩
  have U8 := ak_ (blk_below U7.out hb)
  have K8 := ak_ (blk_below K7.out hb)
  have R8 := ak_ (blk_below R7.out hb)
  have G8 := ak_ (blk_below G7.out hb)
  have B8 := ak_ (bel3 B7.out hb)
  clear hb U7 K7 R7 G7 B7 u71 k70
  have u80 : w8.cell? ⟨u, 0, none⟩ = some (.int .i64 (-1)) := blk_cell U8.out 0
  have fu80 : w8.frozen? ⟨u, 0, none⟩ = false := blk_frozen U8.out 0
  have U9 := ak_ (blk_put U8.out 0 (.int .i64 0) rfl)
  have u91 : (w8.setCell ⟨u, 0, none⟩ (.int .i64 0)).cell? ⟨u, 1, none⟩ = some (.slice (some ⟨g, 0, none⟩) 1 c) := blk_cell U9.out 1
  go_wp2
  have R9 := ak_ (blk_far R8.out (p := ⟨u, 0, none⟩) hru.symm (.int .i64 0))
  have G9 := ak_ (blk_far G8.out (p := ⟨u, 0, none⟩) hgu (.int .i64 0))
  have B9 := ak_ (B8.out.setCell (p := ⟨u, 0, none⟩) hul (.int .i64 0))
  generalize w8.setCell ⟨u, 0, none⟩ (.int .i64 0) = W9 at *
  clear U8 K8 R8 G8 B8 u80 fu80
  go_region_held3 (fun w' => w'.cell? ⟨u, 1, none⟩ = some (.slice (some ⟨g, 0, none⟩) 1 c)) (go_keep) (fail)
  have Y9 := ak_ (blk_drew G9.out)
  have V9 := ak_ (blk_drew U9.out)
  have Q9 := ak_ (blk_drew R9.out)
  have C9 := ak_ (below_drew B9.out)
  clear G9 U9 R9 B9 u91
  generalize W9.drew = X9 at *
  go_wp2
  refine wp_loop_rounds 1 ?_
  rw [rounds_succ]
  have g1 : X9.cell? ⟨g, 1, none⟩ = some (.int .i64 (-1)) := (blk_cell Y9.out 1).trans q1
  have fg1 : X9.frozen? ⟨g, 1, none⟩ = false := blk_frozen Y9.out 1
  have g2 : (X9.setCell ⟨g, 1, none⟩ (.int .i64 (-1))).cell? ⟨g, 2, none⟩ = some (.int .i64 (-1)) := by rw [blk_cell (blk_set Y9.out 1 _), Array.getElem?_setIfInBounds_ne (by decide)]; exact q2
  have fg2 : (X9.setCell ⟨g, 1, none⟩ (.int .i64 (-1))).frozen? ⟨g, 2, none⟩ = false := blk_frozen (blk_set Y9.out 1 _) 2
  have U10 := ak_ (blk_far (blk_far V9.out (p := ⟨g, 1, none⟩) hgu.symm (.int .i64 (-1))) (p := ⟨g, 2, none⟩) hgu.symm (.int .i64 (-1)))
  have R10 := ak_ (blk_far (blk_far Q9.out (p := ⟨g, 1, none⟩) hgr.symm (.int .i64 (-1))) (p := ⟨g, 2, none⟩) hgr.symm (.int .i64 (-1)))
  have G10 := ak_ (blk_set (blk_set Y9.out 1 (.int .i64 (-1))) 2 (.int .i64 (-1)))
  have B10 := ak_ ((C9.out.setCell (p := ⟨g, 1, none⟩) hg0 (.int .i64 (-1))).setCell (p := ⟨g, 2, none⟩) hg0 (.int .i64 (-1)))
  have z0 : ((X9.setCell ⟨g, 1, none⟩ (.int .i64 (-1))).setCell ⟨g, 2, none⟩ (.int .i64 (-1))).cell? ⟨u, 0, none⟩ = some (.int .i64 0) := blk_cell U10.out 0
  have z1 : ((X9.setCell ⟨g, 1, none⟩ (.int .i64 (-1))).setCell ⟨g, 2, none⟩ (.int .i64 (-1))).cell? ⟨u, 1, none⟩ = some (.slice (some ⟨g, 0, none⟩) 1 c) := blk_cell U10.out 1
  have r0 : ((X9.setCell ⟨g, 1, none⟩ (.int .i64 (-1))).setCell ⟨g, 2, none⟩ (.int .i64 (-1))).cell? ⟨w.heap.size + 1 + 1, 0, none⟩ = some (.int .i64 0) := blk_cell R10.out 0
  have r1 : ((X9.setCell ⟨g, 1, none⟩ (.int .i64 (-1))).setCell ⟨g, 2, none⟩ (.int .i64 (-1))).cell? ⟨w.heap.size + 1 + 1, 1, none⟩ = some (.slice none 0 0) := blk_cell R10.out 1
  have fr0 : ((X9.setCell ⟨g, 1, none⟩ (.int .i64 (-1))).setCell ⟨g, 2, none⟩ (.int .i64 (-1))).frozen? ⟨w.heap.size + 1 + 1, 0, none⟩ = false := blk_frozen R10.out 0
  have fr1 : ((X9.setCell ⟨g, 1, none⟩ (.int .i64 (-1))).setCell ⟨g, 2, none⟩ (.int .i64 (-1))).frozen? ⟨w.heap.size + 1 + 1, 1, none⟩ = false := blk_frozen R10.out 1
  go_wp2
  have R11 := blk_put (blk_put R10.out 0 (.int .i64 0) rfl) 1 (.slice (some ⟨g, 0, none⟩) 1 c) rfl
  have G11 := blk_far (blk_far G10.out (p := ⟨w.heap.size + 1 + 1, 0, none⟩) hgr (.int .i64 0)) (p := ⟨w.heap.size + 1 + 1, 1, none⟩) hgr (.slice (some ⟨g, 0, none⟩) 1 c)
  have B11 := (B10.out.setCell (p := ⟨w.heap.size + 1 + 1, 0, none⟩) (by simp; omega) (.int .i64 0)).setCell (p := ⟨w.heap.size + 1 + 1, 1, none⟩) (by simp; omega) (.slice (some ⟨g, 0, none⟩) 1 c)
  have hs1 : 1 < cur.size := (Array.getElem?_eq_some_iff.1 q1).1
  have hs2 : 2 < cur.size := (Array.getElem?_eq_some_iff.1 q2).1
  refine bodyPost_ret (results_ct rfl _ _ (w.heap.size + 1 + 1) 239 _ (0, 0) _ rfl R11 Tryz.underlying239 rfl (by kernel_rfl)) rfl ⟨_, rfl, ⟨g, c, _, rfl, hg0, G11, ?_, ?_, ?_⟩, B11⟩
  ·rw [Array.getElem?_setIfInBounds_ne (by decide), Array.getElem?_setIfInBounds_ne (by decide)]; exact q0
  ·rw [Array.getElem?_setIfInBounds_ne (by decide), Array.getElem?_setIfInBounds, if_pos rfl, if_pos hs1]
  ·rw [Array.getElem?_setIfInBounds, if_pos rfl, if_pos (by simpa using hs2)]
end Go.Proofs.YtoimfknjfeencaaGreatDoor.Hand
end
