/- Part of the walk of a law of the top, and what it leans on (Step2). No conditions beyond those that each lemma names. -/
import Derived.Test.YtoimfknjfeencaaGreatDoorZ22
set_option linter.unusedVariables false
set_option linter.unusedSimpArgs false
set_option maxHeartbeats 8000000
set_option maxRecDepth 100000
section
namespace Go.Proofs.YtoimfknjfeencaaGreatDoor.Hand
open Go.RowKit Go.Proofs.YtoimfknjfeencaaGreatDoorW.PrintWords Go.Proofs.YtoimfknjfeencaaGreatDoorW.PrintLast Go.Proofs.YtoimfknjfeencaaGreatDoorW.PrintMore
theorem rows_own {α : Type} {sz : Nat} {enc : α → List Value} {h1 : ∀ x, (enc x).length = sz} {h2 : ∀ x, ∀ u ∈ enc x, u.oneCell' = true} {e base : Nat} {w : World} {v : Value} {xs : List α} {ok : Nat → Prop} (h : (flat sz enc h1 h2).R e w base ok v xs) (hne : xs ≠ []) :
  ∃ g cap arr, v = .slice (some ⟨g, 0, none⟩) xs.length cap ∧ base ≤ g ∧ xs.length ≤ cap ∧ w.heap[g]? = some (.cells arr e (0, 0)) ∧ Rows enc sz arr xs := by
 have ho := own_flat h
 rcases ho.2 with ⟨_, h0⟩ | ⟨g, cap, cur, rfl, hb, hg, hc, _, _, ht⟩
 ·exact absurd (List.length_eq_zero_iff.1 h0) hne
 ·refine ⟨g, cap, cur, rfl, hb, hc, hg, fun i x hx j u hu => ?_⟩
  have hseg := flatNews_seg h1 xs i x hx
  have hj : j < sz := by
   rw [← h1 x]
   exact (List.getElem?_eq_some_iff.1 hu).1
  have hi := (List.getElem?_eq_some_iff.1 hx).1
  have hle : i * sz + j < xs.length * sz := by
   have : (i + 1) * sz ≤ xs.length * sz := Nat.mul_le_mul_right _ hi
   rw [Nat.succ_mul] at this
   omega
  rw [← hseg, ← ht, List.getElem?_take, if_pos hj, List.getElem?_drop, List.getElem?_take, if_pos hle] at hu
  rw [← Array.getElem?_toList]
  exact hu
theorem ctr {α : Type} {l : List α} {i : Nat} {x : α} (h : l[i]? = some x) : l ≠ [] := by
 rintro rfl
 simp at h
theorem step_goes (x : M.W) (g : M.Good x) (Ap Ac Am At : Option Addr) (cp cc cm ct : Nat) (w : World) (S : Nat → Prop) (hWS : ∀ W, Kept w W S → WP W x Ap Ac Am At cp cc cm ct) (hS : ∀ b, S b → b < w.heap.size) (i : Nat) (z : M.PC) (hst : x.stop = 0) (hz : x.cl[i]? = some z) (hr : z.c.gor.state = 0) :
  Calls Tryz.prog 9 #[wv x Ap Ac Am At cp cc cm ct, .int .i64 i] w (StepOk S x i w) := by
 have HST := ak_ hst
 have HRR := ak_ hr
 clear hst hr
 have h := hWS w (Kept.refl _ _)
 have HWS := ak_ hWS
 clear hWS
 have HSB := ak_ hS
 clear hS
 have HW := ak_ h
 have P1 := ak_ (fun w' (hb : Below w.heap.size w w') => machRight_at x g Ap Ac Am At cp cc cm ct w' (h.below hb))
 have hu := Tryz.underlying29
 have hu44 := Tryz.underlying44
 have hu40 := Tryz.underlying40
 have hu49 := Tryz.underlying49
 have hu81 := Tryz.underlying81
 have G := ak_ g
 clear h g
 unfold wv at P1 ⊢
 have BK := ak_ (blk_alloc (blk_new w (.cells #[.int .i64 x.now, .slice Ap x.cl.length cp, .slice Ac x.cl.length cc, .slice Am x.mu.length cm, .slice At (tableOf x.sem).length ct, .int .i64 x.stop] 29)) (.cells #[.int .i64 0, .slice none 0 0, .slice none 0 0, .slice none 0 0, .slice none 0 0, .int .i64 0] 29))
 have BR0 := blk_new (w.alloc (.cells #[.int .i64 x.now, .slice Ap x.cl.length cp, .slice Ac x.cl.length cc, .slice Am x.mu.length cm, .slice At (tableOf x.sem).length ct, .int .i64 x.stop] 29)) (.cells #[.int .i64 0, .slice none 0 0, .slice none 0 0, .slice none 0 0, .slice none 0 0, .int .i64 0] 29)
 rw [World.size_alloc] at BR0
 have BR := ak_ BR0
 clear BR0
 have BB := ak_ (bel2 (bel2 (Below.refl _ w) (.cells #[.int .i64 x.now, .slice Ap x.cl.length cp, .slice Ac x.cl.length cc, .slice Am x.mu.length cm, .slice At (tableOf x.sem).length ct, .int .i64 x.stop] 29)) (.cells #[.int .i64 0, .slice none 0 0, .slice none 0 0, .slice none 0 0, .slice none 0 0, .int .i64 0] 29))
 have BF0 := blk_new w (.cells #[.int .i64 x.now, .slice Ap x.cl.length cp, .slice Ac x.cl.length cc, .slice Am x.mu.length cm, .slice At (tableOf x.sem).length ct, .int .i64 x.stop] 29)
 go_enter Tryz.func9, Tryz.ntmps9
 go_wp2_with fail
 refine (P1.out _ BB.out).mono ?_
 rintro e w2 ⟨rfl, hb2⟩
 have BK2 := ak_ (blk_below BK.out hb2)
 have BR2 := ak_ (blk_below BR.out hb2)
 have BB2 := ak_ (bel3 BB.out hb2)
 clear hb2 BK BB BR BF0 P1
 have a0 : w2.cell? ⟨w.heap.size, 0, none⟩ = some (.int .i64 x.now) := blk_cell BK2.out 0
 have a1 : w2.cell? ⟨w.heap.size, 1, none⟩ = some (.slice Ap x.cl.length cp) := blk_cell BK2.out 1
 have a2 : w2.cell? ⟨w.heap.size, 2, none⟩ = some (.slice Ac x.cl.length cc) := blk_cell BK2.out 2
 have a3 : w2.cell? ⟨w.heap.size, 3, none⟩ = some (.slice Am x.mu.length cm) := blk_cell BK2.out 3
 have a4 : w2.cell? ⟨w.heap.size, 4, none⟩ = some (.slice At (tableOf x.sem).length ct) := blk_cell BK2.out 4
 have a5 : w2.cell? ⟨w.heap.size, 5, none⟩ = some (.int .i64 x.stop) := blk_cell BK2.out 5
 have hst := HST.out
 have hr := HRR.out
 have hlt := (List.getElem?_eq_some_iff.1 hz).1
 have hil : ¬ ((x.cl.length : Int) ≤ (i : Int)) := by omega
 have hil2 : (i : Int) < (x.cl.length : Int) := by omega
 have hcl : x.cl.length ≤ 8 := G.out.cl
 obtain ⟨adc, hec, y0, yj⟩ := flat_cells HW.out.c i z.c (by rw [List.getElem?_map, hz]; rfl)
 cases hec
 have y0 := y0 _ rfl
 have HY0 := ak_ y0
 have hbc := World.block_lt_of_cell? w _ y0
 replace y0 := (BB2.out.cell hbc).trans y0
 obtain ⟨adm, hem, _⟩ := HW.out.m.2.2 (by rw [G.out.mu]; decide)
 cases hem
 rw [hr] at y0
 rw [hst] at a5
 have HYC := ak_ yj
 clear yj
 have HZ := ak_ hz
 clear hz
 go_wp2
 clear hst hr
 have hs2 : w.heap.size + 1 < w2.heap.size := blk_lt BR2.out
 have BK3 := ak_ (blk_alloc BK2.out (.cells #[.int .i64 x.now, .slice Ap x.cl.length cp, .slice (some adc) x.cl.length cc, .slice (some adm) x.mu.length cm, .slice At (tableOf x.sem).length ct, .int .i64 0] 29))
 have BR3 := ak_ (blk_alloc BR2.out (.cells #[.int .i64 x.now, .slice Ap x.cl.length cp, .slice (some adc) x.cl.length cc, .slice (some adm) x.mu.length cm, .slice At (tableOf x.sem).length ct, .int .i64 0] 29))
 have BN3 := ak_ (blk_new w2 (.cells #[.int .i64 x.now, .slice Ap x.cl.length cp, .slice (some adc) x.cl.length cc, .slice (some adm) x.mu.length cm, .slice At (tableOf x.sem).length ct, .int .i64 0] 29))
 have BB3 := ak_ (bel2 BB2.out (.cells #[.int .i64 x.now, .slice Ap x.cl.length cp, .slice (some adc) x.cl.length cc, .slice (some adm) x.mu.length cm, .slice At (tableOf x.sem).length ct, .int .i64 0] 29))
 have HC1 := ak_ (fun W (hb : Below w.heap.size w W) => clone21 (some adc) cc (x.cl.map (·.c)) W (by rw [List.length_map]; exact Kd.C_below HW.out.c hb) (by rw [List.length_map]; omega) (fun e => by cases e))
 simp only [List.length_map] at HC1
 have HM1 := ak_ (fun W (hb : Below w.heap.size w W) => clone22 (some adm) cm x.mu W (Kd.C_below HW.out.m hb) (by rw [G.out.mu]; decide) (fun e => by cases e))
 clear a0 a1 a2 a3 a4 a5 BK2 BR2 BB2
 generalize w2.alloc (.cells #[.int .i64 x.now, .slice Ap x.cl.length cp, .slice (some adc) x.cl.length cc, .slice (some adm) x.mu.length cm, .slice At (tableOf x.sem).length ct, .int .i64 0] 29) = W3 at *
 have b2 : W3.cell? ⟨w.heap.size, 2, none⟩ = some (.slice (some adc) x.cl.length cc) := blk_cell BK3.out 2
 have b3 : W3.cell? ⟨w.heap.size, 3, none⟩ = some (.slice (some adm) x.mu.length cm) := blk_cell BK3.out 3
 refine wp_region_held_drew (S := (fun W => W.cell? ⟨w.heap.size, 2, none⟩ = some (.slice (some adc) x.cl.length cc) ∧ W.cell? ⟨w.heap.size, 3, none⟩ = some (.slice (some adm) x.mu.length cm))) (by kernel_rfl) ?hS_1 (fun hHeld => ?rest_1)
 case hS_1 => ((try dsimp only); exact ⟨b2, b3⟩)
 refine tk1 (i := 0) (by (try simp only [g1_, g2_, g3_]); exact rfl) (by kernel_rfl) (by assumption) (by kernel_rfl) (by intro w hSw; (try dsimp only at hSw); go_simp; first | done | with_reducible rfl | rfl) (by exact fun _ _ _ h => h) ?_
 try simp only [Act.put, p1_, p2_, p3_]
 refine tk1 (i := 1) (by (try simp only [g1_, g2_, g3_]); exact rfl) (by kernel_rfl) (by assumption) (by kernel_rfl) (by intro w hSw; (try dsimp only at hSw); go_simp; first | done | with_reducible rfl | rfl) (by exact fun _ _ _ h => h) ?_
 try simp only [Act.put, p1_, p2_, p3_]
 refine tk1 (i := 3) (by (try simp only [g1_, g2_, g3_]); exact rfl) (by kernel_rfl) (by assumption) (by kernel_rfl) (by intro w hSw; (try dsimp only at hSw); go_simp; first | done | with_reducible rfl | rfl) (by exact fun _ _ _ h => h) ?_
 try simp only [Act.put, p1_, p2_, p3_]
 refine tk1 (i := 4) (by (try simp only [g1_, g2_, g3_]); exact rfl) (by kernel_rfl) (by assumption) (by kernel_rfl) (by intro w hSw; (try dsimp only at hSw); go_simp; first | done | with_reducible rfl | rfl) (by exact fun _ _ _ h => h) ?_
 try simp only [Act.put, p1_, p2_, p3_]
 refine wpAnyH_ready (rs := [2]) (by kernel_rfl) (by simp) ?_
 refine AllReadyH.cons rfl (fun K hK => ?_) AllReadyH.nil
 go_simp
 refine (HC1.out _ (below_drew BB3.out)).mono ?_
 rintro e w4 ⟨v4, rfl, hR4, hb4⟩
 obtain ⟨cb, cap4, arr4, hv4, hcb, hle4, hg4, hrow4⟩ := rows_own hR4 (ctr (by rw [List.getElem?_map, HZ.out]; rfl))
 rw [List.length_map] at hv4 hle4
 subst hv4
 have hdd : W3.drew.heap.size = W3.heap.size := rfl
 have BK4 := ak_ (blk_below (blk_drew BK3.out) hb4)
 have BR4 := ak_ (blk_below (blk_drew BR3.out) hb4)
 have BN4 := ak_ (blk_below (blk_drew BN3.out) hb4)
 have BB4 := ak_ (bel3 (below_drew BB3.out) hb4)
 have BL4 := ak_ hg4
 have RL4 := ak_ hrow4
 have hcb4 := ak_ (show W3.heap.size ≤ cb from hcb)
 refine hK.out _ _ ⟨blk_cell BK4.out 2, blk_cell BK4.out 3⟩ (fun hHeld => ?_)
 clear hK K hR4 hb4 hg4 hrow4 hcb HC1
 try simp only [Act.put, List.setIfInBounds_toArray, List.set_cons_zero, List.set_cons_succ]
 refine wpAnyH_ready (rs := [5]) (by kernel_rfl) (by simp) ?_
 refine AllReadyH.cons rfl (fun K hK => ?_) AllReadyH.nil
 go_simp
 refine (HM1.out _ BB4.out).mono ?_
 rintro e w5 ⟨v5, rfl, hR5, hb5⟩
 obtain ⟨mb, cap5, arr5, hv5, hmb, hle5, hg5, hrow5⟩ := rows_own hR5 (fun e => by have := G.out.mu; rw [e] at this; cases this)
 subst hv5
 have BK5 := ak_ (blk_below BK4.out hb5)
 have BR5 := ak_ (blk_below BR4.out hb5)
 have BN5 := ak_ (blk_below BN4.out hb5)
 have BL5 := ak_ (blk_below BL4.out hb5)
 have BB5 := ak_ (bel3 BB4.out hb5)
 have BM5 := ak_ hg5
 have RM5 := ak_ hrow5
 have hmb5 := ak_ hmb
 refine hK.out _ _ ⟨blk_cell BK5.out 2, blk_cell BK5.out 3⟩ (fun hHeld => ?_)
 clear hK K hR5 hb5 hg5 hrow5 hmb HM1
 try simp only [Act.put, List.setIfInBounds_toArray, List.set_cons_zero, List.set_cons_succ]
 have n52 : w5.cell? ⟨w2.heap.size, 2, none⟩ = some (.slice (some adc) x.cl.length cc) := blk_cell BN5.out 2
 have n53 : w5.cell? ⟨w2.heap.size, 3, none⟩ = some (.slice (some adm) x.mu.length cm) := blk_cell BN5.out 3
 have f52 : w5.frozen? ⟨w2.heap.size, 2, none⟩ = false := blk_frozen BN5.out 2
 have hnp : w.heap.size ≠ w2.heap.size := by omega
 have BK6 := ak_ (blk_far BK5.out (p := ⟨w2.heap.size, 2, none⟩) hnp (.slice (some ⟨cb, 0, none⟩) x.cl.length cap4))
 have BN6 := ak_ (blk_put BN5.out 2 (.slice (some ⟨cb, 0, none⟩) x.cl.length cap4) rfl)
 refine tk1 (i := 6) (by (try simp only [g1_, g2_, g3_]); exact rfl) (by kernel_rfl) (by assumption) (by kernel_rfl) (by intro w hSw; (try dsimp only at hSw); go_simp; first | done | with_reducible rfl | rfl) (by exact fun _ _ _ h => h) ?_
 try simp only [Act.put, p1_, p2_, p3_]
 refine wpAnyH_ready (rs := [7]) (by kernel_rfl) (by simp) ?_
 refine AllReadyH.cons rfl (fun K hK => ?_) AllReadyH.nil
 go_simp
 refine hK.out _ _ ?hS_7 (fun hHeld => ?rest_7)
 case hS_7 => ((try dsimp only); exact ⟨blk_cell BK6.out 2, blk_cell BK6.out 3⟩)
 clear hK K
 try simp only [Act.put, p1_, p2_, p3_]
 have n63 : (w5.setCell ⟨w2.heap.size, 2, none⟩ (.slice (some ⟨cb, 0, none⟩) x.cl.length cap4)).cell? ⟨w2.heap.size, 3, none⟩ = some (.slice (some adm) x.mu.length cm) := blk_cell BN6.out 3
 have f63 : (w5.setCell ⟨w2.heap.size, 2, none⟩ (.slice (some ⟨cb, 0, none⟩) x.cl.length cap4)).frozen? ⟨w2.heap.size, 3, none⟩ = false := blk_frozen BN6.out 3
 have hr1 : w.heap.size + 1 ≠ w2.heap.size := by omega
 have hw3 : w2.heap.size < W3.heap.size := blk_lt BN3.out
 have hcn : cb ≠ w2.heap.size := by have := hcb4.out; omega
 have hmn : mb ≠ w2.heap.size := by have := hmb5.out; have := BL4.out; have := blk_lt BN4.out; omega
 have BK7 := ak_ (blk_far BK6.out (p := ⟨w2.heap.size, 3, none⟩) hnp (.slice (some ⟨mb, 0, none⟩) x.mu.length cap5))
 have BN7 := ak_ (blk_put BN6.out 3 (.slice (some ⟨mb, 0, none⟩) x.mu.length cap5) rfl)
 have BR7 := ak_ (blk_far (blk_far BR5.out (p := ⟨w2.heap.size, 2, none⟩) hr1 (.slice (some ⟨cb, 0, none⟩) x.cl.length cap4)) (p := ⟨w2.heap.size, 3, none⟩) hr1 (.slice (some ⟨mb, 0, none⟩) x.mu.length cap5))
 have BL7 := ak_ (blk_far (blk_far BL5.out (p := ⟨w2.heap.size, 2, none⟩) hcn (.slice (some ⟨cb, 0, none⟩) x.cl.length cap4)) (p := ⟨w2.heap.size, 3, none⟩) hcn (.slice (some ⟨mb, 0, none⟩) x.mu.length cap5))
 have BM7 := ak_ (blk_far (blk_far BM5.out (p := ⟨w2.heap.size, 2, none⟩) hmn (.slice (some ⟨cb, 0, none⟩) x.cl.length cap4)) (p := ⟨w2.heap.size, 3, none⟩) hmn (.slice (some ⟨mb, 0, none⟩) x.mu.length cap5))
 have BB7 := ak_ ((BB5.out.setCell (p := ⟨w2.heap.size, 2, none⟩) (show w.heap.size ≤ w2.heap.size by omega) (.slice (some ⟨cb, 0, none⟩) x.cl.length cap4)).setCell (p := ⟨w2.heap.size, 3, none⟩) (show w.heap.size ≤ w2.heap.size by omega) (.slice (some ⟨mb, 0, none⟩) x.mu.length cap5))
 have hcm := ak_ (show cb < mb by have := hmb5.out; have := blk_lt BL4.out; omega)
 refine tk1 (i := 8) (by (try simp only [g1_, g2_, g3_]); exact rfl) (by kernel_rfl) (by assumption) (by kernel_rfl) (by intro w hSw; (try dsimp only at hSw); go_simp; first | done | with_reducible rfl | rfl) (by exact fun _ _ _ h => h) ?_
 try simp only [Act.put, p1_, p2_, p3_]
 refine wpAnyH_ready (rs := [9]) (by kernel_rfl) (by simp) ?_
 refine AllReadyH.cons rfl (fun K hK => ?_) AllReadyH.nil
 go_simp
 refine hK.out _ _ ?hS_9 (fun hHeld => ?rest_9)
 case hS_9 => ((try dsimp only); exact ⟨blk_cell BK7.out 2, blk_cell BK7.out 3⟩)
 clear hK K
 try simp only [Act.put, p1_, p2_, p3_]
 refine wpAnyH_done (by kernel_rfl) ?_ _
 clear n52 n53 f52 n63 f63 b2 b3 hHeld
 clear BK3 BR3 BN3 BB3 BK4 BR4 BN4 BB4 BL4 BK5 BR5 BN5 BL5 BB5 BM5 BK6 BN6 hdd
 obtain ⟨W7, hW7⟩ : ∃ W7, W7 = (w5.setCell ⟨w2.heap.size, 2, none⟩ (.slice (some ⟨cb, 0, none⟩) x.cl.length cap4)).setCell ⟨w2.heap.size, 3, none⟩ (.slice (some ⟨mb, 0, none⟩) x.mu.length cap5) := ⟨_, rfl⟩
 rw [← hW7] at BK7 BN7 BR7 BL7 BM7 BB7 ⊢
 clear hW7
 obtain ⟨adp, A1, c1, hep, yp, l1, g1⟩ := slice_cells HW.out.p i z.prog (by rw [List.getElem?_map, HZ.out]; rfl)
 cases hep
 have HYP := ak_ yp
 have HL1 := ak_ l1
 have HG1 := ak_ g1
 clear yp l1 g1 y0
 have yp : W7.cell? (adp.add i) = some (.slice A1 z.prog.length c1) := (BB7.out.cell (World.block_lt_of_cell? w _ HYP.out)).trans HYP.out
 have y0 : W7.cell? (adc.add (i * 13)) = some (.int .i64 z.c.gor.state) := (BB7.out.cell hbc).trans HY0.out
 have y1 : W7.cell? ⟨(adc.add (i * 13)).block, (adc.add (i * 13)).off + 1, none⟩ = some (.bool z.c.gor.permit) := (BB7.out.cell (p := ⟨(adc.add (i * 13)).block, (adc.add (i * 13)).off + 1, none⟩) hbc).trans (HYC.out 1 _ (by decide) rfl)
 have y2 : W7.cell? ⟨(adc.add (i * 13)).block, (adc.add (i * 13)).off + 2, none⟩ = some (.int .i64 z.c.act) := (BB7.out.cell (p := ⟨(adc.add (i * 13)).block, (adc.add (i * 13)).off + 2, none⟩) hbc).trans (HYC.out 2 _ (by decide) rfl)
 have y3 : W7.cell? ⟨(adc.add (i * 13)).block, (adc.add (i * 13)).off + 3, none⟩ = some (.int .i64 z.c.pc) := (BB7.out.cell (p := ⟨(adc.add (i * 13)).block, (adc.add (i * 13)).off + 3, none⟩) hbc).trans (HYC.out 3 _ (by decide) rfl)
 have y4 : W7.cell? ⟨(adc.add (i * 13)).block, (adc.add (i * 13)).off + 4, none⟩ = some (.int .i64 z.c.worked) := (BB7.out.cell (p := ⟨(adc.add (i * 13)).block, (adc.add (i * 13)).off + 4, none⟩) hbc).trans (HYC.out 4 _ (by decide) rfl)
 have y5 : W7.cell? ⟨(adc.add (i * 13)).block, (adc.add (i * 13)).off + 5, none⟩ = some (.int .i64 z.c.ticket) := (BB7.out.cell (p := ⟨(adc.add (i * 13)).block, (adc.add (i * 13)).off + 5, none⟩) hbc).trans (HYC.out 5 _ (by decide) rfl)
 have y6 : W7.cell? ⟨(adc.add (i * 13)).block, (adc.add (i * 13)).off + 6, none⟩ = some (.bool z.c.first) := (BB7.out.cell (p := ⟨(adc.add (i * 13)).block, (adc.add (i * 13)).off + 6, none⟩) hbc).trans (HYC.out 6 _ (by decide) rfl)
 have y7 : W7.cell? ⟨(adc.add (i * 13)).block, (adc.add (i * 13)).off + 7, none⟩ = some (.bool z.c.told) := (BB7.out.cell (p := ⟨(adc.add (i * 13)).block, (adc.add (i * 13)).off + 7, none⟩) hbc).trans (HYC.out 7 _ (by decide) rfl)
 have y8 : W7.cell? ⟨(adc.add (i * 13)).block, (adc.add (i * 13)).off + 8, none⟩ = some (.int .i64 z.c.own.since) := (BB7.out.cell (p := ⟨(adc.add (i * 13)).block, (adc.add (i * 13)).off + 8, none⟩) hbc).trans (HYC.out 8 _ (by decide) rfl)
 have y9 : W7.cell? ⟨(adc.add (i * 13)).block, (adc.add (i * 13)).off + 9, none⟩ = some (.bool z.c.own.starving) := (BB7.out.cell (p := ⟨(adc.add (i * 13)).block, (adc.add (i * 13)).off + 9, none⟩) hbc).trans (HYC.out 9 _ (by decide) rfl)
 have y10 : W7.cell? ⟨(adc.add (i * 13)).block, (adc.add (i * 13)).off + 10, none⟩ = some (.bool z.c.own.awake) := (BB7.out.cell (p := ⟨(adc.add (i * 13)).block, (adc.add (i * 13)).off + 10, none⟩) hbc).trans (HYC.out 10 _ (by decide) rfl)
 have y11 : W7.cell? ⟨(adc.add (i * 13)).block, (adc.add (i * 13)).off + 11, none⟩ = some (.int .i64 z.c.own.rounds) := (BB7.out.cell (p := ⟨(adc.add (i * 13)).block, (adc.add (i * 13)).off + 11, none⟩) hbc).trans (HYC.out 11 _ (by decide) rfl)
 have y12 : W7.cell? ⟨(adc.add (i * 13)).block, (adc.add (i * 13)).off + 12, none⟩ = some (.int .i64 z.c.own.old) := (BB7.out.cell (p := ⟨(adc.add (i * 13)).block, (adc.add (i * 13)).off + 12, none⟩) hbc).trans (HYC.out 12 _ (by decide) rfl)
 have k1 : W7.cell? ⟨w.heap.size, 1, none⟩ = some (.slice (some adp) x.cl.length cp) := blk_cell BK7.out 1
 have k2 : W7.cell? ⟨w.heap.size, 2, none⟩ = some (.slice (some adc) x.cl.length cc) := blk_cell BK7.out 2
 go_wp2
 have S7 : ∀ W', Below W7.heap.size W7 W' → W'.cell? ⟨w.heap.size, 1, none⟩ = some (.slice (some adp) x.cl.length cp) ∧ W'.cell? ⟨w.heap.size, 2, none⟩ = some (.slice (some adc) x.cl.length cc) ∧ W'.cell? (adp.add i) = some (.slice A1 z.prog.length c1) ∧ W'.cell? (adc.add (i * 13)) = some (.int .i64 z.c.gor.state) ∧ W'.cell? ⟨(adc.add (i * 13)).block, (adc.add (i * 13)).off + 1, none⟩ = some (.bool z.c.gor.permit) ∧ W'.cell? ⟨(adc.add (i * 13)).block, (adc.add (i * 13)).off + 2, none⟩ = some (.int .i64 z.c.act) ∧ W'.cell? ⟨(adc.add (i * 13)).block, (adc.add (i * 13)).off + 3, none⟩ = some (.int .i64 z.c.pc) ∧ W'.cell? ⟨(adc.add (i * 13)).block, (adc.add (i * 13)).off + 4, none⟩ = some (.int .i64 z.c.worked) ∧ W'.cell? ⟨(adc.add (i * 13)).block, (adc.add (i * 13)).off + 5, none⟩ = some (.int .i64 z.c.ticket) ∧ W'.cell? ⟨(adc.add (i * 13)).block, (adc.add (i * 13)).off + 6, none⟩ = some (.bool z.c.first) ∧ W'.cell? ⟨(adc.add (i * 13)).block, (adc.add (i * 13)).off + 7, none⟩ = some (.bool z.c.told) ∧ W'.cell? ⟨(adc.add (i * 13)).block, (adc.add (i * 13)).off + 8, none⟩ = some (.int .i64 z.c.own.since) ∧ W'.cell? ⟨(adc.add (i * 13)).block, (adc.add (i * 13)).off + 9, none⟩ = some (.bool z.c.own.starving) ∧ W'.cell? ⟨(adc.add (i * 13)).block, (adc.add (i * 13)).off + 10, none⟩ = some (.bool z.c.own.awake) ∧ W'.cell? ⟨(adc.add (i * 13)).block, (adc.add (i * 13)).off + 11, none⟩ = some (.int .i64 z.c.own.rounds) ∧ W'.cell? ⟨(adc.add (i * 13)).block, (adc.add (i * 13)).off + 12, none⟩ = some (.int .i64 z.c.own.old) := fun W' hb => ⟨(hb.cell (World.block_lt_of_cell? W7 _ k1)).trans k1, (hb.cell (World.block_lt_of_cell? W7 _ k2)).trans k2, (hb.cell (World.block_lt_of_cell? W7 _ yp)).trans yp, (hb.cell (World.block_lt_of_cell? W7 _ y0)).trans y0, (hb.cell (World.block_lt_of_cell? W7 _ y1)).trans y1, (hb.cell (World.block_lt_of_cell? W7 _ y2)).trans y2, (hb.cell (World.block_lt_of_cell? W7 _ y3)).trans y3, (hb.cell (World.block_lt_of_cell? W7 _ y4)).trans y4, (hb.cell (World.block_lt_of_cell? W7 _ y5)).trans y5, (hb.cell (World.block_lt_of_cell? W7 _ y6)).trans y6, (hb.cell (World.block_lt_of_cell? W7 _ y7)).trans y7, (hb.cell (World.block_lt_of_cell? W7 _ y8)).trans y8, (hb.cell (World.block_lt_of_cell? W7 _ y9)).trans y9, (hb.cell (World.block_lt_of_cell? W7 _ y10)).trans y10, (hb.cell (World.block_lt_of_cell? W7 _ y11)).trans y11, (hb.cell (World.block_lt_of_cell? W7 _ y12)).trans y12⟩
 have HS7 := ak_ S7
 clear S7
 refine wp_region_held_drew (S := (fun W' => W'.cell? ⟨w.heap.size, 1, none⟩ = some (.slice (some adp) x.cl.length cp) ∧ W'.cell? ⟨w.heap.size, 2, none⟩ = some (.slice (some adc) x.cl.length cc) ∧ W'.cell? (adp.add i) = some (.slice A1 z.prog.length c1) ∧ W'.cell? (adc.add (i * 13)) = some (.int .i64 z.c.gor.state) ∧ W'.cell? ⟨(adc.add (i * 13)).block, (adc.add (i * 13)).off + 1, none⟩ = some (.bool z.c.gor.permit) ∧ W'.cell? ⟨(adc.add (i * 13)).block, (adc.add (i * 13)).off + 2, none⟩ = some (.int .i64 z.c.act) ∧ W'.cell? ⟨(adc.add (i * 13)).block, (adc.add (i * 13)).off + 3, none⟩ = some (.int .i64 z.c.pc) ∧ W'.cell? ⟨(adc.add (i * 13)).block, (adc.add (i * 13)).off + 4, none⟩ = some (.int .i64 z.c.worked) ∧ W'.cell? ⟨(adc.add (i * 13)).block, (adc.add (i * 13)).off + 5, none⟩ = some (.int .i64 z.c.ticket) ∧ W'.cell? ⟨(adc.add (i * 13)).block, (adc.add (i * 13)).off + 6, none⟩ = some (.bool z.c.first) ∧ W'.cell? ⟨(adc.add (i * 13)).block, (adc.add (i * 13)).off + 7, none⟩ = some (.bool z.c.told) ∧ W'.cell? ⟨(adc.add (i * 13)).block, (adc.add (i * 13)).off + 8, none⟩ = some (.int .i64 z.c.own.since) ∧ W'.cell? ⟨(adc.add (i * 13)).block, (adc.add (i * 13)).off + 9, none⟩ = some (.bool z.c.own.starving) ∧ W'.cell? ⟨(adc.add (i * 13)).block, (adc.add (i * 13)).off + 10, none⟩ = some (.bool z.c.own.awake) ∧ W'.cell? ⟨(adc.add (i * 13)).block, (adc.add (i * 13)).off + 11, none⟩ = some (.int .i64 z.c.own.rounds) ∧ W'.cell? ⟨(adc.add (i * 13)).block, (adc.add (i * 13)).off + 12, none⟩ = some (.int .i64 z.c.own.old))) (by kernel_rfl) ?hS_11 (fun hHeld => ?rest_11)
 case hS_11 => ((try dsimp only); exact HS7.out _ (below_drew (Below.refl _ _)))
 refine tk1 (i := 0) (by (try simp only [g1_, g2_, g3_]); exact rfl) (by kernel_rfl) (by assumption) (by kernel_rfl) (by intro w hSw; (try dsimp only at hSw); go_simp; first | done | with_reducible rfl | rfl) (by exact fun _ _ _ h => h) ?_
 try simp only [Act.put, p1_, p2_, p3_]
 refine tk1 (i := 1) (by (try simp only [g1_, g2_, g3_]); exact rfl) (by kernel_rfl) (by assumption) (by kernel_rfl) (by intro w hSw; (try dsimp only at hSw); go_simp; first | done | with_reducible rfl | rfl) (by exact fun _ _ _ h => h) ?_
 try simp only [Act.put, p1_, p2_, p3_]
 refine tk1 (i := 2) (by (try simp only [g1_, g2_, g3_]); exact rfl) (by kernel_rfl) (by assumption) (by kernel_rfl) (by intro w hSw; (try dsimp only at hSw); go_simp; first | done | with_reducible rfl | rfl) (by exact fun _ _ _ h => h) ?_
 try simp only [Act.put, p1_, p2_, p3_]
 refine tk1 (i := 3) (by (try simp only [g1_, g2_, g3_]); exact rfl) (by kernel_rfl) (by assumption) (by kernel_rfl) (by intro w hSw; (try dsimp only at hSw); go_simp; first | done | with_reducible rfl | rfl) (by exact fun _ _ _ h => h) ?_
 try simp only [Act.put, p1_, p2_, p3_]
 refine tk1 (i := 4) (by (try simp only [g1_, g2_, g3_]); exact rfl) (by kernel_rfl) (by assumption) (by kernel_rfl) (by intro w hSw; (try dsimp only at hSw); go_simp; first | done | with_reducible rfl | rfl) (by exact fun _ _ _ h => h) ?_
 try simp only [Act.put, p1_, p2_, p3_]
 refine tk1 (i := 5) (by (try simp only [g1_, g2_, g3_]); exact rfl) (by kernel_rfl) (by assumption) (by kernel_rfl) (by intro w hSw; (try dsimp only at hSw); go_simp; first | done | with_reducible rfl | rfl) (by exact fun _ _ _ h => h) ?_
 try simp only [Act.put, p1_, p2_, p3_]
 refine tk1 (i := 6) (by (try simp only [g1_, g2_, g3_]); exact rfl) (by kernel_rfl) (by assumption) (by kernel_rfl) (by intro w hSw; (try dsimp only at hSw); go_simp; first | done | with_reducible rfl | rfl) (by exact fun _ _ _ h => h) ?_
 try simp only [Act.put, p1_, p2_, p3_]
 refine tk1 (i := 7) (by (try simp only [g1_, g2_, g3_]); exact rfl) (by kernel_rfl) (by assumption) (by kernel_rfl) (by intro w hSw; (try dsimp only at hSw); go_simp; first | done | with_reducible rfl | rfl) (by exact fun _ _ _ h => h) ?_
 try simp only [Act.put, p1_, p2_, p3_]
 refine tk1 (i := 8) (by (try simp only [g1_, g2_, g3_]); exact rfl) (by kernel_rfl) (by assumption) (by kernel_rfl) (by intro w hSw; (try dsimp only at hSw); go_simp; first | done | with_reducible rfl | rfl) (by exact fun _ _ _ h => h) ?_
 try simp only [Act.put, p1_, p2_, p3_]
 refine tk1 (i := 9) (by (try simp only [g1_, g2_, g3_]); exact rfl) (by kernel_rfl) (by assumption) (by kernel_rfl) (by intro w hSw; (try dsimp only at hSw); go_simp; first | done | with_reducible rfl | rfl) (by exact fun _ _ _ h => h) ?_
 try simp only [Act.put, p1_, p2_, p3_]
 have z0 : (W7.alloc (.cells #[.int .i64 0, .bool false, .int .i64 0, .int .i64 0, .int .i64 0, .int .i64 0, .bool false, .bool false, .int .i64 0, .bool false, .bool false, .int .i64 0, .int .i64 0] 44)).drew.cell? ⟨W7.heap.size, 0, none⟩ = some (.int .i64 0) := blk_cell (blk_new W7 (.cells #[.int .i64 0, .bool false, .int .i64 0, .int .i64 0, .int .i64 0, .int .i64 0, .bool false, .bool false, .int .i64 0, .bool false, .bool false, .int .i64 0, .int .i64 0] 44)) 0
 have fz0 : (W7.alloc (.cells #[.int .i64 0, .bool false, .int .i64 0, .int .i64 0, .int .i64 0, .int .i64 0, .bool false, .bool false, .int .i64 0, .bool false, .bool false, .int .i64 0, .int .i64 0] 44)).drew.frozen? ⟨W7.heap.size, 0, none⟩ = false := blk_frozen (blk_new W7 (.cells #[.int .i64 0, .bool false, .int .i64 0, .int .i64 0, .int .i64 0, .int .i64 0, .bool false, .bool false, .int .i64 0, .bool false, .bool false, .int .i64 0, .int .i64 0] 44)) 0
 have z1 : (W7.alloc (.cells #[.int .i64 0, .bool false, .int .i64 0, .int .i64 0, .int .i64 0, .int .i64 0, .bool false, .bool false, .int .i64 0, .bool false, .bool false, .int .i64 0, .int .i64 0] 44)).drew.cell? ⟨W7.heap.size, 1, none⟩ = some (.bool false) := blk_cell (blk_new W7 (.cells #[.int .i64 0, .bool false, .int .i64 0, .int .i64 0, .int .i64 0, .int .i64 0, .bool false, .bool false, .int .i64 0, .bool false, .bool false, .int .i64 0, .int .i64 0] 44)) 1
 have fz1 : (W7.alloc (.cells #[.int .i64 0, .bool false, .int .i64 0, .int .i64 0, .int .i64 0, .int .i64 0, .bool false, .bool false, .int .i64 0, .bool false, .bool false, .int .i64 0, .int .i64 0] 44)).drew.frozen? ⟨W7.heap.size, 1, none⟩ = false := blk_frozen (blk_new W7 (.cells #[.int .i64 0, .bool false, .int .i64 0, .int .i64 0, .int .i64 0, .int .i64 0, .bool false, .bool false, .int .i64 0, .bool false, .bool false, .int .i64 0, .int .i64 0] 44)) 1
 have z2 : (W7.alloc (.cells #[.int .i64 0, .bool false, .int .i64 0, .int .i64 0, .int .i64 0, .int .i64 0, .bool false, .bool false, .int .i64 0, .bool false, .bool false, .int .i64 0, .int .i64 0] 44)).drew.cell? ⟨W7.heap.size, 2, none⟩ = some (.int .i64 0) := blk_cell (blk_new W7 (.cells #[.int .i64 0, .bool false, .int .i64 0, .int .i64 0, .int .i64 0, .int .i64 0, .bool false, .bool false, .int .i64 0, .bool false, .bool false, .int .i64 0, .int .i64 0] 44)) 2
 have fz2 : (W7.alloc (.cells #[.int .i64 0, .bool false, .int .i64 0, .int .i64 0, .int .i64 0, .int .i64 0, .bool false, .bool false, .int .i64 0, .bool false, .bool false, .int .i64 0, .int .i64 0] 44)).drew.frozen? ⟨W7.heap.size, 2, none⟩ = false := blk_frozen (blk_new W7 (.cells #[.int .i64 0, .bool false, .int .i64 0, .int .i64 0, .int .i64 0, .int .i64 0, .bool false, .bool false, .int .i64 0, .bool false, .bool false, .int .i64 0, .int .i64 0] 44)) 2
 have z3 : (W7.alloc (.cells #[.int .i64 0, .bool false, .int .i64 0, .int .i64 0, .int .i64 0, .int .i64 0, .bool false, .bool false, .int .i64 0, .bool false, .bool false, .int .i64 0, .int .i64 0] 44)).drew.cell? ⟨W7.heap.size, 3, none⟩ = some (.int .i64 0) := blk_cell (blk_new W7 (.cells #[.int .i64 0, .bool false, .int .i64 0, .int .i64 0, .int .i64 0, .int .i64 0, .bool false, .bool false, .int .i64 0, .bool false, .bool false, .int .i64 0, .int .i64 0] 44)) 3
 have fz3 : (W7.alloc (.cells #[.int .i64 0, .bool false, .int .i64 0, .int .i64 0, .int .i64 0, .int .i64 0, .bool false, .bool false, .int .i64 0, .bool false, .bool false, .int .i64 0, .int .i64 0] 44)).drew.frozen? ⟨W7.heap.size, 3, none⟩ = false := blk_frozen (blk_new W7 (.cells #[.int .i64 0, .bool false, .int .i64 0, .int .i64 0, .int .i64 0, .int .i64 0, .bool false, .bool false, .int .i64 0, .bool false, .bool false, .int .i64 0, .int .i64 0] 44)) 3
 have z4 : (W7.alloc (.cells #[.int .i64 0, .bool false, .int .i64 0, .int .i64 0, .int .i64 0, .int .i64 0, .bool false, .bool false, .int .i64 0, .bool false, .bool false, .int .i64 0, .int .i64 0] 44)).drew.cell? ⟨W7.heap.size, 4, none⟩ = some (.int .i64 0) := blk_cell (blk_new W7 (.cells #[.int .i64 0, .bool false, .int .i64 0, .int .i64 0, .int .i64 0, .int .i64 0, .bool false, .bool false, .int .i64 0, .bool false, .bool false, .int .i64 0, .int .i64 0] 44)) 4
 have fz4 : (W7.alloc (.cells #[.int .i64 0, .bool false, .int .i64 0, .int .i64 0, .int .i64 0, .int .i64 0, .bool false, .bool false, .int .i64 0, .bool false, .bool false, .int .i64 0, .int .i64 0] 44)).drew.frozen? ⟨W7.heap.size, 4, none⟩ = false := blk_frozen (blk_new W7 (.cells #[.int .i64 0, .bool false, .int .i64 0, .int .i64 0, .int .i64 0, .int .i64 0, .bool false, .bool false, .int .i64 0, .bool false, .bool false, .int .i64 0, .int .i64 0] 44)) 4
 have z5 : (W7.alloc (.cells #[.int .i64 0, .bool false, .int .i64 0, .int .i64 0, .int .i64 0, .int .i64 0, .bool false, .bool false, .int .i64 0, .bool false, .bool false, .int .i64 0, .int .i64 0] 44)).drew.cell? ⟨W7.heap.size, 5, none⟩ = some (.int .i64 0) := blk_cell (blk_new W7 (.cells #[.int .i64 0, .bool false, .int .i64 0, .int .i64 0, .int .i64 0, .int .i64 0, .bool false, .bool false, .int .i64 0, .bool false, .bool false, .int .i64 0, .int .i64 0] 44)) 5
 have fz5 : (W7.alloc (.cells #[.int .i64 0, .bool false, .int .i64 0, .int .i64 0, .int .i64 0, .int .i64 0, .bool false, .bool false, .int .i64 0, .bool false, .bool false, .int .i64 0, .int .i64 0] 44)).drew.frozen? ⟨W7.heap.size, 5, none⟩ = false := blk_frozen (blk_new W7 (.cells #[.int .i64 0, .bool false, .int .i64 0, .int .i64 0, .int .i64 0, .int .i64 0, .bool false, .bool false, .int .i64 0, .bool false, .bool false, .int .i64 0, .int .i64 0] 44)) 5
 have z6 : (W7.alloc (.cells #[.int .i64 0, .bool false, .int .i64 0, .int .i64 0, .int .i64 0, .int .i64 0, .bool false, .bool false, .int .i64 0, .bool false, .bool false, .int .i64 0, .int .i64 0] 44)).drew.cell? ⟨W7.heap.size, 6, none⟩ = some (.bool false) := blk_cell (blk_new W7 (.cells #[.int .i64 0, .bool false, .int .i64 0, .int .i64 0, .int .i64 0, .int .i64 0, .bool false, .bool false, .int .i64 0, .bool false, .bool false, .int .i64 0, .int .i64 0] 44)) 6
 have fz6 : (W7.alloc (.cells #[.int .i64 0, .bool false, .int .i64 0, .int .i64 0, .int .i64 0, .int .i64 0, .bool false, .bool false, .int .i64 0, .bool false, .bool false, .int .i64 0, .int .i64 0] 44)).drew.frozen? ⟨W7.heap.size, 6, none⟩ = false := blk_frozen (blk_new W7 (.cells #[.int .i64 0, .bool false, .int .i64 0, .int .i64 0, .int .i64 0, .int .i64 0, .bool false, .bool false, .int .i64 0, .bool false, .bool false, .int .i64 0, .int .i64 0] 44)) 6
 have z7 : (W7.alloc (.cells #[.int .i64 0, .bool false, .int .i64 0, .int .i64 0, .int .i64 0, .int .i64 0, .bool false, .bool false, .int .i64 0, .bool false, .bool false, .int .i64 0, .int .i64 0] 44)).drew.cell? ⟨W7.heap.size, 7, none⟩ = some (.bool false) := blk_cell (blk_new W7 (.cells #[.int .i64 0, .bool false, .int .i64 0, .int .i64 0, .int .i64 0, .int .i64 0, .bool false, .bool false, .int .i64 0, .bool false, .bool false, .int .i64 0, .int .i64 0] 44)) 7
 have fz7 : (W7.alloc (.cells #[.int .i64 0, .bool false, .int .i64 0, .int .i64 0, .int .i64 0, .int .i64 0, .bool false, .bool false, .int .i64 0, .bool false, .bool false, .int .i64 0, .int .i64 0] 44)).drew.frozen? ⟨W7.heap.size, 7, none⟩ = false := blk_frozen (blk_new W7 (.cells #[.int .i64 0, .bool false, .int .i64 0, .int .i64 0, .int .i64 0, .int .i64 0, .bool false, .bool false, .int .i64 0, .bool false, .bool false, .int .i64 0, .int .i64 0] 44)) 7
 have z8 : (W7.alloc (.cells #[.int .i64 0, .bool false, .int .i64 0, .int .i64 0, .int .i64 0, .int .i64 0, .bool false, .bool false, .int .i64 0, .bool false, .bool false, .int .i64 0, .int .i64 0] 44)).drew.cell? ⟨W7.heap.size, 8, none⟩ = some (.int .i64 0) := blk_cell (blk_new W7 (.cells #[.int .i64 0, .bool false, .int .i64 0, .int .i64 0, .int .i64 0, .int .i64 0, .bool false, .bool false, .int .i64 0, .bool false, .bool false, .int .i64 0, .int .i64 0] 44)) 8
 have fz8 : (W7.alloc (.cells #[.int .i64 0, .bool false, .int .i64 0, .int .i64 0, .int .i64 0, .int .i64 0, .bool false, .bool false, .int .i64 0, .bool false, .bool false, .int .i64 0, .int .i64 0] 44)).drew.frozen? ⟨W7.heap.size, 8, none⟩ = false := blk_frozen (blk_new W7 (.cells #[.int .i64 0, .bool false, .int .i64 0, .int .i64 0, .int .i64 0, .int .i64 0, .bool false, .bool false, .int .i64 0, .bool false, .bool false, .int .i64 0, .int .i64 0] 44)) 8
 have z9 : (W7.alloc (.cells #[.int .i64 0, .bool false, .int .i64 0, .int .i64 0, .int .i64 0, .int .i64 0, .bool false, .bool false, .int .i64 0, .bool false, .bool false, .int .i64 0, .int .i64 0] 44)).drew.cell? ⟨W7.heap.size, 9, none⟩ = some (.bool false) := blk_cell (blk_new W7 (.cells #[.int .i64 0, .bool false, .int .i64 0, .int .i64 0, .int .i64 0, .int .i64 0, .bool false, .bool false, .int .i64 0, .bool false, .bool false, .int .i64 0, .int .i64 0] 44)) 9
 have fz9 : (W7.alloc (.cells #[.int .i64 0, .bool false, .int .i64 0, .int .i64 0, .int .i64 0, .int .i64 0, .bool false, .bool false, .int .i64 0, .bool false, .bool false, .int .i64 0, .int .i64 0] 44)).drew.frozen? ⟨W7.heap.size, 9, none⟩ = false := blk_frozen (blk_new W7 (.cells #[.int .i64 0, .bool false, .int .i64 0, .int .i64 0, .int .i64 0, .int .i64 0, .bool false, .bool false, .int .i64 0, .bool false, .bool false, .int .i64 0, .int .i64 0] 44)) 9
 have z10 : (W7.alloc (.cells #[.int .i64 0, .bool false, .int .i64 0, .int .i64 0, .int .i64 0, .int .i64 0, .bool false, .bool false, .int .i64 0, .bool false, .bool false, .int .i64 0, .int .i64 0] 44)).drew.cell? ⟨W7.heap.size, 10, none⟩ = some (.bool false) := blk_cell (blk_new W7 (.cells #[.int .i64 0, .bool false, .int .i64 0, .int .i64 0, .int .i64 0, .int .i64 0, .bool false, .bool false, .int .i64 0, .bool false, .bool false, .int .i64 0, .int .i64 0] 44)) 10
 have fz10 : (W7.alloc (.cells #[.int .i64 0, .bool false, .int .i64 0, .int .i64 0, .int .i64 0, .int .i64 0, .bool false, .bool false, .int .i64 0, .bool false, .bool false, .int .i64 0, .int .i64 0] 44)).drew.frozen? ⟨W7.heap.size, 10, none⟩ = false := blk_frozen (blk_new W7 (.cells #[.int .i64 0, .bool false, .int .i64 0, .int .i64 0, .int .i64 0, .int .i64 0, .bool false, .bool false, .int .i64 0, .bool false, .bool false, .int .i64 0, .int .i64 0] 44)) 10
 have z11 : (W7.alloc (.cells #[.int .i64 0, .bool false, .int .i64 0, .int .i64 0, .int .i64 0, .int .i64 0, .bool false, .bool false, .int .i64 0, .bool false, .bool false, .int .i64 0, .int .i64 0] 44)).drew.cell? ⟨W7.heap.size, 11, none⟩ = some (.int .i64 0) := blk_cell (blk_new W7 (.cells #[.int .i64 0, .bool false, .int .i64 0, .int .i64 0, .int .i64 0, .int .i64 0, .bool false, .bool false, .int .i64 0, .bool false, .bool false, .int .i64 0, .int .i64 0] 44)) 11
 have fz11 : (W7.alloc (.cells #[.int .i64 0, .bool false, .int .i64 0, .int .i64 0, .int .i64 0, .int .i64 0, .bool false, .bool false, .int .i64 0, .bool false, .bool false, .int .i64 0, .int .i64 0] 44)).drew.frozen? ⟨W7.heap.size, 11, none⟩ = false := blk_frozen (blk_new W7 (.cells #[.int .i64 0, .bool false, .int .i64 0, .int .i64 0, .int .i64 0, .int .i64 0, .bool false, .bool false, .int .i64 0, .bool false, .bool false, .int .i64 0, .int .i64 0] 44)) 11
 have z12 : (W7.alloc (.cells #[.int .i64 0, .bool false, .int .i64 0, .int .i64 0, .int .i64 0, .int .i64 0, .bool false, .bool false, .int .i64 0, .bool false, .bool false, .int .i64 0, .int .i64 0] 44)).drew.cell? ⟨W7.heap.size, 12, none⟩ = some (.int .i64 0) := blk_cell (blk_new W7 (.cells #[.int .i64 0, .bool false, .int .i64 0, .int .i64 0, .int .i64 0, .int .i64 0, .bool false, .bool false, .int .i64 0, .bool false, .bool false, .int .i64 0, .int .i64 0] 44)) 12
 have fz12 : (W7.alloc (.cells #[.int .i64 0, .bool false, .int .i64 0, .int .i64 0, .int .i64 0, .int .i64 0, .bool false, .bool false, .int .i64 0, .bool false, .bool false, .int .i64 0, .int .i64 0] 44)).drew.frozen? ⟨W7.heap.size, 12, none⟩ = false := blk_frozen (blk_new W7 (.cells #[.int .i64 0, .bool false, .int .i64 0, .int .i64 0, .int .i64 0, .int .i64 0, .bool false, .bool false, .int .i64 0, .bool false, .bool false, .int .i64 0, .int .i64 0] 44)) 12
 refine wpAnyH_ready (rs := [10]) (by kernel_rfl) (by simp) ?_
 refine AllReadyH.cons rfl (fun K hK => ?_) AllReadyH.nil
 go_simp
 refine hK.out _ _ ?hS_22 (fun hHeld => ?rest_22)
 case hS_22 => ((try dsimp only); exact HS7.out _ (below_drew (bel2 (Below.refl _ _) _)))
 clear hK K
 try simp only [Act.put, p1_, p2_, p3_]
 refine tk1 (i := 11) (by (try simp only [g1_, g2_, g3_]); exact rfl) (by kernel_rfl) (by assumption) (by kernel_rfl) (by intro w hSw; (try dsimp only at hSw); go_simp; first | done | with_reducible rfl | rfl) (by exact fun _ _ _ h => h) ?_
 try simp only [Act.put, p1_, p2_, p3_]
 refine wpAnyH_ready (rs := [12]) (by kernel_rfl) (by simp) ?_
 refine AllReadyH.cons rfl (fun K hK => ?_) AllReadyH.nil
 go_simp
 refine hK.out _ _ (HS7.out _ (below_drew (bel2 (Below.refl _ _) _))) (fun hHeld => ?_)
 clear hK K
 try simp only [Act.put, List.setIfInBounds_toArray, List.set_cons_zero, List.set_cons_succ]
 refine wpAnyH_done (by kernel_rfl) ?_ _
 clear hHeld yp k1 k2 HS7 y0 z0 fz0 y1 z1 fz1 y2 z2 fz2 y3 z3 fz3 y4 z4 fz4 y5 z5 fz5 y6 z6 fz6 y7 z7 fz7 y8 z8 fz8 y9 z9 fz9 y10 z10 fz10 y11 z11 fz11 y12 z12 fz12
 have BC80 := blk_new W7 (.cells #[.int .i64 z.c.gor.state, .bool z.c.gor.permit, .int .i64 z.c.act, .int .i64 z.c.pc, .int .i64 z.c.worked, .int .i64 z.c.ticket, .bool z.c.first, .bool z.c.told, .int .i64 z.c.own.since, .bool z.c.own.starving, .bool z.c.own.awake, .int .i64 z.c.own.rounds, .int .i64 z.c.own.old] 44)
 have BC8 := ak_ (blk_drew BC80)
 have BR8 := ak_ (blk_drew (blk_alloc BR7.out (.cells #[.int .i64 z.c.gor.state, .bool z.c.gor.permit, .int .i64 z.c.act, .int .i64 z.c.pc, .int .i64 z.c.worked, .int .i64 z.c.ticket, .bool z.c.first, .bool z.c.told, .int .i64 z.c.own.since, .bool z.c.own.starving, .bool z.c.own.awake, .int .i64 z.c.own.rounds, .int .i64 z.c.own.old] 44)))
 have BN8 := ak_ (blk_drew (blk_alloc BN7.out (.cells #[.int .i64 z.c.gor.state, .bool z.c.gor.permit, .int .i64 z.c.act, .int .i64 z.c.pc, .int .i64 z.c.worked, .int .i64 z.c.ticket, .bool z.c.first, .bool z.c.told, .int .i64 z.c.own.since, .bool z.c.own.starving, .bool z.c.own.awake, .int .i64 z.c.own.rounds, .int .i64 z.c.own.old] 44)))
 have BL8 := ak_ (blk_drew (blk_alloc BL7.out (.cells #[.int .i64 z.c.gor.state, .bool z.c.gor.permit, .int .i64 z.c.act, .int .i64 z.c.pc, .int .i64 z.c.worked, .int .i64 z.c.ticket, .bool z.c.first, .bool z.c.told, .int .i64 z.c.own.since, .bool z.c.own.starving, .bool z.c.own.awake, .int .i64 z.c.own.rounds, .int .i64 z.c.own.old] 44)))
 have BM8 := ak_ (blk_drew (blk_alloc BM7.out (.cells #[.int .i64 z.c.gor.state, .bool z.c.gor.permit, .int .i64 z.c.act, .int .i64 z.c.pc, .int .i64 z.c.worked, .int .i64 z.c.ticket, .bool z.c.first, .bool z.c.told, .int .i64 z.c.own.since, .bool z.c.own.starving, .bool z.c.own.awake, .int .i64 z.c.own.rounds, .int .i64 z.c.own.old] 44)))
 have BB8 := ak_ (below_drew (bel2 BB7.out (.cells #[.int .i64 z.c.gor.state, .bool z.c.gor.permit, .int .i64 z.c.act, .int .i64 z.c.pc, .int .i64 z.c.worked, .int .i64 z.c.ticket, .bool z.c.first, .bool z.c.told, .int .i64 z.c.own.since, .bool z.c.own.starving, .bool z.c.own.awake, .int .i64 z.c.own.rounds, .int .i64 z.c.own.old] 44)))
 have hwn := ak_ (show w2.heap.size < W7.heap.size from blk_lt BN7.out)
 have hwc := ak_ (show cb < W7.heap.size from blk_lt BL7.out)
 have hwm := ak_ (show mb < W7.heap.size from blk_lt BM7.out)
 clear BC80 BR7 BN7 BL7 BM7 BB7 BK7
 generalize (W7.alloc (.cells #[.int .i64 z.c.gor.state, .bool z.c.gor.permit, .int .i64 z.c.act, .int .i64 z.c.pc, .int .i64 z.c.worked, .int .i64 z.c.ticket, .bool z.c.first, .bool z.c.told, .int .i64 z.c.own.since, .bool z.c.own.starving, .bool z.c.own.awake, .int .i64 z.c.own.rounds, .int .i64 z.c.own.old] 44)).drew = W8 at *
 have hC := G.out.c i z HZ.out
 have hP := G.out.progs i z HZ.out
 have hltz : z.c.act < z.prog.length := by
  have := hC.done
  have := hC.a1
  have := HRR.out
  omega
 obtain ⟨a, ha⟩ : ∃ a : Nat, z.c.act = a := ⟨z.c.act.toNat, by have := hC.a0; omega⟩
 have hal : (a : Int) < (z.prog.length : Int) := by omega
 have hall : a < z.prog.length := by omega
 have hza : z.prog[a]? = some z.cur := by
  unfold M.PC.cur
  rw [ha, List.getD_eq_getElem?_getD, Int.toNat_natCast, List.getElem?_eq_getElem hall]
  rfl
 obtain ⟨adq, heq, q0, qj⟩ := flat_cells HG1.out a z.cur hza
 cases heq
 have hbq := World.block_lt_of_cell? w _ (q0 _ rfl)
 have p0 : W8.cell? (adq.add (a * 2)) = some (.int .i64 z.cur.kind) := (BB8.out.cell hbq).trans (q0 _ rfl)
 have p1 : W8.cell? ⟨(adq.add (a * 2)).block, (adq.add (a * 2)).off + 1, none⟩ = some (.int .i64 z.cur.n) := (BB8.out.cell (p := ⟨(adq.add (a * 2)).block, (adq.add (a * 2)).off + 1, none⟩) hbq).trans (qj 1 _ (by decide) rfl)
 have d2 : W8.cell? ⟨W7.heap.size, 2, none⟩ = some (.int .i64 z.c.act) := blk_cell BC8.out 2
 rw [ha] at d2
 have hpl : z.prog.length ≤ 64 := hP.1
 have HA := ak_ ha
 have HCI := ak_ hC
 have HPR := ak_ hP
 clear q0 qj hza ha hC hP
 go_upto_region 10 with fail
 have BS10 := blk_new (W8.alloc (.cells #[.int .i64 z.cur.kind, .int .i64 z.cur.n] 49)) (.cells #[.pointer (some ⟨w2.heap.size, 0, none⟩), .pointer (some ⟨W7.heap.size, 0, none⟩), .pointer none, .int .i64 i, .int .i64 0, .bool false, .slice none 0 0] 81)
 rw [World.size_alloc] at BS10
 have BT10 := ak_ (blk_alloc (blk_new W8 (.cells #[.int .i64 z.cur.kind, .int .i64 z.cur.n] 49)) (.cells #[.pointer (some ⟨w2.heap.size, 0, none⟩), .pointer (some ⟨W7.heap.size, 0, none⟩), .pointer none, .int .i64 i, .int .i64 0, .bool false, .slice none 0 0] 81))
 have BR10 := ak_ (blk_alloc (blk_alloc BR8.out (.cells #[.int .i64 z.cur.kind, .int .i64 z.cur.n] 49)) (.cells #[.pointer (some ⟨w2.heap.size, 0, none⟩), .pointer (some ⟨W7.heap.size, 0, none⟩), .pointer none, .int .i64 i, .int .i64 0, .bool false, .slice none 0 0] 81))
 have BB10 := ak_ (bel2 (bel2 BB8.out (.cells #[.int .i64 z.cur.kind, .int .i64 z.cur.n] 49)) (.cells #[.pointer (some ⟨w2.heap.size, 0, none⟩), .pointer (some ⟨W7.heap.size, 0, none⟩), .pointer none, .int .i64 i, .int .i64 0, .bool false, .slice none 0 0] 81))
 have hw78 : W7.heap.size < W8.heap.size := blk_lt BC8.out
 have hcb3 := hcb4.out
 have h2n := hwn.out
 have h2c := hwc.out
 have h2m := hwm.out
 have hcmm := hcm.out
 have S10 : St (w.heap.size + 2) (⟨W8.heap.size + 1, w2.heap.size, W7.heap.size, mb, cb, (fun b => b = w.heap.size + 1 ∨ S b), []⟩ : Blk) (⟨x.now, .slice (some adp) x.cl.length cp, .slice (some ⟨cb, 0, none⟩) x.cl.length cap4, .slice (some ⟨mb, 0, none⟩) x.mu.length cap5, .slice At (tableOf x.sem).length ct, 0, z.c, .pointer none, (i : Int), 0, false, .slice none 0 0, [], x.mu, x.cl.map (·.c), tableOf x.sem⟩ : Sx) ((W8.alloc (.cells #[.int .i64 z.cur.kind, .int .i64 z.cur.n] 49)).alloc (.cells #[.pointer (some ⟨w2.heap.size, 0, none⟩), .pointer (some ⟨W7.heap.size, 0, none⟩), .pointer none, .int .i64 i, .int .i64 0, .bool false, .slice none 0 0] 81)) := by
  refine ⟨BS10, blk_alloc (blk_alloc (show W8.heap[w2.heap.size]? = some (.cells #[.int .i64 x.now, .slice (some adp) x.cl.length cp, .slice (some ⟨cb, 0, none⟩) x.cl.length cap4, .slice (some ⟨mb, 0, none⟩) x.mu.length cap5, .slice At (tableOf x.sem).length ct, .int .i64 0] 29 (0, 0)) from BN8.out) _) _, blk_alloc (blk_alloc BC8.out _) _, ⟨arr5, blk_alloc (blk_alloc BM8.out _) _, RM5.out⟩, ⟨arr4, blk_alloc (blk_alloc BL8.out _) _, RL4.out⟩, ?_, ?_, Kd.R_nil _ _ _ _ _, ?_, ?_, ?_⟩
  ·show W7.heap.size ≠ cb
   omega
  ·intro b hb
   rcases hb with e | e | e | e | e <;> dsimp only at e <;> omega
  ·intro W hk
   refine ⟨At, ct, rfl, HW.out.tc, (HWS.out W ((Kept.of_below BB10.out S).then_ hk ?_)).t⟩
   intro b hb
   rcases hb with (e | e | e | e | e) | (e | e)
   ·right; dsimp only at e; omega
   ·right; dsimp only at e; omega
   ·right; dsimp only at e; omega
   ·right; dsimp only at e; omega
   ·right; dsimp only at e; omega
   ·right; omega
   ·exact .inl e
  ·intro q hq
   cases hq
  ·intro b hb
   have hzz : w.heap.size + 1 < ((W8.alloc (.cells #[.int .i64 z.cur.kind, .int .i64 z.cur.n] 49)).alloc (.cells #[.pointer (some ⟨w2.heap.size, 0, none⟩), .pointer (some ⟨W7.heap.size, 0, none⟩), .pointer none, .int .i64 i, .int .i64 0, .bool false, .slice none 0 0] 81)).heap.size := by
    simp
    omega
   rcases hb with e | e
   ·omega
   ·have := HSB.out b e
    omega
 have HS10 := ak_ S10
 have k49 : ((W8.alloc (.cells #[.int .i64 z.cur.kind, .int .i64 z.cur.n] 49)).alloc (.cells #[.pointer (some ⟨w2.heap.size, 0, none⟩), .pointer (some ⟨W7.heap.size, 0, none⟩), .pointer none, .int .i64 i, .int .i64 0, .bool false, .slice none 0 0] 81)).cell? ⟨W8.heap.size, 0, none⟩ = some (.int .i64 z.cur.kind) := blk_cell BT10.out 0
 have n49 : ((W8.alloc (.cells #[.int .i64 z.cur.kind, .int .i64 z.cur.n] 49)).alloc (.cells #[.pointer (some ⟨w2.heap.size, 0, none⟩), .pointer (some ⟨W7.heap.size, 0, none⟩), .pointer none, .int .i64 i, .int .i64 0, .bool false, .slice none 0 0] 81)).cell? ⟨W8.heap.size, 1, none⟩ = some (.int .i64 z.cur.n) := blk_cell BT10.out 1
 have p3_ : ((W8.alloc (.cells #[.int .i64 z.cur.kind, .int .i64 z.cur.n] 49)).alloc (.cells #[.pointer (some ⟨w2.heap.size, 0, none⟩), .pointer (some ⟨W7.heap.size, 0, none⟩), .pointer none, .int .i64 i, .int .i64 0, .bool false, .slice none 0 0] 81)).cell? ⟨w2.heap.size, 3, none⟩ = some (.slice (some ⟨mb, 0, none⟩) x.mu.length cap5) := HS10.out.n3
 have hBz : w.heap.size + 2 ≤ ((W8.alloc (.cells #[.int .i64 z.cur.kind, .int .i64 z.cur.n] 49)).alloc (.cells #[.pointer (some ⟨w2.heap.size, 0, none⟩), .pointer (some ⟨W7.heap.size, 0, none⟩), .pointer none, .int .i64 i, .int .i64 0, .bool false, .slice none 0 0] 81)).heap.size := by
  simp
  omega
 clear S10 BS10 p0 p1 d2 BR8 BC8 BN8 BL8 BM8 BB8 hbq
 generalize (W8.alloc (.cells #[.int .i64 z.cur.kind, .int .i64 z.cur.n] 49)).alloc (.cells #[.pointer (some ⟨w2.heap.size, 0, none⟩), .pointer (some ⟨W7.heap.size, 0, none⟩), .pointer none, .int .i64 i, .int .i64 0, .bool false, .slice none 0 0] 81) = W10 at *
 go_upto_if 73 with fail
 go_cut [] from 71 (fun wc => ∃ s0 : Sx, s0.pv = .slice (some adp) x.cl.length cp ∧ s0.cv = .slice (some ⟨cb, 0, none⟩) x.cl.length cap4 ∧ s0.mv = .slice (some ⟨mb, 0, none⟩) x.mu.length cap5 ∧ Ax (⟨W8.heap.size + 1, w2.heap.size, W7.heap.size, mb, cb, (fun b => b = w.heap.size + 1 ∨ S b), []⟩ : Blk) s0 x i z ∧ Aside0 (St (w.heap.size + 2) (⟨W8.heap.size + 1, w2.heap.size, W7.heap.size, mb, cb, (fun b => b = w.heap.size + 1 ∨ S b), []⟩ : Blk) s0 wc) ∧ Aside0 (Below (w.heap.size + 2) W10 wc) ∧ Aside0 (wc.heap[W8.heap.size]? = some (.cells #[.int .i64 z.cur.kind, .int .i64 z.cur.n] 49 (0, 0))))
 case first =>
  by_cases hk : z.cur.kind = 3
  ·have hkb : (z.cur.kind != 3) = false := by simpa using hk
   have HKK := ak_ hk
   clear hk
   go_wp2
   go_meet
   exact ⟨_, rfl, rfl, rfl, ⟨rfl, rfl, rfl, rfl, rfl, rfl, rfl, rfl, rfl, rfl, ⟨_, _, _, rfl⟩, ⟨cap4, by rw [List.length_map]⟩, ⟨_, _, _, rfl⟩, fun q => absurd HKK.out q⟩, HS10, ⟨Below.refl _ _⟩, BT10⟩
  ·have hkb : (z.cur.kind != 3) = true := by simpa using hk
   have hok := M.cur_ok HPR.out HCI.out.a0 hltz
   obtain ⟨nn, hnn⟩ : ∃ nn : Nat, z.cur.n = nn := ⟨z.cur.n.toNat, by have := hok.2.2.1; omega⟩
   have hn4 : (nn : Int) < (x.mu.length : Int) := by
    have h4 := hok.2.2.2.2 hk
    have := G.out.mu
    omega
   have HNN := ak_ hnn
   have HKK := ak_ hk
   have n49' := n49
   rw [hnn] at n49'
   clear n49 hnn hk hok
   go_wp2
   refine wp_region_held_drew (S := (fun W => W.cell? ⟨W8.heap.size, 1, none⟩ = some (.int .i64 nn) ∧ W.cell? ⟨w2.heap.size, 3, none⟩ = some (.slice (some ⟨mb, 0, none⟩) x.mu.length cap5))) (by kernel_rfl) ?hS_25 (fun hHeld => ?rest_25)
   case hS_25 => ((try dsimp only); exact ⟨n49', p3_⟩)
   refine tk1 (i := 0) (by (try simp only [g1_, g2_, g3_]); exact rfl) (by kernel_rfl) (by assumption) (by kernel_rfl) (by intro w hSw; (try dsimp only at hSw); go_simp; first | done | with_reducible rfl | rfl) (by exact fun _ _ _ h => h) ?_
   try simp only [Act.put, p1_, p2_, p3_]
   refine tk1 (i := 1) (by (try simp only [g1_, g2_, g3_]); exact rfl) (by kernel_rfl) (by assumption) (by kernel_rfl) (by intro w hSw; (try dsimp only at hSw); go_simp; first | done | with_reducible rfl | rfl) (by exact fun _ _ _ h => h) ?_
   try simp only [Act.put, p1_, p2_, p3_]
   refine tk1 (i := 2) (by (try simp only [g1_, g2_, g3_]); exact rfl) (by kernel_rfl) (by assumption) (by kernel_rfl) (by intro w hSw; (try dsimp only at hSw); go_simp; first | done | with_reducible rfl | rfl) (by exact fun _ _ _ h => h) ?_
   try simp only [Act.put, p1_, p2_, p3_]
   refine tk1 (i := 3) (by (try simp only [g1_, g2_, g3_]); exact rfl) (by kernel_rfl) (by assumption) (by kernel_rfl) (by intro w hSw; (try dsimp only at hSw); go_simp; first | done | with_reducible rfl | rfl) (by exact fun _ _ _ h => h) ?_
   try simp only [Act.put, p1_, p2_, p3_]
   refine tk1 (i := 4) (by (try simp only [g1_, g2_, g3_]); exact rfl) (by kernel_rfl) (by assumption) (by kernel_rfl) (by intro w hSw; (try dsimp only at hSw); go_simp; first | done | with_reducible rfl | rfl) (by exact fun _ _ _ h => h) ?_
   try simp only [Act.put, p1_, p2_, p3_]
   refine tk1 (i := 5) (by (try simp only [g1_, g2_, g3_]); exact rfl) (by kernel_rfl) (by assumption) (by kernel_rfl) (by intro w hSw; (try dsimp only at hSw); go_simp; first | done | with_reducible rfl | rfl) (by exact fun _ _ _ h => h) ?_
   try simp only [Act.put, p1_, p2_, p3_]
   refine tk1 (i := 6) (by (try simp only [g1_, g2_, g3_]); exact rfl) (by kernel_rfl) (by assumption) (by kernel_rfl) (by intro w hSw; (try dsimp only at hSw); go_simp; first | done | with_reducible rfl | rfl) (by exact fun _ _ _ h => h) ?_
   try simp only [Act.put, p1_, p2_, p3_]
   refine tk1 (i := 7) (by (try simp only [g1_, g2_, g3_]); exact rfl) (by kernel_rfl) (by assumption) (by kernel_rfl) (by intro w hSw; (try dsimp only at hSw); go_simp; first | done | with_reducible rfl | rfl) (by exact fun _ _ _ h => h) ?_
   try simp only [Act.put, p1_, p2_, p3_]
   refine tk1 (i := 8) (by (try simp only [g1_, g2_, g3_]); exact rfl) (by kernel_rfl) (by assumption) (by kernel_rfl) (by intro w hSw; (try dsimp only at hSw); go_simp; first | done | with_reducible rfl | rfl) (by exact fun _ _ _ h => h) ?_
   try simp only [Act.put, p1_, p2_, p3_]
   refine tk1 (i := 9) (by (try simp only [g1_, g2_, g3_]); exact rfl) (by kernel_rfl) (by assumption) (by kernel_rfl) (by intro w hSw; (try dsimp only at hSw); go_simp; first | done | with_reducible rfl | rfl) (by exact fun _ _ _ h => h) ?_
   try simp only [Act.put, p1_, p2_, p3_]
   refine tk1 (i := 10) (by (try simp only [g1_, g2_, g3_]); exact rfl) (by kernel_rfl) (by assumption) (by kernel_rfl) (by intro w hSw; (try dsimp only at hSw); go_simp; first | done | with_reducible rfl | rfl) (by exact fun _ _ _ h => h) ?_
   try simp only [Act.put, p1_, p2_, p3_]
   have BTn : W10.drew.heap[W8.heap.size]? = some (.cells #[.int .i64 z.cur.kind, .int .i64 nn] 49 (0, 0)) := by rw [← HNN.out]; exact BT10.out
   have HS11 := ak_ (HS10.out.drew.putAt (nn : Int))
   have BT11 := ak_ (blk_far BTn (p := ⟨W8.heap.size + 1, 4, none⟩) (show W8.heap.size ≠ W8.heap.size + 1 by omega) (.int .i64 nn))
   have x4 : W10.drew.cell? ⟨W8.heap.size + 1, 4, none⟩ = some (.int .i64 0) := HS10.out.drew.s4
   have f4 : W10.drew.frozen? ⟨W8.heap.size + 1, 4, none⟩ = false := HS10.out.drew.fs4
   refine wpAnyH_ready (rs := [11]) (by kernel_rfl) (by simp) ?_
   refine AllReadyH.cons rfl (fun K hK => ?_) AllReadyH.nil
   go_simp
   refine hK.out _ _ ⟨blk_cell BT11.out 1, HS11.out.n3⟩ (fun hHeld => ?_)
   clear hK K
   try simp only [Act.put, List.setIfInBounds_toArray, List.set_cons_zero, List.set_cons_succ]
   refine tk1 (i := 12) (by (try simp only [g1_, g2_, g3_]); exact rfl) (by kernel_rfl) (by assumption) (by kernel_rfl) (by intro w hSw; (try dsimp only at hSw); go_simp; first | done | with_reducible rfl | rfl) (by exact fun _ _ _ h => h) ?_
   try simp only [Act.put, p1_, p2_, p3_]
   refine tk1 (i := 13) (by (try simp only [g1_, g2_, g3_]); exact rfl) (by kernel_rfl) (by assumption) (by kernel_rfl) (by intro w hSw; (try dsimp only at hSw); go_simp; first | done | with_reducible rfl | rfl) (by exact fun _ _ _ h => h) ?_
   try simp only [Act.put, p1_, p2_, p3_]
   have x2 : (W10.setCell ⟨W8.heap.size + 1, 4, none⟩ (.int .i64 nn)).drew.cell? ⟨W8.heap.size + 1, 2, none⟩ = some (.pointer none) := HS11.out.s2
   have f2 : (W10.setCell ⟨W8.heap.size + 1, 4, none⟩ (.int .i64 nn)).drew.frozen? ⟨W8.heap.size + 1, 2, none⟩ = false := HS11.out.fs2
   have HS12 := ak_ (HS11.out.putMp (.pointer (some ⟨mb, nn * 3, none⟩)))
   have BT12 := ak_ (blk_far BT11.out (p := ⟨W8.heap.size + 1, 2, none⟩) (show W8.heap.size ≠ W8.heap.size + 1 by omega) (.pointer (some ⟨mb, nn * 3, none⟩)))
   refine wpAnyH_ready (rs := [14]) (by kernel_rfl) (by simp) ?_
   refine AllReadyH.cons rfl (fun K hK => ?_) AllReadyH.nil
   go_simp
   refine hK.out _ _ ⟨blk_cell BT12.out 1, HS12.out.n3⟩ (fun hHeld => ?_)
   clear hK K
   try simp only [Act.put, List.setIfInBounds_toArray, List.set_cons_zero, List.set_cons_succ]
   refine wpAnyH_done (by kernel_rfl) ?_ _
   go_wp2
   go_meet
   exact ⟨_, rfl, rfl, rfl, ⟨rfl, rfl, rfl, rfl, rfl, rfl, rfl, rfl, rfl, rfl, ⟨_, _, _, rfl⟩, ⟨cap4, by rw [List.length_map]⟩, ⟨_, _, _, rfl⟩, fun _ => ⟨HNN.out.symm, by rw [HNN.out]; simp⟩⟩, HS12, ⟨((below_drew (Below.refl (w.heap.size + 2) W10)).setCell (p := ⟨W8.heap.size + 1, 4, none⟩) (show w.heap.size + 2 ≤ W8.heap.size + 1 by omega) _).setCell (p := ⟨W8.heap.size + 1, 2, none⟩) (show w.heap.size + 2 ≤ W8.heap.size + 1 by omega) _⟩, ⟨by rw [HNN.out]; exact BT12.out⟩⟩
 case rest =>
  obtain ⟨s0, e7, e8, e9, HA0, HS0, HB0, HT0⟩ := hcut
  have HE7 := ak_ e7
  have HE8 := ak_ e8
  have HE9 := ak_ e9
  have HAX := ak_ HA0
  clear e7 e8 e9 HA0 k49 n49 p3_
  have t0 : wc.cell? ⟨W8.heap.size, 0, none⟩ = some (.int .i64 z.cur.kind) := blk_cell HT0.out 0
  have t1 : wc.cell? ⟨W8.heap.size, 1, none⟩ = some (.int .i64 z.cur.n) := blk_cell HT0.out 1
  go_wp2_with fail
  refine (run_any HS0.out G.out HAX.out HZ.out HRR.out HST.out).mono ?_
  rintro e w11 ⟨rfl, hb11, s1, hT, h1⟩
  have HT := ak_ hT
  have H1 := ak_ h1
  have HB11 := ak_ (HB0.out.trans hb11)
  have o5 : w11.cell? ⟨W8.heap.size + 1, 5, none⟩ = some (.bool s1.over) := h1.s5
  clear hT h1 hb11 t0 t1
  go_upto_if 97 with fail
  go_cut [13, 14] from 94 (fun v13 v14 wd => Aside0 (St (w.heap.size + 2) (⟨W8.heap.size + 1, w2.heap.size, W7.heap.size, mb, cb, (fun b => b = w.heap.size + 1 ∨ S b), []⟩ : Blk) { s1 with c := M.fin z.prog s1.c s1.over } wd) ∧ Aside0 (Below (w.heap.size + 2) w11 wd))
  case first =>
   have hgor := HT.out.gor
   cases hov : s1.over with
   | false =>
    rw [hov] at o5
    have HF := ak_ (show M.fin z.prog s1.c s1.over = s1.c by rw [hov]; rfl)
    clear hov hgor
    go_wp2
    go_meet
    exact ⟨⟨by rw [HF.out]; exact H1.out⟩, ⟨Below.refl _ _⟩⟩
   | true =>
    have hg2 := hgor hov
    have HOV := ak_ hov
    have c0 : w11.cell? ⟨W7.heap.size, 0, none⟩ = some (.int .i64 0) := by have := H1.out.c0; rw [hg2] at this; exact this
    have c1 : w11.cell? ⟨W7.heap.size, 1, none⟩ = some (.bool false) := by have := H1.out.c1; rw [hg2] at this; exact this
    have c2 : w11.cell? ⟨W7.heap.size, 2, none⟩ = some (.int .i64 a) := by have := H1.out.c2; rw [HT.out.act, HA.out] at this; exact this
    have hwr : IntKind.i64.wrap ((a : Int) + 1) = (a : Int) + 1 := by rw [IntKind.wrap_i64]; omega
    rw [hov] at o5
    clear hov hgor hg2
    go_wp2_with fail
    refine (first_calls 0 false ((a : Int) + 1) _).mono ?_
    rintro e w12 ⟨rfl, hb12⟩
    have H12 := ak_ (H1.out.below hb12)
    have HB12 := ak_ (hb12.mono (show w.heap.size + 2 ≤ w11.heap.size from H1.out.Blt))
    clear hb12 c0 c1 c2
    have d0 : w12.cell? ⟨W7.heap.size, 0, none⟩ = some (.int .i64 s1.c.gor.state) := H12.out.c0
    have fd0 : w12.frozen? ⟨W7.heap.size, 0, none⟩ = false := H12.out.fc0
    have d1 : w12.cell? ⟨W7.heap.size, 1, none⟩ = some (.bool s1.c.gor.permit) := H12.out.c1
    have fd1 : w12.frozen? ⟨W7.heap.size, 1, none⟩ = false := H12.out.fc1
    have d2 : w12.cell? ⟨W7.heap.size, 2, none⟩ = some (.int .i64 s1.c.act) := H12.out.c2
    have fd2 : w12.frozen? ⟨W7.heap.size, 2, none⟩ = false := H12.out.fc2
    have d3 : w12.cell? ⟨W7.heap.size, 3, none⟩ = some (.int .i64 s1.c.pc) := H12.out.c3
    have fd3 : w12.frozen? ⟨W7.heap.size, 3, none⟩ = false := H12.out.fc3
    have d4 : w12.cell? ⟨W7.heap.size, 4, none⟩ = some (.int .i64 s1.c.worked) := H12.out.c4
    have fd4 : w12.frozen? ⟨W7.heap.size, 4, none⟩ = false := H12.out.fc4
    have d5 : w12.cell? ⟨W7.heap.size, 5, none⟩ = some (.int .i64 s1.c.ticket) := H12.out.c5
    have fd5 : w12.frozen? ⟨W7.heap.size, 5, none⟩ = false := H12.out.fc5
    have d6 : w12.cell? ⟨W7.heap.size, 6, none⟩ = some (.bool s1.c.first) := H12.out.c6
    have fd6 : w12.frozen? ⟨W7.heap.size, 6, none⟩ = false := H12.out.fc6
    have d7 : w12.cell? ⟨W7.heap.size, 7, none⟩ = some (.bool s1.c.told) := H12.out.c7
    have fd7 : w12.frozen? ⟨W7.heap.size, 7, none⟩ = false := H12.out.fc7
    have d8 : w12.cell? ⟨W7.heap.size, 8, none⟩ = some (.int .i64 s1.c.own.since) := H12.out.c8
    have fd8 : w12.frozen? ⟨W7.heap.size, 8, none⟩ = false := H12.out.fc8
    have d9 : w12.cell? ⟨W7.heap.size, 9, none⟩ = some (.bool s1.c.own.starving) := H12.out.c9
    have fd9 : w12.frozen? ⟨W7.heap.size, 9, none⟩ = false := H12.out.fc9
    have d10 : w12.cell? ⟨W7.heap.size, 10, none⟩ = some (.bool s1.c.own.awake) := H12.out.c10
    have fd10 : w12.frozen? ⟨W7.heap.size, 10, none⟩ = false := H12.out.fc10
    have d11 : w12.cell? ⟨W7.heap.size, 11, none⟩ = some (.int .i64 s1.c.own.rounds) := H12.out.c11
    have fd11 : w12.frozen? ⟨W7.heap.size, 11, none⟩ = false := H12.out.fc11
    have d12 : w12.cell? ⟨W7.heap.size, 12, none⟩ = some (.int .i64 s1.c.own.old) := H12.out.c12
    have fd12 : w12.frozen? ⟨W7.heap.size, 12, none⟩ = false := H12.out.fc12
    have HS13 := ak_ (show St (w.heap.size + 2) (⟨W8.heap.size + 1, w2.heap.size, W7.heap.size, mb, cb, (fun b => b = w.heap.size + 1 ∨ S b), []⟩ : Blk) { s1 with c := M.firstC ⟨0, false⟩ ((a : Int) + 1) } (((((((((((((w12.setCell ⟨W7.heap.size, 0, none⟩ (.int .i64 0)).setCell ⟨W7.heap.size, 1, none⟩ (.bool false)).setCell ⟨W7.heap.size, 2, none⟩ (.int .i64 ((a : Int) + 1))).setCell ⟨W7.heap.size, 3, none⟩ (.int .i64 0)).setCell ⟨W7.heap.size, 4, none⟩ (.int .i64 0)).setCell ⟨W7.heap.size, 5, none⟩ (.int .i64 0)).setCell ⟨W7.heap.size, 6, none⟩ (.bool false)).setCell ⟨W7.heap.size, 7, none⟩ (.bool false)).setCell ⟨W7.heap.size, 8, none⟩ (.int .i64 (-1))).setCell ⟨W7.heap.size, 9, none⟩ (.bool false)).setCell ⟨W7.heap.size, 10, none⟩ (.bool false)).setCell ⟨W7.heap.size, 11, none⟩ (.int .i64 0)).setCell ⟨W7.heap.size, 12, none⟩ (.int .i64 0)) from H12.out.putClient (M.firstC ⟨0, false⟩ ((a : Int) + 1)))
    have HB13 := ak_ (show Below (w.heap.size + 2) w11 (((((((((((((w12.setCell ⟨W7.heap.size, 0, none⟩ (.int .i64 0)).setCell ⟨W7.heap.size, 1, none⟩ (.bool false)).setCell ⟨W7.heap.size, 2, none⟩ (.int .i64 ((a : Int) + 1))).setCell ⟨W7.heap.size, 3, none⟩ (.int .i64 0)).setCell ⟨W7.heap.size, 4, none⟩ (.int .i64 0)).setCell ⟨W7.heap.size, 5, none⟩ (.int .i64 0)).setCell ⟨W7.heap.size, 6, none⟩ (.bool false)).setCell ⟨W7.heap.size, 7, none⟩ (.bool false)).setCell ⟨W7.heap.size, 8, none⟩ (.int .i64 (-1))).setCell ⟨W7.heap.size, 9, none⟩ (.bool false)).setCell ⟨W7.heap.size, 10, none⟩ (.bool false)).setCell ⟨W7.heap.size, 11, none⟩ (.int .i64 0)).setCell ⟨W7.heap.size, 12, none⟩ (.int .i64 0)) from below_set13 HB12.out (show w.heap.size + 2 ≤ W7.heap.size by omega) _ _ _ _ _ _ _ _ _ _ _ _ _)
    go_upto_region 18 with fail
    clear d0 fd0 d1 fd1 d2 fd2 d3 fd3 d4 fd4 d5 fd5 d6 fd6 d7 fd7 d8 fd8 d9 fd9 d10 fd10 d11 fd11 d12 fd12
    generalize (((((((((((((w12.setCell ⟨W7.heap.size, 0, none⟩ (.int .i64 0)).setCell ⟨W7.heap.size, 1, none⟩ (.bool false)).setCell ⟨W7.heap.size, 2, none⟩ (.int .i64 ((a : Int) + 1))).setCell ⟨W7.heap.size, 3, none⟩ (.int .i64 0)).setCell ⟨W7.heap.size, 4, none⟩ (.int .i64 0)).setCell ⟨W7.heap.size, 5, none⟩ (.int .i64 0)).setCell ⟨W7.heap.size, 6, none⟩ (.bool false)).setCell ⟨W7.heap.size, 7, none⟩ (.bool false)).setCell ⟨W7.heap.size, 8, none⟩ (.int .i64 (-1))).setCell ⟨W7.heap.size, 9, none⟩ (.bool false)).setCell ⟨W7.heap.size, 10, none⟩ (.bool false)).setCell ⟨W7.heap.size, 11, none⟩ (.int .i64 0)).setCell ⟨W7.heap.size, 12, none⟩ (.int .i64 0)) = W13 at *
    have c0 : W13.cell? ⟨W7.heap.size, 0, none⟩ = some (.int .i64 0) := HS13.out.c0
    have c1 : W13.cell? ⟨W7.heap.size, 1, none⟩ = some (.bool false) := HS13.out.c1
    have c2 : W13.cell? ⟨W7.heap.size, 2, none⟩ = some (.int .i64 ((a : Int) + 1)) := HS13.out.c2
    by_cases hlast : (a : Int) + 1 = z.prog.length
    ·have hbq : (((a : Int) + 1) == (z.prog.length : Int)) = true := by simpa using hlast
     have HF := ak_ (show M.fin z.prog s1.c s1.over = M.firstC ⟨2, false⟩ ((a : Int) + 1) by rw [HOV.out]; show M.next z.prog s1.c = _; unfold M.next; rw [HT.out.act, HA.out, if_pos hlast])
     clear hlast
     go_wp2_with fail
     refine (end1 (some ⟨W13.heap.size, 0, none⟩) 1 _ (gor_fresh ⟨0, false⟩ W13)).mono ?_
     rintro e w14 ⟨v, rfl, ⟨Ae, ce, rfl, hle, hCe⟩, hb14⟩
     obtain ⟨ade, hee, g0, gj⟩ := flat_cells hCe 0 _ rfl
     cases hee
     have y0 := g0 _ rfl
     have y1 := gj 1 _ (by decide) rfl
     have e0 : ade.add (0 * 2) = ade := rfl
     rw [e0] at y0 y1
     have H14 := ak_ ((HS13.out.alloc (.cells #[.int .i64 0, .bool false] 40)).below hb14)
     have HB14 := ak_ ((HB13.out.alloc (show w.heap.size + 2 ≤ W13.heap.size from HS13.out.Blt) (.cells #[.int .i64 0, .bool false] 40)).trans (hb14.mono (by have := HS13.out.Blt; simp; omega)))
     clear g0 gj e0 hCe hb14 c0 c1 c2
     have c0 : w14.cell? ⟨W7.heap.size, 0, none⟩ = some (.int .i64 0) := H14.out.c0
     have c1 : w14.cell? ⟨W7.heap.size, 1, none⟩ = some (.bool false) := H14.out.c1
     have f0 : w14.frozen? ⟨W7.heap.size, 0, none⟩ = false := H14.out.fc0
     have f1 : w14.frozen? ⟨W7.heap.size, 1, none⟩ = false := H14.out.fc1
     have H15 := ak_ ((H14.out.putc 0 (.int .i64 2) ⟨⟨2, false⟩, (a : Int) + 1, 0, 0, 0, false, false, M.fresh⟩ rfl).putc 1 (.bool false) (M.firstC ⟨2, false⟩ ((a : Int) + 1)) rfl)
     have HB15 := ak_ ((HB14.out.setCell (p := ⟨W7.heap.size, 0, none⟩) (show w.heap.size + 2 ≤ W7.heap.size by omega) (.int .i64 2)).setCell (p := ⟨W7.heap.size, 1, none⟩) (show w.heap.size + 2 ≤ W7.heap.size by omega) (.bool false))
     go_wp2
     go_meet
     exact ⟨⟨by rw [HF.out]; exact H15.out⟩, HB15⟩
    ·have hbq : (((a : Int) + 1) == (z.prog.length : Int)) = false := by simpa using hlast
     have HF := ak_ (show M.fin z.prog s1.c s1.over = M.firstC ⟨0, false⟩ ((a : Int) + 1) by rw [HOV.out]; show M.next z.prog s1.c = _; unfold M.next; rw [HT.out.act, HA.out, if_neg hlast, HT.out.gor HOV.out])
     clear hlast
     go_wp2
     go_meet
     exact ⟨⟨by rw [HF.out]; exact HS13.out⟩, HB13⟩
  case rest =>
   obtain ⟨HS2, HB2⟩ := hcut
   obtain ⟨cr, hcr⟩ := HT.out.row
   obtain ⟨s2, hs2⟩ : ∃ s2 : Sx, s2 = { s1 with c := M.fin z.prog s1.c s1.over } := ⟨_, rfl⟩
   rw [← hs2] at HS2
   have hr2 : s2.cl[i]? = some cr := by rw [hs2]; exact hcr
   have hv2 : s2.cv = .slice (some ⟨cb, 0, none⟩) x.cl.length cap4 := by rw [hs2]; exact HT.out.cv.trans HE8.out
   have HQ := ak_ hs2
   have HR2 := ak_ hr2
   have HBW := ak_ (HB11.out.trans HB2.out)
   have BRw := ak_ ((HBW.out.block (w.heap.size + 1) (by omega)).trans BR10.out)
   clear hcr hs2 o5 HB2
   have c0 : wc.cell? ⟨W7.heap.size, 0, none⟩ = some (.int .i64 s2.c.gor.state) := HS2.out.c0
   have l0 : wc.cell? ⟨cb, i * 13, none⟩ = some (.int .i64 cr.gor.state) := HS2.out.lcell hr2 0 rfl
   have fl0 : wc.frozen? ⟨cb, i * 13, none⟩ = false := HS2.out.lfrozen _
   have c1 : wc.cell? ⟨W7.heap.size, 1, none⟩ = some (.bool s2.c.gor.permit) := HS2.out.c1
   have l1 : wc.cell? ⟨cb, i * 13 + 1, none⟩ = some (.bool cr.gor.permit) := HS2.out.lcell hr2 1 rfl
   have fl1 : wc.frozen? ⟨cb, i * 13 + 1, none⟩ = false := HS2.out.lfrozen _
   have c2 : wc.cell? ⟨W7.heap.size, 2, none⟩ = some (.int .i64 s2.c.act) := HS2.out.c2
   have l2 : wc.cell? ⟨cb, i * 13 + 2, none⟩ = some (.int .i64 cr.act) := HS2.out.lcell hr2 2 rfl
   have fl2 : wc.frozen? ⟨cb, i * 13 + 2, none⟩ = false := HS2.out.lfrozen _
   have c3 : wc.cell? ⟨W7.heap.size, 3, none⟩ = some (.int .i64 s2.c.pc) := HS2.out.c3
   have l3 : wc.cell? ⟨cb, i * 13 + 3, none⟩ = some (.int .i64 cr.pc) := HS2.out.lcell hr2 3 rfl
   have fl3 : wc.frozen? ⟨cb, i * 13 + 3, none⟩ = false := HS2.out.lfrozen _
   have c4 : wc.cell? ⟨W7.heap.size, 4, none⟩ = some (.int .i64 s2.c.worked) := HS2.out.c4
   have l4 : wc.cell? ⟨cb, i * 13 + 4, none⟩ = some (.int .i64 cr.worked) := HS2.out.lcell hr2 4 rfl
   have fl4 : wc.frozen? ⟨cb, i * 13 + 4, none⟩ = false := HS2.out.lfrozen _
   have c5 : wc.cell? ⟨W7.heap.size, 5, none⟩ = some (.int .i64 s2.c.ticket) := HS2.out.c5
   have l5 : wc.cell? ⟨cb, i * 13 + 5, none⟩ = some (.int .i64 cr.ticket) := HS2.out.lcell hr2 5 rfl
   have fl5 : wc.frozen? ⟨cb, i * 13 + 5, none⟩ = false := HS2.out.lfrozen _
   have c6 : wc.cell? ⟨W7.heap.size, 6, none⟩ = some (.bool s2.c.first) := HS2.out.c6
   have l6 : wc.cell? ⟨cb, i * 13 + 6, none⟩ = some (.bool cr.first) := HS2.out.lcell hr2 6 rfl
   have fl6 : wc.frozen? ⟨cb, i * 13 + 6, none⟩ = false := HS2.out.lfrozen _
   have c7 : wc.cell? ⟨W7.heap.size, 7, none⟩ = some (.bool s2.c.told) := HS2.out.c7
   have l7 : wc.cell? ⟨cb, i * 13 + 7, none⟩ = some (.bool cr.told) := HS2.out.lcell hr2 7 rfl
   have fl7 : wc.frozen? ⟨cb, i * 13 + 7, none⟩ = false := HS2.out.lfrozen _
   have c8 : wc.cell? ⟨W7.heap.size, 8, none⟩ = some (.int .i64 s2.c.own.since) := HS2.out.c8
   have l8 : wc.cell? ⟨cb, i * 13 + 8, none⟩ = some (.int .i64 cr.own.since) := HS2.out.lcell hr2 8 rfl
   have fl8 : wc.frozen? ⟨cb, i * 13 + 8, none⟩ = false := HS2.out.lfrozen _
   have c9 : wc.cell? ⟨W7.heap.size, 9, none⟩ = some (.bool s2.c.own.starving) := HS2.out.c9
   have l9 : wc.cell? ⟨cb, i * 13 + 9, none⟩ = some (.bool cr.own.starving) := HS2.out.lcell hr2 9 rfl
   have fl9 : wc.frozen? ⟨cb, i * 13 + 9, none⟩ = false := HS2.out.lfrozen _
   have c10 : wc.cell? ⟨W7.heap.size, 10, none⟩ = some (.bool s2.c.own.awake) := HS2.out.c10
   have l10 : wc.cell? ⟨cb, i * 13 + 10, none⟩ = some (.bool cr.own.awake) := HS2.out.lcell hr2 10 rfl
   have fl10 : wc.frozen? ⟨cb, i * 13 + 10, none⟩ = false := HS2.out.lfrozen _
   have c11 : wc.cell? ⟨W7.heap.size, 11, none⟩ = some (.int .i64 s2.c.own.rounds) := HS2.out.c11
   have l11 : wc.cell? ⟨cb, i * 13 + 11, none⟩ = some (.int .i64 cr.own.rounds) := HS2.out.lcell hr2 11 rfl
   have fl11 : wc.frozen? ⟨cb, i * 13 + 11, none⟩ = false := HS2.out.lfrozen _
   have c12 : wc.cell? ⟨W7.heap.size, 12, none⟩ = some (.int .i64 s2.c.own.old) := HS2.out.c12
   have l12 : wc.cell? ⟨cb, i * 13 + 12, none⟩ = some (.int .i64 cr.own.old) := HS2.out.lcell hr2 12 rfl
   have fl12 : wc.frozen? ⟨cb, i * 13 + 12, none⟩ = false := HS2.out.lfrozen _
   have n2 : wc.cell? ⟨w2.heap.size, 2, none⟩ = some (.slice (some ⟨cb, 0, none⟩) x.cl.length cap4) := by have := HS2.out.n2; rw [hv2] at this; exact this
   have HS3 := ak_ (show St (w.heap.size + 2) (⟨W8.heap.size + 1, w2.heap.size, W7.heap.size, mb, cb, (fun b => b = w.heap.size + 1 ∨ S b), []⟩ : Blk) { s2 with cl := s2.cl.set i s2.c } (((((((((((((wc.setCell ⟨cb, i * 13, none⟩ (.int .i64 s2.c.gor.state)).setCell ⟨cb, i * 13 + 1, none⟩ (.bool s2.c.gor.permit)).setCell ⟨cb, i * 13 + 2, none⟩ (.int .i64 s2.c.act)).setCell ⟨cb, i * 13 + 3, none⟩ (.int .i64 s2.c.pc)).setCell ⟨cb, i * 13 + 4, none⟩ (.int .i64 s2.c.worked)).setCell ⟨cb, i * 13 + 5, none⟩ (.int .i64 s2.c.ticket)).setCell ⟨cb, i * 13 + 6, none⟩ (.bool s2.c.first)).setCell ⟨cb, i * 13 + 7, none⟩ (.bool s2.c.told)).setCell ⟨cb, i * 13 + 8, none⟩ (.int .i64 s2.c.own.since)).setCell ⟨cb, i * 13 + 9, none⟩ (.bool s2.c.own.starving)).setCell ⟨cb, i * 13 + 10, none⟩ (.bool s2.c.own.awake)).setCell ⟨cb, i * 13 + 11, none⟩ (.int .i64 s2.c.own.rounds)).setCell ⟨cb, i * 13 + 12, none⟩ (.int .i64 s2.c.own.old)) from HS2.out.putRow i cr s2.c hr2)
   clear hv2 hr2
   go_upto_region 22 with fail
   clear n2 c0 l0 fl0 c1 l1 fl1 c2 l2 fl2 c3 l3 fl3 c4 l4 fl4 c5 l5 fl5 c6 l6 fl6 c7 l7 fl7 c8 l8 fl8 c9 l9 fl9 c10 l10 fl10 c11 l11 fl11 c12 l12 fl12
   have HB16 := ak_ (show Below (w.heap.size + 2) W10 (((((((((((((wc.setCell ⟨cb, i * 13, none⟩ (.int .i64 s2.c.gor.state)).setCell ⟨cb, i * 13 + 1, none⟩ (.bool s2.c.gor.permit)).setCell ⟨cb, i * 13 + 2, none⟩ (.int .i64 s2.c.act)).setCell ⟨cb, i * 13 + 3, none⟩ (.int .i64 s2.c.pc)).setCell ⟨cb, i * 13 + 4, none⟩ (.int .i64 s2.c.worked)).setCell ⟨cb, i * 13 + 5, none⟩ (.int .i64 s2.c.ticket)).setCell ⟨cb, i * 13 + 6, none⟩ (.bool s2.c.first)).setCell ⟨cb, i * 13 + 7, none⟩ (.bool s2.c.told)).setCell ⟨cb, i * 13 + 8, none⟩ (.int .i64 s2.c.own.since)).setCell ⟨cb, i * 13 + 9, none⟩ (.bool s2.c.own.starving)).setCell ⟨cb, i * 13 + 10, none⟩ (.bool s2.c.own.awake)).setCell ⟨cb, i * 13 + 11, none⟩ (.int .i64 s2.c.own.rounds)).setCell ⟨cb, i * 13 + 12, none⟩ (.int .i64 s2.c.own.old)) from (((((((((((((HBW.out.setCell (p := ⟨cb, i * 13, none⟩) (show w.heap.size + 2 ≤ cb by omega) (.int .i64 s2.c.gor.state)).setCell (p := ⟨cb, i * 13 + 1, none⟩) (show w.heap.size + 2 ≤ cb by omega) (.bool s2.c.gor.permit)).setCell (p := ⟨cb, i * 13 + 2, none⟩) (show w.heap.size + 2 ≤ cb by omega) (.int .i64 s2.c.act)).setCell (p := ⟨cb, i * 13 + 3, none⟩) (show w.heap.size + 2 ≤ cb by omega) (.int .i64 s2.c.pc)).setCell (p := ⟨cb, i * 13 + 4, none⟩) (show w.heap.size + 2 ≤ cb by omega) (.int .i64 s2.c.worked)).setCell (p := ⟨cb, i * 13 + 5, none⟩) (show w.heap.size + 2 ≤ cb by omega) (.int .i64 s2.c.ticket)).setCell (p := ⟨cb, i * 13 + 6, none⟩) (show w.heap.size + 2 ≤ cb by omega) (.bool s2.c.first)).setCell (p := ⟨cb, i * 13 + 7, none⟩) (show w.heap.size + 2 ≤ cb by omega) (.bool s2.c.told)).setCell (p := ⟨cb, i * 13 + 8, none⟩) (show w.heap.size + 2 ≤ cb by omega) (.int .i64 s2.c.own.since)).setCell (p := ⟨cb, i * 13 + 9, none⟩) (show w.heap.size + 2 ≤ cb by omega) (.bool s2.c.own.starving)).setCell (p := ⟨cb, i * 13 + 10, none⟩) (show w.heap.size + 2 ≤ cb by omega) (.bool s2.c.own.awake)).setCell (p := ⟨cb, i * 13 + 11, none⟩) (show w.heap.size + 2 ≤ cb by omega) (.int .i64 s2.c.own.rounds)).setCell (p := ⟨cb, i * 13 + 12, none⟩) (show w.heap.size + 2 ≤ cb by omega) (.int .i64 s2.c.own.old)))
   generalize (((((((((((((wc.setCell ⟨cb, i * 13, none⟩ (.int .i64 s2.c.gor.state)).setCell ⟨cb, i * 13 + 1, none⟩ (.bool s2.c.gor.permit)).setCell ⟨cb, i * 13 + 2, none⟩ (.int .i64 s2.c.act)).setCell ⟨cb, i * 13 + 3, none⟩ (.int .i64 s2.c.pc)).setCell ⟨cb, i * 13 + 4, none⟩ (.int .i64 s2.c.worked)).setCell ⟨cb, i * 13 + 5, none⟩ (.int .i64 s2.c.ticket)).setCell ⟨cb, i * 13 + 6, none⟩ (.bool s2.c.first)).setCell ⟨cb, i * 13 + 7, none⟩ (.bool s2.c.told)).setCell ⟨cb, i * 13 + 8, none⟩ (.int .i64 s2.c.own.since)).setCell ⟨cb, i * 13 + 9, none⟩ (.bool s2.c.own.starving)).setCell ⟨cb, i * 13 + 10, none⟩ (.bool s2.c.own.awake)).setCell ⟨cb, i * 13 + 11, none⟩ (.int .i64 s2.c.own.rounds)).setCell ⟨cb, i * 13 + 12, none⟩ (.int .i64 s2.c.own.old)) = W16 at *
   have BR16 := ak_ ((HB16.out.block (w.heap.size + 1) (by omega)).trans BR10.out)
   obtain ⟨At', ct', htv, hlt', _⟩ := HS3.out.tb W16 (Kept.refl _ _)
   have hpv : s2.pv = .slice (some adp) x.cl.length cp := by rw [HQ.out]; exact HT.out.pv.trans HE7.out
   have hcv : s2.cv = .slice (some ⟨cb, 0, none⟩) x.cl.length cap4 := by rw [HQ.out]; exact HT.out.cv.trans HE8.out
   have hmv : s2.mv = .slice (some ⟨mb, 0, none⟩) x.mu.length cap5 := by rw [HQ.out]; exact HT.out.mv.trans HE9.out
   obtain ⟨nt, hnt⟩ : ∃ nt, nt = s2.tab.length := ⟨_, rfl⟩
   have htv2 : s2.tv = .slice At' nt ct' := by rw [hnt]; exact htv
   have bn := HS3.out.bn
   have bs := HS3.out.bs
   dsimp only at bn bs
   rw [hpv, hcv, hmv, htv2] at bn
   have BN16 := ak_ bn
   have BS16 := ak_ bs
   have HPV := ak_ hpv
   have HCV := ak_ hcv
   have HMV := ak_ hmv
   have HTV := ak_ htv2
   clear bn bs htv hpv hcv hmv htv2 hnt hlt'
   have n0 : W16.cell? ⟨w2.heap.size, 0, none⟩ = some (.int .i64 s2.now) := blk_cell BN16.out 0
   have r0 : W16.cell? ⟨w.heap.size + 1, 0, none⟩ = some (.int .i64 0) := blk_cell BR16.out 0
   have fr0 : W16.frozen? ⟨w.heap.size + 1, 0, none⟩ = false := blk_frozen BR16.out 0
   have q0 : W16.drew.cell? ⟨w.heap.size + 1, 0, none⟩ = some (.int .i64 0) := blk_cell BR16.out 0
   have fq0 : W16.drew.frozen? ⟨w.heap.size + 1, 0, none⟩ = false := blk_frozen BR16.out 0
   have n1 : W16.cell? ⟨w2.heap.size, 1, none⟩ = some (.slice (some adp) x.cl.length cp) := blk_cell BN16.out 1
   have r1 : W16.cell? ⟨w.heap.size + 1, 1, none⟩ = some (.slice none 0 0) := blk_cell BR16.out 1
   have fr1 : W16.frozen? ⟨w.heap.size + 1, 1, none⟩ = false := blk_frozen BR16.out 1
   have q1 : W16.drew.cell? ⟨w.heap.size + 1, 1, none⟩ = some (.slice none 0 0) := blk_cell BR16.out 1
   have fq1 : W16.drew.frozen? ⟨w.heap.size + 1, 1, none⟩ = false := blk_frozen BR16.out 1
   have n2 : W16.cell? ⟨w2.heap.size, 2, none⟩ = some (.slice (some ⟨cb, 0, none⟩) x.cl.length cap4) := blk_cell BN16.out 2
   have r2 : W16.cell? ⟨w.heap.size + 1, 2, none⟩ = some (.slice none 0 0) := blk_cell BR16.out 2
   have fr2 : W16.frozen? ⟨w.heap.size + 1, 2, none⟩ = false := blk_frozen BR16.out 2
   have q2 : W16.drew.cell? ⟨w.heap.size + 1, 2, none⟩ = some (.slice none 0 0) := blk_cell BR16.out 2
   have fq2 : W16.drew.frozen? ⟨w.heap.size + 1, 2, none⟩ = false := blk_frozen BR16.out 2
   have n3 : W16.cell? ⟨w2.heap.size, 3, none⟩ = some (.slice (some ⟨mb, 0, none⟩) x.mu.length cap5) := blk_cell BN16.out 3
   have r3 : W16.cell? ⟨w.heap.size + 1, 3, none⟩ = some (.slice none 0 0) := blk_cell BR16.out 3
   have fr3 : W16.frozen? ⟨w.heap.size + 1, 3, none⟩ = false := blk_frozen BR16.out 3
   have q3 : W16.drew.cell? ⟨w.heap.size + 1, 3, none⟩ = some (.slice none 0 0) := blk_cell BR16.out 3
   have fq3 : W16.drew.frozen? ⟨w.heap.size + 1, 3, none⟩ = false := blk_frozen BR16.out 3
   have n4 : W16.cell? ⟨w2.heap.size, 4, none⟩ = some (.slice At' nt ct') := blk_cell BN16.out 4
   have r4 : W16.cell? ⟨w.heap.size + 1, 4, none⟩ = some (.slice none 0 0) := blk_cell BR16.out 4
   have fr4 : W16.frozen? ⟨w.heap.size + 1, 4, none⟩ = false := blk_frozen BR16.out 4
   have q4 : W16.drew.cell? ⟨w.heap.size + 1, 4, none⟩ = some (.slice none 0 0) := blk_cell BR16.out 4
   have fq4 : W16.drew.frozen? ⟨w.heap.size + 1, 4, none⟩ = false := blk_frozen BR16.out 4
   have n5 : W16.cell? ⟨w2.heap.size, 5, none⟩ = some (.int .i64 s2.stop) := blk_cell BN16.out 5
   have r5 : W16.cell? ⟨w.heap.size + 1, 5, none⟩ = some (.int .i64 0) := blk_cell BR16.out 5
   have fr5 : W16.frozen? ⟨w.heap.size + 1, 5, none⟩ = false := blk_frozen BR16.out 5
   have q5 : W16.drew.cell? ⟨w.heap.size + 1, 5, none⟩ = some (.int .i64 0) := blk_cell BR16.out 5
   have fq5 : W16.drew.frozen? ⟨w.heap.size + 1, 5, none⟩ = false := blk_frozen BR16.out 5
   have e6 : W16.cell? ⟨W8.heap.size + 1, 6, none⟩ = some s2.ev := blk_cell BS16.out 6
   have BN17 := ak_ (blk_drew (blk_set6 BN16.out (g' := w.heap.size + 1) (show w2.heap.size ≠ w.heap.size + 1 by omega) (.int .i64 s2.now) (.slice (some adp) x.cl.length cp) (.slice (some ⟨cb, 0, none⟩) x.cl.length cap4) (.slice (some ⟨mb, 0, none⟩) x.mu.length cap5) (.slice At' nt ct') (.int .i64 s2.stop)))
   have BS17 := ak_ (blk_drew (blk_set6 BS16.out (g' := w.heap.size + 1) (show W8.heap.size + 1 ≠ w.heap.size + 1 by omega) (.int .i64 s2.now) (.slice (some adp) x.cl.length cp) (.slice (some ⟨cb, 0, none⟩) x.cl.length cap4) (.slice (some ⟨mb, 0, none⟩) x.mu.length cap5) (.slice At' nt ct') (.int .i64 s2.stop)))
   refine wp_region_held_drew (S := (fun W => W.cell? ⟨w2.heap.size, 0, none⟩ = some (.int .i64 s2.now) ∧ W.cell? ⟨w2.heap.size, 1, none⟩ = some (.slice (some adp) x.cl.length cp) ∧ W.cell? ⟨w2.heap.size, 2, none⟩ = some (.slice (some ⟨cb, 0, none⟩) x.cl.length cap4) ∧ W.cell? ⟨w2.heap.size, 3, none⟩ = some (.slice (some ⟨mb, 0, none⟩) x.mu.length cap5) ∧ W.cell? ⟨w2.heap.size, 4, none⟩ = some (.slice At' nt ct') ∧ W.cell? ⟨w2.heap.size, 5, none⟩ = some (.int .i64 s2.stop) ∧ W.cell? ⟨W8.heap.size + 1, 6, none⟩ = some s2.ev)) (by kernel_rfl) ?hS_40 (fun hHeld => ?rest_40)
   case hS_40 => ((try dsimp only); exact ⟨n0, n1, n2, n3, n4, n5, e6⟩)
   refine tk1 (i := 0) (by (try simp only [g1_, g2_, g3_]); exact rfl) (by kernel_rfl) (by assumption) (by kernel_rfl) (by intro w hSw; (try dsimp only at hSw); go_simp; first | done | with_reducible rfl | rfl) (by exact fun _ _ _ h => h) ?_
   try simp only [Act.put, p1_, p2_, p3_]
   refine tk1 (i := 1) (by (try simp only [g1_, g2_, g3_]); exact rfl) (by kernel_rfl) (by assumption) (by kernel_rfl) (by intro w hSw; (try dsimp only at hSw); go_simp; first | done | with_reducible rfl | rfl) (by exact fun _ _ _ h => h) ?_
   try simp only [Act.put, p1_, p2_, p3_]
   refine tk1 (i := 2) (by (try simp only [g1_, g2_, g3_]); exact rfl) (by kernel_rfl) (by assumption) (by kernel_rfl) (by intro w hSw; (try dsimp only at hSw); go_simp; first | done | with_reducible rfl | rfl) (by exact fun _ _ _ h => h) ?_
   try simp only [Act.put, p1_, p2_, p3_]
   refine tk1 (i := 3) (by (try simp only [g1_, g2_, g3_]); exact rfl) (by kernel_rfl) (by assumption) (by kernel_rfl) (by intro w hSw; (try dsimp only at hSw); go_simp; first | done | with_reducible rfl | rfl) (by exact fun _ _ _ h => h) ?_
   try simp only [Act.put, p1_, p2_, p3_]
   refine tk1 (i := 4) (by (try simp only [g1_, g2_, g3_]); exact rfl) (by kernel_rfl) (by assumption) (by kernel_rfl) (by intro w hSw; (try dsimp only at hSw); go_simp; first | done | with_reducible rfl | rfl) (by exact fun _ _ _ h => h) ?_
   try simp only [Act.put, p1_, p2_, p3_]
   refine wpAnyH_ready (rs := [5]) (by kernel_rfl) (by simp) ?_
   refine AllReadyH.cons rfl (fun K hK => ?_) AllReadyH.nil
   go_simp
   refine hK.out _ _ ⟨blk_cell BN17.out 0, blk_cell BN17.out 1, blk_cell BN17.out 2, blk_cell BN17.out 3, blk_cell BN17.out 4, blk_cell BN17.out 5, blk_cell BS17.out 6⟩ (fun hHeld => ?_)
   clear hK K
   try simp only [Act.put, List.setIfInBounds_toArray, List.set_cons_zero, List.set_cons_succ]
   refine tk1 (i := 6) (by (try simp only [g1_, g2_, g3_]); exact rfl) (by kernel_rfl) (by assumption) (by kernel_rfl) (by intro w hSw; (try dsimp only at hSw); go_simp; first | done | with_reducible rfl | rfl) (by exact fun _ _ _ h => h) ?_
   try simp only [Act.put, p1_, p2_, p3_]
   refine tk1 (i := 7) (by (try simp only [g1_, g2_, g3_]); exact rfl) (by kernel_rfl) (by assumption) (by kernel_rfl) (by intro w hSw; (try dsimp only at hSw); go_simp; first | done | with_reducible rfl | rfl) (by exact fun _ _ _ h => h) ?_
   try simp only [Act.put, p1_, p2_, p3_]
   refine wpAnyH_done (by kernel_rfl) ?_ _
   clear n0 q0 fq0 r0 fr0 n1 q1 fq1 r1 fr1 n2 q2 fq2 r2 fr2 n3 q3 fq3 r3 fr3 n4 q4 fq4 r4 fr4 n5 q5 fq5 r5 fr5 e6
   have BR17 := ak_ (blk_drew (set6 BR16.out (.int .i64 s2.now) (.slice (some adp) x.cl.length cp) (.slice (some ⟨cb, 0, none⟩) x.cl.length cap4) (.slice (some ⟨mb, 0, none⟩) x.mu.length cap5) (.slice At' nt ct') (.int .i64 s2.stop)))
   have HB17 := ak_ (below_drew (below6 (BB10.out.trans (HB16.out.mono (show w.heap.size ≤ w.heap.size + 2 by omega))) (Nat.le_succ w.heap.size) (.int .i64 s2.now) (.slice (some adp) x.cl.length cp) (.slice (some ⟨cb, 0, none⟩) x.cl.length cap4) (.slice (some ⟨mb, 0, none⟩) x.mu.length cap5) (.slice At' nt ct') (.int .i64 s2.stop)))
   have HK17 : Kept W16 ((((((W16.setCell ⟨w.heap.size + 1, 0, none⟩ (.int .i64 s2.now)).setCell ⟨w.heap.size + 1, 1, none⟩ (.slice (some adp) x.cl.length cp)).setCell ⟨w.heap.size + 1, 2, none⟩ (.slice (some ⟨cb, 0, none⟩) x.cl.length cap4)).setCell ⟨w.heap.size + 1, 3, none⟩ (.slice (some ⟨mb, 0, none⟩) x.mu.length cap5)).setCell ⟨w.heap.size + 1, 4, none⟩ (.slice At' nt ct')).setCell ⟨w.heap.size + 1, 5, none⟩ (.int .i64 s2.stop)) (fun b => b = w.heap.size + 1) := ((((((Kept.refl W16 (fun b => b = w.heap.size + 1)).setCell (p := ⟨w.heap.size + 1, 0, none⟩) (.inl rfl) (.int .i64 s2.now)).setCell (p := ⟨w.heap.size + 1, 1, none⟩) (.inl rfl) (.slice (some adp) x.cl.length cp)).setCell (p := ⟨w.heap.size + 1, 2, none⟩) (.inl rfl) (.slice (some ⟨cb, 0, none⟩) x.cl.length cap4)).setCell (p := ⟨w.heap.size + 1, 3, none⟩) (.inl rfl) (.slice (some ⟨mb, 0, none⟩) x.mu.length cap5)).setCell (p := ⟨w.heap.size + 1, 4, none⟩) (.inl rfl) (.slice At' nt ct')).setCell (p := ⟨w.heap.size + 1, 5, none⟩) (.inl rfl) (.int .i64 s2.stop)
   have HK := ak_ HK17.drew
   clear HK17
   generalize ((((((W16.setCell ⟨w.heap.size + 1, 0, none⟩ (.int .i64 s2.now)).setCell ⟨w.heap.size + 1, 1, none⟩ (.slice (some adp) x.cl.length cp)).setCell ⟨w.heap.size + 1, 2, none⟩ (.slice (some ⟨cb, 0, none⟩) x.cl.length cap4)).setCell ⟨w.heap.size + 1, 3, none⟩ (.slice (some ⟨mb, 0, none⟩) x.mu.length cap5)).setCell ⟨w.heap.size + 1, 4, none⟩ (.slice At' nt ct')).setCell ⟨w.heap.size + 1, 5, none⟩ (.int .i64 s2.stop)).drew = W17 at *
   have A2 := HAX.out
   have T2 := HT.out
   have hnn : ∀ b, Blk.has (⟨W8.heap.size + 1, w2.heap.size, W7.heap.size, mb, cb, (fun b => b = w.heap.size + 1 ∨ S b), []⟩ : Blk) b → ¬ (b = w.heap.size + 1 ∨ S b) := by
    intro b e q
    have hq : b < w.heap.size + 2 := by
     rcases q with q | q
     ·omega
     ·have := HSB.out b q
      omega
    rcases e with e | e | e | e | e <;> dsimp only at e <;> omega
   have hex : ∀ b, (b = w.heap.size + 1 ∨ S b) → b < w.heap.size + 2 := by
    intro b q
    rcases q with q | q
    ·omega
    ·have := HSB.out b q
     omega
   have B16 := BB10.out.trans (HB16.out.mono (show w.heap.size ≤ w.heap.size + 2 by omega))
   have hprog : ∀ W, Kept W16 W (fun b => b = w.heap.size + 1 ∨ S b) → (Kd.slice 49 kAct).C W (some adp) x.cl.length (x.cl.map (·.prog)) := fun W hk =>
    (HWS.out W ((Kept.of_below B16 S).then_ hk (fun b q => q.elim (fun e => .inr (by omega)) .inl))).p
   have HKx : Kept W16 W17 (fun b => b = w.heap.size + 1 ∨ S b) := HK.out.mono (fun b q => .inl q)
   have E1 : s2.now = (M.stepAt x i z).1.now := by rw [HQ.out]; exact (T2.now.trans A2.now).trans T2.n
   have E2 : s2.cl.set i s2.c = (M.stepAt x i z).1.cl.map (·.c) := by rw [T2.cl, HQ.out]
   have E3 : s2.mu = (M.stepAt x i z).1.mu := by rw [HQ.out]; exact T2.m
   have E4 : s2.tab = tableOf (M.stepAt x i z).1.sem := by rw [HQ.out]; exact T2.t
   have E6 : s2.stop = (M.stepAt x i z).1.stop := by rw [HQ.out]; exact T2.stop
   have E5 : s2.evs = (M.stepAt x i z).2 := by rw [HQ.out]; exact T2.evs
   have WV0 := world_of HS3.out hprog HW.out.pc hnn T2.pr E2 E3 E4 E1 E6 HPV.out HCV.out HMV.out hle4 hle5 T2.ml hcl (by rw [G.out.mu]; decide)
   dsimp only at WV0
   rw [HPV.out, HCV.out, HMV.out, HTV.out] at WV0
   have WV1 := (WV0.step HKx).mono (S' := S) (fun b q => .inl (.inr q))
   have EV1 : ∀ W, Kept W17 W S → Sl kEvent W s2.ev (M.stepAt x i z).2 := fun W hk => by
    have := events_of HS3.out hex (HKx.then_ hk (fun b q => .inl (.inr q)))
    dsimp only at this
    rw [E5] at this
    exact this
   have HST2 := ak_ (step_go HST.out HZ.out HRR.out)
   have FIN : StepOk S x i w (.returned (.tuple #[.agg #[(.int .i64 s2.now), (.slice (some adp) x.cl.length cp), (.slice (some ⟨cb, 0, none⟩) x.cl.length cap4), (.slice (some ⟨mb, 0, none⟩) x.mu.length cap5), (.slice At' nt ct'), (.int .i64 s2.stop)], s2.ev, .int .i64 0])) W17 :=
    ⟨_, _, _, _, _, _, _, rfl, HB17.out, by rw [HST2.out]; exact WV1, by rw [HST2.out]; exact EV1⟩
   have HFIN := ak_ FIN
   clear FIN WV1 WV0 EV1 hprog HKx B16 hex E1 E2 E3 E4 E5 E6 A2 T2 hnn
   go_wp2
   refine bodyPost_ret (results_ctt rfl _ _ (w.heap.size + 1) 29 _ (0, 0) _ rfl BR17.out Tryz.underlying29 rfl (by kernel_rfl)) rfl ?_
   exact HFIN.out
theorem step9 (x : M.W) (g : M.Good x) (v : Value) (w : World) (S : Nat → Prop) (hS : ∀ b, S b → b < w.heap.size) (h : WVS S w v x) (who : Int) : Calls Tryz.prog 9 #[v, .int .i64 who] w (StepOk S x who w) := by
 obtain ⟨Ap, Ac, Am, At, cp, cc, cm, ct, rfl, hp⟩ := h
 by_cases h0 : x.stop = 0
 ·by_cases h1 : who < 0
  ·exact step_stays x g Ap Ac Am At cp cc cm ct w S hp hS who (.inr (.inl ⟨h0, h1⟩))
  ·by_cases h2 : (x.cl.length : Int) ≤ who
   ·exact step_stays x g Ap Ac Am At cp cc cm ct w S hp hS who (.inr (.inr (.inl ⟨h0, by omega, h2⟩)))
   ·obtain ⟨i, rfl⟩ : ∃ i : Nat, who = i := ⟨who.toNat, by omega⟩
    obtain ⟨z, hz⟩ : ∃ z, x.cl[i]? = some z := ⟨_, List.getElem?_eq_getElem (by omega)⟩
    by_cases h3 : z.c.gor.state = 0
    ·exact step_goes x g Ap Ac Am At cp cc cm ct w S hp hS i z h0 hz h3
    ·exact step_stays x g Ap Ac Am At cp cc cm ct w S hp hS _ (.inr (.inr (.inr ⟨i, z, h0, rfl, hz, h3⟩)))
 ·exact step_stays x g Ap Ac Am At cp cc cm ct w S hp hS who (.inl h0)
end Go.Proofs.YtoimfknjfeencaaGreatDoor.Hand
end
