/- Part of the walk of a law of the top, and what it leans on (Mach3, Tick1, Done, Run1, Told). No conditions beyond those that each lemma names. -/
import Derived.Test.YtoimfknjfeencaaGreatDoorZ08
import Derived.Test.YtoimfknjfeencaaGreatDoorZ04
import Derived.MapKept
import Derived.Test.YtoimfknjfeencaaGreatDoorProg
set_option linter.unusedVariables false
set_option linter.unusedSimpArgs false
set_option maxHeartbeats 8000000
set_option maxRecDepth 100000
section
namespace Go.Proofs.YtoimfknjfeencaaGreatDoor.Hand
open Go.RowKit Go.Proofs.YtoimfknjfeencaaGreatDoorW.PrintWords Go.Proofs.YtoimfknjfeencaaGreatDoorW.PrintLast Go.Proofs.YtoimfknjfeencaaGreatDoorW.PrintMore
theorem slice_cells {α : Type} {d : Kd α} {w : World} {A : Option Addr} {n e : Nat} {xs : List (List α)} (h : (Kd.slice e d).C w A n xs) (i : Nat) (p : List α) (hs : xs[i]? = some p) :
  ∃ ad A1 c1, A = some ad ∧ w.cell? (ad.add i) = some (.slice A1 p.length c1) ∧ p.length ≤ c1 ∧ d.C w A1 p.length p := by
 have hi := (List.getElem?_eq_some_iff.1 hs).1
 obtain ⟨hl, hm, hc⟩ := h
 obtain ⟨ad, e, hc⟩ := hc (by omega)
 obtain ⟨c, hsz, hK, hcell⟩ := hc i p hs
 obtain ⟨A1, c1, rfl, l1, g1⟩ := hK
 have hc2 : ∀ j u, ([.slice A1 p.length c1] : List Value)[j]? = some u → w.cell? (ad.add (i * 1 + j)) = some u := hcell
 exact ⟨ad, A1, c1, e, by simpa using hc2 0 _ rfl, l1, g1⟩
theorem machRight_at (x : M.W) (g : M.Good x) (Ap Ac Am At : Option Addr) (cp cc cm ct : Nat) (w : World) (h : WP w x Ap Ac Am At cp cc cm ct) :
  Calls Tryz.prog 20 #[wv x Ap Ac Am At cp cc cm ct] w fun e w' => e = .returned (.bool true) ∧ Below w.heap.size w w' := by
 have HW := ak_ h
 have G := ak_ g
 have hn : okT x.now := ⟨g.now0, g.now1⟩
 have hmu : (x.mu.length : Int) = 4 := by have := g.mu; omega
 have hl8 : (x.cl.length : Int) ≤ 8 := by have := g.cl; omega
 have ht4 : ((tableOf x.sem).length : Int) ≤ 64 := by have := (okTab_of g).len; omega
 have hst : x.stop = 0 ∨ x.stop = 11 := g.stop
 have P1 := ak_ (fun w' (hb : Below w.heap.size w w') => prog_Right.calls Ap cp ((x.cl.map (·.prog)).map (·.map toS)) true w' (by have := CC_to (Kd.C_below HW.out.p hb); rw [List.length_map, List.length_map]; exact this) (by rw [List.length_map, List.length_map]; exact HW.out.pc) (by unfold prog_Right.f; rw [okPs_of g.cl g.progs]))
 have P2 := ak_ (fun w' (hb : Below w.heap.size w w') => rootRight_yes At ct (tableOf x.sem) w' (Kd.C_below HW.out.t hb) HW.out.tc (okTab_of g))
 have P3 := ak_ (fun w' (hb : Below w.heap.size w w') => gors_yes x.now x.stop (.slice Ap x.cl.length cp) (.slice Am x.mu.length cm) (.slice At (tableOf x.sem).length ct) Ap Am At x.cl.length x.mu.length (tableOf x.sem).length cp cm ct Ac cc (x.cl.map (·.c)) w' (by rw [List.length_map]; exact Kd.C_below HW.out.c hb) (by rw [List.length_map]; exact g.cl))
 obtain ⟨lg, hlg⟩ : ∃ lg, lg = (x.cl.map (·.c)).map (·.gor) := ⟨_, rfl⟩
 have P4 := ak_ (fun A c w' (hC : kGor.C w' A lg.length lg) => parkRight_yes A c lg w' hC (by rw [hlg, List.length_map, List.length_map]; exact g.cl) (by
  intro y hy
  rw [hlg, List.map_map, List.mem_map] at hy
  obtain ⟨z, hz, rfl⟩ := hy
  obtain ⟨k, hk⟩ := List.getElem?_of_mem hz
  exact okGor_of (g.c k z hk)))
 have P3' := P3.out
 rw [List.length_map] at P3'
 rw [← hlg] at P3'
 replace P3 := ak_ P3'
 clear P3'
 clear hlg
 simp only [List.length_map] at P1
 clear h g
 unfold wv
 have hu := Tryz.underlying29
 go_enter Tryz.func20, Tryz.ntmps20
 have BK := ak_ (blk_new w (.cells #[.int .i64 x.now, .slice Ap x.cl.length cp, .slice Ac x.cl.length cc, .slice Am x.mu.length cm, .slice At (tableOf x.sem).length ct, .int .i64 x.stop] 29))
 have BB := ak_ (bel2 (Below.refl _ w) (.cells #[.int .i64 x.now, .slice Ap x.cl.length cp, .slice Ac x.cl.length cc, .slice Am x.mu.length cm, .slice At (tableOf x.sem).length ct, .int .i64 x.stop] 29))
 go_wp2_with fail
 refine (clockRight_yes _ _ hn).mono ?_
 rintro e w1 ⟨rfl, rfl⟩
 go_wp2_with fail
 refine (P1.out _ BB.out).mono ?_
 rintro e w2 ⟨rfl, hb2⟩
 have BK2 := ak_ (blk_below BK.out hb2)
 have BB2 := ak_ (bel3 BB.out hb2)
 clear hb2 BK BB
 have a1 : w2.cell? ⟨w.heap.size, 1, none⟩ = some (.slice Ap x.cl.length cp) := blk_cell BK2.out 1
 have a2 : w2.cell? ⟨w.heap.size, 2, none⟩ = some (.slice Ac x.cl.length cc) := blk_cell BK2.out 2
 have a3 : w2.cell? ⟨w.heap.size, 3, none⟩ = some (.slice Am x.mu.length cm) := blk_cell BK2.out 3
 have a4 : w2.cell? ⟨w.heap.size, 4, none⟩ = some (.slice At (tableOf x.sem).length ct) := blk_cell BK2.out 4
 go_wp2_with fail
 refine (P2.out _ BB2.out).mono ?_
 rintro e w3 ⟨rfl, hb3⟩
 have BK3 := ak_ (blk_below BK2.out hb3)
 have BB3 := ak_ (bel3 BB2.out hb3)
 clear hb3 BK2 BB2 a1 a2 a3 a4
 have a0 : w3.cell? ⟨w.heap.size, 0, none⟩ = some (.int .i64 x.now) := blk_cell BK3.out 0
 have a1 : w3.cell? ⟨w.heap.size, 1, none⟩ = some (.slice Ap x.cl.length cp) := blk_cell BK3.out 1
 have a2 : w3.cell? ⟨w.heap.size, 2, none⟩ = some (.slice Ac x.cl.length cc) := blk_cell BK3.out 2
 have a3 : w3.cell? ⟨w.heap.size, 3, none⟩ = some (.slice Am x.mu.length cm) := blk_cell BK3.out 3
 have a4 : w3.cell? ⟨w.heap.size, 4, none⟩ = some (.slice At (tableOf x.sem).length ct) := blk_cell BK3.out 4
 have a5 : w3.cell? ⟨w.heap.size, 5, none⟩ = some (.int .i64 x.stop) := blk_cell BK3.out 5
 go_wp2_with fail
 refine (P3.out _ BB3.out).mono ?_
 rintro e w4 ⟨v4, rfl, ⟨Ag, cg, rfl, hlg, hCg⟩, hb4⟩
 have BK4 := ak_ (blk_below BK3.out hb4)
 have BB4 := ak_ (bel3 BB3.out hb4)
 have HG := ak_ (P4.out Ag cg _ hCg)
 clear hb4 BK3 BB3 a0 a1 a2 a3 a4 a5 hCg
 go_wp2_with fail
 refine HG.out.mono ?_
 rintro e w5 ⟨rfl, hb5⟩
 have BK5 := ak_ (blk_below BK4.out hb5)
 have BB5 := ak_ (bel3 BB4.out hb5)
 clear hb5 BK4 BB4 HG
 have a2 : w5.cell? ⟨w.heap.size, 2, none⟩ = some (.slice Ac x.cl.length cc) := blk_cell BK5.out 2
 go_wp2
 go_loopg [3, 48] x.cl.length (fun g v3 v48 wx => Aside0 (Below w.heap.size w wx) ∧ Aside0 (wx.heap[w.heap.size]? = some (.cells #[.int .i64 x.now, .slice Ap x.cl.length cp, .slice Ac x.cl.length cc, .slice Am x.mu.length cm, .slice At (tableOf x.sem).length ct, .int .i64 x.stop] 29 (0, 0))) ∧ ∃ i : Nat, i + g = x.cl.length ∧ v48 = .int .i64 i)
 case atStart => exact ⟨BB5, BK5, 0, by omega, rfl⟩
 case round =>
  obtain ⟨HB, HK, i, hig, rfl⟩ := hrel
  cases gk with
  | succ go =>
   have hlt : i < x.cl.length := by omega
   obtain ⟨z, hx⟩ : ∃ z, x.cl[i]? = some z := ⟨_, List.getElem?_eq_getElem hlt⟩
   obtain ⟨ad, he, h0, hj⟩ := flat_cells HW.out.c i z.c (by rw [List.getElem?_map, hx]; rfl)
   cases he
   have y0 := h0 _ rfl
   have y1 := hj 1 _ (by decide) rfl
   have y2 := hj 2 _ (by decide) rfl
   have y3 := hj 3 _ (by decide) rfl
   have y4 := hj 4 _ (by decide) rfl
   have y5 := hj 5 _ (by decide) rfl
   have y6 := hj 6 _ (by decide) rfl
   have y7 := hj 7 _ (by decide) rfl
   have y8 := hj 8 _ (by decide) rfl
   have y9 := hj 9 _ (by decide) rfl
   have y10 := hj 10 _ (by decide) rfl
   have y11 := hj 11 _ (by decide) rfl
   have y12 := hj 12 _ (by decide) rfl
   clear h0 hj
   replace y0 := (HB.out.cell (World.block_lt_of_cell? w _ y0)).trans y0
   replace y1 := (HB.out.cell (World.block_lt_of_cell? w _ y1)).trans y1
   replace y2 := (HB.out.cell (World.block_lt_of_cell? w _ y2)).trans y2
   replace y3 := (HB.out.cell (World.block_lt_of_cell? w _ y3)).trans y3
   replace y4 := (HB.out.cell (World.block_lt_of_cell? w _ y4)).trans y4
   replace y5 := (HB.out.cell (World.block_lt_of_cell? w _ y5)).trans y5
   replace y6 := (HB.out.cell (World.block_lt_of_cell? w _ y6)).trans y6
   replace y7 := (HB.out.cell (World.block_lt_of_cell? w _ y7)).trans y7
   replace y8 := (HB.out.cell (World.block_lt_of_cell? w _ y8)).trans y8
   replace y9 := (HB.out.cell (World.block_lt_of_cell? w _ y9)).trans y9
   replace y10 := (HB.out.cell (World.block_lt_of_cell? w _ y10)).trans y10
   replace y11 := (HB.out.cell (World.block_lt_of_cell? w _ y11)).trans y11
   replace y12 := (HB.out.cell (World.block_lt_of_cell? w _ y12)).trans y12
   obtain ⟨adp, A1, c1, hep, yp, l1, g1⟩ := slice_cells HW.out.p i z.prog (by rw [List.getElem?_map, hx]; rfl)
   cases hep
   have hbp := World.block_lt_of_cell? w _ yp
   replace yp := (HB.out.cell hbp).trans yp
   have HZ := ak_ (fun w' (hb : Below w.heap.size w w') => isClient_yes A1 c1 z w' (Kd.C_below g1 hb) (G.out.c i z hx) (G.out.progs i z hx))
   unfold cv at HZ
   have hil : (i : Int) < (x.cl.length : Int) := by omega
   clear hx g1
   go_wp2_with fail
   have BK := blk_new wr (.cells #[.int .i64 z.c.gor.state, .bool z.c.gor.permit, .int .i64 z.c.act, .int .i64 z.c.pc, .int .i64 z.c.worked, .int .i64 z.c.ticket, .bool z.c.first, .bool z.c.told, .int .i64 z.c.own.since, .bool z.c.own.starving, .bool z.c.own.awake, .int .i64 z.c.own.rounds, .int .i64 z.c.own.old] 44)
   have BB := bel2 HB.out (.cells #[.int .i64 z.c.gor.state, .bool z.c.gor.permit, .int .i64 z.c.act, .int .i64 z.c.pc, .int .i64 z.c.worked, .int .i64 z.c.ticket, .bool z.c.first, .bool z.c.told, .int .i64 z.c.own.since, .bool z.c.own.starving, .bool z.c.own.awake, .int .i64 z.c.own.rounds, .int .i64 z.c.own.old] 44)
   have BX := blk_alloc HK.out (.cells #[.int .i64 z.c.gor.state, .bool z.c.gor.permit, .int .i64 z.c.act, .int .i64 z.c.pc, .int .i64 z.c.worked, .int .i64 z.c.ticket, .bool z.c.first, .bool z.c.told, .int .i64 z.c.own.since, .bool z.c.own.starving, .bool z.c.own.awake, .int .i64 z.c.own.rounds, .int .i64 z.c.own.old] 44)
   have wp := (World.cell?_alloc_some wr (adp.add i) (.cells #[.int .i64 z.c.gor.state, .bool z.c.gor.permit, .int .i64 z.c.act, .int .i64 z.c.pc, .int .i64 z.c.worked, .int .i64 z.c.ticket, .bool z.c.first, .bool z.c.told, .int .i64 z.c.own.since, .bool z.c.own.starving, .bool z.c.own.awake, .int .i64 z.c.own.rounds, .int .i64 z.c.own.old] 44) (by rw [yp]; rfl)).trans yp
   generalize wr.alloc (.cells #[.int .i64 z.c.gor.state, .bool z.c.gor.permit, .int .i64 z.c.act, .int .i64 z.c.pc, .int .i64 z.c.worked, .int .i64 z.c.ticket, .bool z.c.first, .bool z.c.told, .int .i64 z.c.own.since, .bool z.c.own.starving, .bool z.c.own.awake, .int .i64 z.c.own.rounds, .int .i64 z.c.own.old] 44) = W at *
   have BB := ak_ BB
   have BX := ak_ BX
   have z0 : W.cell? ⟨wr.heap.size, 0, none⟩ = some (.int .i64 z.c.gor.state) := blk_cell BK 0
   have z1 : W.cell? ⟨wr.heap.size, 1, none⟩ = some (.bool z.c.gor.permit) := blk_cell BK 1
   have z2 : W.cell? ⟨wr.heap.size, 2, none⟩ = some (.int .i64 z.c.act) := blk_cell BK 2
   have z3 : W.cell? ⟨wr.heap.size, 3, none⟩ = some (.int .i64 z.c.pc) := blk_cell BK 3
   have z4 : W.cell? ⟨wr.heap.size, 4, none⟩ = some (.int .i64 z.c.worked) := blk_cell BK 4
   have z5 : W.cell? ⟨wr.heap.size, 5, none⟩ = some (.int .i64 z.c.ticket) := blk_cell BK 5
   have z6 : W.cell? ⟨wr.heap.size, 6, none⟩ = some (.bool z.c.first) := blk_cell BK 6
   have z7 : W.cell? ⟨wr.heap.size, 7, none⟩ = some (.bool z.c.told) := blk_cell BK 7
   have z8 : W.cell? ⟨wr.heap.size, 8, none⟩ = some (.int .i64 z.c.own.since) := blk_cell BK 8
   have z9 : W.cell? ⟨wr.heap.size, 9, none⟩ = some (.bool z.c.own.starving) := blk_cell BK 9
   have z10 : W.cell? ⟨wr.heap.size, 10, none⟩ = some (.bool z.c.own.awake) := blk_cell BK 10
   have z11 : W.cell? ⟨wr.heap.size, 11, none⟩ = some (.int .i64 z.c.own.rounds) := blk_cell BK 11
   have z12 : W.cell? ⟨wr.heap.size, 12, none⟩ = some (.int .i64 z.c.own.old) := blk_cell BK 12
   have x1 : W.cell? ⟨w.heap.size, 1, none⟩ = some (.slice (some adp) x.cl.length cp) := blk_cell BX.out 1
   have hz : wr.heap.size < W.heap.size := blk_lt BK
   have hwr : w.heap.size < wr.heap.size := blk_lt HK.out
   have hap : (adp.add i).block < w.heap.size := hbp
   clear BK yp hbp
   clear y0 y1 y2 y3 y4 y5 y6 y7 y8 y9 y10 y11 y12
   go_region_held3 (fun w' => w'.cell? ⟨w.heap.size, 1, none⟩ = some (.slice (some adp) x.cl.length cp) ∧ w'.cell? (adp.add i) = some (.slice A1 z.prog.length c1) ∧ w'.cell? ⟨wr.heap.size, 0, none⟩ = some (.int .i64 z.c.gor.state) ∧ w'.cell? ⟨wr.heap.size, 1, none⟩ = some (.bool z.c.gor.permit) ∧ w'.cell? ⟨wr.heap.size, 2, none⟩ = some (.int .i64 z.c.act) ∧ w'.cell? ⟨wr.heap.size, 3, none⟩ = some (.int .i64 z.c.pc) ∧ w'.cell? ⟨wr.heap.size, 4, none⟩ = some (.int .i64 z.c.worked) ∧ w'.cell? ⟨wr.heap.size, 5, none⟩ = some (.int .i64 z.c.ticket) ∧ w'.cell? ⟨wr.heap.size, 6, none⟩ = some (.bool z.c.first) ∧ w'.cell? ⟨wr.heap.size, 7, none⟩ = some (.bool z.c.told) ∧ w'.cell? ⟨wr.heap.size, 8, none⟩ = some (.int .i64 z.c.own.since) ∧ w'.cell? ⟨wr.heap.size, 9, none⟩ = some (.bool z.c.own.starving) ∧ w'.cell? ⟨wr.heap.size, 10, none⟩ = some (.bool z.c.own.awake) ∧ w'.cell? ⟨wr.heap.size, 11, none⟩ = some (.int .i64 z.c.own.rounds) ∧ w'.cell? ⟨wr.heap.size, 12, none⟩ = some (.int .i64 z.c.own.old)) (go_keep) ((go_at_call 48; refine (HZ.out _ (by repeat (first | assumption | exact BB.out | apply pw_below_drewN | apply below_drew1))).mono ?_; rintro e w6 ⟨rfl, hb3⟩; have hz6 : wr.heap.size < w6.heap.size := (by have := hb3.size; first | omega | (simp at this; omega)); have q1 := (hb3.cell (p := ⟨w.heap.size, 1, none⟩) (by first | omega | (simp; omega))).trans (by assumption); have qp := (hb3.cell (p := adp.add i) (by first | omega | (simp; omega))).trans (by assumption); have r0 := (hb3.cell (p := ⟨wr.heap.size, 0, none⟩) (by first | omega | (simp; omega))).trans (by assumption); have r1 := (hb3.cell (p := ⟨wr.heap.size, 1, none⟩) (by first | omega | (simp; omega))).trans (by assumption); have r2 := (hb3.cell (p := ⟨wr.heap.size, 2, none⟩) (by first | omega | (simp; omega))).trans (by assumption); have r3 := (hb3.cell (p := ⟨wr.heap.size, 3, none⟩) (by first | omega | (simp; omega))).trans (by assumption); have r4 := (hb3.cell (p := ⟨wr.heap.size, 4, none⟩) (by first | omega | (simp; omega))).trans (by assumption); have r5 := (hb3.cell (p := ⟨wr.heap.size, 5, none⟩) (by first | omega | (simp; omega))).trans (by assumption); have r6 := (hb3.cell (p := ⟨wr.heap.size, 6, none⟩) (by first | omega | (simp; omega))).trans (by assumption); have r7 := (hb3.cell (p := ⟨wr.heap.size, 7, none⟩) (by first | omega | (simp; omega))).trans (by assumption); have r8 := (hb3.cell (p := ⟨wr.heap.size, 8, none⟩) (by first | omega | (simp; omega))).trans (by assumption); have r9 := (hb3.cell (p := ⟨wr.heap.size, 9, none⟩) (by first | omega | (simp; omega))).trans (by assumption); have r10 := (hb3.cell (p := ⟨wr.heap.size, 10, none⟩) (by first | omega | (simp; omega))).trans (by assumption); have r11 := (hb3.cell (p := ⟨wr.heap.size, 11, none⟩) (by first | omega | (simp; omega))).trans (by assumption); have r12 := (hb3.cell (p := ⟨wr.heap.size, 12, none⟩) (by first | omega | (simp; omega))).trans (by assumption); have bb1 := ak_ (bel3 (show Below w.heap.size w _ from by repeat (first | exact BB.out | apply pw_below_drewN | apply below_drew1)) hb3); have bx1 := ak_ (blk_below (g := w.heap.size) (o := .cells #[.int .i64 x.now, .slice (some adp) x.cl.length cp, .slice (some ad) x.cl.length cc, .slice Am x.mu.length cm, .slice At (tableOf x.sem).length ct, .int .i64 x.stop] 29 (0, 0)) (by repeat (first | exact BX.out | refine blk_drew ?_ | refine blk_drewN ?_ _)) hb3); clear hb3))
   go_wp2
   go_roundg go
   case rel => exact ⟨bb1, bx1, i + 1, by omega, by go_num⟩
   case measure => omega
  | zero =>
   have hi : i = x.cl.length := by omega
   have hnot : ¬ ((i : Int) < (x.cl.length : Int)) := by omega
   clear hi
   have b3 : wr.cell? ⟨w.heap.size, 3, none⟩ = some (.slice Am x.mu.length cm) := blk_cell HK.out 3
   have b4 : wr.cell? ⟨w.heap.size, 4, none⟩ = some (.slice At (tableOf x.sem).length ct) := blk_cell HK.out 4
   have b5 : wr.cell? ⟨w.heap.size, 5, none⟩ = some (.int .i64 x.stop) := blk_cell HK.out 5
   go_wp2
   go_loopg [6, 65] (tableOf x.sem).length (fun g v6 v65 wx => Aside0 (Below w.heap.size w wx) ∧ Aside0 (wx.heap[w.heap.size]? = some (.cells #[.int .i64 x.now, .slice Ap x.cl.length cp, .slice Ac x.cl.length cc, .slice Am x.mu.length cm, .slice At (tableOf x.sem).length ct, .int .i64 x.stop] 29 (0, 0))) ∧ ∃ i : Nat, i + g = (tableOf x.sem).length ∧ v65 = .int .i64 i)
   case atStart => exact ⟨HB, HK, 0, by omega, rfl⟩
   case round =>
    clear b3 b4 b5 HB HK
    obtain ⟨HB, HK, i, hig, rfl⟩ := hrel
    cases gk with
    | succ go =>
     have hlt : i < (tableOf x.sem).length := by omega
     obtain ⟨s, hx⟩ : ∃ s, (tableOf x.sem)[i]? = some s := ⟨_, List.getElem?_eq_getElem hlt⟩
     have hmem := List.mem_of_getElem? hx
     obtain ⟨m, hm, hma⟩ := (okTab_of G.out).ad s hmem
     have hwl := tab_lt G.out s hmem
     obtain ⟨ad, A0, c0, he, y0, y1, y2, l0, g0⟩ := spot_cells HW.out.t i s hx
     cases he
     replace y0 := (HB.out.cell (World.block_lt_of_cell? w _ y0)).trans y0
     replace y1 := (HB.out.cell (World.block_lt_of_cell? w _ y1)).trans y1
     replace y2 := (HB.out.cell (World.block_lt_of_cell? w _ y2)).trans y2
     rw [hma] at y0
     have hm8 : m = 0 ∨ m = 1 ∨ m = 2 ∨ m = 3 := by omega
     have hil : (i : Int) < ((tableOf x.sem).length : Int) := by omega
     have a2 : wr.cell? ⟨w.heap.size, 2, none⟩ = some (.slice Ac x.cl.length cc) := blk_cell HK.out 2
     have HWC := ak_ (fun o => who_contains A0 c0 w.heap.size x.cl.length cc Ac s.line (wr.alloc o) (Kd.C_below g0 (HB.out.alloc HB.out.size o)) (pw_cell_below (below_alloc (Below.refl _ _) o) a2) hwl)
     have hmf : ∀ (fn : Fn) (first cap : Array Value) (w : World), (Instr.makeFunc fn first cap).run Tryz.prog w = .ok (.func fn first cap) w := fun _ _ _ _ => rfl
     clear hx hmem hma hwl g0
     obtain ⟨d, hd, hd4⟩ : ∃ d : Int, d = 8 * (m : Int) ∧ (d = 0 ∨ d = 8 ∨ d = 16 ∨ d = 24) := ⟨_, rfl, by omega⟩
     rw [← hd] at y0
     clear hd hm8 hm
     rcases hd4 with rfl | rfl | rfl | rfl
     all_goals
      go_wp2_with (go_at_call 49; refine (HWC.out _).mono ?_; rintro e w2 ⟨rfl, rfl⟩)
      go_roundg go
      case rel => exact ⟨⟨HB.out.alloc HB.out.size _⟩, ⟨blk_alloc HK.out _⟩, i + 1, by omega, by go_num⟩
      case measure => omega
    | zero =>
     have hi : i = (tableOf x.sem).length := by omega
     have hnot : ¬ ((i : Int) < ((tableOf x.sem).length : Int)) := by omega
     clear hi
     have b3 : wr.cell? ⟨w.heap.size, 3, none⟩ = some (.slice Am x.mu.length cm) := blk_cell HK.out 3
     have b5 : wr.cell? ⟨w.heap.size, 5, none⟩ = some (.int .i64 x.stop) := blk_cell HK.out 5
     have HM := ak_ (mutex_contains Am cm x.mu wr (Kd.C_below HW.out.m HB.out) (fun y hy w' => by obtain ⟨h1, h2, h3⟩ := mu_ok G.out y hy; exact oddMutex y w' h1 h2 h3))
     rcases hst with hst | hst
     all_goals
      rw [hst] at b5
      go_wp2_with (go_at_call 51; refine HM.out.mono ?_; rintro e w2 ⟨rfl, hb⟩; have HB2 := ak_ (bel3 HB.out hb); clear hb)
      go_ret
      exact ⟨rfl, HB2.out⟩
def WVS (S : Nat → Prop) (w : World) (v : Value) (x : M.W) : Prop := ∃ Ap Ac Am At cp cc cm ct, v = wv x Ap Ac Am At cp cc cm ct ∧ ∀ W, Kept w W S → WP W x Ap Ac Am At cp cc cm ct
theorem WVS.step {S : Nat → Prop} {w w' : World} {v : Value} {x : M.W} (h : WVS S w v x) (hk : Kept w w' S) : WVS S w' v x := by
 obtain ⟨Ap, Ac, Am, At, cp, cc, cm, ct, e, h⟩ := h
 exact ⟨Ap, Ac, Am, At, cp, cc, cm, ct, e, fun W q => h W (hk.then_ q (fun _ r => .inl r))⟩
theorem WVS.mono {S S' : Nat → Prop} {w : World} {v : Value} {x : M.W} (h : WVS S w v x) (hs : ∀ b, S' b → S b ∨ w.heap.size ≤ b) : WVS S' w v x := by
 obtain ⟨Ap, Ac, Am, At, cp, cc, cm, ct, e, h⟩ := h
 exact ⟨Ap, Ac, Am, At, cp, cc, cm, ct, e, fun W q => h W ((Kept.refl w S).then_ q hs)⟩
def TickOk (S : Nat → Prop) (x : M.W) (d : Int) (w : World) (e : Ending) (w' : World) : Prop :=
 ∃ a0 a1 a2 a3 a4 a5 b, e = .returned (.tuple #[.agg #[a0, a1, a2, a3, a4, a5], .int .i64 b]) ∧ Below w.heap.size w w' ∧ ((b = 0 ∧ WVS S w' (.agg #[a0, a1, a2, a3, a4, a5]) (M.tick x d)) ∨ (b = 10 ∧ M.tick x d = x ∧ a0 = .int .i64 0 ∧ a1 = .slice none 0 0 ∧ a2 = .slice none 0 0 ∧ a3 = .slice none 0 0 ∧ a4 = .slice none 0 0 ∧ a5 = .int .i64 0))
theorem set6 {w : World} {g : Nat} {a b c d e f : Value} (h : w.heap[g]? = some (.cells #[a, b, c, d, e, f] 29 (0, 0))) (q0 q1 q2 q3 q4 q5 : Value) : ((((((w.setCell ⟨g, 0, none⟩ q0).setCell ⟨g, 1, none⟩ q1).setCell ⟨g, 2, none⟩ q2).setCell ⟨g, 3, none⟩ q3).setCell ⟨g, 4, none⟩ q4).setCell ⟨g, 5, none⟩ q5).heap[g]? = some (.cells #[q0, q1, q2, q3, q4, q5] 29 (0, 0)) :=
 blk_put (blk_put (blk_put (blk_put (blk_put (blk_put h 0 q0 rfl) 1 q1 rfl) 2 q2 rfl) 3 q3 rfl) 4 q4 rfl) 5 q5 rfl
theorem below6 {B : Nat} {w0 w : World} (h : Below B w0 w) {g : Nat} (hg : B ≤ g) (q0 q1 q2 q3 q4 q5 : Value) : Below B w0 ((((((w.setCell ⟨g, 0, none⟩ q0).setCell ⟨g, 1, none⟩ q1).setCell ⟨g, 2, none⟩ q2).setCell ⟨g, 3, none⟩ q3).setCell ⟨g, 4, none⟩ q4).setCell ⟨g, 5, none⟩ q5) :=
 (((((h.setCell (p := ⟨g, 0, none⟩) hg q0).setCell (p := ⟨g, 1, none⟩) hg q1).setCell (p := ⟨g, 2, none⟩) hg q2).setCell (p := ⟨g, 3, none⟩) hg q3).setCell (p := ⟨g, 4, none⟩) hg q4).setCell (p := ⟨g, 5, none⟩) hg q5
theorem WP.now {w : World} {x : M.W} {Ap Ac Am At : Option Addr} {cp cc cm ct : Nat} (h : WP w x Ap Ac Am At cp cc cm ct) (n : Int) : WP w { x with now := n } Ap Ac Am At cp cc cm ct := ⟨h.p, h.pc, h.c, h.cc, h.m, h.mc, h.t, h.tc⟩
theorem tick_stop {x : M.W} (d : Int) (h : x.stop ≠ 0) : M.tick x d = x := by
 unfold M.tick
 rw [if_pos (.inl h)]
theorem tick_over {x : M.W} (d : Int) (h : 4611686018427387904 - x.now < d) : M.tick x d = x := by
 unfold M.tick
 rw [if_pos (.inr h)]
theorem tick_on {x : M.W} (d : Int) (h0 : x.stop = 0) (h : ¬ 4611686018427387904 - x.now < d) : M.tick x d = { x with now := x.now + d } := by
 unfold M.tick
 rw [if_neg (fun q => q.elim (fun q => q h0) h)]
theorem tick_at (x : M.W) (g : M.Good x) (Ap Ac Am At : Option Addr) (cp cc cm ct : Nat) (w : World) (S : Nat → Prop) (hWS : ∀ W, Kept w W S → WP W x Ap Ac Am At cp cc cm ct) (d : Int) (hd : okT d) :
  Calls Tryz.prog 68 #[wv x Ap Ac Am At cp cc cm ct, .int .i64 d] w (TickOk S x d w) := by
 have h := hWS w (Kept.refl _ _)
 have HWS := ak_ hWS
 clear hWS
 have HW := ak_ h
 have hn : okT x.now := ⟨g.now0, g.now1⟩
 have P1 := ak_ (fun w' (hb : Below w.heap.size w w') => machRight_at x g Ap Ac Am At cp cc cm ct w' (h.below hb))
 have hst : x.stop = 0 ∨ x.stop = 11 := g.stop
 have HN := ak_ hn
 have HD := ak_ hd
 have hu := Tryz.underlying29
 clear h g hn hd
 unfold wv at P1 ⊢
 obtain ⟨v0, e0⟩ : ∃ v0, v0 = Value.int .i64 x.now := ⟨_, rfl⟩
 obtain ⟨v1, e1⟩ : ∃ v1, v1 = Value.slice Ap x.cl.length cp := ⟨_, rfl⟩
 obtain ⟨v2, e2⟩ : ∃ v2, v2 = Value.slice Ac x.cl.length cc := ⟨_, rfl⟩
 obtain ⟨v3, e3⟩ : ∃ v3, v3 = Value.slice Am x.mu.length cm := ⟨_, rfl⟩
 obtain ⟨v4, e4⟩ : ∃ v4, v4 = Value.slice At (tableOf x.sem).length ct := ⟨_, rfl⟩
 obtain ⟨v5, e5⟩ : ∃ v5, v5 = Value.int .i64 x.stop := ⟨_, rfl⟩
 have BK := ak_ (blk_alloc (blk_new w (.cells #[.int .i64 x.now, .slice Ap x.cl.length cp, .slice Ac x.cl.length cc, .slice Am x.mu.length cm, .slice At (tableOf x.sem).length ct, .int .i64 x.stop] 29)) (.cells #[.int .i64 0, .slice none 0 0, .slice none 0 0, .slice none 0 0, .slice none 0 0, .int .i64 0] 29))
 have BR0 := blk_new (w.alloc (.cells #[.int .i64 x.now, .slice Ap x.cl.length cp, .slice Ac x.cl.length cc, .slice Am x.mu.length cm, .slice At (tableOf x.sem).length ct, .int .i64 x.stop] 29)) (.cells #[.int .i64 0, .slice none 0 0, .slice none 0 0, .slice none 0 0, .slice none 0 0, .int .i64 0] 29)
 rw [World.size_alloc] at BR0
 have BR := ak_ BR0
 clear BR0
 have BB := ak_ (bel2 (bel2 (Below.refl _ w) (.cells #[.int .i64 x.now, .slice Ap x.cl.length cp, .slice Ac x.cl.length cc, .slice Am x.mu.length cm, .slice At (tableOf x.sem).length ct, .int .i64 x.stop] 29)) (.cells #[.int .i64 0, .slice none 0 0, .slice none 0 0, .slice none 0 0, .slice none 0 0, .int .i64 0] 29))
 go_enter Tryz.func68, Tryz.ntmps68
 go_wp2_with fail
 refine (P1.out _ BB.out).mono ?_
 rintro e w2 ⟨rfl, hb2⟩
 have BK2 := ak_ (blk_below BK.out hb2)
 have BR2 := ak_ (blk_below BR.out hb2)
 have BB2 := ak_ (bel3 BB.out hb2)
 clear hb2 BK BB BR
 go_wp2_with fail
 refine (clockRight_yes d _ HD.out).mono ?_
 rintro e w3 ⟨rfl, rfl⟩
 have a0 : w3.cell? ⟨w.heap.size, 0, none⟩ = some (.int .i64 x.now) := blk_cell BK2.out 0
 have a1 : w3.cell? ⟨w.heap.size, 1, none⟩ = some (.slice Ap x.cl.length cp) := blk_cell BK2.out 1
 have a2 : w3.cell? ⟨w.heap.size, 2, none⟩ = some (.slice Ac x.cl.length cc) := blk_cell BK2.out 2
 have a3 : w3.cell? ⟨w.heap.size, 3, none⟩ = some (.slice Am x.mu.length cm) := blk_cell BK2.out 3
 have a4 : w3.cell? ⟨w.heap.size, 4, none⟩ = some (.slice At (tableOf x.sem).length ct) := blk_cell BK2.out 4
 have a5 : w3.cell? ⟨w.heap.size, 5, none⟩ = some (.int .i64 x.stop) := blk_cell BK2.out 5
 have z0 : w3.cell? ⟨w.heap.size + 1, 0, none⟩ = some (.int .i64 0) := blk_cell BR2.out 0
 have fz0 : w3.frozen? ⟨w.heap.size + 1, 0, none⟩ = false := blk_frozen BR2.out 0
 have z1 : w3.cell? ⟨w.heap.size + 1, 1, none⟩ = some (.slice none 0 0) := blk_cell BR2.out 1
 have fz1 : w3.frozen? ⟨w.heap.size + 1, 1, none⟩ = false := blk_frozen BR2.out 1
 have z2 : w3.cell? ⟨w.heap.size + 1, 2, none⟩ = some (.slice none 0 0) := blk_cell BR2.out 2
 have fz2 : w3.frozen? ⟨w.heap.size + 1, 2, none⟩ = false := blk_frozen BR2.out 2
 have z3 : w3.cell? ⟨w.heap.size + 1, 3, none⟩ = some (.slice none 0 0) := blk_cell BR2.out 3
 have fz3 : w3.frozen? ⟨w.heap.size + 1, 3, none⟩ = false := blk_frozen BR2.out 3
 have z4 : w3.cell? ⟨w.heap.size + 1, 4, none⟩ = some (.slice none 0 0) := blk_cell BR2.out 4
 have fz4 : w3.frozen? ⟨w.heap.size + 1, 4, none⟩ = false := blk_frozen BR2.out 4
 have z5 : w3.cell? ⟨w.heap.size + 1, 5, none⟩ = some (.int .i64 0) := blk_cell BR2.out 5
 have fz5 : w3.frozen? ⟨w.heap.size + 1, 5, none⟩ = false := blk_frozen BR2.out 5
 rcases hst with hst | hst
 ·rw [hst] at a5
  have HX := ak_ (fun W => clockTick_over x.now d W HN.out HD.out)
  by_cases hs : 4611686018427387904 - x.now < d
  ·have HE := ak_ (tick_over d hs)
   go_wp2_with fail
   refine (clockTick_over x.now d _ HN.out HD.out hs).mono ?_
   rintro e w4 ⟨rfl, hb4⟩
   have BK4 := ak_ (blk_below BK2.out hb4)
   have BR4 := ak_ (blk_below BR2.out hb4)
   have BB4 := ak_ (bel3 BB2.out hb4)
   clear hb4
   have a4_0 : w4.cell? ⟨w.heap.size, 0, none⟩ = some (.int .i64 x.now) := blk_cell BK4.out 0
   have a4_1 : w4.cell? ⟨w.heap.size, 1, none⟩ = some (.slice Ap x.cl.length cp) := blk_cell BK4.out 1
   have a4_2 : w4.cell? ⟨w.heap.size, 2, none⟩ = some (.slice Ac x.cl.length cc) := blk_cell BK4.out 2
   have a4_3 : w4.cell? ⟨w.heap.size, 3, none⟩ = some (.slice Am x.mu.length cm) := blk_cell BK4.out 3
   have a4_4 : w4.cell? ⟨w.heap.size, 4, none⟩ = some (.slice At (tableOf x.sem).length ct) := blk_cell BK4.out 4
   have a4_5 : w4.cell? ⟨w.heap.size, 5, none⟩ = some (.int .i64 x.stop) := blk_cell BK4.out 5
   have z4_0 : w4.cell? ⟨w.heap.size + 1, 0, none⟩ = some (.int .i64 0) := blk_cell BR4.out 0
   have fz4_0 : w4.frozen? ⟨w.heap.size + 1, 0, none⟩ = false := blk_frozen BR4.out 0
   have z4_1 : w4.cell? ⟨w.heap.size + 1, 1, none⟩ = some (.slice none 0 0) := blk_cell BR4.out 1
   have fz4_1 : w4.frozen? ⟨w.heap.size + 1, 1, none⟩ = false := blk_frozen BR4.out 1
   have z4_2 : w4.cell? ⟨w.heap.size + 1, 2, none⟩ = some (.slice none 0 0) := blk_cell BR4.out 2
   have fz4_2 : w4.frozen? ⟨w.heap.size + 1, 2, none⟩ = false := blk_frozen BR4.out 2
   have z4_3 : w4.cell? ⟨w.heap.size + 1, 3, none⟩ = some (.slice none 0 0) := blk_cell BR4.out 3
   have fz4_3 : w4.frozen? ⟨w.heap.size + 1, 3, none⟩ = false := blk_frozen BR4.out 3
   have z4_4 : w4.cell? ⟨w.heap.size + 1, 4, none⟩ = some (.slice none 0 0) := blk_cell BR4.out 4
   have fz4_4 : w4.frozen? ⟨w.heap.size + 1, 4, none⟩ = false := blk_frozen BR4.out 4
   have z4_5 : w4.cell? ⟨w.heap.size + 1, 5, none⟩ = some (.int .i64 0) := blk_cell BR4.out 5
   have fz4_5 : w4.frozen? ⟨w.heap.size + 1, 5, none⟩ = false := blk_frozen BR4.out 5
   go_wp2
   refine bodyPost_ret (results_ct rfl _ _ (w.heap.size + 1) 29 _ (0, 0) _ rfl (set6 BR4.out (.int .i64 0) (.slice none 0 0) (.slice none 0 0) (.slice none 0 0) (.slice none 0 0) (.int .i64 0)) Tryz.underlying29 rfl (by kernel_rfl)) rfl ?_
   exact ⟨_, _, _, _, _, _, 10, rfl, below6 BB4.out (Nat.le_succ w.heap.size) _ _ _ _ _ _, .inr ⟨rfl, HE.out, rfl, rfl, rfl, rfl, rfl, rfl⟩⟩
  ·have HE := ak_ (tick_on d hst hs)
   have hwr : IntKind.i64.wrap (x.now + d) = x.now + d := by rw [IntKind.wrap_i64]; have := HN.out; have := HD.out; unfold okT at *; omega
   go_wp2_with fail
   refine (clockTick_ok x.now d _ HN.out HD.out (by omega)).mono ?_
   rintro e w4 ⟨rfl, hb4⟩
   have BK4 := ak_ (blk_below BK2.out hb4)
   have BR4 := ak_ (blk_below BR2.out hb4)
   have BB4 := ak_ (bel3 BB2.out hb4)
   have hne : w.heap.size + 1 ≠ w.heap.size := by omega
   have BK5 := ak_ (blk_put BK4.out 0 (.int .i64 (x.now + d)) rfl)
   have BR5 := ak_ (blk_far BR4.out (p := ⟨w.heap.size, 0, none⟩) hne (.int .i64 (x.now + d)))
   have BB5 := ak_ (BB4.out.setCell (p := ⟨w.heap.size, 0, none⟩) (Nat.le_refl _) (.int .i64 (x.now + d)))
   clear hb4
   have a4_0 : w4.cell? ⟨w.heap.size, 0, none⟩ = some (.int .i64 x.now) := blk_cell BK4.out 0
   have a4_1 : w4.cell? ⟨w.heap.size, 1, none⟩ = some (.slice Ap x.cl.length cp) := blk_cell BK4.out 1
   have a4_2 : w4.cell? ⟨w.heap.size, 2, none⟩ = some (.slice Ac x.cl.length cc) := blk_cell BK4.out 2
   have a4_3 : w4.cell? ⟨w.heap.size, 3, none⟩ = some (.slice Am x.mu.length cm) := blk_cell BK4.out 3
   have a4_4 : w4.cell? ⟨w.heap.size, 4, none⟩ = some (.slice At (tableOf x.sem).length ct) := blk_cell BK4.out 4
   have a4_5 : w4.cell? ⟨w.heap.size, 5, none⟩ = some (.int .i64 x.stop) := blk_cell BK4.out 5
   have z4_0 : w4.cell? ⟨w.heap.size + 1, 0, none⟩ = some (.int .i64 0) := blk_cell BR4.out 0
   have fz4_0 : w4.frozen? ⟨w.heap.size + 1, 0, none⟩ = false := blk_frozen BR4.out 0
   have z4_1 : w4.cell? ⟨w.heap.size + 1, 1, none⟩ = some (.slice none 0 0) := blk_cell BR4.out 1
   have fz4_1 : w4.frozen? ⟨w.heap.size + 1, 1, none⟩ = false := blk_frozen BR4.out 1
   have z4_2 : w4.cell? ⟨w.heap.size + 1, 2, none⟩ = some (.slice none 0 0) := blk_cell BR4.out 2
   have fz4_2 : w4.frozen? ⟨w.heap.size + 1, 2, none⟩ = false := blk_frozen BR4.out 2
   have z4_3 : w4.cell? ⟨w.heap.size + 1, 3, none⟩ = some (.slice none 0 0) := blk_cell BR4.out 3
   have fz4_3 : w4.frozen? ⟨w.heap.size + 1, 3, none⟩ = false := blk_frozen BR4.out 3
   have z4_4 : w4.cell? ⟨w.heap.size + 1, 4, none⟩ = some (.slice none 0 0) := blk_cell BR4.out 4
   have fz4_4 : w4.frozen? ⟨w.heap.size + 1, 4, none⟩ = false := blk_frozen BR4.out 4
   have z4_5 : w4.cell? ⟨w.heap.size + 1, 5, none⟩ = some (.int .i64 0) := blk_cell BR4.out 5
   have fz4_5 : w4.frozen? ⟨w.heap.size + 1, 5, none⟩ = false := blk_frozen BR4.out 5
   have fa4 : w4.frozen? ⟨w.heap.size, 0, none⟩ = false := blk_frozen BK4.out 0
   go_wp2
   refine bodyPost_ret (results_ct rfl _ _ (w.heap.size + 1) 29 _ (0, 0) _ rfl (set6 BR5.out (.int .i64 (x.now + d)) (.slice Ap x.cl.length cp) (.slice Ac x.cl.length cc) (.slice Am x.mu.length cm) (.slice At (tableOf x.sem).length ct) (.int .i64 0)) Tryz.underlying29 rfl (by kernel_rfl)) rfl ?_
   have hB6 := below6 BB5.out (Nat.le_succ w.heap.size) (.int .i64 (x.now + d)) (.slice Ap x.cl.length cp) (.slice Ac x.cl.length cc) (.slice Am x.mu.length cm) (.slice At (tableOf x.sem).length ct) (.int .i64 0)
   refine ⟨_, _, _, _, _, _, 0, rfl, hB6, .inl ⟨rfl, ?_⟩⟩
   rw [HE.out]
   exact ⟨Ap, Ac, Am, At, cp, cc, cm, ct, by unfold wv; rw [hst], fun W hk => (HWS.out W ((Kept.of_below hB6 S).then_ hk (fun _ q => .inl q))).now _⟩
 ·have hs5 : x.stop ≠ 0 := by omega
  rw [hst] at a5
  go_wp2
  refine bodyPost_ret (results_ct rfl _ _ (w.heap.size + 1) 29 _ (0, 0) _ rfl (set6 BR2.out (.int .i64 x.now) (.slice Ap x.cl.length cp) (.slice Ac x.cl.length cc) (.slice Am x.mu.length cm) (.slice At (tableOf x.sem).length ct) (.int .i64 11)) Tryz.underlying29 rfl (by kernel_rfl)) rfl ?_
  have hB6 := below6 BB2.out (Nat.le_succ w.heap.size) (.int .i64 x.now) (.slice Ap x.cl.length cp) (.slice Ac x.cl.length cc) (.slice Am x.mu.length cm) (.slice At (tableOf x.sem).length ct) (.int .i64 11)
  refine ⟨_, _, _, _, _, _, 0, rfl, hB6, .inl ⟨rfl, ?_⟩⟩
  rw [tick_stop d hs5, ← hst]
  exact ⟨Ap, Ac, Am, At, cp, cc, cm, ct, rfl, fun W hk => HWS.out W ((Kept.of_below (by rw [← hst] at hB6; exact hB6) S).then_ hk (fun _ q => .inl q))⟩
theorem tick68 (x : M.W) (g : M.Good x) (v : Value) (w : World) (S : Nat → Prop) (h : WVS S w v x) (d : Int) (hd : okT d) : Calls Tryz.prog 68 #[v, .int .i64 d] w (TickOk S x d w) := by
 obtain ⟨Ap, Ac, Am, At, cp, cc, cm, ct, rfl, hp⟩ := h
 exact tick_at x g Ap Ac Am At cp cc cm ct w S hp d hd
def doneC (c : M.Client) : Bool := c.gor.state == 2
def doneB (x : M.W) : Bool := (x.cl.map (·.c)).all doneC
theorem all_endG {α : Type} (l : List α) (p : α → Bool) (h : ∀ t : Nat, (ht : t < l.length) → p l[t] = true) : l.all p = true := by
 rw [List.all_eq_true]
 intro q hq
 obtain ⟨k, hk, rfl⟩ := List.getElem_of_mem hq
 exact h k hk
theorem all_notG {α : Type} (l : List α) (p : α → Bool) {i : Nat} {x : α} (hx : l[i]? = some x) (h : p x = false) : l.all p = false := by
 rw [Bool.eq_false_iff]
 intro q
 rw [List.all_eq_true] at q
 have := q x (List.mem_of_getElem? hx)
 rw [h] at this
 cases this
theorem notdone45 (x : M.Client) (w : World) : Calls Tryz.prog 45 #[.agg #[.int .i64 x.gor.state, .bool x.gor.permit, .int .i64 x.act, .int .i64 x.pc, .int .i64 x.worked, .int .i64 x.ticket, .bool x.first, .bool x.told, .int .i64 x.own.since, .bool x.own.starving, .bool x.own.awake, .int .i64 x.own.rounds, .int .i64 x.own.old]] w fun e w' => e = .returned (.bool (x.gor.state != 2)) ∧ Below w.heap.size w w' := by
 have hu := Tryz.underlying44
 have hu40 := Tryz.underlying40
 have HB := ak_ (bel2 (Below.refl _ w) (.cells #[.int .i64 x.gor.state, .bool x.gor.permit, .int .i64 x.act, .int .i64 x.pc, .int .i64 x.worked, .int .i64 x.ticket, .bool x.first, .bool x.told, .int .i64 x.own.since, .bool x.own.starving, .bool x.own.awake, .int .i64 x.own.rounds, .int .i64 x.own.old] 44))
 go_enter Tryz.func45, Tryz.ntmps45
 go_wp2
 go_ret
 exact ⟨rfl, HB.out⟩
theorem index76 (A : Option Addr) (c : Nat) (l : List M.Client) (w : World) (hC0 : kClient.C w A l.length l) :
  Calls Tryz.prog 76 #[.slice A l.length c, .func (.func 45) #[] #[]] w fun e w' => (∃ v : Int, e = .returned (.int .i64 v) ∧ decide (v ≥ 0) = !l.all doneC) ∧ Below w.heap.size w w' := by
 have hlen : l.length ≤ 9223372036854775807 := hC0.2.1
 have HC := ak_ hC0
 clear hC0
 go_enter Tryz.func76, Tryz.ntmps76
 go_wp2
 go_loopg [5, 8] l.length (fun g v5 v8 wx => Aside0 (Below w.heap.size w wx) ∧ ∃ i : Nat, i + g = l.length ∧ v8 = .int .i64 i ∧ Aside0 (∀ t : Nat, (ht : t < l.length) → t < i → doneC l[t] = true))
 case atStart => exact ⟨⟨Below.refl _ _⟩, 0, by omega, rfl, ⟨fun t _ ht => absurd ht (by omega)⟩⟩
 case round =>
  obtain ⟨HB, i, hig, rfl, Hd⟩ := hrel
  cases gk with
  | zero =>
   have hi : i = l.length := by omega
   have He := ak_ (all_endG l doneC (fun t ht => Hd.out t ht (by omega)))
   have hnot : ¬ ((i : Int) < (l.length : Int)) := by omega
   clear hi
   go_wp2
   go_ret
   exact ⟨⟨-1, rfl, by rw [He.out]; decide⟩, HB.out⟩
  | succ go =>
   have hlt : i < l.length := by omega
   obtain ⟨x, hx⟩ : ∃ x, l[i]? = some x := ⟨_, List.getElem?_eq_getElem hlt⟩
   obtain ⟨ad, he, h0, hj⟩ := flat_cells HC.out i x hx
   cases he
   have y0 := h0 _ rfl
   have y1 := hj 1 _ (by decide) rfl
   have y2 := hj 2 _ (by decide) rfl
   have y3 := hj 3 _ (by decide) rfl
   have y4 := hj 4 _ (by decide) rfl
   have y5 := hj 5 _ (by decide) rfl
   have y6 := hj 6 _ (by decide) rfl
   have y7 := hj 7 _ (by decide) rfl
   have y8 := hj 8 _ (by decide) rfl
   have y9 := hj 9 _ (by decide) rfl
   have y10 := hj 10 _ (by decide) rfl
   have y11 := hj 11 _ (by decide) rfl
   have y12 := hj 12 _ (by decide) rfl
   clear h0 hj
   replace y0 := (HB.out.cell (World.block_lt_of_cell? w _ y0)).trans y0
   replace y1 := (HB.out.cell (World.block_lt_of_cell? w _ y1)).trans y1
   replace y2 := (HB.out.cell (World.block_lt_of_cell? w _ y2)).trans y2
   replace y3 := (HB.out.cell (World.block_lt_of_cell? w _ y3)).trans y3
   replace y4 := (HB.out.cell (World.block_lt_of_cell? w _ y4)).trans y4
   replace y5 := (HB.out.cell (World.block_lt_of_cell? w _ y5)).trans y5
   replace y6 := (HB.out.cell (World.block_lt_of_cell? w _ y6)).trans y6
   replace y7 := (HB.out.cell (World.block_lt_of_cell? w _ y7)).trans y7
   replace y8 := (HB.out.cell (World.block_lt_of_cell? w _ y8)).trans y8
   replace y9 := (HB.out.cell (World.block_lt_of_cell? w _ y9)).trans y9
   replace y10 := (HB.out.cell (World.block_lt_of_cell? w _ y10)).trans y10
   replace y11 := (HB.out.cell (World.block_lt_of_cell? w _ y11)).trans y11
   replace y12 := (HB.out.cell (World.block_lt_of_cell? w _ y12)).trans y12
   have hil : (i : Int) < (l.length : Int) := by omega
   by_cases hf : x.gor.state = 2
   ·have hs1 : (x.gor.state != 2) = false := by rw [hf]; rfl
    have Hd2 := ak_ (show ∀ t : Nat, (ht : t < l.length) → t < i + 1 → doneC l[t] = true by
     intro t ht hti
     by_cases q : t < i
     ·exact Hd.out t ht q
     ·have : t = i := by omega
      subst this
      rw [List.getElem?_eq_getElem hlt] at hx
      have := Option.some.inj hx
      rw [this]
      unfold doneC
      rw [hf]
      rfl)
    have PC := ak_ (fun W => notdone45 x W)
    rw [hs1] at PC
    clear hf hs1 hx
    go_wp2_with (go_at_call 45; refine (PC.out _).mono ?_; rintro e w2 ⟨rfl, hb⟩; have NB := ak_ (HB.out.trans (hb.mono (by have := HB.out.size; omega))))
    go_roundg go
    case rel => exact ⟨NB, i + 1, by omega, by go_num, Hd2⟩
    case measure => omega
   ·have hs1 : (x.gor.state != 2) = true := bne_iff_ne.2 hf
    have He := ak_ (all_notG l doneC hx (show doneC x = false from beq_eq_false_iff_ne.2 hf))
    have PC := ak_ (fun W => notdone45 x W)
    rw [hs1] at PC
    clear hf hs1 hx
    go_wp2_with (go_at_call 45; refine (PC.out _).mono ?_; rintro e w2 ⟨rfl, hb⟩; have NB := ak_ (HB.out.trans (hb.mono (by have := HB.out.size; omega))))
    go_ret
    exact ⟨⟨(i : Int), rfl, by rw [He.out]; exact decide_eq_true (by omega)⟩, NB.out⟩
theorem contains44 (A : Option Addr) (c : Nat) (l : List M.Client) (w : World) (hC0 : kClient.C w A l.length l) :
  Calls Tryz.prog 44 #[.slice A l.length c, .func (.func 45) #[] #[]] w fun e w' => e = .returned (.bool (!l.all doneC)) ∧ Below w.heap.size w w' := by
 have P := ak_ (index76 A c l w hC0)
 clear hC0
 go_enter Tryz.func44, Tryz.ntmps44
 go_wp2_with fail
 refine P.out.mono ?_
 rintro e w2 ⟨⟨v, rfl, hv⟩, hb⟩
 have HV := ak_ hv
 clear hv
 go_wp2
 go_ret
 exact ⟨by rw [← HV.out]; rfl, hb⟩
theorem done19 (x : M.W) (g : M.Good x) (v : Value) (w : World) (h : WV w v x) : Calls Tryz.prog 19 #[v] w fun e w' => e = .returned (.tuple #[.bool (doneB x), .int .i64 0]) ∧ Below w.heap.size w w' := by
 obtain ⟨Ap, Ac, Am, At, cp, cc, cm, ct, rfl, hp⟩ := h
 have HB0 := ak_ (bel2 (Below.refl _ w) (.cells #[.int .i64 x.now, .slice Ap x.cl.length cp, .slice Ac x.cl.length cc, .slice Am x.mu.length cm, .slice At (tableOf x.sem).length ct, .int .i64 x.stop] 29))
 have P1 := ak_ (machRight_at x g Ap Ac Am At cp cc cm ct (w.alloc (.cells #[.int .i64 x.now, .slice Ap x.cl.length cp, .slice Ac x.cl.length cc, .slice Am x.mu.length cm, .slice At (tableOf x.sem).length ct, .int .i64 x.stop] 29)) (hp.below HB0.out))
 have HC := ak_ hp.c
 have HT := ak_ (blk_new w (.cells #[.int .i64 x.now, .slice Ap x.cl.length cp, .slice Ac x.cl.length cc, .slice Am x.mu.length cm, .slice At (tableOf x.sem).length ct, .int .i64 x.stop] 29))
 have hu := Tryz.underlying29
 clear hp
 unfold wv at P1 ⊢
 go_enter Tryz.func19, Tryz.ntmps19
 go_wp2_with fail
 refine P1.out.mono ?_
 rintro e w2 ⟨rfl, hb2⟩
 have HB2 := ak_ (bel3 HB0.out hb2)
 have HT2 := ak_ (blk_below HT.out hb2)
 have v2 : w2.cell? ⟨w.heap.size, 2, none⟩ = some (.slice Ac x.cl.length cc) := blk_cell HT2.out 2
 have hC2 := Kd.C_below HC.out HB2.out
 have e9 : x.cl.length = (x.cl.map (·.c)).length := (List.length_map _).symm
 have P2 := ak_ (show Calls Tryz.prog 44 #[.slice Ac x.cl.length cc, .func (.func 45) #[] #[]] w2 _ by rw [e9] at hC2 ⊢; exact contains44 Ac cc (x.cl.map (·.c)) w2 hC2)
 clear hb2 HT HB0 P1 HC hC2 e9
 go_wp2_with fail
 refine P2.out.mono ?_
 rintro e w3 ⟨rfl, hb3⟩
 have HB3 := ak_ (bel3 HB2.out hb3)
 clear hb3 HB2 P2
 have hnn : (!!(x.cl.map (·.c)).all doneC) = doneB x := by rw [Bool.not_not]; rfl
 obtain ⟨q, hq⟩ : ∃ q, q = (x.cl.map (·.c)).all doneC := ⟨_, rfl⟩
 rw [← hq] at hnn ⊢
 go_wp2
 go_ret2
 exact ⟨by rw [← hnn]; simp; rw [hq, List.all_map], HB3.out⟩
def fv (f : Nat) : Value := .func (.func f) #[] #[]
def entFrom : List (Int × Nat) → Nat → List MapEntry
 | [], _ => []
 | p :: r, i => { key := .int .i64 p.1, val := fv p.2, born := i } :: entFrom r (i + 1)
def ent (l : List (Int × Nat)) : Array MapEntry := (entFrom l 0).toArray
def look (k : Int) : List (Int × Nat) → Nat → Option (Nat × Nat)
 | [], _ => none
 | p :: r, i => if k = p.1 then some (i, p.2) else look k r (i + 1)
theorem findNow_ent (k : Int) : ∀ (l : List (Int × Nat)) (b i : Nat), Instr.findNow (.int .i64) (.int .i64 k) (entFrom l b) i = some ((look k l i).map fun q => (q.1, fv q.2))
 | [], _, _ => rfl
 | p :: r, b, i => by
  have ih := findNow_ent k r (b + 1) (i + 1)
  unfold entFrom Instr.findNow look
  simp only [Instr.sameNow, if_true]
  by_cases h : k = p.1
  ·subst h
   simp
  ·have : (k == p.1) = false := by simpa using h
   simp only [this, if_neg h]
   exact ih
theorem entFrom_snoc (p : Int × Nat) : ∀ (l : List (Int × Nat)) (b : Nat), entFrom (l ++ [p]) b = entFrom l b ++ [{ key := .int .i64 p.1, val := fv p.2, born := b + l.length }]
 | [], b => rfl
 | q :: r, b => by
  show _ :: entFrom (r ++ [p]) (b + 1) = _
  rw [entFrom_snoc p r (b + 1)]
  show _ = _ :: (entFrom r (b + 1) ++ _)
  rw [List.length_cons, show b + 1 + r.length = b + (r.length + 1) by omega]
theorem ent_snoc (l : List (Int × Nat)) (p : Int × Nat) : ent (l ++ [p]) = (ent l).push { key := .int .i64 p.1, val := fv p.2, born := l.length } := by
 unfold ent
 rw [entFrom_snoc]
 simp
theorem push_last (a : Array Obj) (o o' : Obj) : (a.push o).setIfInBounds a.size o' = a.push o' := by
 refine Array.ext (by simp) (fun i h1 h2 => ?_)
 rw [Array.getElem_setIfInBounds (by simp at h2 ⊢; omega)]
 by_cases h : a.size = i
 ·subst h
  simp
 ·rw [if_neg h]
  simp at h1
  rw [Array.getElem_push_lt (by omega), Array.getElem_push_lt (by omega)]
theorem run_insert (l : List (Int × Nat)) (k : Int) (f : Nat) (w : World) (hf : look k l 0 = none) :
  (Instr.mapUpdate 119 (.map (some w.heap.size)) (.int .i64 k) (.func (.func f) #[] #[])).run Tryz.prog (w.alloc (.map (ent l) l.length)) = .ok () (w.alloc (.map (ent (l ++ [(k, f)])) (l.length + 1))) := by
 have hb : (w.alloc (.map (ent l) l.length)).heap[w.heap.size]? = some (.map (ent l) l.length) := blk_new w _
 have h1 : Instr.findNow (.int .i64) (.int .i64 k) (ent l).toList 0 = some none := by
  have := findNow_ent k l 0 0
  rw [hf] at this
  simpa [ent] using this
 have hc := MapKept.run_checkKey (P := Tryz.prog) (w := w.alloc (.map (ent l) l.length)) (k := .int .i64 k) Tryz.underlying3 (by simp [MapKept.IsKey]) false 9999
 simp [Instr.mapUpdate, run_underlying Tryz.underlying119, MapKept.run_getObj_map hb, hc, MapKept.run_findKey Tryz.underlying3 h1, MapKept.run_setObj_map _ hb, Result.andThen]
 rw [ent_snoc, show (w.alloc (.map (ent l) l.length)).heap = w.heap.push (.map (ent l) l.length) from rfl, push_last]
 rfl
theorem run_look (l : List (Int × Nat)) (n g : Nat) (k : Int) (i f : Nat) (w : World) (hb : w.heap[g]? = some (.map (ent l) n)) (hf : look k l 0 = some (i, f)) :
  (Instr.lookup 119 (.map (some g)) (.int .i64 k) false).run Tryz.prog w = .ok (.func (.func f) #[] #[]) w := by
 have h1 : Instr.findNow (.int .i64) (.int .i64 k) (ent l).toList 0 = some (some (i, .func (.func f) #[] #[])) := by
  have := findNow_ent k l 0 0
  rw [hf] at this
  simpa [ent, fv] using this
 have hc := fun e => MapKept.run_checkKey (P := Tryz.prog) (w := w) (k := .int .i64 k) Tryz.underlying3 (by simp [MapKept.IsKey]) e 9999
 simp [Instr.lookup, run_underlying Tryz.underlying119, MapKept.run_getObj_map hb, hc, MapKept.run_findKey Tryz.underlying3 h1, Result.andThen]
def startsL : List (Int × Nat) := [(0, 82), (1, 83), (2, 84)]
def stepsL : List (Int × Nat) := [(1, 85), (2, 86), (3, 87), (4, 88), (5, 89), (6, 90), (7, 91), (8, 92), (9, 93), (10, 94), (11, 95), (12, 87), (13, 88), (14, 96), (15, 97)]
theorem ent_nil : ent [] = #[] := rfl
theorem starts56 (w : World) : Calls Tryz.prog 56 #[] w fun e w' => e = .returned (.map (some w.heap.size)) ∧ w' = w.alloc (.map (ent startsL) 3) := by
 have hmm := @run_makeMap Tryz.prog
 have i0 := run_insert [] 0 82 w rfl
 have i1 := run_insert [(0, 82)] 1 83 w rfl
 have i2 := run_insert [(0, 82), (1, 83)] 2 84 w rfl
 rw [ent_nil] at i0
 simp only [List.nil_append, List.cons_append, List.length_cons, List.length_nil, Nat.reduceAdd] at i0 i1 i2
 go_enter Tryz.func56, Tryz.ntmps56
 go_wp2
 go_ret
 exact ⟨rfl, rfl⟩
theorem steps57 (w : World) : Calls Tryz.prog 57 #[] w fun e w' => e = .returned (.map (some w.heap.size)) ∧ w' = w.alloc (.map (ent stepsL) 15) := by
 have hmm := @run_makeMap Tryz.prog
 have i0 := run_insert [] 1 85 w rfl
 have i1 := run_insert (stepsL.take 1) 2 86 w rfl
 have i2 := run_insert (stepsL.take 2) 3 87 w rfl
 have i3 := run_insert (stepsL.take 3) 4 88 w rfl
 have i4 := run_insert (stepsL.take 4) 5 89 w rfl
 have i5 := run_insert (stepsL.take 5) 6 90 w rfl
 have i6 := run_insert (stepsL.take 6) 7 91 w rfl
 have i7 := run_insert (stepsL.take 7) 8 92 w rfl
 have i8 := run_insert (stepsL.take 8) 9 93 w rfl
 have i9 := run_insert (stepsL.take 9) 10 94 w rfl
 have i10 := run_insert (stepsL.take 10) 11 95 w rfl
 have i11 := run_insert (stepsL.take 11) 12 87 w rfl
 have i12 := run_insert (stepsL.take 12) 13 88 w rfl
 have i13 := run_insert (stepsL.take 13) 14 96 w rfl
 have i14 := run_insert (stepsL.take 14) 15 97 w rfl
 rw [ent_nil] at i0
 simp only [stepsL, List.take, List.nil_append, List.cons_append, List.length_cons, List.length_nil, Nat.reduceAdd] at i0 i1 i2 i3 i4 i5 i6 i7 i8 i9 i10 i11 i12 i13 i14
 go_enter Tryz.func57, Tryz.ntmps57
 go_wp2
 go_ret
 exact ⟨rfl, rfl⟩
theorem idle182 (p q : Addr) (w : World) :
  CallsD Tryz.prog 182 #[.pointer (some p), .pointer (some q)] .returning w fun e u' w' => e = .returned (.tuple #[]) ∧ u' = .returning ∧ w' = w := by
 have hu20 : Tryz.prog.underlying 20 = some (.interface (Tryz.prog.methodsAt 20)) := by kernel_rfl
 refine callsD_of_wpS Tryz.func182 rfl fun c₀ cs hu => ?_
 apply wpS_seq
 apply wpS_region
 simp [wpOpsS, go_sem, recoverD, hu, Tryz.ntmps182, Exit.thenS]
 apply wpS_seq
 apply wpS_region
 simp [wpOpsS, go_sem, Exit.thenS]
 refine wpS_cond (t := false) (by simp [Act.eval, Array.replicate]) ?_
 simp only [Bool.false_eq_true, if_false]
 refine wpS_of_wp (wp_skip ?_)
 cases c₀
 simp_all [bodyPostS, results, Tryz.results182]
theorem idle184 (p q : Addr) (w : World) :
  CallsD Tryz.prog 184 #[.pointer (some p), .pointer (some q)] .returning w fun e u' w' => e = .returned (.tuple #[]) ∧ u' = .returning ∧ w' = w := by
 have hu20 : Tryz.prog.underlying 20 = some (.interface (Tryz.prog.methodsAt 20)) := by kernel_rfl
 refine callsD_of_wpS Tryz.func184 rfl fun c₀ cs hu => ?_
 apply wpS_seq
 apply wpS_region
 simp [wpOpsS, go_sem, recoverD, hu, Tryz.ntmps184, Exit.thenS]
 apply wpS_seq
 apply wpS_region
 simp [wpOpsS, go_sem, Exit.thenS]
 refine wpS_cond (t := false) (by simp [Act.eval, Array.replicate]) ?_
 simp only [Bool.false_eq_true, if_false]
 refine wpS_of_wp (wp_skip ?_)
 cases c₀
 simp_all [bodyPostS, results, Tryz.results184]
def Tells (f : Nat) (cap : Array Value) (S : World → Prop) (x : Value) : Prop := ∀ w, S w → Calls Tryz.prog f cap w fun e w' => e = .returned x ∧ Below w.heap.size w w'
theorem toldB (f : Nat) (hf : f = 147 ∨ f = 155 ∨ f = 183) (cap : Array Value) (b : Bool) (S : World → Prop) (hS : ∀ w w', S w → Below w.heap.size w w' → S w') (ht : Tells f cap S (.bool b)) (w : World) (h : S w) :
  Calls Tryz.prog 146 #[.func (.func f) #[] cap] w fun e w' => e = .returned (.tuple #[.bool b, .int .i64 0]) ∧ Below w.heap.size w w' := by
 have HT := ak_ ht
 have HS := ak_ (hS _ _ h ((Below.refl _ w).alloc (Nat.le_refl _) (.cells #[.bool false] 4)))
 have HS2 := ak_ (hS _ _ HS.out ((Below.refl _ (w.alloc (.cells #[.bool false] 4))).alloc (Nat.le_refl _) (.cells #[.int .i64 0] 27)))
 have HH := ak_ hS
 clear hS ht h HS
 have hmf : ∀ (fn : Fn) (first cap : Array Value) (w : World), (Instr.makeFunc fn first cap).run Tryz.prog w = .ok (.func fn first cap) w := fun _ _ _ _ => rfl
 go_enter_defers Tryz.func146, Tryz.ntmps146
 rcases hf with rfl | rfl | rfl
 all_goals
  go_wp2_with fail
  refine (HT.out _ HS2.out).mono ?_
  rintro e w1 ⟨rfl, hb1⟩
  have B0 := ak_ (box0 hb1)
  have B1 := ak_ (box1 hb1)
  have HB := ak_ (fin2 hb1)
  clear hb1
  have a0 : w1.cell? ⟨w.heap.size, 0, none⟩ = some (.bool false) := blk_cell B0.out 0
  have c0 : w1.cell? ⟨w.heap.size + 1, 0, none⟩ = some (.int .i64 0) := blk_cell B1.out 0
  have f0 : w1.frozen? ⟨w.heap.size, 0, none⟩ = false := blk_frozen B0.out 0
  have f1 : w1.frozen? ⟨w.heap.size + 1, 0, none⟩ = false := blk_frozen B1.out 0
  go_wp2
  refine leaves_cons (f := 182) (args := #[.pointer (some ⟨w.heap.size, 0, none⟩), .pointer (some ⟨w.heap.size + 1, 0, none⟩)]) (by simp) (by simp [go_sem]) ?_
  refine (idle182 _ _ _).mono ?_
  rintro e u' w'' ⟨rfl, rfl, rfl⟩
  have D0 := blk_cell (blk_far (blk_put B0.out 0 (.bool b) rfl) (p := ⟨w.heap.size + 1, 0, none⟩) (by simp) (.int .i64 0)) 0
  have D1 := blk_cell (blk_put (blk_far B1.out (p := ⟨w.heap.size, 0, none⟩) (by simp) (.bool b)) 0 (.int .i64 0) rfl) 0
  have E0 : ((w1.setCell ⟨w.heap.size, 0, none⟩ (.bool b)).setCell ⟨w.heap.size + 1, 0, none⟩ (.int .i64 0)).cell? ⟨w.heap.size, 0, none⟩ = some (.bool b) := D0
  have E1 : ((w1.setCell ⟨w.heap.size, 0, none⟩ (.bool b)).setCell ⟨w.heap.size + 1, 0, none⟩ (.int .i64 0)).cell? ⟨w.heap.size + 1, 0, none⟩ = some (.int .i64 0) := D1
  have HB2 := (HB.out.setCell (p := ⟨w.heap.size, 0, none⟩) (by simp) (.bool b)).setCell (p := ⟨w.heap.size + 1, 0, none⟩) (by simp) (.int .i64 0)
  generalize (w1.setCell ⟨w.heap.size, 0, none⟩ (.bool b)).setCell ⟨w.heap.size + 1, 0, none⟩ (.int .i64 0) = W at *
  refine ⟨.tuple #[.bool b, .int .i64 0], ?_, rfl, HB2⟩
  simp [results, Tryz.results146, go_sem, E0, E1]
theorem toldI (f : Nat) (hf : f = 153 ∨ f = 166) (cap : Array Value) (b : Int) (S : World → Prop) (hS : ∀ w w', S w → Below w.heap.size w w' → S w') (ht : Tells f cap S (.int .i64 b)) (w : World) (h : S w) :
  Calls Tryz.prog 152 #[.func (.func f) #[] cap] w fun e w' => e = .returned (.tuple #[.int .i64 b, .int .i64 0]) ∧ Below w.heap.size w w' := by
 have HT := ak_ ht
 have HS := ak_ (hS _ _ h ((Below.refl _ w).alloc (Nat.le_refl _) (.cells #[.int .i64 0] 3)))
 have HS2 := ak_ (hS _ _ HS.out ((Below.refl _ (w.alloc (.cells #[.int .i64 0] 3))).alloc (Nat.le_refl _) (.cells #[.int .i64 0] 27)))
 have HH := ak_ hS
 clear hS ht h HS
 have hmf : ∀ (fn : Fn) (first cap : Array Value) (w : World), (Instr.makeFunc fn first cap).run Tryz.prog w = .ok (.func fn first cap) w := fun _ _ _ _ => rfl
 go_enter_defers Tryz.func152, Tryz.ntmps152
 rcases hf with rfl | rfl
 all_goals
  go_wp2_with fail
  refine (HT.out _ HS2.out).mono ?_
  rintro e w1 ⟨rfl, hb1⟩
  have B0 := ak_ (box0 hb1)
  have B1 := ak_ (box1 hb1)
  have HB := ak_ (fin2 hb1)
  clear hb1
  have a0 : w1.cell? ⟨w.heap.size, 0, none⟩ = some (.int .i64 0) := blk_cell B0.out 0
  have c0 : w1.cell? ⟨w.heap.size + 1, 0, none⟩ = some (.int .i64 0) := blk_cell B1.out 0
  have f0 : w1.frozen? ⟨w.heap.size, 0, none⟩ = false := blk_frozen B0.out 0
  have f1 : w1.frozen? ⟨w.heap.size + 1, 0, none⟩ = false := blk_frozen B1.out 0
  go_wp2
  refine leaves_cons (f := 184) (args := #[.pointer (some ⟨w.heap.size, 0, none⟩), .pointer (some ⟨w.heap.size + 1, 0, none⟩)]) (by simp) (by simp [go_sem]) ?_
  refine (idle184 _ _ _).mono ?_
  rintro e u' w'' ⟨rfl, rfl, rfl⟩
  have D0 := blk_cell (blk_far (blk_put B0.out 0 (.int .i64 b) rfl) (p := ⟨w.heap.size + 1, 0, none⟩) (by simp) (.int .i64 0)) 0
  have D1 := blk_cell (blk_put (blk_far B1.out (p := ⟨w.heap.size, 0, none⟩) (by simp) (.int .i64 b)) 0 (.int .i64 0) rfl) 0
  have E0 : ((w1.setCell ⟨w.heap.size, 0, none⟩ (.int .i64 b)).setCell ⟨w.heap.size + 1, 0, none⟩ (.int .i64 0)).cell? ⟨w.heap.size, 0, none⟩ = some (.int .i64 b) := D0
  have E1 : ((w1.setCell ⟨w.heap.size, 0, none⟩ (.int .i64 b)).setCell ⟨w.heap.size + 1, 0, none⟩ (.int .i64 0)).cell? ⟨w.heap.size + 1, 0, none⟩ = some (.int .i64 0) := D1
  have HB2 := (HB.out.setCell (p := ⟨w.heap.size, 0, none⟩) (by simp) (.int .i64 b)).setCell (p := ⟨w.heap.size + 1, 0, none⟩) (by simp) (.int .i64 0)
  generalize (w1.setCell ⟨w.heap.size, 0, none⟩ (.int .i64 b)).setCell ⟨w.heap.size + 1, 0, none⟩ (.int .i64 0) = W at *
  refine ⟨.tuple #[.int .i64 b, .int .i64 0], ?_, rfl, HB2⟩
  simp [results, Tryz.results152, go_sem, E0, E1]
theorem must_ok (w : World) : Calls Tryz.prog 150 #[.int .i64 0] w fun e w' => e = .returned (.tuple #[]) ∧ w' = w := by
 go_enter Tryz.func150, Tryz.ntmps150
 go_wp2
 go_end0
 exact ⟨rfl, rfl⟩
theorem seen_yes (si : Int) (st aw : Bool) (rd ol : Int) (w : World) (h : OkOwn si rd ol) : Calls Tryz.prog 148 #[.agg #[.int .i64 si, .bool st, .bool aw, .int .i64 rd, .int .i64 ol]] w fun e w' => e = .returned (.agg #[.bool (bitOf ol 0), .bool (bitOf ol 1), .bool (bitOf ol 2), .int .i64 (ol / 8)]) ∧ Below w.heap.size w w' := by
 have HO := ak_ h
 clear h
 have hu := Tryz.underlying42
 have hu2 := Tryz.underlying56
 go_enter Tryz.func148, Tryz.ntmps148
 go_wp2_with fail
 refine (grabRight_yes si st aw rd ol _ HO.out).mono ?_
 rintro e w1 ⟨rfl, hb1⟩
 have B0 := ak_ (box0 hb1)
 have B1 := ak_ (box1 hb1)
 have HB := ak_ (fin2 hb1)
 clear hb1
 have a4 : w1.cell? ⟨w.heap.size, 4, none⟩ = some (.int .i64 ol) := blk_cell B0.out 4
 have hz : w.heap.size + 1 < w1.heap.size := blk_lt B1.out
 go_wp2_with fail
 refine (unpack_yes ol _ HO.out.ol).mono ?_
 rintro e w2 ⟨rfl, hb2⟩
 have C1 := ak_ (blk_below B1.out hb2)
 have HB2 := ak_ (bel3 HB.out hb2)
 have hz2 : w.heap.size + 1 < w2.heap.size := blk_lt C1.out
 clear hb2 a4
 have c0 : w2.cell? ⟨w.heap.size + 1, 0, none⟩ = some (.bool false) := blk_cell C1.out 0
 have c1 : w2.cell? ⟨w.heap.size + 1, 1, none⟩ = some (.bool false) := blk_cell C1.out 1
 have c2 : w2.cell? ⟨w.heap.size + 1, 2, none⟩ = some (.bool false) := blk_cell C1.out 2
 have c3 : w2.cell? ⟨w.heap.size + 1, 3, none⟩ = some (.int .i64 0) := blk_cell C1.out 3
 have f0 : w2.frozen? ⟨w.heap.size + 1, 0, none⟩ = false := blk_frozen C1.out 0
 have f1 : w2.frozen? ⟨w.heap.size + 1, 1, none⟩ = false := blk_frozen C1.out 1
 have f2 : w2.frozen? ⟨w.heap.size + 1, 2, none⟩ = false := blk_frozen C1.out 2
 have f3 : w2.frozen? ⟨w.heap.size + 1, 3, none⟩ = false := blk_frozen C1.out 3
 go_wp2
 have D := blk_alloc (blk_put (blk_put (blk_put (blk_put C1.out 0 (.bool (bitOf ol 0)) rfl) 1 (.bool (bitOf ol 1)) rfl) 2 (.bool (bitOf ol 2)) rfl) 3 (.int .i64 (ol / 8)) rfl) (.cells #[.bool (bitOf ol 0), .bool (bitOf ol 1), .bool (bitOf ol 2), .int .i64 (ol / 8)] 56)
 have HB3 := ((((HB2.out.setCell (p := ⟨w.heap.size + 1, 0, none⟩) (by simp) (.bool (bitOf ol 0))).setCell (p := ⟨w.heap.size + 1, 1, none⟩) (by simp) (.bool (bitOf ol 1))).setCell (p := ⟨w.heap.size + 1, 2, none⟩) (by simp) (.bool (bitOf ol 2))).setCell (p := ⟨w.heap.size + 1, 3, none⟩) (by simp) (.int .i64 (ol / 8))).alloc (by simp; omega) (.cells #[.bool (bitOf ol 0), .bool (bitOf ol 1), .bool (bitOf ol 2), .int .i64 (ol / 8)] 56)
 exact bodyPost_ret (results_cell_row rfl _ _ (w.heap.size + 1) 56 _ (0, 0) _ rfl D Tryz.underlying56 rfl (by kernel_rfl)) rfl ⟨rfl, HB3⟩
end Go.Proofs.YtoimfknjfeencaaGreatDoor.Hand
end
