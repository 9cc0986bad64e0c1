/- Part of the walk of a law of the top, and what it leans on (Grab5, Give, Meth1). No conditions beyond those that each lemma names. -/
import Derived.Test.YtoimfknjfeencaaGreatDoorZ08
import Derived.Test.YtoimfknjfeencaaGreatDoorZ10
set_option linter.unusedVariables false
set_option linter.unusedSimpArgs false
set_option maxHeartbeats 8000000
set_option maxRecDepth 100000
section
namespace Go.Proofs.YtoimfknjfeencaaGreatDoor.Hand
open Go.RowKit Go.Proofs.YtoimfknjfeencaaGreatDoorW.PrintWords Go.Proofs.YtoimfknjfeencaaGreatDoorW.PrintLast Go.Proofs.YtoimfknjfeencaaGreatDoorW.PrintMore
theorem below_set5 {B g : Nat} {w w3 : World} (h : Below B w w3) (hg : B ≤ g) (v0 v1 v2 v3 v4 : Value) : Below B w (((((w3.setCell ⟨g, 0, none⟩ v0).setCell ⟨g, 1, none⟩ v1).setCell ⟨g, 2, none⟩ v2).setCell ⟨g, 3, none⟩ v3).setCell ⟨g, 4, none⟩ v4) :=
 ((((h.setCell (p := ⟨g, 0, none⟩) hg v0).setCell (p := ⟨g, 1, none⟩) hg v1).setCell (p := ⟨g, 2, none⟩) hg v2).setCell (p := ⟨g, 3, none⟩) hg v3).setCell (p := ⟨g, 4, none⟩) hg v4
theorem own_put {g : Nat} {w : World} {a b c d e : Value} (h : w.heap[g]? = some (.cells #[a, b, c, d, e] 42 (0, 0))) (si : Int) (st aw : Bool) (rd ol : Int) :
  (((((w.setCell ⟨g, 0, none⟩ (.int .i64 si)).setCell ⟨g, 1, none⟩ (.bool st)).setCell ⟨g, 2, none⟩ (.bool aw)).setCell ⟨g, 3, none⟩ (.int .i64 rd)).setCell ⟨g, 4, none⟩ (.int .i64 ol)).heap[g]? = some (.cells #[.int .i64 si, .bool st, .bool aw, .int .i64 rd, .int .i64 ol] 42 (0, 0)) :=
 blk_put (blk_put (blk_put (blk_put (blk_put h 0 _ rfl) 1 _ rfl) 2 _ rfl) 3 _ rfl) 4 _ rfl
theorem sleep_at (si : Int) (st aw : Bool) (rd ol now : Int) (w : World) (b : Bool) (hs1 : (si != -1) = b) (h : OkOwn si rd ol) (hnow : okT now) : Calls Tryz.prog 122 #[.agg #[.int .i64 si, .bool st, .bool aw, .int .i64 rd, .int .i64 ol], .int .i64 now] w fun e w' => e = .returned (.tuple #[.agg #[.int .i64 (if b then si else now), .bool st, .bool aw, .int .i64 rd, .int .i64 ol], .bool b, .int .i64 0]) ∧ Below w.heap.size w w' := by
 have HO := ak_ h
 have HN := ak_ hnow
 clear h hnow
 have hu := Tryz.underlying42
 have hfs := freshSince
 go_enter Tryz.func122, Tryz.ntmps122
 go_wp2_with fail
 refine (grabRight_yes si st aw rd ol _ HO.out).mono ?_
 rintro e w1 ⟨rfl, hb1⟩
 have B0 := ak_ (box0 hb1)
 have B1 := ak_ (box1 hb1)
 have HB := ak_ (fin2 hb1)
 clear hb1
 go_wp2_with (go_at_call 46; refine (clockRight_yes _ _ HN.out).mono ?_; rintro e w5 ⟨rfl, rfl⟩)
 have a0 : w5.cell? ⟨w.heap.size, 0, none⟩ = some (.int .i64 si) := blk_cell B0.out 0
 have hz : w.heap.size < w5.heap.size := blk_lt B0.out
 go_region_held3 (fun w' => w'.cell? ⟨w.heap.size, 0, none⟩ = some (.int .i64 si)) (go_keep) ((go_at_call 40; refine (fresh_calls _).mono ?_; rintro e w3 ⟨rfl, hb3⟩; have q3 := (hb3.cell (p := ⟨w.heap.size, 0, none⟩) (by simp; omega)).trans (by assumption)))
 have C0 := ak_ (blk_below (blk_drew B0.out) hb3)
 have C1 := ak_ (blk_below (blk_drew B1.out) hb3)
 have HB3 := ak_ (bel3 (below_drew HB.out) hb3)
 clear hb3 q3 a0
 have y0 : w3.cell? ⟨w.heap.size, 0, none⟩ = some (.int .i64 si) := blk_cell C0.out 0
 have y1 : w3.cell? ⟨w.heap.size, 1, none⟩ = some (.bool st) := blk_cell C0.out 1
 have y2 : w3.cell? ⟨w.heap.size, 2, none⟩ = some (.bool aw) := blk_cell C0.out 2
 have y3 : w3.cell? ⟨w.heap.size, 3, none⟩ = some (.int .i64 rd) := blk_cell C0.out 3
 have y4 : w3.cell? ⟨w.heap.size, 4, none⟩ = some (.int .i64 ol) := blk_cell C0.out 4
 have g0 : w3.frozen? ⟨w.heap.size, 0, none⟩ = false := blk_frozen C0.out 0
 have x0 : w3.cell? ⟨w.heap.size + 1, 0, none⟩ = some (.int .i64 0) := blk_cell C1.out 0
 have x1 : w3.cell? ⟨w.heap.size + 1, 1, none⟩ = some (.bool false) := blk_cell C1.out 1
 have x2 : w3.cell? ⟨w.heap.size + 1, 2, none⟩ = some (.bool false) := blk_cell C1.out 2
 have x3 : w3.cell? ⟨w.heap.size + 1, 3, none⟩ = some (.int .i64 0) := blk_cell C1.out 3
 have x4 : w3.cell? ⟨w.heap.size + 1, 4, none⟩ = some (.int .i64 0) := blk_cell C1.out 4
 have k0 : w3.frozen? ⟨w.heap.size + 1, 0, none⟩ = false := blk_frozen C1.out 0
 have k1 : w3.frozen? ⟨w.heap.size + 1, 1, none⟩ = false := blk_frozen C1.out 1
 have k2 : w3.frozen? ⟨w.heap.size + 1, 2, none⟩ = false := blk_frozen C1.out 2
 have k3 : w3.frozen? ⟨w.heap.size + 1, 3, none⟩ = false := blk_frozen C1.out 3
 have k4 : w3.frozen? ⟨w.heap.size + 1, 4, none⟩ = false := blk_frozen C1.out 4
 cases b
 ·go_wp2
  have E1 := own_put (blk_far C1.out (p := ⟨w.heap.size, 0, none⟩) (by simp) (.int .i64 now)) now st aw rd ol
  have E2 := below_set5 (HB3.out.setCell (p := ⟨w.heap.size, 0, none⟩) (by simp) (.int .i64 now)) (g := w.heap.size + 1) (by omega) (.int .i64 now) (.bool st) (.bool aw) (.int .i64 rd) (.int .i64 ol)
  exact bodyPost_ret (results_ctt rfl _ _ (w.heap.size + 1) 42 _ (0, 0) _ rfl E1 Tryz.underlying42 rfl (by kernel_rfl)) rfl ⟨rfl, E2⟩
 ·go_wp2
  have E1 := own_put C1.out si st aw rd ol
  have E2 := below_set5 HB3.out (g := w.heap.size + 1) (by omega) (.int .i64 si) (.bool st) (.bool aw) (.int .i64 rd) (.int .i64 ol)
  exact bodyPost_ret (results_ctt rfl _ _ (w.heap.size + 1) 42 _ (0, 0) _ rfl E1 Tryz.underlying42 rfl (by kernel_rfl)) rfl ⟨rfl, E2⟩
theorem sleep_yes (si : Int) (st aw : Bool) (rd ol now : Int) (w : World) (h : OkOwn si rd ol) (hnow : okT now) : Calls Tryz.prog 122 #[.agg #[.int .i64 si, .bool st, .bool aw, .int .i64 rd, .int .i64 ol], .int .i64 now] w fun e w' => e = .returned (.tuple #[.agg #[.int .i64 (if si != -1 then si else now), .bool st, .bool aw, .int .i64 rd, .int .i64 ol], .bool (si != -1), .int .i64 0]) ∧ Below w.heap.size w w' :=
 sleep_at si st aw rd ol now w _ rfl h hnow
theorem wake_at (si : Int) (st aw : Bool) (rd ol now word : Int) (w : World) (b : Bool) (hs1 : (si != -1) = b) (hs2 : b = true → okT si) (h : OkOwn si rd ol) (hnow : okT now) (hw : isW word = true) : Calls Tryz.prog 128 #[.agg #[.int .i64 si, .bool st, .bool aw, .int .i64 rd, .int .i64 ol], .int .i64 now, .int .i64 word] w fun e w' =>
  e = .returned (.tuple #[.agg #[.int .i64 si, .bool (st || (b && decide (1000000 < now - si))), .bool (aw || !bitOf word 2), .int .i64 (if bitOf word 2 then rd else 0), .int .i64 word], .bool (bitOf word 2), .int .i64 0]) ∧ Below w.heap.size w w' := by
 have HO := ak_ h
 have HN := ak_ hnow
 have HU := ak_ (fun w => unpack_yes word w hw)
 have HS := ak_ hs2
 clear h hnow hw hs2
 have hu := Tryz.underlying42
 have hu2 := Tryz.underlying56
 have hfs := freshSince
 have HL := ak_ (fun (q : okT si) w => late_yes now si w HN.out q)
 generalize decide (1000000 < now - si) = lt at *
 generalize bitOf word 0 = b0 at *
 generalize bitOf word 1 = b1 at *
 generalize bitOf word 2 = b2 at *
 generalize word / 8 = n at *
 go_enter Tryz.func128, Tryz.ntmps128
 go_wp2_with fail
 refine (HU.out _).mono ?_
 rintro e w1 ⟨rfl, hb1⟩
 have B0 := ak_ (blk_alloc (box0 hb1) (.cells #[.bool b0, .bool b1, .bool b2, .int .i64 n] 56))
 have B1 := ak_ (blk_alloc (box1 hb1) (.cells #[.bool b0, .bool b1, .bool b2, .int .i64 n] 56))
 have B2 := ak_ (blk_new w1 (.cells #[.bool b0, .bool b1, .bool b2, .int .i64 n] 56))
 have HB := ak_ (bel2 (fin2 hb1) (.cells #[.bool b0, .bool b1, .bool b2, .int .i64 n] 56))
 have hz1 : w.heap.size + 1 < w1.heap.size := blk_lt (box1 hb1)
 have q0 : ∀ o, (w1.alloc o).cell? ⟨w.heap.size, 0, none⟩ = some (.int .i64 si) := fun o => blk_cell (blk_alloc (box0 hb1) o) 0
 have q1 : ∀ o, (w1.alloc o).cell? ⟨w.heap.size, 1, none⟩ = some (.bool st) := fun o => blk_cell (blk_alloc (box0 hb1) o) 1
 have q2 : ∀ o, (w1.alloc o).cell? ⟨w.heap.size, 2, none⟩ = some (.bool aw) := fun o => blk_cell (blk_alloc (box0 hb1) o) 2
 have q3 : ∀ o, (w1.alloc o).cell? ⟨w.heap.size, 3, none⟩ = some (.int .i64 rd) := fun o => blk_cell (blk_alloc (box0 hb1) o) 3
 have q4 : ∀ o, (w1.alloc o).cell? ⟨w.heap.size, 4, none⟩ = some (.int .i64 ol) := fun o => blk_cell (blk_alloc (box0 hb1) o) 4
 clear hb1
 go_wp2_with (first | (go_at_call 77; refine (grabRight_yes si st aw rd ol _ HO.out).mono ?_; rintro e w3 ⟨rfl, hb3⟩; have C0 := ak_ (blk_below B0.out hb3); have C1 := ak_ (blk_below B1.out hb3); have C2 := ak_ (blk_below B2.out hb3); have HB3 := ak_ (bel3 HB.out hb3); clear hb3) | (go_at_call 46; refine (clockRight_yes _ _ HN.out).mono ?_; rintro e w5 ⟨rfl, rfl⟩))
 have a0 : w5.cell? ⟨w.heap.size, 0, none⟩ = some (.int .i64 si) := blk_cell C0.out 0
 have hz : w.heap.size < w5.heap.size := blk_lt C0.out
 clear q0 q1 q2 q3 q4
 go_region_held3 (fun w' => w'.cell? ⟨w.heap.size, 0, none⟩ = some (.int .i64 si)) (go_keep) ((go_at_call 40; refine (fresh_calls _).mono ?_; rintro e w6 ⟨rfl, hb6⟩; have q6 := (hb6.cell (p := ⟨w.heap.size, 0, none⟩) (by simp; omega)).trans (by assumption)))
 have D0 := ak_ (blk_below (blk_drew C0.out) hb6)
 have D1 := ak_ (blk_below (blk_drew C1.out) hb6)
 have D2 := ak_ (blk_below (blk_drew C2.out) hb6)
 have HB6 := ak_ (bel3 (below_drew HB3.out) hb6)
 clear hb6 q6 a0 C0 C1 C2 HB3 B0 B1 B2 HB
 have n1 : w1.heap.size ≠ w.heap.size := by omega
 have n2 : w1.heap.size ≠ w.heap.size + 1 := by omega
 cases b
 ·clear HS
  have y0 : w6.cell? ⟨w.heap.size, 0, none⟩ = some (.int .i64 si) := blk_cell D0.out 0
  have y1 : w6.cell? ⟨w.heap.size, 1, none⟩ = some (.bool st) := blk_cell D0.out 1
  have y2 : w6.cell? ⟨w.heap.size, 2, none⟩ = some (.bool aw) := blk_cell D0.out 2
  have y3 : w6.cell? ⟨w.heap.size, 3, none⟩ = some (.int .i64 rd) := blk_cell D0.out 3
  have y4 : w6.cell? ⟨w.heap.size, 4, none⟩ = some (.int .i64 ol) := blk_cell D0.out 4
  have g0 : w6.frozen? ⟨w.heap.size, 0, none⟩ = false := blk_frozen D0.out 0
  have g1 : w6.frozen? ⟨w.heap.size, 1, none⟩ = false := blk_frozen D0.out 1
  have g2 : w6.frozen? ⟨w.heap.size, 2, none⟩ = false := blk_frozen D0.out 2
  have g3 : w6.frozen? ⟨w.heap.size, 3, none⟩ = false := blk_frozen D0.out 3
  have g4 : w6.frozen? ⟨w.heap.size, 4, none⟩ = false := blk_frozen D0.out 4
  have x0 : w6.cell? ⟨w.heap.size + 1, 0, none⟩ = some (.int .i64 0) := blk_cell D1.out 0
  have x1 : w6.cell? ⟨w.heap.size + 1, 1, none⟩ = some (.bool false) := blk_cell D1.out 1
  have x2 : w6.cell? ⟨w.heap.size + 1, 2, none⟩ = some (.bool false) := blk_cell D1.out 2
  have x3 : w6.cell? ⟨w.heap.size + 1, 3, none⟩ = some (.int .i64 0) := blk_cell D1.out 3
  have x4 : w6.cell? ⟨w.heap.size + 1, 4, none⟩ = some (.int .i64 0) := blk_cell D1.out 4
  have k0 : w6.frozen? ⟨w.heap.size + 1, 0, none⟩ = false := blk_frozen D1.out 0
  have k1 : w6.frozen? ⟨w.heap.size + 1, 1, none⟩ = false := blk_frozen D1.out 1
  have k2 : w6.frozen? ⟨w.heap.size + 1, 2, none⟩ = false := blk_frozen D1.out 2
  have k3 : w6.frozen? ⟨w.heap.size + 1, 3, none⟩ = false := blk_frozen D1.out 3
  have k4 : w6.frozen? ⟨w.heap.size + 1, 4, none⟩ = false := blk_frozen D1.out 4
  have u0 : w6.cell? ⟨w1.heap.size, 0, none⟩ = some (.bool b0) := blk_cell D2.out 0
  have u1 : w6.cell? ⟨w1.heap.size, 1, none⟩ = some (.bool b1) := blk_cell D2.out 1
  have u2 : w6.cell? ⟨w1.heap.size, 2, none⟩ = some (.bool b2) := blk_cell D2.out 2
  have u3 : w6.cell? ⟨w1.heap.size, 3, none⟩ = some (.int .i64 n) := blk_cell D2.out 3
  cases b2
  ·
   have E0 := ak_ (blk_put (blk_put (blk_put D0.out 4 (.int .i64 word) rfl) 2 (.bool true) rfl) 3 (.int .i64 0) rfl)
   have E1 := ak_ (blk_far (blk_far (blk_far D1.out (p := ⟨w.heap.size, 4, none⟩) (by simp) (.int .i64 word)) (p := ⟨w.heap.size, 2, none⟩) (by simp) (.bool true)) (p := ⟨w.heap.size, 3, none⟩) (by simp) (.int .i64 0))
   have E2 := ak_ (blk_far (blk_far (blk_far D2.out (p := ⟨w.heap.size, 4, none⟩) n1 (.int .i64 word)) (p := ⟨w.heap.size, 2, none⟩) n1 (.bool true)) (p := ⟨w.heap.size, 3, none⟩) n1 (.int .i64 0))
   have HE := ak_ (((HB6.out.setCell (p := ⟨w.heap.size, 4, none⟩) (by simp) (.int .i64 word)).setCell (p := ⟨w.heap.size, 2, none⟩) (by simp) (.bool true)).setCell (p := ⟨w.heap.size, 3, none⟩) (by simp) (.int .i64 0))
   go_wp2
   generalize (((w6.setCell ⟨w.heap.size, 4, none⟩ (.int .i64 word)).setCell ⟨w.heap.size, 2, none⟩ (.bool true)).setCell ⟨w.heap.size, 3, none⟩ (.int .i64 0)) = W7 at *
   clear y0 g0 x0 k0 y1 g1 x1 k1 y2 g2 x2 k2 y3 g3 x3 k3 y4 g4 x4 k4 u0 u1 u2 u3
   have y0 : W7.cell? ⟨w.heap.size, 0, none⟩ = some (.int .i64 si) := blk_cell E0.out 0
   have y1 : W7.cell? ⟨w.heap.size, 1, none⟩ = some (.bool st) := blk_cell E0.out 1
   have y2 : W7.cell? ⟨w.heap.size, 2, none⟩ = some (.bool true) := blk_cell E0.out 2
   have y3 : W7.cell? ⟨w.heap.size, 3, none⟩ = some (.int .i64 0) := blk_cell E0.out 3
   have y4 : W7.cell? ⟨w.heap.size, 4, none⟩ = some (.int .i64 word) := blk_cell E0.out 4
   have g0 : W7.frozen? ⟨w.heap.size, 0, none⟩ = false := blk_frozen E0.out 0
   have g1 : W7.frozen? ⟨w.heap.size, 1, none⟩ = false := blk_frozen E0.out 1
   have g2 : W7.frozen? ⟨w.heap.size, 2, none⟩ = false := blk_frozen E0.out 2
   have g3 : W7.frozen? ⟨w.heap.size, 3, none⟩ = false := blk_frozen E0.out 3
   have g4 : W7.frozen? ⟨w.heap.size, 4, none⟩ = false := blk_frozen E0.out 4
   have x0 : W7.cell? ⟨w.heap.size + 1, 0, none⟩ = some (.int .i64 0) := blk_cell E1.out 0
   have x1 : W7.cell? ⟨w.heap.size + 1, 1, none⟩ = some (.bool false) := blk_cell E1.out 1
   have x2 : W7.cell? ⟨w.heap.size + 1, 2, none⟩ = some (.bool false) := blk_cell E1.out 2
   have x3 : W7.cell? ⟨w.heap.size + 1, 3, none⟩ = some (.int .i64 0) := blk_cell E1.out 3
   have x4 : W7.cell? ⟨w.heap.size + 1, 4, none⟩ = some (.int .i64 0) := blk_cell E1.out 4
   have k0 : W7.frozen? ⟨w.heap.size + 1, 0, none⟩ = false := blk_frozen E1.out 0
   have k1 : W7.frozen? ⟨w.heap.size + 1, 1, none⟩ = false := blk_frozen E1.out 1
   have k2 : W7.frozen? ⟨w.heap.size + 1, 2, none⟩ = false := blk_frozen E1.out 2
   have k3 : W7.frozen? ⟨w.heap.size + 1, 3, none⟩ = false := blk_frozen E1.out 3
   have k4 : W7.frozen? ⟨w.heap.size + 1, 4, none⟩ = false := blk_frozen E1.out 4
   have u0 : W7.cell? ⟨w1.heap.size, 0, none⟩ = some (.bool b0) := blk_cell E2.out 0
   have u1 : W7.cell? ⟨w1.heap.size, 1, none⟩ = some (.bool b1) := blk_cell E2.out 1
   have u2 : W7.cell? ⟨w1.heap.size, 2, none⟩ = some (.bool false) := blk_cell E2.out 2
   have u3 : W7.cell? ⟨w1.heap.size, 3, none⟩ = some (.int .i64 n) := blk_cell E2.out 3
   go_region
   all_goals
    go_wp2
    have F1 := own_put E1.out (si) (st) (true) (0) (word)
    have F2 := below_set5 HE.out (g := w.heap.size + 1) (by omega) (.int .i64 si) (.bool st) (.bool true) (.int .i64 0) (.int .i64 word)
    exact bodyPost_ret (results_ctt rfl _ _ (w.heap.size + 1) 42 _ (0, 0) _ rfl (blk_drew F1) Tryz.underlying42 rfl (by kernel_rfl)) rfl ⟨by simp, below_drew F2⟩
  ·
   have E0 := ak_ (blk_put D0.out 4 (.int .i64 word) rfl)
   have E1 := ak_ (blk_far D1.out (p := ⟨w.heap.size, 4, none⟩) (by simp) (.int .i64 word))
   have E2 := ak_ (blk_far D2.out (p := ⟨w.heap.size, 4, none⟩) n1 (.int .i64 word))
   have HE := ak_ (HB6.out.setCell (p := ⟨w.heap.size, 4, none⟩) (by simp) (.int .i64 word))
   go_wp2
   generalize (w6.setCell ⟨w.heap.size, 4, none⟩ (.int .i64 word)) = W7 at *
   clear y0 g0 x0 k0 y1 g1 x1 k1 y2 g2 x2 k2 y3 g3 x3 k3 y4 g4 x4 k4 u0 u1 u2 u3
   have y0 : W7.cell? ⟨w.heap.size, 0, none⟩ = some (.int .i64 si) := blk_cell E0.out 0
   have y1 : W7.cell? ⟨w.heap.size, 1, none⟩ = some (.bool st) := blk_cell E0.out 1
   have y2 : W7.cell? ⟨w.heap.size, 2, none⟩ = some (.bool aw) := blk_cell E0.out 2
   have y3 : W7.cell? ⟨w.heap.size, 3, none⟩ = some (.int .i64 rd) := blk_cell E0.out 3
   have y4 : W7.cell? ⟨w.heap.size, 4, none⟩ = some (.int .i64 word) := blk_cell E0.out 4
   have g0 : W7.frozen? ⟨w.heap.size, 0, none⟩ = false := blk_frozen E0.out 0
   have g1 : W7.frozen? ⟨w.heap.size, 1, none⟩ = false := blk_frozen E0.out 1
   have g2 : W7.frozen? ⟨w.heap.size, 2, none⟩ = false := blk_frozen E0.out 2
   have g3 : W7.frozen? ⟨w.heap.size, 3, none⟩ = false := blk_frozen E0.out 3
   have g4 : W7.frozen? ⟨w.heap.size, 4, none⟩ = false := blk_frozen E0.out 4
   have x0 : W7.cell? ⟨w.heap.size + 1, 0, none⟩ = some (.int .i64 0) := blk_cell E1.out 0
   have x1 : W7.cell? ⟨w.heap.size + 1, 1, none⟩ = some (.bool false) := blk_cell E1.out 1
   have x2 : W7.cell? ⟨w.heap.size + 1, 2, none⟩ = some (.bool false) := blk_cell E1.out 2
   have x3 : W7.cell? ⟨w.heap.size + 1, 3, none⟩ = some (.int .i64 0) := blk_cell E1.out 3
   have x4 : W7.cell? ⟨w.heap.size + 1, 4, none⟩ = some (.int .i64 0) := blk_cell E1.out 4
   have k0 : W7.frozen? ⟨w.heap.size + 1, 0, none⟩ = false := blk_frozen E1.out 0
   have k1 : W7.frozen? ⟨w.heap.size + 1, 1, none⟩ = false := blk_frozen E1.out 1
   have k2 : W7.frozen? ⟨w.heap.size + 1, 2, none⟩ = false := blk_frozen E1.out 2
   have k3 : W7.frozen? ⟨w.heap.size + 1, 3, none⟩ = false := blk_frozen E1.out 3
   have k4 : W7.frozen? ⟨w.heap.size + 1, 4, none⟩ = false := blk_frozen E1.out 4
   have u0 : W7.cell? ⟨w1.heap.size, 0, none⟩ = some (.bool b0) := blk_cell E2.out 0
   have u1 : W7.cell? ⟨w1.heap.size, 1, none⟩ = some (.bool b1) := blk_cell E2.out 1
   have u2 : W7.cell? ⟨w1.heap.size, 2, none⟩ = some (.bool true) := blk_cell E2.out 2
   have u3 : W7.cell? ⟨w1.heap.size, 3, none⟩ = some (.int .i64 n) := blk_cell E2.out 3
   go_region
   all_goals
    go_wp2
    have F1 := own_put E1.out (si) (st) (aw) (rd) (word)
    have F2 := below_set5 HE.out (g := w.heap.size + 1) (by omega) (.int .i64 si) (.bool st) (.bool aw) (.int .i64 rd) (.int .i64 word)
    exact bodyPost_ret (results_ctt rfl _ _ (w.heap.size + 1) 42 _ (0, 0) _ rfl (blk_drew F1) Tryz.underlying42 rfl (by kernel_rfl)) rfl ⟨by simp, below_drew F2⟩
 ·have y0 : w6.cell? ⟨w.heap.size, 0, none⟩ = some (.int .i64 si) := blk_cell D0.out 0
  have y1 : w6.cell? ⟨w.heap.size, 1, none⟩ = some (.bool st) := blk_cell D0.out 1
  have y2 : w6.cell? ⟨w.heap.size, 2, none⟩ = some (.bool aw) := blk_cell D0.out 2
  have y3 : w6.cell? ⟨w.heap.size, 3, none⟩ = some (.int .i64 rd) := blk_cell D0.out 3
  have y4 : w6.cell? ⟨w.heap.size, 4, none⟩ = some (.int .i64 ol) := blk_cell D0.out 4
  go_wp2_with fail
  refine (HL.out (HS.out (by first | rfl | trivial)) _).mono ?_
  rintro e w7 ⟨rfl, hb7⟩
  have G0 := ak_ (blk_below D0.out hb7)
  have G1 := ak_ (blk_below D1.out hb7)
  have G2 := ak_ (blk_below D2.out hb7)
  have HB7 := ak_ (bel3 HB6.out hb7)
  clear hb7 y0 y1 y2 y3 y4 D0 D1 D2 HB6
  have y0 : w7.cell? ⟨w.heap.size, 0, none⟩ = some (.int .i64 si) := blk_cell G0.out 0
  have y1 : w7.cell? ⟨w.heap.size, 1, none⟩ = some (.bool st) := blk_cell G0.out 1
  have y2 : w7.cell? ⟨w.heap.size, 2, none⟩ = some (.bool aw) := blk_cell G0.out 2
  have y3 : w7.cell? ⟨w.heap.size, 3, none⟩ = some (.int .i64 rd) := blk_cell G0.out 3
  have y4 : w7.cell? ⟨w.heap.size, 4, none⟩ = some (.int .i64 ol) := blk_cell G0.out 4
  have g0 : w7.frozen? ⟨w.heap.size, 0, none⟩ = false := blk_frozen G0.out 0
  have g1 : w7.frozen? ⟨w.heap.size, 1, none⟩ = false := blk_frozen G0.out 1
  have g2 : w7.frozen? ⟨w.heap.size, 2, none⟩ = false := blk_frozen G0.out 2
  have g3 : w7.frozen? ⟨w.heap.size, 3, none⟩ = false := blk_frozen G0.out 3
  have g4 : w7.frozen? ⟨w.heap.size, 4, none⟩ = false := blk_frozen G0.out 4
  have x0 : w7.cell? ⟨w.heap.size + 1, 0, none⟩ = some (.int .i64 0) := blk_cell G1.out 0
  have x1 : w7.cell? ⟨w.heap.size + 1, 1, none⟩ = some (.bool false) := blk_cell G1.out 1
  have x2 : w7.cell? ⟨w.heap.size + 1, 2, none⟩ = some (.bool false) := blk_cell G1.out 2
  have x3 : w7.cell? ⟨w.heap.size + 1, 3, none⟩ = some (.int .i64 0) := blk_cell G1.out 3
  have x4 : w7.cell? ⟨w.heap.size + 1, 4, none⟩ = some (.int .i64 0) := blk_cell G1.out 4
  have k0 : w7.frozen? ⟨w.heap.size + 1, 0, none⟩ = false := blk_frozen G1.out 0
  have k1 : w7.frozen? ⟨w.heap.size + 1, 1, none⟩ = false := blk_frozen G1.out 1
  have k2 : w7.frozen? ⟨w.heap.size + 1, 2, none⟩ = false := blk_frozen G1.out 2
  have k3 : w7.frozen? ⟨w.heap.size + 1, 3, none⟩ = false := blk_frozen G1.out 3
  have k4 : w7.frozen? ⟨w.heap.size + 1, 4, none⟩ = false := blk_frozen G1.out 4
  have u0 : w7.cell? ⟨w1.heap.size, 0, none⟩ = some (.bool b0) := blk_cell G2.out 0
  have u1 : w7.cell? ⟨w1.heap.size, 1, none⟩ = some (.bool b1) := blk_cell G2.out 1
  have u2 : w7.cell? ⟨w1.heap.size, 2, none⟩ = some (.bool b2) := blk_cell G2.out 2
  have u3 : w7.cell? ⟨w1.heap.size, 3, none⟩ = some (.int .i64 n) := blk_cell G2.out 3
  cases b2 <;> cases st
  ·
   have E0 := ak_ (blk_put (blk_put (blk_put (blk_put G0.out 1 (.bool lt) rfl) 4 (.int .i64 word) rfl) 2 (.bool true) rfl) 3 (.int .i64 0) rfl)
   have E1 := ak_ (blk_far (blk_far (blk_far (blk_far G1.out (p := ⟨w.heap.size, 1, none⟩) (by simp) (.bool lt)) (p := ⟨w.heap.size, 4, none⟩) (by simp) (.int .i64 word)) (p := ⟨w.heap.size, 2, none⟩) (by simp) (.bool true)) (p := ⟨w.heap.size, 3, none⟩) (by simp) (.int .i64 0))
   have E2 := ak_ (blk_far (blk_far (blk_far (blk_far G2.out (p := ⟨w.heap.size, 1, none⟩) n1 (.bool lt)) (p := ⟨w.heap.size, 4, none⟩) n1 (.int .i64 word)) (p := ⟨w.heap.size, 2, none⟩) n1 (.bool true)) (p := ⟨w.heap.size, 3, none⟩) n1 (.int .i64 0))
   have HE := ak_ ((((HB7.out.setCell (p := ⟨w.heap.size, 1, none⟩) (by simp) (.bool lt)).setCell (p := ⟨w.heap.size, 4, none⟩) (by simp) (.int .i64 word)).setCell (p := ⟨w.heap.size, 2, none⟩) (by simp) (.bool true)).setCell (p := ⟨w.heap.size, 3, none⟩) (by simp) (.int .i64 0))
   go_wp2
   generalize ((((w7.setCell ⟨w.heap.size, 1, none⟩ (.bool lt)).setCell ⟨w.heap.size, 4, none⟩ (.int .i64 word)).setCell ⟨w.heap.size, 2, none⟩ (.bool true)).setCell ⟨w.heap.size, 3, none⟩ (.int .i64 0)) = W7 at *
   clear y0 g0 x0 k0 y1 g1 x1 k1 y2 g2 x2 k2 y3 g3 x3 k3 y4 g4 x4 k4 u0 u1 u2 u3
   have y0 : W7.cell? ⟨w.heap.size, 0, none⟩ = some (.int .i64 si) := blk_cell E0.out 0
   have y1 : W7.cell? ⟨w.heap.size, 1, none⟩ = some (.bool lt) := blk_cell E0.out 1
   have y2 : W7.cell? ⟨w.heap.size, 2, none⟩ = some (.bool true) := blk_cell E0.out 2
   have y3 : W7.cell? ⟨w.heap.size, 3, none⟩ = some (.int .i64 0) := blk_cell E0.out 3
   have y4 : W7.cell? ⟨w.heap.size, 4, none⟩ = some (.int .i64 word) := blk_cell E0.out 4
   have g0 : W7.frozen? ⟨w.heap.size, 0, none⟩ = false := blk_frozen E0.out 0
   have g1 : W7.frozen? ⟨w.heap.size, 1, none⟩ = false := blk_frozen E0.out 1
   have g2 : W7.frozen? ⟨w.heap.size, 2, none⟩ = false := blk_frozen E0.out 2
   have g3 : W7.frozen? ⟨w.heap.size, 3, none⟩ = false := blk_frozen E0.out 3
   have g4 : W7.frozen? ⟨w.heap.size, 4, none⟩ = false := blk_frozen E0.out 4
   have x0 : W7.cell? ⟨w.heap.size + 1, 0, none⟩ = some (.int .i64 0) := blk_cell E1.out 0
   have x1 : W7.cell? ⟨w.heap.size + 1, 1, none⟩ = some (.bool false) := blk_cell E1.out 1
   have x2 : W7.cell? ⟨w.heap.size + 1, 2, none⟩ = some (.bool false) := blk_cell E1.out 2
   have x3 : W7.cell? ⟨w.heap.size + 1, 3, none⟩ = some (.int .i64 0) := blk_cell E1.out 3
   have x4 : W7.cell? ⟨w.heap.size + 1, 4, none⟩ = some (.int .i64 0) := blk_cell E1.out 4
   have k0 : W7.frozen? ⟨w.heap.size + 1, 0, none⟩ = false := blk_frozen E1.out 0
   have k1 : W7.frozen? ⟨w.heap.size + 1, 1, none⟩ = false := blk_frozen E1.out 1
   have k2 : W7.frozen? ⟨w.heap.size + 1, 2, none⟩ = false := blk_frozen E1.out 2
   have k3 : W7.frozen? ⟨w.heap.size + 1, 3, none⟩ = false := blk_frozen E1.out 3
   have k4 : W7.frozen? ⟨w.heap.size + 1, 4, none⟩ = false := blk_frozen E1.out 4
   have u0 : W7.cell? ⟨w1.heap.size, 0, none⟩ = some (.bool b0) := blk_cell E2.out 0
   have u1 : W7.cell? ⟨w1.heap.size, 1, none⟩ = some (.bool b1) := blk_cell E2.out 1
   have u2 : W7.cell? ⟨w1.heap.size, 2, none⟩ = some (.bool false) := blk_cell E2.out 2
   have u3 : W7.cell? ⟨w1.heap.size, 3, none⟩ = some (.int .i64 n) := blk_cell E2.out 3
   go_region
   all_goals
    go_wp2
    have F1 := own_put E1.out (si) (lt) (true) (0) (word)
    have F2 := below_set5 HE.out (g := w.heap.size + 1) (by omega) (.int .i64 si) (.bool lt) (.bool true) (.int .i64 0) (.int .i64 word)
    exact bodyPost_ret (results_ctt rfl _ _ (w.heap.size + 1) 42 _ (0, 0) _ rfl (blk_drew F1) Tryz.underlying42 rfl (by kernel_rfl)) rfl ⟨by simp, below_drew F2⟩
  ·
   have E0 := ak_ (blk_put (blk_put (blk_put (blk_put G0.out 1 (.bool true) rfl) 4 (.int .i64 word) rfl) 2 (.bool true) rfl) 3 (.int .i64 0) rfl)
   have E1 := ak_ (blk_far (blk_far (blk_far (blk_far G1.out (p := ⟨w.heap.size, 1, none⟩) (by simp) (.bool true)) (p := ⟨w.heap.size, 4, none⟩) (by simp) (.int .i64 word)) (p := ⟨w.heap.size, 2, none⟩) (by simp) (.bool true)) (p := ⟨w.heap.size, 3, none⟩) (by simp) (.int .i64 0))
   have E2 := ak_ (blk_far (blk_far (blk_far (blk_far G2.out (p := ⟨w.heap.size, 1, none⟩) n1 (.bool true)) (p := ⟨w.heap.size, 4, none⟩) n1 (.int .i64 word)) (p := ⟨w.heap.size, 2, none⟩) n1 (.bool true)) (p := ⟨w.heap.size, 3, none⟩) n1 (.int .i64 0))
   have HE := ak_ ((((HB7.out.setCell (p := ⟨w.heap.size, 1, none⟩) (by simp) (.bool true)).setCell (p := ⟨w.heap.size, 4, none⟩) (by simp) (.int .i64 word)).setCell (p := ⟨w.heap.size, 2, none⟩) (by simp) (.bool true)).setCell (p := ⟨w.heap.size, 3, none⟩) (by simp) (.int .i64 0))
   go_wp2
   generalize ((((w7.setCell ⟨w.heap.size, 1, none⟩ (.bool true)).setCell ⟨w.heap.size, 4, none⟩ (.int .i64 word)).setCell ⟨w.heap.size, 2, none⟩ (.bool true)).setCell ⟨w.heap.size, 3, none⟩ (.int .i64 0)) = W7 at *
   clear y0 g0 x0 k0 y1 g1 x1 k1 y2 g2 x2 k2 y3 g3 x3 k3 y4 g4 x4 k4 u0 u1 u2 u3
   have y0 : W7.cell? ⟨w.heap.size, 0, none⟩ = some (.int .i64 si) := blk_cell E0.out 0
   have y1 : W7.cell? ⟨w.heap.size, 1, none⟩ = some (.bool true) := blk_cell E0.out 1
   have y2 : W7.cell? ⟨w.heap.size, 2, none⟩ = some (.bool true) := blk_cell E0.out 2
   have y3 : W7.cell? ⟨w.heap.size, 3, none⟩ = some (.int .i64 0) := blk_cell E0.out 3
   have y4 : W7.cell? ⟨w.heap.size, 4, none⟩ = some (.int .i64 word) := blk_cell E0.out 4
   have g0 : W7.frozen? ⟨w.heap.size, 0, none⟩ = false := blk_frozen E0.out 0
   have g1 : W7.frozen? ⟨w.heap.size, 1, none⟩ = false := blk_frozen E0.out 1
   have g2 : W7.frozen? ⟨w.heap.size, 2, none⟩ = false := blk_frozen E0.out 2
   have g3 : W7.frozen? ⟨w.heap.size, 3, none⟩ = false := blk_frozen E0.out 3
   have g4 : W7.frozen? ⟨w.heap.size, 4, none⟩ = false := blk_frozen E0.out 4
   have x0 : W7.cell? ⟨w.heap.size + 1, 0, none⟩ = some (.int .i64 0) := blk_cell E1.out 0
   have x1 : W7.cell? ⟨w.heap.size + 1, 1, none⟩ = some (.bool false) := blk_cell E1.out 1
   have x2 : W7.cell? ⟨w.heap.size + 1, 2, none⟩ = some (.bool false) := blk_cell E1.out 2
   have x3 : W7.cell? ⟨w.heap.size + 1, 3, none⟩ = some (.int .i64 0) := blk_cell E1.out 3
   have x4 : W7.cell? ⟨w.heap.size + 1, 4, none⟩ = some (.int .i64 0) := blk_cell E1.out 4
   have k0 : W7.frozen? ⟨w.heap.size + 1, 0, none⟩ = false := blk_frozen E1.out 0
   have k1 : W7.frozen? ⟨w.heap.size + 1, 1, none⟩ = false := blk_frozen E1.out 1
   have k2 : W7.frozen? ⟨w.heap.size + 1, 2, none⟩ = false := blk_frozen E1.out 2
   have k3 : W7.frozen? ⟨w.heap.size + 1, 3, none⟩ = false := blk_frozen E1.out 3
   have k4 : W7.frozen? ⟨w.heap.size + 1, 4, none⟩ = false := blk_frozen E1.out 4
   have u0 : W7.cell? ⟨w1.heap.size, 0, none⟩ = some (.bool b0) := blk_cell E2.out 0
   have u1 : W7.cell? ⟨w1.heap.size, 1, none⟩ = some (.bool b1) := blk_cell E2.out 1
   have u2 : W7.cell? ⟨w1.heap.size, 2, none⟩ = some (.bool false) := blk_cell E2.out 2
   have u3 : W7.cell? ⟨w1.heap.size, 3, none⟩ = some (.int .i64 n) := blk_cell E2.out 3
   go_region
   all_goals
    go_wp2
    have F1 := own_put E1.out (si) (true) (true) (0) (word)
    have F2 := below_set5 HE.out (g := w.heap.size + 1) (by omega) (.int .i64 si) (.bool true) (.bool true) (.int .i64 0) (.int .i64 word)
    exact bodyPost_ret (results_ctt rfl _ _ (w.heap.size + 1) 42 _ (0, 0) _ rfl (blk_drew F1) Tryz.underlying42 rfl (by kernel_rfl)) rfl ⟨by simp, below_drew F2⟩
  ·
   have E0 := ak_ (blk_put (blk_put G0.out 1 (.bool lt) rfl) 4 (.int .i64 word) rfl)
   have E1 := ak_ (blk_far (blk_far G1.out (p := ⟨w.heap.size, 1, none⟩) (by simp) (.bool lt)) (p := ⟨w.heap.size, 4, none⟩) (by simp) (.int .i64 word))
   have E2 := ak_ (blk_far (blk_far G2.out (p := ⟨w.heap.size, 1, none⟩) n1 (.bool lt)) (p := ⟨w.heap.size, 4, none⟩) n1 (.int .i64 word))
   have HE := ak_ ((HB7.out.setCell (p := ⟨w.heap.size, 1, none⟩) (by simp) (.bool lt)).setCell (p := ⟨w.heap.size, 4, none⟩) (by simp) (.int .i64 word))
   go_wp2
   generalize ((w7.setCell ⟨w.heap.size, 1, none⟩ (.bool lt)).setCell ⟨w.heap.size, 4, none⟩ (.int .i64 word)) = W7 at *
   clear y0 g0 x0 k0 y1 g1 x1 k1 y2 g2 x2 k2 y3 g3 x3 k3 y4 g4 x4 k4 u0 u1 u2 u3
   have y0 : W7.cell? ⟨w.heap.size, 0, none⟩ = some (.int .i64 si) := blk_cell E0.out 0
   have y1 : W7.cell? ⟨w.heap.size, 1, none⟩ = some (.bool lt) := blk_cell E0.out 1
   have y2 : W7.cell? ⟨w.heap.size, 2, none⟩ = some (.bool aw) := blk_cell E0.out 2
   have y3 : W7.cell? ⟨w.heap.size, 3, none⟩ = some (.int .i64 rd) := blk_cell E0.out 3
   have y4 : W7.cell? ⟨w.heap.size, 4, none⟩ = some (.int .i64 word) := blk_cell E0.out 4
   have g0 : W7.frozen? ⟨w.heap.size, 0, none⟩ = false := blk_frozen E0.out 0
   have g1 : W7.frozen? ⟨w.heap.size, 1, none⟩ = false := blk_frozen E0.out 1
   have g2 : W7.frozen? ⟨w.heap.size, 2, none⟩ = false := blk_frozen E0.out 2
   have g3 : W7.frozen? ⟨w.heap.size, 3, none⟩ = false := blk_frozen E0.out 3
   have g4 : W7.frozen? ⟨w.heap.size, 4, none⟩ = false := blk_frozen E0.out 4
   have x0 : W7.cell? ⟨w.heap.size + 1, 0, none⟩ = some (.int .i64 0) := blk_cell E1.out 0
   have x1 : W7.cell? ⟨w.heap.size + 1, 1, none⟩ = some (.bool false) := blk_cell E1.out 1
   have x2 : W7.cell? ⟨w.heap.size + 1, 2, none⟩ = some (.bool false) := blk_cell E1.out 2
   have x3 : W7.cell? ⟨w.heap.size + 1, 3, none⟩ = some (.int .i64 0) := blk_cell E1.out 3
   have x4 : W7.cell? ⟨w.heap.size + 1, 4, none⟩ = some (.int .i64 0) := blk_cell E1.out 4
   have k0 : W7.frozen? ⟨w.heap.size + 1, 0, none⟩ = false := blk_frozen E1.out 0
   have k1 : W7.frozen? ⟨w.heap.size + 1, 1, none⟩ = false := blk_frozen E1.out 1
   have k2 : W7.frozen? ⟨w.heap.size + 1, 2, none⟩ = false := blk_frozen E1.out 2
   have k3 : W7.frozen? ⟨w.heap.size + 1, 3, none⟩ = false := blk_frozen E1.out 3
   have k4 : W7.frozen? ⟨w.heap.size + 1, 4, none⟩ = false := blk_frozen E1.out 4
   have u0 : W7.cell? ⟨w1.heap.size, 0, none⟩ = some (.bool b0) := blk_cell E2.out 0
   have u1 : W7.cell? ⟨w1.heap.size, 1, none⟩ = some (.bool b1) := blk_cell E2.out 1
   have u2 : W7.cell? ⟨w1.heap.size, 2, none⟩ = some (.bool true) := blk_cell E2.out 2
   have u3 : W7.cell? ⟨w1.heap.size, 3, none⟩ = some (.int .i64 n) := blk_cell E2.out 3
   go_region
   all_goals
    go_wp2
    have F1 := own_put E1.out (si) (lt) (aw) (rd) (word)
    have F2 := below_set5 HE.out (g := w.heap.size + 1) (by omega) (.int .i64 si) (.bool lt) (.bool aw) (.int .i64 rd) (.int .i64 word)
    exact bodyPost_ret (results_ctt rfl _ _ (w.heap.size + 1) 42 _ (0, 0) _ rfl (blk_drew F1) Tryz.underlying42 rfl (by kernel_rfl)) rfl ⟨by simp, below_drew F2⟩
  ·
   have E0 := ak_ (blk_put (blk_put G0.out 1 (.bool true) rfl) 4 (.int .i64 word) rfl)
   have E1 := ak_ (blk_far (blk_far G1.out (p := ⟨w.heap.size, 1, none⟩) (by simp) (.bool true)) (p := ⟨w.heap.size, 4, none⟩) (by simp) (.int .i64 word))
   have E2 := ak_ (blk_far (blk_far G2.out (p := ⟨w.heap.size, 1, none⟩) n1 (.bool true)) (p := ⟨w.heap.size, 4, none⟩) n1 (.int .i64 word))
   have HE := ak_ ((HB7.out.setCell (p := ⟨w.heap.size, 1, none⟩) (by simp) (.bool true)).setCell (p := ⟨w.heap.size, 4, none⟩) (by simp) (.int .i64 word))
   go_wp2
   generalize ((w7.setCell ⟨w.heap.size, 1, none⟩ (.bool true)).setCell ⟨w.heap.size, 4, none⟩ (.int .i64 word)) = W7 at *
   clear y0 g0 x0 k0 y1 g1 x1 k1 y2 g2 x2 k2 y3 g3 x3 k3 y4 g4 x4 k4 u0 u1 u2 u3
   have y0 : W7.cell? ⟨w.heap.size, 0, none⟩ = some (.int .i64 si) := blk_cell E0.out 0
   have y1 : W7.cell? ⟨w.heap.size, 1, none⟩ = some (.bool true) := blk_cell E0.out 1
   have y2 : W7.cell? ⟨w.heap.size, 2, none⟩ = some (.bool aw) := blk_cell E0.out 2
   have y3 : W7.cell? ⟨w.heap.size, 3, none⟩ = some (.int .i64 rd) := blk_cell E0.out 3
   have y4 : W7.cell? ⟨w.heap.size, 4, none⟩ = some (.int .i64 word) := blk_cell E0.out 4
   have g0 : W7.frozen? ⟨w.heap.size, 0, none⟩ = false := blk_frozen E0.out 0
   have g1 : W7.frozen? ⟨w.heap.size, 1, none⟩ = false := blk_frozen E0.out 1
   have g2 : W7.frozen? ⟨w.heap.size, 2, none⟩ = false := blk_frozen E0.out 2
   have g3 : W7.frozen? ⟨w.heap.size, 3, none⟩ = false := blk_frozen E0.out 3
   have g4 : W7.frozen? ⟨w.heap.size, 4, none⟩ = false := blk_frozen E0.out 4
   have x0 : W7.cell? ⟨w.heap.size + 1, 0, none⟩ = some (.int .i64 0) := blk_cell E1.out 0
   have x1 : W7.cell? ⟨w.heap.size + 1, 1, none⟩ = some (.bool false) := blk_cell E1.out 1
   have x2 : W7.cell? ⟨w.heap.size + 1, 2, none⟩ = some (.bool false) := blk_cell E1.out 2
   have x3 : W7.cell? ⟨w.heap.size + 1, 3, none⟩ = some (.int .i64 0) := blk_cell E1.out 3
   have x4 : W7.cell? ⟨w.heap.size + 1, 4, none⟩ = some (.int .i64 0) := blk_cell E1.out 4
   have k0 : W7.frozen? ⟨w.heap.size + 1, 0, none⟩ = false := blk_frozen E1.out 0
   have k1 : W7.frozen? ⟨w.heap.size + 1, 1, none⟩ = false := blk_frozen E1.out 1
   have k2 : W7.frozen? ⟨w.heap.size + 1, 2, none⟩ = false := blk_frozen E1.out 2
   have k3 : W7.frozen? ⟨w.heap.size + 1, 3, none⟩ = false := blk_frozen E1.out 3
   have k4 : W7.frozen? ⟨w.heap.size + 1, 4, none⟩ = false := blk_frozen E1.out 4
   have u0 : W7.cell? ⟨w1.heap.size, 0, none⟩ = some (.bool b0) := blk_cell E2.out 0
   have u1 : W7.cell? ⟨w1.heap.size, 1, none⟩ = some (.bool b1) := blk_cell E2.out 1
   have u2 : W7.cell? ⟨w1.heap.size, 2, none⟩ = some (.bool true) := blk_cell E2.out 2
   have u3 : W7.cell? ⟨w1.heap.size, 3, none⟩ = some (.int .i64 n) := blk_cell E2.out 3
   go_region
   all_goals
    go_wp2
    have F1 := own_put E1.out (si) (true) (aw) (rd) (word)
    have F2 := below_set5 HE.out (g := w.heap.size + 1) (by omega) (.int .i64 si) (.bool true) (.bool aw) (.int .i64 rd) (.int .i64 word)
    exact bodyPost_ret (results_ctt rfl _ _ (w.heap.size + 1) 42 _ (0, 0) _ rfl (blk_drew F1) Tryz.underlying42 rfl (by kernel_rfl)) rfl ⟨by simp, below_drew F2⟩
theorem wake_yes (si : Int) (st aw : Bool) (rd ol now word : Int) (w : World) (h : OkOwn si rd ol) (hnow : okT now) (hw : isW word = true) : Calls Tryz.prog 128 #[.agg #[.int .i64 si, .bool st, .bool aw, .int .i64 rd, .int .i64 ol], .int .i64 now, .int .i64 word] w fun e w' =>
  e = .returned (.tuple #[.agg #[.int .i64 si, .bool (st || ((si != -1) && decide (1000000 < now - si))), .bool (aw || !bitOf word 2), .int .i64 (if bitOf word 2 then rd else 0), .int .i64 word], .bool (bitOf word 2), .int .i64 0]) ∧ Below w.heap.size w w' :=
 wake_at si st aw rd ol now word w _ rfl (fun q => h.si.resolve_left (fun e => by rw [e] at q; cases q)) h hnow hw
theorem bit_any (b : Bool) (w : World) : Calls Tryz.prog 181 #[.bool b] w fun e w' => e = .returned (.int .i64 (if b then 1 else 0)) ∧ w' = w := by
 cases b
 all_goals
  go_enter Tryz.func181, Tryz.ntmps181
  go_wp2
  go_ret
  exact ⟨rfl, rfl⟩
def kindV (b0 b2 : Bool) : Int := if b0 then 0 else if b2 then 2 else 3
theorem ix194 (w : World) : (Instr.index 194 (.agg #[.int .i64 3, .int .i64 0]) (.int .i64 0)).run Tryz.prog w = .ok (.int .i64 3) w ∧ (Instr.index 194 (.agg #[.int .i64 3, .int .i64 0]) (.int .i64 1)).run Tryz.prog w = .ok (.int .i64 0) w ∧
  (Instr.index 194 (.agg #[.int .i64 0, .int .i64 (-1)]) (.int .i64 0)).run Tryz.prog w = .ok (.int .i64 0) w ∧ (Instr.index 194 (.agg #[.int .i64 0, .int .i64 (-1)]) (.int .i64 1)).run Tryz.prog w = .ok (.int .i64 (-1)) w ∧
  (Instr.index 194 (.agg #[.int .i64 0, .int .i64 0]) (.int .i64 0)).run Tryz.prog w = .ok (.int .i64 0) w ∧ (Instr.index 194 (.agg #[.int .i64 0, .int .i64 0]) (.int .i64 1)).run Tryz.prog w = .ok (.int .i64 0) w :=
 ⟨by kernel_rfl, by kernel_rfl, by kernel_rfl, by kernel_rfl, by kernel_rfl, by kernel_rfl⟩
theorem ix231 (w : World) : (Instr.index 231 (.agg #[.int .i64 0, .int .i64 (-1), .int .i64 0, .int .i64 0]) (.int .i64 0)).run Tryz.prog w = .ok (.agg #[.int .i64 0, .int .i64 (-1)]) w ∧ (Instr.index 231 (.agg #[.int .i64 0, .int .i64 (-1), .int .i64 0, .int .i64 0]) (.int .i64 1)).run Tryz.prog w = .ok (.agg #[.int .i64 0, .int .i64 0]) w :=
 ⟨by kernel_rfl, by kernel_rfl⟩
theorem kind_any (b0 b1 b2 : Bool) (n : Int) (w : World) : Calls Tryz.prog 145 #[.agg #[.bool b0, .bool b1, .bool b2, .int .i64 n]] w fun e w' => e = .returned (.int .i64 (kindV b0 b2)) ∧ Below w.heap.size w w' := by
 have hu := Tryz.underlying56
 have i1 := fun w => (ix194 w).1
 have i2 := fun w => (ix194 w).2.1
 have i3 := fun w => (ix194 w).2.2.1
 have i4 := fun w => (ix194 w).2.2.2.1
 have i5 := fun w => (ix194 w).2.2.2.2.1
 have i6 := fun w => (ix194 w).2.2.2.2.2
 have j1 := fun w => (ix231 w).1
 have j2 := fun w => (ix231 w).2
 cases b0 <;> cases b2
 all_goals
  go_enter Tryz.func145, Tryz.ntmps145
  go_wp2
  go_quiet ((go_at_call 181; exact Calls.quiet_of_same (bit_any _ _)))
  go_wp2
  go_ret
  exact ⟨rfl, by repeat (first | apply pw_below_drewN | exact (Below.refl _ _).alloc (Nat.le_refl _) _)⟩
def leftV (v : Int) : Bool × Bool × Int := if v < 0 then (false, false, 11) else if v = 0 then (true, false, 0) else if bitOf v 0 then (false, false, 11) else if bitOf v 2 then (false, true, 0) else (false, false, 0)
theorem left_at (v : Int) (b0 b1 b2 : Bool) (n : Int) (r1 r2 : Bool) (r3 : Int) (w : World) (h0 : -1 ≤ v) (hu : ∀ w, Calls Tryz.prog 12 #[.int .i64 (max v 0)] w fun e w' => e = .returned (.tuple #[.agg #[.bool b0, .bool b1, .bool b2, .int .i64 n], .int .i64 0]) ∧ Below w.heap.size w w')
  (hr : (if v < 0 then (false, false, (11 : Int)) else if v = 0 then (true, false, 0) else if b0 then (false, false, 11) else if b2 then (false, true, 0) else (false, false, 0)) = (r1, r2, r3)) :
  Calls Tryz.prog 116 #[.int .i64 v] w fun e w' => e = .returned (.tuple #[.bool r1, .bool r2, .int .i64 r3]) ∧ Below w.heap.size w w' := by
 have HU := ak_ hu
 have HR := ak_ hr
 clear hu hr
 have hn1 : ¬ (v < -1) := by omega
 have hu2 := Tryz.underlying56
 by_cases c : v < 0
 ·go_enter Tryz.func116, Tryz.ntmps116
  go_wp2_with fail
  refine (HU.out _).mono ?_
  rintro e w1 ⟨rfl, hb1⟩
  have HB := ak_ (bel2 hb1 (.cells #[.bool b0, .bool b1, .bool b2, .int .i64 n] 56))
  clear hb1
  go_wp2_with fail
  refine (kind_any b0 b1 b2 n _).mono ?_
  rintro e w2 ⟨rfl, hb2⟩
  have HB2 := ak_ (bel3 HB.out hb2)
  clear hb2
  go_wp2
  go_ret3
  have HR := HR.out
  rw [if_pos c] at HR
  cases HR
  exact ⟨rfl, HB2.out⟩
 ·by_cases c0 : v = 0
  ·have z0 : (v == 0) = true := beq_iff_eq.2 c0
   have c2 : 0 ≤ v := by omega
   go_enter Tryz.func116, Tryz.ntmps116
   clear c0
   go_wp2_with fail
   refine (HU.out _).mono ?_
   rintro e w1 ⟨rfl, hb1⟩
   have HB := ak_ (bel2 hb1 (.cells #[.bool b0, .bool b1, .bool b2, .int .i64 n] 56))
   clear hb1
   go_wp2_with fail
   refine (kind_any b0 b1 b2 n _).mono ?_
   rintro e w2 ⟨rfl, hb2⟩
   have HB2 := ak_ (bel3 HB.out hb2)
   clear hb2
   go_wp2
   go_ret3
   have HR := HR.out
   rw [if_neg (by omega), if_pos (beq_iff_eq.1 z0)] at HR
   cases HR
   exact ⟨rfl, HB2.out⟩
  ·have z0 : (v == 0) = false := beq_eq_false_iff_ne.2 c0
   have c2 : 0 ≤ v := by omega
   have HR2 := ak_ (show (if b0 then (false, false, (11 : Int)) else if b2 then (false, true, 0) else (false, false, 0)) = (r1, r2, r3) by have := HR.out; rw [if_neg c, if_neg c0] at this; exact this)
   clear c0 HR
   cases b0 <;> cases b2
   all_goals
    go_enter Tryz.func116, Tryz.ntmps116
    go_wp2_with fail
    refine (HU.out _).mono ?_
    rintro e w1 ⟨rfl, hb1⟩
    have HB := ak_ (fun o => bel2 hb1 o)
    clear hb1
    go_wp2_with fail
    refine (kind_any _ b1 _ n _).mono ?_
    rintro e w2 ⟨rfl, hb2⟩
    have HB2 := ak_ (bel3 (HB.out _) hb2)
    clear hb2
    simp only [kindV]
    go_wp2
    go_ret3
    have HR := HR2.out
    simp at HR
    obtain ⟨rfl, rfl, rfl⟩ := HR
    exact ⟨rfl, HB2.out⟩
theorem left_yes (v : Int) (w : World) (h0 : -1 ≤ v) (h1 : isW (max v 0) = true) : Calls Tryz.prog 116 #[.int .i64 v] w fun e w' => e = .returned (.tuple #[.bool (leftV v).1, .bool (leftV v).2.1, .int .i64 (leftV v).2.2]) ∧ Below w.heap.size w w' := by
 refine left_at v (bitOf (max v 0) 0) (bitOf (max v 0) 1) (bitOf (max v 0) 2) (max v 0 / 8) _ _ _ w h0 (fun w => unpack_yes _ w h1) ?_
 unfold leftV
 by_cases c : v < 0
 ·rw [if_pos c, if_pos c]
 ·rw [if_neg c, if_neg c, Int.max_eq_left (by omega)]
theorem giveWakes_at (word : Int) (b0 b1 b2 : Bool) (n : Int) (w : World) (hu : ∀ w, Calls Tryz.prog 12 #[.int .i64 word] w fun e w' => e = .returned (.tuple #[.agg #[.bool b0, .bool b1, .bool b2, .int .i64 n], .int .i64 0]) ∧ Below w.heap.size w w') (h0 : 0 ≤ n) (h1 : n ≤ 268435455) :
  Calls Tryz.prog 130 #[.int .i64 word] w fun e w' => e = .returned (.tuple #[.bool (!(decide (n = 0) || b0 || b1 || b2)), .int .i64 (if (decide (n = 0) || b0 || b1 || b2) = true then 0 else 8 * (n - 1) + 2), .int .i64 0]) ∧ Below w.heap.size w w' := by
 have HU := ak_ hu
 clear hu
 have hu2 := Tryz.underlying56
 by_cases c0 : n = 0
 ·have z0 : (n == 0) = true := beq_iff_eq.2 c0
  have d0 : decide (n = 0) = true := decide_eq_true c0
  clear c0
  go_enter Tryz.func130, Tryz.ntmps130
  go_wp2_with fail
  refine (HU.out _).mono ?_
  rintro e w1 ⟨rfl, hb1⟩
  have HB := ak_ (bel2 hb1 (.cells #[.bool b0, .bool b1, .bool b2, .int .i64 n] 56))
  clear hb1
  go_wp2
  all_goals
   go_ret3
   exact ⟨by simp [d0], HB.out⟩
 ·have z0 : (n == 0) = false := beq_eq_false_iff_ne.2 c0
  have d0 : decide (n = 0) = false := decide_eq_false c0
  have hn1 : 1 ≤ n := by omega
  clear c0
  have HD := ak_ d0
  clear d0
  cases b0 <;> cases b1 <;> cases b2
  all_goals
   go_enter Tryz.func130, Tryz.ntmps130
   go_wp2_with fail
   refine (HU.out _).mono ?_
   rintro e w1 ⟨rfl, hb1⟩
   have HB := ak_ (fun o => bel2 hb1 o)
   clear hb1
   go_wp2_with (go_at_call 154; refine (Pack_ok _ _ _ _ _ (by omega) (by omega)).mono ?_; rintro e w7 ⟨rfl, hb7⟩; have HB7 := ak_ hb7; clear hb7)
   all_goals
    go_ret3
    have hd := HD.out
    first
     | exact ⟨by simp [hd], HB.out _⟩
     | exact ⟨by simp [hd] <;> rfl, bel3 (HB.out _) HB7.out⟩
theorem giveWakes_yes (word : Int) (w : World) (h : isW word = true) : Calls Tryz.prog 130 #[.int .i64 word] w fun e w' =>
  e = .returned (.tuple #[.bool (!(decide (word / 8 = 0) || bitOf word 0 || bitOf word 1 || bitOf word 2)), .int .i64 (if (decide (word / 8 = 0) || bitOf word 0 || bitOf word 1 || bitOf word 2) = true then 0 else 8 * (word / 8 - 1) + 2), .int .i64 0]) ∧ Below w.heap.size w w' :=
 giveWakes_at word _ _ _ _ w (fun w => unpack_yes word w h) (by simp [isW] at h; omega) (by simp [isW] at h; omega)
theorem must113 (w : World) : Calls Tryz.prog 113 #[.int .i64 0] w fun e w' => e = .returned (.tuple #[]) ∧ w' = w := by
 go_enter Tryz.func113, Tryz.ntmps113
 go_wp2
 go_end0
 exact ⟨rfl, rfl⟩
theorem end81 {B : Nat} {k : Blk} {s : Sx} {w : World} (h : St B k s w)  :
  Calls Tryz.prog 81 #[.pointer (some ⟨k.sp, 0, none⟩)] w (Dx B k (fun s' => s' = { s with over := true }) w) := by
 have H := ak_ h
 have s5_ := h.s5
 have fs5_ := h.fs5
 clear h
 have hu81 := Tryz.underlying81
 go_enter Tryz.func81, Tryz.ntmps81
 go_wp2
 go_end0
 exact ⟨rfl, (Below.refl _ _).setCell (p := ⟨k.sp, 5, none⟩) H.out.lo_s _, _, rfl, H.out.putOver true⟩
theorem put111 {B : Nat} {k : Blk} {s : Sx} {w : World} (h : St B k s w) (m : Nat) (x : M.Mutex) (hm : s.mp = .pointer (some ⟨k.mb, m * 3, none⟩)) (hx : s.mu[m]? = some x) (word : Int) (hw : isW word = true) :
  Calls Tryz.prog 111 #[.pointer (some ⟨k.sp, 0, none⟩), .int .i64 word] w (Dx B k (fun s' => s' = { s with mu := s.mu.set m { x with word := word } }) w) := by
 have H := ak_ h
 clear h
 have hu81 := Tryz.underlying81
 have hu44 := Tryz.underlying44
 have hu53 := Tryz.underlying53
 have hu29 := Tryz.underlying29
 have hu42 := Tryz.underlying42
 have hu56 := Tryz.underlying56
 go_enter Tryz.func111, Tryz.ntmps111
 go_wp2_with fail
 refine (unpack_yes word _ hw).mono ?_
 rintro e w1 ⟨rfl, hb1⟩
 have H1 := ak_ ((H.out.below hb1).alloc (.cells #[.bool (bitOf word 0), .bool (bitOf word 1), .bool (bitOf word 2), .int .i64 (word / 8)] 56))
 have B1 := ak_ (bel2 hb1 (.cells #[.bool (bitOf word 0), .bool (bitOf word 1), .bool (bitOf word 2), .int .i64 (word / 8)] 56))
 clear hb1
 have mp_ := H1.out.mp_ hm
 have m0_ := H1.out.m0 hx
 have fm0_ := H1.out.fm0 hx
 go_wp2_with (go_at_call 113; refine (must113 _).mono ?_; rintro e w3 ⟨rfl, rfl⟩)
 go_end0
 exact ⟨rfl, (B1.out.mono H.out.Blt).setCell (p := ⟨k.mb, m * 3, none⟩) H.out.lo_m _, _, rfl, H1.out.putm m x _ hx 0 (by omega) _ rfl⟩
theorem see115 {B : Nat} {k : Blk} {s : Sx} {w : World} (h : St B k s w) (m : Nat) (x : M.Mutex) (hm : s.mp = .pointer (some ⟨k.mb, m * 3, none⟩)) (hx : s.mu[m]? = some x) (pc : Int) :
  Calls Tryz.prog 115 #[.pointer (some ⟨k.sp, 0, none⟩), .int .i64 pc] w (Dx B k (fun s' => s' = { s with c := { s.c with own := { s.c.own with old := x.word }, pc := pc } }) w) := by
 have H := ak_ h
 have s1_ := h.s1
 have mp_ := h.mp_ hm
 have m0_ := h.m0 hx
 have c12_ := h.c12
 have fc12_ := h.fc12
 have c3_ := h.c3
 have fc3_ := h.fc3
 clear h
 have hu81 := Tryz.underlying81
 have hu44 := Tryz.underlying44
 have hu53 := Tryz.underlying53
 have hu29 := Tryz.underlying29
 have hu42 := Tryz.underlying42
 go_enter Tryz.func115, Tryz.ntmps115
 go_region
 all_goals go_wp2
 all_goals go_end0
 all_goals exact ⟨rfl, ((below_drew (Below.refl _ _)).setCell (p := ⟨k.cp, 12, none⟩) H.out.lo_c _).setCell (p := ⟨k.cp, 3, none⟩) H.out.lo_c _, _, rfl, ((H.out.drew).putc 12 _ { s.c with own := { s.c.own with old := x.word } } rfl).putc 3 _ _ rfl⟩
theorem same120 {B : Nat} {k : Blk} {s : Sx} {w : World} (h : St B k s w) (m : Nat) (x : M.Mutex) (hm : s.mp = .pointer (some ⟨k.mb, m * 3, none⟩)) (hx : s.mu[m]? = some x) :
  Calls Tryz.prog 120 #[.pointer (some ⟨k.sp, 0, none⟩)] w fun e w' => e = .returned (.bool (x.word == s.c.own.old)) ∧ Below w.heap.size w w' := by
 have H := ak_ h
 have s1_ := h.s1
 have mp_ := h.mp_ hm
 have m0_ := h.m0 hx
 have c12_ := h.c12
 clear h
 have hu81 := Tryz.underlying81
 have hu44 := Tryz.underlying44
 have hu53 := Tryz.underlying53
 have hu29 := Tryz.underlying29
 have hu42 := Tryz.underlying42
 go_enter Tryz.func120, Tryz.ntmps120
 go_wp2
 go_region_held3 (fun w' => w'.cell? ⟨k.sp, 1, none⟩ = some (.pointer (some ⟨k.cp, 0, none⟩)) ∧ w'.cell? ⟨k.sp, 2, none⟩ = some (.pointer (some ⟨k.mb, m * 3, none⟩)) ∧ w'.cell? ⟨k.mb, m * 3, none⟩ = some (.int .i64 x.word) ∧ w'.cell? ⟨k.cp, 12, none⟩ = some (.int .i64 s.c.own.old)) (go_keep) (fail)
 go_wp2
 go_ret
 exact ⟨rfl, by repeat (first | exact Below.refl _ _ | apply pw_below_drewN | apply below_drew1)⟩
theorem info136T : (Tryz.prog.info? 136).map (fun i => (i.zero, i.size, i.bytes)) = some (some (.agg #[.int .i64 0, .int .i64 0, .int .i64 0]), 3, 24) := by kernel_rfl
theorem below_of_grown {W w6 : World} (hg : W.grownBy w6 (Value.slice none 0 0).ownBlock) : Below W.heap.size W w6 := ⟨hg.os, hg.tape, hg.output, hg.size, fun i hi => hg.block i hi (by simp [Value.ownBlock])⟩
theorem tell114 {B : Nat} {k : Blk} {s : Sx} {w : World} (h : St B k s w) (kind : Int) (he : s.ev = .slice none 0 0) (hl : s.evs = []) :
  Calls Tryz.prog 114 #[.pointer (some ⟨k.sp, 0, none⟩), .int .i64 kind] w (Dx B k (fun s' => ∃ v, s' = { s with ev := v, evs := [⟨s.who, kind, s.at_⟩] }) w) := by
 have H := ak_ h
 have hsp := h.lt_s
 have hB := h.Blt
 have hev := h.ev
 rw [he, hl] at hev
 have HV := ak_ (show Kd.R kEvent 136 w.drew B (fun _ => True) (.slice none 0 0) [] from hev)
 have s3_ := h.s3
 have s4_ := h.s4
 have s6_ := h.s6
 have fs6_ := h.fs6
 rw [he] at s6_
 clear h hev
 have hu81 := Tryz.underlying81
 have hu35 := Tryz.underlying35
 have hu136 := Tryz.underlying136
 go_enter Tryz.func114, Tryz.ntmps114
 go_region_law (refine Kd.R_append_step kEvent (w0 := w) B (by rfl) (.tmp 8) (.tmp 19) 35 136 (.agg #[.int .i64 0, .int .i64 0, .int .i64 0]) 24 rfl Tryz.underlying35 info136T rfl (by decide) (by omega) (.slice none 0 0) [] ⟨s.who, kind, s.at_⟩ [.int .i64 s.who, .int .i64 kind, .int .i64 s.at_] (fun _ => True) (fun _ => False) rfl rfl rfl (fun _ hk => hk.elim) (fun _ _ => trivial) HV.out (by first | exact below_drew (Below.refl _ _)) (by simp; omega) (by simp) ?_; intro v1 w6 ho6 hb6 hg6 hat6; obtain ⟨A1, c1, rfl⟩ := Kd.R_slice ho6; have H6 := ak_ (H.out.drew.below (below_of_grown hg6)); have s6_ := H6.out.s6; have fs6_ := H6.out.fs6; have HO6 := ak_ ho6; have HB6 := ak_ hb6; clear ho6 hb6 hg6 hat6)
 all_goals go_wp2
 all_goals go_end0
 all_goals exact ⟨rfl, HB6.out.setCell (p := ⟨k.sp, 6, none⟩) H.out.lo_s _, _, ⟨_, rfl⟩, H6.out.putEv _ _ HO6.out⟩
end Go.Proofs.YtoimfknjfeencaaGreatDoor.Hand
end
