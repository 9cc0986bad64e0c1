/- Part of the walk of a law of the top, and what it leans on (Play, Masks, Few). No conditions beyond those that each lemma names. -/
import Derived.Test.YtoimfknjfeencaaGreatDoorC25
import Derived.Test.YtoimfknjfeencaaGreatDoorZ07
import Derived.Test.YtoimfknjfeencaaGreatDoorZ09
import Derived.Test.YtoimfknjfeencaaGreatDoorZ06
set_option linter.unusedVariables false
set_option linter.unusedSimpArgs false
set_option maxHeartbeats 8000000
set_option maxRecDepth 100000
section
namespace Go.Proofs.YtoimfknjfeencaaGreatDoor.Hand
open Go Go.RowKit Go.Conc Go.Proofs.YtoimfknjfeencaaGreatDoorW.PrintWords Go.Proofs.YtoimfknjfeencaaGreatDoorW.PrintLast Go.Proofs.YtoimfknjfeencaaGreatDoorW.PrintMore
theorem okA_to {a : M.Act} (h : okA (toS a) = true) : M.okAct a := by
 unfold okA isActP toS at h
 simp only [Bool.and_eq_true, decide_eq_true_eq] at h
 unfold M.okAct
 by_cases q : a.kind = 3
 ·simp [q] at h ⊢
  omega
 ·simp [q] at h ⊢
  omega
theorem okPs_to {l : List (List M.Act)} (h : okPs (l.map (·.map toS)) = true) : l.length ≤ 8 ∧ ∀ p ∈ l, M.okProg p := by
 unfold okPs at h
 simp only [Bool.and_eq_true, decide_eq_true_eq, List.length_map, List.all_eq_true] at h
 refine ⟨h.1, fun p hp => ?_⟩
 have := h.2 (p.map toS) (List.mem_map_of_mem hp)
 unfold okP at this
 simp only [Bool.and_eq_true, decide_eq_true_eq, List.all_eq_true, List.length_map] at this
 exact ⟨this.1, fun a ha => okA_to (this.2 _ (List.mem_map_of_mem ha))⟩
theorem good_new {l : List (List M.Act)} (h : okPs (l.map (·.map toS)) = true) : M.Good (M.new l) := M.Good.new l (okPs_to h).1 (okPs_to h).2
def PlayOk (S : Nat → Prop) (x : M.W) (ps : List (Int × Int)) (w : World) (e : Ending) (w' : World) : Prop :=
 ∃ a0 a1 a2 a3 a4 a5 Ae ce, e = .returned (.tuple #[.agg #[a0, a1, a2, a3, a4, a5], .slice Ae (goH x 0 ps).length ce, .int .i64 0]) ∧ Below w.heap.size w w' ∧ WVS S w' (.agg #[a0, a1, a2, a3, a4, a5]) (goW x ps)
theorem play_calls (A : Option Addr) (c : Nat) (l : List (List M.Act)) (w : World) (S : Nat → Prop) (hCS : ∀ W, Kept w W S → (Kd.slice 49 kAct).C W A l.length l) (hSB : ∀ b, S b → b < w.heap.size) (hc : l.length ≤ c) (hb : okPs (l.map (·.map toS)) = true)
    (As : Option Addr) (cs : Nat) (zs : List Int) (hlen : zs.length ≤ 20000) (hC : (Kd.int .i64).C w As zs.length zs) (hwf : ∀ z ∈ zs, -9223372036854775808 ≤ z ∧ z ≤ 9223372036854775807) :
    Calls Tryz.prog 14 #[.slice A l.length c, .slice As zs.length cs] w (PlayOk S (M.new l) (zs.map pickOf) w) := by
  have G := ak_ (good_new hb)
  have HSB := ak_ hSB
  have h8 := (okPs_to hb).1
  have hu := Tryz.underlying29
  have HT := ak_ (blk_new w (.cells #[.int .i64 0, .slice none 0 0, .slice none 0 0, .slice none 0 0, .slice none 0 0, .int .i64 0] 29))
  have HB := ak_ (bel2 (Below.refl _ w) (.cells #[.int .i64 0, .slice none 0 0, .slice none 0 0, .slice none 0 0, .slice none 0 0, .int .i64 0] 29))
  have P1 := ak_ (new_ok A c l (w.alloc (.cells #[.int .i64 0, .slice none 0 0, .slice none 0 0, .slice none 0 0, .slice none 0 0, .int .i64 0] 29)) (fun q => S q ∨ q = w.heap.size) (fun W hk => hCS W ((Kept.of_below HB.out S).then_ hk (fun b q => by rcases q with q | q; exact .inl q; exact .inr (by omega))))
    (fun b q => by
      rw [World.size_alloc]
      rcases q with q | q
      · have := hSB b q; omega
      · omega) hc h8 hb)
  have HC := ak_ hC
  have hln : ¬ ((zs.length : Int) > 20000) := by omega
  have hln2 : (20000 < (zs.length : Int)) = False := eq_false (by omega)
  clear hCS hSB hC hb hc
  go_enter Tryz.func14, Tryz.ntmps14
  go_wp2_with fail
  refine P1.out.mono ?_
  rintro e w2 ⟨v, rfl, hv, hb2⟩
  have HT2 := ak_ (blk_below HT.out hb2)
  have HB2 := ak_ (bel3 HB.out hb2)
  obtain ⟨Ap, Ac, Am, At, cp, cc, cm, ct, rfl, hp⟩ := hv
  have P2 := ak_ (fun (W : World) (hk : Kept w2 W (fun q => S q ∨ q = w.heap.size)) (hk2 : Below w.heap.size w W) =>
    go33 (M.new l) G.out (wv (M.new l) Ap Ac Am At cp cc cm ct) W (fun q => S q ∨ q = w.heap.size) ⟨Ap, Ac, Am, At, cp, cc, cm, ct, rfl, fun W' hk' => hp W' (hk.then_ hk' (fun _ r => .inl r))⟩ (fun b q => by
      have h1 := hk.1
      have h2 := blk_lt HT2.out
      rcases q with q | q
      · have := HSB.out b q; omega
      · omega) As cs zs hlen (Kd.C_below HC.out hk2) hwf)
  have HBW := ak_ (bel2 HB2.out (.cells #[.int .i64 (M.new l).now, .slice Ap (M.new l).cl.length cp, .slice Ac (M.new l).cl.length cc, .slice Am (M.new l).mu.length cm, .slice At (tableOf (M.new l).sem).length ct, .int .i64 (M.new l).stop] 29))
  have HKW := ak_ ((Kept.refl w2 (fun q => S q ∨ q = w.heap.size)).alloc (.cells #[.int .i64 (M.new l).now, .slice Ap (M.new l).cl.length cp, .slice Ac (M.new l).cl.length cc, .slice Am (M.new l).mu.length cm, .slice At (tableOf (M.new l).sem).length ct, .int .i64 (M.new l).stop] 29))
  have HT3 := ak_ (blk_alloc HT2.out (.cells #[.int .i64 (M.new l).now, .slice Ap (M.new l).cl.length cp, .slice Ac (M.new l).cl.length cc, .slice Am (M.new l).mu.length cm, .slice At (tableOf (M.new l).sem).length ct, .int .i64 (M.new l).stop] 29))
  clear hb2 hp P1 HT HB HT2 HB2
  unfold wv at P2 ⊢
  go_wp2_with fail
  refine (P2.out _ HKW.out HBW.out).mono ?_
  rintro e w3 ⟨a0, a1, a2, a3, a4, a5, ve, rfl, hb3, hwv, hsl⟩
  have HT4 := ak_ (blk_below HT3.out hb3)
  have HB4 := ak_ (bel3 HBW.out hb3)
  obtain ⟨Ae, ce, rfl, _, _⟩ := hsl
  obtain ⟨Ap2, Ac2, Am2, At2, cp2, cc2, cm2, ct2, e7, hP7⟩ := hwv
  obtain ⟨rfl, rfl, rfl, rfl, rfl, rfl⟩ := wv_inj e7
  obtain ⟨y, hy⟩ : ∃ y, y = goW (M.new l) (zs.map pickOf) := ⟨_, rfl⟩
  obtain ⟨n9, hn9⟩ : ∃ n9, n9 = (goH (M.new l) 0 (zs.map pickOf)).length := ⟨_, rfl⟩
  rw [← hy] at hP7 ⊢
  rw [← hn9]
  have HY := ak_ hy
  have HN9 := ak_ hn9
  have HP7 := ak_ hP7
  clear hb3 HT3 HBW HKW P2 hP7 hy hn9 e7
  have z0 : w3.cell? ⟨w.heap.size, 0, none⟩ = some (.int .i64 0) := blk_cell HT4.out 0
  have fz0 : w3.frozen? ⟨w.heap.size, 0, none⟩ = false := blk_frozen HT4.out 0
  have z1 : w3.cell? ⟨w.heap.size, 1, none⟩ = some (.slice none 0 0) := blk_cell HT4.out 1
  have fz1 : w3.frozen? ⟨w.heap.size, 1, none⟩ = false := blk_frozen HT4.out 1
  have z2 : w3.cell? ⟨w.heap.size, 2, none⟩ = some (.slice none 0 0) := blk_cell HT4.out 2
  have fz2 : w3.frozen? ⟨w.heap.size, 2, none⟩ = false := blk_frozen HT4.out 2
  have z3 : w3.cell? ⟨w.heap.size, 3, none⟩ = some (.slice none 0 0) := blk_cell HT4.out 3
  have fz3 : w3.frozen? ⟨w.heap.size, 3, none⟩ = false := blk_frozen HT4.out 3
  have z4 : w3.cell? ⟨w.heap.size, 4, none⟩ = some (.slice none 0 0) := blk_cell HT4.out 4
  have fz4 : w3.frozen? ⟨w.heap.size, 4, none⟩ = false := blk_frozen HT4.out 4
  have z5 : w3.cell? ⟨w.heap.size, 5, none⟩ = some (.int .i64 0) := blk_cell HT4.out 5
  have fz5 : w3.frozen? ⟨w.heap.size, 5, none⟩ = false := blk_frozen HT4.out 5
  go_wp2
  refine bodyPost_ret (results_ctt rfl _ _ w.heap.size 29 _ (0, 0) _ rfl (set6 HT4.out (.int .i64 y.now) (.slice Ap2 y.cl.length cp2) (.slice Ac2 y.cl.length cc2) (.slice Am2 y.mu.length cm2) (.slice At2 (tableOf y.sem).length ct2) (.int .i64 y.stop)) Tryz.underlying29 rfl (by kernel_rfl)) rfl ?_
  have hB6 := below6 HB4.out (Nat.le_refl w.heap.size) (.int .i64 y.now) (.slice Ap2 y.cl.length cp2) (.slice Ac2 y.cl.length cc2) (.slice Am2 y.mu.length cm2) (.slice At2 (tableOf y.sem).length ct2) (.int .i64 y.stop)
  have hK6 := kept6 (w := w3) (S := fun q => S q ∨ q = w.heap.size) w.heap.size (.inr rfl) (.int .i64 y.now) (.slice Ap2 y.cl.length cp2) (.slice Ac2 y.cl.length cc2) (.slice Am2 y.mu.length cm2) (.slice At2 (tableOf y.sem).length ct2) (.int .i64 y.stop)
  rw [HN9.out]
  refine ⟨_, _, _, _, _, _, _, _, rfl, hB6, ?_⟩
  rw [← HY.out]
  exact ⟨Ap2, Ac2, Am2, At2, cp2, cc2, cm2, ct2, rfl, fun W hk => HP7.out W (hK6.then_ hk (fun _ q => .inl (.inl q)))⟩
theorem ints_C {w : World} {g t : Nat} {arr : Array Value} {l : List Int} (hg : w.heap[g]? = some (.cells arr t (0, 0))) (hr : ∀ (i : Nat) (x : Int), l[i]? = some x → arr[i]? = some (.int .i64 x)) (hm : l.length ≤ 1000) : (Kd.int .i64).C w (some ⟨g, 0, none⟩) l.length l := by
 refine ⟨rfl, by omega, fun _ => ⟨_, rfl, fun j p hj => ?_⟩⟩
 refine ⟨[.int .i64 p], rfl, rfl, fun i u hu => ?_⟩
 have hi : i = 0 := by have := (List.getElem?_eq_some_iff.1 hu).1; simp at this; omega
 subst hi
 cases hu
 have e : (⟨g, 0, none⟩ : Addr).add (j * 1 + 0) = ⟨g, j, none⟩ := by
  rw [Nat.mul_one, Nat.add_zero]
  by_cases h0 : j = 0
  ·subst h0
   simp [Addr.add]
  ·simp [Addr.add, h0]
 show w.cell? ((⟨g, 0, none⟩ : Addr).add (j * 1 + 0)) = some _
 rw [e, blk_cell hg j]
 exact hr j p hj
end Go.Proofs.YtoimfknjfeencaaGreatDoor.Hand
end
section
namespace Go.Proofs.YtoimfknjfeencaaGreatDoor.Hand
open Go.RowKit Go.Proofs.YtoimfknjfeencaaGreatDoorW.PrintWords Go.Proofs.YtoimfknjfeencaaGreatDoorW.PrintLast Go.Proofs.YtoimfknjfeencaaGreatDoorW.PrintMore
section
attribute [local go_sem] max2_int min2_int max_two min_two max_three min_three max_four min_four
def rd_L2 (xs : List (List S49)) (i : Int) : (List S49) := xs.getD i.toNat ([] : List S49)
theorem at_L2 {w : World} {A : Option Addr} {n : Nat} {xs : List (List S49)} (h : Kd.C (Kd.slice 49 k49) w A n xs) (i : Int) (h0 : 0 ≤ i) (h1 : i < n) : ∃ ad A0 c0, A = some ad ∧ w.cell? (ad.add i.toNat) = some (.slice A0 (rd_L2 xs i).length c0) ∧ (rd_L2 xs i).length ≤ c0 ∧ k49.C w A0 (rd_L2 xs i).length (rd_L2 xs i) := by
 obtain ⟨ad, c, e, _, hK, hc0⟩ := Kd.C_get h ([] : List S49) i h0 h1
 have hc : ∀ j u, c[j]? = some u → w.cell? (ad.add (i.toNat * 1 + j)) = some u := hc0
 obtain ⟨A0, c0, rfl, l0, g0⟩ := hK
 exact ⟨ad, A0, c0, e, by have hq := hc 0 _ rfl; rwa [Nat.mul_one, Nat.add_zero] at hq, l0, g0⟩
def deadbolttop_few.l0 : Nat → List (List (S49)) → List (List (S49)) → Int → Int → Option ((List (List (S49))))
 | 0, _, _, _, _ => none
 | k + 1, x3, x10, x11, x12 => if x12 < x11 then (if 0 ≤ x12 then (if x12 < (x10.length : Int) then (if 0 ≤ (mn ((rd_L2 x10 x12).length : Int) 70) then (if (mn ((rd_L2 x10 x12).length : Int) 70) ≤ ((rd_L2 x10 x12).length : Int) then (if x3.length < 5864062014805 then (deadbolttop_few.l0 k (x3 ++ [((rd_L2 x10 x12).take ((mn ((rd_L2 x10 x12).length : Int) 70) : Int).toNat)]) x10 x11 (wrap64 (x12 + 1))) else (none)) else (none)) else (none)) else (none)) else (none)) else (some x3)
def deadbolttop_few.f (k : Nat) (l0 : List (List (S49))) : Option ((List (List (S49)))) := if 0 ≤ (mn (l0.length : Int) 10) then (if (mn (l0.length : Int) 10) ≤ (l0.length : Int) then ((some (l0.take ((mn (l0.length : Int) 10) : Int).toNat : List (List (S49)))).bind fun y101 => (deadbolttop_few.l0 k ([] : List (List (S49))) y101 (y101.length : Int) 0)) else (none)) else (none)
theorem deadbolttop_few.calls (k : Nat) (P0_ : Nat → Prop) (A0 : Option Addr) (c0 : Nat) (l0 : List (List (S49))) (r : List (List (S49))) (w : World) (hs0 : Kd.V (Kd.slice 49 k49) 47 w w.heap.size (fun k_ => P0_ k_) (.slice A0 l0.length c0) l0) (h : deadbolttop_few.f k l0 = some r) :
  Calls Tryz.prog 6 #[.slice A0 l0.length c0] w fun e w' => ∃ v0_ : Value, e = .returned (v0_) ∧ Kd.N (Kd.slice 49 k49) 47 w' w.heap.size (fun k_ => (P0_ k_ ∨ w.heap.size ≤ k_)) v0_ r ∧ Below w.heap.size w w' := by
 have HO0 := ak_ (show Kd.V (Kd.slice 49 k49) 47 w w.heap.size (fun k_ => (P0_ k_ ∨ w.heap.size ≤ k_)) (.slice A0 l0.length c0) l0 from Kd.V_mono hs0 (fun k_ hk => .inl hk))
 have HB := ak_ (Below.refl w.heap.size w)
 have H : (if 0 ≤ (mn (l0.length : Int) 10) then (if (mn (l0.length : Int) 10) ≤ (l0.length : Int) then ((some (l0.take ((mn (l0.length : Int) 10) : Int).toNat : List (List (S49)))).bind fun y101 => (deadbolttop_few.l0 k ([] : List (List (S49))) y101 (y101.length : Int) 0)) else (none)) else (none)) = some r := h
 clear h
 obtain ⟨ji2, hji2⟩ : ∃ j_ : Int, (mn (l0.length : Int) 10) = j_ := ⟨_, rfl⟩
 replace H : (if 0 ≤ (ji2) then (if (ji2) ≤ (l0.length : Int) then ((some (l0.take ((ji2) : Int).toNat : List (List (S49)))).bind fun y101 => (deadbolttop_few.l0 k ([] : List (List (S49))) y101 (y101.length : Int) 0)) else (none)) else (none)) = some r := by first | (rw [hji2] at H; exact H) | (simp only [hji2] at H ⊢; exact H)
 (try (have hji2h : ji2 ≤ 10 := by (rw [← hji2]; unfold mn; (repeat' split) <;> omega)))
 (try (have hji2g : ji2 ≤ 64 := by omega))
 (try (have hji2l : 0 ≤ ji2 := by (rw [← hji2]; unfold mn; (repeat' split) <;> omega)))
 (try (have hji2m : 0 ≤ ji2 := by omega))
 have hji2_ : (if 10 < (l0.length : Int) then 10 else (l0.length : Int)) = ji2 := hji2
 by_cases c3 : 0 ≤ (ji2)
 ·rw [if_pos c3] at H
  have c3b0 := eq_true c3
  have c3b1 : decide (0 ≤ (ji2)) = true := decide_eq_true c3
  clear c3
  by_cases c4 : (ji2) ≤ (l0.length : Int)
  ·rw [if_pos c4] at H
   have c4b0 := eq_true c4
   have c4b1 : decide ((ji2) ≤ (l0.length : Int)) = true := decide_eq_true c4
   clear c4
   obtain ⟨y101, hy101⟩ : ∃ y_ : List (List (S49)), y_ = (l0.take ((ji2) : Int).toNat) := ⟨_, rfl⟩
   replace H : (deadbolttop_few.l0 k ([] : List (List (S49))) y101 (y101.length : Int) 0) = some r := by first | (rw [hy101]; with_reducible exact H) | (have H2_ := (Option.bind_some _ _).symm.trans H; rw [hy101]; with_reducible exact H2_) | (have H2_ := (Option.bind_some _ _).symm.trans H; with_reducible exact H2_) | with_reducible exact H | (rw [hy101]; exact H) | exact H
   have Ny101 := ak_ hy101
   clear hy101
   have H' := ak_ H
   clear H
   have q5 : ((ji2) : Int) ≤ ((l0.length : Int) : Int) := of_decide_eq_true (by first | (with_reducible assumption) | assumption)
   obtain ⟨i05, hi05, _, hsz5, _⟩ := info_parts info47
   have hroom5 : l0.length ≤ c0 := (Kd.V_reads' HO0.out).2.1
   have hC5 : Kd.F (Kd.slice 49 k49) _ _ A0 l0.length l0 := (Kd.V_at (base := w.heap.size) HO0.out).2.2
   have hcut5 := cut_to (P := Tryz.prog) 22 47 .i64 Tryz.underlying22 hi05 A0 l0.length c0 (ji2) (of_decide_eq_true (by first | (with_reducible assumption) | assumption)) q5 hroom5
   have hr5 := Kd.F_take (m := ((ji2) : Int).toNat) hC5 (by omega)
   have hy5 : y101.length = ((ji2) : Int).toNat := (by rw [Ny101.out, List.length_take]; omega)
   rw [← Ny101.out] at hr5
   rw [← hy5] at hcut5
   have HO105 := ak_ (show Kd.V (Kd.slice 49 k49) 47 _ w.heap.size _ (.slice A0 y101.length c0) y101 from Kd.V_mk (by omega) hr5)
   have HC105 := ak_ (show y101.length ≤ c0 from by omega)
   clear hr5 hC5 hroom5 hi05 hsz5
   have KY5 := ak_ hy5
   clear hy5
   replace q5 := eq_true q5
   go_enter Tryz.func6, Tryz.ntmps6
   go_wp2
   go_loopg [3, 12] k (fun kq v3 v12 w' => ∃ (x3_1 : List (List (S49))) (x12_1 : Int), v12 = .int .i64 x12_1 ∧ Aside0 (deadbolttop_few.l0 kq x3_1 y101 (y101.length : Int) x12_1 = some r) ∧ Aside0 (kq ≤ k) ∧ Aside0 (Kd.N (Kd.slice 49 k49) 47 w' w.heap.size (fun k_ => (P0_ k_ ∨ w.heap.size ≤ k_)) v3 x3_1) ∧ Aside0 (Kd.V (Kd.slice 49 k49) 47 w' w.heap.size (fun k_ => (P0_ k_ ∨ w.heap.size ≤ k_) ∧ some k_ ≠ (v3 : Value).ownBlock) (.slice A0 y101.length c0) y101) ∧ Aside0 (Below w.heap.size w w'))
   case atStart => exact ⟨(([] : List (List (S49)))), (0), (by first | rfl | (simp; done) | (simp [*]; done)), H', ⟨Nat.le_refl _⟩, ⟨by first | exact Kd.S_nil _ _ _ _ _ | exact Kd.N_nil _ _ _ _ _ | exact Kd.V_nil _ _ _ _ _ | exact Kd.Q_nil _ _ _ _ _ | exact Kd.R_nil _ _ _ _ _⟩, ⟨by (with_reducible repeat (first | apply Kd.V_alloc | apply Kd.V_drewN | apply Kd.V_drew)); exact Kd.V_mono HO105.out (fun _ hk => ⟨hk, (by simp [Value.ownBlock])⟩)⟩, ⟨by repeat (first | (with_reducible first | exact HB.out | apply below_alloc | apply pw_below_drewN | apply below_drew1) | exact HB.out)⟩⟩
   case round =>
    clear H'
    try clear p2
    try clear c3
    try clear c3b0
    try clear c3b1
    try clear c4
    try clear c4b0
    try clear c4b1
    try clear q5
    try clear q5
    obtain ⟨x3_1, x12_1, rfl, HA, HK1, HO_3, HO_10, HB⟩ := hrel
    cases gk with
    | zero => exact absurd HA.out (by simp [deadbolttop_few.l0])
    | succ k1 =>
     have H := HA.out
     clear HA
     simp only [deadbolttop_few.l0] at H
     by_cases c6 : x12_1 < (y101.length : Int)
     ·rw [if_pos c6] at H
      have c6b0 : decide (x12_1 < (y101.length : Int)) = true := decide_eq_true c6
      clear c6
      by_cases c7 : 0 ≤ x12_1
      ·rw [if_pos c7] at H
       have c7b0 : decide (0 ≤ x12_1) = true := decide_eq_true c7
       clear c7
       by_cases c8 : x12_1 < (y101.length : Int)
       ·rw [if_pos c8] at H
        have c8b0 : decide (x12_1 < (y101.length : Int)) = true := decide_eq_true c8
        clear c8
        obtain ⟨ji9, hji9⟩ : ∃ j_ : Int, (mn ((rd_L2 y101 x12_1).length : Int) 70) = j_ := ⟨_, rfl⟩
        replace H : (if 0 ≤ (ji9) then (if (ji9) ≤ ((rd_L2 y101 x12_1).length : Int) then (if x3_1.length < 5864062014805 then (deadbolttop_few.l0 k1 (x3_1 ++ [((rd_L2 y101 x12_1).take ((ji9) : Int).toNat)]) y101 (y101.length : Int) (wrap64 (x12_1 + 1))) else (none)) else (none)) else (none)) = some r := by first | (rw [hji9] at H; exact H) | (simp only [hji9] at H ⊢; exact H)
        have hji9_ : (if 70 < ((rd_L2 y101 x12_1).length : Int) then 70 else ((rd_L2 y101 x12_1).length : Int)) = ji9 := hji9
        by_cases c10 : 0 ≤ (ji9)
        ·rw [if_pos c10] at H
         have c10b0 := eq_true c10
         have c10b1 : decide (0 ≤ (ji9)) = true := decide_eq_true c10
         clear c10
         by_cases c11 : (ji9) ≤ ((rd_L2 y101 x12_1).length : Int)
         ·rw [if_pos c11] at H
          have c11b0 := eq_true c11
          have c11b1 : decide ((ji9) ≤ ((rd_L2 y101 x12_1).length : Int)) = true := decide_eq_true c11
          clear c11
          obtain ⟨y107, hy107⟩ : ∃ y_ : List (S49), y_ = ((rd_L2 y101 x12_1).take ((ji9) : Int).toNat) := ⟨_, rfl⟩
          replace H : (if x3_1.length < 5864062014805 then (deadbolttop_few.l0 k1 (x3_1 ++ [y107]) y101 (y101.length : Int) (wrap64 (x12_1 + 1))) else (none)) = some r := by first | (rw [hy107]; with_reducible exact H) | (have H2_ := (Option.bind_some _ _).symm.trans H; rw [hy107]; with_reducible exact H2_) | (have H2_ := (Option.bind_some _ _).symm.trans H; with_reducible exact H2_) | with_reducible exact H | (rw [hy107]; exact H) | exact H
          have Ny107 := ak_ hy107
          clear hy107
          by_cases c12 : x3_1.length < 5864062014805
          ·rw [if_pos c12] at H
           have LMc12 := ak_ c12
           clear c12
           obtain ⟨y112, hy112⟩ : ∃ y_ : List (List (S49)), y_ = (x3_1 ++ [y107]) := ⟨_, rfl⟩
           replace H : (deadbolttop_few.l0 k1 y112 y101 (y101.length : Int) (wrap64 (x12_1 + 1))) = some r := by first | (rw [hy112]; with_reducible exact H) | (have H2_ := (Option.bind_some _ _).symm.trans H; rw [hy112]; with_reducible exact H2_) | (have H2_ := (Option.bind_some _ _).symm.trans H; with_reducible exact H2_) | with_reducible exact H | (rw [hy112]; exact H) | exact H
           have Ny112 := ak_ hy112
           clear hy112
           have H' := ak_ H
           clear H
           have p106 : 0 ≤ (x12_1 : Int) := of_decide_eq_true (by first | (with_reducible assumption) | assumption)
           have q106 : x12_1 < (y101.length : Int) := of_decide_eq_true (by first | (with_reducible assumption) | assumption)
           obtain ⟨ad106, A106_0, c106_0, e106, hx106_0, hl106_0, hi106_0⟩ := at_L2 (Kd.V_reads' HO_10.out).2.2 x12_1 p106 q106
           cases e106
           obtain ⟨ce106, hce106, hMe106, hcc106⟩ := Kd.V_get HO_10.out [] x12_1 p106 (by first | exact q106 | exact of_decide_eq_true (by first | (with_reducible assumption) | assumption) | (have e_ := (Kd.V_reads' HO_10.out).1; omega))
           obtain ⟨ua106_0, uc106_0, rfl, ul106_0, ge106_0⟩ := Kd.FK_slice_open hMe106
           have hv106_0 := hcc106 0 _ rfl
           rw [Nat.add_zero, show ((Kd.slice 49 k49)).sz = 1 from rfl, Nat.mul_one] at hv106_0
           replace hv106_0 := Option.some.inj (hv106_0.symm.trans hx106_0)
           injection hv106_0 with hva_ hvn_ hvc_
           rw [hva_] at ge106_0
           rw [hvc_] at ul106_0
           have HL106_0 := ak_ (show Kd.V k49 49 _ w.heap.size _ _ (rd_L2 y101 x12_1) from Kd.V_mk ul106_0 ge106_0)
           clear hva_ hvn_ hvc_ ge106_0 ul106_0
           clear hcc106 hce106
           have HR106_0 := ak_ hi106_0
           have HC106_0 := ak_ hl106_0
           clear hi106_0 hl106_0
           replace p106 := eq_true p106
           replace q106 := eq_true q106
           have q13 : ((ji9) : Int) ≤ (((rd_L2 y101 x12_1).length : Int) : Int) := of_decide_eq_true (by first | (with_reducible assumption) | assumption)
           obtain ⟨i013, hi013, _, hsz13, _⟩ := info_parts info49
           have hroom13 : (rd_L2 y101 x12_1).length ≤ c106_0 := HC106_0.out
           have hC13 : Kd.F k49 _ _ A106_0 (rd_L2 y101 x12_1).length (rd_L2 y101 x12_1) := (Kd.V_at (base := w.heap.size) HL106_0.out).2.2
           have hcut13 := cut_to (P := Tryz.prog) 47 49 .i64 Tryz.underlying47 hi013 A106_0 (rd_L2 y101 x12_1).length c106_0 (ji9) (of_decide_eq_true (by first | (with_reducible assumption) | assumption)) q13 hroom13
           have hr13 := Kd.F_take (m := ((ji9) : Int).toNat) hC13 (by omega)
           have hy13 : y107.length = ((ji9) : Int).toNat := (by rw [Ny107.out, List.length_take]; omega)
           rw [← Ny107.out] at hr13
           rw [← hy13] at hcut13
           have HO111 := ak_ (show Kd.V k49 49 _ w.heap.size _ (.slice A106_0 y107.length c106_0) y107 from Kd.V_mk (by omega) hr13)
           have HC111 := ak_ (show y107.length ≤ c106_0 from by omega)
           clear hr13 hC13 hroom13 hi013 hsz13
           have KY13 := ak_ hy13
           clear hy13
           replace q13 := eq_true q13
           go_wp2_with (first | ((with_reducible refine gate_builtin (b := .append) (xs := #[.tmp 16, .tmp 22]) rfl ?_); at_builtin; refine Kd.N_append (Kd.slice 49 k49) (w0 := w) w.heap.size rfl (.tmp 16) (.tmp 22) 22 47 (.slice none 0 0) 24 rfl Tryz.underlying22 info47 rfl (by decide) (by omega) u3 x3_1 y107 [.slice A106_0 y107.length c106_0] (fun k_ => (P0_ k_ ∨ w.heap.size ≤ k_)) (fun k_ => ((fun k_ => (P0_ k_ ∨ w.heap.size ≤ k_))) k_ ∧ some k_ ≠ (u3 : Value).ownBlock) rfl rfl ?aP (fun _ hk => hk) ?aF ?aO ?aB ?aS ?aL ?_; (case aP => exact (Kd.FK_slice_mk (Kd.V_reads' (Kd.V_mono (ok' := (fun k_ => ((fun k_ => (P0_ k_ ∨ w.heap.size ≤ k_))) k_ ∧ some k_ ≠ (u3 : Value).ownBlock)) (HO111.out) (fun k_ hk => ⟨hk.1, hk.2⟩))).2.1 (Kd.V_F (Kd.V_mono (ok' := (fun k_ => ((fun k_ => (P0_ k_ ∨ w.heap.size ≤ k_))) k_ ∧ some k_ ≠ (u3 : Value).ownBlock)) (HO111.out) (fun k_ hk => ⟨hk.1, hk.2⟩))))); (case aB => exact (by repeat (first | (with_reducible first | exact HB.out | apply below_alloc | apply pw_below_drewN | apply below_drew1) | exact HB.out))); (case aF => exact (fun k_ hk => (.inr (Nat.le_trans (below_size (by repeat (first | (with_reducible first | exact HB.out | apply below_alloc | apply pw_below_drewN | apply below_drew1) | exact HB.out))) hk)))); (case aO => exact (by (with_reducible repeat (first | apply Kd.N_alloc | apply Kd.N_drewN | apply Kd.N_drew)); exact HO_3.out)); (case aS => exact (below_size (by repeat (first | (with_reducible first | exact HB.out | apply below_alloc | apply pw_below_drewN | apply below_drew1) | exact HB.out)))); (case aL => have := LMc12.out; omega); intro v113 w14 ho hb hg hat; rw [← Ny112.out] at ho; have n0_ := ak_ (Kd.V_afterv (ok := (fun k_ => (P0_ k_ ∨ w.heap.size ≤ k_))) (by (with_reducible repeat (first | apply Kd.V_alloc | apply Kd.V_drewN | apply Kd.V_drew)); exact HO_10.out) hg hat); have n1_ := ak_ (Kd.V_afterv (ok := (fun k_ => (P0_ k_ ∨ w.heap.size ≤ k_))) (by (with_reducible repeat (first | apply Kd.V_alloc | apply Kd.V_drewN | apply Kd.V_drew)); exact HL106_0.out) hg hat); have n2_ := ak_ (Kd.V_afterv (ok := (fun k_ => (P0_ k_ ∨ w.heap.size ≤ k_))) (by (with_reducible repeat (first | apply Kd.V_alloc | apply Kd.V_drewN | apply Kd.V_drew)); exact HO111.out) hg hat); have n3_ := ak_ (hb); have n4_ := ak_ (ho); clear HO_10; clear HL106_0; clear HO111; clear HB; clear HO_3; have HO_10 := n0_; have HL106_0 := n1_; have HO111 := n2_; have HB := n3_; have HO114 := n4_; clear n0_ n1_ n2_ n3_ n4_; clear ho hb hg hat))
           go_roundg k1
           case measure => have := HK1.out; omega
           case rel => exact ⟨(y112), (wrap64 (x12_1 + 1)), (by first | rfl | (simp; done) | (simp [*]; done)), H', ⟨by have := HK1.out; omega⟩, ⟨by (with_reducible repeat (first | apply Kd.N_alloc | apply Kd.N_drewN | apply Kd.N_drew)); exact HO114.out⟩, ⟨by (with_reducible repeat (first | apply Kd.V_alloc | apply Kd.V_drewN | apply Kd.V_drew)); exact HO_10.out⟩, ⟨by repeat (first | (with_reducible first | exact HB.out | apply below_alloc | apply pw_below_drewN | apply below_drew1) | exact HB.out)⟩⟩
          ·rw [if_neg c12] at H
           exact absurd H (by simp)
         ·rw [if_neg c11] at H
          exact absurd H (by simp)
        ·rw [if_neg c10] at H
         exact absurd H (by simp)
       ·rw [if_neg c8] at H
        exact absurd H (by simp)
      ·rw [if_neg c7] at H
       exact absurd H (by simp)
     ·rw [if_neg c6] at H
      have c6b0 : decide (x12_1 < (y101.length : Int)) = false := decide_eq_false c6
      clear c6
      obtain rfl := Option.some.inj H
      go_wp2
      go_ret
      exact ⟨_, by first | rfl | (simp [errW_none, errW_some] <;> rfl) | (simp only [← hji2]; first | rfl | (simp [errW_none, errW_some] <;> rfl)) | (simp [*, errW_none, errW_some] <;> rfl), by (with_reducible repeat (first | apply Kd.N_alloc | apply Kd.N_drewN | apply Kd.N_drew)); exact HO_3.out, by repeat (first | (with_reducible first | exact HB.out | apply below_alloc | apply pw_below_drewN | apply below_drew1) | exact HB.out)⟩
  ·rw [if_neg c4] at H
   exact absurd H (by simp)
 ·rw [if_neg c3] at H
  exact absurd H (by simp)
def fewOf (l : List (List S49)) : List (List S49) := (l.take 10).map (·.take 70)
theorem few_l0 : ∀ (k i : Nat) (l x : List (List S49)), l.length ≤ 10 → i + k = l.length + 1 → x.length = i → i ≤ l.length → (∀ p ∈ l, p.length ≤ 9223372036854775807) → deadbolttop_few.l0 k x l (l.length : Int) (i : Int) = some (x ++ (l.drop i).map (·.take 70))
 | 0, i, l, x, h10, h, hx, hi, hp => by
  exact absurd h (by omega)
 | k + 1, i, l, x, h10, h, hx, hi, hp => by
  unfold deadbolttop_few.l0
  by_cases q : i < l.length
  ·have e1 : rd_L2 l (i : Int) = l[i] := by
    unfold rd_L2
    rw [Int.toNat_natCast, List.getD_eq_getElem?_getD, List.getElem?_eq_getElem q]
    rfl
   have hm : 0 ≤ (mn ((l[i].length : Nat) : Int) 70) ∧ (mn ((l[i].length : Nat) : Int) 70) ≤ ((l[i].length : Nat) : Int) ∧ l[i].take (mn ((l[i].length : Nat) : Int) 70).toNat = l[i].take 70 := by
    unfold mn
    split
    ·exact ⟨by decide, by omega, rfl⟩
    ·refine ⟨by omega, by omega, ?_⟩
     rw [Int.toNat_natCast, List.take_length, List.take_of_length_le (by omega)]
   rw [e1, if_pos (by omega), if_pos (by omega), if_pos (by omega), if_pos hm.1, if_pos hm.2.1, if_pos (by omega), hm.2.2]
   have hw : wrap64 ((i : Int) + 1) = ((i + 1 : Nat) : Int) := by
    unfold wrap64
    omega
   rw [hw, few_l0 k (i + 1) l (x ++ [l[i].take 70]) h10 (by omega) (by rw [List.length_append, hx]; rfl) (by omega) hp, List.drop_eq_getElem_cons q, List.map_cons, List.append_assoc]
   rfl
  ·rw [if_neg (by omega), List.drop_eq_nil_of_le (by omega)]
   simp
theorem few_f (l : List (List S49)) (hp : ∀ p ∈ l, p.length ≤ 9223372036854775807) : deadbolttop_few.f ((l.take 10).length + 1) l = some (fewOf l) := by
 unfold deadbolttop_few.f fewOf
 have hm : 0 ≤ (mn ((l.length : Nat) : Int) 10) ∧ (mn ((l.length : Nat) : Int) 10) ≤ ((l.length : Nat) : Int) ∧ l.take (mn ((l.length : Nat) : Int) 10).toNat = l.take 10 := by
  unfold mn
  split
  ·exact ⟨by decide, by omega, rfl⟩
  ·refine ⟨by omega, by omega, ?_⟩
   rw [Int.toNat_natCast, List.take_length, List.take_of_length_le (by omega)]
 rw [if_pos hm.1, if_pos hm.2.1, hm.2.2, Option.bind_some]
 have := few_l0 ((l.take 10).length + 1) 0 (l.take 10) [] (by rw [List.length_take]; omega) (by omega) rfl (by omega) (fun p h => hp p (List.mem_of_mem_take h))
 simpa using this
theorem few6 (A0 : Option Addr) (c0 : Nat) (l : List (List S49)) (w : World) (hc : l.length ≤ c0) (hF : Kd.F (Kd.slice 49 k49) w (fun _ => True) A0 l.length l) (hp : ∀ p ∈ l, p.length ≤ 9223372036854775807) :
  Calls Tryz.prog 6 #[.slice A0 l.length c0] w (fun e w' => ∃ A c, e = .returned (.slice A (fewOf l).length c) ∧ (fewOf l).length ≤ c ∧ Kd.F (Kd.slice 49 k49) w' (fun _ => True) A (fewOf l).length (fewOf l) ∧ Below w.heap.size w w') := by
 refine (deadbolttop_few.calls _ (fun _ => True) A0 c0 l (fewOf l) w (Kd.V_mk hc hF) (few_f l hp)).mono ?_
 rintro e w' ⟨v, rfl, hN, hb⟩
 obtain ⟨A, c, rfl, hl, hf⟩ := Kd.N_V hN (base' := 0)
 exact ⟨A, c, rfl, hl, Kd.F_mono hf (fun _ _ => trivial), hb⟩
end
end Go.Proofs.YtoimfknjfeencaaGreatDoor.Hand
end
