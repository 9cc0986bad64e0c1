/- The functions that a law reaches, as Lean functions, and for each a proof that the call hands back just what its Lean function says; no conditions beyond each statement. Written by a program of this session (a changed copy of the print). -/
import Derived.Test.YtokobpgpdddndaaPSpinTurnsx0
import Derived.Test.YtokobpgpdddndaaPSpinTurnsx1
namespace Go.Proofs.Ytokobpgpdddndaa.PSpinTurns
open Go.Proofs.Ytokobpgpdddndaa.Hand
open Go.RowKit Go.Proofs.YtokobpgpdddndaaW.PrintWords Go.Proofs.YtokobpgpdddndaaW.PrintLast Go.Proofs.YtokobpgpdddndaaW.PrintMore
attribute [local go_sem] max2_int min2_int max_two min_two max_three min_three max_four min_four   -- for this text's walks alone
set_option linter.unusedVariables false
set_option linter.unusedSimpArgs false

/-! ### deadboltlaw06_SpinTurns: function 3 -/
mutual
def deadboltlaw06_SpinTurns.l0 : Nat → List Int → List Bool → Int → Int → Int → Int → Option (Bool)
  | 0, _, _, _, _, _, _ => none
  | k + 1, x7, x35, x36, x37, x110000, x110001 => if x37 < x36 then (if 0 ≤ x37 then (if x37 < (x35.length : Int) then (if rdOf false x35 x37 = true then ((spin_Draw.f x110000 x110001).bind fun bt113 => (if bt113.2.2.2 = 0 then (if x7.length < 17592186044416 then (deadboltlaw06_SpinTurns.j1 k (x7 ++ [bt113.2.2.1]) x35 x36 x37 bt113.1 bt113.2.1) else (none)) else (some false))) else ((spin_Done.f x110000 x110001).bind fun bt121 => (if (x7.length : Int) = 0 then (if bt121.2.2 = 6 then (deadboltlaw06_SpinTurns.l0 k x7 x35 x36 (wrap64 (x37 + 1)) x110000 x110001) else (some false)) else (if bt121.2.2 = 0 then (if 1 ≤ (x7.length : Int) then (deadboltlaw06_SpinTurns.j1 k (x7.drop (1 : Int).toNat) x35 x36 x37 bt121.1 bt121.2.1) else (none)) else (some false))))) else (none)) else (none)) else ((deadboltlaw06_alive.f).bind fun t111 => (some t111))
def deadboltlaw06_SpinTurns.j1 : Nat → List Int → List Bool → Int → Int → Int → Int → Option (Bool)
  | 0, _, _, _, _, _, _ => none
  | k + 1, x7, x35, x36, x37, x110000, x110001 => (spin_Out.f x110000 x110001).bind fun bt128 => (if bt128.2 = 0 then (deadboltlaw06_SpinTurns.j2 k x7 x35 x36 x37 (bt128.1 != (x7.length : Int)) x110000 x110001) else (deadboltlaw06_SpinTurns.j2 k x7 x35 x36 x37 true x110000 x110001))
def deadboltlaw06_SpinTurns.j2 : Nat → List Int → List Bool → Int → Int → Bool → Int → Int → Option (Bool)
  | 0, _, _, _, _, _, _, _ => none
  | k + 1, x7, x35, x36, x37, x82, x110000, x110001 => if x82 = true then (some false) else (deadboltlaw06_SpinTurns.l1 k x7 x35 x36 x37 x7 (x7.length : Int) 0 x110000 x110001)
def deadboltlaw06_SpinTurns.l1 : Nat → List Int → List Bool → Int → Int → List Int → Int → Int → Int → Int → Option (Bool)
  | 0, _, _, _, _, _, _, _, _, _ => none
  | k + 1, x7, x35, x36, x37, x83, x84, x85, x110000, x110001 => if x85 < x84 then (if 0 ≤ x85 then (if x85 < (x83.length : Int) then ((spin_Turn.f x110000 x110001 (rd x83 x85)).bind fun bt131 => (if bt131.2 = 0 then (if (bt131.1 != (x85 == 0)) = true then (some false) else (deadboltlaw06_SpinTurns.l1 k x7 x35 x36 x37 x83 x84 (wrap64 (x85 + 1)) x110000 x110001)) else (some false))) else (none)) else (none)) else (deadboltlaw06_SpinTurns.l0 k x7 x35 x36 (wrap64 (x37 + 1)) x110000 x110001)
end
def deadboltlaw06_SpinTurns.f (k : Nat) (a0 : Int) (l1 : List Bool) : Option (Bool) := (word_Wrap.f 1 a0).bind fun bt107 => (if bt107.2 = 0 then (if 0 ≤ (mn (l1.length : Int) 200) then (if (mn (l1.length : Int) 200) ≤ (l1.length : Int) then (deadboltlaw06_SpinTurns.l0 k ([] : List Int) (l1.take ((mn (l1.length : Int) 200) : Int).toNat) ((l1.take ((mn (l1.length : Int) 200) : Int).toNat).length : Int) 0 bt107.1 bt107.1) else (none)) else (none)) else (some false))
theorem deadboltlaw06_SpinTurns.mono_l : ∀ k, (∀ y0 y1 y2 y3 y4 y5, LeO (deadboltlaw06_SpinTurns.l0 k y0 y1 y2 y3 y4 y5) (deadboltlaw06_SpinTurns.l0 (k + 1) y0 y1 y2 y3 y4 y5)) ∧ (∀ y0 y1 y2 y3 y4 y5, LeO (deadboltlaw06_SpinTurns.j1 k y0 y1 y2 y3 y4 y5) (deadboltlaw06_SpinTurns.j1 (k + 1) y0 y1 y2 y3 y4 y5)) ∧ (∀ y0 y1 y2 y3 y4 y5 y6, LeO (deadboltlaw06_SpinTurns.j2 k y0 y1 y2 y3 y4 y5 y6) (deadboltlaw06_SpinTurns.j2 (k + 1) y0 y1 y2 y3 y4 y5 y6)) ∧ (∀ y0 y1 y2 y3 y4 y5 y6 y7 y8, LeO (deadboltlaw06_SpinTurns.l1 k y0 y1 y2 y3 y4 y5 y6 y7 y8) (deadboltlaw06_SpinTurns.l1 (k + 1) y0 y1 y2 y3 y4 y5 y6 y7 y8))
  | 0 => ⟨fun _ _ _ _ _ _ r h => by simp [deadboltlaw06_SpinTurns.l0] at h, fun _ _ _ _ _ _ r h => by simp [deadboltlaw06_SpinTurns.j1] at h, fun _ _ _ _ _ _ _ r h => by simp [deadboltlaw06_SpinTurns.j2] at h, fun _ _ _ _ _ _ _ _ _ r h => by simp [deadboltlaw06_SpinTurns.l1] at h⟩
  | k + 1 => by
    obtain ⟨ih0, ih1, ih2, ih3⟩ := deadboltlaw06_SpinTurns.mono_l k
    refine ⟨?_, ?_, ?_, ?_⟩
    · intro y0 y1 y2 y3 y4 y5
      unfold deadboltlaw06_SpinTurns.l0
      repeat' first
      | (with_reducible exact ih0 _ _ _ _ _ _)
      | (with_reducible exact ih1 _ _ _ _ _ _)
      | (with_reducible exact ih2 _ _ _ _ _ _ _)
      | (with_reducible exact ih3 _ _ _ _ _ _ _ _ _)
      | (with_reducible exact LeO.refl _)
      | (with_reducible exact LeO.none _)
      | (with_reducible refine LeO.ite ?_ ?_)
      | (with_reducible refine LeO.bind ?_ (fun _ => ?_))
      | exact ih0 _ _ _ _ _ _
      | exact ih1 _ _ _ _ _ _
      | exact ih2 _ _ _ _ _ _ _
      | exact ih3 _ _ _ _ _ _ _ _ _
      | exact LeO.none _
      | refine LeO.ite ?_ ?_
      | refine LeO.bind ?_ (fun _ => ?_)
    · intro y0 y1 y2 y3 y4 y5
      unfold deadboltlaw06_SpinTurns.j1
      repeat' first
      | (with_reducible exact ih0 _ _ _ _ _ _)
      | (with_reducible exact ih1 _ _ _ _ _ _)
      | (with_reducible exact ih2 _ _ _ _ _ _ _)
      | (with_reducible exact ih3 _ _ _ _ _ _ _ _ _)
      | (with_reducible exact LeO.refl _)
      | (with_reducible exact LeO.none _)
      | (with_reducible refine LeO.ite ?_ ?_)
      | (with_reducible refine LeO.bind ?_ (fun _ => ?_))
      | exact ih0 _ _ _ _ _ _
      | exact ih1 _ _ _ _ _ _
      | exact ih2 _ _ _ _ _ _ _
      | exact ih3 _ _ _ _ _ _ _ _ _
      | exact LeO.none _
      | refine LeO.ite ?_ ?_
      | refine LeO.bind ?_ (fun _ => ?_)
    · intro y0 y1 y2 y3 y4 y5 y6
      unfold deadboltlaw06_SpinTurns.j2
      repeat' first
      | (with_reducible exact ih0 _ _ _ _ _ _)
      | (with_reducible exact ih1 _ _ _ _ _ _)
      | (with_reducible exact ih2 _ _ _ _ _ _ _)
      | (with_reducible exact ih3 _ _ _ _ _ _ _ _ _)
      | (with_reducible exact LeO.refl _)
      | (with_reducible exact LeO.none _)
      | (with_reducible refine LeO.ite ?_ ?_)
      | (with_reducible refine LeO.bind ?_ (fun _ => ?_))
      | exact ih0 _ _ _ _ _ _
      | exact ih1 _ _ _ _ _ _
      | exact ih2 _ _ _ _ _ _ _
      | exact ih3 _ _ _ _ _ _ _ _ _
      | exact LeO.none _
      | refine LeO.ite ?_ ?_
      | refine LeO.bind ?_ (fun _ => ?_)
    · intro y0 y1 y2 y3 y4 y5 y6 y7 y8
      unfold deadboltlaw06_SpinTurns.l1
      repeat' first
      | (with_reducible exact ih0 _ _ _ _ _ _)
      | (with_reducible exact ih1 _ _ _ _ _ _)
      | (with_reducible exact ih2 _ _ _ _ _ _ _)
      | (with_reducible exact ih3 _ _ _ _ _ _ _ _ _)
      | (with_reducible exact LeO.refl _)
      | (with_reducible exact LeO.none _)
      | (with_reducible refine LeO.ite ?_ ?_)
      | (with_reducible refine LeO.bind ?_ (fun _ => ?_))
      | exact ih0 _ _ _ _ _ _
      | exact ih1 _ _ _ _ _ _
      | exact ih2 _ _ _ _ _ _ _
      | exact ih3 _ _ _ _ _ _ _ _ _
      | exact LeO.none _
      | refine LeO.ite ?_ ?_
      | refine LeO.bind ?_ (fun _ => ?_)
theorem deadboltlaw06_SpinTurns.mono : ∀ a0 a1 k, LeO (deadboltlaw06_SpinTurns.f k a0 a1) (deadboltlaw06_SpinTurns.f (k + 1) a0 a1) := by
  intro a0 a1 k
  obtain ⟨ih0, ih1, ih2, ih3⟩ := deadboltlaw06_SpinTurns.mono_l k
  unfold deadboltlaw06_SpinTurns.f
  repeat' first
      | (with_reducible exact ih0 _ _ _ _ _ _)
      | (with_reducible exact ih1 _ _ _ _ _ _)
      | (with_reducible exact ih2 _ _ _ _ _ _ _)
      | (with_reducible exact ih3 _ _ _ _ _ _ _ _ _)
      | (with_reducible exact LeO.refl _)
      | (with_reducible exact LeO.none _)
      | (with_reducible refine LeO.ite ?_ ?_)
      | (with_reducible refine LeO.bind ?_ (fun _ => ?_))
      | exact ih0 _ _ _ _ _ _
      | exact ih1 _ _ _ _ _ _
      | exact ih2 _ _ _ _ _ _ _
      | exact ih3 _ _ _ _ _ _ _ _ _
      | exact LeO.none _
      | refine LeO.ite ?_ ?_
      | refine LeO.bind ?_ (fun _ => ?_)
set_option maxHeartbeats 8000000 in
set_option maxRecDepth 100000 in
theorem deadboltlaw06_SpinTurns.calls (k : Nat) (a0 : Int) (A1 : Option Addr) (c1 : Nat) (l1 : List Bool) (r : Bool) (w : World) (hr1 : Kd.C Kd.bool w A1 l1.length l1) (hc1 : l1.length ≤ c1) (h : deadboltlaw06_SpinTurns.f k a0 l1 = some r) :
    Calls Try.prog 3 #[.int .i64 a0, .slice A1 l1.length c1] w fun e w' => e = .returned (.bool r) ∧ Below w.heap.size w w' := by
  have hu27 := Try.underlying27
  have HR1 := Aside0.mk hr1
  have HC1 := Aside0.mk hc1
  clear hr1 hc1
  have HB := Aside0.mk (Below.refl w.heap.size w)
  have H : ((word_Wrap.f 1 a0).bind fun bt107 => (if bt107.2 = 0 then (if 0 ≤ (mn (l1.length : Int) 200) then (if (mn (l1.length : Int) 200) ≤ (l1.length : Int) then (deadboltlaw06_SpinTurns.l0 k ([] : List Int) (l1.take ((mn (l1.length : Int) 200) : Int).toNat) ((l1.take ((mn (l1.length : Int) 200) : Int).toNat).length : Int) 0 bt107.1 bt107.1) else (none)) else (none)) else (some false))) = some r := h
  clear h
  replace H := Option.bind_eq_some_iff.mp H
  obtain ⟨⟨t107, t108⟩, A30, H⟩ := H
  replace H : (if t108 = 0 then (if 0 ≤ (mn (l1.length : Int) 200) then (if (mn (l1.length : Int) 200) ≤ (l1.length : Int) then (deadboltlaw06_SpinTurns.l0 k ([] : List Int) (l1.take ((mn (l1.length : Int) 200) : Int).toNat) ((l1.take ((mn (l1.length : Int) 200) : Int).toNat).length : Int) 0 t107 t107) else (none)) else (none)) else (some false)) = some r := H
  have A3 := Aside0.mk A30
  clear A30
  by_cases c4 : t108 = 0
  · rw [if_pos c4] at H
    have c4b0 : (t108 == 0) = true := beq_iff_eq.mpr c4
    have c4b1 : (t108 != 0) = false := bne_eq_false_iff_eq.mpr c4
    clear c4
    obtain ⟨ji5, hji5⟩ : ∃ j_ : Int, (mn (l1.length : Int) 200) = j_ := ⟨_, rfl⟩
    replace H : (if 0 ≤ (ji5) then (if (ji5) ≤ (l1.length : Int) then (deadboltlaw06_SpinTurns.l0 k ([] : List Int) (l1.take ((ji5) : Int).toNat) ((l1.take ((ji5) : Int).toNat).length : Int) 0 t107 t107) else (none)) else (none)) = some r := by first | (rw [hji5] at H; exact H) | (simp only [hji5] at H ⊢; exact H)
    (try rw [hji5] at A3)
    (try (have hji5h : ji5 ≤ 200 := by (rw [← hji5]; unfold mn; (repeat' split) <;> omega)))
    (try (have hji5g : ji5 ≤ 64 := by omega))
    (try (have hji5l : 0 ≤ ji5 := by (rw [← hji5]; unfold mn; (repeat' split) <;> omega)))
    (try (have hji5m : 0 ≤ ji5 := by omega))
    have hji5_ : (if 200 < (l1.length : Int) then 200 else (l1.length : Int)) = ji5 := hji5
    by_cases c6 : 0 ≤ (ji5)
    · rw [if_pos c6] at H
      have c6b0 := eq_true c6
      have c6b1 : decide (0 ≤ (ji5)) = true := decide_eq_true c6
      clear c6
      by_cases c7 : (ji5) ≤ (l1.length : Int)
      · rw [if_pos c7] at H
        have c7b0 := eq_true c7
        have c7b1 : decide ((ji5) ≤ (l1.length : Int)) = true := decide_eq_true c7
        have hkeep7 := c7
        clear c7
        have H' := Aside0.mk H
        clear H
        go_enter Try.func3, Try.ntmps3
        go_wp2_with (first | ((with_reducible refine gate_callee (f := 6) rfl ?_); refine goesL_ (some 23) rfl rfl Try.func6 (by kernel_rfl) rfl #[.int .i64 1, .int .i64 a0] rfl (by (try simp only [List.map_toArray, List.map_cons, List.map_nil]); first | done | rfl | (simp only [List.length_drop, List.length_take]; rfl)) ?_; (with_reducible refine (word_Wrap.calls 1 a0 t107 t108 _ A3.out).mono ?_); rintro e w' ⟨rfl, ⟨nd, rfl⟩⟩; refine ⟨_, rfl, ?_⟩) | ((with_reducible refine gate_dst (N := 6) rfl ?_); (try (refine gate_guard (by rfl) ?_; dsimp only)); refine box_event ?hg (N := 6) ?hd (cs := #[.int .i64 0, .int .i64 0]) (t := 27) ?hr ?_; (case hd => rfl); (case hg => rfl); (case hr => first | (go_simp; done) | (go_simp; rfl)); intro gb109 hg w8 hbox hb; have n0_ := Aside0.mk (below_step (by repeat (first | (with_reducible first | exact HB.out | apply below_alloc | apply pw_below_drewN | apply below_drew1) | exact HB.out)) hb); have n1_ := Aside0.mk (hbox); have n2_ := Aside0.mk ((by rw [hg]; exact (below_size (by repeat (first | (with_reducible first | exact HB.out | apply below_alloc | apply pw_below_drewN | apply below_drew1) | exact HB.out))) : w.heap.size ≤ gb109)); have n3_ := Aside0.mk ((by rw [hg]; exact (below_size (by repeat (first | (with_reducible first | exact HB.out | apply below_alloc | apply pw_below_drewN | apply below_drew1) | exact HB.out))) : w.heap.size ≤ gb109)); clear HB; have HB := n0_; have BK109 := n1_; have GW109 := n2_; have GE109 := n3_; clear n0_ n1_ n2_ n3_; clear hb hbox hg; have hcz9_0 : w8.cell? ⟨gb109, 0, none⟩ = some (.int .i64 0) := (blk_cell BK109.out 0).trans rfl; have hcz9_1 : w8.cell? ⟨gb109, 1, none⟩ = some (.int .i64 0) := (blk_cell BK109.out 1).trans rfl; have hfz9_0 := blk_frozen BK109.out 0; have hfz9_1 := blk_frozen BK109.out 1; obtain ⟨i010, hi010, _, hsz10, _⟩ := info_parts info4; obtain ⟨hcut10, hA10, hC10⟩ := print_take_of (P := Try.prog) Value.bool false 22 4 .i64 Try.underlying22 hi010 hsz10 A1 c1 l1 (ji5) (of_decide_eq_true (by first | (with_reducible assumption) | assumption)) (of_decide_eq_true (by first | (with_reducible assumption) | assumption)) HC1.out; have HR110 := Aside0.mk (Kd.C_of_reads (h1 := fun _ => rfl) (hA10 _ (Kd.reads_of_C HR1.out))); have HC110 := Aside0.mk hC10; clear hA10 hC10 hi010 hsz10))
        go_loopg [7, 37] k (fun kq v7 v37 w' => ∃ (x7_1 : List Int) (x37_1 : Int) (x110000_1 : Int) (x110001_1 : Int), v37 = .int .i64 x37_1 ∧ Aside0 (deadboltlaw06_SpinTurns.l0 kq x7_1 (l1.take ((ji5) : Int).toNat) ((l1.take ((ji5) : Int).toNat).length : Int) x37_1 x110000_1 x110001_1 = some r) ∧ Aside0 (kq ≤ k) ∧ Aside0 (Kd.Q (Kd.int .i64) 3 w' w.heap.size (fun _ => True) v7 x7_1) ∧ Aside0 (w'.heap[gb109]? = some (.cells #[.int .i64 x110000_1, .int .i64 x110001_1] 27 (0, 0))) ∧ Aside0 (Below w.heap.size w w'))
        case atStart => exact ⟨(([] : List Int)), (0), (t107), (t107), (by first | rfl | (simp; done) | (simp [*]; done)), H', ⟨Nat.le_refl _⟩, ⟨Kd.Q_of_R (by first | exact Kd.R_nil _ _ _ _ _ | exact Kd.N_nil _ _ _ _ _ | exact Kd.V_nil _ _ _ _ _ | exact Kd.Q_nil _ _ _ _ _ | exact Kd.S_nil _ _ _ _ _)⟩, ⟨by (with_reducible repeat (first | refine blk_drewN ?_ _ | refine blk_drew ?_ | refine blk_alloc ?_ _)); refine blk_put (cs := #[.int .i64 t107, .int .i64 0]) ?_ 1 _ rfl; (with_reducible repeat (first | refine blk_drewN ?_ _ | refine blk_drew ?_ | refine blk_alloc ?_ _)); refine blk_put (cs := #[.int .i64 0, .int .i64 0]) ?_ 0 _ rfl; (with_reducible repeat (first | refine blk_drewN ?_ _ | refine blk_drew ?_ | refine blk_alloc ?_ _)); exact BK109.out⟩, ⟨by repeat (first | (with_reducible first | exact HB.out | apply below_alloc | apply pw_below_drewN | apply below_drew1 | refine below_set ?_ GE109.out) | exact HB.out)⟩⟩
        case round =>
          clear H'
          try clear c1
          try clear p2
          try clear c3
          try clear c4
          try clear c4b0
          try clear c4b1
          try clear c6
          try clear c6b0
          try clear c6b1
          try clear c7
          try clear c7b0
          try clear c7b1
          try clear hcz9_0
          try clear hcz9_1
          try clear hfz9_0
          try clear hfz9_1
          obtain ⟨x7_1, x37_1, x110000_1, x110001_1, rfl, HA, HK1, HO_7, BK109, HB⟩ := hrel
          cases gk with
          | zero => exact absurd HA.out (by simp [deadboltlaw06_SpinTurns.l0])
          | succ k1 =>
            have H := HA.out
            clear HA
            simp only [deadboltlaw06_SpinTurns.l0] at H
            by_cases c11 : x37_1 < ((l1.take ((ji5) : Int).toNat).length : Int)
            · rw [if_pos c11] at H
              have c11b0 : decide (x37_1 < ((l1.take ((ji5) : Int).toNat).length : Int)) = true := decide_eq_true c11
              have c11w : x37_1 < ji5 := by have hz_ := of_decide_eq_true c11b0; rw [List.length_take] at hz_; omega
              clear c11
              by_cases c12 : 0 ≤ x37_1
              · rw [if_pos c12] at H
                have c12b0 : decide (0 ≤ x37_1) = true := decide_eq_true c12
                clear c12
                by_cases c13 : x37_1 < ((l1.take ((ji5) : Int).toNat).length : Int)
                · rw [if_pos c13] at H
                  have c13b0 : decide (x37_1 < ((l1.take ((ji5) : Int).toNat).length : Int)) = true := decide_eq_true c13
                  have c13w : x37_1 < ji5 := by have hz_ := of_decide_eq_true c13b0; rw [List.length_take] at hz_; omega
                  clear c13
                  have HC14 := Aside0.mk H
                  clear H
                  have p112 : 0 ≤ (x37_1 : Int) := of_decide_eq_true (by first | (with_reducible assumption) | assumption)
                  have q112 : x37_1 < ((l1.take ((ji5) : Int).toNat).length : Int) := of_decide_eq_true (by first | (with_reducible assumption) | assumption)
                  obtain ⟨ad112, e112, hx112_0⟩ := Kd.at_bool HR110.out x37_1 p112 q112
                  cases e112
                  replace hx112_0 := (HB.out.cell (World.block_lt_of_cell? w _ hx112_0)).trans hx112_0
                  replace p112 := eq_true p112
                  replace q112 := eq_true q112
                  go_upto_if 41 with (fail)
                  go_cut [7, 9, 40, 41] (fun v7 v9 v40 v41 wc => ∃ (kq : Nat) (x7_13 : List Int) (x110000_13 : Int) (x110001_13 : Int), Aside0 (deadboltlaw06_SpinTurns.j1 kq x7_13 (l1.take ((ji5) : Int).toNat) ((l1.take ((ji5) : Int).toNat).length : Int) x37_1 x110000_13 x110001_13 = some r) ∧ Aside0 (kq ≤ k1) ∧ Aside0 (Kd.Q (Kd.int .i64) 3 wc w.heap.size (fun _ => True) v7 x7_13) ∧ Aside0 (wc.heap[gb109]? = some (.cells #[.int .i64 x110000_13, .int .i64 x110001_13] 27 (0, 0))) ∧ Aside0 (Below w.heap.size w wc))
                  case first =>
                    have H := HC14.out
                    clear HC14
                    obtain ⟨bq15, hbq15⟩ : ∃ b_ : Bool, b_ = (rdOf false (l1.take ((ji5) : Int).toNat) x37_1) := ⟨_, rfl⟩
                    replace H : (if bq15 = true then ((spin_Draw.f x110000_1 x110001_1).bind fun bt113 => (if bt113.2.2.2 = 0 then (if x7_1.length < 17592186044416 then (deadboltlaw06_SpinTurns.j1 k1 (x7_1 ++ [bt113.2.2.1]) (l1.take ((ji5) : Int).toNat) ((l1.take ((ji5) : Int).toNat).length : Int) x37_1 bt113.1 bt113.2.1) else (none)) else (some false))) else ((spin_Done.f x110000_1 x110001_1).bind fun bt121 => (if (x7_1.length : Int) = 0 then (if bt121.2.2 = 6 then (deadboltlaw06_SpinTurns.l0 k1 x7_1 (l1.take ((ji5) : Int).toNat) ((l1.take ((ji5) : Int).toNat).length : Int) (wrap64 (x37_1 + 1)) x110000_1 x110001_1) else (some false)) else (if bt121.2.2 = 0 then (if 1 ≤ (x7_1.length : Int) then (deadboltlaw06_SpinTurns.j1 k1 (x7_1.drop (1 : Int).toNat) (l1.take ((ji5) : Int).toNat) ((l1.take ((ji5) : Int).toNat).length : Int) x37_1 bt121.1 bt121.2.1) else (none)) else (some false))))) = some r := by rw [← hbq15] at H; exact H
                    have Nbq15 := Aside0.mk hbq15
                    clear hbq15
                    (try rw [← Nbq15.out])
                    by_cases c16 : bq15 = true
                    · subst c16
                      have H1 : ((spin_Draw.f x110000_1 x110001_1).bind fun bt113 => (if bt113.2.2.2 = 0 then (if x7_1.length < 17592186044416 then (deadboltlaw06_SpinTurns.j1 k1 (x7_1 ++ [bt113.2.2.1]) (l1.take ((ji5) : Int).toNat) ((l1.take ((ji5) : Int).toNat).length : Int) x37_1 bt113.1 bt113.2.1) else (none)) else (some false))) = some r := by rw [if_pos rfl] at H; exact H
                      clear H
                      have H := H1
                      clear H1
                      replace H := Option.bind_eq_some_iff.mp H
                      obtain ⟨⟨t113, t114, t115, t116⟩, A170, H⟩ := H
                      replace H : (if t116 = 0 then (if x7_1.length < 17592186044416 then (deadboltlaw06_SpinTurns.j1 k1 (x7_1 ++ [t115]) (l1.take ((ji5) : Int).toNat) ((l1.take ((ji5) : Int).toNat).length : Int) x37_1 t113 t114) else (none)) else (some false)) = some r := H
                      have A17 := Aside0.mk A170
                      clear A170
                      by_cases c18 : t116 = 0
                      · rw [if_pos c18] at H
                        have c18b0 : (t116 == 0) = true := beq_iff_eq.mpr c18
                        have c18b1 : (t116 != 0) = false := bne_eq_false_iff_eq.mpr c18
                        clear c18
                        by_cases c19 : x7_1.length < 17592186044416
                        · rw [if_pos c19] at H
                          have LMc19 := Aside0.mk c19
                          clear c19
                          obtain ⟨y118, hy118⟩ : ∃ y_ : List Int, y_ = (x7_1 ++ [t115]) := ⟨_, rfl⟩
                          replace H : (deadboltlaw06_SpinTurns.j1 k1 y118 (l1.take ((ji5) : Int).toNat) ((l1.take ((ji5) : Int).toNat).length : Int) x37_1 t113 t114) = some r := by first | (rw [hy118]; with_reducible exact H) | (have H2_ := (Option.bind_some _ _).symm.trans H; rw [hy118]; with_reducible exact H2_) | (have H2_ := (Option.bind_some _ _).symm.trans H; with_reducible exact H2_) | with_reducible exact H | (rw [hy118]; exact H) | exact H
                          have Ny118 := Aside0.mk hy118
                          clear hy118
                          have H' := Aside0.mk H
                          clear H
                          have hcz20_0 : wr.cell? ⟨gb109, 0, none⟩ = some (.int .i64 x110000_1) := (blk_cell BK109.out 0).trans rfl
                          have hcz20_1 : wr.cell? ⟨gb109, 1, none⟩ = some (.int .i64 x110001_1) := (blk_cell BK109.out 1).trans rfl
                          have hfz20_0 := blk_frozen BK109.out 0
                          have hfz20_1 := blk_frozen BK109.out 1
                          try go_wp2_with (first | ((with_reducible refine gate_callee (f := 7) rfl ?_); refine goesL_ (some 44) rfl rfl Try.func7 (by kernel_rfl) rfl #[.agg #[.int .i64 x110000_1, .int .i64 x110001_1]] rfl (by (try simp only [List.map_toArray, List.map_cons, List.map_nil]); first | done | rfl | (simp only [List.length_drop, List.length_take]; rfl)) ?_; (with_reducible refine (spin_Draw.calls x110000_1 x110001_1 t113 t114 t115 t116 _ A17.out).mono ?_); rintro e w21 ⟨rfl, hb⟩; refine ⟨_, rfl, ?_⟩; have n0_ := Aside0.mk (Kd.Q_below (by (with_reducible repeat (first | apply Kd.Q_alloc | apply Kd.Q_drewN | apply Kd.Q_drew)); exact HO_7.out) hb); have n1_ := Aside0.mk (blk_below (g := gb109) (o := .cells #[.int .i64 x110000_1, .int .i64 x110001_1] 27 (0, 0)) (by (with_reducible repeat (first | refine blk_drewN ?_ _ | refine blk_drew ?_ | refine blk_alloc ?_ _)); exact BK109.out) hb); have n2_ := Aside0.mk (below_step (by repeat (first | (with_reducible first | exact HB.out | apply below_alloc | apply pw_below_drewN | apply below_drew1 | refine below_set ?_ GE109.out) | exact HB.out)) hb); clear HO_7; clear BK109; clear HB; have HO_7 := n0_; have BK109 := n1_; have HB := n2_; clear n0_ n1_ n2_; (try clear hb); (try clear hb2); (try clear hk); (try clear hi)) | ((with_reducible refine gate_dst (N := 10) rfl ?_); (try (refine gate_guard (by rfl) ?_; dsimp only)); refine box_event ?hg (N := 10) ?hd (cs := #[.int .i64 0, .int .i64 0]) (t := 27) ?hr ?_; (case hd => rfl); (case hg => rfl); (case hr => first | (go_simp; done) | (go_simp; rfl)); intro gb117 hg w22 hbox hb; have n0_ := Aside0.mk (Kd.Q_below (by (with_reducible repeat (first | apply Kd.Q_alloc | apply Kd.Q_drewN | apply Kd.Q_drew)); exact HO_7.out) hb); have n1_ := Aside0.mk (blk_below (g := gb109) (o := .cells #[.int .i64 x110000_1, .int .i64 x110001_1] 27 (0, 0)) (by (with_reducible repeat (first | refine blk_drewN ?_ _ | refine blk_drew ?_ | refine blk_alloc ?_ _)); exact BK109.out) hb); have n2_ := Aside0.mk (below_step (by repeat (first | (with_reducible first | exact HB.out | apply below_alloc | apply pw_below_drewN | apply below_drew1 | refine below_set ?_ GE109.out) | exact HB.out)) hb); have n3_ := Aside0.mk (hbox); have n4_ := Aside0.mk ((by rw [hg]; exact (below_size (by repeat (first | (with_reducible first | exact HB.out | apply below_alloc | apply pw_below_drewN | apply below_drew1 | refine below_set ?_ GE109.out) | exact HB.out))) : w.heap.size ≤ gb117)); have n5_ := Aside0.mk ((by rw [hg]; exact (below_size (by repeat (first | (with_reducible first | exact HB.out | apply below_alloc | apply pw_below_drewN | apply below_drew1 | refine below_set ?_ GE109.out) | exact HB.out))) : w.heap.size ≤ gb117)); have n6_ := Aside0.mk ((by rw [hg]; exact Nat.ne_of_lt (blk_lt (g := gb109) (o := .cells #[.int .i64 x110000_1, .int .i64 x110001_1] 27 (0, 0)) (by (with_reducible repeat (first | refine blk_drewN ?_ _ | refine blk_drew ?_ | refine blk_alloc ?_ _)); exact BK109.out)) : gb109 ≠ gb117)); have n7_ := Aside0.mk ((by rw [hg]; exact Nat.ne_of_gt (blk_lt (g := gb109) (o := .cells #[.int .i64 x110000_1, .int .i64 x110001_1] 27 (0, 0)) (by (with_reducible repeat (first | refine blk_drewN ?_ _ | refine blk_drew ?_ | refine blk_alloc ?_ _)); exact BK109.out)) : gb117 ≠ gb109)); clear HO_7; clear BK109; clear HB; have HO_7 := n0_; have BK109 := n1_; have HB := n2_; have BK117 := n3_; have GW117 := n4_; have GE117 := n5_; have NB109_117 := n6_; have NB117_109 := n7_; clear n0_ n1_ n2_ n3_ n4_ n5_ n6_ n7_; clear hb hbox hg; have hnb23 := NB117_109.out; have hnc23 := NB109_117.out; have hcz24_0 : w22.cell? ⟨gb117, 0, none⟩ = some (.int .i64 0) := (blk_cell BK117.out 0).trans rfl; have hcz24_1 : w22.cell? ⟨gb117, 1, none⟩ = some (.int .i64 0) := (blk_cell BK117.out 1).trans rfl; have hfz24_0 := blk_frozen BK117.out 0; have hfz24_1 := blk_frozen BK117.out 1))
                          have n0_ : Aside0 (Kd.Q (Kd.int .i64) 3 ((w22.setCell ⟨gb117, 0, none⟩ (.int .i64 t113)).setCell ⟨gb117, 1, none⟩ (.int .i64 t114)) w.heap.size (fun _ => True) u7 x7_1) := ⟨by (with_reducible repeat (first | apply Kd.Q_alloc | apply Kd.Q_drewN | apply Kd.Q_drew)); exact Kd.Q_mono (Kd.Q_far (p := ⟨gb117, 1, none⟩) (Kd.Q_far (p := ⟨gb117, 0, none⟩) (Kd.Q_types HO_7.out BK117.out (by decide)) (fun _ hk => hk.2) (.int .i64 t113)) (fun _ hk => hk.2) (.int .i64 t114)) (fun _ hk => trivial)⟩
                          have n1_ : Aside0 (((w22.setCell ⟨gb117, 0, none⟩ (.int .i64 t113)).setCell ⟨gb117, 1, none⟩ (.int .i64 t114)).heap[gb109]? = some (.cells #[.int .i64 x110000_1, .int .i64 x110001_1] 27 (0, 0))) := ⟨by (with_reducible repeat (first | refine blk_drewN ?_ _ | refine blk_drew ?_ | refine blk_alloc ?_ _)); refine blk_far ?_ NB109_117.out _; (with_reducible repeat (first | refine blk_drewN ?_ _ | refine blk_drew ?_ | refine blk_alloc ?_ _)); refine blk_far ?_ NB109_117.out _; (with_reducible repeat (first | refine blk_drewN ?_ _ | refine blk_drew ?_ | refine blk_alloc ?_ _)); exact BK109.out⟩
                          have n2_ : Aside0 (((w22.setCell ⟨gb117, 0, none⟩ (.int .i64 t113)).setCell ⟨gb117, 1, none⟩ (.int .i64 t114)).heap[gb117]? = some (.cells #[.int .i64 t113, .int .i64 t114] 27 (0, 0))) := ⟨by (with_reducible repeat (first | refine blk_drewN ?_ _ | refine blk_drew ?_ | refine blk_alloc ?_ _)); refine blk_put (cs := #[.int .i64 t113, .int .i64 0]) ?_ 1 _ rfl; (with_reducible repeat (first | refine blk_drewN ?_ _ | refine blk_drew ?_ | refine blk_alloc ?_ _)); refine blk_put (cs := #[.int .i64 0, .int .i64 0]) ?_ 0 _ rfl; (with_reducible repeat (first | refine blk_drewN ?_ _ | refine blk_drew ?_ | refine blk_alloc ?_ _)); exact BK117.out⟩
                          have n3_ : Aside0 (Below w.heap.size w ((w22.setCell ⟨gb117, 0, none⟩ (.int .i64 t113)).setCell ⟨gb117, 1, none⟩ (.int .i64 t114))) := ⟨by repeat (first | (with_reducible first | exact HB.out | apply below_alloc | apply pw_below_drewN | apply below_drew1 | refine below_set ?_ GE109.out | refine below_set ?_ GE117.out) | exact HB.out)⟩
                          (try clear HO_7)
                          (try clear BK109)
                          (try clear BK117)
                          (try clear HB)
                          generalize ((w22.setCell ⟨gb117, 0, none⟩ (.int .i64 t113)).setCell ⟨gb117, 1, none⟩ (.int .i64 t114)) = w25 at n0_ n1_ n2_ n3_ ⊢
                          have HO_7 := n0_
                          have BK109 := n1_
                          have BK117 := n2_
                          have HB := n3_
                          clear n0_ n1_ n2_ n3_
                          have n0_ := Aside0.mk (Kd.Q_drew HO_7.out)
                          have n1_ := Aside0.mk (blk_drew BK109.out)
                          have n2_ := Aside0.mk (blk_drew BK117.out)
                          have n3_ := Aside0.mk (below_drew1 HB.out)
                          clear HO_7
                          clear BK109
                          clear BK117
                          clear HB
                          have HO_7 := n0_
                          have BK109 := n1_
                          have BK117 := n2_
                          have HB := n3_
                          clear n0_ n1_ n2_ n3_
                          refine start_ (n := 7) (S := fun w' => w'.cell? ⟨gb117, 0, none⟩ = some (.int .i64 t113) ∧ w'.cell? ⟨gb117, 1, none⟩ = some (.int .i64 t114)) (ds := []) #[false, false, false, false, false, false, false] (by kernel_rfl) rfl rfl ⟨(blk_cell BK117.out 0).trans rfl, (blk_cell BK117.out 1).trans rfl⟩ (fun hHeld => ?_)
                          generalize w25.drew = w26 at HO_7 BK109 BK117 HB hHeld ⊢
                          refine pure_ (i := 1) (N := some 51) (v := ?_) (a' := ?_) #[false, true, false, false, false, false, false] rfl rfl (by kernel_rfl) (fun _ _ _ h => h) (Or.inl ⟨by rfl, ?_⟩) ?_ ?_
                          rotate_left
                          · intro w'
                            go_simp
                            with_reducible rfl
                          rotate_left
                          · simp only [Act.put, List.setIfInBounds_toArray, List.set_cons_zero, List.set_cons_succ, i64_w, i32_w]
                            rfl
                          refine pure_ (i := 2) (N := some 52) (v := ?_) (a' := ?_) #[false, true, true, false, false, false, false] rfl rfl (by kernel_rfl) (fun _ _ _ h => h) (Or.inl ⟨by rfl, ?_⟩) ?_ ?_
                          rotate_left
                          · intro w'
                            go_simp
                            with_reducible rfl
                          rotate_left
                          · simp only [Act.put, List.setIfInBounds_toArray, List.set_cons_zero, List.set_cons_succ, i64_w, i32_w]
                            rfl
                          refine take_ (i := 0) (N := some 50) (v := ?_) (a' := ?_) #[true, true, true, false, false, false, false] rfl rfl (by kernel_rfl) (fun _ _ _ h => h) (Or.inl ⟨by rfl, ?_⟩) hHeld ?_ ?_
                          rotate_left
                          · rintro w' ⟨s0, s1⟩
                            go_simp
                            with_reducible rfl
                          rotate_left
                          · simp only [Act.put, List.setIfInBounds_toArray, List.set_cons_zero, List.set_cons_succ, i64_w, i32_w]
                            rfl
                          refine one_ (i := 3) (N := some 53) #[true, true, true, true, false, false, false] rfl rfl (by kernel_rfl) (by decide) (fun K hK => ?_)
                          refine value_ (w1 := ?_) (v := ?_) (by rfl) rfl ?_ ?_
                          rotate_left 2
                          · go_simp
                            constructor
                            · rfl
                            · rfl
                          refine hK.out _ _ ⟨(blk_cell (blk_alloc BK117.out _) 0).trans rfl, (blk_cell (blk_alloc BK117.out _) 1).trans rfl⟩ (fun hHeld => ?_)
                          clear hK K
                          refine norm_ (a' := ?_) ?_ ?_
                          rotate_left
                          · show Act.put _ (some 53) _ = _
                            simp only [Act.put, List.setIfInBounds_toArray, List.set_cons_zero, List.set_cons_succ, i64_w, i32_w]
                            rfl
                          refine one_ (i := 4) (N := some 54) #[true, true, true, true, true, false, false] rfl rfl (by kernel_rfl) (by decide) (fun K hK => ?_)
                          refine Kd.Q_append_step (Kd.int .i64) (w0 := w) w.heap.size (by rfl) (.tmp 51) (.tmp 53) 28 3 (.int .i64 0) 8 rfl Try.underlying28 info3 rfl (by decide) (by omega) u7 x7_1 t115 [.int .i64 t115] (fun _ => True) (fun _ => False) rfl rfl ?aP (fun _ hk => hk.elim) ?aF ?aO ?aB ?aS ?aL ?_
                          (case aP => exact rfl)
                          (case aB => exact (by repeat (first | (with_reducible first | exact HB.out | apply below_alloc | apply pw_below_drewN | apply below_drew1 | refine below_set ?_ GE109.out | refine below_set ?_ GE117.out) | exact HB.out)))
                          (case aF => exact (fun _ _ => trivial))
                          (case aO => exact (by (with_reducible repeat (first | apply Kd.Q_alloc | apply Kd.Q_drewN | apply Kd.Q_drew)); exact HO_7.out))
                          (case aS => exact (below_size (by repeat (first | (with_reducible first | exact HB.out | apply below_alloc | apply pw_below_drewN | apply below_drew1 | refine below_set ?_ GE109.out | refine below_set ?_ GE117.out) | exact HB.out))))
                          (case aL => have := LMc19.out; omega)
                          intro v119 w27 ho hb hg hat
                          rw [← Ny118.out] at ho
                          have n0_ := Aside0.mk (blk_grown (g := gb109) (o := .cells #[.int .i64 x110000_1, .int .i64 x110001_1] 27 (0, 0)) (by (with_reducible repeat (first | refine blk_drewN ?_ _ | refine blk_drew ?_ | refine blk_alloc ?_ _)); exact BK109.out) hg (Kd.Q_ne HO_7.out BK109.out (by decide)))
                          have n1_ := Aside0.mk (blk_grown (g := gb117) (o := .cells #[.int .i64 t113, .int .i64 t114] 27 (0, 0)) (by (with_reducible repeat (first | refine blk_drewN ?_ _ | refine blk_drew ?_ | refine blk_alloc ?_ _)); exact BK117.out) hg (Kd.Q_ne HO_7.out BK117.out (by decide)))
                          have n2_ := Aside0.mk (hb)
                          have n3_ := Aside0.mk (ho)
                          clear BK109
                          clear BK117
                          clear HB
                          clear HO_7
                          have BK109 := n0_
                          have BK117 := n1_
                          have HB := n2_
                          have HO120 := n3_
                          clear n0_ n1_ n2_ n3_
                          clear ho hb hg hat
                          refine hK.out _ _ ⟨(blk_cell BK117.out 0).trans rfl, (blk_cell BK117.out 1).trans rfl⟩ (fun hHeld => ?_)
                          clear hK K
                          refine norm_ (a' := ?_) ?_ ?_
                          rotate_left
                          · show Act.put _ (some 54) _ = _
                            simp only [Act.put, List.setIfInBounds_toArray, List.set_cons_zero, List.set_cons_succ, i64_w, i32_w]
                            rfl
                          refine one_ (i := 5) (N := none) #[true, true, true, true, true, true, false] rfl rfl (by kernel_rfl) (by decide) (fun K hK => ?_)
                          have hs28 : w27.cell? ⟨gb109, 0, none⟩ = some (.int .i64 x110000_1) := (blk_cell BK109.out 0).trans rfl
                          have hfs28 := blk_frozen BK109.out 0
                          have hns28_1 := NB117_109.out
                          have hms28_1 := NB109_117.out
                          have hs29 : w27.cell? ⟨gb109, 1, none⟩ = some (.int .i64 x110001_1) := (blk_cell BK109.out 1).trans rfl
                          have hfs29 := blk_frozen BK109.out 1
                          have hns29_1 := NB117_109.out
                          have hms29_1 := NB109_117.out
                          refine skip_ (w1 := ?_) (by rfl) rfl ?_ ?_
                          rotate_left
                          · go_simp
                            rfl
                          refine hK.out _ _ ⟨((cell_far (p := ⟨gb109, _, none⟩) NB117_109.out _).trans (((cell_far (p := ⟨gb109, _, none⟩) NB117_109.out _).trans (hHeld.1)))), ((cell_far (p := ⟨gb109, _, none⟩) NB117_109.out _).trans (((cell_far (p := ⟨gb109, _, none⟩) NB117_109.out _).trans (hHeld.2))))⟩ (fun hHeld => ?_)
                          clear hK K
                          refine pure_ (i := 6) (N := some 7) (v := ?_) (a' := ?_) #[true, true, true, true, true, true, true] rfl rfl (by kernel_rfl) (fun _ _ _ h => h) (Or.inl ⟨by rfl, ?_⟩) ?_ ?_
                          rotate_left
                          · intro w'
                            go_simp
                            with_reducible rfl
                          rotate_left
                          · simp only [Act.put, List.setIfInBounds_toArray, List.set_cons_zero, List.set_cons_succ, i64_w, i32_w]
                            rfl
                          refine done_ (by kernel_rfl) ?_
                          try go_wp2
                          go_meet
                          case rel => exact ⟨_, (y118), (t113), (t114), H', ⟨by have := HK1.out; first | omega | exact Nat.le_refl _⟩, ⟨by (with_reducible repeat (first | apply Kd.Q_alloc | apply Kd.Q_drewN | apply Kd.Q_drew)); exact Kd.Q_mono (Kd.Q_far (p := ⟨gb109, 1, none⟩) (Kd.Q_far (p := ⟨gb109, 0, none⟩) (Kd.Q_types HO120.out BK109.out (by decide)) (fun _ hk => hk.2) (.int .i64 t113)) (fun _ hk => hk.2) (.int .i64 t114)) (fun _ hk => trivial)⟩, ⟨by (with_reducible repeat (first | refine blk_drewN ?_ _ | refine blk_drew ?_ | refine blk_alloc ?_ _)); refine blk_put (cs := #[.int .i64 t113, .int .i64 x110001_1]) ?_ 1 _ rfl; (with_reducible repeat (first | refine blk_drewN ?_ _ | refine blk_drew ?_ | refine blk_alloc ?_ _)); refine blk_put (cs := #[.int .i64 x110000_1, .int .i64 x110001_1]) ?_ 0 _ rfl; (with_reducible repeat (first | refine blk_drewN ?_ _ | refine blk_drew ?_ | refine blk_alloc ?_ _)); exact BK109.out⟩, ⟨by repeat (first | (with_reducible first | exact HB.out | apply below_alloc | apply pw_below_drewN | apply below_drew1 | refine below_set ?_ GE109.out | refine below_set ?_ GE117.out) | exact HB.out)⟩⟩
                        · rw [if_neg c19] at H
                          exact absurd H (by simp)
                      · rw [if_neg c18] at H
                        have c18b0 : (t116 == 0) = false := beq_eq_false_iff_ne.mpr c18
                        have c18b1 : (t116 != 0) = true := bne_iff_ne.mpr c18
                        obtain rfl := Option.some.inj H
                        have hcz30_0 : wr.cell? ⟨gb109, 0, none⟩ = some (.int .i64 x110000_1) := (blk_cell BK109.out 0).trans rfl
                        have hcz30_1 : wr.cell? ⟨gb109, 1, none⟩ = some (.int .i64 x110001_1) := (blk_cell BK109.out 1).trans rfl
                        have hfz30_0 := blk_frozen BK109.out 0
                        have hfz30_1 := blk_frozen BK109.out 1
                        go_wp2_with (first | ((with_reducible refine gate_callee (f := 7) rfl ?_); refine goesL_ (some 44) rfl rfl Try.func7 (by kernel_rfl) rfl #[.agg #[.int .i64 x110000_1, .int .i64 x110001_1]] rfl (by (try simp only [List.map_toArray, List.map_cons, List.map_nil]); first | done | rfl | (simp only [List.length_drop, List.length_take]; rfl)) ?_; (with_reducible refine (spin_Draw.calls x110000_1 x110001_1 t113 t114 t115 t116 _ A17.out).mono ?_); rintro e w31 ⟨rfl, hb⟩; refine ⟨_, rfl, ?_⟩; have n0_ := Aside0.mk (Kd.Q_below (by (with_reducible repeat (first | apply Kd.Q_alloc | apply Kd.Q_drewN | apply Kd.Q_drew)); exact HO_7.out) hb); have n1_ := Aside0.mk (blk_below (g := gb109) (o := .cells #[.int .i64 x110000_1, .int .i64 x110001_1] 27 (0, 0)) (by (with_reducible repeat (first | refine blk_drewN ?_ _ | refine blk_drew ?_ | refine blk_alloc ?_ _)); exact BK109.out) hb); have n2_ := Aside0.mk (below_step (by repeat (first | (with_reducible first | exact HB.out | apply below_alloc | apply pw_below_drewN | apply below_drew1 | refine below_set ?_ GE109.out) | exact HB.out)) hb); clear HO_7; clear BK109; clear HB; have HO_7 := n0_; have BK109 := n1_; have HB := n2_; clear n0_ n1_ n2_; (try clear hb); (try clear hb2); (try clear hk); (try clear hi)) | ((with_reducible refine gate_dst (N := 10) rfl ?_); (try (refine gate_guard (by rfl) ?_; dsimp only)); refine box_event ?hg (N := 10) ?hd (cs := #[.int .i64 0, .int .i64 0]) (t := 27) ?hr ?_; (case hd => rfl); (case hg => rfl); (case hr => first | (go_simp; done) | (go_simp; rfl)); intro gb117 hg w32 hbox hb; have n0_ := Aside0.mk (Kd.Q_below (by (with_reducible repeat (first | apply Kd.Q_alloc | apply Kd.Q_drewN | apply Kd.Q_drew)); exact HO_7.out) hb); have n1_ := Aside0.mk (blk_below (g := gb109) (o := .cells #[.int .i64 x110000_1, .int .i64 x110001_1] 27 (0, 0)) (by (with_reducible repeat (first | refine blk_drewN ?_ _ | refine blk_drew ?_ | refine blk_alloc ?_ _)); exact BK109.out) hb); have n2_ := Aside0.mk (below_step (by repeat (first | (with_reducible first | exact HB.out | apply below_alloc | apply pw_below_drewN | apply below_drew1 | refine below_set ?_ GE109.out) | exact HB.out)) hb); have n3_ := Aside0.mk (hbox); have n4_ := Aside0.mk ((by rw [hg]; exact (below_size (by repeat (first | (with_reducible first | exact HB.out | apply below_alloc | apply pw_below_drewN | apply below_drew1 | refine below_set ?_ GE109.out) | exact HB.out))) : w.heap.size ≤ gb117)); have n5_ := Aside0.mk ((by rw [hg]; exact (below_size (by repeat (first | (with_reducible first | exact HB.out | apply below_alloc | apply pw_below_drewN | apply below_drew1 | refine below_set ?_ GE109.out) | exact HB.out))) : w.heap.size ≤ gb117)); have n6_ := Aside0.mk ((by rw [hg]; exact Nat.ne_of_lt (blk_lt (g := gb109) (o := .cells #[.int .i64 x110000_1, .int .i64 x110001_1] 27 (0, 0)) (by (with_reducible repeat (first | refine blk_drewN ?_ _ | refine blk_drew ?_ | refine blk_alloc ?_ _)); exact BK109.out)) : gb109 ≠ gb117)); have n7_ := Aside0.mk ((by rw [hg]; exact Nat.ne_of_gt (blk_lt (g := gb109) (o := .cells #[.int .i64 x110000_1, .int .i64 x110001_1] 27 (0, 0)) (by (with_reducible repeat (first | refine blk_drewN ?_ _ | refine blk_drew ?_ | refine blk_alloc ?_ _)); exact BK109.out)) : gb117 ≠ gb109)); clear HO_7; clear BK109; clear HB; have HO_7 := n0_; have BK109 := n1_; have HB := n2_; have BK117 := n3_; have GW117 := n4_; have GE117 := n5_; have NB109_117 := n6_; have NB117_109 := n7_; clear n0_ n1_ n2_ n3_ n4_ n5_ n6_ n7_; clear hb hbox hg; have hnb33 := NB117_109.out; have hnc33 := NB109_117.out; have hcz34_0 : w32.cell? ⟨gb117, 0, none⟩ = some (.int .i64 0) := (blk_cell BK117.out 0).trans rfl; have hcz34_1 : w32.cell? ⟨gb117, 1, none⟩ = some (.int .i64 0) := (blk_cell BK117.out 1).trans rfl; have hfz34_0 := blk_frozen BK117.out 0; have hfz34_1 := blk_frozen BK117.out 1))
                        go_ret
                        exact ⟨by first | rfl | (simp [errW_none, errW_some] <;> rfl) | (simp only [← hji5]; first | rfl | (simp [errW_none, errW_some] <;> rfl)) | (simp [*, errW_none, errW_some] <;> rfl), by repeat (first | (with_reducible first | exact HB.out | apply below_alloc | apply pw_below_drewN | apply below_drew1 | refine below_set ?_ GE109.out | refine below_set ?_ GE117.out) | exact HB.out)⟩
                    · replace c16 := Bool.eq_false_iff.mpr c16
                      subst c16
                      have H1 : ((spin_Done.f x110000_1 x110001_1).bind fun bt121 => (if (x7_1.length : Int) = 0 then (if bt121.2.2 = 6 then (deadboltlaw06_SpinTurns.l0 k1 x7_1 (l1.take ((ji5) : Int).toNat) ((l1.take ((ji5) : Int).toNat).length : Int) (wrap64 (x37_1 + 1)) x110000_1 x110001_1) else (some false)) else (if bt121.2.2 = 0 then (if 1 ≤ (x7_1.length : Int) then (deadboltlaw06_SpinTurns.j1 k1 (x7_1.drop (1 : Int).toNat) (l1.take ((ji5) : Int).toNat) ((l1.take ((ji5) : Int).toNat).length : Int) x37_1 bt121.1 bt121.2.1) else (none)) else (some false)))) = some r := by rw [if_neg (show ¬ (false = true) by decide)] at H; exact H
                      clear H
                      have H := H1
                      clear H1
                      replace H := Option.bind_eq_some_iff.mp H
                      obtain ⟨⟨t121, t122, t123⟩, A350, H⟩ := H
                      replace H : (if (x7_1.length : Int) = 0 then (if t123 = 6 then (deadboltlaw06_SpinTurns.l0 k1 x7_1 (l1.take ((ji5) : Int).toNat) ((l1.take ((ji5) : Int).toNat).length : Int) (wrap64 (x37_1 + 1)) x110000_1 x110001_1) else (some false)) else (if t123 = 0 then (if 1 ≤ (x7_1.length : Int) then (deadboltlaw06_SpinTurns.j1 k1 (x7_1.drop (1 : Int).toNat) (l1.take ((ji5) : Int).toNat) ((l1.take ((ji5) : Int).toNat).length : Int) x37_1 t121 t122) else (none)) else (some false))) = some r := H
                      have A35 := Aside0.mk A350
                      clear A350
                      by_cases c36 : (x7_1.length : Int) = 0
                      · rw [if_pos c36] at H
                        have c36b0 : ((x7_1.length : Int) == 0) = true := beq_iff_eq.mpr c36
                        have c36b1 : ((x7_1.length : Int) != 0) = false := bne_eq_false_iff_eq.mpr c36
                        clear c36
                        by_cases c37 : t123 = 6
                        · rw [if_pos c37] at H
                          have c37b0 : (t123 == 6) = true := beq_iff_eq.mpr c37
                          have c37b1 : (t123 != 6) = false := bne_eq_false_iff_eq.mpr c37
                          clear c37
                          have H' := Aside0.mk H
                          clear H
                          have hcz38_0 : wr.cell? ⟨gb109, 0, none⟩ = some (.int .i64 x110000_1) := (blk_cell BK109.out 0).trans rfl
                          have hcz38_1 : wr.cell? ⟨gb109, 1, none⟩ = some (.int .i64 x110001_1) := (blk_cell BK109.out 1).trans rfl
                          have hfz38_0 := blk_frozen BK109.out 0
                          have hfz38_1 := blk_frozen BK109.out 1
                          go_wp2_with (first | ((with_reducible refine gate_callee (f := 8) rfl ?_); refine goesL_ (some 57) rfl rfl Try.func8 (by kernel_rfl) rfl #[.agg #[.int .i64 x110000_1, .int .i64 x110001_1]] rfl (by (try simp only [List.map_toArray, List.map_cons, List.map_nil]); first | done | rfl | (simp only [List.length_drop, List.length_take]; rfl)) ?_; (with_reducible refine (spin_Done.calls x110000_1 x110001_1 t121 t122 t123 _ A35.out).mono ?_); rintro e w39 ⟨rfl, hb⟩; refine ⟨_, rfl, ?_⟩; have n0_ := Aside0.mk (Kd.Q_below (by (with_reducible repeat (first | apply Kd.Q_alloc | apply Kd.Q_drewN | apply Kd.Q_drew)); exact HO_7.out) hb); have n1_ := Aside0.mk (blk_below (g := gb109) (o := .cells #[.int .i64 x110000_1, .int .i64 x110001_1] 27 (0, 0)) (by (with_reducible repeat (first | refine blk_drewN ?_ _ | refine blk_drew ?_ | refine blk_alloc ?_ _)); exact BK109.out) hb); have n2_ := Aside0.mk (below_step (by repeat (first | (with_reducible first | exact HB.out | apply below_alloc | apply pw_below_drewN | apply below_drew1 | refine below_set ?_ GE109.out) | exact HB.out)) hb); clear HO_7; clear BK109; clear HB; have HO_7 := n0_; have BK109 := n1_; have HB := n2_; clear n0_ n1_ n2_; (try clear hb); (try clear hb2); (try clear hk); (try clear hi)) | ((with_reducible refine gate_dst (N := 13) rfl ?_); (try (refine gate_guard (by rfl) ?_; dsimp only)); refine box_event ?hg (N := 13) ?hd (cs := #[.int .i64 0, .int .i64 0]) (t := 27) ?hr ?_; (case hd => rfl); (case hg => rfl); (case hr => first | (go_simp; done) | (go_simp; rfl)); intro gb124 hg w40 hbox hb; have n0_ := Aside0.mk (Kd.Q_below (by (with_reducible repeat (first | apply Kd.Q_alloc | apply Kd.Q_drewN | apply Kd.Q_drew)); exact HO_7.out) hb); have n1_ := Aside0.mk (blk_below (g := gb109) (o := .cells #[.int .i64 x110000_1, .int .i64 x110001_1] 27 (0, 0)) (by (with_reducible repeat (first | refine blk_drewN ?_ _ | refine blk_drew ?_ | refine blk_alloc ?_ _)); exact BK109.out) hb); have n2_ := Aside0.mk (below_step (by repeat (first | (with_reducible first | exact HB.out | apply below_alloc | apply pw_below_drewN | apply below_drew1 | refine below_set ?_ GE109.out) | exact HB.out)) hb); have n3_ := Aside0.mk (hbox); have n4_ := Aside0.mk ((by rw [hg]; exact (below_size (by repeat (first | (with_reducible first | exact HB.out | apply below_alloc | apply pw_below_drewN | apply below_drew1 | refine below_set ?_ GE109.out) | exact HB.out))) : w.heap.size ≤ gb124)); have n5_ := Aside0.mk ((by rw [hg]; exact (below_size (by repeat (first | (with_reducible first | exact HB.out | apply below_alloc | apply pw_below_drewN | apply below_drew1 | refine below_set ?_ GE109.out) | exact HB.out))) : w.heap.size ≤ gb124)); have n6_ := Aside0.mk ((by rw [hg]; exact Nat.ne_of_lt (blk_lt (g := gb109) (o := .cells #[.int .i64 x110000_1, .int .i64 x110001_1] 27 (0, 0)) (by (with_reducible repeat (first | refine blk_drewN ?_ _ | refine blk_drew ?_ | refine blk_alloc ?_ _)); exact BK109.out)) : gb109 ≠ gb124)); have n7_ := Aside0.mk ((by rw [hg]; exact Nat.ne_of_gt (blk_lt (g := gb109) (o := .cells #[.int .i64 x110000_1, .int .i64 x110001_1] 27 (0, 0)) (by (with_reducible repeat (first | refine blk_drewN ?_ _ | refine blk_drew ?_ | refine blk_alloc ?_ _)); exact BK109.out)) : gb124 ≠ gb109)); clear HO_7; clear BK109; clear HB; have HO_7 := n0_; have BK109 := n1_; have HB := n2_; have BK124 := n3_; have GW124 := n4_; have GE124 := n5_; have NB109_124 := n6_; have NB124_109 := n7_; clear n0_ n1_ n2_ n3_ n4_ n5_ n6_ n7_; clear hb hbox hg; have hnb41 := NB124_109.out; have hnc41 := NB109_124.out; have hcz42_0 : w40.cell? ⟨gb124, 0, none⟩ = some (.int .i64 0) := (blk_cell BK124.out 0).trans rfl; have hcz42_1 : w40.cell? ⟨gb124, 1, none⟩ = some (.int .i64 0) := (blk_cell BK124.out 1).trans rfl; have hfz42_0 := blk_frozen BK124.out 0; have hfz42_1 := blk_frozen BK124.out 1; obtain ⟨Ao43, co43, eo43, _⟩ := Kd.Q_slice HO_7.out; subst eo43))
                          go_roundg k1
                          case measure => have := HK1.out; omega
                          case rel => exact ⟨(x7_1), (wrap64 (x37_1 + 1)), (x110000_1), (x110001_1), (by first | rfl | (simp; done) | (simp [*]; done)), H', ⟨by have := HK1.out; omega⟩, ⟨by (with_reducible repeat (first | apply Kd.Q_alloc | apply Kd.Q_drewN | apply Kd.Q_drew)); exact Kd.Q_mono (Kd.Q_far (p := ⟨gb124, 1, none⟩) (Kd.Q_far (p := ⟨gb124, 0, none⟩) (Kd.Q_types HO_7.out BK124.out (by decide)) (fun _ hk => hk.2) (.int .i64 t121)) (fun _ hk => hk.2) (.int .i64 t122)) (fun _ hk => trivial)⟩, ⟨by (with_reducible repeat (first | refine blk_drewN ?_ _ | refine blk_drew ?_ | refine blk_alloc ?_ _)); refine blk_far ?_ NB109_124.out _; (with_reducible repeat (first | refine blk_drewN ?_ _ | refine blk_drew ?_ | refine blk_alloc ?_ _)); refine blk_far ?_ NB109_124.out _; (with_reducible repeat (first | refine blk_drewN ?_ _ | refine blk_drew ?_ | refine blk_alloc ?_ _)); exact BK109.out⟩, ⟨by repeat (first | (with_reducible first | exact HB.out | apply below_alloc | apply pw_below_drewN | apply below_drew1 | refine below_set ?_ GE109.out | refine below_set ?_ GE124.out) | exact HB.out)⟩⟩
                        · rw [if_neg c37] at H
                          have c37b0 : (t123 == 6) = false := beq_eq_false_iff_ne.mpr c37
                          have c37b1 : (t123 != 6) = true := bne_iff_ne.mpr c37
                          obtain rfl := Option.some.inj H
                          have hcz44_0 : wr.cell? ⟨gb109, 0, none⟩ = some (.int .i64 x110000_1) := (blk_cell BK109.out 0).trans rfl
                          have hcz44_1 : wr.cell? ⟨gb109, 1, none⟩ = some (.int .i64 x110001_1) := (blk_cell BK109.out 1).trans rfl
                          have hfz44_0 := blk_frozen BK109.out 0
                          have hfz44_1 := blk_frozen BK109.out 1
                          go_wp2_with (first | ((with_reducible refine gate_callee (f := 8) rfl ?_); refine goesL_ (some 57) rfl rfl Try.func8 (by kernel_rfl) rfl #[.agg #[.int .i64 x110000_1, .int .i64 x110001_1]] rfl (by (try simp only [List.map_toArray, List.map_cons, List.map_nil]); first | done | rfl | (simp only [List.length_drop, List.length_take]; rfl)) ?_; (with_reducible refine (spin_Done.calls x110000_1 x110001_1 t121 t122 t123 _ A35.out).mono ?_); rintro e w45 ⟨rfl, hb⟩; refine ⟨_, rfl, ?_⟩; have n0_ := Aside0.mk (Kd.Q_below (by (with_reducible repeat (first | apply Kd.Q_alloc | apply Kd.Q_drewN | apply Kd.Q_drew)); exact HO_7.out) hb); have n1_ := Aside0.mk (blk_below (g := gb109) (o := .cells #[.int .i64 x110000_1, .int .i64 x110001_1] 27 (0, 0)) (by (with_reducible repeat (first | refine blk_drewN ?_ _ | refine blk_drew ?_ | refine blk_alloc ?_ _)); exact BK109.out) hb); have n2_ := Aside0.mk (below_step (by repeat (first | (with_reducible first | exact HB.out | apply below_alloc | apply pw_below_drewN | apply below_drew1 | refine below_set ?_ GE109.out) | exact HB.out)) hb); clear HO_7; clear BK109; clear HB; have HO_7 := n0_; have BK109 := n1_; have HB := n2_; clear n0_ n1_ n2_; (try clear hb); (try clear hb2); (try clear hk); (try clear hi)) | ((with_reducible refine gate_dst (N := 13) rfl ?_); (try (refine gate_guard (by rfl) ?_; dsimp only)); refine box_event ?hg (N := 13) ?hd (cs := #[.int .i64 0, .int .i64 0]) (t := 27) ?hr ?_; (case hd => rfl); (case hg => rfl); (case hr => first | (go_simp; done) | (go_simp; rfl)); intro gb124 hg w46 hbox hb; have n0_ := Aside0.mk (Kd.Q_below (by (with_reducible repeat (first | apply Kd.Q_alloc | apply Kd.Q_drewN | apply Kd.Q_drew)); exact HO_7.out) hb); have n1_ := Aside0.mk (blk_below (g := gb109) (o := .cells #[.int .i64 x110000_1, .int .i64 x110001_1] 27 (0, 0)) (by (with_reducible repeat (first | refine blk_drewN ?_ _ | refine blk_drew ?_ | refine blk_alloc ?_ _)); exact BK109.out) hb); have n2_ := Aside0.mk (below_step (by repeat (first | (with_reducible first | exact HB.out | apply below_alloc | apply pw_below_drewN | apply below_drew1 | refine below_set ?_ GE109.out) | exact HB.out)) hb); have n3_ := Aside0.mk (hbox); have n4_ := Aside0.mk ((by rw [hg]; exact (below_size (by repeat (first | (with_reducible first | exact HB.out | apply below_alloc | apply pw_below_drewN | apply below_drew1 | refine below_set ?_ GE109.out) | exact HB.out))) : w.heap.size ≤ gb124)); have n5_ := Aside0.mk ((by rw [hg]; exact (below_size (by repeat (first | (with_reducible first | exact HB.out | apply below_alloc | apply pw_below_drewN | apply below_drew1 | refine below_set ?_ GE109.out) | exact HB.out))) : w.heap.size ≤ gb124)); have n6_ := Aside0.mk ((by rw [hg]; exact Nat.ne_of_lt (blk_lt (g := gb109) (o := .cells #[.int .i64 x110000_1, .int .i64 x110001_1] 27 (0, 0)) (by (with_reducible repeat (first | refine blk_drewN ?_ _ | refine blk_drew ?_ | refine blk_alloc ?_ _)); exact BK109.out)) : gb109 ≠ gb124)); have n7_ := Aside0.mk ((by rw [hg]; exact Nat.ne_of_gt (blk_lt (g := gb109) (o := .cells #[.int .i64 x110000_1, .int .i64 x110001_1] 27 (0, 0)) (by (with_reducible repeat (first | refine blk_drewN ?_ _ | refine blk_drew ?_ | refine blk_alloc ?_ _)); exact BK109.out)) : gb124 ≠ gb109)); clear HO_7; clear BK109; clear HB; have HO_7 := n0_; have BK109 := n1_; have HB := n2_; have BK124 := n3_; have GW124 := n4_; have GE124 := n5_; have NB109_124 := n6_; have NB124_109 := n7_; clear n0_ n1_ n2_ n3_ n4_ n5_ n6_ n7_; clear hb hbox hg; have hnb47 := NB124_109.out; have hnc47 := NB109_124.out; have hcz48_0 : w46.cell? ⟨gb124, 0, none⟩ = some (.int .i64 0) := (blk_cell BK124.out 0).trans rfl; have hcz48_1 : w46.cell? ⟨gb124, 1, none⟩ = some (.int .i64 0) := (blk_cell BK124.out 1).trans rfl; have hfz48_0 := blk_frozen BK124.out 0; have hfz48_1 := blk_frozen BK124.out 1; obtain ⟨Ao49, co49, eo49, _⟩ := Kd.Q_slice HO_7.out; subst eo49))
                          go_ret
                          exact ⟨by first | rfl | (simp [errW_none, errW_some] <;> rfl) | (simp only [← hji5]; first | rfl | (simp [errW_none, errW_some] <;> rfl)) | (simp [*, errW_none, errW_some] <;> rfl), by repeat (first | (with_reducible first | exact HB.out | apply below_alloc | apply pw_below_drewN | apply below_drew1 | refine below_set ?_ GE109.out | refine below_set ?_ GE124.out) | exact HB.out)⟩
                      · rw [if_neg c36] at H
                        have c36b0 : ((x7_1.length : Int) == 0) = false := beq_eq_false_iff_ne.mpr c36
                        have c36b1 : ((x7_1.length : Int) != 0) = true := bne_iff_ne.mpr c36
                        have c36b2 : ¬ (x7_1 = []) := fun h_ => c36 (by rw [h_]; rfl)
                        by_cases c50 : t123 = 0
                        · rw [if_pos c50] at H
                          have c50b0 : (t123 == 0) = true := beq_iff_eq.mpr c50
                          have c50b1 : (t123 != 0) = false := bne_eq_false_iff_eq.mpr c50
                          clear c50
                          by_cases c51 : 1 ≤ (x7_1.length : Int)
                          · rw [if_pos c51] at H
                            have c51b0 := eq_true c51
                            have c51b1 : decide (1 ≤ (x7_1.length : Int)) = true := decide_eq_true c51
                            clear c51
                            obtain ⟨y125, hy125⟩ : ∃ y_ : List Int, y_ = (x7_1.drop (1 : Int).toNat) := ⟨_, rfl⟩
                            replace H : (deadboltlaw06_SpinTurns.j1 k1 y125 (l1.take ((ji5) : Int).toNat) ((l1.take ((ji5) : Int).toNat).length : Int) x37_1 t121 t122) = some r := by first | (rw [hy125]; with_reducible exact H) | (have H2_ := (Option.bind_some _ _).symm.trans H; rw [hy125]; with_reducible exact H2_) | (have H2_ := (Option.bind_some _ _).symm.trans H; with_reducible exact H2_) | with_reducible exact H | (rw [hy125]; exact H) | exact H
                            have Ny125 := Aside0.mk hy125
                            clear hy125
                            have H' := Aside0.mk H
                            clear H
                            have hcz52_0 : wr.cell? ⟨gb109, 0, none⟩ = some (.int .i64 x110000_1) := (blk_cell BK109.out 0).trans rfl
                            have hcz52_1 : wr.cell? ⟨gb109, 1, none⟩ = some (.int .i64 x110001_1) := (blk_cell BK109.out 1).trans rfl
                            have hfz52_0 := blk_frozen BK109.out 0
                            have hfz52_1 := blk_frozen BK109.out 1
                            try go_wp2_with (first | ((with_reducible refine gate_callee (f := 8) rfl ?_); refine goesL_ (some 57) rfl rfl Try.func8 (by kernel_rfl) rfl #[.agg #[.int .i64 x110000_1, .int .i64 x110001_1]] rfl (by (try simp only [List.map_toArray, List.map_cons, List.map_nil]); first | done | rfl | (simp only [List.length_drop, List.length_take]; rfl)) ?_; (with_reducible refine (spin_Done.calls x110000_1 x110001_1 t121 t122 t123 _ A35.out).mono ?_); rintro e w53 ⟨rfl, hb⟩; refine ⟨_, rfl, ?_⟩; have n0_ := Aside0.mk (Kd.Q_below (by (with_reducible repeat (first | apply Kd.Q_alloc | apply Kd.Q_drewN | apply Kd.Q_drew)); exact HO_7.out) hb); have n1_ := Aside0.mk (blk_below (g := gb109) (o := .cells #[.int .i64 x110000_1, .int .i64 x110001_1] 27 (0, 0)) (by (with_reducible repeat (first | refine blk_drewN ?_ _ | refine blk_drew ?_ | refine blk_alloc ?_ _)); exact BK109.out) hb); have n2_ := Aside0.mk (below_step (by repeat (first | (with_reducible first | exact HB.out | apply below_alloc | apply pw_below_drewN | apply below_drew1 | refine below_set ?_ GE109.out) | exact HB.out)) hb); clear HO_7; clear BK109; clear HB; have HO_7 := n0_; have BK109 := n1_; have HB := n2_; clear n0_ n1_ n2_; (try clear hb); (try clear hb2); (try clear hk); (try clear hi)) | ((with_reducible refine gate_dst (N := 13) rfl ?_); (try (refine gate_guard (by rfl) ?_; dsimp only)); refine box_event ?hg (N := 13) ?hd (cs := #[.int .i64 0, .int .i64 0]) (t := 27) ?hr ?_; (case hd => rfl); (case hg => rfl); (case hr => first | (go_simp; done) | (go_simp; rfl)); intro gb124 hg w54 hbox hb; have n0_ := Aside0.mk (Kd.Q_below (by (with_reducible repeat (first | apply Kd.Q_alloc | apply Kd.Q_drewN | apply Kd.Q_drew)); exact HO_7.out) hb); have n1_ := Aside0.mk (blk_below (g := gb109) (o := .cells #[.int .i64 x110000_1, .int .i64 x110001_1] 27 (0, 0)) (by (with_reducible repeat (first | refine blk_drewN ?_ _ | refine blk_drew ?_ | refine blk_alloc ?_ _)); exact BK109.out) hb); have n2_ := Aside0.mk (below_step (by repeat (first | (with_reducible first | exact HB.out | apply below_alloc | apply pw_below_drewN | apply below_drew1 | refine below_set ?_ GE109.out) | exact HB.out)) hb); have n3_ := Aside0.mk (hbox); have n4_ := Aside0.mk ((by rw [hg]; exact (below_size (by repeat (first | (with_reducible first | exact HB.out | apply below_alloc | apply pw_below_drewN | apply below_drew1 | refine below_set ?_ GE109.out) | exact HB.out))) : w.heap.size ≤ gb124)); have n5_ := Aside0.mk ((by rw [hg]; exact (below_size (by repeat (first | (with_reducible first | exact HB.out | apply below_alloc | apply pw_below_drewN | apply below_drew1 | refine below_set ?_ GE109.out) | exact HB.out))) : w.heap.size ≤ gb124)); have n6_ := Aside0.mk ((by rw [hg]; exact Nat.ne_of_lt (blk_lt (g := gb109) (o := .cells #[.int .i64 x110000_1, .int .i64 x110001_1] 27 (0, 0)) (by (with_reducible repeat (first | refine blk_drewN ?_ _ | refine blk_drew ?_ | refine blk_alloc ?_ _)); exact BK109.out)) : gb109 ≠ gb124)); have n7_ := Aside0.mk ((by rw [hg]; exact Nat.ne_of_gt (blk_lt (g := gb109) (o := .cells #[.int .i64 x110000_1, .int .i64 x110001_1] 27 (0, 0)) (by (with_reducible repeat (first | refine blk_drewN ?_ _ | refine blk_drew ?_ | refine blk_alloc ?_ _)); exact BK109.out)) : gb124 ≠ gb109)); clear HO_7; clear BK109; clear HB; have HO_7 := n0_; have BK109 := n1_; have HB := n2_; have BK124 := n3_; have GW124 := n4_; have GE124 := n5_; have NB109_124 := n6_; have NB124_109 := n7_; clear n0_ n1_ n2_ n3_ n4_ n5_ n6_ n7_; clear hb hbox hg; have hnb55 := NB124_109.out; have hnc55 := NB109_124.out; have hcz56_0 : w54.cell? ⟨gb124, 0, none⟩ = some (.int .i64 0) := (blk_cell BK124.out 0).trans rfl; have hcz56_1 : w54.cell? ⟨gb124, 1, none⟩ = some (.int .i64 0) := (blk_cell BK124.out 1).trans rfl; have hfz56_0 := blk_frozen BK124.out 0; have hfz56_1 := blk_frozen BK124.out 1; obtain ⟨Ao57, co57, eo57, _⟩ := Kd.Q_slice HO_7.out; subst eo57))
                            have n0_ : Aside0 (Kd.Q (Kd.int .i64) 3 ((w54.setCell ⟨gb124, 0, none⟩ (.int .i64 t121)).setCell ⟨gb124, 1, none⟩ (.int .i64 t122)) w.heap.size (fun _ => True) (.slice Ao57 x7_1.length co57) x7_1) := ⟨by (with_reducible repeat (first | apply Kd.Q_alloc | apply Kd.Q_drewN | apply Kd.Q_drew)); exact Kd.Q_mono (Kd.Q_far (p := ⟨gb124, 1, none⟩) (Kd.Q_far (p := ⟨gb124, 0, none⟩) (Kd.Q_types HO_7.out BK124.out (by decide)) (fun _ hk => hk.2) (.int .i64 t121)) (fun _ hk => hk.2) (.int .i64 t122)) (fun _ hk => trivial)⟩
                            have n1_ : Aside0 (((w54.setCell ⟨gb124, 0, none⟩ (.int .i64 t121)).setCell ⟨gb124, 1, none⟩ (.int .i64 t122)).heap[gb109]? = some (.cells #[.int .i64 x110000_1, .int .i64 x110001_1] 27 (0, 0))) := ⟨by (with_reducible repeat (first | refine blk_drewN ?_ _ | refine blk_drew ?_ | refine blk_alloc ?_ _)); refine blk_far ?_ NB109_124.out _; (with_reducible repeat (first | refine blk_drewN ?_ _ | refine blk_drew ?_ | refine blk_alloc ?_ _)); refine blk_far ?_ NB109_124.out _; (with_reducible repeat (first | refine blk_drewN ?_ _ | refine blk_drew ?_ | refine blk_alloc ?_ _)); exact BK109.out⟩
                            have n2_ : Aside0 (((w54.setCell ⟨gb124, 0, none⟩ (.int .i64 t121)).setCell ⟨gb124, 1, none⟩ (.int .i64 t122)).heap[gb124]? = some (.cells #[.int .i64 t121, .int .i64 t122] 27 (0, 0))) := ⟨by (with_reducible repeat (first | refine blk_drewN ?_ _ | refine blk_drew ?_ | refine blk_alloc ?_ _)); refine blk_put (cs := #[.int .i64 t121, .int .i64 0]) ?_ 1 _ rfl; (with_reducible repeat (first | refine blk_drewN ?_ _ | refine blk_drew ?_ | refine blk_alloc ?_ _)); refine blk_put (cs := #[.int .i64 0, .int .i64 0]) ?_ 0 _ rfl; (with_reducible repeat (first | refine blk_drewN ?_ _ | refine blk_drew ?_ | refine blk_alloc ?_ _)); exact BK124.out⟩
                            have n3_ : Aside0 (Below w.heap.size w ((w54.setCell ⟨gb124, 0, none⟩ (.int .i64 t121)).setCell ⟨gb124, 1, none⟩ (.int .i64 t122))) := ⟨by repeat (first | (with_reducible first | exact HB.out | apply below_alloc | apply pw_below_drewN | apply below_drew1 | refine below_set ?_ GE109.out | refine below_set ?_ GE124.out) | exact HB.out)⟩
                            (try clear HO_7)
                            (try clear BK109)
                            (try clear BK124)
                            (try clear HB)
                            generalize ((w54.setCell ⟨gb124, 0, none⟩ (.int .i64 t121)).setCell ⟨gb124, 1, none⟩ (.int .i64 t122)) = w58 at n0_ n1_ n2_ n3_ ⊢
                            have HO_7 := n0_
                            have BK109 := n1_
                            have BK124 := n2_
                            have HB := n3_
                            clear n0_ n1_ n2_ n3_
                            have n0_ := Aside0.mk (Kd.Q_drew HO_7.out)
                            have n1_ := Aside0.mk (blk_drew BK109.out)
                            have n2_ := Aside0.mk (blk_drew BK124.out)
                            have n3_ := Aside0.mk (below_drew1 HB.out)
                            clear HO_7
                            clear BK109
                            clear BK124
                            clear HB
                            have HO_7 := n0_
                            have BK109 := n1_
                            have BK124 := n2_
                            have HB := n3_
                            clear n0_ n1_ n2_ n3_
                            have q60 : (1 : Int) ≤ ((x7_1.length : Int) : Int) := of_decide_eq_true (by first | (with_reducible assumption) | assumption)
                            obtain ⟨i060, hi060, _, hsz60, _⟩ := info_parts info3
                            have hcut60 := cut_from (P := Try.prog) 28 3 .i64 Try.underlying28 hi060 1 hsz60 Ao57 x7_1.length co57 1 (by omega) q60
                            have hr60 := Kd.Q_drop (k := (1 : Int).toNat) HO_7.out (by omega)
                            obtain ⟨A60, hA60⟩ : ∃ A1, A1 = (if co57 = (1 : Int).toNat then Ao57 else (Ao57 : Option Addr).map (·.add ((1 : Int).toNat * 1))) := ⟨_, rfl⟩
                            obtain ⟨c60, hc60⟩ : ∃ c1, c1 = co57 - (1 : Int).toNat := ⟨_, rfl⟩
                            have hy60 : y125.length = x7_1.length - (1 : Int).toNat := (by rw [Ny125.out, List.length_drop])
                            rw [← Ny125.out] at hr60
                            rw [← hy60, ← hA60, ← hc60] at hcut60
                            replace hr60 : Kd.Q (Kd.int .i64) 3 w58.drew w.heap.size (fun _ => True) (.slice A60 y125.length c60) y125 := (by rw [hA60, hc60, hy60]; exact hr60)
                            have HE60 : Aside0 ((Value.slice A60 y125.length c60).ownBlock = (.slice Ao57 x7_1.length co57 : Value).ownBlock) := ⟨by rw [hA60]; split <;> (cases (Ao57 : Option Addr) <;> rfl)⟩
                            clear hy60 hi060 hsz60 HO_7 hA60 hc60
                            have HO127 := Aside0.mk hr60
                            clear hr60
                            replace q60 := eq_true q60
                            refine start_ (n := 5) (S := fun w' => w'.cell? ⟨gb124, 0, none⟩ = some (.int .i64 t121) ∧ w'.cell? ⟨gb124, 1, none⟩ = some (.int .i64 t122)) (ds := []) #[false, false, false, false, false] (by kernel_rfl) rfl rfl ⟨(blk_cell BK124.out 0).trans rfl, (blk_cell BK124.out 1).trans rfl⟩ (fun hHeld => ?_)
                            generalize w58.drew = w59 at BK109 BK124 HB HO127 hHeld ⊢
                            refine pure_ (i := 1) (N := some 68) (v := ?_) (a' := ?_) #[false, true, false, false, false] rfl rfl (by kernel_rfl) (fun _ _ _ h => h) (Or.inl ⟨by rfl, ?_⟩) ?_ ?_
                            rotate_left
                            · intro w'
                              go_simp
                              with_reducible rfl
                            rotate_left
                            · simp only [Act.put, List.setIfInBounds_toArray, List.set_cons_zero, List.set_cons_succ, i64_w, i32_w]
                              rfl
                            refine pure_ (i := 2) (N := some 69) (v := ?_) (a' := ?_) #[false, true, true, false, false] rfl rfl (by kernel_rfl) (fun _ _ _ h => h) (Or.inl ⟨by rfl, ?_⟩) ?_ ?_
                            rotate_left
                            · intro w'
                              go_simp
                              with_reducible rfl
                            rotate_left
                            · simp only [Act.put, List.setIfInBounds_toArray, List.set_cons_zero, List.set_cons_succ, i64_w, i32_w]
                              rfl
                            refine take_ (i := 0) (N := some 67) (v := ?_) (a' := ?_) #[true, true, true, false, false] rfl rfl (by kernel_rfl) (fun _ _ _ h => h) (Or.inl ⟨by rfl, ?_⟩) hHeld ?_ ?_
                            rotate_left
                            · rintro w' ⟨s0, s1⟩
                              go_simp
                              with_reducible rfl
                            rotate_left
                            · simp only [Act.put, List.setIfInBounds_toArray, List.set_cons_zero, List.set_cons_succ, i64_w, i32_w]
                              rfl
                            refine one_ (i := 3) (N := none) #[true, true, true, true, false] rfl rfl (by kernel_rfl) (by decide) (fun K hK => ?_)
                            have hs61 : w59.cell? ⟨gb109, 0, none⟩ = some (.int .i64 x110000_1) := (blk_cell BK109.out 0).trans rfl
                            have hfs61 := blk_frozen BK109.out 0
                            have hns61_1 := NB124_109.out
                            have hms61_1 := NB109_124.out
                            have hs62 : w59.cell? ⟨gb109, 1, none⟩ = some (.int .i64 x110001_1) := (blk_cell BK109.out 1).trans rfl
                            have hfs62 := blk_frozen BK109.out 1
                            have hns62_1 := NB124_109.out
                            have hms62_1 := NB109_124.out
                            refine skip_ (w1 := ?_) (by rfl) rfl ?_ ?_
                            rotate_left
                            · go_simp
                              rfl
                            refine hK.out _ _ ⟨((cell_far (p := ⟨gb109, _, none⟩) NB124_109.out _).trans (((cell_far (p := ⟨gb109, _, none⟩) NB124_109.out _).trans (hHeld.1)))), ((cell_far (p := ⟨gb109, _, none⟩) NB124_109.out _).trans (((cell_far (p := ⟨gb109, _, none⟩) NB124_109.out _).trans (hHeld.2))))⟩ (fun hHeld => ?_)
                            clear hK K
                            refine pure_ (i := 4) (N := some 7) (v := ?_) (a' := ?_) #[true, true, true, true, true] rfl rfl (by kernel_rfl) (fun _ _ _ h => h) (Or.inl ⟨by rfl, ?_⟩) ?_ ?_
                            rotate_left
                            · intro w'
                              go_simp
                              with_reducible rfl
                            rotate_left
                            · simp only [Act.put, List.setIfInBounds_toArray, List.set_cons_zero, List.set_cons_succ, i64_w, i32_w]
                              rfl
                            refine done_ (by kernel_rfl) ?_
                            try go_wp2
                            go_meet
                            case rel => exact ⟨_, (y125), (t121), (t122), H', ⟨by have := HK1.out; first | omega | exact Nat.le_refl _⟩, ⟨by (with_reducible repeat (first | apply Kd.Q_alloc | apply Kd.Q_drewN | apply Kd.Q_drew)); exact Kd.Q_mono (Kd.Q_far (p := ⟨gb109, 1, none⟩) (Kd.Q_far (p := ⟨gb109, 0, none⟩) (Kd.Q_types HO127.out BK109.out (by decide)) (fun _ hk => hk.2) (.int .i64 t121)) (fun _ hk => hk.2) (.int .i64 t122)) (fun _ hk => trivial)⟩, ⟨by (with_reducible repeat (first | refine blk_drewN ?_ _ | refine blk_drew ?_ | refine blk_alloc ?_ _)); refine blk_put (cs := #[.int .i64 t121, .int .i64 x110001_1]) ?_ 1 _ rfl; (with_reducible repeat (first | refine blk_drewN ?_ _ | refine blk_drew ?_ | refine blk_alloc ?_ _)); refine blk_put (cs := #[.int .i64 x110000_1, .int .i64 x110001_1]) ?_ 0 _ rfl; (with_reducible repeat (first | refine blk_drewN ?_ _ | refine blk_drew ?_ | refine blk_alloc ?_ _)); exact BK109.out⟩, ⟨by repeat (first | (with_reducible first | exact HB.out | apply below_alloc | apply pw_below_drewN | apply below_drew1 | refine below_set ?_ GE109.out | refine below_set ?_ GE124.out) | exact HB.out)⟩⟩
                          · rw [if_neg c51] at H
                            exact absurd H (by simp)
                        · rw [if_neg c50] at H
                          have c50b0 : (t123 == 0) = false := beq_eq_false_iff_ne.mpr c50
                          have c50b1 : (t123 != 0) = true := bne_iff_ne.mpr c50
                          obtain rfl := Option.some.inj H
                          have hcz63_0 : wr.cell? ⟨gb109, 0, none⟩ = some (.int .i64 x110000_1) := (blk_cell BK109.out 0).trans rfl
                          have hcz63_1 : wr.cell? ⟨gb109, 1, none⟩ = some (.int .i64 x110001_1) := (blk_cell BK109.out 1).trans rfl
                          have hfz63_0 := blk_frozen BK109.out 0
                          have hfz63_1 := blk_frozen BK109.out 1
                          go_wp2_with (first | ((with_reducible refine gate_callee (f := 8) rfl ?_); refine goesL_ (some 57) rfl rfl Try.func8 (by kernel_rfl) rfl #[.agg #[.int .i64 x110000_1, .int .i64 x110001_1]] rfl (by (try simp only [List.map_toArray, List.map_cons, List.map_nil]); first | done | rfl | (simp only [List.length_drop, List.length_take]; rfl)) ?_; (with_reducible refine (spin_Done.calls x110000_1 x110001_1 t121 t122 t123 _ A35.out).mono ?_); rintro e w64 ⟨rfl, hb⟩; refine ⟨_, rfl, ?_⟩; have n0_ := Aside0.mk (Kd.Q_below (by (with_reducible repeat (first | apply Kd.Q_alloc | apply Kd.Q_drewN | apply Kd.Q_drew)); exact HO_7.out) hb); have n1_ := Aside0.mk (blk_below (g := gb109) (o := .cells #[.int .i64 x110000_1, .int .i64 x110001_1] 27 (0, 0)) (by (with_reducible repeat (first | refine blk_drewN ?_ _ | refine blk_drew ?_ | refine blk_alloc ?_ _)); exact BK109.out) hb); have n2_ := Aside0.mk (below_step (by repeat (first | (with_reducible first | exact HB.out | apply below_alloc | apply pw_below_drewN | apply below_drew1 | refine below_set ?_ GE109.out) | exact HB.out)) hb); clear HO_7; clear BK109; clear HB; have HO_7 := n0_; have BK109 := n1_; have HB := n2_; clear n0_ n1_ n2_; (try clear hb); (try clear hb2); (try clear hk); (try clear hi)) | ((with_reducible refine gate_dst (N := 13) rfl ?_); (try (refine gate_guard (by rfl) ?_; dsimp only)); refine box_event ?hg (N := 13) ?hd (cs := #[.int .i64 0, .int .i64 0]) (t := 27) ?hr ?_; (case hd => rfl); (case hg => rfl); (case hr => first | (go_simp; done) | (go_simp; rfl)); intro gb124 hg w65 hbox hb; have n0_ := Aside0.mk (Kd.Q_below (by (with_reducible repeat (first | apply Kd.Q_alloc | apply Kd.Q_drewN | apply Kd.Q_drew)); exact HO_7.out) hb); have n1_ := Aside0.mk (blk_below (g := gb109) (o := .cells #[.int .i64 x110000_1, .int .i64 x110001_1] 27 (0, 0)) (by (with_reducible repeat (first | refine blk_drewN ?_ _ | refine blk_drew ?_ | refine blk_alloc ?_ _)); exact BK109.out) hb); have n2_ := Aside0.mk (below_step (by repeat (first | (with_reducible first | exact HB.out | apply below_alloc | apply pw_below_drewN | apply below_drew1 | refine below_set ?_ GE109.out) | exact HB.out)) hb); have n3_ := Aside0.mk (hbox); have n4_ := Aside0.mk ((by rw [hg]; exact (below_size (by repeat (first | (with_reducible first | exact HB.out | apply below_alloc | apply pw_below_drewN | apply below_drew1 | refine below_set ?_ GE109.out) | exact HB.out))) : w.heap.size ≤ gb124)); have n5_ := Aside0.mk ((by rw [hg]; exact (below_size (by repeat (first | (with_reducible first | exact HB.out | apply below_alloc | apply pw_below_drewN | apply below_drew1 | refine below_set ?_ GE109.out) | exact HB.out))) : w.heap.size ≤ gb124)); have n6_ := Aside0.mk ((by rw [hg]; exact Nat.ne_of_lt (blk_lt (g := gb109) (o := .cells #[.int .i64 x110000_1, .int .i64 x110001_1] 27 (0, 0)) (by (with_reducible repeat (first | refine blk_drewN ?_ _ | refine blk_drew ?_ | refine blk_alloc ?_ _)); exact BK109.out)) : gb109 ≠ gb124)); have n7_ := Aside0.mk ((by rw [hg]; exact Nat.ne_of_gt (blk_lt (g := gb109) (o := .cells #[.int .i64 x110000_1, .int .i64 x110001_1] 27 (0, 0)) (by (with_reducible repeat (first | refine blk_drewN ?_ _ | refine blk_drew ?_ | refine blk_alloc ?_ _)); exact BK109.out)) : gb124 ≠ gb109)); clear HO_7; clear BK109; clear HB; have HO_7 := n0_; have BK109 := n1_; have HB := n2_; have BK124 := n3_; have GW124 := n4_; have GE124 := n5_; have NB109_124 := n6_; have NB124_109 := n7_; clear n0_ n1_ n2_ n3_ n4_ n5_ n6_ n7_; clear hb hbox hg; have hnb66 := NB124_109.out; have hnc66 := NB109_124.out; have hcz67_0 : w65.cell? ⟨gb124, 0, none⟩ = some (.int .i64 0) := (blk_cell BK124.out 0).trans rfl; have hcz67_1 : w65.cell? ⟨gb124, 1, none⟩ = some (.int .i64 0) := (blk_cell BK124.out 1).trans rfl; have hfz67_0 := blk_frozen BK124.out 0; have hfz67_1 := blk_frozen BK124.out 1; obtain ⟨Ao68, co68, eo68, _⟩ := Kd.Q_slice HO_7.out; subst eo68))
                          go_ret
                          exact ⟨by first | rfl | (simp [errW_none, errW_some] <;> rfl) | (simp only [← hji5]; first | rfl | (simp [errW_none, errW_some] <;> rfl)) | (simp [*, errW_none, errW_some] <;> rfl), by repeat (first | (with_reducible first | exact HB.out | apply below_alloc | apply pw_below_drewN | apply below_drew1 | refine below_set ?_ GE109.out | refine below_set ?_ GE124.out) | exact HB.out)⟩
                  case rest =>
                    clear HC14
                    try clear c1
                    try clear p1
                    try clear q1
                    try clear hx1
                    try clear c2
                    try clear p2
                    try clear c3
                    try clear c4
                    try clear c4b0
                    try clear c4b1
                    try clear c5
                    try clear c6
                    try clear c6b0
                    try clear c6b1
                    try clear p6
                    try clear q6
                    try clear c7
                    try clear c7b0
                    try clear c7b1
                    try clear c8
                    try clear c11
                    try clear c11b0
                    try clear p11
                    try clear q11
                    try clear hx11
                    try clear c12
                    try clear c12b0
                    try clear c13
                    try clear c13b0
                    try clear q15
                    try clear c16
                    try clear c18
                    try clear c18b0
                    try clear c18b1
                    try clear c19
                    try clear c23
                    try clear c33
                    try clear c36
                    try clear c36b0
                    try clear c36b1
                    try clear c36b2
                    try clear c37
                    try clear c37b0
                    try clear c37b1
                    try clear c41
                    try clear c47
                    try clear c50
                    try clear c50b0
                    try clear c50b1
                    try clear c51
                    try clear c51b0
                    try clear c51b1
                    try clear c55
                    try clear c60
                    try clear q60
                    try clear p64
                    try clear c66
                    try clear hcz20_0
                    try clear hcz20_1
                    try clear hcz24_0
                    try clear hcz24_1
                    try clear hcz30_0
                    try clear hcz30_1
                    try clear hcz34_0
                    try clear hcz34_1
                    try clear hcz38_0
                    try clear hcz38_1
                    try clear hcz42_0
                    try clear hcz42_1
                    try clear hcz44_0
                    try clear hcz44_1
                    try clear hcz48_0
                    try clear hcz48_1
                    try clear hcz52_0
                    try clear hcz52_1
                    try clear hcz56_0
                    try clear hcz56_1
                    try clear hcz63_0
                    try clear hcz63_1
                    try clear hcz67_0
                    try clear hcz67_1
                    try clear hcz9_0
                    try clear hcz9_1
                    try clear hfz20_0
                    try clear hfz20_1
                    try clear hfz24_0
                    try clear hfz24_1
                    try clear hfz30_0
                    try clear hfz30_1
                    try clear hfz34_0
                    try clear hfz34_1
                    try clear hfz38_0
                    try clear hfz38_1
                    try clear hfz42_0
                    try clear hfz42_1
                    try clear hfz44_0
                    try clear hfz44_1
                    try clear hfz48_0
                    try clear hfz48_1
                    try clear hfz52_0
                    try clear hfz52_1
                    try clear hfz56_0
                    try clear hfz56_1
                    try clear hfz63_0
                    try clear hfz63_1
                    try clear hfz67_0
                    try clear hfz67_1
                    try clear hfz9_0
                    try clear hfz9_1
                    try clear hx112_0
                    try clear p112
                    try clear p2
                    try clear q112
                    try clear q60
                    obtain ⟨kq, x7_13, x110000_13, x110001_13, HA, HJ13, HO_7, BK109, HB⟩ := hcut
                    cases kq with
                    | zero => exact absurd HA.out (by simp [deadboltlaw06_SpinTurns.j1])
                    | succ kj13 =>
                      have H := HA.out
                      clear HA
                      simp only [deadboltlaw06_SpinTurns.j1] at H
                      replace H := Option.bind_eq_some_iff.mp H
                      obtain ⟨⟨t128, t129⟩, A690, H⟩ := H
                      replace H : (if t129 = 0 then (deadboltlaw06_SpinTurns.j2 kj13 x7_13 (l1.take ((ji5) : Int).toNat) ((l1.take ((ji5) : Int).toNat).length : Int) x37_1 (t128 != (x7_13.length : Int)) x110000_13 x110001_13) else (deadboltlaw06_SpinTurns.j2 kj13 x7_13 (l1.take ((ji5) : Int).toNat) ((l1.take ((ji5) : Int).toNat).length : Int) x37_1 true x110000_13 x110001_13)) = some r := H
                      have A69 := Aside0.mk A690
                      clear A690
                      have HC70 := Aside0.mk H
                      clear H
                      have hcz71_0 : wc.cell? ⟨gb109, 0, none⟩ = some (.int .i64 x110000_13) := (blk_cell BK109.out 0).trans rfl
                      have hcz71_1 : wc.cell? ⟨gb109, 1, none⟩ = some (.int .i64 x110001_13) := (blk_cell BK109.out 1).trans rfl
                      have hfz71_0 := blk_frozen BK109.out 0
                      have hfz71_1 := blk_frozen BK109.out 1
                      go_upto_region 22 with (first | ((with_reducible refine gate_callee (f := 9) rfl ?_); refine goesL_ (some 72) rfl rfl Try.func9 (by kernel_rfl) rfl #[.agg #[.int .i64 x110000_13, .int .i64 x110001_13]] rfl (by (try simp only [List.map_toArray, List.map_cons, List.map_nil]); first | done | rfl | (simp only [List.length_drop, List.length_take]; rfl)) ?_; (with_reducible refine (spin_Out.calls x110000_13 x110001_13 t128 t129 _ A69.out).mono ?_); rintro e w72 ⟨rfl, hb⟩; refine ⟨_, rfl, ?_⟩; have n0_ := Aside0.mk (Kd.Q_below (by (with_reducible repeat (first | apply Kd.Q_alloc | apply Kd.Q_drewN | apply Kd.Q_drew)); exact HO_7.out) hb); have n1_ := Aside0.mk (blk_below (g := gb109) (o := .cells #[.int .i64 x110000_13, .int .i64 x110001_13] 27 (0, 0)) (by (with_reducible repeat (first | refine blk_drewN ?_ _ | refine blk_drew ?_ | refine blk_alloc ?_ _)); exact BK109.out) hb); have n2_ := Aside0.mk (below_step (by repeat (first | (with_reducible first | exact HB.out | apply below_alloc | apply pw_below_drewN | apply below_drew1 | refine below_set ?_ GE109.out) | exact HB.out)) hb); clear HO_7; clear BK109; clear HB; have HO_7 := n0_; have BK109 := n1_; have HB := n2_; clear n0_ n1_ n2_; (try clear hb); (try clear hb2); (try clear hk); (try clear hi)))
                      (try simp only [Act.put, List.setIfInBounds_toArray, List.set_cons_zero, List.set_cons_succ])
                      go_cut [82] (fun v82 wc => ∃ (kq : Nat) (x82_69 : Bool), v82 = .bool x82_69 ∧ Aside0 (deadboltlaw06_SpinTurns.j2 kq x7_13 (l1.take ((ji5) : Int).toNat) ((l1.take ((ji5) : Int).toNat).length : Int) x37_1 x82_69 x110000_13 x110001_13 = some r) ∧ Aside0 (kq ≤ kj13) ∧ Aside0 (Kd.Q (Kd.int .i64) 3 wc w.heap.size (fun _ => True) u7 x7_13) ∧ Aside0 (wc.heap[gb109]? = some (.cells #[.int .i64 x110000_13, .int .i64 x110001_13] 27 (0, 0))) ∧ Aside0 (Below w.heap.size w wc))
                      case first =>
                        have H := HC70.out
                        clear HC70
                        by_cases c73 : t129 = 0
                        · rw [if_pos c73] at H
                          have c73b0 : (t129 == 0) = true := beq_iff_eq.mpr c73
                          have c73b1 : (t129 != 0) = false := bne_eq_false_iff_eq.mpr c73
                          clear c73
                          (first | rw [c73b0] | (simp only [i64_w, i32_w]; rw [c73b0]) | skip)
                          have H' := Aside0.mk H
                          clear H
                          obtain ⟨Ao74, co74, eo74, _⟩ := Kd.Q_slice HO_7.out
                          subst eo74
                          go_wp2
                          go_meet
                          case rel => exact ⟨_, ((t128 != (x7_13.length : Int))), (by first | rfl | (simp; done) | (simp [*]; done)), H', ⟨by have := HK1.out; have := HJ13.out; first | omega | exact Nat.le_refl _⟩, ⟨by (with_reducible repeat (first | apply Kd.Q_alloc | apply Kd.Q_drewN | apply Kd.Q_drew)); exact HO_7.out⟩, ⟨by (with_reducible repeat (first | refine blk_drewN ?_ _ | refine blk_drew ?_ | refine blk_alloc ?_ _)); exact BK109.out⟩, ⟨by repeat (first | (with_reducible first | exact HB.out | apply below_alloc | apply pw_below_drewN | apply below_drew1 | refine below_set ?_ GE109.out) | exact HB.out)⟩⟩
                        · rw [if_neg c73] at H
                          have c73b0 : (t129 == 0) = false := beq_eq_false_iff_ne.mpr c73
                          have c73b1 : (t129 != 0) = true := bne_iff_ne.mpr c73
                          (first | rw [c73b0] | (simp only [i64_w, i32_w]; rw [c73b0]) | skip)
                          have H' := Aside0.mk H
                          clear H
                          go_wp2
                          go_meet
                          case rel => exact ⟨_, (true), (by first | rfl | (simp; done) | (simp [*]; done)), H', ⟨by have := HK1.out; have := HJ13.out; first | omega | exact Nat.le_refl _⟩, ⟨by (with_reducible repeat (first | apply Kd.Q_alloc | apply Kd.Q_drewN | apply Kd.Q_drew)); exact HO_7.out⟩, ⟨by (with_reducible repeat (first | refine blk_drewN ?_ _ | refine blk_drew ?_ | refine blk_alloc ?_ _)); exact BK109.out⟩, ⟨by repeat (first | (with_reducible first | exact HB.out | apply below_alloc | apply pw_below_drewN | apply below_drew1 | refine below_set ?_ GE109.out) | exact HB.out)⟩⟩
                      case rest =>
                        clear HC70
                        try clear c1
                        try clear p1
                        try clear q1
                        try clear hx1
                        try clear c2
                        try clear p2
                        try clear c3
                        try clear c4
                        try clear c4b0
                        try clear c4b1
                        try clear c5
                        try clear c6
                        try clear c6b0
                        try clear c6b1
                        try clear p6
                        try clear q6
                        try clear c7
                        try clear c7b0
                        try clear c7b1
                        try clear c8
                        try clear c9
                        try clear c11
                        try clear c11b0
                        try clear p11
                        try clear q11
                        try clear hx11
                        try clear c12
                        try clear c12b0
                        try clear c13
                        try clear c13b0
                        try clear q15
                        try clear c16
                        try clear c18
                        try clear c18b0
                        try clear c18b1
                        try clear c19
                        try clear c23
                        try clear c33
                        try clear c36
                        try clear c36b0
                        try clear c36b1
                        try clear c36b2
                        try clear c37
                        try clear c37b0
                        try clear c37b1
                        try clear c41
                        try clear c47
                        try clear c50
                        try clear c50b0
                        try clear c50b1
                        try clear c51
                        try clear c51b0
                        try clear c51b1
                        try clear c55
                        try clear c60
                        try clear q60
                        try clear p64
                        try clear c66
                        try clear c73
                        try clear c73b0
                        try clear c73b1
                        try clear hcz20_0
                        try clear hcz20_1
                        try clear hcz24_0
                        try clear hcz24_1
                        try clear hcz30_0
                        try clear hcz30_1
                        try clear hcz34_0
                        try clear hcz34_1
                        try clear hcz38_0
                        try clear hcz38_1
                        try clear hcz42_0
                        try clear hcz42_1
                        try clear hcz44_0
                        try clear hcz44_1
                        try clear hcz48_0
                        try clear hcz48_1
                        try clear hcz52_0
                        try clear hcz52_1
                        try clear hcz56_0
                        try clear hcz56_1
                        try clear hcz63_0
                        try clear hcz63_1
                        try clear hcz67_0
                        try clear hcz67_1
                        try clear hcz71_0
                        try clear hcz71_1
                        try clear hcz9_0
                        try clear hcz9_1
                        try clear hfz20_0
                        try clear hfz20_1
                        try clear hfz24_0
                        try clear hfz24_1
                        try clear hfz30_0
                        try clear hfz30_1
                        try clear hfz34_0
                        try clear hfz34_1
                        try clear hfz38_0
                        try clear hfz38_1
                        try clear hfz42_0
                        try clear hfz42_1
                        try clear hfz44_0
                        try clear hfz44_1
                        try clear hfz48_0
                        try clear hfz48_1
                        try clear hfz52_0
                        try clear hfz52_1
                        try clear hfz56_0
                        try clear hfz56_1
                        try clear hfz63_0
                        try clear hfz63_1
                        try clear hfz67_0
                        try clear hfz67_1
                        try clear hfz71_0
                        try clear hfz71_1
                        try clear hfz9_0
                        try clear hfz9_1
                        try clear hx112_0
                        try clear p1
                        try clear p11
                        try clear p112
                        try clear p2
                        try clear p6
                        try clear p64
                        try clear q1
                        try clear q11
                        try clear q112
                        try clear q15
                        try clear q6
                        try clear q60
                        obtain ⟨kq, x82_69, rfl, HA, HJ69, HO_7, BK109, HB⟩ := hcut
                        cases kq with
                        | zero => exact absurd HA.out (by simp [deadboltlaw06_SpinTurns.j2])
                        | succ kj69 =>
                          have H := HA.out
                          clear HA
                          simp only [deadboltlaw06_SpinTurns.j2] at H
                          by_cases c75 : x82_69 = true
                          · subst c75
                            have H1 : (some false) = some r := by rw [if_pos rfl] at H; exact H
                            clear H
                            have H := H1
                            clear H1
                            obtain rfl := Option.some.inj H
                            go_wp2
                            go_ret
                            exact ⟨by first | rfl | (simp [errW_none, errW_some] <;> rfl) | (simp only [← hji5]; first | rfl | (simp [errW_none, errW_some] <;> rfl)) | (simp [*, errW_none, errW_some] <;> rfl), by repeat (first | (with_reducible first | exact HB.out | apply below_alloc | apply pw_below_drewN | apply below_drew1 | refine below_set ?_ GE109.out) | exact HB.out)⟩
                          · replace c75 := Bool.eq_false_iff.mpr c75
                            subst c75
                            have H1 : (deadboltlaw06_SpinTurns.l1 kj69 x7_13 (l1.take ((ji5) : Int).toNat) ((l1.take ((ji5) : Int).toNat).length : Int) x37_1 x7_13 (x7_13.length : Int) 0 x110000_13 x110001_13) = some r := by rw [if_neg (show ¬ (false = true) by decide)] at H; exact H
                            clear H
                            have H := H1
                            clear H1
                            have H' := Aside0.mk H
                            clear H
                            obtain ⟨Ao76, co76, eo76, _⟩ := Kd.Q_slice HO_7.out
                            subst eo76
                            go_wp2
                            go_loopg [85] kj69 (fun kq v85 w' => ∃ (x85_4 : Int), v85 = .int .i64 x85_4 ∧ Aside0 (deadboltlaw06_SpinTurns.l1 kq x7_13 (l1.take ((ji5) : Int).toNat) ((l1.take ((ji5) : Int).toNat).length : Int) x37_1 x7_13 (x7_13.length : Int) x85_4 x110000_13 x110001_13 = some r) ∧ Aside0 (kq ≤ kj69) ∧ Aside0 (Kd.Q (Kd.int .i64) 3 w' w.heap.size (fun _ => True) (.slice Ao76 x7_13.length co76) x7_13) ∧ Aside0 (Kd.Q (Kd.int .i64) 3 w' w.heap.size (fun _ => True) (.slice Ao76 x7_13.length co76) x7_13) ∧ Aside0 (w'.heap[gb109]? = some (.cells #[.int .i64 x110000_13, .int .i64 x110001_13] 27 (0, 0))) ∧ Aside0 (Below w.heap.size w w'))
                            case atStart => exact ⟨(0), (by first | rfl | (simp; done) | (simp [*]; done)), H', ⟨Nat.le_refl _⟩, ⟨by (with_reducible repeat (first | apply Kd.Q_alloc | apply Kd.Q_drewN | apply Kd.Q_drew)); exact HO_7.out⟩, ⟨by (with_reducible repeat (first | apply Kd.Q_alloc | apply Kd.Q_drewN | apply Kd.Q_drew)); exact HO_7.out⟩, ⟨by (with_reducible repeat (first | refine blk_drewN ?_ _ | refine blk_drew ?_ | refine blk_alloc ?_ _)); exact BK109.out⟩, ⟨by repeat (first | (with_reducible first | exact HB.out | apply below_alloc | apply pw_below_drewN | apply below_drew1 | refine below_set ?_ GE109.out) | exact HB.out)⟩⟩
                            case round =>
                              clear H'
                              try clear c1
                              try clear p1
                              try clear q1
                              try clear hx1
                              try clear c2
                              try clear p2
                              try clear c3
                              try clear c4
                              try clear c4b0
                              try clear c4b1
                              try clear c5
                              try clear c6
                              try clear c6b0
                              try clear c6b1
                              try clear p6
                              try clear q6
                              try clear c7
                              try clear c7b0
                              try clear c7b1
                              try clear c8
                              try clear c9
                              try clear c11
                              try clear c11b0
                              try clear p11
                              try clear q11
                              try clear hx11
                              try clear c12
                              try clear c12b0
                              try clear c13
                              try clear c13b0
                              try clear q15
                              try clear c16
                              try clear c18
                              try clear c18b0
                              try clear c18b1
                              try clear c19
                              try clear c23
                              try clear c33
                              try clear c36
                              try clear c36b0
                              try clear c36b1
                              try clear c36b2
                              try clear c37
                              try clear c37b0
                              try clear c37b1
                              try clear c41
                              try clear c47
                              try clear c50
                              try clear c50b0
                              try clear c50b1
                              try clear c51
                              try clear c51b0
                              try clear c51b1
                              try clear c55
                              try clear c60
                              try clear q60
                              try clear p64
                              try clear c66
                              try clear c73
                              try clear c73b0
                              try clear c73b1
                              try clear c75
                              try clear hcz20_0
                              try clear hcz20_1
                              try clear hcz24_0
                              try clear hcz24_1
                              try clear hcz30_0
                              try clear hcz30_1
                              try clear hcz34_0
                              try clear hcz34_1
                              try clear hcz38_0
                              try clear hcz38_1
                              try clear hcz42_0
                              try clear hcz42_1
                              try clear hcz44_0
                              try clear hcz44_1
                              try clear hcz48_0
                              try clear hcz48_1
                              try clear hcz52_0
                              try clear hcz52_1
                              try clear hcz56_0
                              try clear hcz56_1
                              try clear hcz63_0
                              try clear hcz63_1
                              try clear hcz67_0
                              try clear hcz67_1
                              try clear hcz71_0
                              try clear hcz71_1
                              try clear hcz9_0
                              try clear hcz9_1
                              try clear hfz20_0
                              try clear hfz20_1
                              try clear hfz24_0
                              try clear hfz24_1
                              try clear hfz30_0
                              try clear hfz30_1
                              try clear hfz34_0
                              try clear hfz34_1
                              try clear hfz38_0
                              try clear hfz38_1
                              try clear hfz42_0
                              try clear hfz42_1
                              try clear hfz44_0
                              try clear hfz44_1
                              try clear hfz48_0
                              try clear hfz48_1
                              try clear hfz52_0
                              try clear hfz52_1
                              try clear hfz56_0
                              try clear hfz56_1
                              try clear hfz63_0
                              try clear hfz63_1
                              try clear hfz67_0
                              try clear hfz67_1
                              try clear hfz71_0
                              try clear hfz71_1
                              try clear hfz9_0
                              try clear hfz9_1
                              try clear hx112_0
                              try clear p1
                              try clear p11
                              try clear p112
                              try clear p2
                              try clear p6
                              try clear p64
                              try clear q1
                              try clear q11
                              try clear q112
                              try clear q15
                              try clear q6
                              try clear q60
                              obtain ⟨x85_4, rfl, HA, HK4, HO_7, HO_83, BK109, HB⟩ := hrel
                              cases gk with
                              | zero => exact absurd HA.out (by simp [deadboltlaw06_SpinTurns.l1])
                              | succ k4 =>
                                have H := HA.out
                                clear HA
                                simp only [deadboltlaw06_SpinTurns.l1] at H
                                by_cases c77 : x85_4 < (x7_13.length : Int)
                                · rw [if_pos c77] at H
                                  have c77b0 : decide (x85_4 < (x7_13.length : Int)) = true := decide_eq_true c77
                                  clear c77
                                  by_cases c78 : 0 ≤ x85_4
                                  · rw [if_pos c78] at H
                                    have c78b0 : decide (0 ≤ x85_4) = true := decide_eq_true c78
                                    clear c78
                                    by_cases c79 : x85_4 < (x7_13.length : Int)
                                    · rw [if_pos c79] at H
                                      have c79b0 : decide (x85_4 < (x7_13.length : Int)) = true := decide_eq_true c79
                                      clear c79
                                      replace H := Option.bind_eq_some_iff.mp H
                                      obtain ⟨⟨t131, t132⟩, A800, H⟩ := H
                                      replace H : (if t132 = 0 then (if (t131 != (x85_4 == 0)) = true then (some false) else (deadboltlaw06_SpinTurns.l1 k4 x7_13 (l1.take ((ji5) : Int).toNat) ((l1.take ((ji5) : Int).toNat).length : Int) x37_1 x7_13 (x7_13.length : Int) (wrap64 (x85_4 + 1)) x110000_13 x110001_13)) else (some false)) = some r := H
                                      have A80 := Aside0.mk A800
                                      clear A800
                                      by_cases c81 : t132 = 0
                                      · rw [if_pos c81] at H
                                        have c81b0 : (t132 == 0) = true := beq_iff_eq.mpr c81
                                        have c81b1 : (t132 != 0) = false := bne_eq_false_iff_eq.mpr c81
                                        clear c81
                                        by_cases c82 : (t131 != (x85_4 == 0)) = true
                                        · rw [if_pos c82] at H
                                          have c82b0 : (t131 != (x85_4 == 0)) = true := c82
                                          (try (have c82b1 : decide (t131 = (x85_4 == 0)) = false := by simpa using c82))
                                          (try (have c82b2 : (t131 == (x85_4 == 0)) = false := by simpa using c82))
                                          (try (have c82b3 : ¬ (t131 = (x85_4 == 0)) := by simpa using c82))
                                          clear c82
                                          obtain rfl := Option.some.inj H
                                          have p130 : 0 ≤ (x85_4 : Int) := of_decide_eq_true (by first | (with_reducible assumption) | assumption)
                                          have q130 : x85_4 < (x7_13.length : Int) := of_decide_eq_true (by first | (with_reducible assumption) | assumption)
                                          obtain ⟨ad130, e130, hx130_0⟩ := Kd.at_int (Kd.Q_reads' HO_83.out).2.2 x85_4 p130 q130
                                          cases e130
                                          replace p130 := eq_true p130
                                          replace q130 := eq_true q130
                                          have hcz83_0 : wr.cell? ⟨gb109, 0, none⟩ = some (.int .i64 x110000_13) := (blk_cell BK109.out 0).trans rfl
                                          have hcz83_1 : wr.cell? ⟨gb109, 1, none⟩ = some (.int .i64 x110001_13) := (blk_cell BK109.out 1).trans rfl
                                          have hfz83_0 := blk_frozen BK109.out 0
                                          have hfz83_1 := blk_frozen BK109.out 1
                                          go_wp2_with (first | ((with_reducible refine gate_callee (f := 10) rfl ?_); refine goesL_ (some 93) rfl rfl Try.func10 (by kernel_rfl) rfl #[.agg #[.int .i64 x110000_13, .int .i64 x110001_13], .int .i64 (rd x7_13 x85_4)] rfl (by (try simp only [List.map_toArray, List.map_cons, List.map_nil]); first | done | rfl | (simp only [List.length_drop, List.length_take]; rfl)) ?_; (with_reducible refine (spin_Turn.calls x110000_13 x110001_13 (rd x7_13 x85_4) t131 t132 _ A80.out).mono ?_); rintro e w84 ⟨rfl, hb⟩; refine ⟨_, rfl, ?_⟩; have n0_ := Aside0.mk (Kd.Q_below (by (with_reducible repeat (first | apply Kd.Q_alloc | apply Kd.Q_drewN | apply Kd.Q_drew)); exact HO_7.out) hb); have n1_ := Aside0.mk (Kd.Q_below (by (with_reducible repeat (first | apply Kd.Q_alloc | apply Kd.Q_drewN | apply Kd.Q_drew)); exact HO_83.out) hb); have n2_ := Aside0.mk (blk_below (g := gb109) (o := .cells #[.int .i64 x110000_13, .int .i64 x110001_13] 27 (0, 0)) (by (with_reducible repeat (first | refine blk_drewN ?_ _ | refine blk_drew ?_ | refine blk_alloc ?_ _)); exact BK109.out) hb); have n3_ := Aside0.mk (below_step (by repeat (first | (with_reducible first | exact HB.out | apply below_alloc | apply pw_below_drewN | apply below_drew1 | refine below_set ?_ GE109.out) | exact HB.out)) hb); clear HO_7; clear HO_83; clear BK109; clear HB; have HO_7 := n0_; have HO_83 := n1_; have BK109 := n2_; have HB := n3_; clear n0_ n1_ n2_ n3_; (try clear hb); (try clear hb2); (try clear hk); (try clear hi)))
                                          go_ret
                                          exact ⟨by first | rfl | (simp [errW_none, errW_some] <;> rfl) | (simp only [← hji5]; first | rfl | (simp [errW_none, errW_some] <;> rfl)) | (simp [*, errW_none, errW_some] <;> rfl), by repeat (first | (with_reducible first | exact HB.out | apply below_alloc | apply pw_below_drewN | apply below_drew1 | refine below_set ?_ GE109.out) | exact HB.out)⟩
                                        · rw [if_neg c82] at H
                                          have c82b0 : (t131 != (x85_4 == 0)) = false := by simpa using c82
                                          (try (have c82b1 : decide (t131 = (x85_4 == 0)) = true := by simpa using c82))
                                          (try (have c82b2 : (t131 == (x85_4 == 0)) = true := by simpa using c82))
                                          clear c82
                                          have H' := Aside0.mk H
                                          clear H
                                          have p130 : 0 ≤ (x85_4 : Int) := of_decide_eq_true (by first | (with_reducible assumption) | assumption)
                                          have q130 : x85_4 < (x7_13.length : Int) := of_decide_eq_true (by first | (with_reducible assumption) | assumption)
                                          obtain ⟨ad130, e130, hx130_0⟩ := Kd.at_int (Kd.Q_reads' HO_83.out).2.2 x85_4 p130 q130
                                          cases e130
                                          replace p130 := eq_true p130
                                          replace q130 := eq_true q130
                                          have hcz85_0 : wr.cell? ⟨gb109, 0, none⟩ = some (.int .i64 x110000_13) := (blk_cell BK109.out 0).trans rfl
                                          have hcz85_1 : wr.cell? ⟨gb109, 1, none⟩ = some (.int .i64 x110001_13) := (blk_cell BK109.out 1).trans rfl
                                          have hfz85_0 := blk_frozen BK109.out 0
                                          have hfz85_1 := blk_frozen BK109.out 1
                                          go_wp2_with (first | ((with_reducible refine gate_callee (f := 10) rfl ?_); refine goesL_ (some 93) rfl rfl Try.func10 (by kernel_rfl) rfl #[.agg #[.int .i64 x110000_13, .int .i64 x110001_13], .int .i64 (rd x7_13 x85_4)] rfl (by (try simp only [List.map_toArray, List.map_cons, List.map_nil]); first | done | rfl | (simp only [List.length_drop, List.length_take]; rfl)) ?_; (with_reducible refine (spin_Turn.calls x110000_13 x110001_13 (rd x7_13 x85_4) t131 t132 _ A80.out).mono ?_); rintro e w86 ⟨rfl, hb⟩; refine ⟨_, rfl, ?_⟩; have n0_ := Aside0.mk (Kd.Q_below (by (with_reducible repeat (first | apply Kd.Q_alloc | apply Kd.Q_drewN | apply Kd.Q_drew)); exact HO_7.out) hb); have n1_ := Aside0.mk (Kd.Q_below (by (with_reducible repeat (first | apply Kd.Q_alloc | apply Kd.Q_drewN | apply Kd.Q_drew)); exact HO_83.out) hb); have n2_ := Aside0.mk (blk_below (g := gb109) (o := .cells #[.int .i64 x110000_13, .int .i64 x110001_13] 27 (0, 0)) (by (with_reducible repeat (first | refine blk_drewN ?_ _ | refine blk_drew ?_ | refine blk_alloc ?_ _)); exact BK109.out) hb); have n3_ := Aside0.mk (below_step (by repeat (first | (with_reducible first | exact HB.out | apply below_alloc | apply pw_below_drewN | apply below_drew1 | refine below_set ?_ GE109.out) | exact HB.out)) hb); clear HO_7; clear HO_83; clear BK109; clear HB; have HO_7 := n0_; have HO_83 := n1_; have BK109 := n2_; have HB := n3_; clear n0_ n1_ n2_ n3_; (try clear hb); (try clear hb2); (try clear hk); (try clear hi)))
                                          go_roundg k4
                                          case measure => have := HK1.out; have := HJ13.out; have := HJ69.out; have := HK4.out; omega
                                          case rel => exact ⟨(wrap64 (x85_4 + 1)), (by first | rfl | (simp; done) | (simp [*]; done)), H', ⟨by have := HK1.out; have := HJ13.out; have := HJ69.out; have := HK4.out; omega⟩, ⟨by (with_reducible repeat (first | apply Kd.Q_alloc | apply Kd.Q_drewN | apply Kd.Q_drew)); exact HO_7.out⟩, ⟨by (with_reducible repeat (first | apply Kd.Q_alloc | apply Kd.Q_drewN | apply Kd.Q_drew)); exact HO_83.out⟩, ⟨by (with_reducible repeat (first | refine blk_drewN ?_ _ | refine blk_drew ?_ | refine blk_alloc ?_ _)); exact BK109.out⟩, ⟨by repeat (first | (with_reducible first | exact HB.out | apply below_alloc | apply pw_below_drewN | apply below_drew1 | refine below_set ?_ GE109.out) | exact HB.out)⟩⟩
                                      · rw [if_neg c81] at H
                                        have c81b0 : (t132 == 0) = false := beq_eq_false_iff_ne.mpr c81
                                        have c81b1 : (t132 != 0) = true := bne_iff_ne.mpr c81
                                        obtain rfl := Option.some.inj H
                                        have p130 : 0 ≤ (x85_4 : Int) := of_decide_eq_true (by first | (with_reducible assumption) | assumption)
                                        have q130 : x85_4 < (x7_13.length : Int) := of_decide_eq_true (by first | (with_reducible assumption) | assumption)
                                        obtain ⟨ad130, e130, hx130_0⟩ := Kd.at_int (Kd.Q_reads' HO_83.out).2.2 x85_4 p130 q130
                                        cases e130
                                        replace p130 := eq_true p130
                                        replace q130 := eq_true q130
                                        have hcz87_0 : wr.cell? ⟨gb109, 0, none⟩ = some (.int .i64 x110000_13) := (blk_cell BK109.out 0).trans rfl
                                        have hcz87_1 : wr.cell? ⟨gb109, 1, none⟩ = some (.int .i64 x110001_13) := (blk_cell BK109.out 1).trans rfl
                                        have hfz87_0 := blk_frozen BK109.out 0
                                        have hfz87_1 := blk_frozen BK109.out 1
                                        go_wp2_with (first | ((with_reducible refine gate_callee (f := 10) rfl ?_); refine goesL_ (some 93) rfl rfl Try.func10 (by kernel_rfl) rfl #[.agg #[.int .i64 x110000_13, .int .i64 x110001_13], .int .i64 (rd x7_13 x85_4)] rfl (by (try simp only [List.map_toArray, List.map_cons, List.map_nil]); first | done | rfl | (simp only [List.length_drop, List.length_take]; rfl)) ?_; (with_reducible refine (spin_Turn.calls x110000_13 x110001_13 (rd x7_13 x85_4) t131 t132 _ A80.out).mono ?_); rintro e w88 ⟨rfl, hb⟩; refine ⟨_, rfl, ?_⟩; have n0_ := Aside0.mk (Kd.Q_below (by (with_reducible repeat (first | apply Kd.Q_alloc | apply Kd.Q_drewN | apply Kd.Q_drew)); exact HO_7.out) hb); have n1_ := Aside0.mk (Kd.Q_below (by (with_reducible repeat (first | apply Kd.Q_alloc | apply Kd.Q_drewN | apply Kd.Q_drew)); exact HO_83.out) hb); have n2_ := Aside0.mk (blk_below (g := gb109) (o := .cells #[.int .i64 x110000_13, .int .i64 x110001_13] 27 (0, 0)) (by (with_reducible repeat (first | refine blk_drewN ?_ _ | refine blk_drew ?_ | refine blk_alloc ?_ _)); exact BK109.out) hb); have n3_ := Aside0.mk (below_step (by repeat (first | (with_reducible first | exact HB.out | apply below_alloc | apply pw_below_drewN | apply below_drew1 | refine below_set ?_ GE109.out) | exact HB.out)) hb); clear HO_7; clear HO_83; clear BK109; clear HB; have HO_7 := n0_; have HO_83 := n1_; have BK109 := n2_; have HB := n3_; clear n0_ n1_ n2_ n3_; (try clear hb); (try clear hb2); (try clear hk); (try clear hi)))
                                        go_ret
                                        exact ⟨by first | rfl | (simp [errW_none, errW_some] <;> rfl) | (simp only [← hji5]; first | rfl | (simp [errW_none, errW_some] <;> rfl)) | (simp [*, errW_none, errW_some] <;> rfl), by repeat (first | (with_reducible first | exact HB.out | apply below_alloc | apply pw_below_drewN | apply below_drew1 | refine below_set ?_ GE109.out) | exact HB.out)⟩
                                    · rw [if_neg c79] at H
                                      exact absurd H (by simp)
                                  · rw [if_neg c78] at H
                                    exact absurd H (by simp)
                                · rw [if_neg c77] at H
                                  have c77b0 : decide (x85_4 < (x7_13.length : Int)) = false := decide_eq_false c77
                                  clear c77
                                  have H' := Aside0.mk H
                                  clear H
                                  go_wp2
                                  go_roundg k4
                                  case measure => have := HK1.out; have := HJ13.out; have := HJ69.out; have := HK4.out; omega
                                  case rel => exact ⟨(x7_13), (wrap64 (x37_1 + 1)), (x110000_13), (x110001_13), (by first | rfl | (simp; done) | (simp [*]; done)), H', ⟨by have := HK1.out; have := HJ13.out; have := HJ69.out; have := HK4.out; omega⟩, ⟨by (with_reducible repeat (first | apply Kd.Q_alloc | apply Kd.Q_drewN | apply Kd.Q_drew)); exact HO_7.out⟩, ⟨by (with_reducible repeat (first | refine blk_drewN ?_ _ | refine blk_drew ?_ | refine blk_alloc ?_ _)); exact BK109.out⟩, ⟨by repeat (first | (with_reducible first | exact HB.out | apply below_alloc | apply pw_below_drewN | apply below_drew1 | refine below_set ?_ GE109.out) | exact HB.out)⟩⟩
                · rw [if_neg c13] at H
                  exact absurd H (by simp)
              · rw [if_neg c12] at H
                exact absurd H (by simp)
            · rw [if_neg c11] at H
              have c11b0 : decide (x37_1 < ((l1.take ((ji5) : Int).toNat).length : Int)) = false := decide_eq_false c11
              have c11w : ji5 ≤ x37_1 := by have hz_ := of_decide_eq_false c11b0; rw [List.length_take] at hz_; omega
              clear c11
              replace H := Option.bind_eq_some_iff.mp H
              obtain ⟨t111, A890, H⟩ := H
              replace H : (some t111) = some r := H
              have A89 := Aside0.mk A890
              clear A890
              obtain rfl := Option.some.inj H
              go_wp2_with (first | ((with_reducible refine gate_callee (f := 11) rfl ?_); refine goesL_ (some 106) rfl rfl Try.func11 (by kernel_rfl) rfl #[] rfl (by (try simp only [List.map_toArray, List.map_cons, List.map_nil]); first | done | rfl | (simp only [List.length_drop, List.length_take]; rfl)) ?_; (with_reducible refine (deadboltlaw06_alive.calls  t111 _ A89.out).mono ?_); rintro e w90 ⟨rfl, hb⟩; refine ⟨_, rfl, ?_⟩; have n0_ := Aside0.mk (Kd.Q_below (by (with_reducible repeat (first | apply Kd.Q_alloc | apply Kd.Q_drewN | apply Kd.Q_drew)); exact HO_7.out) hb); have n1_ := Aside0.mk (blk_below (g := gb109) (o := .cells #[.int .i64 x110000_1, .int .i64 x110001_1] 27 (0, 0)) (by (with_reducible repeat (first | refine blk_drewN ?_ _ | refine blk_drew ?_ | refine blk_alloc ?_ _)); exact BK109.out) hb); have n2_ := Aside0.mk (below_step (by repeat (first | (with_reducible first | exact HB.out | apply below_alloc | apply pw_below_drewN | apply below_drew1 | refine below_set ?_ GE109.out) | exact HB.out)) hb); clear HO_7; clear BK109; clear HB; have HO_7 := n0_; have BK109 := n1_; have HB := n2_; clear n0_ n1_ n2_; (try clear hb); (try clear hb2); (try clear hk); (try clear hi)))
              go_ret
              exact ⟨by first | rfl | (simp [errW_none, errW_some] <;> rfl) | (simp only [← hji5]; first | rfl | (simp [errW_none, errW_some] <;> rfl)) | (simp [*, errW_none, errW_some] <;> rfl), by repeat (first | (with_reducible first | exact HB.out | apply below_alloc | apply pw_below_drewN | apply below_drew1 | refine below_set ?_ GE109.out) | exact HB.out)⟩
      · rw [if_neg c7] at H
        exact absurd H (by simp)
    · rw [if_neg c6] at H
      exact absurd H (by simp)
  · rw [if_neg c4] at H
    have c4b0 : (t108 == 0) = false := beq_eq_false_iff_ne.mpr c4
    have c4b1 : (t108 != 0) = true := bne_iff_ne.mpr c4
    obtain rfl := Option.some.inj H
    go_enter Try.func3, Try.ntmps3
    go_wp2_with (first | ((with_reducible refine gate_callee (f := 6) rfl ?_); refine goesL_ (some 23) rfl rfl Try.func6 (by kernel_rfl) rfl #[.int .i64 1, .int .i64 a0] rfl (by (try simp only [List.map_toArray, List.map_cons, List.map_nil]); first | done | rfl | (simp only [List.length_drop, List.length_take]; rfl)) ?_; (with_reducible refine (word_Wrap.calls 1 a0 t107 t108 _ A3.out).mono ?_); rintro e w' ⟨rfl, ⟨nd, rfl⟩⟩; refine ⟨_, rfl, ?_⟩))
    go_ret
    exact ⟨by first | rfl | (simp [errW_none, errW_some] <;> rfl) | (simp [*, errW_none, errW_some] <;> rfl), by repeat (first | (with_reducible first | exact HB.out | apply below_alloc | apply pw_below_drewN | apply below_drew1) | exact HB.out)⟩

end Go.Proofs.Ytokobpgpdddndaa.PSpinTurns
