/- The functions that a law reaches, as Lean functions, and for each a proof that the call hands back just what its Lean function says; no conditions beyond each statement. Written by a program of this session (a changed copy of the print). -/
import Derived.Test.YtfebhemdpbnebaaDoorPProgPrintsx0
import Derived.Test.YtfebhemdpbnebaaDoorPProgPrintsx7
namespace Go.Proofs.YtfebhemdpbnebaaDoor.PProgPrints
open Go.Proofs.YtfebhemdpbnebaaDoor.Hand
open Go.RowKit Go.Proofs.YtfebhemdpbnebaaDoorW.PrintWords Go.Proofs.YtfebhemdpbnebaaDoorW.PrintLast Go.Proofs.YtfebhemdpbnebaaDoorW.PrintMore
attribute [local go_sem] max2_int min2_int max_two min_two max_three min_three max_four min_four   -- for this text's walks alone
set_option linter.unusedVariables false
set_option linter.unusedSimpArgs false

theorem weak_ {P : Program} {md : Region.Mode} {ops : Array Oper} {Q : Exit → Act → World → Prop} {S1 S2 : World → Prop} (hs : ∀ w, S1 w → S2 w) : ∀ (fuel : Nat) (l : Array Bool) (a : Act) (w : World), S1 w → wpAnyLast P md ops Q S1 [] fuel l a w → wpAnyLast P md ops Q S2 [] fuel l a w
  | 0, _, _, _, _, h => h
  | fuel + 1, l, a, w, h1, h => ⟨h.1, fun i hi => wpOp_mono (fun a' w' q => ⟨fun _ _ => hs _ (q.1 (by simp) h1), weak_ hs fuel _ a' w' (q.1 (by simp) h1) q.2⟩) (h.2 i hi)⟩
theorem wide_ {P : Program} {md : Region.Mode} {ops : Array Oper} {Q : Exit → Act → World → Prop} {S1 S2 : World → Prop} {fuel : Nat} {l : Array Bool} {a : Act} {w : World} (hs : ∀ w, S1 w → S2 w) (h1 : S1 w) (h : S1 w → wpAnyLast P md ops Q S1 [] fuel l a w) : wpAnyLast P md ops Q S2 [] fuel l a w :=
  weak_ hs fuel l a w h1 (h h1)

/-! ### deadboltref12_Print: function 18 -/
mutual
def deadboltref12_Print.l0 : Nat → ByteArray → List (List (S32)) → Int → Int → Option (ByteArray)
  | 0, _, _, _, _ => none
  | k + 1, x3, x8, x9, x10 => if x10 < x9 then (if 0 ≤ x10 then (if x10 < (x8.length : Int) then (deadboltref12_Print.l1 k x3 x8 x9 x10 (rd_L4 x8 x10) ((rd_L4 x8 x10).length : Int) 0) else (none)) else (none)) else (some x3)
def deadboltref12_Print.l1 : Nat → ByteArray → List (List (S32)) → Int → Int → List (S32) → Int → Int → Option (ByteArray)
  | 0, _, _, _, _, _, _, _ => none
  | k + 1, x3, x8, x9, x10, x14, x15, x16 => if x16 < x15 then (if 0 ≤ x16 then (if x16 < (x14.length : Int) then (if x16 > 0 then (if x3.size + 2 ≤ 9223372036854775807 then ((deadboltref12_words.f).bind fun t223 => (if 0 ≤ ((rd_T32 x14 x16).f0) then (if ((rd_T32 x14 x16).f0) < (t223.length : Int) then (if (x3 ++ (⟨#[59, 32]⟩ : ByteArray)).size + (rdOf ByteArray.empty t223 ((rd_T32 x14 x16).f0)).size ≤ 9223372036854775807 then (if ((x3 ++ (⟨#[59, 32]⟩ : ByteArray)) ++ (rdOf ByteArray.empty t223 ((rd_T32 x14 x16).f0))).size + 1 ≤ 9223372036854775807 then ((deadboltref12_digits.f k ((rd_T32 x14 x16).f1)).bind fun t227 => (if (((x3 ++ (⟨#[59, 32]⟩ : ByteArray)) ++ (rdOf ByteArray.empty t223 ((rd_T32 x14 x16).f0))) ++ (⟨#[32]⟩ : ByteArray)).size + t227.size ≤ 9223372036854775807 then (deadboltref12_Print.l1 k ((((x3 ++ (⟨#[59, 32]⟩ : ByteArray)) ++ (rdOf ByteArray.empty t223 ((rd_T32 x14 x16).f0))) ++ (⟨#[32]⟩ : ByteArray)) ++ t227) x8 x9 x10 x14 x15 (wrap64 (x16 + 1))) else (none))) else (none)) else (none)) else (none)) else (none))) else (none)) else ((deadboltref12_words.f).bind fun t228 => (if 0 ≤ ((rd_T32 x14 x16).f0) then (if ((rd_T32 x14 x16).f0) < (t228.length : Int) then (if x3.size + (rdOf ByteArray.empty t228 ((rd_T32 x14 x16).f0)).size ≤ 9223372036854775807 then (if (x3 ++ (rdOf ByteArray.empty t228 ((rd_T32 x14 x16).f0))).size + 1 ≤ 9223372036854775807 then ((deadboltref12_digits.f k ((rd_T32 x14 x16).f1)).bind fun t232 => (if ((x3 ++ (rdOf ByteArray.empty t228 ((rd_T32 x14 x16).f0))) ++ (⟨#[32]⟩ : ByteArray)).size + t232.size ≤ 9223372036854775807 then (deadboltref12_Print.l1 k (((x3 ++ (rdOf ByteArray.empty t228 ((rd_T32 x14 x16).f0))) ++ (⟨#[32]⟩ : ByteArray)) ++ t232) x8 x9 x10 x14 x15 (wrap64 (x16 + 1))) else (none))) else (none)) else (none)) else (none)) else (none)))) else (none)) else (none)) else (if x3.size + 1 ≤ 9223372036854775807 then (deadboltref12_Print.l0 k (x3 ++ (⟨#[10]⟩ : ByteArray)) x8 x9 (wrap64 (x10 + 1))) else (none))
end
def deadboltref12_Print.f (k : Nat) (l0 : List (List (S32))) : Option (ByteArray) := deadboltref12_Print.l0 k (⟨#[]⟩ : ByteArray) l0 (l0.length : Int) 0
theorem deadboltref12_Print.mono_l : ∀ k, (∀ y0 y1 y2 y3, LeO (deadboltref12_Print.l0 k y0 y1 y2 y3) (deadboltref12_Print.l0 (k + 1) y0 y1 y2 y3)) ∧ (∀ y0 y1 y2 y3 y4 y5 y6, LeO (deadboltref12_Print.l1 k y0 y1 y2 y3 y4 y5 y6) (deadboltref12_Print.l1 (k + 1) y0 y1 y2 y3 y4 y5 y6))
  | 0 => ⟨fun _ _ _ _ r h => by simp [deadboltref12_Print.l0] at h, fun _ _ _ _ _ _ _ r h => by simp [deadboltref12_Print.l1] at h⟩
  | k + 1 => by
    obtain ⟨ih0, ih1⟩ := deadboltref12_Print.mono_l k
    refine ⟨?_, ?_⟩
    · intro y0 y1 y2 y3
      unfold deadboltref12_Print.l0
      repeat' first
      | (with_reducible exact ih0 _ _ _ _)
      | (with_reducible exact ih1 _ _ _ _ _ _ _)
      | (with_reducible exact deadboltref12_digits.mono _ _)
      | (with_reducible exact LeO.refl _)
      | (with_reducible exact LeO.none _)
      | (with_reducible refine LeO.ite ?_ ?_)
      | (with_reducible refine LeO.bind ?_ (fun _ => ?_))
      | exact ih0 _ _ _ _
      | exact ih1 _ _ _ _ _ _ _
      | exact deadboltref12_digits.mono _ _
      | exact LeO.none _
      | refine LeO.ite ?_ ?_
      | refine LeO.bind ?_ (fun _ => ?_)
    · intro y0 y1 y2 y3 y4 y5 y6
      unfold deadboltref12_Print.l1
      repeat' first
      | (with_reducible exact ih0 _ _ _ _)
      | (with_reducible exact ih1 _ _ _ _ _ _ _)
      | (with_reducible exact deadboltref12_digits.mono _ _)
      | (with_reducible exact LeO.refl _)
      | (with_reducible exact LeO.none _)
      | (with_reducible refine LeO.ite ?_ ?_)
      | (with_reducible refine LeO.bind ?_ (fun _ => ?_))
      | exact ih0 _ _ _ _
      | exact ih1 _ _ _ _ _ _ _
      | exact deadboltref12_digits.mono _ _
      | exact LeO.none _
      | refine LeO.ite ?_ ?_
      | refine LeO.bind ?_ (fun _ => ?_)
theorem deadboltref12_Print.mono : ∀ a0 k, LeO (deadboltref12_Print.f k a0) (deadboltref12_Print.f (k + 1) a0) := by
  intro a0 k
  obtain ⟨ih0, ih1⟩ := deadboltref12_Print.mono_l k
  unfold deadboltref12_Print.f
  repeat' first
      | (with_reducible exact ih0 _ _ _ _)
      | (with_reducible exact ih1 _ _ _ _ _ _ _)
      | (with_reducible exact deadboltref12_digits.mono _ _)
      | (with_reducible exact LeO.refl _)
      | (with_reducible exact LeO.none _)
      | (with_reducible refine LeO.ite ?_ ?_)
      | (with_reducible refine LeO.bind ?_ (fun _ => ?_))
      | exact ih0 _ _ _ _
      | exact ih1 _ _ _ _ _ _ _
      | exact deadboltref12_digits.mono _ _
      | exact LeO.none _
      | refine LeO.ite ?_ ?_
      | refine LeO.bind ?_ (fun _ => ?_)
def deadboltref12_Print.T10 : Bool × List (List Nat × List Nat) := (true, [([], []), ([], []), ([], []), ([2], [2]), ([1, 3], [1, 3]), ([4], [4]), ([0, 5], [0, 5]), ([6], [6]), ([], []), ([8], [8]), ([9, 1], [9]), ([7, 10], [7, 10]), ([11, 10, 0, 1, 2, 3, 4, 5, 6, 7, 8, 9, 10, 11], [0, 11])])
def deadboltref12_Print.B10 : List Nat := [0, 0, 0, 4, 14, 30, 63, 127, 0, 256, 770, 2047, 4095]
theorem deadboltref12_Print.tab10 : rtab .any (opsOf Tryd.f18 10) = deadboltref12_Print.T10 := by kernel_rfl
theorem deadboltref12_Print.bits10 : waitsOk deadboltref12_Print.T10.2 deadboltref12_Print.B10 = true := by kernel_rfl
set_option maxHeartbeats 8000000 in
set_option maxRecDepth 100000 in
theorem deadboltref12_Print.calls (k : Nat) (A0 : Option Addr) (c0 : Nat) (l0 : List (List (S32))) (r : ByteArray) (w : World) (hr0 : Kd.C (Kd.slice 32 k32) w A0 l0.length l0) (hc0 : l0.length ≤ c0) (h : deadboltref12_Print.f k l0 = some r) :
    Calls Tryd.prog 18 #[.slice A0 l0.length c0] w fun e w' => e = .returned (.string r) ∧ Below w.heap.size w w' := by
  have hu32 := Tryd.underlying32
  have HR0 := Aside0.mk hr0
  have HC0 := Aside0.mk hc0
  clear hr0 hc0
  have HB := Aside0.mk (Below.refl w.heap.size w)
  have H : (deadboltref12_Print.l0 k (⟨#[]⟩ : ByteArray) l0 (l0.length : Int) 0) = some r := h
  clear h
  have H' := Aside0.mk H
  clear H
  go_enter Tryd.func18, Tryd.ntmps18
  go_wp2
  go_loopg [3, 10] k (fun kq v3 v10 w' => ∃ (x3_1 : ByteArray) (x10_1 : Int), v3 = .string x3_1 ∧ v10 = .int .i64 x10_1 ∧ Aside0 (deadboltref12_Print.l0 kq x3_1 l0 (l0.length : Int) x10_1 = some r) ∧ Aside0 (kq ≤ k) ∧ Aside0 (Below w.heap.size w w'))
  case atStart => exact ⟨((⟨#[]⟩ : ByteArray)), (0), (by first | rfl | (simp; done) | (simp [*]; done)), (by first | rfl | (simp; done) | (simp [*]; done)), H', ⟨Nat.le_refl _⟩, ⟨by repeat (first | (with_reducible first | exact HB.out | apply below_alloc | apply pw_below_drewN | apply below_drew1) | exact HB.out)⟩⟩
  case round =>
    clear H'
    try clear c1
    obtain ⟨x3_1, x10_1, rfl, rfl, HA, HK1, HB⟩ := hrel
    cases gk with
    | zero => exact absurd HA.out (by simp [deadboltref12_Print.l0])
    | succ k1 =>
      have H := HA.out
      clear HA
      simp only [deadboltref12_Print.l0] at H
      by_cases c2 : x10_1 < (l0.length : Int)
      · rw [if_pos c2] at H
        have c2b0 : decide (x10_1 < (l0.length : Int)) = true := decide_eq_true c2
        clear c2
        by_cases c3 : 0 ≤ x10_1
        · rw [if_pos c3] at H
          have c3b0 : decide (0 ≤ x10_1) = true := decide_eq_true c3
          clear c3
          by_cases c4 : x10_1 < (l0.length : Int)
          · rw [if_pos c4] at H
            have c4b0 : decide (x10_1 < (l0.length : Int)) = true := decide_eq_true c4
            clear c4
            have H' := Aside0.mk H
            clear H
            have p220 : 0 ≤ (x10_1 : Int) := of_decide_eq_true (by first | (with_reducible assumption) | assumption)
            have q220 : x10_1 < (l0.length : Int) := of_decide_eq_true (by first | (with_reducible assumption) | assumption)
            obtain ⟨ad220, A220_0, c220_0, e220, hx220_0, hl220_0, hi220_0⟩ := at_L4 HR0.out x10_1 p220 q220
            cases e220
            replace hx220_0 := (HB.out.cell (World.block_lt_of_cell? w _ hx220_0)).trans hx220_0
            have HR220_0 := Aside0.mk hi220_0
            have HC220_0 := Aside0.mk hl220_0
            clear hi220_0 hl220_0
            replace p220 := eq_true p220
            replace q220 := eq_true q220
            go_wp2
            go_loopg [3, 16] k1 (fun kq v3 v16 w' => ∃ (x3_2 : ByteArray) (x16_2 : Int), v3 = .string x3_2 ∧ v16 = .int .i64 x16_2 ∧ Aside0 (deadboltref12_Print.l1 kq x3_2 l0 (l0.length : Int) x10_1 (rd_L4 l0 x10_1) ((rd_L4 l0 x10_1).length : Int) x16_2 = some r) ∧ Aside0 (kq ≤ k1) ∧ Aside0 (Below w.heap.size w w'))
            case atStart => exact ⟨(x3_1), (0), (by first | rfl | (simp; done) | (simp [*]; done)), (by first | rfl | (simp; done) | (simp [*]; done)), H', ⟨Nat.le_refl _⟩, ⟨by repeat (first | (with_reducible first | exact HB.out | apply below_alloc | apply pw_below_drewN | apply below_drew1) | exact HB.out)⟩⟩
            case round =>
              clear H'
              try clear c1
              try clear c2
              try clear c2b0
              try clear p2
              try clear q2
              try clear hx2
              try clear c3
              try clear c3b0
              try clear c4
              try clear c4b0
              try clear hx220_0
              try clear p220
              try clear q220
              obtain ⟨x3_2, x16_2, rfl, rfl, HA, HK2, HB⟩ := hrel
              cases gk with
              | zero => exact absurd HA.out (by simp [deadboltref12_Print.l1])
              | succ k2 =>
                have H := HA.out
                clear HA
                simp only [deadboltref12_Print.l1] at H
                by_cases c5 : x16_2 < ((rd_L4 l0 x10_1).length : Int)
                · rw [if_pos c5] at H
                  have c5b0 : decide (x16_2 < ((rd_L4 l0 x10_1).length : Int)) = true := decide_eq_true c5
                  clear c5
                  by_cases c6 : 0 ≤ x16_2
                  · rw [if_pos c6] at H
                    have c6b0 : decide (0 ≤ x16_2) = true := decide_eq_true c6
                    clear c6
                    by_cases c7 : x16_2 < ((rd_L4 l0 x10_1).length : Int)
                    · rw [if_pos c7] at H
                      have c7b0 : decide (x16_2 < ((rd_L4 l0 x10_1).length : Int)) = true := decide_eq_true c7
                      clear c7
                      by_cases c8 : x16_2 > 0
                      · rw [if_pos c8] at H
                        have c8b0 : decide (0 < x16_2) = true := decide_eq_true c8
                        clear c8
                        by_cases c9 : x3_2.size + 2 ≤ 9223372036854775807
                        · rw [if_pos c9] at H
                          have c9b0 := eq_true c9
                          have c9b1 : decide (x3_2.size + 2 ≤ 9223372036854775807) = true := decide_eq_true c9
                          try have c9b2 : (9223372036854775807 < x3_2.size + 2) = False := eq_false (Nat.not_lt.2 c9)
                          replace H := Option.bind_eq_some_iff.mp H
                          obtain ⟨t223, A100, H⟩ := H
                          replace H : (if 0 ≤ ((rd_T32 (rd_L4 l0 x10_1) x16_2).f0) then (if ((rd_T32 (rd_L4 l0 x10_1) x16_2).f0) < (t223.length : Int) then (if (x3_2 ++ (⟨#[59, 32]⟩ : ByteArray)).size + (rdOf ByteArray.empty t223 ((rd_T32 (rd_L4 l0 x10_1) x16_2).f0)).size ≤ 9223372036854775807 then (if ((x3_2 ++ (⟨#[59, 32]⟩ : ByteArray)) ++ (rdOf ByteArray.empty t223 ((rd_T32 (rd_L4 l0 x10_1) x16_2).f0))).size + 1 ≤ 9223372036854775807 then ((deadboltref12_digits.f k2 ((rd_T32 (rd_L4 l0 x10_1) x16_2).f1)).bind fun t227 => (if (((x3_2 ++ (⟨#[59, 32]⟩ : ByteArray)) ++ (rdOf ByteArray.empty t223 ((rd_T32 (rd_L4 l0 x10_1) x16_2).f0))) ++ (⟨#[32]⟩ : ByteArray)).size + t227.size ≤ 9223372036854775807 then (deadboltref12_Print.l1 k2 ((((x3_2 ++ (⟨#[59, 32]⟩ : ByteArray)) ++ (rdOf ByteArray.empty t223 ((rd_T32 (rd_L4 l0 x10_1) x16_2).f0))) ++ (⟨#[32]⟩ : ByteArray)) ++ t227) l0 (l0.length : Int) x10_1 (rd_L4 l0 x10_1) ((rd_L4 l0 x10_1).length : Int) (wrap64 (x16_2 + 1))) else (none))) else (none)) else (none)) else (none)) else (none)) = some r := H
                          have A10 := Aside0.mk A100
                          clear A100
                          by_cases c11 : 0 ≤ ((rd_T32 (rd_L4 l0 x10_1) x16_2).f0)
                          · rw [if_pos c11] at H
                            have c11b0 : decide (0 ≤ ((rd_T32 (rd_L4 l0 x10_1) x16_2).f0)) = true := decide_eq_true c11
                            clear c11
                            by_cases c12 : ((rd_T32 (rd_L4 l0 x10_1) x16_2).f0) < (t223.length : Int)
                            · rw [if_pos c12] at H
                              have c12b0 : decide (((rd_T32 (rd_L4 l0 x10_1) x16_2).f0) < (t223.length : Int)) = true := decide_eq_true c12
                              clear c12
                              by_cases c13 : (x3_2 ++ (⟨#[59, 32]⟩ : ByteArray)).size + (rdOf ByteArray.empty t223 ((rd_T32 (rd_L4 l0 x10_1) x16_2).f0)).size ≤ 9223372036854775807
                              · rw [if_pos c13] at H
                                have c13b0 := eq_true c13
                                have c13b1 : decide ((x3_2 ++ (⟨#[59, 32]⟩ : ByteArray)).size + (rdOf ByteArray.empty t223 ((rd_T32 (rd_L4 l0 x10_1) x16_2).f0)).size ≤ 9223372036854775807) = true := decide_eq_true c13
                                try have c13b2 : (9223372036854775807 < (x3_2 ++ (⟨#[59, 32]⟩ : ByteArray)).size + (rdOf ByteArray.empty t223 ((rd_T32 (rd_L4 l0 x10_1) x16_2).f0)).size) = False := eq_false (Nat.not_lt.2 c13)
                                have c13b3 : (9223372036854775807 < (x3_2).size + 2 + (rdOf ByteArray.empty t223 ((rd_T32 (rd_L4 l0 x10_1) x16_2).f0)).size) = False := by
                                  rw [← c13b2]
                                  (simp only [ByteArray.size_append]) <;> rfl
                                by_cases c14 : ((x3_2 ++ (⟨#[59, 32]⟩ : ByteArray)) ++ (rdOf ByteArray.empty t223 ((rd_T32 (rd_L4 l0 x10_1) x16_2).f0))).size + 1 ≤ 9223372036854775807
                                · rw [if_pos c14] at H
                                  have c14b0 := eq_true c14
                                  have c14b1 : decide (((x3_2 ++ (⟨#[59, 32]⟩ : ByteArray)) ++ (rdOf ByteArray.empty t223 ((rd_T32 (rd_L4 l0 x10_1) x16_2).f0))).size + 1 ≤ 9223372036854775807) = true := decide_eq_true c14
                                  try have c14b2 : (9223372036854775807 < ((x3_2 ++ (⟨#[59, 32]⟩ : ByteArray)) ++ (rdOf ByteArray.empty t223 ((rd_T32 (rd_L4 l0 x10_1) x16_2).f0))).size + 1) = False := eq_false (Nat.not_lt.2 c14)
                                  have c14b3 : (9223372036854775807 < (x3_2).size + 2 + (rdOf ByteArray.empty t223 ((rd_T32 (rd_L4 l0 x10_1) x16_2).f0)).size + 1) = False := by
                                    rw [← c14b2]
                                    (simp only [ByteArray.size_append]) <;> rfl
                                  replace H := Option.bind_eq_some_iff.mp H
                                  obtain ⟨t227, A150, H⟩ := H
                                  replace H : (if (((x3_2 ++ (⟨#[59, 32]⟩ : ByteArray)) ++ (rdOf ByteArray.empty t223 ((rd_T32 (rd_L4 l0 x10_1) x16_2).f0))) ++ (⟨#[32]⟩ : ByteArray)).size + t227.size ≤ 9223372036854775807 then (deadboltref12_Print.l1 k2 ((((x3_2 ++ (⟨#[59, 32]⟩ : ByteArray)) ++ (rdOf ByteArray.empty t223 ((rd_T32 (rd_L4 l0 x10_1) x16_2).f0))) ++ (⟨#[32]⟩ : ByteArray)) ++ t227) l0 (l0.length : Int) x10_1 (rd_L4 l0 x10_1) ((rd_L4 l0 x10_1).length : Int) (wrap64 (x16_2 + 1))) else (none)) = some r := H
                                  have A15 := Aside0.mk A150
                                  clear A150
                                  by_cases c16 : (((x3_2 ++ (⟨#[59, 32]⟩ : ByteArray)) ++ (rdOf ByteArray.empty t223 ((rd_T32 (rd_L4 l0 x10_1) x16_2).f0))) ++ (⟨#[32]⟩ : ByteArray)).size + t227.size ≤ 9223372036854775807
                                  · rw [if_pos c16] at H
                                    have c16b0 := eq_true c16
                                    have c16b1 : decide ((((x3_2 ++ (⟨#[59, 32]⟩ : ByteArray)) ++ (rdOf ByteArray.empty t223 ((rd_T32 (rd_L4 l0 x10_1) x16_2).f0))) ++ (⟨#[32]⟩ : ByteArray)).size + t227.size ≤ 9223372036854775807) = true := decide_eq_true c16
                                    try have c16b2 : (9223372036854775807 < (((x3_2 ++ (⟨#[59, 32]⟩ : ByteArray)) ++ (rdOf ByteArray.empty t223 ((rd_T32 (rd_L4 l0 x10_1) x16_2).f0))) ++ (⟨#[32]⟩ : ByteArray)).size + t227.size) = False := eq_false (Nat.not_lt.2 c16)
                                    have c16b3 : (9223372036854775807 < (x3_2).size + 2 + (rdOf ByteArray.empty t223 ((rd_T32 (rd_L4 l0 x10_1) x16_2).f0)).size + 1 + t227.size) = False := by
                                      rw [← c16b2]
                                      (simp only [ByteArray.size_append]) <;> rfl
                                    have H' := Aside0.mk H
                                    clear H
                                    have p221 : 0 ≤ (x16_2 : Int) := of_decide_eq_true (by first | (with_reducible assumption) | assumption)
                                    have q221 : x16_2 < ((rd_L4 l0 x10_1).length : Int) := of_decide_eq_true (by first | (with_reducible assumption) | assumption)
                                    obtain ⟨ad221, e221, hx221_0, hx221_1⟩ := at_T32 HR220_0.out x16_2 p221 q221
                                    cases e221
                                    replace hx221_0 := (HB.out.cell (World.block_lt_of_cell? w _ hx221_0)).trans hx221_0
                                    replace hx221_1 := (HB.out.cell (World.block_lt_of_cell? w _ hx221_1)).trans hx221_1
                                    replace p221 := eq_true p221
                                    replace q221 := eq_true q221
                                    try go_wp2_with (first | ((with_reducible refine gate_dst (N := 7) rfl ?_); refine box_event ?hg (N := 7) ?hd (cs := #[.int .i64 0, .int .i64 0]) (t := 32) ?hr ?_; (case hd => rfl); (case hg => rfl); (case hr => first | (go_simp; done) | (go_simp; rfl)); intro gb222 hg w17 hbox hb; have n0_ := Aside0.mk (below_step (by repeat (first | (with_reducible first | exact HB.out | apply below_alloc | apply pw_below_drewN | apply below_drew1) | exact HB.out)) hb); have n1_ := Aside0.mk (hbox); have n2_ := Aside0.mk ((by rw [hg]; exact (below_size (by repeat (first | (with_reducible first | exact HB.out | apply below_alloc | apply pw_below_drewN | apply below_drew1) | exact HB.out))) : w.heap.size ≤ gb222)); have n3_ := Aside0.mk ((by rw [hg]; exact (below_size (by repeat (first | (with_reducible first | exact HB.out | apply below_alloc | apply pw_below_drewN | apply below_drew1) | exact HB.out))) : w.heap.size ≤ gb222)); clear HB; have HB := n0_; have BK222 := n1_; have GW222 := n2_; have GE222 := n3_; clear n0_ n1_ n2_ n3_; clear hb hbox hg; have hcz18_0 : w17.cell? ⟨gb222, 0, none⟩ = some (.int .i64 0) := (blk_cell BK222.out 0).trans rfl; have hcz18_1 : w17.cell? ⟨gb222, 1, none⟩ = some (.int .i64 0) := (blk_cell BK222.out 1).trans rfl; have hfz18_0 := blk_frozen BK222.out 0; have hfz18_1 := blk_frozen BK222.out 1))
                                    have n0_ : Aside0 (((w17.setCell ⟨gb222, 0, none⟩ (.int .i64 ((rd_T32 (rd_L4 l0 x10_1) x16_2).f0))).setCell ⟨gb222, 1, none⟩ (.int .i64 ((rd_T32 (rd_L4 l0 x10_1) x16_2).f1))).heap[gb222]? = some (.cells #[.int .i64 ((rd_T32 (rd_L4 l0 x10_1) x16_2).f0), .int .i64 ((rd_T32 (rd_L4 l0 x10_1) x16_2).f1)] 32 (0, 0))) := ⟨by (with_reducible repeat (first | refine blk_drewN ?_ _ | refine blk_drew ?_ | refine blk_alloc ?_ _)); refine blk_put (cs := #[.int .i64 ((rd_T32 (rd_L4 l0 x10_1) x16_2).f0), .int .i64 0]) ?_ 1 _ rfl; (with_reducible repeat (first | refine blk_drewN ?_ _ | refine blk_drew ?_ | refine blk_alloc ?_ _)); refine blk_put (cs := #[.int .i64 0, .int .i64 0]) ?_ 0 _ rfl; (with_reducible repeat (first | refine blk_drewN ?_ _ | refine blk_drew ?_ | refine blk_alloc ?_ _)); exact BK222.out⟩
                                    have n1_ : Aside0 (Below w.heap.size w ((w17.setCell ⟨gb222, 0, none⟩ (.int .i64 ((rd_T32 (rd_L4 l0 x10_1) x16_2).f0))).setCell ⟨gb222, 1, none⟩ (.int .i64 ((rd_T32 (rd_L4 l0 x10_1) x16_2).f1)))) := ⟨by repeat (first | (with_reducible first | exact HB.out | apply below_alloc | apply pw_below_drewN | apply below_drew1 | refine below_set ?_ GE222.out) | exact HB.out)⟩
                                    (try clear BK222)
                                    (try clear HB)
                                    generalize ((w17.setCell ⟨gb222, 0, none⟩ (.int .i64 ((rd_T32 (rd_L4 l0 x10_1) x16_2).f0))).setCell ⟨gb222, 1, none⟩ (.int .i64 ((rd_T32 (rd_L4 l0 x10_1) x16_2).f1))) = w19 at n0_ n1_ ⊢
                                    have BK222 := n0_
                                    have HB := n1_
                                    clear n0_ n1_
                                    have n0_ := Aside0.mk (blk_drew BK222.out)
                                    have n1_ := Aside0.mk (below_drew1 HB.out)
                                    clear BK222
                                    clear HB
                                    have BK222 := n0_
                                    have HB := n1_
                                    clear n0_ n1_
                                    refine start_ (n := 13) (S := fun w' => w'.cell? ⟨gb222, 0, none⟩ = some (.int .i64 ((rd_T32 (rd_L4 l0 x10_1) x16_2).f0)) ∧ w'.cell? ⟨gb222, 1, none⟩ = some (.int .i64 ((rd_T32 (rd_L4 l0 x10_1) x16_2).f1))) (ds := []) #[false, false, false, false, false, false, false, false, false, false, false, false, false] (by kernel_rfl) rfl rfl ⟨(blk_cell BK222.out 0).trans rfl, (blk_cell BK222.out 1).trans rfl⟩ (fun hHeld => ?_); refine with_tabW deadboltref12_Print.tab10 deadboltref12_Print.bits10 (fun HT_ HW_ => ?_)
                                    generalize w19.drew = w20 at BK222 HB hHeld ⊢
                                    refine pure_ (i := 0) (N := some 25) (v := ?_) (a' := ?_) #[true, false, false, false, false, false, false, false, false, false, false, false, false] rfl rfl (any_of HT_.out (by kernel_rfl)) (fun _ _ _ h => h) (Or.inl ⟨by rfl, ?_⟩) ?_ ?_
                                    rotate_left
                                    · intro w'
                                      go_simp
                                      with_reducible rfl
                                    rotate_left
                                    · simp only [Act.put, List.setIfInBounds_toArray, List.set_cons_zero, List.set_cons_succ, i64_w, i32_w]
                                      rfl
                                    refine pure_ (i := 2) (N := some 27) (v := ?_) (a' := ?_) #[true, false, true, false, false, false, false, false, false, false, false, false, false] rfl rfl (any_of HT_.out (by kernel_rfl)) (fun _ _ _ h => h) (Or.inl ⟨by rfl, ?_⟩) ?_ ?_
                                    rotate_left
                                    · intro w'
                                      go_simp
                                      with_reducible rfl
                                    rotate_left
                                    · simp only [Act.put, List.setIfInBounds_toArray, List.set_cons_zero, List.set_cons_succ, i64_w, i32_w]
                                      rfl
                                    refine pure_ (i := 8) (N := some 33) (v := ?_) (a' := ?_) #[true, false, true, false, false, false, false, false, true, false, false, false, false] rfl rfl (any_of HT_.out (by kernel_rfl)) (fun _ _ _ h => h) (Or.inl ⟨by rfl, ?_⟩) ?_ ?_
                                    rotate_left
                                    · intro w'
                                      go_simp
                                      with_reducible rfl
                                    rotate_left
                                    · simp only [Act.put, List.setIfInBounds_toArray, List.set_cons_zero, List.set_cons_succ, i64_w, i32_w]
                                      rfl
                                    refine take_ (i := 3) (N := some 28) (v := ?_) (a' := ?_) #[true, false, true, true, false, false, false, false, true, false, false, false, false] rfl rfl (take_ofW HT_.out HW_.out (by kernel_rfl)) (fun _ _ _ h => h) (Or.inl ⟨by rfl, ?_⟩) hHeld ?_ ?_
                                    rotate_left
                                    · rintro w' ⟨s0, s1⟩
                                      go_simp
                                      with_reducible rfl
                                    rotate_left
                                    · simp only [Act.put, List.setIfInBounds_toArray, List.set_cons_zero, List.set_cons_succ, i64_w, i32_w]
                                      rfl
                                    refine take_ (i := 9) (N := some 34) (v := ?_) (a' := ?_) #[true, false, true, true, false, false, false, false, true, true, false, false, false] rfl rfl (take_ofW HT_.out HW_.out (by kernel_rfl)) (fun _ _ _ h => h) (Or.inl ⟨by rfl, ?_⟩) hHeld ?_ ?_
                                    rotate_left
                                    · rintro w' ⟨s0, s1⟩
                                      go_simp
                                      with_reducible rfl
                                    rotate_left
                                    · simp only [Act.put, List.setIfInBounds_toArray, List.set_cons_zero, List.set_cons_succ, i64_w, i32_w]
                                      rfl
                                    refine one_ (i := 1) (N := some 26) #[true, true, true, true, false, false, false, false, true, true, false, false, false] rfl rfl (one_of HT_.out (by kernel_rfl)) (by decide) (fun K hK => ?_)
                                    refine goes_ Tryd.func36 (by kernel_rfl) rfl #[] (by rfl) rfl rfl (by (try simp only [List.map_toArray, List.map_cons, List.map_nil]); first | done | rfl | (simp only [List.length_drop, List.length_take]; rfl)) ?_
                                    with_reducible refine (deadboltref12_words.calls  t223 _ A10.out).mono ?_
                                    rintro e w21 ⟨v224, rfl, ho0, hb⟩
                                    refine ⟨_, rfl, ?_⟩
                                    have n0_ := Aside0.mk (Kd.R_lower ho0 (below_size (by repeat (first | (with_reducible first | exact HB.out | apply below_alloc | apply pw_below_drewN | apply below_drew1 | refine below_set ?_ GE222.out) | exact HB.out))))
                                    have n1_ := Aside0.mk (blk_below (g := gb222) (o := .cells #[.int .i64 ((rd_T32 (rd_L4 l0 x10_1) x16_2).f0), .int .i64 ((rd_T32 (rd_L4 l0 x10_1) x16_2).f1)] 32 (0, 0)) (by (with_reducible repeat (first | refine blk_drewN ?_ _ | refine blk_drew ?_ | refine blk_alloc ?_ _)); exact BK222.out) hb)
                                    have n2_ := Aside0.mk (below_step (by repeat (first | (with_reducible first | exact HB.out | apply below_alloc | apply pw_below_drewN | apply below_drew1 | refine below_set ?_ GE222.out) | exact HB.out)) hb)
                                    clear BK222
                                    clear HB
                                    have HO225 := n0_
                                    have BK222 := n1_
                                    have HB := n2_
                                    clear n0_ n1_ n2_
                                    (try clear hb)
                                    (try clear hb2)
                                    (try clear hk)
                                    (try clear hi)
                                    (try clear ho0)
                                    obtain ⟨Ao22, co22, eo22⟩ := Kd.R_slice HO225.out
                                    (first | subst eo22 | (injection eo22 with f1_ f2_ f3_; have f4_ := f1_.symm; have f5_ := f3_.symm; clear f1_ f2_ f3_; subst f4_; subst f5_))
                                    have p226 : 0 ≤ (((rd_T32 (rd_L4 l0 x10_1) x16_2).f0) : Int) := of_decide_eq_true (by first | (with_reducible assumption) | assumption)
                                    have q226 : ((rd_T32 (rd_L4 l0 x10_1) x16_2).f0) < (t223.length : Int) := of_decide_eq_true (by first | (with_reducible assumption) | assumption)
                                    obtain ⟨ad226, e226, hx226_0⟩ := Kd.at_string (Kd.R_reads' HO225.out).2.2 ((rd_T32 (rd_L4 l0 x10_1) x16_2).f0) p226 q226
                                    cases e226
                                    replace p226 := eq_true p226
                                    replace q226 := eq_true q226
                                    refine hK.out _ _ ⟨(blk_cell BK222.out 0).trans rfl, (blk_cell BK222.out 1).trans rfl⟩ (fun _ => wide_ (S1 := fun w' => w'.cell? ⟨gb222, 0, none⟩ = some (.int .i64 ((rd_T32 (rd_L4 l0 x10_1) x16_2).f0)) ∧ w'.cell? ⟨gb222, 1, none⟩ = some (.int .i64 ((rd_T32 (rd_L4 l0 x10_1) x16_2).f1)) ∧ w'.cell? (ad226.add (((rd_T32 (rd_L4 l0 x10_1) x16_2).f0)).toNat) = some (.string (rdOf ByteArray.empty t223 ((rd_T32 (rd_L4 l0 x10_1) x16_2).f0)))) (fun _ h => ⟨h.1, h.2.1⟩) ⟨(blk_cell BK222.out 0).trans rfl, (blk_cell BK222.out 1).trans rfl, hx226_0⟩ (fun hHeld => ?_))
                                    clear hK K
                                    refine norm_ (a' := ?_) ?_ ?_
                                    rotate_left
                                    · show Act.put _ (some 26) _ = _
                                      simp only [Act.put, List.setIfInBounds_toArray, List.set_cons_zero, List.set_cons_succ, i64_w, i32_w]
                                      rfl
                                    refine pure_ (i := 4) (N := some 29) (v := ?_) (a' := ?_) #[true, true, true, true, true, false, false, false, true, true, false, false, false] rfl rfl (any_of HT_.out (by kernel_rfl)) (fun _ _ _ h => h) (Or.inl ⟨by rfl, ?_⟩) ?_ ?_
                                    rotate_left
                                    · intro w'
                                      go_simp
                                      with_reducible rfl
                                    rotate_left
                                    · simp only [Act.put, List.setIfInBounds_toArray, List.set_cons_zero, List.set_cons_succ, i64_w, i32_w]
                                      rfl
                                    refine take_ (i := 5) (N := some 30) (v := ?_) (a' := ?_) #[true, true, true, true, true, true, false, false, true, true, false, false, false] rfl rfl (take_ofW HT_.out HW_.out (by kernel_rfl)) (fun _ _ _ h => h) (Or.inl ⟨by rfl, ?_⟩) hHeld ?_ ?_
                                    rotate_left
                                    · rintro w' ⟨s0, s1, s2⟩
                                      go_simp
                                      with_reducible rfl
                                    rotate_left
                                    · simp only [Act.put, List.setIfInBounds_toArray, List.set_cons_zero, List.set_cons_succ, i64_w, i32_w]
                                      rfl
                                    refine pure_ (i := 6) (N := some 31) (v := ?_) (a' := ?_) #[true, true, true, true, true, true, true, false, true, true, false, false, false] rfl rfl (any_of HT_.out (by kernel_rfl)) (fun _ _ _ h => h) (Or.inl ⟨by rfl, ?_⟩) ?_ ?_
                                    rotate_left
                                    · intro w'
                                      go_simp
                                      with_reducible rfl
                                    rotate_left
                                    · simp only [Act.put, List.setIfInBounds_toArray, List.set_cons_zero, List.set_cons_succ, i64_w, i32_w]
                                      rfl
                                    refine pure_ (i := 7) (N := some 32) (v := ?_) (a' := ?_) #[true, true, true, true, true, true, true, true, true, true, false, false, false] rfl rfl (any_of HT_.out (by kernel_rfl)) (fun _ _ _ h => h) (Or.inl ⟨by rfl, ?_⟩) ?_ ?_
                                    rotate_left
                                    · intro w'
                                      go_simp
                                      with_reducible rfl
                                    rotate_left
                                    · simp only [Act.put, List.setIfInBounds_toArray, List.set_cons_zero, List.set_cons_succ, i64_w, i32_w]
                                      rfl
                                    refine one_ (i := 10) (N := some 35) #[true, true, true, true, true, true, true, true, true, true, true, false, false] rfl rfl (one_of HT_.out (by kernel_rfl)) (by decide) (fun K hK => ?_)
                                    refine goes_ Tryd.func37 (by kernel_rfl) rfl #[.int .i64 ((rd_T32 (rd_L4 l0 x10_1) x16_2).f1)] (by rfl) rfl rfl (by (try simp only [List.map_toArray, List.map_cons, List.map_nil]); first | done | rfl | (simp only [List.length_drop, List.length_take]; rfl)) ?_
                                    with_reducible refine (deadboltref12_digits.calls k2 ((rd_T32 (rd_L4 l0 x10_1) x16_2).f1) t227 _ A15.out).mono ?_
                                    rintro e w23 ⟨rfl, hb⟩
                                    have HS2_ := (hb.cell (World.block_lt_of_cell? _ _ (hHeld.2.2))).trans (hHeld.2.2)
                                    refine ⟨_, rfl, ?_⟩
                                    have n0_ := Aside0.mk (Kd.R_below (by (with_reducible repeat (first | apply Kd.R_alloc | apply Kd.R_drewN | apply Kd.R_drew)); exact HO225.out) hb)
                                    have n1_ := Aside0.mk (blk_below (g := gb222) (o := .cells #[.int .i64 ((rd_T32 (rd_L4 l0 x10_1) x16_2).f0), .int .i64 ((rd_T32 (rd_L4 l0 x10_1) x16_2).f1)] 32 (0, 0)) (by (with_reducible repeat (first | refine blk_drewN ?_ _ | refine blk_drew ?_ | refine blk_alloc ?_ _)); exact BK222.out) hb)
                                    have n2_ := Aside0.mk (below_step (by repeat (first | (with_reducible first | exact HB.out | apply below_alloc | apply pw_below_drewN | apply below_drew1 | refine below_set ?_ GE222.out) | exact HB.out)) hb)
                                    clear HO225
                                    clear BK222
                                    clear HB
                                    have HO225 := n0_
                                    have BK222 := n1_
                                    have HB := n2_
                                    clear n0_ n1_ n2_
                                    (try clear hb)
                                    (try clear hb2)
                                    (try clear hk)
                                    (try clear hi)
                                    refine hK.out _ _ ⟨(blk_cell BK222.out 0).trans rfl, (blk_cell BK222.out 1).trans rfl, HS2_⟩ (fun hHeld => ?_)
                                    clear hK K
                                    refine norm_ (a' := ?_) ?_ ?_
                                    rotate_left
                                    · show Act.put _ (some 35) _ = _
                                      simp only [Act.put, List.setIfInBounds_toArray, List.set_cons_zero, List.set_cons_succ, i64_w, i32_w]
                                      rfl
                                    refine pure_ (i := 11) (N := some 36) (v := ?_) (a' := ?_) #[true, true, true, true, true, true, true, true, true, true, true, true, false] rfl rfl (any_of HT_.out (by kernel_rfl)) (fun _ _ _ h => h) (Or.inl ⟨by rfl, ?_⟩) ?_ ?_
                                    rotate_left
                                    · intro w'
                                      go_simp
                                      with_reducible rfl
                                    rotate_left
                                    · simp only [Act.put, List.setIfInBounds_toArray, List.set_cons_zero, List.set_cons_succ, i64_w, i32_w]
                                      rfl
                                    refine pure_ (i := 12) (N := some 3) (v := ?_) (a' := ?_) #[true, true, true, true, true, true, true, true, true, true, true, true, true] rfl rfl (any_of HT_.out (by kernel_rfl)) (fun _ _ _ h => h) (Or.inl ⟨by rfl, ?_⟩) ?_ ?_
                                    rotate_left
                                    · intro w'
                                      go_simp
                                      with_reducible rfl
                                    rotate_left
                                    · simp only [Act.put, List.setIfInBounds_toArray, List.set_cons_zero, List.set_cons_succ, i64_w, i32_w]
                                      rfl
                                    refine done_ (done_of HT_.out (by kernel_rfl)) ?_
                                    try go_wp2
                                    go_roundg k2
                                    case measure => have := HK1.out; have := HK2.out; omega
                                    case rel => exact ⟨((((x3_2 ++ (⟨#[59, 32]⟩ : ByteArray)) ++ (rdOf ByteArray.empty t223 ((rd_T32 (rd_L4 l0 x10_1) x16_2).f0))) ++ (⟨#[32]⟩ : ByteArray)) ++ t227), (wrap64 (x16_2 + 1)), (by first | rfl | (simp; done) | (simp [*]; done)), (by first | rfl | (simp; done) | (simp [*]; done)), H', ⟨by have := HK1.out; have := HK2.out; omega⟩, ⟨by repeat (first | (with_reducible first | exact HB.out | apply below_alloc | apply pw_below_drewN | apply below_drew1 | refine below_set ?_ GE222.out) | exact HB.out)⟩⟩
                                  · rw [if_neg c16] at H
                                    exact absurd H (by simp)
                                · rw [if_neg c14] at H
                                  exact absurd H (by simp)
                              · rw [if_neg c13] at H
                                exact absurd H (by simp)
                            · rw [if_neg c12] at H
                              exact absurd H (by simp)
                          · rw [if_neg c11] at H
                            exact absurd H (by simp)
                        · rw [if_neg c9] at H
                          exact absurd H (by simp)
                      · rw [if_neg c8] at H
                        have c8b0 : decide (0 < x16_2) = false := decide_eq_false c8
                        clear c8
                        replace H := Option.bind_eq_some_iff.mp H
                        obtain ⟨t228, A240, H⟩ := H
                        replace H : (if 0 ≤ ((rd_T32 (rd_L4 l0 x10_1) x16_2).f0) then (if ((rd_T32 (rd_L4 l0 x10_1) x16_2).f0) < (t228.length : Int) then (if x3_2.size + (rdOf ByteArray.empty t228 ((rd_T32 (rd_L4 l0 x10_1) x16_2).f0)).size ≤ 9223372036854775807 then (if (x3_2 ++ (rdOf ByteArray.empty t228 ((rd_T32 (rd_L4 l0 x10_1) x16_2).f0))).size + 1 ≤ 9223372036854775807 then ((deadboltref12_digits.f k2 ((rd_T32 (rd_L4 l0 x10_1) x16_2).f1)).bind fun t232 => (if ((x3_2 ++ (rdOf ByteArray.empty t228 ((rd_T32 (rd_L4 l0 x10_1) x16_2).f0))) ++ (⟨#[32]⟩ : ByteArray)).size + t232.size ≤ 9223372036854775807 then (deadboltref12_Print.l1 k2 (((x3_2 ++ (rdOf ByteArray.empty t228 ((rd_T32 (rd_L4 l0 x10_1) x16_2).f0))) ++ (⟨#[32]⟩ : ByteArray)) ++ t232) l0 (l0.length : Int) x10_1 (rd_L4 l0 x10_1) ((rd_L4 l0 x10_1).length : Int) (wrap64 (x16_2 + 1))) else (none))) else (none)) else (none)) else (none)) else (none)) = some r := H
                        have A24 := Aside0.mk A240
                        clear A240
                        by_cases c25 : 0 ≤ ((rd_T32 (rd_L4 l0 x10_1) x16_2).f0)
                        · rw [if_pos c25] at H
                          have c25b0 : decide (0 ≤ ((rd_T32 (rd_L4 l0 x10_1) x16_2).f0)) = true := decide_eq_true c25
                          clear c25
                          by_cases c26 : ((rd_T32 (rd_L4 l0 x10_1) x16_2).f0) < (t228.length : Int)
                          · rw [if_pos c26] at H
                            have c26b0 : decide (((rd_T32 (rd_L4 l0 x10_1) x16_2).f0) < (t228.length : Int)) = true := decide_eq_true c26
                            clear c26
                            by_cases c27 : x3_2.size + (rdOf ByteArray.empty t228 ((rd_T32 (rd_L4 l0 x10_1) x16_2).f0)).size ≤ 9223372036854775807
                            · rw [if_pos c27] at H
                              have c27b0 := eq_true c27
                              have c27b1 : decide (x3_2.size + (rdOf ByteArray.empty t228 ((rd_T32 (rd_L4 l0 x10_1) x16_2).f0)).size ≤ 9223372036854775807) = true := decide_eq_true c27
                              try have c27b2 : (9223372036854775807 < x3_2.size + (rdOf ByteArray.empty t228 ((rd_T32 (rd_L4 l0 x10_1) x16_2).f0)).size) = False := eq_false (Nat.not_lt.2 c27)
                              by_cases c28 : (x3_2 ++ (rdOf ByteArray.empty t228 ((rd_T32 (rd_L4 l0 x10_1) x16_2).f0))).size + 1 ≤ 9223372036854775807
                              · rw [if_pos c28] at H
                                have c28b0 := eq_true c28
                                have c28b1 : decide ((x3_2 ++ (rdOf ByteArray.empty t228 ((rd_T32 (rd_L4 l0 x10_1) x16_2).f0))).size + 1 ≤ 9223372036854775807) = true := decide_eq_true c28
                                try have c28b2 : (9223372036854775807 < (x3_2 ++ (rdOf ByteArray.empty t228 ((rd_T32 (rd_L4 l0 x10_1) x16_2).f0))).size + 1) = False := eq_false (Nat.not_lt.2 c28)
                                have c28b3 : (9223372036854775807 < (x3_2).size + (rdOf ByteArray.empty t228 ((rd_T32 (rd_L4 l0 x10_1) x16_2).f0)).size + 1) = False := by
                                  rw [← c28b2]
                                  (simp only [ByteArray.size_append]) <;> rfl
                                replace H := Option.bind_eq_some_iff.mp H
                                obtain ⟨t232, A290, H⟩ := H
                                replace H : (if ((x3_2 ++ (rdOf ByteArray.empty t228 ((rd_T32 (rd_L4 l0 x10_1) x16_2).f0))) ++ (⟨#[32]⟩ : ByteArray)).size + t232.size ≤ 9223372036854775807 then (deadboltref12_Print.l1 k2 (((x3_2 ++ (rdOf ByteArray.empty t228 ((rd_T32 (rd_L4 l0 x10_1) x16_2).f0))) ++ (⟨#[32]⟩ : ByteArray)) ++ t232) l0 (l0.length : Int) x10_1 (rd_L4 l0 x10_1) ((rd_L4 l0 x10_1).length : Int) (wrap64 (x16_2 + 1))) else (none)) = some r := H
                                have A29 := Aside0.mk A290
                                clear A290
                                by_cases c30 : ((x3_2 ++ (rdOf ByteArray.empty t228 ((rd_T32 (rd_L4 l0 x10_1) x16_2).f0))) ++ (⟨#[32]⟩ : ByteArray)).size + t232.size ≤ 9223372036854775807
                                · rw [if_pos c30] at H
                                  have c30b0 := eq_true c30
                                  have c30b1 : decide (((x3_2 ++ (rdOf ByteArray.empty t228 ((rd_T32 (rd_L4 l0 x10_1) x16_2).f0))) ++ (⟨#[32]⟩ : ByteArray)).size + t232.size ≤ 9223372036854775807) = true := decide_eq_true c30
                                  try have c30b2 : (9223372036854775807 < ((x3_2 ++ (rdOf ByteArray.empty t228 ((rd_T32 (rd_L4 l0 x10_1) x16_2).f0))) ++ (⟨#[32]⟩ : ByteArray)).size + t232.size) = False := eq_false (Nat.not_lt.2 c30)
                                  have c30b3 : (9223372036854775807 < (x3_2).size + (rdOf ByteArray.empty t228 ((rd_T32 (rd_L4 l0 x10_1) x16_2).f0)).size + 1 + t232.size) = False := by
                                    rw [← c30b2]
                                    (simp only [ByteArray.size_append]) <;> rfl
                                  have H' := Aside0.mk H
                                  clear H
                                  have p221 : 0 ≤ (x16_2 : Int) := of_decide_eq_true (by first | (with_reducible assumption) | assumption)
                                  have q221 : x16_2 < ((rd_L4 l0 x10_1).length : Int) := of_decide_eq_true (by first | (with_reducible assumption) | assumption)
                                  obtain ⟨ad221, e221, hx221_0, hx221_1⟩ := at_T32 HR220_0.out x16_2 p221 q221
                                  cases e221
                                  replace hx221_0 := (HB.out.cell (World.block_lt_of_cell? w _ hx221_0)).trans hx221_0
                                  replace hx221_1 := (HB.out.cell (World.block_lt_of_cell? w _ hx221_1)).trans hx221_1
                                  replace p221 := eq_true p221
                                  replace q221 := eq_true q221
                                  try go_wp2_with (first | ((with_reducible refine gate_dst (N := 7) rfl ?_); refine box_event ?hg (N := 7) ?hd (cs := #[.int .i64 0, .int .i64 0]) (t := 32) ?hr ?_; (case hd => rfl); (case hg => rfl); (case hr => first | (go_simp; done) | (go_simp; rfl)); intro gb222 hg w31 hbox hb; have n0_ := Aside0.mk (below_step (by repeat (first | (with_reducible first | exact HB.out | apply below_alloc | apply pw_below_drewN | apply below_drew1) | exact HB.out)) hb); have n1_ := Aside0.mk (hbox); have n2_ := Aside0.mk ((by rw [hg]; exact (below_size (by repeat (first | (with_reducible first | exact HB.out | apply below_alloc | apply pw_below_drewN | apply below_drew1) | exact HB.out))) : w.heap.size ≤ gb222)); have n3_ := Aside0.mk ((by rw [hg]; exact (below_size (by repeat (first | (with_reducible first | exact HB.out | apply below_alloc | apply pw_below_drewN | apply below_drew1) | exact HB.out))) : w.heap.size ≤ gb222)); clear HB; have HB := n0_; have BK222 := n1_; have GW222 := n2_; have GE222 := n3_; clear n0_ n1_ n2_ n3_; clear hb hbox hg; have hcz32_0 : w31.cell? ⟨gb222, 0, none⟩ = some (.int .i64 0) := (blk_cell BK222.out 0).trans rfl; have hcz32_1 : w31.cell? ⟨gb222, 1, none⟩ = some (.int .i64 0) := (blk_cell BK222.out 1).trans rfl; have hfz32_0 := blk_frozen BK222.out 0; have hfz32_1 := blk_frozen BK222.out 1))
                                  have n0_ : Aside0 (((w31.setCell ⟨gb222, 0, none⟩ (.int .i64 ((rd_T32 (rd_L4 l0 x10_1) x16_2).f0))).setCell ⟨gb222, 1, none⟩ (.int .i64 ((rd_T32 (rd_L4 l0 x10_1) x16_2).f1))).heap[gb222]? = some (.cells #[.int .i64 ((rd_T32 (rd_L4 l0 x10_1) x16_2).f0), .int .i64 ((rd_T32 (rd_L4 l0 x10_1) x16_2).f1)] 32 (0, 0))) := ⟨by (with_reducible repeat (first | refine blk_drewN ?_ _ | refine blk_drew ?_ | refine blk_alloc ?_ _)); refine blk_put (cs := #[.int .i64 ((rd_T32 (rd_L4 l0 x10_1) x16_2).f0), .int .i64 0]) ?_ 1 _ rfl; (with_reducible repeat (first | refine blk_drewN ?_ _ | refine blk_drew ?_ | refine blk_alloc ?_ _)); refine blk_put (cs := #[.int .i64 0, .int .i64 0]) ?_ 0 _ rfl; (with_reducible repeat (first | refine blk_drewN ?_ _ | refine blk_drew ?_ | refine blk_alloc ?_ _)); exact BK222.out⟩
                                  have n1_ : Aside0 (Below w.heap.size w ((w31.setCell ⟨gb222, 0, none⟩ (.int .i64 ((rd_T32 (rd_L4 l0 x10_1) x16_2).f0))).setCell ⟨gb222, 1, none⟩ (.int .i64 ((rd_T32 (rd_L4 l0 x10_1) x16_2).f1)))) := ⟨by repeat (first | (with_reducible first | exact HB.out | apply below_alloc | apply pw_below_drewN | apply below_drew1 | refine below_set ?_ GE222.out) | exact HB.out)⟩
                                  (try clear BK222)
                                  (try clear HB)
                                  generalize ((w31.setCell ⟨gb222, 0, none⟩ (.int .i64 ((rd_T32 (rd_L4 l0 x10_1) x16_2).f0))).setCell ⟨gb222, 1, none⟩ (.int .i64 ((rd_T32 (rd_L4 l0 x10_1) x16_2).f1))) = w33 at n0_ n1_ ⊢
                                  have BK222 := n0_
                                  have HB := n1_
                                  clear n0_ n1_
                                  have n0_ := Aside0.mk (blk_drew BK222.out)
                                  have n1_ := Aside0.mk (below_drew1 HB.out)
                                  clear BK222
                                  clear HB
                                  have BK222 := n0_
                                  have HB := n1_
                                  clear n0_ n1_
                                  refine start_ (n := 13) (S := fun w' => w'.cell? ⟨gb222, 0, none⟩ = some (.int .i64 ((rd_T32 (rd_L4 l0 x10_1) x16_2).f0)) ∧ w'.cell? ⟨gb222, 1, none⟩ = some (.int .i64 ((rd_T32 (rd_L4 l0 x10_1) x16_2).f1))) (ds := []) #[false, false, false, false, false, false, false, false, false, false, false, false, false] (by kernel_rfl) rfl rfl ⟨(blk_cell BK222.out 0).trans rfl, (blk_cell BK222.out 1).trans rfl⟩ (fun hHeld => ?_); refine with_tabW deadboltref12_Print.tab10 deadboltref12_Print.bits10 (fun HT_ HW_ => ?_)
                                  generalize w33.drew = w34 at BK222 HB hHeld ⊢
                                  refine pure_ (i := 0) (N := some 25) (v := ?_) (a' := ?_) #[true, false, false, false, false, false, false, false, false, false, false, false, false] rfl rfl (any_of HT_.out (by kernel_rfl)) (fun _ _ _ h => h) (Or.inl ⟨by rfl, ?_⟩) ?_ ?_
                                  rotate_left
                                  · intro w'
                                    go_simp
                                    with_reducible rfl
                                  rotate_left
                                  · simp only [Act.put, List.setIfInBounds_toArray, List.set_cons_zero, List.set_cons_succ, i64_w, i32_w]
                                    rfl
                                  refine pure_ (i := 2) (N := some 27) (v := ?_) (a' := ?_) #[true, false, true, false, false, false, false, false, false, false, false, false, false] rfl rfl (any_of HT_.out (by kernel_rfl)) (fun _ _ _ h => h) (Or.inl ⟨by rfl, ?_⟩) ?_ ?_
                                  rotate_left
                                  · intro w'
                                    go_simp
                                    with_reducible rfl
                                  rotate_left
                                  · simp only [Act.put, List.setIfInBounds_toArray, List.set_cons_zero, List.set_cons_succ, i64_w, i32_w]
                                    rfl
                                  refine pure_ (i := 8) (N := some 33) (v := ?_) (a' := ?_) #[true, false, true, false, false, false, false, false, true, false, false, false, false] rfl rfl (any_of HT_.out (by kernel_rfl)) (fun _ _ _ h => h) (Or.inl ⟨by rfl, ?_⟩) ?_ ?_
                                  rotate_left
                                  · intro w'
                                    go_simp
                                    with_reducible rfl
                                  rotate_left
                                  · simp only [Act.put, List.setIfInBounds_toArray, List.set_cons_zero, List.set_cons_succ, i64_w, i32_w]
                                    rfl
                                  refine take_ (i := 3) (N := some 28) (v := ?_) (a' := ?_) #[true, false, true, true, false, false, false, false, true, false, false, false, false] rfl rfl (take_ofW HT_.out HW_.out (by kernel_rfl)) (fun _ _ _ h => h) (Or.inl ⟨by rfl, ?_⟩) hHeld ?_ ?_
                                  rotate_left
                                  · rintro w' ⟨s0, s1⟩
                                    go_simp
                                    with_reducible rfl
                                  rotate_left
                                  · simp only [Act.put, List.setIfInBounds_toArray, List.set_cons_zero, List.set_cons_succ, i64_w, i32_w]
                                    rfl
                                  refine take_ (i := 9) (N := some 34) (v := ?_) (a' := ?_) #[true, false, true, true, false, false, false, false, true, true, false, false, false] rfl rfl (take_ofW HT_.out HW_.out (by kernel_rfl)) (fun _ _ _ h => h) (Or.inl ⟨by rfl, ?_⟩) hHeld ?_ ?_
                                  rotate_left
                                  · rintro w' ⟨s0, s1⟩
                                    go_simp
                                    with_reducible rfl
                                  rotate_left
                                  · simp only [Act.put, List.setIfInBounds_toArray, List.set_cons_zero, List.set_cons_succ, i64_w, i32_w]
                                    rfl
                                  refine one_ (i := 1) (N := some 26) #[true, true, true, true, false, false, false, false, true, true, false, false, false] rfl rfl (one_of HT_.out (by kernel_rfl)) (by decide) (fun K hK => ?_)
                                  refine goes_ Tryd.func36 (by kernel_rfl) rfl #[] (by rfl) rfl rfl (by (try simp only [List.map_toArray, List.map_cons, List.map_nil]); first | done | rfl | (simp only [List.length_drop, List.length_take]; rfl)) ?_
                                  with_reducible refine (deadboltref12_words.calls  t228 _ A24.out).mono ?_
                                  rintro e w35 ⟨v229, rfl, ho0, hb⟩
                                  refine ⟨_, rfl, ?_⟩
                                  have n0_ := Aside0.mk (Kd.R_lower ho0 (below_size (by repeat (first | (with_reducible first | exact HB.out | apply below_alloc | apply pw_below_drewN | apply below_drew1 | refine below_set ?_ GE222.out) | exact HB.out))))
                                  have n1_ := Aside0.mk (blk_below (g := gb222) (o := .cells #[.int .i64 ((rd_T32 (rd_L4 l0 x10_1) x16_2).f0), .int .i64 ((rd_T32 (rd_L4 l0 x10_1) x16_2).f1)] 32 (0, 0)) (by (with_reducible repeat (first | refine blk_drewN ?_ _ | refine blk_drew ?_ | refine blk_alloc ?_ _)); exact BK222.out) hb)
                                  have n2_ := Aside0.mk (below_step (by repeat (first | (with_reducible first | exact HB.out | apply below_alloc | apply pw_below_drewN | apply below_drew1 | refine below_set ?_ GE222.out) | exact HB.out)) hb)
                                  clear BK222
                                  clear HB
                                  have HO230 := n0_
                                  have BK222 := n1_
                                  have HB := n2_
                                  clear n0_ n1_ n2_
                                  (try clear hb)
                                  (try clear hb2)
                                  (try clear hk)
                                  (try clear hi)
                                  (try clear ho0)
                                  obtain ⟨Ao36, co36, eo36⟩ := Kd.R_slice HO230.out
                                  (first | subst eo36 | (injection eo36 with f1_ f2_ f3_; have f4_ := f1_.symm; have f5_ := f3_.symm; clear f1_ f2_ f3_; subst f4_; subst f5_))
                                  have p231 : 0 ≤ (((rd_T32 (rd_L4 l0 x10_1) x16_2).f0) : Int) := of_decide_eq_true (by first | (with_reducible assumption) | assumption)
                                  have q231 : ((rd_T32 (rd_L4 l0 x10_1) x16_2).f0) < (t228.length : Int) := of_decide_eq_true (by first | (with_reducible assumption) | assumption)
                                  obtain ⟨ad231, e231, hx231_0⟩ := Kd.at_string (Kd.R_reads' HO230.out).2.2 ((rd_T32 (rd_L4 l0 x10_1) x16_2).f0) p231 q231
                                  cases e231
                                  replace p231 := eq_true p231
                                  replace q231 := eq_true q231
                                  refine hK.out _ _ ⟨(blk_cell BK222.out 0).trans rfl, (blk_cell BK222.out 1).trans rfl⟩ (fun _ => wide_ (S1 := fun w' => w'.cell? ⟨gb222, 0, none⟩ = some (.int .i64 ((rd_T32 (rd_L4 l0 x10_1) x16_2).f0)) ∧ w'.cell? ⟨gb222, 1, none⟩ = some (.int .i64 ((rd_T32 (rd_L4 l0 x10_1) x16_2).f1)) ∧ w'.cell? (ad231.add (((rd_T32 (rd_L4 l0 x10_1) x16_2).f0)).toNat) = some (.string (rdOf ByteArray.empty t228 ((rd_T32 (rd_L4 l0 x10_1) x16_2).f0)))) (fun _ h => ⟨h.1, h.2.1⟩) ⟨(blk_cell BK222.out 0).trans rfl, (blk_cell BK222.out 1).trans rfl, hx231_0⟩ (fun hHeld => ?_))
                                  clear hK K
                                  refine norm_ (a' := ?_) ?_ ?_
                                  rotate_left
                                  · show Act.put _ (some 26) _ = _
                                    simp only [Act.put, List.setIfInBounds_toArray, List.set_cons_zero, List.set_cons_succ, i64_w, i32_w]
                                    rfl
                                  refine pure_ (i := 4) (N := some 29) (v := ?_) (a' := ?_) #[true, true, true, true, true, false, false, false, true, true, false, false, false] rfl rfl (any_of HT_.out (by kernel_rfl)) (fun _ _ _ h => h) (Or.inl ⟨by rfl, ?_⟩) ?_ ?_
                                  rotate_left
                                  · intro w'
                                    go_simp
                                    with_reducible rfl
                                  rotate_left
                                  · simp only [Act.put, List.setIfInBounds_toArray, List.set_cons_zero, List.set_cons_succ, i64_w, i32_w]
                                    rfl
                                  refine take_ (i := 5) (N := some 30) (v := ?_) (a' := ?_) #[true, true, true, true, true, true, false, false, true, true, false, false, false] rfl rfl (take_ofW HT_.out HW_.out (by kernel_rfl)) (fun _ _ _ h => h) (Or.inl ⟨by rfl, ?_⟩) hHeld ?_ ?_
                                  rotate_left
                                  · rintro w' ⟨s0, s1, s2⟩
                                    go_simp
                                    with_reducible rfl
                                  rotate_left
                                  · simp only [Act.put, List.setIfInBounds_toArray, List.set_cons_zero, List.set_cons_succ, i64_w, i32_w]
                                    rfl
                                  refine pure_ (i := 6) (N := some 31) (v := ?_) (a' := ?_) #[true, true, true, true, true, true, true, false, true, true, false, false, false] rfl rfl (any_of HT_.out (by kernel_rfl)) (fun _ _ _ h => h) (Or.inl ⟨by rfl, ?_⟩) ?_ ?_
                                  rotate_left
                                  · intro w'
                                    go_simp
                                    with_reducible rfl
                                  rotate_left
                                  · simp only [Act.put, List.setIfInBounds_toArray, List.set_cons_zero, List.set_cons_succ, i64_w, i32_w]
                                    rfl
                                  refine pure_ (i := 7) (N := some 32) (v := ?_) (a' := ?_) #[true, true, true, true, true, true, true, true, true, true, false, false, false] rfl rfl (any_of HT_.out (by kernel_rfl)) (fun _ _ _ h => h) (Or.inl ⟨by rfl, ?_⟩) ?_ ?_
                                  rotate_left
                                  · intro w'
                                    go_simp
                                    with_reducible rfl
                                  rotate_left
                                  · simp only [Act.put, List.setIfInBounds_toArray, List.set_cons_zero, List.set_cons_succ, i64_w, i32_w]
                                    rfl
                                  refine one_ (i := 10) (N := some 35) #[true, true, true, true, true, true, true, true, true, true, true, false, false] rfl rfl (one_of HT_.out (by kernel_rfl)) (by decide) (fun K hK => ?_)
                                  refine goes_ Tryd.func37 (by kernel_rfl) rfl #[.int .i64 ((rd_T32 (rd_L4 l0 x10_1) x16_2).f1)] (by rfl) rfl rfl (by (try simp only [List.map_toArray, List.map_cons, List.map_nil]); first | done | rfl | (simp only [List.length_drop, List.length_take]; rfl)) ?_
                                  with_reducible refine (deadboltref12_digits.calls k2 ((rd_T32 (rd_L4 l0 x10_1) x16_2).f1) t232 _ A29.out).mono ?_
                                  rintro e w37 ⟨rfl, hb⟩
                                  have HS2_ := (hb.cell (World.block_lt_of_cell? _ _ (hHeld.2.2))).trans (hHeld.2.2)
                                  refine ⟨_, rfl, ?_⟩
                                  have n0_ := Aside0.mk (Kd.R_below (by (with_reducible repeat (first | apply Kd.R_alloc | apply Kd.R_drewN | apply Kd.R_drew)); exact HO230.out) hb)
                                  have n1_ := Aside0.mk (blk_below (g := gb222) (o := .cells #[.int .i64 ((rd_T32 (rd_L4 l0 x10_1) x16_2).f0), .int .i64 ((rd_T32 (rd_L4 l0 x10_1) x16_2).f1)] 32 (0, 0)) (by (with_reducible repeat (first | refine blk_drewN ?_ _ | refine blk_drew ?_ | refine blk_alloc ?_ _)); exact BK222.out) hb)
                                  have n2_ := Aside0.mk (below_step (by repeat (first | (with_reducible first | exact HB.out | apply below_alloc | apply pw_below_drewN | apply below_drew1 | refine below_set ?_ GE222.out) | exact HB.out)) hb)
                                  clear HO230
                                  clear BK222
                                  clear HB
                                  have HO230 := n0_
                                  have BK222 := n1_
                                  have HB := n2_
                                  clear n0_ n1_ n2_
                                  (try clear hb)
                                  (try clear hb2)
                                  (try clear hk)
                                  (try clear hi)
                                  refine hK.out _ _ ⟨(blk_cell BK222.out 0).trans rfl, (blk_cell BK222.out 1).trans rfl, HS2_⟩ (fun hHeld => ?_)
                                  clear hK K
                                  refine norm_ (a' := ?_) ?_ ?_
                                  rotate_left
                                  · show Act.put _ (some 35) _ = _
                                    simp only [Act.put, List.setIfInBounds_toArray, List.set_cons_zero, List.set_cons_succ, i64_w, i32_w]
                                    rfl
                                  refine pure_ (i := 11) (N := some 36) (v := ?_) (a' := ?_) #[true, true, true, true, true, true, true, true, true, true, true, true, false] rfl rfl (any_of HT_.out (by kernel_rfl)) (fun _ _ _ h => h) (Or.inl ⟨by rfl, ?_⟩) ?_ ?_
                                  rotate_left
                                  · intro w'
                                    go_simp
                                    with_reducible rfl
                                  rotate_left
                                  · simp only [Act.put, List.setIfInBounds_toArray, List.set_cons_zero, List.set_cons_succ, i64_w, i32_w]
                                    rfl
                                  refine pure_ (i := 12) (N := some 3) (v := ?_) (a' := ?_) #[true, true, true, true, true, true, true, true, true, true, true, true, true] rfl rfl (any_of HT_.out (by kernel_rfl)) (fun _ _ _ h => h) (Or.inl ⟨by rfl, ?_⟩) ?_ ?_
                                  rotate_left
                                  · intro w'
                                    go_simp
                                    with_reducible rfl
                                  rotate_left
                                  · simp only [Act.put, List.setIfInBounds_toArray, List.set_cons_zero, List.set_cons_succ, i64_w, i32_w]
                                    rfl
                                  refine done_ (done_of HT_.out (by kernel_rfl)) ?_
                                  try go_wp2
                                  go_roundg k2
                                  case measure => have := HK1.out; have := HK2.out; omega
                                  case rel => exact ⟨(((x3_2 ++ (rdOf ByteArray.empty t228 ((rd_T32 (rd_L4 l0 x10_1) x16_2).f0))) ++ (⟨#[32]⟩ : ByteArray)) ++ t232), (wrap64 (x16_2 + 1)), (by first | rfl | (simp; done) | (simp [*]; done)), (by first | rfl | (simp; done) | (simp [*]; done)), H', ⟨by have := HK1.out; have := HK2.out; omega⟩, ⟨by repeat (first | (with_reducible first | exact HB.out | apply below_alloc | apply pw_below_drewN | apply below_drew1 | refine below_set ?_ GE222.out) | exact HB.out)⟩⟩
                                · rw [if_neg c30] at H
                                  exact absurd H (by simp)
                              · rw [if_neg c28] at H
                                exact absurd H (by simp)
                            · rw [if_neg c27] at H
                              exact absurd H (by simp)
                          · rw [if_neg c26] at H
                            exact absurd H (by simp)
                        · rw [if_neg c25] at H
                          exact absurd H (by simp)
                    · rw [if_neg c7] at H
                      exact absurd H (by simp)
                  · rw [if_neg c6] at H
                    exact absurd H (by simp)
                · rw [if_neg c5] at H
                  have c5b0 : decide (x16_2 < ((rd_L4 l0 x10_1).length : Int)) = false := decide_eq_false c5
                  clear c5
                  by_cases c38 : x3_2.size + 1 ≤ 9223372036854775807
                  · rw [if_pos c38] at H
                    have c38b0 := eq_true c38
                    have c38b1 : decide (x3_2.size + 1 ≤ 9223372036854775807) = true := decide_eq_true c38
                    try have c38b2 : (9223372036854775807 < x3_2.size + 1) = False := eq_false (Nat.not_lt.2 c38)
                    have H' := Aside0.mk H
                    clear H
                    go_wp2
                    go_roundg k2
                    case measure => have := HK1.out; have := HK2.out; omega
                    case rel => exact ⟨(x3_2 ++ (⟨#[10]⟩ : ByteArray)), (wrap64 (x10_1 + 1)), (by first | rfl | (simp; done) | (simp [*]; done)), (by first | rfl | (simp; done) | (simp [*]; done)), H', ⟨by have := HK1.out; have := HK2.out; omega⟩, ⟨by repeat (first | (with_reducible first | exact HB.out | apply below_alloc | apply pw_below_drewN | apply below_drew1) | exact HB.out)⟩⟩
                  · rw [if_neg c38] at H
                    exact absurd H (by simp)
          · rw [if_neg c4] at H
            exact absurd H (by simp)
        · rw [if_neg c3] at H
          exact absurd H (by simp)
      · rw [if_neg c2] at H
        have c2b0 : decide (x10_1 < (l0.length : Int)) = false := decide_eq_false c2
        clear c2
        obtain rfl := Option.some.inj H
        go_wp2
        go_ret
        exact ⟨by first | rfl | (simp [errW_none, errW_some] <;> rfl) | (simp [*, errW_none, errW_some] <;> rfl), by repeat (first | (with_reducible first | exact HB.out | apply below_alloc | apply pw_below_drewN | apply below_drew1) | exact HB.out)⟩

end Go.Proofs.YtfebhemdpbnebaaDoor.PProgPrints
