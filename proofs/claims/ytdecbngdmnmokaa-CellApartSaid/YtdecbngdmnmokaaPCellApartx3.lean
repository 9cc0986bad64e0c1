/- The functions that a law reaches, as Lean functions, and for each a proof that the call hands back just what its Lean function says; no conditions beyond each statement. Written by a program of this session (a changed copy of the print). -/
import Derived.Test.YtdecbngdmnmokaaPCellApartx0
import Derived.Test.YtdecbngdmnmokaaPCellApartx2
namespace Go.Proofs.Ytdecbngdmnmokaa.PCellApart
open Go.Proofs.Ytdecbngdmnmokaa.Hand
open Go.RowKit Go.Proofs.YtdecbngdmnmokaaW.PrintWords Go.Proofs.YtdecbngdmnmokaaW.PrintLast Go.Proofs.YtdecbngdmnmokaaW.PrintMore
attribute [local go_sem] max2_int min2_int max_two min_two max_three min_three max_four min_four   -- for this text's walks alone
set_option linter.unusedVariables false
set_option linter.unusedSimpArgs false

/-! ### deadboltlaw02_CellApart: function 4 -/
mutual
def deadboltlaw02_CellApart.j0 : Nat → List (S44) → Int → Int → Int → Int → Bool → Option (Bool)
  | 0, _, _, _, _, _, _ => none
  | k + 1, x0, x1, x2, x3, x4, x128 => if x128 = true then (some false) else ((cell_Add.f x0 x1 x3).bind fun bt143 => ((cell_Add.f bt143.1 x1 x4).bind fun bt148 => ((cell_Add.f x0 x1 x4).bind fun bt153 => ((cell_Add.f bt153.1 x1 x3).bind fun bt158 => (if bt143.2.2 = 0 then (if bt148.2.2 = 0 then (if bt153.2.2 = 0 then (if bt158.2.2 = 0 then (if bt148.2.1 = bt158.2.1 then ((deadboltref02_Same.f k bt148.1 bt158.1).bind fun t163 => (deadboltlaw02_CellApart.j1 k x0 x1 x2 bt148.1 (!t163))) else (deadboltlaw02_CellApart.j1 k x0 x1 x2 bt148.1 true)) else (deadboltlaw02_CellApart.j1 k x0 x1 x2 bt148.1 true)) else (deadboltlaw02_CellApart.j1 k x0 x1 x2 bt148.1 true)) else (deadboltlaw02_CellApart.j1 k x0 x1 x2 bt148.1 true)) else (deadboltlaw02_CellApart.j1 k x0 x1 x2 bt148.1 true))))))
def deadboltlaw02_CellApart.j1 : Nat → List (S44) → Int → Int → List (S44) → Bool → Option (Bool)
  | 0, _, _, _, _, _ => none
  | k + 1, x0, x1, x2, x24, x185 => if x185 = true then (some false) else ((cell_Load.f x0 x2).bind fun bt164 => ((cell_Load.f x24 x2).bind fun bt166 => ((deadboltlaw02_alive.f).bind fun t168 => (if t168 = true then (if bt164.2 = bt166.2 then (if x2 = x1 then (some true) else (some (bt164.1 == bt166.1))) else (some false)) else (some false)))))
end
def deadboltlaw02_CellApart.f (k : Nat) (l0 : List (S44)) (a1 : Int) (a2 : Int) (a3 : Int) (a4 : Int) : Option (Bool) := (deadboltlaw02_few.f l0).bind fun t117 => ((cell_Load.f t117 a1).bind fun bt120 => (if bt120.2 = 0 then ((cell_Swap.f t117 a1 a3).bind fun bt123 => ((cell_Swap.f bt123.1 a1 bt123.2.1).bind fun bt128 => ((cell_Cas.f t117 a1 bt120.1 a3).bind fun bt133 => ((cell_Load.f bt123.1 a1).bind fun bt138 => (if bt123.2.2 = 0 then (if bt128.2.2 = 0 then (if bt133.2.2 = 0 then (if bt138.2 = 0 then (if bt123.2.1 = bt120.1 then (if bt128.2.1 = bt138.1 then (if bt133.2.1 = true then ((deadboltref02_Same.f k bt123.1 bt133.1).bind fun t140 => (if t140 = true then ((deadboltref02_Same.f k bt128.1 t117).bind fun t141 => (if t141 = true then ((cell_Right.f bt123.1).bind fun t142 => (deadboltlaw02_CellApart.j0 k t117 a1 a2 a3 a4 (!t142))) else (deadboltlaw02_CellApart.j0 k t117 a1 a2 a3 a4 true))) else (deadboltlaw02_CellApart.j0 k t117 a1 a2 a3 a4 true))) else (deadboltlaw02_CellApart.j0 k t117 a1 a2 a3 a4 true)) else (deadboltlaw02_CellApart.j0 k t117 a1 a2 a3 a4 true)) else (deadboltlaw02_CellApart.j0 k t117 a1 a2 a3 a4 true)) else (deadboltlaw02_CellApart.j0 k t117 a1 a2 a3 a4 true)) else (deadboltlaw02_CellApart.j0 k t117 a1 a2 a3 a4 true)) else (deadboltlaw02_CellApart.j0 k t117 a1 a2 a3 a4 true)) else (deadboltlaw02_CellApart.j0 k t117 a1 a2 a3 a4 true)))))) else ((deadboltlaw02_alive.f).bind fun t122 => (if t122 = true then (some (bt120.1 == 0)) else (some false)))))
theorem deadboltlaw02_CellApart.mono_l : ∀ k, (∀ y0 y1 y2 y3 y4 y5, LeO (deadboltlaw02_CellApart.j0 k y0 y1 y2 y3 y4 y5) (deadboltlaw02_CellApart.j0 (k + 1) y0 y1 y2 y3 y4 y5)) ∧ (∀ y0 y1 y2 y3 y4, LeO (deadboltlaw02_CellApart.j1 k y0 y1 y2 y3 y4) (deadboltlaw02_CellApart.j1 (k + 1) y0 y1 y2 y3 y4))
  | 0 => ⟨fun _ _ _ _ _ _ r h => by simp [deadboltlaw02_CellApart.j0] at h, fun _ _ _ _ _ r h => by simp [deadboltlaw02_CellApart.j1] at h⟩
  | k + 1 => by
    obtain ⟨ih0, ih1⟩ := deadboltlaw02_CellApart.mono_l k
    refine ⟨?_, ?_⟩
    · intro y0 y1 y2 y3 y4 y5
      unfold deadboltlaw02_CellApart.j0
      repeat' first
      | (with_reducible exact ih0 _ _ _ _ _ _)
      | (with_reducible exact ih1 _ _ _ _ _)
      | (with_reducible exact deadboltref02_Same.mono _ _ _)
      | (with_reducible exact LeO.refl _)
      | (with_reducible exact LeO.none _)
      | (with_reducible refine LeO.ite ?_ ?_)
      | (with_reducible refine LeO.bind ?_ (fun _ => ?_))
      | exact ih0 _ _ _ _ _ _
      | exact ih1 _ _ _ _ _
      | exact deadboltref02_Same.mono _ _ _
      | exact LeO.none _
      | refine LeO.ite ?_ ?_
      | refine LeO.bind ?_ (fun _ => ?_)
    · intro y0 y1 y2 y3 y4
      unfold deadboltlaw02_CellApart.j1
      repeat' first
      | (with_reducible exact ih0 _ _ _ _ _ _)
      | (with_reducible exact ih1 _ _ _ _ _)
      | (with_reducible exact deadboltref02_Same.mono _ _ _)
      | (with_reducible exact LeO.refl _)
      | (with_reducible exact LeO.none _)
      | (with_reducible refine LeO.ite ?_ ?_)
      | (with_reducible refine LeO.bind ?_ (fun _ => ?_))
      | exact ih0 _ _ _ _ _ _
      | exact ih1 _ _ _ _ _
      | exact deadboltref02_Same.mono _ _ _
      | exact LeO.none _
      | refine LeO.ite ?_ ?_
      | refine LeO.bind ?_ (fun _ => ?_)
theorem deadboltlaw02_CellApart.mono : ∀ a0 a1 a2 a3 a4 k, LeO (deadboltlaw02_CellApart.f k a0 a1 a2 a3 a4) (deadboltlaw02_CellApart.f (k + 1) a0 a1 a2 a3 a4) := by
  intro a0 a1 a2 a3 a4 k
  obtain ⟨ih0, ih1⟩ := deadboltlaw02_CellApart.mono_l k
  unfold deadboltlaw02_CellApart.f
  repeat' first
      | (with_reducible exact ih0 _ _ _ _ _ _)
      | (with_reducible exact ih1 _ _ _ _ _)
      | (with_reducible exact deadboltref02_Same.mono _ _ _)
      | (with_reducible exact LeO.refl _)
      | (with_reducible exact LeO.none _)
      | (with_reducible refine LeO.ite ?_ ?_)
      | (with_reducible refine LeO.bind ?_ (fun _ => ?_))
      | exact ih0 _ _ _ _ _ _
      | exact ih1 _ _ _ _ _
      | exact deadboltref02_Same.mono _ _ _
      | exact LeO.none _
      | refine LeO.ite ?_ ?_
      | refine LeO.bind ?_ (fun _ => ?_)
set_option maxHeartbeats 8000000 in
set_option maxRecDepth 100000 in
theorem deadboltlaw02_CellApart.calls (k : Nat) (A0 : Option Addr) (c0 : Nat) (l0 : List (S44)) (a1 : Int) (a2 : Int) (a3 : Int) (a4 : Int) (r : Bool) (w : World) (hr0 : Kd.C k44 w A0 l0.length l0) (hc0 : l0.length ≤ c0) (h : deadboltlaw02_CellApart.f k l0 a1 a2 a3 a4 = some r) :
    Calls Try.prog 4 #[.slice A0 l0.length c0, .int .i64 a1, .int .i64 a2, .int .i64 a3, .int .i64 a4] w fun e w' => e = .returned (.bool r) ∧ Below w.heap.size w w' := by
  have HR0 := Aside0.mk hr0
  have HC0 := Aside0.mk hc0
  clear hr0 hc0
  have HB := Aside0.mk (Below.refl w.heap.size w)
  have H : ((deadboltlaw02_few.f l0).bind fun t117 => ((cell_Load.f t117 a1).bind fun bt120 => (if bt120.2 = 0 then ((cell_Swap.f t117 a1 a3).bind fun bt123 => ((cell_Swap.f bt123.1 a1 bt123.2.1).bind fun bt128 => ((cell_Cas.f t117 a1 bt120.1 a3).bind fun bt133 => ((cell_Load.f bt123.1 a1).bind fun bt138 => (if bt123.2.2 = 0 then (if bt128.2.2 = 0 then (if bt133.2.2 = 0 then (if bt138.2 = 0 then (if bt123.2.1 = bt120.1 then (if bt128.2.1 = bt138.1 then (if bt133.2.1 = true then ((deadboltref02_Same.f k bt123.1 bt133.1).bind fun t140 => (if t140 = true then ((deadboltref02_Same.f k bt128.1 t117).bind fun t141 => (if t141 = true then ((cell_Right.f bt123.1).bind fun t142 => (deadboltlaw02_CellApart.j0 k t117 a1 a2 a3 a4 (!t142))) else (deadboltlaw02_CellApart.j0 k t117 a1 a2 a3 a4 true))) else (deadboltlaw02_CellApart.j0 k t117 a1 a2 a3 a4 true))) else (deadboltlaw02_CellApart.j0 k t117 a1 a2 a3 a4 true)) else (deadboltlaw02_CellApart.j0 k t117 a1 a2 a3 a4 true)) else (deadboltlaw02_CellApart.j0 k t117 a1 a2 a3 a4 true)) else (deadboltlaw02_CellApart.j0 k t117 a1 a2 a3 a4 true)) else (deadboltlaw02_CellApart.j0 k t117 a1 a2 a3 a4 true)) else (deadboltlaw02_CellApart.j0 k t117 a1 a2 a3 a4 true)) else (deadboltlaw02_CellApart.j0 k t117 a1 a2 a3 a4 true)))))) else ((deadboltlaw02_alive.f).bind fun t122 => (if t122 = true then (some (bt120.1 == 0)) else (some false)))))) = some r := h
  clear h
  replace H := Option.bind_eq_some_iff.mp H
  obtain ⟨t117, A60, H⟩ := H
  replace H : ((cell_Load.f t117 a1).bind fun bt120 => (if bt120.2 = 0 then ((cell_Swap.f t117 a1 a3).bind fun bt123 => ((cell_Swap.f bt123.1 a1 bt123.2.1).bind fun bt128 => ((cell_Cas.f t117 a1 bt120.1 a3).bind fun bt133 => ((cell_Load.f bt123.1 a1).bind fun bt138 => (if bt123.2.2 = 0 then (if bt128.2.2 = 0 then (if bt133.2.2 = 0 then (if bt138.2 = 0 then (if bt123.2.1 = bt120.1 then (if bt128.2.1 = bt138.1 then (if bt133.2.1 = true then ((deadboltref02_Same.f k bt123.1 bt133.1).bind fun t140 => (if t140 = true then ((deadboltref02_Same.f k bt128.1 t117).bind fun t141 => (if t141 = true then ((cell_Right.f bt123.1).bind fun t142 => (deadboltlaw02_CellApart.j0 k t117 a1 a2 a3 a4 (!t142))) else (deadboltlaw02_CellApart.j0 k t117 a1 a2 a3 a4 true))) else (deadboltlaw02_CellApart.j0 k t117 a1 a2 a3 a4 true))) else (deadboltlaw02_CellApart.j0 k t117 a1 a2 a3 a4 true)) else (deadboltlaw02_CellApart.j0 k t117 a1 a2 a3 a4 true)) else (deadboltlaw02_CellApart.j0 k t117 a1 a2 a3 a4 true)) else (deadboltlaw02_CellApart.j0 k t117 a1 a2 a3 a4 true)) else (deadboltlaw02_CellApart.j0 k t117 a1 a2 a3 a4 true)) else (deadboltlaw02_CellApart.j0 k t117 a1 a2 a3 a4 true)) else (deadboltlaw02_CellApart.j0 k t117 a1 a2 a3 a4 true)))))) else ((deadboltlaw02_alive.f).bind fun t122 => (if t122 = true then (some (bt120.1 == 0)) else (some false))))) = some r := H
  have A6 := Aside0.mk A60
  clear A60
  replace H := Option.bind_eq_some_iff.mp H
  obtain ⟨⟨t120, t121⟩, A70, H⟩ := H
  replace H : (if t121 = 0 then ((cell_Swap.f t117 a1 a3).bind fun bt123 => ((cell_Swap.f bt123.1 a1 bt123.2.1).bind fun bt128 => ((cell_Cas.f t117 a1 t120 a3).bind fun bt133 => ((cell_Load.f bt123.1 a1).bind fun bt138 => (if bt123.2.2 = 0 then (if bt128.2.2 = 0 then (if bt133.2.2 = 0 then (if bt138.2 = 0 then (if bt123.2.1 = t120 then (if bt128.2.1 = bt138.1 then (if bt133.2.1 = true then ((deadboltref02_Same.f k bt123.1 bt133.1).bind fun t140 => (if t140 = true then ((deadboltref02_Same.f k bt128.1 t117).bind fun t141 => (if t141 = true then ((cell_Right.f bt123.1).bind fun t142 => (deadboltlaw02_CellApart.j0 k t117 a1 a2 a3 a4 (!t142))) else (deadboltlaw02_CellApart.j0 k t117 a1 a2 a3 a4 true))) else (deadboltlaw02_CellApart.j0 k t117 a1 a2 a3 a4 true))) else (deadboltlaw02_CellApart.j0 k t117 a1 a2 a3 a4 true)) else (deadboltlaw02_CellApart.j0 k t117 a1 a2 a3 a4 true)) else (deadboltlaw02_CellApart.j0 k t117 a1 a2 a3 a4 true)) else (deadboltlaw02_CellApart.j0 k t117 a1 a2 a3 a4 true)) else (deadboltlaw02_CellApart.j0 k t117 a1 a2 a3 a4 true)) else (deadboltlaw02_CellApart.j0 k t117 a1 a2 a3 a4 true)) else (deadboltlaw02_CellApart.j0 k t117 a1 a2 a3 a4 true)))))) else ((deadboltlaw02_alive.f).bind fun t122 => (if t122 = true then (some (t120 == 0)) else (some false)))) = some r := H
  have A7 := Aside0.mk A70
  clear A70
  by_cases c8 : t121 = 0
  · rw [if_pos c8] at H
    have c8b0 : (t121 == 0) = true := beq_iff_eq.mpr c8
    have c8b1 : (t121 != 0) = false := bne_eq_false_iff_eq.mpr c8
    clear c8
    replace H := Option.bind_eq_some_iff.mp H
    obtain ⟨⟨t123, t124, t125⟩, A90, H⟩ := H
    replace H : ((cell_Swap.f t123 a1 t124).bind fun bt128 => ((cell_Cas.f t117 a1 t120 a3).bind fun bt133 => ((cell_Load.f t123 a1).bind fun bt138 => (if t125 = 0 then (if bt128.2.2 = 0 then (if bt133.2.2 = 0 then (if bt138.2 = 0 then (if t124 = t120 then (if bt128.2.1 = bt138.1 then (if bt133.2.1 = true then ((deadboltref02_Same.f k t123 bt133.1).bind fun t140 => (if t140 = true then ((deadboltref02_Same.f k bt128.1 t117).bind fun t141 => (if t141 = true then ((cell_Right.f t123).bind fun t142 => (deadboltlaw02_CellApart.j0 k t117 a1 a2 a3 a4 (!t142))) else (deadboltlaw02_CellApart.j0 k t117 a1 a2 a3 a4 true))) else (deadboltlaw02_CellApart.j0 k t117 a1 a2 a3 a4 true))) else (deadboltlaw02_CellApart.j0 k t117 a1 a2 a3 a4 true)) else (deadboltlaw02_CellApart.j0 k t117 a1 a2 a3 a4 true)) else (deadboltlaw02_CellApart.j0 k t117 a1 a2 a3 a4 true)) else (deadboltlaw02_CellApart.j0 k t117 a1 a2 a3 a4 true)) else (deadboltlaw02_CellApart.j0 k t117 a1 a2 a3 a4 true)) else (deadboltlaw02_CellApart.j0 k t117 a1 a2 a3 a4 true)) else (deadboltlaw02_CellApart.j0 k t117 a1 a2 a3 a4 true))))) = some r := H
    have A9 := Aside0.mk A90
    clear A90
    replace H := Option.bind_eq_some_iff.mp H
    obtain ⟨⟨t128, t129, t130⟩, A100, H⟩ := H
    replace H : ((cell_Cas.f t117 a1 t120 a3).bind fun bt133 => ((cell_Load.f t123 a1).bind fun bt138 => (if t125 = 0 then (if t130 = 0 then (if bt133.2.2 = 0 then (if bt138.2 = 0 then (if t124 = t120 then (if t129 = bt138.1 then (if bt133.2.1 = true then ((deadboltref02_Same.f k t123 bt133.1).bind fun t140 => (if t140 = true then ((deadboltref02_Same.f k t128 t117).bind fun t141 => (if t141 = true then ((cell_Right.f t123).bind fun t142 => (deadboltlaw02_CellApart.j0 k t117 a1 a2 a3 a4 (!t142))) else (deadboltlaw02_CellApart.j0 k t117 a1 a2 a3 a4 true))) else (deadboltlaw02_CellApart.j0 k t117 a1 a2 a3 a4 true))) else (deadboltlaw02_CellApart.j0 k t117 a1 a2 a3 a4 true)) else (deadboltlaw02_CellApart.j0 k t117 a1 a2 a3 a4 true)) else (deadboltlaw02_CellApart.j0 k t117 a1 a2 a3 a4 true)) else (deadboltlaw02_CellApart.j0 k t117 a1 a2 a3 a4 true)) else (deadboltlaw02_CellApart.j0 k t117 a1 a2 a3 a4 true)) else (deadboltlaw02_CellApart.j0 k t117 a1 a2 a3 a4 true)) else (deadboltlaw02_CellApart.j0 k t117 a1 a2 a3 a4 true)))) = some r := H
    have A10 := Aside0.mk A100
    clear A100
    replace H := Option.bind_eq_some_iff.mp H
    obtain ⟨⟨t133, t134, t135⟩, A110, H⟩ := H
    replace H : ((cell_Load.f t123 a1).bind fun bt138 => (if t125 = 0 then (if t130 = 0 then (if t135 = 0 then (if bt138.2 = 0 then (if t124 = t120 then (if t129 = bt138.1 then (if t134 = true then ((deadboltref02_Same.f k t123 t133).bind fun t140 => (if t140 = true then ((deadboltref02_Same.f k t128 t117).bind fun t141 => (if t141 = true then ((cell_Right.f t123).bind fun t142 => (deadboltlaw02_CellApart.j0 k t117 a1 a2 a3 a4 (!t142))) else (deadboltlaw02_CellApart.j0 k t117 a1 a2 a3 a4 true))) else (deadboltlaw02_CellApart.j0 k t117 a1 a2 a3 a4 true))) else (deadboltlaw02_CellApart.j0 k t117 a1 a2 a3 a4 true)) else (deadboltlaw02_CellApart.j0 k t117 a1 a2 a3 a4 true)) else (deadboltlaw02_CellApart.j0 k t117 a1 a2 a3 a4 true)) else (deadboltlaw02_CellApart.j0 k t117 a1 a2 a3 a4 true)) else (deadboltlaw02_CellApart.j0 k t117 a1 a2 a3 a4 true)) else (deadboltlaw02_CellApart.j0 k t117 a1 a2 a3 a4 true)) else (deadboltlaw02_CellApart.j0 k t117 a1 a2 a3 a4 true))) = some r := H
    have A11 := Aside0.mk A110
    clear A110
    replace H := Option.bind_eq_some_iff.mp H
    obtain ⟨⟨t138, t139⟩, A120, H⟩ := H
    replace H : (if t125 = 0 then (if t130 = 0 then (if t135 = 0 then (if t139 = 0 then (if t124 = t120 then (if t129 = t138 then (if t134 = true then ((deadboltref02_Same.f k t123 t133).bind fun t140 => (if t140 = true then ((deadboltref02_Same.f k t128 t117).bind fun t141 => (if t141 = true then ((cell_Right.f t123).bind fun t142 => (deadboltlaw02_CellApart.j0 k t117 a1 a2 a3 a4 (!t142))) else (deadboltlaw02_CellApart.j0 k t117 a1 a2 a3 a4 true))) else (deadboltlaw02_CellApart.j0 k t117 a1 a2 a3 a4 true))) else (deadboltlaw02_CellApart.j0 k t117 a1 a2 a3 a4 true)) else (deadboltlaw02_CellApart.j0 k t117 a1 a2 a3 a4 true)) else (deadboltlaw02_CellApart.j0 k t117 a1 a2 a3 a4 true)) else (deadboltlaw02_CellApart.j0 k t117 a1 a2 a3 a4 true)) else (deadboltlaw02_CellApart.j0 k t117 a1 a2 a3 a4 true)) else (deadboltlaw02_CellApart.j0 k t117 a1 a2 a3 a4 true)) else (deadboltlaw02_CellApart.j0 k t117 a1 a2 a3 a4 true)) = some r := H
    have A12 := Aside0.mk A120
    clear A120
    have HC13 := Aside0.mk H
    clear H
    go_enter Try.func4, Try.ntmps4
    go_upto_region 9 with (first | ((with_reducible refine gate_callee (f := 6) rfl ?_); refine goesL_ (some 39) rfl rfl Try.func6 (by kernel_rfl) rfl #[.slice A0 l0.length c0] rfl (by (try simp only [List.map_toArray, List.map_cons, List.map_nil]); first | done | rfl | (simp only [List.length_drop, List.length_take]; rfl)) ?_; (with_reducible refine (deadboltlaw02_few.calls (fun k_ => k_ < w.heap.size) _ _ l0 t117 _ ?side1 A6.out).mono ?_); (case side1 => exact Kd.V_mk HC0.out (Kd.F_below (Kd.C_F k44_heap HR0.out) (by repeat (first | (with_reducible first | exact HB.out | apply below_alloc | apply pw_below_drewN | apply below_drew1) | exact HB.out)))); rintro e w14 ⟨v118, rfl, ho0, hb⟩; refine ⟨_, rfl, ?_⟩; have n0_ := Aside0.mk (Kd.V_lower (Kd.V_mono (ok' := fun k_ => True) ho0 (fun k_ hk_ => trivial)) (below_size (by repeat (first | (with_reducible first | exact HB.out | apply below_alloc | apply pw_below_drewN | apply below_drew1) | exact HB.out)))); have n1_ := Aside0.mk (below_step (by repeat (first | (with_reducible first | exact HB.out | apply below_alloc | apply pw_below_drewN | apply below_drew1) | exact HB.out)) hb); clear HB; have HO119 := n0_; have HB := n1_; clear n0_ n1_; (try clear hb); (try clear hb2); (try clear hk); (try clear hi); (try clear ho0); obtain ⟨Ao15, co15, eo15⟩ := Kd.V_slice HO119.out; subst eo15) | ((with_reducible refine gate_callee (f := 12) rfl ?_); refine goesL_ (some 43) rfl rfl Try.func12 (by kernel_rfl) rfl #[.slice Ao15 t117.length co15, .int .i64 a1] rfl (by (try simp only [List.map_toArray, List.map_cons, List.map_nil]); first | done | rfl | (simp only [List.length_drop, List.length_take]; rfl)) ?_; (with_reducible refine (cell_Load.calls _ _ t117 a1 t120 t121 _ ?side1 ?side2 A7.out).mono ?_); (case side1 => repeat (first | exact (Kd.V_reads' HO119.out).2.2 | (with_reducible refine Kd.C_alloc ?_ _) | (with_reducible refine Kd.C_drewN ?_ _) | (with_reducible refine Kd.C_drew ?_))); (case side2 => exact (Kd.V_reads' HO119.out).2.1); rintro e w16 ⟨rfl, hb⟩; refine ⟨_, rfl, ?_⟩; have n0_ := Aside0.mk (Kd.V_below (by (with_reducible repeat (first | apply Kd.V_alloc | apply Kd.V_drewN | apply Kd.V_drew)); exact HO119.out) hb); have n1_ := Aside0.mk (below_step (by repeat (first | (with_reducible first | exact HB.out | apply below_alloc | apply pw_below_drewN | apply below_drew1) | exact HB.out)) hb); clear HO119; clear HB; have HO119 := n0_; have HB := n1_; clear n0_ n1_; (try clear hb); (try clear hb2); (try clear hk); (try clear hi)) | ((with_reducible refine gate_callee (f := 7) rfl ?_); refine goesL_ (some 57) rfl rfl Try.func7 (by kernel_rfl) rfl #[.slice Ao15 t117.length co15, .int .i64 a1, .int .i64 a3] rfl (by (try simp only [List.map_toArray, List.map_cons, List.map_nil]); first | done | rfl | (simp only [List.length_drop, List.length_take]; rfl)) ?_; (with_reducible refine (cell_Swap.calls _ _ t117 a1 a3 t123 t124 t125 _ ?side1 ?side2 A9.out).mono ?_); (case side1 => repeat (first | exact (Kd.V_reads' HO119.out).2.2 | (with_reducible refine Kd.C_alloc ?_ _) | (with_reducible refine Kd.C_drewN ?_ _) | (with_reducible refine Kd.C_drew ?_))); (case side2 => exact (Kd.V_reads' HO119.out).2.1); rintro e w17 ⟨v126, rfl, ho0, hb⟩; refine ⟨_, rfl, ?_⟩; have n0_ := Aside0.mk (Kd.V_elder' (by (with_reducible repeat (first | apply Kd.V_alloc | apply Kd.V_drewN | apply Kd.V_drew)); exact HO119.out) (Kd.R_base ho0) hb); have n1_ := Aside0.mk (Kd.R_lower ho0 (below_size (by repeat (first | (with_reducible first | exact HB.out | apply below_alloc | apply pw_below_drewN | apply below_drew1) | exact HB.out)))); have n2_ := Aside0.mk (below_step (by repeat (first | (with_reducible first | exact HB.out | apply below_alloc | apply pw_below_drewN | apply below_drew1) | exact HB.out)) hb); clear HO119; clear HB; have HO119 := n0_; have HO127 := n1_; have HB := n2_; clear n0_ n1_ n2_; (try clear hb); (try clear hb2); (try clear hk); (try clear hi); (try clear ho0); obtain ⟨Ao18, co18, eo18⟩ := Kd.R_slice HO127.out; subst eo18) | ((with_reducible refine gate_callee (f := 7) rfl ?_); refine goesL_ (some 65) rfl rfl Try.func7 (by kernel_rfl) rfl #[.slice Ao18 t123.length co18, .int .i64 a1, .int .i64 t124] rfl (by (try simp only [List.map_toArray, List.map_cons, List.map_nil]); first | done | rfl | (simp only [List.length_drop, List.length_take]; rfl)) ?_; (with_reducible refine (cell_Swap.calls _ _ t123 a1 t124 t128 t129 t130 _ ?side1 ?side2 A10.out).mono ?_); (case side1 => repeat (first | exact (Kd.R_reads' HO127.out).2.2 | (with_reducible refine Kd.C_alloc ?_ _) | (with_reducible refine Kd.C_drewN ?_ _) | (with_reducible refine Kd.C_drew ?_))); (case side2 => exact (Kd.R_reads' HO127.out).2.1); rintro e w19 ⟨v131, rfl, ho0, hb⟩; refine ⟨_, rfl, ?_⟩; have n0_ := Aside0.mk (Kd.V_elder' (by (with_reducible repeat (first | apply Kd.V_alloc | apply Kd.V_drewN | apply Kd.V_drew)); exact HO119.out) (Kd.R_base ho0) hb); have n1_ := Aside0.mk (Kd.R_elder' (by (with_reducible repeat (first | apply Kd.R_alloc | apply Kd.R_drewN | apply Kd.R_drew)); exact HO127.out) (Kd.R_base ho0) hb); have n2_ := Aside0.mk (Kd.R_lower (Kd.R_new' ho0 (Kd.R_lt (by (with_reducible repeat (first | apply Kd.R_alloc | apply Kd.R_drewN | apply Kd.R_drew)); exact HO127.out))) (below_size (by repeat (first | (with_reducible first | exact HB.out | apply below_alloc | apply pw_below_drewN | apply below_drew1) | exact HB.out)))); have n3_ := Aside0.mk (below_step (by repeat (first | (with_reducible first | exact HB.out | apply below_alloc | apply pw_below_drewN | apply below_drew1) | exact HB.out)) hb); clear HO119; clear HO127; clear HB; have HO119 := n0_; have HO127 := n1_; have HO132 := n2_; have HB := n3_; clear n0_ n1_ n2_ n3_; (try clear hb); (try clear hb2); (try clear hk); (try clear hi); (try clear ho0)) | ((with_reducible refine gate_callee (f := 10) rfl ?_); refine goesL_ (some 74) rfl rfl Try.func10 (by kernel_rfl) rfl #[.slice Ao15 t117.length co15, .int .i64 a1, .int .i64 t120, .int .i64 a3] rfl (by (try simp only [List.map_toArray, List.map_cons, List.map_nil]); first | done | rfl | (simp only [List.length_drop, List.length_take]; rfl)) ?_; (with_reducible refine (cell_Cas.calls _ _ t117 a1 t120 a3 t133 t134 t135 _ ?side1 ?side2 A11.out).mono ?_); (case side1 => repeat (first | exact (Kd.V_reads' HO119.out).2.2 | (with_reducible refine Kd.C_alloc ?_ _) | (with_reducible refine Kd.C_drewN ?_ _) | (with_reducible refine Kd.C_drew ?_))); (case side2 => exact (Kd.V_reads' HO119.out).2.1); rintro e w20 ⟨v136, rfl, ho0, hb⟩; refine ⟨_, rfl, ?_⟩; have n0_ := Aside0.mk (Kd.V_elder' (by (with_reducible repeat (first | apply Kd.V_alloc | apply Kd.V_drewN | apply Kd.V_drew)); exact HO119.out) (Kd.R_base ho0) hb); have n1_ := Aside0.mk (Kd.R_elder' (by (with_reducible repeat (first | apply Kd.R_alloc | apply Kd.R_drewN | apply Kd.R_drew)); exact HO127.out) (Kd.R_base ho0) hb); have n2_ := Aside0.mk (Kd.R_elder' (by (with_reducible repeat (first | apply Kd.R_alloc | apply Kd.R_drewN | apply Kd.R_drew)); exact HO132.out) (Kd.R_base ho0) hb); have n3_ := Aside0.mk (Kd.R_lower (Kd.R_new' (Kd.R_new' ho0 (Kd.R_lt (by (with_reducible repeat (first | apply Kd.R_alloc | apply Kd.R_drewN | apply Kd.R_drew)); exact HO127.out))) (Kd.R_lt (by (with_reducible repeat (first | apply Kd.R_alloc | apply Kd.R_drewN | apply Kd.R_drew)); exact HO132.out))) (below_size (by repeat (first | (with_reducible first | exact HB.out | apply below_alloc | apply pw_below_drewN | apply below_drew1) | exact HB.out)))); have n4_ := Aside0.mk (below_step (by repeat (first | (with_reducible first | exact HB.out | apply below_alloc | apply pw_below_drewN | apply below_drew1) | exact HB.out)) hb); clear HO119; clear HO127; clear HO132; clear HB; have HO119 := n0_; have HO127 := n1_; have HO132 := n2_; have HO137 := n3_; have HB := n4_; clear n0_ n1_ n2_ n3_ n4_; (try clear hb); (try clear hb2); (try clear hk); (try clear hi); (try clear ho0)) | ((with_reducible refine gate_callee (f := 12) rfl ?_); refine goesL_ (some 81) rfl rfl Try.func12 (by kernel_rfl) rfl #[.slice Ao18 t123.length co18, .int .i64 a1] rfl (by (try simp only [List.map_toArray, List.map_cons, List.map_nil]); first | done | rfl | (simp only [List.length_drop, List.length_take]; rfl)) ?_; (with_reducible refine (cell_Load.calls _ _ t123 a1 t138 t139 _ ?side1 ?side2 A12.out).mono ?_); (case side1 => repeat (first | exact (Kd.R_reads' HO127.out).2.2 | (with_reducible refine Kd.C_alloc ?_ _) | (with_reducible refine Kd.C_drewN ?_ _) | (with_reducible refine Kd.C_drew ?_))); (case side2 => exact (Kd.R_reads' HO127.out).2.1); rintro e w21 ⟨rfl, hb⟩; refine ⟨_, rfl, ?_⟩; have n0_ := Aside0.mk (Kd.V_below (by (with_reducible repeat (first | apply Kd.V_alloc | apply Kd.V_drewN | apply Kd.V_drew)); exact HO119.out) hb); have n1_ := Aside0.mk (Kd.R_below (by (with_reducible repeat (first | apply Kd.R_alloc | apply Kd.R_drewN | apply Kd.R_drew)); exact HO127.out) hb); have n2_ := Aside0.mk (Kd.R_below (by (with_reducible repeat (first | apply Kd.R_alloc | apply Kd.R_drewN | apply Kd.R_drew)); exact HO132.out) hb); have n3_ := Aside0.mk (Kd.R_below (by (with_reducible repeat (first | apply Kd.R_alloc | apply Kd.R_drewN | apply Kd.R_drew)); exact HO137.out) hb); have n4_ := Aside0.mk (below_step (by repeat (first | (with_reducible first | exact HB.out | apply below_alloc | apply pw_below_drewN | apply below_drew1) | exact HB.out)) hb); clear HO119; clear HO127; clear HO132; clear HO137; clear HB; have HO119 := n0_; have HO127 := n1_; have HO132 := n2_; have HO137 := n3_; have HB := n4_; clear n0_ n1_ n2_ n3_ n4_; (try clear hb); (try clear hb2); (try clear hk); (try clear hi)))
    (try simp only [Act.put, List.setIfInBounds_toArray, List.set_cons_zero, List.set_cons_succ])
    go_cut [128] (fun v128 wc => ∃ (kq : Nat) (x128_12 : Bool), v128 = .bool x128_12 ∧ Aside0 (deadboltlaw02_CellApart.j0 kq t117 a1 a2 a3 a4 x128_12 = some r) ∧ Aside0 (kq ≤ k) ∧ Aside0 (Kd.V k44 44 wc w.heap.size (fun _ => True) (.slice Ao15 t117.length co15) t117) ∧ Aside0 (Below w.heap.size w wc))
    case first =>
      have H := HC13.out
      clear HC13
      by_cases c22 : t125 = 0
      · rw [if_pos c22] at H
        have c22b0 : (t125 == 0) = true := beq_iff_eq.mpr c22
        have c22b1 : (t125 != 0) = false := bne_eq_false_iff_eq.mpr c22
        clear c22
        (first | rw [c22b0] | (simp only [i64_w, i32_w]; rw [c22b0]) | skip)
        by_cases c23 : t130 = 0
        · rw [if_pos c23] at H
          have c23b0 : (t130 == 0) = true := beq_iff_eq.mpr c23
          have c23b1 : (t130 != 0) = false := bne_eq_false_iff_eq.mpr c23
          clear c23
          by_cases c24 : t135 = 0
          · rw [if_pos c24] at H
            have c24b0 : (t135 == 0) = true := beq_iff_eq.mpr c24
            have c24b1 : (t135 != 0) = false := bne_eq_false_iff_eq.mpr c24
            clear c24
            by_cases c25 : t139 = 0
            · rw [if_pos c25] at H
              have c25b0 : (t139 == 0) = true := beq_iff_eq.mpr c25
              have c25b1 : (t139 != 0) = false := bne_eq_false_iff_eq.mpr c25
              clear c25
              by_cases c26 : t124 = t120
              · rw [if_pos c26] at H
                have c26b0 : (t124 == t120) = true := beq_iff_eq.mpr c26
                have c26b1 : (t124 != t120) = false := bne_eq_false_iff_eq.mpr c26
                clear c26
                by_cases c27 : t129 = t138
                · rw [if_pos c27] at H
                  have c27b0 : (t129 == t138) = true := beq_iff_eq.mpr c27
                  have c27b1 : (t129 != t138) = false := bne_eq_false_iff_eq.mpr c27
                  clear c27
                  by_cases c28 : t134 = true
                  · subst c28
                    have H1 : ((deadboltref02_Same.f k t123 t133).bind fun t140 => (if t140 = true then ((deadboltref02_Same.f k t128 t117).bind fun t141 => (if t141 = true then ((cell_Right.f t123).bind fun t142 => (deadboltlaw02_CellApart.j0 k t117 a1 a2 a3 a4 (!t142))) else (deadboltlaw02_CellApart.j0 k t117 a1 a2 a3 a4 true))) else (deadboltlaw02_CellApart.j0 k t117 a1 a2 a3 a4 true))) = some r := by rw [if_pos rfl] at H; exact H
                    clear H
                    have H := H1
                    clear H1
                    replace H := Option.bind_eq_some_iff.mp H
                    obtain ⟨t140, A290, H⟩ := H
                    replace H : (if t140 = true then ((deadboltref02_Same.f k t128 t117).bind fun t141 => (if t141 = true then ((cell_Right.f t123).bind fun t142 => (deadboltlaw02_CellApart.j0 k t117 a1 a2 a3 a4 (!t142))) else (deadboltlaw02_CellApart.j0 k t117 a1 a2 a3 a4 true))) else (deadboltlaw02_CellApart.j0 k t117 a1 a2 a3 a4 true)) = some r := H
                    have A29 := Aside0.mk A290
                    clear A290
                    by_cases c30 : t140 = true
                    · subst c30
                      have H1 : ((deadboltref02_Same.f k t128 t117).bind fun t141 => (if t141 = true then ((cell_Right.f t123).bind fun t142 => (deadboltlaw02_CellApart.j0 k t117 a1 a2 a3 a4 (!t142))) else (deadboltlaw02_CellApart.j0 k t117 a1 a2 a3 a4 true))) = some r := by rw [if_pos rfl] at H; exact H
                      clear H
                      have H := H1
                      clear H1
                      replace H := Option.bind_eq_some_iff.mp H
                      obtain ⟨t141, A310, H⟩ := H
                      replace H : (if t141 = true then ((cell_Right.f t123).bind fun t142 => (deadboltlaw02_CellApart.j0 k t117 a1 a2 a3 a4 (!t142))) else (deadboltlaw02_CellApart.j0 k t117 a1 a2 a3 a4 true)) = some r := H
                      have A31 := Aside0.mk A310
                      clear A310
                      by_cases c32 : t141 = true
                      · subst c32
                        have H1 : ((cell_Right.f t123).bind fun t142 => (deadboltlaw02_CellApart.j0 k t117 a1 a2 a3 a4 (!t142))) = some r := by rw [if_pos rfl] at H; exact H
                        clear H
                        have H := H1
                        clear H1
                        replace H := Option.bind_eq_some_iff.mp H
                        obtain ⟨t142, A330, H⟩ := H
                        replace H : (deadboltlaw02_CellApart.j0 k t117 a1 a2 a3 a4 (!t142)) = some r := H
                        have A33 := Aside0.mk A330
                        clear A330
                        have H' := Aside0.mk H
                        clear H
                        obtain ⟨Ao34, co34, eo34⟩ := Kd.R_slice HO137.out
                        subst eo34
                        go_wp2_with (first | (go_at_call 11; (with_reducible refine (deadboltref02_Same.calls k _ _ t123 _ _ t133 true _ ?side1 ?side2 ?side3 ?side4 A29.out).mono ?_); (case side1 => repeat (first | exact (Kd.R_reads' HO127.out).2.2 | (with_reducible refine Kd.C_alloc ?_ _) | (with_reducible refine Kd.C_drewN ?_ _) | (with_reducible refine Kd.C_drew ?_))); (case side2 => exact (Kd.R_reads' HO127.out).2.1); (case side3 => repeat (first | exact (Kd.R_reads' HO137.out).2.2 | (with_reducible refine Kd.C_alloc ?_ _) | (with_reducible refine Kd.C_drewN ?_ _) | (with_reducible refine Kd.C_drew ?_))); (case side4 => exact (Kd.R_reads' HO137.out).2.1); rintro e w' ⟨rfl, ⟨nd, rfl⟩⟩; obtain ⟨Ao35, co35, eo35⟩ := Kd.R_slice HO132.out; subst eo35) | (go_at_call 11; (with_reducible refine (deadboltref02_Same.calls k _ _ t128 _ _ t117 true _ ?side1 ?side2 ?side3 ?side4 A31.out).mono ?_); (case side1 => repeat (first | exact (Kd.R_reads' HO132.out).2.2 | (with_reducible refine Kd.C_alloc ?_ _) | (with_reducible refine Kd.C_drewN ?_ _) | (with_reducible refine Kd.C_drew ?_))); (case side2 => exact (Kd.R_reads' HO132.out).2.1); (case side3 => repeat (first | exact (Kd.V_reads' HO119.out).2.2 | (with_reducible refine Kd.C_alloc ?_ _) | (with_reducible refine Kd.C_drewN ?_ _) | (with_reducible refine Kd.C_drew ?_))); (case side4 => exact (Kd.V_reads' HO119.out).2.1); rintro e w' ⟨rfl, ⟨nd, rfl⟩⟩) | (go_at_call 13; (with_reducible refine (cell_Right.calls _ _ t123 t142 _ ?side1 ?side2 A33.out).mono ?_); (case side1 => repeat (first | exact (Kd.R_reads' HO127.out).2.2 | (with_reducible refine Kd.C_alloc ?_ _) | (with_reducible refine Kd.C_drewN ?_ _) | (with_reducible refine Kd.C_drew ?_))); (case side2 => exact (Kd.R_reads' HO127.out).2.1); rintro e w36 ⟨rfl, hb⟩; have n0_ := Aside0.mk (Kd.V_below (by (with_reducible repeat (first | apply Kd.V_alloc | apply Kd.V_drewN | apply Kd.V_drew)); exact HO119.out) hb); have n1_ := Aside0.mk (Kd.R_below (by (with_reducible repeat (first | apply Kd.R_alloc | apply Kd.R_drewN | apply Kd.R_drew)); exact HO127.out) hb); have n2_ := Aside0.mk (Kd.R_below (by (with_reducible repeat (first | apply Kd.R_alloc | apply Kd.R_drewN | apply Kd.R_drew)); exact HO132.out) hb); have n3_ := Aside0.mk (Kd.R_below (by (with_reducible repeat (first | apply Kd.R_alloc | apply Kd.R_drewN | apply Kd.R_drew)); exact HO137.out) hb); have n4_ := Aside0.mk (below_step (by repeat (first | (with_reducible first | exact HB.out | apply below_alloc | apply pw_below_drewN | apply below_drew1) | exact HB.out)) hb); clear HO119; clear HO127; clear HO132; clear HO137; clear HB; have HO119 := n0_; have HO127 := n1_; have HO132 := n2_; have HO137 := n3_; have HB := n4_; clear n0_ n1_ n2_ n3_ n4_; (try clear hb); (try clear hb2); (try clear hk); (try clear hi)))
                        go_meet
                        case rel => exact ⟨_, (!t142), (by first | rfl | (simp; done) | (simp [*]; done)), H', ⟨by first | omega | exact Nat.le_refl _⟩, ⟨by (with_reducible repeat (first | apply Kd.V_alloc | apply Kd.V_drewN | apply Kd.V_drew)); exact Kd.V_mono HO119.out (fun _ hk => trivial)⟩, ⟨by repeat (first | (with_reducible first | exact HB.out | apply below_alloc | apply pw_below_drewN | apply below_drew1) | exact HB.out)⟩⟩
                      · replace c32 := Bool.eq_false_iff.mpr c32
                        subst c32
                        have H1 : (deadboltlaw02_CellApart.j0 k t117 a1 a2 a3 a4 true) = some r := by rw [if_neg (show ¬ (false = true) by decide)] at H; exact H
                        clear H
                        have H := H1
                        clear H1
                        have H' := Aside0.mk H
                        clear H
                        obtain ⟨Ao37, co37, eo37⟩ := Kd.R_slice HO137.out
                        subst eo37
                        go_wp2_with (first | (go_at_call 11; (with_reducible refine (deadboltref02_Same.calls k _ _ t123 _ _ t133 true _ ?side1 ?side2 ?side3 ?side4 A29.out).mono ?_); (case side1 => repeat (first | exact (Kd.R_reads' HO127.out).2.2 | (with_reducible refine Kd.C_alloc ?_ _) | (with_reducible refine Kd.C_drewN ?_ _) | (with_reducible refine Kd.C_drew ?_))); (case side2 => exact (Kd.R_reads' HO127.out).2.1); (case side3 => repeat (first | exact (Kd.R_reads' HO137.out).2.2 | (with_reducible refine Kd.C_alloc ?_ _) | (with_reducible refine Kd.C_drewN ?_ _) | (with_reducible refine Kd.C_drew ?_))); (case side4 => exact (Kd.R_reads' HO137.out).2.1); rintro e w' ⟨rfl, ⟨nd, rfl⟩⟩; obtain ⟨Ao38, co38, eo38⟩ := Kd.R_slice HO132.out; subst eo38) | (go_at_call 11; (with_reducible refine (deadboltref02_Same.calls k _ _ t128 _ _ t117 false _ ?side1 ?side2 ?side3 ?side4 A31.out).mono ?_); (case side1 => repeat (first | exact (Kd.R_reads' HO132.out).2.2 | (with_reducible refine Kd.C_alloc ?_ _) | (with_reducible refine Kd.C_drewN ?_ _) | (with_reducible refine Kd.C_drew ?_))); (case side2 => exact (Kd.R_reads' HO132.out).2.1); (case side3 => repeat (first | exact (Kd.V_reads' HO119.out).2.2 | (with_reducible refine Kd.C_alloc ?_ _) | (with_reducible refine Kd.C_drewN ?_ _) | (with_reducible refine Kd.C_drew ?_))); (case side4 => exact (Kd.V_reads' HO119.out).2.1); rintro e w' ⟨rfl, ⟨nd, rfl⟩⟩))
                        go_meet
                        case rel => exact ⟨_, (true), (by first | rfl | (simp; done) | (simp [*]; done)), H', ⟨by first | omega | exact Nat.le_refl _⟩, ⟨by (with_reducible repeat (first | apply Kd.V_alloc | apply Kd.V_drewN | apply Kd.V_drew)); exact Kd.V_mono HO119.out (fun _ hk => trivial)⟩, ⟨by repeat (first | (with_reducible first | exact HB.out | apply below_alloc | apply pw_below_drewN | apply below_drew1) | exact HB.out)⟩⟩
                    · replace c30 := Bool.eq_false_iff.mpr c30
                      subst c30
                      have H1 : (deadboltlaw02_CellApart.j0 k t117 a1 a2 a3 a4 true) = some r := by rw [if_neg (show ¬ (false = true) by decide)] at H; exact H
                      clear H
                      have H := H1
                      clear H1
                      have H' := Aside0.mk H
                      clear H
                      obtain ⟨Ao39, co39, eo39⟩ := Kd.R_slice HO137.out
                      subst eo39
                      go_wp2_with (first | (go_at_call 11; (with_reducible refine (deadboltref02_Same.calls k _ _ t123 _ _ t133 false _ ?side1 ?side2 ?side3 ?side4 A29.out).mono ?_); (case side1 => repeat (first | exact (Kd.R_reads' HO127.out).2.2 | (with_reducible refine Kd.C_alloc ?_ _) | (with_reducible refine Kd.C_drewN ?_ _) | (with_reducible refine Kd.C_drew ?_))); (case side2 => exact (Kd.R_reads' HO127.out).2.1); (case side3 => repeat (first | exact (Kd.R_reads' HO137.out).2.2 | (with_reducible refine Kd.C_alloc ?_ _) | (with_reducible refine Kd.C_drewN ?_ _) | (with_reducible refine Kd.C_drew ?_))); (case side4 => exact (Kd.R_reads' HO137.out).2.1); rintro e w' ⟨rfl, ⟨nd, rfl⟩⟩))
                      go_meet
                      case rel => exact ⟨_, (true), (by first | rfl | (simp; done) | (simp [*]; done)), H', ⟨by first | omega | exact Nat.le_refl _⟩, ⟨by (with_reducible repeat (first | apply Kd.V_alloc | apply Kd.V_drewN | apply Kd.V_drew)); exact Kd.V_mono HO119.out (fun _ hk => trivial)⟩, ⟨by repeat (first | (with_reducible first | exact HB.out | apply below_alloc | apply pw_below_drewN | apply below_drew1) | exact HB.out)⟩⟩
                  · replace c28 := Bool.eq_false_iff.mpr c28
                    subst c28
                    have H1 : (deadboltlaw02_CellApart.j0 k t117 a1 a2 a3 a4 true) = some r := by rw [if_neg (show ¬ (false = true) by decide)] at H; exact H
                    clear H
                    have H := H1
                    clear H1
                    have H' := Aside0.mk H
                    clear H
                    go_wp2
                    go_meet
                    case rel => exact ⟨_, (true), (by first | rfl | (simp; done) | (simp [*]; done)), H', ⟨by first | omega | exact Nat.le_refl _⟩, ⟨by (with_reducible repeat (first | apply Kd.V_alloc | apply Kd.V_drewN | apply Kd.V_drew)); exact Kd.V_mono HO119.out (fun _ hk => trivial)⟩, ⟨by repeat (first | (with_reducible first | exact HB.out | apply below_alloc | apply pw_below_drewN | apply below_drew1) | exact HB.out)⟩⟩
                · rw [if_neg c27] at H
                  have c27b0 : (t129 == t138) = false := beq_eq_false_iff_ne.mpr c27
                  have c27b1 : (t129 != t138) = true := bne_iff_ne.mpr c27
                  have H' := Aside0.mk H
                  clear H
                  go_wp2
                  go_meet
                  case rel => exact ⟨_, (true), (by first | rfl | (simp; done) | (simp [*]; done)), H', ⟨by first | omega | exact Nat.le_refl _⟩, ⟨by (with_reducible repeat (first | apply Kd.V_alloc | apply Kd.V_drewN | apply Kd.V_drew)); exact Kd.V_mono HO119.out (fun _ hk => trivial)⟩, ⟨by repeat (first | (with_reducible first | exact HB.out | apply below_alloc | apply pw_below_drewN | apply below_drew1) | exact HB.out)⟩⟩
              · rw [if_neg c26] at H
                have c26b0 : (t124 == t120) = false := beq_eq_false_iff_ne.mpr c26
                have c26b1 : (t124 != t120) = true := bne_iff_ne.mpr c26
                have H' := Aside0.mk H
                clear H
                go_wp2
                go_meet
                case rel => exact ⟨_, (true), (by first | rfl | (simp; done) | (simp [*]; done)), H', ⟨by first | omega | exact Nat.le_refl _⟩, ⟨by (with_reducible repeat (first | apply Kd.V_alloc | apply Kd.V_drewN | apply Kd.V_drew)); exact Kd.V_mono HO119.out (fun _ hk => trivial)⟩, ⟨by repeat (first | (with_reducible first | exact HB.out | apply below_alloc | apply pw_below_drewN | apply below_drew1) | exact HB.out)⟩⟩
            · rw [if_neg c25] at H
              have c25b0 : (t139 == 0) = false := beq_eq_false_iff_ne.mpr c25
              have c25b1 : (t139 != 0) = true := bne_iff_ne.mpr c25
              have H' := Aside0.mk H
              clear H
              go_wp2
              go_meet
              case rel => exact ⟨_, (true), (by first | rfl | (simp; done) | (simp [*]; done)), H', ⟨by first | omega | exact Nat.le_refl _⟩, ⟨by (with_reducible repeat (first | apply Kd.V_alloc | apply Kd.V_drewN | apply Kd.V_drew)); exact Kd.V_mono HO119.out (fun _ hk => trivial)⟩, ⟨by repeat (first | (with_reducible first | exact HB.out | apply below_alloc | apply pw_below_drewN | apply below_drew1) | exact HB.out)⟩⟩
          · rw [if_neg c24] at H
            have c24b0 : (t135 == 0) = false := beq_eq_false_iff_ne.mpr c24
            have c24b1 : (t135 != 0) = true := bne_iff_ne.mpr c24
            have H' := Aside0.mk H
            clear H
            go_wp2
            go_meet
            case rel => exact ⟨_, (true), (by first | rfl | (simp; done) | (simp [*]; done)), H', ⟨by first | omega | exact Nat.le_refl _⟩, ⟨by (with_reducible repeat (first | apply Kd.V_alloc | apply Kd.V_drewN | apply Kd.V_drew)); exact Kd.V_mono HO119.out (fun _ hk => trivial)⟩, ⟨by repeat (first | (with_reducible first | exact HB.out | apply below_alloc | apply pw_below_drewN | apply below_drew1) | exact HB.out)⟩⟩
        · rw [if_neg c23] at H
          have c23b0 : (t130 == 0) = false := beq_eq_false_iff_ne.mpr c23
          have c23b1 : (t130 != 0) = true := bne_iff_ne.mpr c23
          have H' := Aside0.mk H
          clear H
          go_wp2
          go_meet
          case rel => exact ⟨_, (true), (by first | rfl | (simp; done) | (simp [*]; done)), H', ⟨by first | omega | exact Nat.le_refl _⟩, ⟨by (with_reducible repeat (first | apply Kd.V_alloc | apply Kd.V_drewN | apply Kd.V_drew)); exact Kd.V_mono HO119.out (fun _ hk => trivial)⟩, ⟨by repeat (first | (with_reducible first | exact HB.out | apply below_alloc | apply pw_below_drewN | apply below_drew1) | exact HB.out)⟩⟩
      · rw [if_neg c22] at H
        have c22b0 : (t125 == 0) = false := beq_eq_false_iff_ne.mpr c22
        have c22b1 : (t125 != 0) = true := bne_iff_ne.mpr c22
        (first | rw [c22b0] | (simp only [i64_w, i32_w]; rw [c22b0]) | skip)
        have H' := Aside0.mk H
        clear H
        go_wp2
        go_meet
        case rel => exact ⟨_, (true), (by first | rfl | (simp; done) | (simp [*]; done)), H', ⟨by first | omega | exact Nat.le_refl _⟩, ⟨by (with_reducible repeat (first | apply Kd.V_alloc | apply Kd.V_drewN | apply Kd.V_drew)); exact Kd.V_mono HO119.out (fun _ hk => trivial)⟩, ⟨by repeat (first | (with_reducible first | exact HB.out | apply below_alloc | apply pw_below_drewN | apply below_drew1) | exact HB.out)⟩⟩
    case rest =>
      clear HC13
      try clear c1
      try clear c2
      try clear p2
      try clear c3
      try clear c4
      try clear c6
      try clear c7
      try clear c8
      try clear c8b0
      try clear c8b1
      try clear c10
      try clear c12
      try clear c22
      try clear c22b0
      try clear c22b1
      try clear c23
      try clear c23b0
      try clear c23b1
      try clear c24
      try clear c24b0
      try clear c24b1
      try clear c25
      try clear c25b0
      try clear c25b1
      try clear c26
      try clear c26b0
      try clear c26b1
      try clear c27
      try clear c27b0
      try clear c27b1
      try clear c28
      try clear c30
      try clear c32
      obtain ⟨kq, x128_12, rfl, HA, HJ12, HO_0, HB⟩ := hcut
      cases kq with
      | zero => exact absurd HA.out (by simp [deadboltlaw02_CellApart.j0])
      | succ kj12 =>
        have H := HA.out
        clear HA
        simp only [deadboltlaw02_CellApart.j0] at H
        by_cases c40 : x128_12 = true
        · subst c40
          have H1 : (some false) = some r := by rw [if_pos rfl] at H; exact H
          clear H
          have H := H1
          clear H1
          obtain rfl := Option.some.inj H
          go_wp2
          go_ret
          exact ⟨by first | rfl | (simp [errW_none, errW_some] <;> rfl) | (simp [*, errW_none, errW_some] <;> rfl), by repeat (first | (with_reducible first | exact HB.out | apply below_alloc | apply pw_below_drewN | apply below_drew1) | exact HB.out)⟩
        · replace c40 := Bool.eq_false_iff.mpr c40
          subst c40
          have H1 : ((cell_Add.f t117 a1 a3).bind fun bt143 => ((cell_Add.f bt143.1 a1 a4).bind fun bt148 => ((cell_Add.f t117 a1 a4).bind fun bt153 => ((cell_Add.f bt153.1 a1 a3).bind fun bt158 => (if bt143.2.2 = 0 then (if bt148.2.2 = 0 then (if bt153.2.2 = 0 then (if bt158.2.2 = 0 then (if bt148.2.1 = bt158.2.1 then ((deadboltref02_Same.f kj12 bt148.1 bt158.1).bind fun t163 => (deadboltlaw02_CellApart.j1 kj12 t117 a1 a2 bt148.1 (!t163))) else (deadboltlaw02_CellApart.j1 kj12 t117 a1 a2 bt148.1 true)) else (deadboltlaw02_CellApart.j1 kj12 t117 a1 a2 bt148.1 true)) else (deadboltlaw02_CellApart.j1 kj12 t117 a1 a2 bt148.1 true)) else (deadboltlaw02_CellApart.j1 kj12 t117 a1 a2 bt148.1 true)) else (deadboltlaw02_CellApart.j1 kj12 t117 a1 a2 bt148.1 true)))))) = some r := by rw [if_neg (show ¬ (false = true) by decide)] at H; exact H
          clear H
          have H := H1
          clear H1
          replace H := Option.bind_eq_some_iff.mp H
          obtain ⟨⟨t143, t144, t145⟩, A410, H⟩ := H
          replace H : ((cell_Add.f t143 a1 a4).bind fun bt148 => ((cell_Add.f t117 a1 a4).bind fun bt153 => ((cell_Add.f bt153.1 a1 a3).bind fun bt158 => (if t145 = 0 then (if bt148.2.2 = 0 then (if bt153.2.2 = 0 then (if bt158.2.2 = 0 then (if bt148.2.1 = bt158.2.1 then ((deadboltref02_Same.f kj12 bt148.1 bt158.1).bind fun t163 => (deadboltlaw02_CellApart.j1 kj12 t117 a1 a2 bt148.1 (!t163))) else (deadboltlaw02_CellApart.j1 kj12 t117 a1 a2 bt148.1 true)) else (deadboltlaw02_CellApart.j1 kj12 t117 a1 a2 bt148.1 true)) else (deadboltlaw02_CellApart.j1 kj12 t117 a1 a2 bt148.1 true)) else (deadboltlaw02_CellApart.j1 kj12 t117 a1 a2 bt148.1 true)) else (deadboltlaw02_CellApart.j1 kj12 t117 a1 a2 bt148.1 true))))) = some r := H
          have A41 := Aside0.mk A410
          clear A410
          replace H := Option.bind_eq_some_iff.mp H
          obtain ⟨⟨t148, t149, t150⟩, A420, H⟩ := H
          replace H : ((cell_Add.f t117 a1 a4).bind fun bt153 => ((cell_Add.f bt153.1 a1 a3).bind fun bt158 => (if t145 = 0 then (if t150 = 0 then (if bt153.2.2 = 0 then (if bt158.2.2 = 0 then (if t149 = bt158.2.1 then ((deadboltref02_Same.f kj12 t148 bt158.1).bind fun t163 => (deadboltlaw02_CellApart.j1 kj12 t117 a1 a2 t148 (!t163))) else (deadboltlaw02_CellApart.j1 kj12 t117 a1 a2 t148 true)) else (deadboltlaw02_CellApart.j1 kj12 t117 a1 a2 t148 true)) else (deadboltlaw02_CellApart.j1 kj12 t117 a1 a2 t148 true)) else (deadboltlaw02_CellApart.j1 kj12 t117 a1 a2 t148 true)) else (deadboltlaw02_CellApart.j1 kj12 t117 a1 a2 t148 true)))) = some r := H
          have A42 := Aside0.mk A420
          clear A420
          replace H := Option.bind_eq_some_iff.mp H
          obtain ⟨⟨t153, t154, t155⟩, A430, H⟩ := H
          replace H : ((cell_Add.f t153 a1 a3).bind fun bt158 => (if t145 = 0 then (if t150 = 0 then (if t155 = 0 then (if bt158.2.2 = 0 then (if t149 = bt158.2.1 then ((deadboltref02_Same.f kj12 t148 bt158.1).bind fun t163 => (deadboltlaw02_CellApart.j1 kj12 t117 a1 a2 t148 (!t163))) else (deadboltlaw02_CellApart.j1 kj12 t117 a1 a2 t148 true)) else (deadboltlaw02_CellApart.j1 kj12 t117 a1 a2 t148 true)) else (deadboltlaw02_CellApart.j1 kj12 t117 a1 a2 t148 true)) else (deadboltlaw02_CellApart.j1 kj12 t117 a1 a2 t148 true)) else (deadboltlaw02_CellApart.j1 kj12 t117 a1 a2 t148 true))) = some r := H
          have A43 := Aside0.mk A430
          clear A430
          replace H := Option.bind_eq_some_iff.mp H
          obtain ⟨⟨t158, t159, t160⟩, A440, H⟩ := H
          replace H : (if t145 = 0 then (if t150 = 0 then (if t155 = 0 then (if t160 = 0 then (if t149 = t159 then ((deadboltref02_Same.f kj12 t148 t158).bind fun t163 => (deadboltlaw02_CellApart.j1 kj12 t117 a1 a2 t148 (!t163))) else (deadboltlaw02_CellApart.j1 kj12 t117 a1 a2 t148 true)) else (deadboltlaw02_CellApart.j1 kj12 t117 a1 a2 t148 true)) else (deadboltlaw02_CellApart.j1 kj12 t117 a1 a2 t148 true)) else (deadboltlaw02_CellApart.j1 kj12 t117 a1 a2 t148 true)) else (deadboltlaw02_CellApart.j1 kj12 t117 a1 a2 t148 true)) = some r := H
          have A44 := Aside0.mk A440
          clear A440
          have HC45 := Aside0.mk H
          clear H
          go_upto_region 15 with (first | ((with_reducible refine gate_callee (f := 8) rfl ?_); refine goesL_ (some 133) rfl rfl Try.func8 (by kernel_rfl) rfl #[.slice Ao15 t117.length co15, .int .i64 a1, .int .i64 a3] rfl (by (try simp only [List.map_toArray, List.map_cons, List.map_nil]); first | done | rfl | (simp only [List.length_drop, List.length_take]; rfl)) ?_; (with_reducible refine (cell_Add.calls _ _ t117 a1 a3 t143 t144 t145 _ ?side1 ?side2 A41.out).mono ?_); (case side1 => repeat (first | exact (Kd.V_reads' HO_0.out).2.2 | (with_reducible refine Kd.C_alloc ?_ _) | (with_reducible refine Kd.C_drewN ?_ _) | (with_reducible refine Kd.C_drew ?_))); (case side2 => exact (Kd.V_reads' HO_0.out).2.1); rintro e w46 ⟨v146, rfl, ho0, hb⟩; refine ⟨_, rfl, ?_⟩; have n0_ := Aside0.mk (Kd.V_elder' (by (with_reducible repeat (first | apply Kd.V_alloc | apply Kd.V_drewN | apply Kd.V_drew)); exact HO_0.out) (Kd.R_base ho0) hb); have n1_ := Aside0.mk (Kd.R_lower ho0 (below_size (by repeat (first | (with_reducible first | exact HB.out | apply below_alloc | apply pw_below_drewN | apply below_drew1) | exact HB.out)))); have n2_ := Aside0.mk (below_step (by repeat (first | (with_reducible first | exact HB.out | apply below_alloc | apply pw_below_drewN | apply below_drew1) | exact HB.out)) hb); clear HO_0; clear HB; have HO_0 := n0_; have HO147 := n1_; have HB := n2_; clear n0_ n1_ n2_; (try clear hb); (try clear hb2); (try clear hk); (try clear hi); (try clear ho0); obtain ⟨Ao47, co47, eo47⟩ := Kd.R_slice HO147.out; subst eo47) | ((with_reducible refine gate_callee (f := 8) rfl ?_); refine goesL_ (some 141) rfl rfl Try.func8 (by kernel_rfl) rfl #[.slice Ao47 t143.length co47, .int .i64 a1, .int .i64 a4] rfl (by (try simp only [List.map_toArray, List.map_cons, List.map_nil]); first | done | rfl | (simp only [List.length_drop, List.length_take]; rfl)) ?_; (with_reducible refine (cell_Add.calls _ _ t143 a1 a4 t148 t149 t150 _ ?side1 ?side2 A42.out).mono ?_); (case side1 => repeat (first | exact (Kd.R_reads' HO147.out).2.2 | (with_reducible refine Kd.C_alloc ?_ _) | (with_reducible refine Kd.C_drewN ?_ _) | (with_reducible refine Kd.C_drew ?_))); (case side2 => exact (Kd.R_reads' HO147.out).2.1); rintro e w48 ⟨v151, rfl, ho0, hb⟩; refine ⟨_, rfl, ?_⟩; have n0_ := Aside0.mk (Kd.V_elder' (by (with_reducible repeat (first | apply Kd.V_alloc | apply Kd.V_drewN | apply Kd.V_drew)); exact HO_0.out) (Kd.R_base ho0) hb); have n1_ := Aside0.mk (Kd.R_elder' (by (with_reducible repeat (first | apply Kd.R_alloc | apply Kd.R_drewN | apply Kd.R_drew)); exact HO147.out) (Kd.R_base ho0) hb); have n2_ := Aside0.mk (Kd.R_lower (Kd.R_new' ho0 (Kd.R_lt (by (with_reducible repeat (first | apply Kd.R_alloc | apply Kd.R_drewN | apply Kd.R_drew)); exact HO147.out))) (below_size (by repeat (first | (with_reducible first | exact HB.out | apply below_alloc | apply pw_below_drewN | apply below_drew1) | exact HB.out)))); have n3_ := Aside0.mk (below_step (by repeat (first | (with_reducible first | exact HB.out | apply below_alloc | apply pw_below_drewN | apply below_drew1) | exact HB.out)) hb); clear HO_0; clear HO147; clear HB; have HO_0 := n0_; have HO147 := n1_; have HO152 := n2_; have HB := n3_; clear n0_ n1_ n2_ n3_; (try clear hb); (try clear hb2); (try clear hk); (try clear hi); (try clear ho0)) | ((with_reducible refine gate_callee (f := 8) rfl ?_); refine goesL_ (some 149) rfl rfl Try.func8 (by kernel_rfl) rfl #[.slice Ao15 t117.length co15, .int .i64 a1, .int .i64 a4] rfl (by (try simp only [List.map_toArray, List.map_cons, List.map_nil]); first | done | rfl | (simp only [List.length_drop, List.length_take]; rfl)) ?_; (with_reducible refine (cell_Add.calls _ _ t117 a1 a4 t153 t154 t155 _ ?side1 ?side2 A43.out).mono ?_); (case side1 => repeat (first | exact (Kd.V_reads' HO_0.out).2.2 | (with_reducible refine Kd.C_alloc ?_ _) | (with_reducible refine Kd.C_drewN ?_ _) | (with_reducible refine Kd.C_drew ?_))); (case side2 => exact (Kd.V_reads' HO_0.out).2.1); rintro e w49 ⟨v156, rfl, ho0, hb⟩; refine ⟨_, rfl, ?_⟩; have n0_ := Aside0.mk (Kd.V_elder' (by (with_reducible repeat (first | apply Kd.V_alloc | apply Kd.V_drewN | apply Kd.V_drew)); exact HO_0.out) (Kd.R_base ho0) hb); have n1_ := Aside0.mk (Kd.R_elder' (by (with_reducible repeat (first | apply Kd.R_alloc | apply Kd.R_drewN | apply Kd.R_drew)); exact HO147.out) (Kd.R_base ho0) hb); have n2_ := Aside0.mk (Kd.R_elder' (by (with_reducible repeat (first | apply Kd.R_alloc | apply Kd.R_drewN | apply Kd.R_drew)); exact HO152.out) (Kd.R_base ho0) hb); have n3_ := Aside0.mk (Kd.R_lower (Kd.R_new' (Kd.R_new' ho0 (Kd.R_lt (by (with_reducible repeat (first | apply Kd.R_alloc | apply Kd.R_drewN | apply Kd.R_drew)); exact HO147.out))) (Kd.R_lt (by (with_reducible repeat (first | apply Kd.R_alloc | apply Kd.R_drewN | apply Kd.R_drew)); exact HO152.out))) (below_size (by repeat (first | (with_reducible first | exact HB.out | apply below_alloc | apply pw_below_drewN | apply below_drew1) | exact HB.out)))); have n4_ := Aside0.mk (below_step (by repeat (first | (with_reducible first | exact HB.out | apply below_alloc | apply pw_below_drewN | apply below_drew1) | exact HB.out)) hb); clear HO_0; clear HO147; clear HO152; clear HB; have HO_0 := n0_; have HO147 := n1_; have HO152 := n2_; have HO157 := n3_; have HB := n4_; clear n0_ n1_ n2_ n3_ n4_; (try clear hb); (try clear hb2); (try clear hk); (try clear hi); (try clear ho0); obtain ⟨Ao50, co50, eo50⟩ := Kd.R_slice HO157.out; subst eo50) | ((with_reducible refine gate_callee (f := 8) rfl ?_); refine goesL_ (some 157) rfl rfl Try.func8 (by kernel_rfl) rfl #[.slice Ao50 t153.length co50, .int .i64 a1, .int .i64 a3] rfl (by (try simp only [List.map_toArray, List.map_cons, List.map_nil]); first | done | rfl | (simp only [List.length_drop, List.length_take]; rfl)) ?_; (with_reducible refine (cell_Add.calls _ _ t153 a1 a3 t158 t159 t160 _ ?side1 ?side2 A44.out).mono ?_); (case side1 => repeat (first | exact (Kd.R_reads' HO157.out).2.2 | (with_reducible refine Kd.C_alloc ?_ _) | (with_reducible refine Kd.C_drewN ?_ _) | (with_reducible refine Kd.C_drew ?_))); (case side2 => exact (Kd.R_reads' HO157.out).2.1); rintro e w51 ⟨v161, rfl, ho0, hb⟩; refine ⟨_, rfl, ?_⟩; have n0_ := Aside0.mk (Kd.V_elder' (by (with_reducible repeat (first | apply Kd.V_alloc | apply Kd.V_drewN | apply Kd.V_drew)); exact HO_0.out) (Kd.R_base ho0) hb); have n1_ := Aside0.mk (Kd.R_elder' (by (with_reducible repeat (first | apply Kd.R_alloc | apply Kd.R_drewN | apply Kd.R_drew)); exact HO147.out) (Kd.R_base ho0) hb); have n2_ := Aside0.mk (Kd.R_elder' (by (with_reducible repeat (first | apply Kd.R_alloc | apply Kd.R_drewN | apply Kd.R_drew)); exact HO152.out) (Kd.R_base ho0) hb); have n3_ := Aside0.mk (Kd.R_elder' (by (with_reducible repeat (first | apply Kd.R_alloc | apply Kd.R_drewN | apply Kd.R_drew)); exact HO157.out) (Kd.R_base ho0) hb); have n4_ := Aside0.mk (Kd.R_lower (Kd.R_new' (Kd.R_new' (Kd.R_new' ho0 (Kd.R_lt (by (with_reducible repeat (first | apply Kd.R_alloc | apply Kd.R_drewN | apply Kd.R_drew)); exact HO147.out))) (Kd.R_lt (by (with_reducible repeat (first | apply Kd.R_alloc | apply Kd.R_drewN | apply Kd.R_drew)); exact HO152.out))) (Kd.R_lt (by (with_reducible repeat (first | apply Kd.R_alloc | apply Kd.R_drewN | apply Kd.R_drew)); exact HO157.out))) (below_size (by repeat (first | (with_reducible first | exact HB.out | apply below_alloc | apply pw_below_drewN | apply below_drew1) | exact HB.out)))); have n5_ := Aside0.mk (below_step (by repeat (first | (with_reducible first | exact HB.out | apply below_alloc | apply pw_below_drewN | apply below_drew1) | exact HB.out)) hb); clear HO_0; clear HO147; clear HO152; clear HO157; clear HB; have HO_0 := n0_; have HO147 := n1_; have HO152 := n2_; have HO157 := n3_; have HO162 := n4_; have HB := n5_; clear n0_ n1_ n2_ n3_ n4_ n5_; (try clear hb); (try clear hb2); (try clear hk); (try clear hi); (try clear ho0)))
          (try simp only [Act.put, List.setIfInBounds_toArray, List.set_cons_zero, List.set_cons_succ])
          go_cut [185] (fun v185 wc => ∃ (kq : Nat) (x185_44 : Bool), v185 = .bool x185_44 ∧ Aside0 (deadboltlaw02_CellApart.j1 kq t117 a1 a2 t148 x185_44 = some r) ∧ Aside0 (kq ≤ kj12) ∧ Aside0 (Kd.V k44 44 wc w.heap.size (fun k_ => some k_ ≠ (v151 : Value).ownBlock) (.slice Ao15 t117.length co15) t117) ∧ Aside0 (Kd.R k44 44 wc w.heap.size (fun _ => True) v151 t148) ∧ Aside0 (Below w.heap.size w wc))
          case first =>
            have H := HC45.out
            clear HC45
            by_cases c52 : t145 = 0
            · rw [if_pos c52] at H
              have c52b0 : (t145 == 0) = true := beq_iff_eq.mpr c52
              have c52b1 : (t145 != 0) = false := bne_eq_false_iff_eq.mpr c52
              clear c52
              (first | rw [c52b0] | (simp only [i64_w, i32_w]; rw [c52b0]) | skip)
              by_cases c53 : t150 = 0
              · rw [if_pos c53] at H
                have c53b0 : (t150 == 0) = true := beq_iff_eq.mpr c53
                have c53b1 : (t150 != 0) = false := bne_eq_false_iff_eq.mpr c53
                clear c53
                by_cases c54 : t155 = 0
                · rw [if_pos c54] at H
                  have c54b0 : (t155 == 0) = true := beq_iff_eq.mpr c54
                  have c54b1 : (t155 != 0) = false := bne_eq_false_iff_eq.mpr c54
                  clear c54
                  by_cases c55 : t160 = 0
                  · rw [if_pos c55] at H
                    have c55b0 : (t160 == 0) = true := beq_iff_eq.mpr c55
                    have c55b1 : (t160 != 0) = false := bne_eq_false_iff_eq.mpr c55
                    clear c55
                    by_cases c56 : t149 = t159
                    · rw [if_pos c56] at H
                      have c56b0 : (t149 == t159) = true := beq_iff_eq.mpr c56
                      have c56b1 : (t149 != t159) = false := bne_eq_false_iff_eq.mpr c56
                      clear c56
                      replace H := Option.bind_eq_some_iff.mp H
                      obtain ⟨t163, A570, H⟩ := H
                      replace H : (deadboltlaw02_CellApart.j1 kj12 t117 a1 a2 t148 (!t163)) = some r := H
                      have A57 := Aside0.mk A570
                      clear A570
                      have H' := Aside0.mk H
                      clear H
                      obtain ⟨Ao58, co58, eo58⟩ := Kd.R_slice HO152.out
                      subst eo58
                      obtain ⟨Ao59, co59, eo59⟩ := Kd.R_slice HO162.out
                      subst eo59
                      go_wp2_with (first | (go_at_call 11; (with_reducible refine (deadboltref02_Same.calls kj12 _ _ t148 _ _ t158 t163 _ ?side1 ?side2 ?side3 ?side4 A57.out).mono ?_); (case side1 => repeat (first | exact (Kd.R_reads' HO152.out).2.2 | (with_reducible refine Kd.C_alloc ?_ _) | (with_reducible refine Kd.C_drewN ?_ _) | (with_reducible refine Kd.C_drew ?_))); (case side2 => exact (Kd.R_reads' HO152.out).2.1); (case side3 => repeat (first | exact (Kd.R_reads' HO162.out).2.2 | (with_reducible refine Kd.C_alloc ?_ _) | (with_reducible refine Kd.C_drewN ?_ _) | (with_reducible refine Kd.C_drew ?_))); (case side4 => exact (Kd.R_reads' HO162.out).2.1); rintro e w' ⟨rfl, ⟨nd, rfl⟩⟩))
                      go_meet
                      case rel => exact ⟨_, (!t163), (by first | rfl | (simp; done) | (simp [*]; done)), H', ⟨by have := HJ12.out; first | omega | exact Nat.le_refl _⟩, ⟨by (with_reducible repeat (first | apply Kd.V_alloc | apply Kd.V_drewN | apply Kd.V_drew)); exact Kd.V_mono HO_0.out (fun _ hk => hk.1.1.2)⟩, ⟨by (with_reducible repeat (first | apply Kd.R_alloc | apply Kd.R_drewN | apply Kd.R_drew)); exact Kd.R_mono HO152.out (fun _ hk => trivial)⟩, ⟨by repeat (first | (with_reducible first | exact HB.out | apply below_alloc | apply pw_below_drewN | apply below_drew1) | exact HB.out)⟩⟩
                    · rw [if_neg c56] at H
                      have c56b0 : (t149 == t159) = false := beq_eq_false_iff_ne.mpr c56
                      have c56b1 : (t149 != t159) = true := bne_iff_ne.mpr c56
                      have H' := Aside0.mk H
                      clear H
                      go_wp2
                      go_meet
                      case rel => exact ⟨_, (true), (by first | rfl | (simp; done) | (simp [*]; done)), H', ⟨by have := HJ12.out; first | omega | exact Nat.le_refl _⟩, ⟨by (with_reducible repeat (first | apply Kd.V_alloc | apply Kd.V_drewN | apply Kd.V_drew)); exact Kd.V_mono HO_0.out (fun _ hk => hk.1.1.2)⟩, ⟨by (with_reducible repeat (first | apply Kd.R_alloc | apply Kd.R_drewN | apply Kd.R_drew)); exact Kd.R_mono HO152.out (fun _ hk => trivial)⟩, ⟨by repeat (first | (with_reducible first | exact HB.out | apply below_alloc | apply pw_below_drewN | apply below_drew1) | exact HB.out)⟩⟩
                  · rw [if_neg c55] at H
                    have c55b0 : (t160 == 0) = false := beq_eq_false_iff_ne.mpr c55
                    have c55b1 : (t160 != 0) = true := bne_iff_ne.mpr c55
                    have H' := Aside0.mk H
                    clear H
                    go_wp2
                    go_meet
                    case rel => exact ⟨_, (true), (by first | rfl | (simp; done) | (simp [*]; done)), H', ⟨by have := HJ12.out; first | omega | exact Nat.le_refl _⟩, ⟨by (with_reducible repeat (first | apply Kd.V_alloc | apply Kd.V_drewN | apply Kd.V_drew)); exact Kd.V_mono HO_0.out (fun _ hk => hk.1.1.2)⟩, ⟨by (with_reducible repeat (first | apply Kd.R_alloc | apply Kd.R_drewN | apply Kd.R_drew)); exact Kd.R_mono HO152.out (fun _ hk => trivial)⟩, ⟨by repeat (first | (with_reducible first | exact HB.out | apply below_alloc | apply pw_below_drewN | apply below_drew1) | exact HB.out)⟩⟩
                · rw [if_neg c54] at H
                  have c54b0 : (t155 == 0) = false := beq_eq_false_iff_ne.mpr c54
                  have c54b1 : (t155 != 0) = true := bne_iff_ne.mpr c54
                  have H' := Aside0.mk H
                  clear H
                  go_wp2
                  go_meet
                  case rel => exact ⟨_, (true), (by first | rfl | (simp; done) | (simp [*]; done)), H', ⟨by have := HJ12.out; first | omega | exact Nat.le_refl _⟩, ⟨by (with_reducible repeat (first | apply Kd.V_alloc | apply Kd.V_drewN | apply Kd.V_drew)); exact Kd.V_mono HO_0.out (fun _ hk => hk.1.1.2)⟩, ⟨by (with_reducible repeat (first | apply Kd.R_alloc | apply Kd.R_drewN | apply Kd.R_drew)); exact Kd.R_mono HO152.out (fun _ hk => trivial)⟩, ⟨by repeat (first | (with_reducible first | exact HB.out | apply below_alloc | apply pw_below_drewN | apply below_drew1) | exact HB.out)⟩⟩
              · rw [if_neg c53] at H
                have c53b0 : (t150 == 0) = false := beq_eq_false_iff_ne.mpr c53
                have c53b1 : (t150 != 0) = true := bne_iff_ne.mpr c53
                have H' := Aside0.mk H
                clear H
                go_wp2
                go_meet
                case rel => exact ⟨_, (true), (by first | rfl | (simp; done) | (simp [*]; done)), H', ⟨by have := HJ12.out; first | omega | exact Nat.le_refl _⟩, ⟨by (with_reducible repeat (first | apply Kd.V_alloc | apply Kd.V_drewN | apply Kd.V_drew)); exact Kd.V_mono HO_0.out (fun _ hk => hk.1.1.2)⟩, ⟨by (with_reducible repeat (first | apply Kd.R_alloc | apply Kd.R_drewN | apply Kd.R_drew)); exact Kd.R_mono HO152.out (fun _ hk => trivial)⟩, ⟨by repeat (first | (with_reducible first | exact HB.out | apply below_alloc | apply pw_below_drewN | apply below_drew1) | exact HB.out)⟩⟩
            · rw [if_neg c52] at H
              have c52b0 : (t145 == 0) = false := beq_eq_false_iff_ne.mpr c52
              have c52b1 : (t145 != 0) = true := bne_iff_ne.mpr c52
              (first | rw [c52b0] | (simp only [i64_w, i32_w]; rw [c52b0]) | skip)
              have H' := Aside0.mk H
              clear H
              go_wp2
              go_meet
              case rel => exact ⟨_, (true), (by first | rfl | (simp; done) | (simp [*]; done)), H', ⟨by have := HJ12.out; first | omega | exact Nat.le_refl _⟩, ⟨by (with_reducible repeat (first | apply Kd.V_alloc | apply Kd.V_drewN | apply Kd.V_drew)); exact Kd.V_mono HO_0.out (fun _ hk => hk.1.1.2)⟩, ⟨by (with_reducible repeat (first | apply Kd.R_alloc | apply Kd.R_drewN | apply Kd.R_drew)); exact Kd.R_mono HO152.out (fun _ hk => trivial)⟩, ⟨by repeat (first | (with_reducible first | exact HB.out | apply below_alloc | apply pw_below_drewN | apply below_drew1) | exact HB.out)⟩⟩
          case rest =>
            clear HC45
            try clear c1
            try clear c2
            try clear p2
            try clear c3
            try clear c4
            try clear c5
            try clear c6
            try clear c7
            try clear c8
            try clear c8b0
            try clear c8b1
            try clear c10
            try clear c12
            try clear c22
            try clear c22b0
            try clear c22b1
            try clear c23
            try clear c23b0
            try clear c23b1
            try clear c24
            try clear c24b0
            try clear c24b1
            try clear c25
            try clear c25b0
            try clear c25b1
            try clear c26
            try clear c26b0
            try clear c26b1
            try clear c27
            try clear c27b0
            try clear c27b1
            try clear c28
            try clear c30
            try clear c32
            try clear c40
            try clear c52
            try clear c52b0
            try clear c52b1
            try clear c53
            try clear c53b0
            try clear c53b1
            try clear c54
            try clear c54b0
            try clear c54b1
            try clear c55
            try clear c55b0
            try clear c55b1
            try clear c56
            try clear c56b0
            try clear c56b1
            try clear p2
            obtain ⟨kq, x185_44, rfl, HA, HJ44, HO_0, HO_24, HB⟩ := hcut
            cases kq with
            | zero => exact absurd HA.out (by simp [deadboltlaw02_CellApart.j1])
            | succ kj44 =>
              have H := HA.out
              clear HA
              simp only [deadboltlaw02_CellApart.j1] at H
              by_cases c60 : x185_44 = true
              · subst c60
                have H1 : (some false) = some r := by rw [if_pos rfl] at H; exact H
                clear H
                have H := H1
                clear H1
                obtain rfl := Option.some.inj H
                go_wp2
                go_ret
                exact ⟨by first | rfl | (simp [errW_none, errW_some] <;> rfl) | (simp [*, errW_none, errW_some] <;> rfl), by repeat (first | (with_reducible first | exact HB.out | apply below_alloc | apply pw_below_drewN | apply below_drew1) | exact HB.out)⟩
              · replace c60 := Bool.eq_false_iff.mpr c60
                subst c60
                have H1 : ((cell_Load.f t117 a2).bind fun bt164 => ((cell_Load.f t148 a2).bind fun bt166 => ((deadboltlaw02_alive.f).bind fun t168 => (if t168 = true then (if bt164.2 = bt166.2 then (if a2 = a1 then (some true) else (some (bt164.1 == bt166.1))) else (some false)) else (some false))))) = some r := by rw [if_neg (show ¬ (false = true) by decide)] at H; exact H
                clear H
                have H := H1
                clear H1
                replace H := Option.bind_eq_some_iff.mp H
                obtain ⟨⟨t164, t165⟩, A610, H⟩ := H
                replace H : ((cell_Load.f t148 a2).bind fun bt166 => ((deadboltlaw02_alive.f).bind fun t168 => (if t168 = true then (if t165 = bt166.2 then (if a2 = a1 then (some true) else (some (t164 == bt166.1))) else (some false)) else (some false)))) = some r := H
                have A61 := Aside0.mk A610
                clear A610
                replace H := Option.bind_eq_some_iff.mp H
                obtain ⟨⟨t166, t167⟩, A620, H⟩ := H
                replace H : ((deadboltlaw02_alive.f).bind fun t168 => (if t168 = true then (if t165 = t167 then (if a2 = a1 then (some true) else (some (t164 == t166))) else (some false)) else (some false))) = some r := H
                have A62 := Aside0.mk A620
                clear A620
                replace H := Option.bind_eq_some_iff.mp H
                obtain ⟨t168, A630, H⟩ := H
                replace H : (if t168 = true then (if t165 = t167 then (if a2 = a1 then (some true) else (some (t164 == t166))) else (some false)) else (some false)) = some r := H
                have A63 := Aside0.mk A630
                clear A630
                by_cases c64 : t168 = true
                · subst c64
                  have H1 : (if t165 = t167 then (if a2 = a1 then (some true) else (some (t164 == t166))) else (some false)) = some r := by rw [if_pos rfl] at H; exact H
                  clear H
                  have H := H1
                  clear H1
                  by_cases c65 : t165 = t167
                  · rw [if_pos c65] at H
                    have c65b0 : (t165 == t167) = true := beq_iff_eq.mpr c65
                    have c65b1 : (t165 != t167) = false := bne_eq_false_iff_eq.mpr c65
                    clear c65
                    by_cases c66 : a2 = a1
                    · rw [if_pos c66] at H
                      have c66b0 : (a2 == a1) = true := beq_iff_eq.mpr c66
                      have c66b1 : (a2 != a1) = false := bne_eq_false_iff_eq.mpr c66
                      clear c66
                      obtain rfl := Option.some.inj H
                      go_wp2_with (first | ((with_reducible refine gate_callee (f := 12) rfl ?_); refine goesL_ (some 189) rfl rfl Try.func12 (by kernel_rfl) rfl #[.slice Ao15 t117.length co15, .int .i64 a2] rfl (by (try simp only [List.map_toArray, List.map_cons, List.map_nil]); first | done | rfl | (simp only [List.length_drop, List.length_take]; rfl)) ?_; (with_reducible refine (cell_Load.calls _ _ t117 a2 t164 t165 _ ?side1 ?side2 A61.out).mono ?_); (case side1 => repeat (first | exact (Kd.V_reads' HO_0.out).2.2 | (with_reducible refine Kd.C_alloc ?_ _) | (with_reducible refine Kd.C_drewN ?_ _) | (with_reducible refine Kd.C_drew ?_))); (case side2 => exact (Kd.V_reads' HO_0.out).2.1); rintro e w67 ⟨rfl, hb⟩; refine ⟨_, rfl, ?_⟩; have n0_ := Aside0.mk (Kd.V_below (by (with_reducible repeat (first | apply Kd.V_alloc | apply Kd.V_drewN | apply Kd.V_drew)); exact HO_0.out) hb); have n1_ := Aside0.mk (Kd.R_below (by (with_reducible repeat (first | apply Kd.R_alloc | apply Kd.R_drewN | apply Kd.R_drew)); exact HO_24.out) hb); have n2_ := Aside0.mk (below_step (by repeat (first | (with_reducible first | exact HB.out | apply below_alloc | apply pw_below_drewN | apply below_drew1) | exact HB.out)) hb); clear HO_0; clear HO_24; clear HB; have HO_0 := n0_; have HO_24 := n1_; have HB := n2_; clear n0_ n1_ n2_; (try clear hb); (try clear hb2); (try clear hk); (try clear hi); obtain ⟨Ao68, co68, eo68⟩ := Kd.R_slice HO_24.out; subst eo68) | ((with_reducible refine gate_callee (f := 12) rfl ?_); refine goesL_ (some 195) rfl rfl Try.func12 (by kernel_rfl) rfl #[.slice Ao68 t148.length co68, .int .i64 a2] rfl (by (try simp only [List.map_toArray, List.map_cons, List.map_nil]); first | done | rfl | (simp only [List.length_drop, List.length_take]; rfl)) ?_; (with_reducible refine (cell_Load.calls _ _ t148 a2 t166 t167 _ ?side1 ?side2 A62.out).mono ?_); (case side1 => repeat (first | exact (Kd.R_reads' HO_24.out).2.2 | (with_reducible refine Kd.C_alloc ?_ _) | (with_reducible refine Kd.C_drewN ?_ _) | (with_reducible refine Kd.C_drew ?_))); (case side2 => exact (Kd.R_reads' HO_24.out).2.1); rintro e w69 ⟨rfl, hb⟩; refine ⟨_, rfl, ?_⟩; have n0_ := Aside0.mk (Kd.V_below (by (with_reducible repeat (first | apply Kd.V_alloc | apply Kd.V_drewN | apply Kd.V_drew)); exact HO_0.out) hb); have n1_ := Aside0.mk (Kd.R_below (by (with_reducible repeat (first | apply Kd.R_alloc | apply Kd.R_drewN | apply Kd.R_drew)); exact HO_24.out) hb); have n2_ := Aside0.mk (below_step (by repeat (first | (with_reducible first | exact HB.out | apply below_alloc | apply pw_below_drewN | apply below_drew1) | exact HB.out)) hb); clear HO_0; clear HO_24; clear HB; have HO_0 := n0_; have HO_24 := n1_; have HB := n2_; clear n0_ n1_ n2_; (try clear hb); (try clear hb2); (try clear hk); (try clear hi)) | ((with_reducible refine gate_callee (f := 9) rfl ?_); refine goesL_ (some 198) rfl rfl Try.func9 (by kernel_rfl) rfl #[] rfl (by (try simp only [List.map_toArray, List.map_cons, List.map_nil]); first | done | rfl | (simp only [List.length_drop, List.length_take]; rfl)) ?_; (with_reducible refine (deadboltlaw02_alive.calls  true _ A63.out).mono ?_); rintro e w70 ⟨rfl, hb⟩; refine ⟨_, rfl, ?_⟩; have n0_ := Aside0.mk (Kd.V_below (by (with_reducible repeat (first | apply Kd.V_alloc | apply Kd.V_drewN | apply Kd.V_drew)); exact HO_0.out) hb); have n1_ := Aside0.mk (Kd.R_below (by (with_reducible repeat (first | apply Kd.R_alloc | apply Kd.R_drewN | apply Kd.R_drew)); exact HO_24.out) hb); have n2_ := Aside0.mk (below_step (by repeat (first | (with_reducible first | exact HB.out | apply below_alloc | apply pw_below_drewN | apply below_drew1) | exact HB.out)) hb); clear HO_0; clear HO_24; clear HB; have HO_0 := n0_; have HO_24 := n1_; have HB := n2_; clear n0_ n1_ n2_; (try clear hb); (try clear hb2); (try clear hk); (try clear hi)))
                      go_ret
                      exact ⟨by first | rfl | (simp [errW_none, errW_some] <;> rfl) | (simp [*, errW_none, errW_some] <;> rfl), by repeat (first | (with_reducible first | exact HB.out | apply below_alloc | apply pw_below_drewN | apply below_drew1) | exact HB.out)⟩
                    · rw [if_neg c66] at H
                      have c66b0 : (a2 == a1) = false := beq_eq_false_iff_ne.mpr c66
                      have c66b1 : (a2 != a1) = true := bne_iff_ne.mpr c66
                      obtain rfl := Option.some.inj H
                      go_wp2_with (first | ((with_reducible refine gate_callee (f := 12) rfl ?_); refine goesL_ (some 189) rfl rfl Try.func12 (by kernel_rfl) rfl #[.slice Ao15 t117.length co15, .int .i64 a2] rfl (by (try simp only [List.map_toArray, List.map_cons, List.map_nil]); first | done | rfl | (simp only [List.length_drop, List.length_take]; rfl)) ?_; (with_reducible refine (cell_Load.calls _ _ t117 a2 t164 t165 _ ?side1 ?side2 A61.out).mono ?_); (case side1 => repeat (first | exact (Kd.V_reads' HO_0.out).2.2 | (with_reducible refine Kd.C_alloc ?_ _) | (with_reducible refine Kd.C_drewN ?_ _) | (with_reducible refine Kd.C_drew ?_))); (case side2 => exact (Kd.V_reads' HO_0.out).2.1); rintro e w71 ⟨rfl, hb⟩; refine ⟨_, rfl, ?_⟩; have n0_ := Aside0.mk (Kd.V_below (by (with_reducible repeat (first | apply Kd.V_alloc | apply Kd.V_drewN | apply Kd.V_drew)); exact HO_0.out) hb); have n1_ := Aside0.mk (Kd.R_below (by (with_reducible repeat (first | apply Kd.R_alloc | apply Kd.R_drewN | apply Kd.R_drew)); exact HO_24.out) hb); have n2_ := Aside0.mk (below_step (by repeat (first | (with_reducible first | exact HB.out | apply below_alloc | apply pw_below_drewN | apply below_drew1) | exact HB.out)) hb); clear HO_0; clear HO_24; clear HB; have HO_0 := n0_; have HO_24 := n1_; have HB := n2_; clear n0_ n1_ n2_; (try clear hb); (try clear hb2); (try clear hk); (try clear hi); obtain ⟨Ao72, co72, eo72⟩ := Kd.R_slice HO_24.out; subst eo72) | ((with_reducible refine gate_callee (f := 12) rfl ?_); refine goesL_ (some 195) rfl rfl Try.func12 (by kernel_rfl) rfl #[.slice Ao72 t148.length co72, .int .i64 a2] rfl (by (try simp only [List.map_toArray, List.map_cons, List.map_nil]); first | done | rfl | (simp only [List.length_drop, List.length_take]; rfl)) ?_; (with_reducible refine (cell_Load.calls _ _ t148 a2 t166 t167 _ ?side1 ?side2 A62.out).mono ?_); (case side1 => repeat (first | exact (Kd.R_reads' HO_24.out).2.2 | (with_reducible refine Kd.C_alloc ?_ _) | (with_reducible refine Kd.C_drewN ?_ _) | (with_reducible refine Kd.C_drew ?_))); (case side2 => exact (Kd.R_reads' HO_24.out).2.1); rintro e w73 ⟨rfl, hb⟩; refine ⟨_, rfl, ?_⟩; have n0_ := Aside0.mk (Kd.V_below (by (with_reducible repeat (first | apply Kd.V_alloc | apply Kd.V_drewN | apply Kd.V_drew)); exact HO_0.out) hb); have n1_ := Aside0.mk (Kd.R_below (by (with_reducible repeat (first | apply Kd.R_alloc | apply Kd.R_drewN | apply Kd.R_drew)); exact HO_24.out) hb); have n2_ := Aside0.mk (below_step (by repeat (first | (with_reducible first | exact HB.out | apply below_alloc | apply pw_below_drewN | apply below_drew1) | exact HB.out)) hb); clear HO_0; clear HO_24; clear HB; have HO_0 := n0_; have HO_24 := n1_; have HB := n2_; clear n0_ n1_ n2_; (try clear hb); (try clear hb2); (try clear hk); (try clear hi)) | ((with_reducible refine gate_callee (f := 9) rfl ?_); refine goesL_ (some 198) rfl rfl Try.func9 (by kernel_rfl) rfl #[] rfl (by (try simp only [List.map_toArray, List.map_cons, List.map_nil]); first | done | rfl | (simp only [List.length_drop, List.length_take]; rfl)) ?_; (with_reducible refine (deadboltlaw02_alive.calls  true _ A63.out).mono ?_); rintro e w74 ⟨rfl, hb⟩; refine ⟨_, rfl, ?_⟩; have n0_ := Aside0.mk (Kd.V_below (by (with_reducible repeat (first | apply Kd.V_alloc | apply Kd.V_drewN | apply Kd.V_drew)); exact HO_0.out) hb); have n1_ := Aside0.mk (Kd.R_below (by (with_reducible repeat (first | apply Kd.R_alloc | apply Kd.R_drewN | apply Kd.R_drew)); exact HO_24.out) hb); have n2_ := Aside0.mk (below_step (by repeat (first | (with_reducible first | exact HB.out | apply below_alloc | apply pw_below_drewN | apply below_drew1) | exact HB.out)) hb); clear HO_0; clear HO_24; clear HB; have HO_0 := n0_; have HO_24 := n1_; have HB := n2_; clear n0_ n1_ n2_; (try clear hb); (try clear hb2); (try clear hk); (try clear hi)))
                      go_ret
                      exact ⟨by first | rfl | (simp [errW_none, errW_some] <;> rfl) | (simp [*, errW_none, errW_some] <;> rfl), by repeat (first | (with_reducible first | exact HB.out | apply below_alloc | apply pw_below_drewN | apply below_drew1) | exact HB.out)⟩
                  · rw [if_neg c65] at H
                    have c65b0 : (t165 == t167) = false := beq_eq_false_iff_ne.mpr c65
                    have c65b1 : (t165 != t167) = true := bne_iff_ne.mpr c65
                    obtain rfl := Option.some.inj H
                    go_wp2_with (first | ((with_reducible refine gate_callee (f := 12) rfl ?_); refine goesL_ (some 189) rfl rfl Try.func12 (by kernel_rfl) rfl #[.slice Ao15 t117.length co15, .int .i64 a2] rfl (by (try simp only [List.map_toArray, List.map_cons, List.map_nil]); first | done | rfl | (simp only [List.length_drop, List.length_take]; rfl)) ?_; (with_reducible refine (cell_Load.calls _ _ t117 a2 t164 t165 _ ?side1 ?side2 A61.out).mono ?_); (case side1 => repeat (first | exact (Kd.V_reads' HO_0.out).2.2 | (with_reducible refine Kd.C_alloc ?_ _) | (with_reducible refine Kd.C_drewN ?_ _) | (with_reducible refine Kd.C_drew ?_))); (case side2 => exact (Kd.V_reads' HO_0.out).2.1); rintro e w75 ⟨rfl, hb⟩; refine ⟨_, rfl, ?_⟩; have n0_ := Aside0.mk (Kd.V_below (by (with_reducible repeat (first | apply Kd.V_alloc | apply Kd.V_drewN | apply Kd.V_drew)); exact HO_0.out) hb); have n1_ := Aside0.mk (Kd.R_below (by (with_reducible repeat (first | apply Kd.R_alloc | apply Kd.R_drewN | apply Kd.R_drew)); exact HO_24.out) hb); have n2_ := Aside0.mk (below_step (by repeat (first | (with_reducible first | exact HB.out | apply below_alloc | apply pw_below_drewN | apply below_drew1) | exact HB.out)) hb); clear HO_0; clear HO_24; clear HB; have HO_0 := n0_; have HO_24 := n1_; have HB := n2_; clear n0_ n1_ n2_; (try clear hb); (try clear hb2); (try clear hk); (try clear hi); obtain ⟨Ao76, co76, eo76⟩ := Kd.R_slice HO_24.out; subst eo76) | ((with_reducible refine gate_callee (f := 12) rfl ?_); refine goesL_ (some 195) rfl rfl Try.func12 (by kernel_rfl) rfl #[.slice Ao76 t148.length co76, .int .i64 a2] rfl (by (try simp only [List.map_toArray, List.map_cons, List.map_nil]); first | done | rfl | (simp only [List.length_drop, List.length_take]; rfl)) ?_; (with_reducible refine (cell_Load.calls _ _ t148 a2 t166 t167 _ ?side1 ?side2 A62.out).mono ?_); (case side1 => repeat (first | exact (Kd.R_reads' HO_24.out).2.2 | (with_reducible refine Kd.C_alloc ?_ _) | (with_reducible refine Kd.C_drewN ?_ _) | (with_reducible refine Kd.C_drew ?_))); (case side2 => exact (Kd.R_reads' HO_24.out).2.1); rintro e w77 ⟨rfl, hb⟩; refine ⟨_, rfl, ?_⟩; have n0_ := Aside0.mk (Kd.V_below (by (with_reducible repeat (first | apply Kd.V_alloc | apply Kd.V_drewN | apply Kd.V_drew)); exact HO_0.out) hb); have n1_ := Aside0.mk (Kd.R_below (by (with_reducible repeat (first | apply Kd.R_alloc | apply Kd.R_drewN | apply Kd.R_drew)); exact HO_24.out) hb); have n2_ := Aside0.mk (below_step (by repeat (first | (with_reducible first | exact HB.out | apply below_alloc | apply pw_below_drewN | apply below_drew1) | exact HB.out)) hb); clear HO_0; clear HO_24; clear HB; have HO_0 := n0_; have HO_24 := n1_; have HB := n2_; clear n0_ n1_ n2_; (try clear hb); (try clear hb2); (try clear hk); (try clear hi)) | ((with_reducible refine gate_callee (f := 9) rfl ?_); refine goesL_ (some 198) rfl rfl Try.func9 (by kernel_rfl) rfl #[] rfl (by (try simp only [List.map_toArray, List.map_cons, List.map_nil]); first | done | rfl | (simp only [List.length_drop, List.length_take]; rfl)) ?_; (with_reducible refine (deadboltlaw02_alive.calls  true _ A63.out).mono ?_); rintro e w78 ⟨rfl, hb⟩; refine ⟨_, rfl, ?_⟩; have n0_ := Aside0.mk (Kd.V_below (by (with_reducible repeat (first | apply Kd.V_alloc | apply Kd.V_drewN | apply Kd.V_drew)); exact HO_0.out) hb); have n1_ := Aside0.mk (Kd.R_below (by (with_reducible repeat (first | apply Kd.R_alloc | apply Kd.R_drewN | apply Kd.R_drew)); exact HO_24.out) hb); have n2_ := Aside0.mk (below_step (by repeat (first | (with_reducible first | exact HB.out | apply below_alloc | apply pw_below_drewN | apply below_drew1) | exact HB.out)) hb); clear HO_0; clear HO_24; clear HB; have HO_0 := n0_; have HO_24 := n1_; have HB := n2_; clear n0_ n1_ n2_; (try clear hb); (try clear hb2); (try clear hk); (try clear hi)))
                    go_ret
                    exact ⟨by first | rfl | (simp [errW_none, errW_some] <;> rfl) | (simp [*, errW_none, errW_some] <;> rfl), by repeat (first | (with_reducible first | exact HB.out | apply below_alloc | apply pw_below_drewN | apply below_drew1) | exact HB.out)⟩
                · replace c64 := Bool.eq_false_iff.mpr c64
                  subst c64
                  have H1 : (some false) = some r := by rw [if_neg (show ¬ (false = true) by decide)] at H; exact H
                  clear H
                  have H := H1
                  clear H1
                  obtain rfl := Option.some.inj H
                  go_wp2_with (first | ((with_reducible refine gate_callee (f := 12) rfl ?_); refine goesL_ (some 189) rfl rfl Try.func12 (by kernel_rfl) rfl #[.slice Ao15 t117.length co15, .int .i64 a2] rfl (by (try simp only [List.map_toArray, List.map_cons, List.map_nil]); first | done | rfl | (simp only [List.length_drop, List.length_take]; rfl)) ?_; (with_reducible refine (cell_Load.calls _ _ t117 a2 t164 t165 _ ?side1 ?side2 A61.out).mono ?_); (case side1 => repeat (first | exact (Kd.V_reads' HO_0.out).2.2 | (with_reducible refine Kd.C_alloc ?_ _) | (with_reducible refine Kd.C_drewN ?_ _) | (with_reducible refine Kd.C_drew ?_))); (case side2 => exact (Kd.V_reads' HO_0.out).2.1); rintro e w79 ⟨rfl, hb⟩; refine ⟨_, rfl, ?_⟩; have n0_ := Aside0.mk (Kd.V_below (by (with_reducible repeat (first | apply Kd.V_alloc | apply Kd.V_drewN | apply Kd.V_drew)); exact HO_0.out) hb); have n1_ := Aside0.mk (Kd.R_below (by (with_reducible repeat (first | apply Kd.R_alloc | apply Kd.R_drewN | apply Kd.R_drew)); exact HO_24.out) hb); have n2_ := Aside0.mk (below_step (by repeat (first | (with_reducible first | exact HB.out | apply below_alloc | apply pw_below_drewN | apply below_drew1) | exact HB.out)) hb); clear HO_0; clear HO_24; clear HB; have HO_0 := n0_; have HO_24 := n1_; have HB := n2_; clear n0_ n1_ n2_; (try clear hb); (try clear hb2); (try clear hk); (try clear hi); obtain ⟨Ao80, co80, eo80⟩ := Kd.R_slice HO_24.out; subst eo80) | ((with_reducible refine gate_callee (f := 12) rfl ?_); refine goesL_ (some 195) rfl rfl Try.func12 (by kernel_rfl) rfl #[.slice Ao80 t148.length co80, .int .i64 a2] rfl (by (try simp only [List.map_toArray, List.map_cons, List.map_nil]); first | done | rfl | (simp only [List.length_drop, List.length_take]; rfl)) ?_; (with_reducible refine (cell_Load.calls _ _ t148 a2 t166 t167 _ ?side1 ?side2 A62.out).mono ?_); (case side1 => repeat (first | exact (Kd.R_reads' HO_24.out).2.2 | (with_reducible refine Kd.C_alloc ?_ _) | (with_reducible refine Kd.C_drewN ?_ _) | (with_reducible refine Kd.C_drew ?_))); (case side2 => exact (Kd.R_reads' HO_24.out).2.1); rintro e w81 ⟨rfl, hb⟩; refine ⟨_, rfl, ?_⟩; have n0_ := Aside0.mk (Kd.V_below (by (with_reducible repeat (first | apply Kd.V_alloc | apply Kd.V_drewN | apply Kd.V_drew)); exact HO_0.out) hb); have n1_ := Aside0.mk (Kd.R_below (by (with_reducible repeat (first | apply Kd.R_alloc | apply Kd.R_drewN | apply Kd.R_drew)); exact HO_24.out) hb); have n2_ := Aside0.mk (below_step (by repeat (first | (with_reducible first | exact HB.out | apply below_alloc | apply pw_below_drewN | apply below_drew1) | exact HB.out)) hb); clear HO_0; clear HO_24; clear HB; have HO_0 := n0_; have HO_24 := n1_; have HB := n2_; clear n0_ n1_ n2_; (try clear hb); (try clear hb2); (try clear hk); (try clear hi)) | ((with_reducible refine gate_callee (f := 9) rfl ?_); refine goesL_ (some 198) rfl rfl Try.func9 (by kernel_rfl) rfl #[] rfl (by (try simp only [List.map_toArray, List.map_cons, List.map_nil]); first | done | rfl | (simp only [List.length_drop, List.length_take]; rfl)) ?_; (with_reducible refine (deadboltlaw02_alive.calls  false _ A63.out).mono ?_); rintro e w82 ⟨rfl, hb⟩; refine ⟨_, rfl, ?_⟩; have n0_ := Aside0.mk (Kd.V_below (by (with_reducible repeat (first | apply Kd.V_alloc | apply Kd.V_drewN | apply Kd.V_drew)); exact HO_0.out) hb); have n1_ := Aside0.mk (Kd.R_below (by (with_reducible repeat (first | apply Kd.R_alloc | apply Kd.R_drewN | apply Kd.R_drew)); exact HO_24.out) hb); have n2_ := Aside0.mk (below_step (by repeat (first | (with_reducible first | exact HB.out | apply below_alloc | apply pw_below_drewN | apply below_drew1) | exact HB.out)) hb); clear HO_0; clear HO_24; clear HB; have HO_0 := n0_; have HO_24 := n1_; have HB := n2_; clear n0_ n1_ n2_; (try clear hb); (try clear hb2); (try clear hk); (try clear hi)))
                  go_ret
                  exact ⟨by first | rfl | (simp [errW_none, errW_some] <;> rfl) | (simp [*, errW_none, errW_some] <;> rfl), by repeat (first | (with_reducible first | exact HB.out | apply below_alloc | apply pw_below_drewN | apply below_drew1) | exact HB.out)⟩
  · rw [if_neg c8] at H
    have c8b0 : (t121 == 0) = false := beq_eq_false_iff_ne.mpr c8
    have c8b1 : (t121 != 0) = true := bne_iff_ne.mpr c8
    replace H := Option.bind_eq_some_iff.mp H
    obtain ⟨t122, A830, H⟩ := H
    replace H : (if t122 = true then (some (t120 == 0)) else (some false)) = some r := H
    have A83 := Aside0.mk A830
    clear A830
    by_cases c84 : t122 = true
    · subst c84
      have H1 : (some (t120 == 0)) = some r := by rw [if_pos rfl] at H; exact H
      clear H
      have H := H1
      clear H1
      obtain rfl := Option.some.inj H
      go_enter Try.func4, Try.ntmps4
      go_wp2_with (first | ((with_reducible refine gate_callee (f := 6) rfl ?_); refine goesL_ (some 39) rfl rfl Try.func6 (by kernel_rfl) rfl #[.slice A0 l0.length c0] rfl (by (try simp only [List.map_toArray, List.map_cons, List.map_nil]); first | done | rfl | (simp only [List.length_drop, List.length_take]; rfl)) ?_; (with_reducible refine (deadboltlaw02_few.calls (fun k_ => k_ < w.heap.size) _ _ l0 t117 _ ?side1 A6.out).mono ?_); (case side1 => exact Kd.V_mk HC0.out (Kd.F_below (Kd.C_F k44_heap HR0.out) (by repeat (first | (with_reducible first | exact HB.out | apply below_alloc | apply pw_below_drewN | apply below_drew1) | exact HB.out)))); rintro e w85 ⟨v118, rfl, ho0, hb⟩; refine ⟨_, rfl, ?_⟩; have n0_ := Aside0.mk (Kd.V_lower (Kd.V_mono (ok' := fun k_ => True) ho0 (fun k_ hk_ => trivial)) (below_size (by repeat (first | (with_reducible first | exact HB.out | apply below_alloc | apply pw_below_drewN | apply below_drew1) | exact HB.out)))); have n1_ := Aside0.mk (below_step (by repeat (first | (with_reducible first | exact HB.out | apply below_alloc | apply pw_below_drewN | apply below_drew1) | exact HB.out)) hb); clear HB; have HO119 := n0_; have HB := n1_; clear n0_ n1_; (try clear hb); (try clear hb2); (try clear hk); (try clear hi); (try clear ho0); obtain ⟨Ao86, co86, eo86⟩ := Kd.V_slice HO119.out; subst eo86) | ((with_reducible refine gate_callee (f := 12) rfl ?_); refine goesL_ (some 43) rfl rfl Try.func12 (by kernel_rfl) rfl #[.slice Ao86 t117.length co86, .int .i64 a1] rfl (by (try simp only [List.map_toArray, List.map_cons, List.map_nil]); first | done | rfl | (simp only [List.length_drop, List.length_take]; rfl)) ?_; (with_reducible refine (cell_Load.calls _ _ t117 a1 t120 t121 _ ?side1 ?side2 A7.out).mono ?_); (case side1 => repeat (first | exact (Kd.V_reads' HO119.out).2.2 | (with_reducible refine Kd.C_alloc ?_ _) | (with_reducible refine Kd.C_drewN ?_ _) | (with_reducible refine Kd.C_drew ?_))); (case side2 => exact (Kd.V_reads' HO119.out).2.1); rintro e w87 ⟨rfl, hb⟩; refine ⟨_, rfl, ?_⟩; have n0_ := Aside0.mk (Kd.V_below (by (with_reducible repeat (first | apply Kd.V_alloc | apply Kd.V_drewN | apply Kd.V_drew)); exact HO119.out) hb); have n1_ := Aside0.mk (below_step (by repeat (first | (with_reducible first | exact HB.out | apply below_alloc | apply pw_below_drewN | apply below_drew1) | exact HB.out)) hb); clear HO119; clear HB; have HO119 := n0_; have HB := n1_; clear n0_ n1_; (try clear hb); (try clear hb2); (try clear hk); (try clear hi)) | ((with_reducible refine gate_callee (f := 9) rfl ?_); refine goesL_ (some 48) rfl rfl Try.func9 (by kernel_rfl) rfl #[] rfl (by (try simp only [List.map_toArray, List.map_cons, List.map_nil]); first | done | rfl | (simp only [List.length_drop, List.length_take]; rfl)) ?_; (with_reducible refine (deadboltlaw02_alive.calls  true _ A83.out).mono ?_); rintro e w88 ⟨rfl, hb⟩; refine ⟨_, rfl, ?_⟩; have n0_ := Aside0.mk (Kd.V_below (by (with_reducible repeat (first | apply Kd.V_alloc | apply Kd.V_drewN | apply Kd.V_drew)); exact HO119.out) hb); have n1_ := Aside0.mk (below_step (by repeat (first | (with_reducible first | exact HB.out | apply below_alloc | apply pw_below_drewN | apply below_drew1) | exact HB.out)) hb); clear HO119; clear HB; have HO119 := n0_; have HB := n1_; clear n0_ n1_; (try clear hb); (try clear hb2); (try clear hk); (try clear hi)))
      go_ret
      exact ⟨by first | rfl | (simp [errW_none, errW_some] <;> rfl) | (simp [*, errW_none, errW_some] <;> rfl), by repeat (first | (with_reducible first | exact HB.out | apply below_alloc | apply pw_below_drewN | apply below_drew1) | exact HB.out)⟩
    · replace c84 := Bool.eq_false_iff.mpr c84
      subst c84
      have H1 : (some false) = some r := by rw [if_neg (show ¬ (false = true) by decide)] at H; exact H
      clear H
      have H := H1
      clear H1
      obtain rfl := Option.some.inj H
      go_enter Try.func4, Try.ntmps4
      go_wp2_with (first | ((with_reducible refine gate_callee (f := 6) rfl ?_); refine goesL_ (some 39) rfl rfl Try.func6 (by kernel_rfl) rfl #[.slice A0 l0.length c0] rfl (by (try simp only [List.map_toArray, List.map_cons, List.map_nil]); first | done | rfl | (simp only [List.length_drop, List.length_take]; rfl)) ?_; (with_reducible refine (deadboltlaw02_few.calls (fun k_ => k_ < w.heap.size) _ _ l0 t117 _ ?side1 A6.out).mono ?_); (case side1 => exact Kd.V_mk HC0.out (Kd.F_below (Kd.C_F k44_heap HR0.out) (by repeat (first | (with_reducible first | exact HB.out | apply below_alloc | apply pw_below_drewN | apply below_drew1) | exact HB.out)))); rintro e w89 ⟨v118, rfl, ho0, hb⟩; refine ⟨_, rfl, ?_⟩; have n0_ := Aside0.mk (Kd.V_lower (Kd.V_mono (ok' := fun k_ => True) ho0 (fun k_ hk_ => trivial)) (below_size (by repeat (first | (with_reducible first | exact HB.out | apply below_alloc | apply pw_below_drewN | apply below_drew1) | exact HB.out)))); have n1_ := Aside0.mk (below_step (by repeat (first | (with_reducible first | exact HB.out | apply below_alloc | apply pw_below_drewN | apply below_drew1) | exact HB.out)) hb); clear HB; have HO119 := n0_; have HB := n1_; clear n0_ n1_; (try clear hb); (try clear hb2); (try clear hk); (try clear hi); (try clear ho0); obtain ⟨Ao90, co90, eo90⟩ := Kd.V_slice HO119.out; subst eo90) | ((with_reducible refine gate_callee (f := 12) rfl ?_); refine goesL_ (some 43) rfl rfl Try.func12 (by kernel_rfl) rfl #[.slice Ao90 t117.length co90, .int .i64 a1] rfl (by (try simp only [List.map_toArray, List.map_cons, List.map_nil]); first | done | rfl | (simp only [List.length_drop, List.length_take]; rfl)) ?_; (with_reducible refine (cell_Load.calls _ _ t117 a1 t120 t121 _ ?side1 ?side2 A7.out).mono ?_); (case side1 => repeat (first | exact (Kd.V_reads' HO119.out).2.2 | (with_reducible refine Kd.C_alloc ?_ _) | (with_reducible refine Kd.C_drewN ?_ _) | (with_reducible refine Kd.C_drew ?_))); (case side2 => exact (Kd.V_reads' HO119.out).2.1); rintro e w91 ⟨rfl, hb⟩; refine ⟨_, rfl, ?_⟩; have n0_ := Aside0.mk (Kd.V_below (by (with_reducible repeat (first | apply Kd.V_alloc | apply Kd.V_drewN | apply Kd.V_drew)); exact HO119.out) hb); have n1_ := Aside0.mk (below_step (by repeat (first | (with_reducible first | exact HB.out | apply below_alloc | apply pw_below_drewN | apply below_drew1) | exact HB.out)) hb); clear HO119; clear HB; have HO119 := n0_; have HB := n1_; clear n0_ n1_; (try clear hb); (try clear hb2); (try clear hk); (try clear hi)) | ((with_reducible refine gate_callee (f := 9) rfl ?_); refine goesL_ (some 48) rfl rfl Try.func9 (by kernel_rfl) rfl #[] rfl (by (try simp only [List.map_toArray, List.map_cons, List.map_nil]); first | done | rfl | (simp only [List.length_drop, List.length_take]; rfl)) ?_; (with_reducible refine (deadboltlaw02_alive.calls  false _ A83.out).mono ?_); rintro e w92 ⟨rfl, hb⟩; refine ⟨_, rfl, ?_⟩; have n0_ := Aside0.mk (Kd.V_below (by (with_reducible repeat (first | apply Kd.V_alloc | apply Kd.V_drewN | apply Kd.V_drew)); exact HO119.out) hb); have n1_ := Aside0.mk (below_step (by repeat (first | (with_reducible first | exact HB.out | apply below_alloc | apply pw_below_drewN | apply below_drew1) | exact HB.out)) hb); clear HO119; clear HB; have HO119 := n0_; have HB := n1_; clear n0_ n1_; (try clear hb); (try clear hb2); (try clear hk); (try clear hi)))
      go_ret
      exact ⟨by first | rfl | (simp [errW_none, errW_some] <;> rfl) | (simp [*, errW_none, errW_some] <;> rfl), by repeat (first | (with_reducible first | exact HB.out | apply below_alloc | apply pw_below_drewN | apply below_drew1) | exact HB.out)⟩

end Go.Proofs.Ytdecbngdmnmokaa.PCellApart
