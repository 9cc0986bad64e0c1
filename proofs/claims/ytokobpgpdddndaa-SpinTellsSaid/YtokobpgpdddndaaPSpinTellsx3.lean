/- The functions that a law reaches, as Lean functions, and for each a proof that the call hands back just what its Lean function says; no conditions beyond each statement. Written by a program of this session (a changed copy of the print). -/
import Derived.Test.YtokobpgpdddndaaPSpinTellsx0
import Derived.Test.YtokobpgpdddndaaPSpinTellsx1
import Derived.Test.YtokobpgpdddndaaPSpinTellsx2
namespace Go.Proofs.Ytokobpgpdddndaa.PSpinTells
open Go.Proofs.Ytokobpgpdddndaa.Hand
open Go.RowKit Go.Proofs.YtokobpgpdddndaaW.PrintWords Go.Proofs.YtokobpgpdddndaaW.PrintLast Go.Proofs.YtokobpgpdddndaaW.PrintMore
attribute [local go_sem] max2_int min2_int max_two min_two max_three min_three max_four min_four   -- for this text's walks alone
set_option linter.unusedVariables false
set_option linter.unusedSimpArgs false

attribute [local go_sem high] eqA27
/-! ### deadboltlaw06_SpinTells: function 5 -/
mutual
def deadboltlaw06_SpinTells.j0 : Nat → Int → Int → Int → Bool → Int → Int → Int → Bool → Int → Int → Int → Int → Bool → Int → Int → Int → Int → Int → Int → Int → Int → Option (Bool)
  | 0, _, _, _, _, _, _, _, _, _, _, _, _, _, _, _, _, _, _, _, _, _ => none
  | k + 1, x0, x1, x3, x9, x10, x12, x13, x14, x15, x17, x18, x19, x60, x118000, x118001, x125000, x125001, x131000, x131001, x134000, x134001 => if x60 = true then (some false) else (if x0 < 0 then (deadboltlaw06_SpinTells.j1 k x0 x1 x3 x9 x10 x12 x13 x14 x15 x17 x18 x19 true x118000 x118001 x125000 x125001 x131000 x131001 x134000 x134001) else (deadboltlaw06_SpinTells.j1 k x0 x1 x3 x9 x10 x12 x13 x14 x15 x17 x18 x19 (decide (x1 < 0)) x118000 x118001 x125000 x125001 x131000 x131001 x134000 x134001))
def deadboltlaw06_SpinTells.j1 : Nat → Int → Int → Int → Bool → Int → Int → Int → Bool → Int → Int → Int → Int → Bool → Int → Int → Int → Int → Int → Int → Int → Int → Option (Bool)
  | 0, _, _, _, _, _, _, _, _, _, _, _, _, _, _, _, _, _, _, _, _, _ => none
  | k + 1, x0, x1, x3, x9, x10, x12, x13, x14, x15, x17, x18, x19, x66, x118000, x118001, x125000, x125001, x131000, x131001, x134000, x134001 => if x66 = true then (if x10 = 1 then (if x9 = true then (some false) else (deadboltlaw06_SpinTells.j2 k x3 x12 x13 x14 x15 x17 x18 x19 x118000 x118001 x125000 x125001 x131000 x131001 x134000 x134001)) else (some false)) else (if x10 = 0 then ((deadboltref06_Can.f x0 x1).bind fun t137 => (if (x9 != t137) = true then (some false) else (deadboltlaw06_SpinTells.j2 k x3 x12 x13 x14 x15 x17 x18 x19 x118000 x118001 x125000 x125001 x131000 x131001 x134000 x134001))) else (some false))
def deadboltlaw06_SpinTells.j2 : Nat → Int → Int → Int → Bool → Int → Int → Int → Int → Int → Int → Int → Int → Int → Int → Int → Int → Option (Bool)
  | 0, _, _, _, _, _, _, _, _, _, _, _, _, _, _, _, _ => none
  | k + 1, x3, x12, x13, x14, x15, x17, x18, x19, x118000, x118001, x125000, x125001, x131000, x131001, x134000, x134001 => (deadboltref06_Right.f x118000 x118001).bind fun t138 => (if t138 = true then (if x15 = 0 then (if x19 = 0 then (if (x14 != (x3 == x118001)) = true then (deadboltlaw06_SpinTells.j3 k x12 x13 x17 true x118000 x118001 x125000 x125001 x131000 x131001 x134000 x134001) else ((deadboltref06_Out.f x118000 x118001).bind fun t139 => (deadboltlaw06_SpinTells.j3 k x12 x13 x17 (x18 != t139) x118000 x118001 x125000 x125001 x131000 x131001 x134000 x134001))) else (deadboltlaw06_SpinTells.j3 k x12 x13 x17 true x118000 x118001 x125000 x125001 x131000 x131001 x134000 x134001)) else (deadboltlaw06_SpinTells.j3 k x12 x13 x17 true x118000 x118001 x125000 x125001 x131000 x131001 x134000 x134001)) else (if x13 = 1 then (if x15 = 1 then (if x17 = 1 then (if x19 = 1 then (if (x125000 == x134000 && (x125001 == x134001)) = true then (if x12 = 0 then (if x14 = true then (some false) else (if (x131000 == x134000 && (x131001 == x134001)) = true then (some (x18 == 0)) else (some false))) else (some false)) else (some false)) else (some false)) else (some false)) else (some false)) else (some false)))
def deadboltlaw06_SpinTells.j3 : Nat → Int → Int → Int → Bool → Int → Int → Int → Int → Int → Int → Int → Int → Option (Bool)
  | 0, _, _, _, _, _, _, _, _, _, _, _, _ => none
  | k + 1, x12, x13, x17, x139, x118000, x118001, x125000, x125001, x131000, x131001, x134000, x134001 => if x139 = true then (some false) else ((deadboltref06_Out.f x118000 x118001).bind fun t140 => (if t140 = 4294967295 then (if x13 = 5 then (if (!(x125000 == x134000) || (!(x125001 == x134001))) = true then (some false) else (if x12 = 0 then (deadboltlaw06_SpinTells.j4 k x17 x118000 x118001 x131000 x131001 x134000 x134001) else (some false))) else (some false)) else ((deadboltref06_Draw.f x118000 x118001).bind fun bt141 => (if x13 = 0 then (if (!(x125000 == bt141.1) || (!(x125001 == bt141.2.1))) = true then (some false) else (if x12 = bt141.2.2 then (deadboltlaw06_SpinTells.j4 k x17 x118000 x118001 x131000 x131001 x134000 x134001) else (some false))) else (some false)))))
def deadboltlaw06_SpinTells.j4 : Nat → Int → Int → Int → Int → Int → Int → Int → Option (Bool)
  | 0, _, _, _, _, _, _, _ => none
  | k + 1, x17, x118000, x118001, x131000, x131001, x134000, x134001 => (deadboltref06_Out.f x118000 x118001).bind fun t145 => (if t145 = 0 then (if x17 = 6 then (some (x131000 == x134000 && (x131001 == x134001))) else (some false)) else (if x17 = 0 then ((deadboltref06_Done.f x118000 x118001).bind fun bt146 => (some (x131000 == bt146.1 && (x131001 == bt146.2)))) else (some false)))
end
def deadboltlaw06_SpinTells.f (k : Nat) (a0 : Int) (a1 : Int) (a2_0 : Int) (a2_1 : Int) (a3 : Int) : Option (Bool) := (spin_Can.f a0 a1).bind fun bt118 => ((spin_Draw.f a2_0 a2_1).bind fun bt120 => ((spin_Turn.f a2_0 a2_1 a3).bind fun bt125 => ((spin_Done.f a2_0 a2_1).bind fun bt127 => ((spin_Out.f a2_0 a2_1).bind fun bt131 => ((spin_Right.f a2_0 a2_1).bind fun t134 => ((deadboltref06_Right.f a2_0 a2_1).bind fun t135 => (if (t134 != t135) = true then (deadboltlaw06_SpinTells.j0 k a0 a1 a3 bt118.1 bt118.2 bt120.2.2.1 bt120.2.2.2 bt125.1 bt125.2 bt127.2.2 bt131.1 bt131.2 true a2_0 a2_1 bt120.1 bt120.2.1 bt127.1 bt127.2.1 0 0) else ((deadboltlaw06_alive.f).bind fun t136 => (deadboltlaw06_SpinTells.j0 k a0 a1 a3 bt118.1 bt118.2 bt120.2.2.1 bt120.2.2.2 bt125.1 bt125.2 bt127.2.2 bt131.1 bt131.2 (!t136) a2_0 a2_1 bt120.1 bt120.2.1 bt127.1 bt127.2.1 0 0)))))))))
theorem deadboltlaw06_SpinTells.mono_l : ∀ k, (∀ y0 y1 y2 y3 y4 y5 y6 y7 y8 y9 y10 y11 y12 y13 y14 y15 y16 y17 y18 y19 y20, LeO (deadboltlaw06_SpinTells.j0 k y0 y1 y2 y3 y4 y5 y6 y7 y8 y9 y10 y11 y12 y13 y14 y15 y16 y17 y18 y19 y20) (deadboltlaw06_SpinTells.j0 (k + 1) y0 y1 y2 y3 y4 y5 y6 y7 y8 y9 y10 y11 y12 y13 y14 y15 y16 y17 y18 y19 y20)) ∧ (∀ y0 y1 y2 y3 y4 y5 y6 y7 y8 y9 y10 y11 y12 y13 y14 y15 y16 y17 y18 y19 y20, LeO (deadboltlaw06_SpinTells.j1 k y0 y1 y2 y3 y4 y5 y6 y7 y8 y9 y10 y11 y12 y13 y14 y15 y16 y17 y18 y19 y20) (deadboltlaw06_SpinTells.j1 (k + 1) y0 y1 y2 y3 y4 y5 y6 y7 y8 y9 y10 y11 y12 y13 y14 y15 y16 y17 y18 y19 y20)) ∧ (∀ y0 y1 y2 y3 y4 y5 y6 y7 y8 y9 y10 y11 y12 y13 y14 y15, LeO (deadboltlaw06_SpinTells.j2 k y0 y1 y2 y3 y4 y5 y6 y7 y8 y9 y10 y11 y12 y13 y14 y15) (deadboltlaw06_SpinTells.j2 (k + 1) y0 y1 y2 y3 y4 y5 y6 y7 y8 y9 y10 y11 y12 y13 y14 y15)) ∧ (∀ y0 y1 y2 y3 y4 y5 y6 y7 y8 y9 y10 y11, LeO (deadboltlaw06_SpinTells.j3 k y0 y1 y2 y3 y4 y5 y6 y7 y8 y9 y10 y11) (deadboltlaw06_SpinTells.j3 (k + 1) y0 y1 y2 y3 y4 y5 y6 y7 y8 y9 y10 y11)) ∧ (∀ y0 y1 y2 y3 y4 y5 y6, LeO (deadboltlaw06_SpinTells.j4 k y0 y1 y2 y3 y4 y5 y6) (deadboltlaw06_SpinTells.j4 (k + 1) y0 y1 y2 y3 y4 y5 y6))
  | 0 => ⟨fun _ _ _ _ _ _ _ _ _ _ _ _ _ _ _ _ _ _ _ _ _ r h => by simp [deadboltlaw06_SpinTells.j0] at h, fun _ _ _ _ _ _ _ _ _ _ _ _ _ _ _ _ _ _ _ _ _ r h => by simp [deadboltlaw06_SpinTells.j1] at h, fun _ _ _ _ _ _ _ _ _ _ _ _ _ _ _ _ r h => by simp [deadboltlaw06_SpinTells.j2] at h, fun _ _ _ _ _ _ _ _ _ _ _ _ r h => by simp [deadboltlaw06_SpinTells.j3] at h, fun _ _ _ _ _ _ _ r h => by simp [deadboltlaw06_SpinTells.j4] at h⟩
  | k + 1 => by
    obtain ⟨ih0, ih1, ih2, ih3, ih4⟩ := deadboltlaw06_SpinTells.mono_l k
    refine ⟨?_, ?_, ?_, ?_, ?_⟩
    · intro y0 y1 y2 y3 y4 y5 y6 y7 y8 y9 y10 y11 y12 y13 y14 y15 y16 y17 y18 y19 y20
      unfold deadboltlaw06_SpinTells.j0
      repeat' first
      | (with_reducible exact ih0 _ _ _ _ _ _ _ _ _ _ _ _ _ _ _ _ _ _ _ _ _)
      | (with_reducible exact ih1 _ _ _ _ _ _ _ _ _ _ _ _ _ _ _ _ _ _ _ _ _)
      | (with_reducible exact ih2 _ _ _ _ _ _ _ _ _ _ _ _ _ _ _ _)
      | (with_reducible exact ih3 _ _ _ _ _ _ _ _ _ _ _ _)
      | (with_reducible exact ih4 _ _ _ _ _ _ _)
      | (with_reducible exact LeO.refl _)
      | (with_reducible exact LeO.none _)
      | (with_reducible refine LeO.ite ?_ ?_)
      | (with_reducible refine LeO.bind ?_ (fun _ => ?_))
      | exact ih0 _ _ _ _ _ _ _ _ _ _ _ _ _ _ _ _ _ _ _ _ _
      | exact ih1 _ _ _ _ _ _ _ _ _ _ _ _ _ _ _ _ _ _ _ _ _
      | exact ih2 _ _ _ _ _ _ _ _ _ _ _ _ _ _ _ _
      | exact ih3 _ _ _ _ _ _ _ _ _ _ _ _
      | exact ih4 _ _ _ _ _ _ _
      | exact LeO.none _
      | refine LeO.ite ?_ ?_
      | refine LeO.bind ?_ (fun _ => ?_)
    · intro y0 y1 y2 y3 y4 y5 y6 y7 y8 y9 y10 y11 y12 y13 y14 y15 y16 y17 y18 y19 y20
      unfold deadboltlaw06_SpinTells.j1
      repeat' first
      | (with_reducible exact ih0 _ _ _ _ _ _ _ _ _ _ _ _ _ _ _ _ _ _ _ _ _)
      | (with_reducible exact ih1 _ _ _ _ _ _ _ _ _ _ _ _ _ _ _ _ _ _ _ _ _)
      | (with_reducible exact ih2 _ _ _ _ _ _ _ _ _ _ _ _ _ _ _ _)
      | (with_reducible exact ih3 _ _ _ _ _ _ _ _ _ _ _ _)
      | (with_reducible exact ih4 _ _ _ _ _ _ _)
      | (with_reducible exact LeO.refl _)
      | (with_reducible exact LeO.none _)
      | (with_reducible refine LeO.ite ?_ ?_)
      | (with_reducible refine LeO.bind ?_ (fun _ => ?_))
      | exact ih0 _ _ _ _ _ _ _ _ _ _ _ _ _ _ _ _ _ _ _ _ _
      | exact ih1 _ _ _ _ _ _ _ _ _ _ _ _ _ _ _ _ _ _ _ _ _
      | exact ih2 _ _ _ _ _ _ _ _ _ _ _ _ _ _ _ _
      | exact ih3 _ _ _ _ _ _ _ _ _ _ _ _
      | exact ih4 _ _ _ _ _ _ _
      | exact LeO.none _
      | refine LeO.ite ?_ ?_
      | refine LeO.bind ?_ (fun _ => ?_)
    · intro y0 y1 y2 y3 y4 y5 y6 y7 y8 y9 y10 y11 y12 y13 y14 y15
      unfold deadboltlaw06_SpinTells.j2
      repeat' first
      | (with_reducible exact ih0 _ _ _ _ _ _ _ _ _ _ _ _ _ _ _ _ _ _ _ _ _)
      | (with_reducible exact ih1 _ _ _ _ _ _ _ _ _ _ _ _ _ _ _ _ _ _ _ _ _)
      | (with_reducible exact ih2 _ _ _ _ _ _ _ _ _ _ _ _ _ _ _ _)
      | (with_reducible exact ih3 _ _ _ _ _ _ _ _ _ _ _ _)
      | (with_reducible exact ih4 _ _ _ _ _ _ _)
      | (with_reducible exact LeO.refl _)
      | (with_reducible exact LeO.none _)
      | (with_reducible refine LeO.ite ?_ ?_)
      | (with_reducible refine LeO.bind ?_ (fun _ => ?_))
      | exact ih0 _ _ _ _ _ _ _ _ _ _ _ _ _ _ _ _ _ _ _ _ _
      | exact ih1 _ _ _ _ _ _ _ _ _ _ _ _ _ _ _ _ _ _ _ _ _
      | exact ih2 _ _ _ _ _ _ _ _ _ _ _ _ _ _ _ _
      | exact ih3 _ _ _ _ _ _ _ _ _ _ _ _
      | exact ih4 _ _ _ _ _ _ _
      | exact LeO.none _
      | refine LeO.ite ?_ ?_
      | refine LeO.bind ?_ (fun _ => ?_)
    · intro y0 y1 y2 y3 y4 y5 y6 y7 y8 y9 y10 y11
      unfold deadboltlaw06_SpinTells.j3
      repeat' first
      | (with_reducible exact ih0 _ _ _ _ _ _ _ _ _ _ _ _ _ _ _ _ _ _ _ _ _)
      | (with_reducible exact ih1 _ _ _ _ _ _ _ _ _ _ _ _ _ _ _ _ _ _ _ _ _)
      | (with_reducible exact ih2 _ _ _ _ _ _ _ _ _ _ _ _ _ _ _ _)
      | (with_reducible exact ih3 _ _ _ _ _ _ _ _ _ _ _ _)
      | (with_reducible exact ih4 _ _ _ _ _ _ _)
      | (with_reducible exact LeO.refl _)
      | (with_reducible exact LeO.none _)
      | (with_reducible refine LeO.ite ?_ ?_)
      | (with_reducible refine LeO.bind ?_ (fun _ => ?_))
      | exact ih0 _ _ _ _ _ _ _ _ _ _ _ _ _ _ _ _ _ _ _ _ _
      | exact ih1 _ _ _ _ _ _ _ _ _ _ _ _ _ _ _ _ _ _ _ _ _
      | exact ih2 _ _ _ _ _ _ _ _ _ _ _ _ _ _ _ _
      | exact ih3 _ _ _ _ _ _ _ _ _ _ _ _
      | exact ih4 _ _ _ _ _ _ _
      | exact LeO.none _
      | refine LeO.ite ?_ ?_
      | refine LeO.bind ?_ (fun _ => ?_)
    · intro y0 y1 y2 y3 y4 y5 y6
      unfold deadboltlaw06_SpinTells.j4
      repeat' first
      | (with_reducible exact ih0 _ _ _ _ _ _ _ _ _ _ _ _ _ _ _ _ _ _ _ _ _)
      | (with_reducible exact ih1 _ _ _ _ _ _ _ _ _ _ _ _ _ _ _ _ _ _ _ _ _)
      | (with_reducible exact ih2 _ _ _ _ _ _ _ _ _ _ _ _ _ _ _ _)
      | (with_reducible exact ih3 _ _ _ _ _ _ _ _ _ _ _ _)
      | (with_reducible exact ih4 _ _ _ _ _ _ _)
      | (with_reducible exact LeO.refl _)
      | (with_reducible exact LeO.none _)
      | (with_reducible refine LeO.ite ?_ ?_)
      | (with_reducible refine LeO.bind ?_ (fun _ => ?_))
      | exact ih0 _ _ _ _ _ _ _ _ _ _ _ _ _ _ _ _ _ _ _ _ _
      | exact ih1 _ _ _ _ _ _ _ _ _ _ _ _ _ _ _ _ _ _ _ _ _
      | exact ih2 _ _ _ _ _ _ _ _ _ _ _ _ _ _ _ _
      | exact ih3 _ _ _ _ _ _ _ _ _ _ _ _
      | exact ih4 _ _ _ _ _ _ _
      | exact LeO.none _
      | refine LeO.ite ?_ ?_
      | refine LeO.bind ?_ (fun _ => ?_)
theorem deadboltlaw06_SpinTells.mono : ∀ a0 a1 a2 a3 a4 k, LeO (deadboltlaw06_SpinTells.f k a0 a1 a2 a3 a4) (deadboltlaw06_SpinTells.f (k + 1) a0 a1 a2 a3 a4) := by
  intro a0 a1 a2 a3 a4 k
  obtain ⟨ih0, ih1, ih2, ih3, ih4⟩ := deadboltlaw06_SpinTells.mono_l k
  unfold deadboltlaw06_SpinTells.f
  repeat' first
      | (with_reducible exact ih0 _ _ _ _ _ _ _ _ _ _ _ _ _ _ _ _ _ _ _ _ _)
      | (with_reducible exact ih1 _ _ _ _ _ _ _ _ _ _ _ _ _ _ _ _ _ _ _ _ _)
      | (with_reducible exact ih2 _ _ _ _ _ _ _ _ _ _ _ _ _ _ _ _)
      | (with_reducible exact ih3 _ _ _ _ _ _ _ _ _ _ _ _)
      | (with_reducible exact ih4 _ _ _ _ _ _ _)
      | (with_reducible exact LeO.refl _)
      | (with_reducible exact LeO.none _)
      | (with_reducible refine LeO.ite ?_ ?_)
      | (with_reducible refine LeO.bind ?_ (fun _ => ?_))
      | exact ih0 _ _ _ _ _ _ _ _ _ _ _ _ _ _ _ _ _ _ _ _ _
      | exact ih1 _ _ _ _ _ _ _ _ _ _ _ _ _ _ _ _ _ _ _ _ _
      | exact ih2 _ _ _ _ _ _ _ _ _ _ _ _ _ _ _ _
      | exact ih3 _ _ _ _ _ _ _ _ _ _ _ _
      | exact ih4 _ _ _ _ _ _ _
      | exact LeO.none _
      | refine LeO.ite ?_ ?_
      | refine LeO.bind ?_ (fun _ => ?_)
def deadboltlaw06_SpinTells.T7 : Bool × List (List Nat × List Nat) := (true, [([], []), ([0], [0]), ([], []), ([2, 1], [2]), ([1, 3], [1, 3]), ([4, 3], [4]), ([5, 5], [5]), ([6, 5], [5, 6]), ([5, 7], [5, 7])])
def deadboltlaw06_SpinTells.B7 : List Nat := [0, 1, 0, 7, 15, 31, 63, 127, 255]
theorem deadboltlaw06_SpinTells.tab7 : rtab .any (opsOf Try.f5 7) = deadboltlaw06_SpinTells.T7 := by kernel_rfl
theorem deadboltlaw06_SpinTells.bits7 : waitsOk deadboltlaw06_SpinTells.T7.2 deadboltlaw06_SpinTells.B7 = true := by kernel_rfl
def deadboltlaw06_SpinTells.T26 : Bool × List (List Nat × List Nat) := (true, [([], []), ([0], [0]), ([1], [1]), ([2], [2]), ([2], [2]), ([4, 2, 2], [2, 4]), ([3, 5, 2], [2, 3, 5]), ([2, 6], [2, 6]), ([7, 5, 0, 1, 2, 3, 4, 5, 6, 7], [7])])
def deadboltlaw06_SpinTells.B26 : List Nat := [0, 1, 3, 7, 7, 23, 63, 127, 255]
theorem deadboltlaw06_SpinTells.tab26 : rtab .any (opsOf Try.f5 26) = deadboltlaw06_SpinTells.T26 := by kernel_rfl
theorem deadboltlaw06_SpinTells.bits26 : waitsOk deadboltlaw06_SpinTells.T26.2 deadboltlaw06_SpinTells.B26 = true := by kernel_rfl
set_option maxHeartbeats 8000000 in
set_option maxRecDepth 100000 in
theorem deadboltlaw06_SpinTells.calls (k : Nat) (a0 : Int) (a1 : Int) (a2_0 : Int) (a2_1 : Int) (a3 : Int) (r : Bool) (w : World) (h : deadboltlaw06_SpinTells.f k a0 a1 a2_0 a2_1 a3 = some r) :
    Calls Try.prog 5 #[.int .i64 a0, .int .i64 a1, .agg #[.int .i64 a2_0, .int .i64 a2_1], .int .i64 a3] w fun e w' => e = .returned (.bool r) ∧ Below w.heap.size w w' := by
  have hu27 := Try.underlying27
  have HB := Aside0.mk (Below.refl w.heap.size w)
  have H : ((spin_Can.f a0 a1).bind fun bt118 => ((spin_Draw.f a2_0 a2_1).bind fun bt120 => ((spin_Turn.f a2_0 a2_1 a3).bind fun bt125 => ((spin_Done.f a2_0 a2_1).bind fun bt127 => ((spin_Out.f a2_0 a2_1).bind fun bt131 => ((spin_Right.f a2_0 a2_1).bind fun t134 => ((deadboltref06_Right.f a2_0 a2_1).bind fun t135 => (if (t134 != t135) = true then (deadboltlaw06_SpinTells.j0 k a0 a1 a3 bt118.1 bt118.2 bt120.2.2.1 bt120.2.2.2 bt125.1 bt125.2 bt127.2.2 bt131.1 bt131.2 true a2_0 a2_1 bt120.1 bt120.2.1 bt127.1 bt127.2.1 0 0) else ((deadboltlaw06_alive.f).bind fun t136 => (deadboltlaw06_SpinTells.j0 k a0 a1 a3 bt118.1 bt118.2 bt120.2.2.1 bt120.2.2.2 bt125.1 bt125.2 bt127.2.2 bt131.1 bt131.2 (!t136) a2_0 a2_1 bt120.1 bt120.2.1 bt127.1 bt127.2.1 0 0)))))))))) = some r := h
  clear h
  replace H := Option.bind_eq_some_iff.mp H
  obtain ⟨⟨t118, t119⟩, A50, H⟩ := H
  replace H : ((spin_Draw.f a2_0 a2_1).bind fun bt120 => ((spin_Turn.f a2_0 a2_1 a3).bind fun bt125 => ((spin_Done.f a2_0 a2_1).bind fun bt127 => ((spin_Out.f a2_0 a2_1).bind fun bt131 => ((spin_Right.f a2_0 a2_1).bind fun t134 => ((deadboltref06_Right.f a2_0 a2_1).bind fun t135 => (if (t134 != t135) = true then (deadboltlaw06_SpinTells.j0 k a0 a1 a3 t118 t119 bt120.2.2.1 bt120.2.2.2 bt125.1 bt125.2 bt127.2.2 bt131.1 bt131.2 true a2_0 a2_1 bt120.1 bt120.2.1 bt127.1 bt127.2.1 0 0) else ((deadboltlaw06_alive.f).bind fun t136 => (deadboltlaw06_SpinTells.j0 k a0 a1 a3 t118 t119 bt120.2.2.1 bt120.2.2.2 bt125.1 bt125.2 bt127.2.2 bt131.1 bt131.2 (!t136) a2_0 a2_1 bt120.1 bt120.2.1 bt127.1 bt127.2.1 0 0))))))))) = some r := H
  have A5 := Aside0.mk A50
  clear A50
  replace H := Option.bind_eq_some_iff.mp H
  obtain ⟨⟨t120, t121, t122, t123⟩, A60, H⟩ := H
  replace H : ((spin_Turn.f a2_0 a2_1 a3).bind fun bt125 => ((spin_Done.f a2_0 a2_1).bind fun bt127 => ((spin_Out.f a2_0 a2_1).bind fun bt131 => ((spin_Right.f a2_0 a2_1).bind fun t134 => ((deadboltref06_Right.f a2_0 a2_1).bind fun t135 => (if (t134 != t135) = true then (deadboltlaw06_SpinTells.j0 k a0 a1 a3 t118 t119 t122 t123 bt125.1 bt125.2 bt127.2.2 bt131.1 bt131.2 true a2_0 a2_1 t120 t121 bt127.1 bt127.2.1 0 0) else ((deadboltlaw06_alive.f).bind fun t136 => (deadboltlaw06_SpinTells.j0 k a0 a1 a3 t118 t119 t122 t123 bt125.1 bt125.2 bt127.2.2 bt131.1 bt131.2 (!t136) a2_0 a2_1 t120 t121 bt127.1 bt127.2.1 0 0)))))))) = some r := H
  have A6 := Aside0.mk A60
  clear A60
  replace H := Option.bind_eq_some_iff.mp H
  obtain ⟨⟨t125, t126⟩, A70, H⟩ := H
  replace H : ((spin_Done.f a2_0 a2_1).bind fun bt127 => ((spin_Out.f a2_0 a2_1).bind fun bt131 => ((spin_Right.f a2_0 a2_1).bind fun t134 => ((deadboltref06_Right.f a2_0 a2_1).bind fun t135 => (if (t134 != t135) = true then (deadboltlaw06_SpinTells.j0 k a0 a1 a3 t118 t119 t122 t123 t125 t126 bt127.2.2 bt131.1 bt131.2 true a2_0 a2_1 t120 t121 bt127.1 bt127.2.1 0 0) else ((deadboltlaw06_alive.f).bind fun t136 => (deadboltlaw06_SpinTells.j0 k a0 a1 a3 t118 t119 t122 t123 t125 t126 bt127.2.2 bt131.1 bt131.2 (!t136) a2_0 a2_1 t120 t121 bt127.1 bt127.2.1 0 0))))))) = some r := H
  have A7 := Aside0.mk A70
  clear A70
  replace H := Option.bind_eq_some_iff.mp H
  obtain ⟨⟨t127, t128, t129⟩, A80, H⟩ := H
  replace H : ((spin_Out.f a2_0 a2_1).bind fun bt131 => ((spin_Right.f a2_0 a2_1).bind fun t134 => ((deadboltref06_Right.f a2_0 a2_1).bind fun t135 => (if (t134 != t135) = true then (deadboltlaw06_SpinTells.j0 k a0 a1 a3 t118 t119 t122 t123 t125 t126 t129 bt131.1 bt131.2 true a2_0 a2_1 t120 t121 t127 t128 0 0) else ((deadboltlaw06_alive.f).bind fun t136 => (deadboltlaw06_SpinTells.j0 k a0 a1 a3 t118 t119 t122 t123 t125 t126 t129 bt131.1 bt131.2 (!t136) a2_0 a2_1 t120 t121 t127 t128 0 0)))))) = some r := H
  have A8 := Aside0.mk A80
  clear A80
  replace H := Option.bind_eq_some_iff.mp H
  obtain ⟨⟨t131, t132⟩, A90, H⟩ := H
  replace H : ((spin_Right.f a2_0 a2_1).bind fun t134 => ((deadboltref06_Right.f a2_0 a2_1).bind fun t135 => (if (t134 != t135) = true then (deadboltlaw06_SpinTells.j0 k a0 a1 a3 t118 t119 t122 t123 t125 t126 t129 t131 t132 true a2_0 a2_1 t120 t121 t127 t128 0 0) else ((deadboltlaw06_alive.f).bind fun t136 => (deadboltlaw06_SpinTells.j0 k a0 a1 a3 t118 t119 t122 t123 t125 t126 t129 t131 t132 (!t136) a2_0 a2_1 t120 t121 t127 t128 0 0))))) = some r := H
  have A9 := Aside0.mk A90
  clear A90
  have HC10 := Aside0.mk H
  clear H
  go_enter Try.func5, Try.ntmps5
  go_upto_region 7 with (first | ((with_reducible refine gate_dst (N := 6) rfl ?_); refine box_event ?hg (N := 6) ?hd (cs := #[.int .i64 a2_0, .int .i64 a2_1]) (t := 27) ?hr ?_; (case hd => rfl); (case hg => rfl); (case hr => first | (go_simp; done) | (go_simp; rfl)); intro gb117 hg w11 hbox hb; have n0_ := Aside0.mk (below_step (by repeat (first | (with_reducible first | exact HB.out | apply below_alloc | apply pw_below_drewN | apply below_drew1) | exact HB.out)) hb); have n1_ := Aside0.mk (hbox); have n2_ := Aside0.mk ((by rw [hg]; exact (below_size (by repeat (first | (with_reducible first | exact HB.out | apply below_alloc | apply pw_below_drewN | apply below_drew1) | exact HB.out))) : w.heap.size ≤ gb117)); have n3_ := Aside0.mk ((by rw [hg]; exact (below_size (by repeat (first | (with_reducible first | exact HB.out | apply below_alloc | apply pw_below_drewN | apply below_drew1) | exact HB.out))) : w.heap.size ≤ gb117)); clear HB; have HB := n0_; have BK117 := n1_; have GW117 := n2_; have GE117 := n3_; clear n0_ n1_ n2_ n3_; clear hb hbox hg) | ((with_reducible refine gate_callee (f := 12) rfl ?_); refine goesL_ (some 26) rfl rfl Try.func12 (by kernel_rfl) rfl #[.int .i64 a0, .int .i64 a1] rfl (by (try simp only [List.map_toArray, List.map_cons, List.map_nil]); first | done | rfl | (simp only [List.length_drop, List.length_take]; rfl)) ?_; (with_reducible refine (spin_Can.calls a0 a1 t118 t119 _ A5.out).mono ?_); rintro e w' ⟨rfl, ⟨nd, rfl⟩⟩; refine ⟨_, rfl, ?_⟩; (try (rw [drewN_self w11]; generalize hq_ : World.drewN w11 _ = w11; have n0_ : Aside0 (w11.heap[gb117]? = some (.cells #[.int .i64 a2_0, .int .i64 a2_1] 27 (0, 0))) := ⟨by rw [← hq_]; exact (by (with_reducible repeat (first | refine blk_drewN ?_ _ | refine blk_drew ?_ | refine blk_alloc ?_ _)); exact BK117.out)⟩; have n1_ : Aside0 (Below w.heap.size w w11) := ⟨by rw [← hq_]; exact (by repeat (first | (with_reducible first | exact HB.out | apply below_alloc | apply pw_below_drewN | apply below_drew1 | refine below_set ?_ GE117.out) | exact HB.out))⟩; clear BK117 HB hq_; have BK117 := n0_; have HB := n1_; clear n0_ n1_)); have hcz12_0 : w11.cell? ⟨gb117, 0, none⟩ = some (.int .i64 a2_0) := (blk_cell BK117.out 0).trans rfl; have hcz12_1 : w11.cell? ⟨gb117, 1, none⟩ = some (.int .i64 a2_1) := (blk_cell BK117.out 1).trans rfl; have hfz12_0 := blk_frozen BK117.out 0; have hfz12_1 := blk_frozen BK117.out 1) | ((with_reducible refine gate_callee (f := 7) rfl ?_); refine goesL_ (some 31) rfl rfl Try.func7 (by kernel_rfl) rfl #[.agg #[.int .i64 a2_0, .int .i64 a2_1]] rfl (by (try simp only [List.map_toArray, List.map_cons, List.map_nil]); first | done | rfl | (simp only [List.length_drop, List.length_take]; rfl)) ?_; (with_reducible refine (spin_Draw.calls a2_0 a2_1 t120 t121 t122 t123 _ A6.out).mono ?_); rintro e w13 ⟨rfl, hb⟩; refine ⟨_, rfl, ?_⟩; have n0_ := Aside0.mk (blk_below (g := gb117) (o := .cells #[.int .i64 a2_0, .int .i64 a2_1] 27 (0, 0)) (by (with_reducible repeat (first | refine blk_drewN ?_ _ | refine blk_drew ?_ | refine blk_alloc ?_ _)); exact BK117.out) hb); have n1_ := Aside0.mk (below_step (by repeat (first | (with_reducible first | exact HB.out | apply below_alloc | apply pw_below_drewN | apply below_drew1 | refine below_set ?_ GE117.out) | exact HB.out)) hb); clear BK117; clear HB; have BK117 := n0_; have HB := n1_; clear n0_ n1_; (try clear hb); (try clear hb2); (try clear hk); (try clear hi)) | ((with_reducible refine gate_dst (N := 11) rfl ?_); refine box_event ?hg (N := 11) ?hd (cs := #[.int .i64 0, .int .i64 0]) (t := 27) ?hr ?_; (case hd => rfl); (case hg => rfl); (case hr => first | (go_simp; done) | (go_simp; rfl)); intro gb124 hg w14 hbox hb; have n0_ := Aside0.mk (blk_below (g := gb117) (o := .cells #[.int .i64 a2_0, .int .i64 a2_1] 27 (0, 0)) (by (with_reducible repeat (first | refine blk_drewN ?_ _ | refine blk_drew ?_ | refine blk_alloc ?_ _)); exact BK117.out) hb); have n1_ := Aside0.mk (below_step (by repeat (first | (with_reducible first | exact HB.out | apply below_alloc | apply pw_below_drewN | apply below_drew1 | refine below_set ?_ GE117.out) | exact HB.out)) hb); have n2_ := Aside0.mk (hbox); have n3_ := Aside0.mk ((by rw [hg]; exact (below_size (by repeat (first | (with_reducible first | exact HB.out | apply below_alloc | apply pw_below_drewN | apply below_drew1 | refine below_set ?_ GE117.out) | exact HB.out))) : w.heap.size ≤ gb124)); have n4_ := Aside0.mk ((by rw [hg]; exact (below_size (by repeat (first | (with_reducible first | exact HB.out | apply below_alloc | apply pw_below_drewN | apply below_drew1 | refine below_set ?_ GE117.out) | exact HB.out))) : w.heap.size ≤ gb124)); have n5_ := Aside0.mk ((by rw [hg]; exact Nat.ne_of_lt (blk_lt (g := gb117) (o := .cells #[.int .i64 a2_0, .int .i64 a2_1] 27 (0, 0)) (by (with_reducible repeat (first | refine blk_drewN ?_ _ | refine blk_drew ?_ | refine blk_alloc ?_ _)); exact BK117.out)) : gb117 ≠ gb124)); have n6_ := Aside0.mk ((by rw [hg]; exact Nat.ne_of_gt (blk_lt (g := gb117) (o := .cells #[.int .i64 a2_0, .int .i64 a2_1] 27 (0, 0)) (by (with_reducible repeat (first | refine blk_drewN ?_ _ | refine blk_drew ?_ | refine blk_alloc ?_ _)); exact BK117.out)) : gb124 ≠ gb117)); clear BK117; clear HB; have BK117 := n0_; have HB := n1_; have BK124 := n2_; have GW124 := n3_; have GE124 := n4_; have NB117_124 := n5_; have NB124_117 := n6_; clear n0_ n1_ n2_ n3_ n4_ n5_ n6_; clear hb hbox hg; have hnb15 := NB124_117.out; have hnc15 := NB117_124.out; have hcz16_0 : w14.cell? ⟨gb124, 0, none⟩ = some (.int .i64 0) := (blk_cell BK124.out 0).trans rfl; have hcz16_1 : w14.cell? ⟨gb124, 1, none⟩ = some (.int .i64 0) := (blk_cell BK124.out 1).trans rfl; have hfz16_0 := blk_frozen BK124.out 0; have hfz16_1 := blk_frozen BK124.out 1; have hcz17_0 : w14.cell? ⟨gb117, 0, none⟩ = some (.int .i64 a2_0) := (blk_cell BK117.out 0).trans rfl; have hcz17_1 : w14.cell? ⟨gb117, 1, none⟩ = some (.int .i64 a2_1) := (blk_cell BK117.out 1).trans rfl; have hfz17_0 := blk_frozen BK117.out 0; have hfz17_1 := blk_frozen BK117.out 1) | ((with_reducible refine gate_callee (f := 10) rfl ?_); refine goesL_ (some 38) rfl rfl Try.func10 (by kernel_rfl) rfl #[.agg #[.int .i64 a2_0, .int .i64 a2_1], .int .i64 a3] rfl (by (try simp only [List.map_toArray, List.map_cons, List.map_nil]); first | done | rfl | (simp only [List.length_drop, List.length_take]; rfl)) ?_; (with_reducible refine (spin_Turn.calls a2_0 a2_1 a3 t125 t126 _ A7.out).mono ?_); rintro e w18 ⟨rfl, hb⟩; refine ⟨_, rfl, ?_⟩; have n0_ := Aside0.mk (blk_below (g := gb117) (o := .cells #[.int .i64 a2_0, .int .i64 a2_1] 27 (0, 0)) (by (with_reducible repeat (first | refine blk_drewN ?_ _ | refine blk_drew ?_ | refine blk_alloc ?_ _)); refine blk_far ?_ NB117_124.out _; (with_reducible repeat (first | refine blk_drewN ?_ _ | refine blk_drew ?_ | refine blk_alloc ?_ _)); refine blk_far ?_ NB117_124.out _; (with_reducible repeat (first | refine blk_drewN ?_ _ | refine blk_drew ?_ | refine blk_alloc ?_ _)); exact BK117.out) hb); have n1_ := Aside0.mk (blk_below (g := gb124) (o := .cells #[.int .i64 t120, .int .i64 t121] 27 (0, 0)) (by (with_reducible repeat (first | refine blk_drewN ?_ _ | refine blk_drew ?_ | refine blk_alloc ?_ _)); refine blk_put (cs := #[.int .i64 t120, .int .i64 0]) ?_ 1 _ rfl; (with_reducible repeat (first | refine blk_drewN ?_ _ | refine blk_drew ?_ | refine blk_alloc ?_ _)); refine blk_put (cs := #[.int .i64 0, .int .i64 0]) ?_ 0 _ rfl; (with_reducible repeat (first | refine blk_drewN ?_ _ | refine blk_drew ?_ | refine blk_alloc ?_ _)); exact BK124.out) hb); have n2_ := Aside0.mk (below_step (by repeat (first | (with_reducible first | exact HB.out | apply below_alloc | apply pw_below_drewN | apply below_drew1 | refine below_set ?_ GE117.out | refine below_set ?_ GE124.out) | exact HB.out)) hb); clear BK117; clear BK124; clear HB; have BK117 := n0_; have BK124 := n1_; have HB := n2_; clear n0_ n1_ n2_; (try clear hb); (try clear hb2); (try clear hk); (try clear hi); have hcz19_0 : w18.cell? ⟨gb117, 0, none⟩ = some (.int .i64 a2_0) := (blk_cell BK117.out 0).trans rfl; have hcz19_1 : w18.cell? ⟨gb117, 1, none⟩ = some (.int .i64 a2_1) := (blk_cell BK117.out 1).trans rfl; have hfz19_0 := blk_frozen BK117.out 0; have hfz19_1 := blk_frozen BK117.out 1) | ((with_reducible refine gate_callee (f := 8) rfl ?_); refine goesL_ (some 43) rfl rfl Try.func8 (by kernel_rfl) rfl #[.agg #[.int .i64 a2_0, .int .i64 a2_1]] rfl (by (try simp only [List.map_toArray, List.map_cons, List.map_nil]); first | done | rfl | (simp only [List.length_drop, List.length_take]; rfl)) ?_; (with_reducible refine (spin_Done.calls a2_0 a2_1 t127 t128 t129 _ A8.out).mono ?_); rintro e w20 ⟨rfl, hb⟩; refine ⟨_, rfl, ?_⟩; have n0_ := Aside0.mk (blk_below (g := gb117) (o := .cells #[.int .i64 a2_0, .int .i64 a2_1] 27 (0, 0)) (by (with_reducible repeat (first | refine blk_drewN ?_ _ | refine blk_drew ?_ | refine blk_alloc ?_ _)); exact BK117.out) hb); have n1_ := Aside0.mk (blk_below (g := gb124) (o := .cells #[.int .i64 t120, .int .i64 t121] 27 (0, 0)) (by (with_reducible repeat (first | refine blk_drewN ?_ _ | refine blk_drew ?_ | refine blk_alloc ?_ _)); exact BK124.out) hb); have n2_ := Aside0.mk (below_step (by repeat (first | (with_reducible first | exact HB.out | apply below_alloc | apply pw_below_drewN | apply below_drew1 | refine below_set ?_ GE117.out | refine below_set ?_ GE124.out) | exact HB.out)) hb); clear BK117; clear BK124; clear HB; have BK117 := n0_; have BK124 := n1_; have HB := n2_; clear n0_ n1_ n2_; (try clear hb); (try clear hb2); (try clear hk); (try clear hi)) | ((with_reducible refine gate_dst (N := 16) rfl ?_); refine box_event ?hg (N := 16) ?hd (cs := #[.int .i64 0, .int .i64 0]) (t := 27) ?hr ?_; (case hd => rfl); (case hg => rfl); (case hr => first | (go_simp; done) | (go_simp; rfl)); intro gb130 hg w21 hbox hb; have n0_ := Aside0.mk (blk_below (g := gb117) (o := .cells #[.int .i64 a2_0, .int .i64 a2_1] 27 (0, 0)) (by (with_reducible repeat (first | refine blk_drewN ?_ _ | refine blk_drew ?_ | refine blk_alloc ?_ _)); exact BK117.out) hb); have n1_ := Aside0.mk (blk_below (g := gb124) (o := .cells #[.int .i64 t120, .int .i64 t121] 27 (0, 0)) (by (with_reducible repeat (first | refine blk_drewN ?_ _ | refine blk_drew ?_ | refine blk_alloc ?_ _)); exact BK124.out) hb); have n2_ := Aside0.mk (below_step (by repeat (first | (with_reducible first | exact HB.out | apply below_alloc | apply pw_below_drewN | apply below_drew1 | refine below_set ?_ GE117.out | refine below_set ?_ GE124.out) | exact HB.out)) hb); have n3_ := Aside0.mk (hbox); have n4_ := Aside0.mk ((by rw [hg]; exact (below_size (by repeat (first | (with_reducible first | exact HB.out | apply below_alloc | apply pw_below_drewN | apply below_drew1 | refine below_set ?_ GE117.out | refine below_set ?_ GE124.out) | exact HB.out))) : w.heap.size ≤ gb130)); have n5_ := Aside0.mk ((by rw [hg]; exact (below_size (by repeat (first | (with_reducible first | exact HB.out | apply below_alloc | apply pw_below_drewN | apply below_drew1 | refine below_set ?_ GE117.out | refine below_set ?_ GE124.out) | exact HB.out))) : w.heap.size ≤ gb130)); have n6_ := Aside0.mk ((by rw [hg]; exact Nat.ne_of_lt (blk_lt (g := gb117) (o := .cells #[.int .i64 a2_0, .int .i64 a2_1] 27 (0, 0)) (by (with_reducible repeat (first | refine blk_drewN ?_ _ | refine blk_drew ?_ | refine blk_alloc ?_ _)); exact BK117.out)) : gb117 ≠ gb130)); have n7_ := Aside0.mk ((by rw [hg]; exact Nat.ne_of_gt (blk_lt (g := gb117) (o := .cells #[.int .i64 a2_0, .int .i64 a2_1] 27 (0, 0)) (by (with_reducible repeat (first | refine blk_drewN ?_ _ | refine blk_drew ?_ | refine blk_alloc ?_ _)); exact BK117.out)) : gb130 ≠ gb117)); have n8_ := Aside0.mk ((by rw [hg]; exact Nat.ne_of_lt (blk_lt (g := gb124) (o := .cells #[.int .i64 t120, .int .i64 t121] 27 (0, 0)) (by (with_reducible repeat (first | refine blk_drewN ?_ _ | refine blk_drew ?_ | refine blk_alloc ?_ _)); exact BK124.out)) : gb124 ≠ gb130)); have n9_ := Aside0.mk ((by rw [hg]; exact Nat.ne_of_gt (blk_lt (g := gb124) (o := .cells #[.int .i64 t120, .int .i64 t121] 27 (0, 0)) (by (with_reducible repeat (first | refine blk_drewN ?_ _ | refine blk_drew ?_ | refine blk_alloc ?_ _)); exact BK124.out)) : gb130 ≠ gb124)); clear BK117; clear BK124; clear HB; have BK117 := n0_; have BK124 := n1_; have HB := n2_; have BK130 := n3_; have GW130 := n4_; have GE130 := n5_; have NB117_130 := n6_; have NB130_117 := n7_; have NB124_130 := n8_; have NB130_124 := n9_; clear n0_ n1_ n2_ n3_ n4_ n5_ n6_ n7_ n8_ n9_; clear hb hbox hg; have hnb22 := NB130_117.out; have hnc22 := NB117_130.out; have hnb23 := NB130_124.out; have hnc23 := NB124_130.out; have hcz24_0 : w21.cell? ⟨gb130, 0, none⟩ = some (.int .i64 0) := (blk_cell BK130.out 0).trans rfl; have hcz24_1 : w21.cell? ⟨gb130, 1, none⟩ = some (.int .i64 0) := (blk_cell BK130.out 1).trans rfl; have hfz24_0 := blk_frozen BK130.out 0; have hfz24_1 := blk_frozen BK130.out 1; have hcz25_0 : w21.cell? ⟨gb117, 0, none⟩ = some (.int .i64 a2_0) := (blk_cell BK117.out 0).trans rfl; have hcz25_1 : w21.cell? ⟨gb117, 1, none⟩ = some (.int .i64 a2_1) := (blk_cell BK117.out 1).trans rfl; have hfz25_0 := blk_frozen BK117.out 0; have hfz25_1 := blk_frozen BK117.out 1) | ((with_reducible refine gate_callee (f := 9) rfl ?_); refine goesL_ (some 48) rfl rfl Try.func9 (by kernel_rfl) rfl #[.agg #[.int .i64 a2_0, .int .i64 a2_1]] rfl (by (try simp only [List.map_toArray, List.map_cons, List.map_nil]); first | done | rfl | (simp only [List.length_drop, List.length_take]; rfl)) ?_; (with_reducible refine (spin_Out.calls a2_0 a2_1 t131 t132 _ A9.out).mono ?_); rintro e w26 ⟨rfl, hb⟩; refine ⟨_, rfl, ?_⟩; have n0_ := Aside0.mk (blk_below (g := gb117) (o := .cells #[.int .i64 a2_0, .int .i64 a2_1] 27 (0, 0)) (by (with_reducible repeat (first | refine blk_drewN ?_ _ | refine blk_drew ?_ | refine blk_alloc ?_ _)); refine blk_far ?_ NB117_130.out _; (with_reducible repeat (first | refine blk_drewN ?_ _ | refine blk_drew ?_ | refine blk_alloc ?_ _)); refine blk_far ?_ NB117_130.out _; (with_reducible repeat (first | refine blk_drewN ?_ _ | refine blk_drew ?_ | refine blk_alloc ?_ _)); exact BK117.out) hb); have n1_ := Aside0.mk (blk_below (g := gb124) (o := .cells #[.int .i64 t120, .int .i64 t121] 27 (0, 0)) (by (with_reducible repeat (first | refine blk_drewN ?_ _ | refine blk_drew ?_ | refine blk_alloc ?_ _)); refine blk_far ?_ NB124_130.out _; (with_reducible repeat (first | refine blk_drewN ?_ _ | refine blk_drew ?_ | refine blk_alloc ?_ _)); refine blk_far ?_ NB124_130.out _; (with_reducible repeat (first | refine blk_drewN ?_ _ | refine blk_drew ?_ | refine blk_alloc ?_ _)); exact BK124.out) hb); have n2_ := Aside0.mk (blk_below (g := gb130) (o := .cells #[.int .i64 t127, .int .i64 t128] 27 (0, 0)) (by (with_reducible repeat (first | refine blk_drewN ?_ _ | refine blk_drew ?_ | refine blk_alloc ?_ _)); refine blk_put (cs := #[.int .i64 t127, .int .i64 0]) ?_ 1 _ rfl; (with_reducible repeat (first | refine blk_drewN ?_ _ | refine blk_drew ?_ | refine blk_alloc ?_ _)); refine blk_put (cs := #[.int .i64 0, .int .i64 0]) ?_ 0 _ rfl; (with_reducible repeat (first | refine blk_drewN ?_ _ | refine blk_drew ?_ | refine blk_alloc ?_ _)); exact BK130.out) hb); have n3_ := Aside0.mk (below_step (by repeat (first | (with_reducible first | exact HB.out | apply below_alloc | apply pw_below_drewN | apply below_drew1 | refine below_set ?_ GE117.out | refine below_set ?_ GE124.out | refine below_set ?_ GE130.out) | exact HB.out)) hb); clear BK117; clear BK124; clear BK130; clear HB; have BK117 := n0_; have BK124 := n1_; have BK130 := n2_; have HB := n3_; clear n0_ n1_ n2_ n3_; (try clear hb); (try clear hb2); (try clear hk); (try clear hi)) | ((with_reducible refine gate_dst (N := 20) rfl ?_); refine box_event ?hg (N := 20) ?hd (cs := #[.int .i64 0, .int .i64 0]) (t := 27) ?hr ?_; (case hd => rfl); (case hg => rfl); (case hr => first | (go_simp; done) | (go_simp; rfl)); intro gb133 hg w27 hbox hb; have n0_ := Aside0.mk (blk_below (g := gb117) (o := .cells #[.int .i64 a2_0, .int .i64 a2_1] 27 (0, 0)) (by (with_reducible repeat (first | refine blk_drewN ?_ _ | refine blk_drew ?_ | refine blk_alloc ?_ _)); exact BK117.out) hb); have n1_ := Aside0.mk (blk_below (g := gb124) (o := .cells #[.int .i64 t120, .int .i64 t121] 27 (0, 0)) (by (with_reducible repeat (first | refine blk_drewN ?_ _ | refine blk_drew ?_ | refine blk_alloc ?_ _)); exact BK124.out) hb); have n2_ := Aside0.mk (blk_below (g := gb130) (o := .cells #[.int .i64 t127, .int .i64 t128] 27 (0, 0)) (by (with_reducible repeat (first | refine blk_drewN ?_ _ | refine blk_drew ?_ | refine blk_alloc ?_ _)); exact BK130.out) hb); have n3_ := Aside0.mk (below_step (by repeat (first | (with_reducible first | exact HB.out | apply below_alloc | apply pw_below_drewN | apply below_drew1 | refine below_set ?_ GE117.out | refine below_set ?_ GE124.out | refine below_set ?_ GE130.out) | exact HB.out)) hb); have n4_ := Aside0.mk (hbox); have n5_ := Aside0.mk ((by rw [hg]; exact (below_size (by repeat (first | (with_reducible first | exact HB.out | apply below_alloc | apply pw_below_drewN | apply below_drew1 | refine below_set ?_ GE117.out | refine below_set ?_ GE124.out | refine below_set ?_ GE130.out) | exact HB.out))) : w.heap.size ≤ gb133)); have n6_ := Aside0.mk ((by rw [hg]; exact (below_size (by repeat (first | (with_reducible first | exact HB.out | apply below_alloc | apply pw_below_drewN | apply below_drew1 | refine below_set ?_ GE117.out | refine below_set ?_ GE124.out | refine below_set ?_ GE130.out) | exact HB.out))) : w.heap.size ≤ gb133)); have n7_ := Aside0.mk ((by rw [hg]; exact Nat.ne_of_lt (blk_lt (g := gb117) (o := .cells #[.int .i64 a2_0, .int .i64 a2_1] 27 (0, 0)) (by (with_reducible repeat (first | refine blk_drewN ?_ _ | refine blk_drew ?_ | refine blk_alloc ?_ _)); exact BK117.out)) : gb117 ≠ gb133)); have n8_ := Aside0.mk ((by rw [hg]; exact Nat.ne_of_gt (blk_lt (g := gb117) (o := .cells #[.int .i64 a2_0, .int .i64 a2_1] 27 (0, 0)) (by (with_reducible repeat (first | refine blk_drewN ?_ _ | refine blk_drew ?_ | refine blk_alloc ?_ _)); exact BK117.out)) : gb133 ≠ gb117)); have n9_ := Aside0.mk ((by rw [hg]; exact Nat.ne_of_lt (blk_lt (g := gb124) (o := .cells #[.int .i64 t120, .int .i64 t121] 27 (0, 0)) (by (with_reducible repeat (first | refine blk_drewN ?_ _ | refine blk_drew ?_ | refine blk_alloc ?_ _)); exact BK124.out)) : gb124 ≠ gb133)); have n10_ := Aside0.mk ((by rw [hg]; exact Nat.ne_of_gt (blk_lt (g := gb124) (o := .cells #[.int .i64 t120, .int .i64 t121] 27 (0, 0)) (by (with_reducible repeat (first | refine blk_drewN ?_ _ | refine blk_drew ?_ | refine blk_alloc ?_ _)); exact BK124.out)) : gb133 ≠ gb124)); have n11_ := Aside0.mk ((by rw [hg]; exact Nat.ne_of_lt (blk_lt (g := gb130) (o := .cells #[.int .i64 t127, .int .i64 t128] 27 (0, 0)) (by (with_reducible repeat (first | refine blk_drewN ?_ _ | refine blk_drew ?_ | refine blk_alloc ?_ _)); exact BK130.out)) : gb130 ≠ gb133)); have n12_ := Aside0.mk ((by rw [hg]; exact Nat.ne_of_gt (blk_lt (g := gb130) (o := .cells #[.int .i64 t127, .int .i64 t128] 27 (0, 0)) (by (with_reducible repeat (first | refine blk_drewN ?_ _ | refine blk_drew ?_ | refine blk_alloc ?_ _)); exact BK130.out)) : gb133 ≠ gb130)); clear BK117; clear BK124; clear BK130; clear HB; have BK117 := n0_; have BK124 := n1_; have BK130 := n2_; have HB := n3_; have BK133 := n4_; have GW133 := n5_; have GE133 := n6_; have NB117_133 := n7_; have NB133_117 := n8_; have NB124_133 := n9_; have NB133_124 := n10_; have NB130_133 := n11_; have NB133_130 := n12_; clear n0_ n1_ n2_ n3_ n4_ n5_ n6_ n7_ n8_ n9_ n10_ n11_ n12_; clear hb hbox hg; have hnb28 := NB133_117.out; have hnc28 := NB117_133.out; have hnb29 := NB133_124.out; have hnc29 := NB124_133.out; have hnb30 := NB133_130.out; have hnc30 := NB130_133.out; have hcz31_0 : w27.cell? ⟨gb133, 0, none⟩ = some (.int .i64 0) := (blk_cell BK133.out 0).trans rfl; have hcz31_1 : w27.cell? ⟨gb133, 1, none⟩ = some (.int .i64 0) := (blk_cell BK133.out 1).trans rfl; have hfz31_0 := blk_frozen BK133.out 0; have hfz31_1 := blk_frozen BK133.out 1))
  (try simp only [Act.put, List.setIfInBounds_toArray, List.set_cons_zero, List.set_cons_succ])
  go_cut [60] (fun v60 wc => ∃ (kq : Nat) (x60_9 : Bool), v60 = .bool x60_9 ∧ Aside0 (deadboltlaw06_SpinTells.j0 kq a0 a1 a3 t118 t119 t122 t123 t125 t126 t129 t131 t132 x60_9 a2_0 a2_1 t120 t121 t127 t128 0 0 = some r) ∧ Aside0 (kq ≤ k) ∧ Aside0 (wc.heap[gb117]? = some (.cells #[.int .i64 a2_0, .int .i64 a2_1] 27 (0, 0))) ∧ Aside0 (wc.heap[gb124]? = some (.cells #[.int .i64 t120, .int .i64 t121] 27 (0, 0))) ∧ Aside0 (wc.heap[gb130]? = some (.cells #[.int .i64 t127, .int .i64 t128] 27 (0, 0))) ∧ Aside0 (wc.heap[gb133]? = some (.cells #[.int .i64 0, .int .i64 0] 27 (0, 0))) ∧ Aside0 (Below w.heap.size w wc))
  case first =>
    have H := HC10.out
    clear HC10
    replace H := Option.bind_eq_some_iff.mp H
    obtain ⟨t134, A320, H⟩ := H
    replace H : ((deadboltref06_Right.f a2_0 a2_1).bind fun t135 => (if (t134 != t135) = true then (deadboltlaw06_SpinTells.j0 k a0 a1 a3 t118 t119 t122 t123 t125 t126 t129 t131 t132 true a2_0 a2_1 t120 t121 t127 t128 0 0) else ((deadboltlaw06_alive.f).bind fun t136 => (deadboltlaw06_SpinTells.j0 k a0 a1 a3 t118 t119 t122 t123 t125 t126 t129 t131 t132 (!t136) a2_0 a2_1 t120 t121 t127 t128 0 0)))) = some r := H
    have A32 := Aside0.mk A320
    clear A320
    replace H := Option.bind_eq_some_iff.mp H
    obtain ⟨t135, A330, H⟩ := H
    replace H : (if (t134 != t135) = true then (deadboltlaw06_SpinTells.j0 k a0 a1 a3 t118 t119 t122 t123 t125 t126 t129 t131 t132 true a2_0 a2_1 t120 t121 t127 t128 0 0) else ((deadboltlaw06_alive.f).bind fun t136 => (deadboltlaw06_SpinTells.j0 k a0 a1 a3 t118 t119 t122 t123 t125 t126 t129 t131 t132 (!t136) a2_0 a2_1 t120 t121 t127 t128 0 0))) = some r := H
    have A33 := Aside0.mk A330
    clear A330
    by_cases c34 : (t134 != t135) = true
    · rw [if_pos c34] at H
      have c34b0 : (t134 != t135) = true := c34
      (try (have c34b1 : decide (t134 = t135) = false := by simpa using c34))
      (try (have c34b2 : (t134 == t135) = false := by simpa using c34))
      (try (have c34b3 : ¬ (t134 = t135) := by simpa using c34))
      clear c34
      (first | rw [c34b0] | (simp only [i64_w, i32_w]; rw [c34b0]) | skip)
      as_aux_lemma =>
        have H' := Aside0.mk H
        clear H
        try go_wp2
        have n0_ : Aside0 (((w27.setCell ⟨gb133, 0, none⟩ (.int .i64 0)).setCell ⟨gb133, 1, none⟩ (.int .i64 0)).heap[gb117]? = some (.cells #[.int .i64 a2_0, .int .i64 a2_1] 27 (0, 0))) := ⟨by (with_reducible repeat (first | refine blk_drewN ?_ _ | refine blk_drew ?_ | refine blk_alloc ?_ _)); refine blk_far ?_ NB117_133.out _; (with_reducible repeat (first | refine blk_drewN ?_ _ | refine blk_drew ?_ | refine blk_alloc ?_ _)); refine blk_far ?_ NB117_133.out _; (with_reducible repeat (first | refine blk_drewN ?_ _ | refine blk_drew ?_ | refine blk_alloc ?_ _)); exact BK117.out⟩
        have n1_ : Aside0 (((w27.setCell ⟨gb133, 0, none⟩ (.int .i64 0)).setCell ⟨gb133, 1, none⟩ (.int .i64 0)).heap[gb124]? = some (.cells #[.int .i64 t120, .int .i64 t121] 27 (0, 0))) := ⟨by (with_reducible repeat (first | refine blk_drewN ?_ _ | refine blk_drew ?_ | refine blk_alloc ?_ _)); refine blk_far ?_ NB124_133.out _; (with_reducible repeat (first | refine blk_drewN ?_ _ | refine blk_drew ?_ | refine blk_alloc ?_ _)); refine blk_far ?_ NB124_133.out _; (with_reducible repeat (first | refine blk_drewN ?_ _ | refine blk_drew ?_ | refine blk_alloc ?_ _)); exact BK124.out⟩
        have n2_ : Aside0 (((w27.setCell ⟨gb133, 0, none⟩ (.int .i64 0)).setCell ⟨gb133, 1, none⟩ (.int .i64 0)).heap[gb130]? = some (.cells #[.int .i64 t127, .int .i64 t128] 27 (0, 0))) := ⟨by (with_reducible repeat (first | refine blk_drewN ?_ _ | refine blk_drew ?_ | refine blk_alloc ?_ _)); refine blk_far ?_ NB130_133.out _; (with_reducible repeat (first | refine blk_drewN ?_ _ | refine blk_drew ?_ | refine blk_alloc ?_ _)); refine blk_far ?_ NB130_133.out _; (with_reducible repeat (first | refine blk_drewN ?_ _ | refine blk_drew ?_ | refine blk_alloc ?_ _)); exact BK130.out⟩
        have n3_ : Aside0 (((w27.setCell ⟨gb133, 0, none⟩ (.int .i64 0)).setCell ⟨gb133, 1, none⟩ (.int .i64 0)).heap[gb133]? = some (.cells #[.int .i64 0, .int .i64 0] 27 (0, 0))) := ⟨by (with_reducible repeat (first | refine blk_drewN ?_ _ | refine blk_drew ?_ | refine blk_alloc ?_ _)); refine blk_put (cs := #[.int .i64 0, .int .i64 0]) ?_ 1 _ rfl; (with_reducible repeat (first | refine blk_drewN ?_ _ | refine blk_drew ?_ | refine blk_alloc ?_ _)); refine blk_put (cs := #[.int .i64 0, .int .i64 0]) ?_ 0 _ rfl; (with_reducible repeat (first | refine blk_drewN ?_ _ | refine blk_drew ?_ | refine blk_alloc ?_ _)); exact BK133.out⟩
        have n4_ : Aside0 (Below w.heap.size w ((w27.setCell ⟨gb133, 0, none⟩ (.int .i64 0)).setCell ⟨gb133, 1, none⟩ (.int .i64 0))) := ⟨by repeat (first | (with_reducible first | exact HB.out | apply below_alloc | apply pw_below_drewN | apply below_drew1 | refine below_set ?_ GE117.out | refine below_set ?_ GE124.out | refine below_set ?_ GE130.out | refine below_set ?_ GE133.out) | exact HB.out)⟩
        (try clear BK117)
        (try clear BK124)
        (try clear BK130)
        (try clear BK133)
        (try clear HB)
        generalize ((w27.setCell ⟨gb133, 0, none⟩ (.int .i64 0)).setCell ⟨gb133, 1, none⟩ (.int .i64 0)) = w35 at n0_ n1_ n2_ n3_ n4_ ⊢
        have BK117 := n0_
        have BK124 := n1_
        have BK130 := n2_
        have BK133 := n3_
        have HB := n4_
        clear n0_ n1_ n2_ n3_ n4_
        have n0_ := Aside0.mk (blk_drew BK117.out)
        have n1_ := Aside0.mk (blk_drew BK124.out)
        have n2_ := Aside0.mk (blk_drew BK130.out)
        have n3_ := Aside0.mk (blk_drew BK133.out)
        have n4_ := Aside0.mk (below_drew1 HB.out)
        clear BK117
        clear BK124
        clear BK130
        clear BK133
        clear HB
        have BK117 := n0_
        have BK124 := n1_
        have BK130 := n2_
        have BK133 := n3_
        have HB := n4_
        clear n0_ n1_ n2_ n3_ n4_
        refine start_ (n := 9) (S := fun w' => w'.cell? ⟨gb117, 0, none⟩ = some (.int .i64 a2_0) ∧ w'.cell? ⟨gb117, 1, none⟩ = some (.int .i64 a2_1)) (ds := []) #[false, false, false, false, false, false, false, false, false] (by kernel_rfl) rfl rfl ⟨(blk_cell BK117.out 0).trans rfl, (blk_cell BK117.out 1).trans rfl⟩ (fun hHeld => ?_); refine with_tabW deadboltlaw06_SpinTells.tab7 deadboltlaw06_SpinTells.bits7 (fun HT_ HW_ => ?_)
        generalize w35.drew = w36 at BK117 BK124 BK130 BK133 HB hHeld ⊢
        refine take_ (i := 0) (N := some 52) (v := ?_) (a' := ?_) #[true, false, false, false, false, false, false, false, false] rfl rfl (take_ofW HT_.out HW_.out (by kernel_rfl)) (fun _ _ _ h => h) (Or.inl ⟨by rfl, ?_⟩) hHeld ?_ ?_
        rotate_left
        · rintro w' ⟨s0, s1⟩
          go_simp
          with_reducible rfl
        rotate_left
        · simp only [Act.put, List.setIfInBounds_toArray, List.set_cons_zero, List.set_cons_succ, i64_w, i32_w]
          rfl
        refine take_ (i := 2) (N := some 54) (v := ?_) (a' := ?_) #[true, false, true, false, false, false, false, false, false] rfl rfl (take_ofW HT_.out HW_.out (by kernel_rfl)) (fun _ _ _ h => h) (Or.inl ⟨by rfl, ?_⟩) hHeld ?_ ?_
        rotate_left
        · rintro w' ⟨s0, s1⟩
          go_simp
          with_reducible rfl
        rotate_left
        · simp only [Act.put, List.setIfInBounds_toArray, List.set_cons_zero, List.set_cons_succ, i64_w, i32_w]
          rfl
        refine one_ (i := 1) (N := some 53) #[true, true, true, false, false, false, false, false, false] rfl rfl (one_of HT_.out (by kernel_rfl)) (by decide) (fun K hK => ?_)
        refine goes_ Try.func13 (by kernel_rfl) rfl #[.agg #[.int .i64 a2_0, .int .i64 a2_1]] (by rfl) rfl rfl (by (try simp only [List.map_toArray, List.map_cons, List.map_nil]); first | done | rfl | (simp only [List.length_drop, List.length_take]; rfl)) ?_
        with_reducible refine (spin_Right.calls a2_0 a2_1 t134 _ A32.out).mono ?_
        rintro e w37 ⟨rfl, hb⟩
        refine ⟨_, rfl, ?_⟩
        have n0_ := Aside0.mk (blk_below (g := gb117) (o := .cells #[.int .i64 a2_0, .int .i64 a2_1] 27 (0, 0)) (by (with_reducible repeat (first | refine blk_drewN ?_ _ | refine blk_drew ?_ | refine blk_alloc ?_ _)); exact BK117.out) hb)
        have n1_ := Aside0.mk (blk_below (g := gb124) (o := .cells #[.int .i64 t120, .int .i64 t121] 27 (0, 0)) (by (with_reducible repeat (first | refine blk_drewN ?_ _ | refine blk_drew ?_ | refine blk_alloc ?_ _)); exact BK124.out) hb)
        have n2_ := Aside0.mk (blk_below (g := gb130) (o := .cells #[.int .i64 t127, .int .i64 t128] 27 (0, 0)) (by (with_reducible repeat (first | refine blk_drewN ?_ _ | refine blk_drew ?_ | refine blk_alloc ?_ _)); exact BK130.out) hb)
        have n3_ := Aside0.mk (blk_below (g := gb133) (o := .cells #[.int .i64 0, .int .i64 0] 27 (0, 0)) (by (with_reducible repeat (first | refine blk_drewN ?_ _ | refine blk_drew ?_ | refine blk_alloc ?_ _)); exact BK133.out) hb)
        have n4_ := Aside0.mk (below_step (by repeat (first | (with_reducible first | exact HB.out | apply below_alloc | apply pw_below_drewN | apply below_drew1 | refine below_set ?_ GE117.out | refine below_set ?_ GE124.out | refine below_set ?_ GE130.out | refine below_set ?_ GE133.out) | exact HB.out)) hb)
        clear BK117
        clear BK124
        clear BK130
        clear BK133
        clear HB
        have BK117 := n0_
        have BK124 := n1_
        have BK130 := n2_
        have BK133 := n3_
        have HB := n4_
        clear n0_ n1_ n2_ n3_ n4_
        (try clear hb)
        (try clear hb2)
        (try clear hk)
        (try clear hi)
        refine hK.out _ _ ⟨(blk_cell BK117.out 0).trans rfl, (blk_cell BK117.out 1).trans rfl⟩ (fun hHeld => ?_)
        clear hK K
        refine norm_ (a' := ?_) ?_ ?_
        rotate_left
        · show Act.put _ (some 53) _ = _
          simp only [Act.put, List.setIfInBounds_toArray, List.set_cons_zero, List.set_cons_succ, i64_w, i32_w]
          rfl
        refine one_ (i := 3) (N := some 55) #[true, true, true, true, false, false, false, false, false] rfl rfl (one_of HT_.out (by kernel_rfl)) (by decide) (fun K hK => ?_)
        refine goes_ Try.func14 (by kernel_rfl) rfl #[.agg #[.int .i64 a2_0, .int .i64 a2_1]] (by rfl) rfl rfl (by (try simp only [List.map_toArray, List.map_cons, List.map_nil]); first | done | rfl | (simp only [List.length_drop, List.length_take]; rfl)) ?_
        with_reducible refine (deadboltref06_Right.calls a2_0 a2_1 t135 _ A33.out).mono ?_
        rintro e w38 ⟨rfl, hb⟩
        refine ⟨_, rfl, ?_⟩
        have n0_ := Aside0.mk (blk_below (g := gb117) (o := .cells #[.int .i64 a2_0, .int .i64 a2_1] 27 (0, 0)) (by (with_reducible repeat (first | refine blk_drewN ?_ _ | refine blk_drew ?_ | refine blk_alloc ?_ _)); exact BK117.out) hb)
        have n1_ := Aside0.mk (blk_below (g := gb124) (o := .cells #[.int .i64 t120, .int .i64 t121] 27 (0, 0)) (by (with_reducible repeat (first | refine blk_drewN ?_ _ | refine blk_drew ?_ | refine blk_alloc ?_ _)); exact BK124.out) hb)
        have n2_ := Aside0.mk (blk_below (g := gb130) (o := .cells #[.int .i64 t127, .int .i64 t128] 27 (0, 0)) (by (with_reducible repeat (first | refine blk_drewN ?_ _ | refine blk_drew ?_ | refine blk_alloc ?_ _)); exact BK130.out) hb)
        have n3_ := Aside0.mk (blk_below (g := gb133) (o := .cells #[.int .i64 0, .int .i64 0] 27 (0, 0)) (by (with_reducible repeat (first | refine blk_drewN ?_ _ | refine blk_drew ?_ | refine blk_alloc ?_ _)); exact BK133.out) hb)
        have n4_ := Aside0.mk (below_step (by repeat (first | (with_reducible first | exact HB.out | apply below_alloc | apply pw_below_drewN | apply below_drew1 | refine below_set ?_ GE117.out | refine below_set ?_ GE124.out | refine below_set ?_ GE130.out | refine below_set ?_ GE133.out) | exact HB.out)) hb)
        clear BK117
        clear BK124
        clear BK130
        clear BK133
        clear HB
        have BK117 := n0_
        have BK124 := n1_
        have BK130 := n2_
        have BK133 := n3_
        have HB := n4_
        clear n0_ n1_ n2_ n3_ n4_
        (try clear hb)
        (try clear hb2)
        (try clear hk)
        (try clear hi)
        refine hK.out _ _ ⟨(blk_cell BK117.out 0).trans rfl, (blk_cell BK117.out 1).trans rfl⟩ (fun hHeld => ?_)
        clear hK K
        refine norm_ (a' := ?_) ?_ ?_
        rotate_left
        · show Act.put _ (some 55) _ = _
          simp only [Act.put, List.setIfInBounds_toArray, List.set_cons_zero, List.set_cons_succ, i64_w, i32_w]
          rfl
        refine pure_ (i := 4) (N := some 56) (v := ?_) (a' := ?_) #[true, true, true, true, true, false, false, false, false] rfl rfl (any_of HT_.out (by kernel_rfl)) (fun _ _ _ h => h) (Or.inl ⟨by rfl, ?_⟩) ?_ ?_
        rotate_left
        · intro w'
          go_simp
          with_reducible rfl
        rotate_left
        · simp only [Act.put, List.setIfInBounds_toArray, List.set_cons_zero, List.set_cons_succ, i64_w, i32_w]
          rfl
        refine pure_ (i := 5) (N := some 57) (v := ?_) (a' := ?_) #[true, true, true, true, true, true, false, false, false] rfl rfl (any_of HT_.out (by kernel_rfl)) (fun _ _ _ h => h) (Or.inl ⟨by rfl, ?_⟩) ?_ ?_
        rotate_left
        · intro w'
          go_simp
          with_reducible rfl
        rotate_left
        · simp only [Act.put, List.setIfInBounds_toArray, List.set_cons_zero, List.set_cons_succ, i64_w, i32_w]
          rfl
        refine pure_ (i := 6) (N := some 58) (v := undef) (a' := ?_) #[true, true, true, true, true, true, true, false, false] rfl rfl (any_of HT_.out (by kernel_rfl)) (fun _ _ _ h => h) (Or.inr ⟨by rfl, rfl⟩) ?_ ?_
        rotate_left
        · simp only [Act.put, List.setIfInBounds_toArray, List.set_cons_zero, List.set_cons_succ, i64_w, i32_w]
          rfl
        refine pure_ (i := 7) (N := some 59) (v := undef) (a' := ?_) #[true, true, true, true, true, true, true, true, false] rfl rfl (any_of HT_.out (by kernel_rfl)) (fun _ _ _ h => h) (Or.inr ⟨by rfl, rfl⟩) ?_ ?_
        rotate_left
        · simp only [Act.put, List.setIfInBounds_toArray, List.set_cons_zero, List.set_cons_succ, i64_w, i32_w]
          rfl
        refine pure_ (i := 8) (N := some 60) (v := ?_) (a' := ?_) #[true, true, true, true, true, true, true, true, true] rfl rfl (any_of HT_.out (by kernel_rfl)) (fun _ _ _ h => h) (Or.inl ⟨by rfl, ?_⟩) ?_ ?_
        rotate_left
        · intro w'
          go_simp
          with_reducible rfl
        rotate_left
        · simp only [Act.put, List.setIfInBounds_toArray, List.set_cons_zero, List.set_cons_succ, i64_w, i32_w]
          rfl
        refine done_ (done_of HT_.out (by kernel_rfl)) ?_
        try go_wp2
        go_meet
        case rel => exact ⟨_, (true), (by first | rfl | (simp; done) | (simp [*]; done)), H', ⟨by first | omega | exact Nat.le_refl _⟩, ⟨by (with_reducible repeat (first | refine blk_drewN ?_ _ | refine blk_drew ?_ | refine blk_alloc ?_ _)); exact BK117.out⟩, ⟨by (with_reducible repeat (first | refine blk_drewN ?_ _ | refine blk_drew ?_ | refine blk_alloc ?_ _)); exact BK124.out⟩, ⟨by (with_reducible repeat (first | refine blk_drewN ?_ _ | refine blk_drew ?_ | refine blk_alloc ?_ _)); exact BK130.out⟩, ⟨by (with_reducible repeat (first | refine blk_drewN ?_ _ | refine blk_drew ?_ | refine blk_alloc ?_ _)); exact BK133.out⟩, ⟨by repeat (first | (with_reducible first | exact HB.out | apply below_alloc | apply pw_below_drewN | apply below_drew1 | refine below_set ?_ GE117.out | refine below_set ?_ GE124.out | refine below_set ?_ GE130.out | refine below_set ?_ GE133.out) | exact HB.out)⟩⟩
    · rw [if_neg c34] at H
      have c34b0 : (t134 != t135) = false := by simpa using c34
      (try (have c34b1 : decide (t134 = t135) = true := by simpa using c34))
      (try (have c34b2 : (t134 == t135) = true := by simpa using c34))
      clear c34
      (first | rw [c34b0] | (simp only [i64_w, i32_w]; rw [c34b0]) | skip)
      replace H := Option.bind_eq_some_iff.mp H
      obtain ⟨t136, A390, H⟩ := H
      replace H : (deadboltlaw06_SpinTells.j0 k a0 a1 a3 t118 t119 t122 t123 t125 t126 t129 t131 t132 (!t136) a2_0 a2_1 t120 t121 t127 t128 0 0) = some r := H
      have A39 := Aside0.mk A390
      clear A390
      as_aux_lemma =>
        have H' := Aside0.mk H
        clear H
        try go_wp2
        have n0_ : Aside0 (((w27.setCell ⟨gb133, 0, none⟩ (.int .i64 0)).setCell ⟨gb133, 1, none⟩ (.int .i64 0)).heap[gb117]? = some (.cells #[.int .i64 a2_0, .int .i64 a2_1] 27 (0, 0))) := ⟨by (with_reducible repeat (first | refine blk_drewN ?_ _ | refine blk_drew ?_ | refine blk_alloc ?_ _)); refine blk_far ?_ NB117_133.out _; (with_reducible repeat (first | refine blk_drewN ?_ _ | refine blk_drew ?_ | refine blk_alloc ?_ _)); refine blk_far ?_ NB117_133.out _; (with_reducible repeat (first | refine blk_drewN ?_ _ | refine blk_drew ?_ | refine blk_alloc ?_ _)); exact BK117.out⟩
        have n1_ : Aside0 (((w27.setCell ⟨gb133, 0, none⟩ (.int .i64 0)).setCell ⟨gb133, 1, none⟩ (.int .i64 0)).heap[gb124]? = some (.cells #[.int .i64 t120, .int .i64 t121] 27 (0, 0))) := ⟨by (with_reducible repeat (first | refine blk_drewN ?_ _ | refine blk_drew ?_ | refine blk_alloc ?_ _)); refine blk_far ?_ NB124_133.out _; (with_reducible repeat (first | refine blk_drewN ?_ _ | refine blk_drew ?_ | refine blk_alloc ?_ _)); refine blk_far ?_ NB124_133.out _; (with_reducible repeat (first | refine blk_drewN ?_ _ | refine blk_drew ?_ | refine blk_alloc ?_ _)); exact BK124.out⟩
        have n2_ : Aside0 (((w27.setCell ⟨gb133, 0, none⟩ (.int .i64 0)).setCell ⟨gb133, 1, none⟩ (.int .i64 0)).heap[gb130]? = some (.cells #[.int .i64 t127, .int .i64 t128] 27 (0, 0))) := ⟨by (with_reducible repeat (first | refine blk_drewN ?_ _ | refine blk_drew ?_ | refine blk_alloc ?_ _)); refine blk_far ?_ NB130_133.out _; (with_reducible repeat (first | refine blk_drewN ?_ _ | refine blk_drew ?_ | refine blk_alloc ?_ _)); refine blk_far ?_ NB130_133.out _; (with_reducible repeat (first | refine blk_drewN ?_ _ | refine blk_drew ?_ | refine blk_alloc ?_ _)); exact BK130.out⟩
        have n3_ : Aside0 (((w27.setCell ⟨gb133, 0, none⟩ (.int .i64 0)).setCell ⟨gb133, 1, none⟩ (.int .i64 0)).heap[gb133]? = some (.cells #[.int .i64 0, .int .i64 0] 27 (0, 0))) := ⟨by (with_reducible repeat (first | refine blk_drewN ?_ _ | refine blk_drew ?_ | refine blk_alloc ?_ _)); refine blk_put (cs := #[.int .i64 0, .int .i64 0]) ?_ 1 _ rfl; (with_reducible repeat (first | refine blk_drewN ?_ _ | refine blk_drew ?_ | refine blk_alloc ?_ _)); refine blk_put (cs := #[.int .i64 0, .int .i64 0]) ?_ 0 _ rfl; (with_reducible repeat (first | refine blk_drewN ?_ _ | refine blk_drew ?_ | refine blk_alloc ?_ _)); exact BK133.out⟩
        have n4_ : Aside0 (Below w.heap.size w ((w27.setCell ⟨gb133, 0, none⟩ (.int .i64 0)).setCell ⟨gb133, 1, none⟩ (.int .i64 0))) := ⟨by repeat (first | (with_reducible first | exact HB.out | apply below_alloc | apply pw_below_drewN | apply below_drew1 | refine below_set ?_ GE117.out | refine below_set ?_ GE124.out | refine below_set ?_ GE130.out | refine below_set ?_ GE133.out) | exact HB.out)⟩
        (try clear BK117)
        (try clear BK124)
        (try clear BK130)
        (try clear BK133)
        (try clear HB)
        generalize ((w27.setCell ⟨gb133, 0, none⟩ (.int .i64 0)).setCell ⟨gb133, 1, none⟩ (.int .i64 0)) = w40 at n0_ n1_ n2_ n3_ n4_ ⊢
        have BK117 := n0_
        have BK124 := n1_
        have BK130 := n2_
        have BK133 := n3_
        have HB := n4_
        clear n0_ n1_ n2_ n3_ n4_
        have n0_ := Aside0.mk (blk_drew BK117.out)
        have n1_ := Aside0.mk (blk_drew BK124.out)
        have n2_ := Aside0.mk (blk_drew BK130.out)
        have n3_ := Aside0.mk (blk_drew BK133.out)
        have n4_ := Aside0.mk (below_drew1 HB.out)
        clear BK117
        clear BK124
        clear BK130
        clear BK133
        clear HB
        have BK117 := n0_
        have BK124 := n1_
        have BK130 := n2_
        have BK133 := n3_
        have HB := n4_
        clear n0_ n1_ n2_ n3_ n4_
        refine start_ (n := 9) (S := fun w' => w'.cell? ⟨gb117, 0, none⟩ = some (.int .i64 a2_0) ∧ w'.cell? ⟨gb117, 1, none⟩ = some (.int .i64 a2_1)) (ds := []) #[false, false, false, false, false, false, false, false, false] (by kernel_rfl) rfl rfl ⟨(blk_cell BK117.out 0).trans rfl, (blk_cell BK117.out 1).trans rfl⟩ (fun hHeld => ?_); refine with_tabW deadboltlaw06_SpinTells.tab7 deadboltlaw06_SpinTells.bits7 (fun HT_ HW_ => ?_)
        generalize w40.drew = w41 at BK117 BK124 BK130 BK133 HB hHeld ⊢
        refine take_ (i := 0) (N := some 52) (v := ?_) (a' := ?_) #[true, false, false, false, false, false, false, false, false] rfl rfl (take_ofW HT_.out HW_.out (by kernel_rfl)) (fun _ _ _ h => h) (Or.inl ⟨by rfl, ?_⟩) hHeld ?_ ?_
        rotate_left
        · rintro w' ⟨s0, s1⟩
          go_simp
          with_reducible rfl
        rotate_left
        · simp only [Act.put, List.setIfInBounds_toArray, List.set_cons_zero, List.set_cons_succ, i64_w, i32_w]
          rfl
        refine take_ (i := 2) (N := some 54) (v := ?_) (a' := ?_) #[true, false, true, false, false, false, false, false, false] rfl rfl (take_ofW HT_.out HW_.out (by kernel_rfl)) (fun _ _ _ h => h) (Or.inl ⟨by rfl, ?_⟩) hHeld ?_ ?_
        rotate_left
        · rintro w' ⟨s0, s1⟩
          go_simp
          with_reducible rfl
        rotate_left
        · simp only [Act.put, List.setIfInBounds_toArray, List.set_cons_zero, List.set_cons_succ, i64_w, i32_w]
          rfl
        refine one_ (i := 1) (N := some 53) #[true, true, true, false, false, false, false, false, false] rfl rfl (one_of HT_.out (by kernel_rfl)) (by decide) (fun K hK => ?_)
        refine goes_ Try.func13 (by kernel_rfl) rfl #[.agg #[.int .i64 a2_0, .int .i64 a2_1]] (by rfl) rfl rfl (by (try simp only [List.map_toArray, List.map_cons, List.map_nil]); first | done | rfl | (simp only [List.length_drop, List.length_take]; rfl)) ?_
        with_reducible refine (spin_Right.calls a2_0 a2_1 t134 _ A32.out).mono ?_
        rintro e w42 ⟨rfl, hb⟩
        refine ⟨_, rfl, ?_⟩
        have n0_ := Aside0.mk (blk_below (g := gb117) (o := .cells #[.int .i64 a2_0, .int .i64 a2_1] 27 (0, 0)) (by (with_reducible repeat (first | refine blk_drewN ?_ _ | refine blk_drew ?_ | refine blk_alloc ?_ _)); exact BK117.out) hb)
        have n1_ := Aside0.mk (blk_below (g := gb124) (o := .cells #[.int .i64 t120, .int .i64 t121] 27 (0, 0)) (by (with_reducible repeat (first | refine blk_drewN ?_ _ | refine blk_drew ?_ | refine blk_alloc ?_ _)); exact BK124.out) hb)
        have n2_ := Aside0.mk (blk_below (g := gb130) (o := .cells #[.int .i64 t127, .int .i64 t128] 27 (0, 0)) (by (with_reducible repeat (first | refine blk_drewN ?_ _ | refine blk_drew ?_ | refine blk_alloc ?_ _)); exact BK130.out) hb)
        have n3_ := Aside0.mk (blk_below (g := gb133) (o := .cells #[.int .i64 0, .int .i64 0] 27 (0, 0)) (by (with_reducible repeat (first | refine blk_drewN ?_ _ | refine blk_drew ?_ | refine blk_alloc ?_ _)); exact BK133.out) hb)
        have n4_ := Aside0.mk (below_step (by repeat (first | (with_reducible first | exact HB.out | apply below_alloc | apply pw_below_drewN | apply below_drew1 | refine below_set ?_ GE117.out | refine below_set ?_ GE124.out | refine below_set ?_ GE130.out | refine below_set ?_ GE133.out) | exact HB.out)) hb)
        clear BK117
        clear BK124
        clear BK130
        clear BK133
        clear HB
        have BK117 := n0_
        have BK124 := n1_
        have BK130 := n2_
        have BK133 := n3_
        have HB := n4_
        clear n0_ n1_ n2_ n3_ n4_
        (try clear hb)
        (try clear hb2)
        (try clear hk)
        (try clear hi)
        refine hK.out _ _ ⟨(blk_cell BK117.out 0).trans rfl, (blk_cell BK117.out 1).trans rfl⟩ (fun hHeld => ?_)
        clear hK K
        refine norm_ (a' := ?_) ?_ ?_
        rotate_left
        · show Act.put _ (some 53) _ = _
          simp only [Act.put, List.setIfInBounds_toArray, List.set_cons_zero, List.set_cons_succ, i64_w, i32_w]
          rfl
        refine one_ (i := 3) (N := some 55) #[true, true, true, true, false, false, false, false, false] rfl rfl (one_of HT_.out (by kernel_rfl)) (by decide) (fun K hK => ?_)
        refine goes_ Try.func14 (by kernel_rfl) rfl #[.agg #[.int .i64 a2_0, .int .i64 a2_1]] (by rfl) rfl rfl (by (try simp only [List.map_toArray, List.map_cons, List.map_nil]); first | done | rfl | (simp only [List.length_drop, List.length_take]; rfl)) ?_
        with_reducible refine (deadboltref06_Right.calls a2_0 a2_1 t135 _ A33.out).mono ?_
        rintro e w43 ⟨rfl, hb⟩
        refine ⟨_, rfl, ?_⟩
        have n0_ := Aside0.mk (blk_below (g := gb117) (o := .cells #[.int .i64 a2_0, .int .i64 a2_1] 27 (0, 0)) (by (with_reducible repeat (first | refine blk_drewN ?_ _ | refine blk_drew ?_ | refine blk_alloc ?_ _)); exact BK117.out) hb)
        have n1_ := Aside0.mk (blk_below (g := gb124) (o := .cells #[.int .i64 t120, .int .i64 t121] 27 (0, 0)) (by (with_reducible repeat (first | refine blk_drewN ?_ _ | refine blk_drew ?_ | refine blk_alloc ?_ _)); exact BK124.out) hb)
        have n2_ := Aside0.mk (blk_below (g := gb130) (o := .cells #[.int .i64 t127, .int .i64 t128] 27 (0, 0)) (by (with_reducible repeat (first | refine blk_drewN ?_ _ | refine blk_drew ?_ | refine blk_alloc ?_ _)); exact BK130.out) hb)
        have n3_ := Aside0.mk (blk_below (g := gb133) (o := .cells #[.int .i64 0, .int .i64 0] 27 (0, 0)) (by (with_reducible repeat (first | refine blk_drewN ?_ _ | refine blk_drew ?_ | refine blk_alloc ?_ _)); exact BK133.out) hb)
        have n4_ := Aside0.mk (below_step (by repeat (first | (with_reducible first | exact HB.out | apply below_alloc | apply pw_below_drewN | apply below_drew1 | refine below_set ?_ GE117.out | refine below_set ?_ GE124.out | refine below_set ?_ GE130.out | refine below_set ?_ GE133.out) | exact HB.out)) hb)
        clear BK117
        clear BK124
        clear BK130
        clear BK133
        clear HB
        have BK117 := n0_
        have BK124 := n1_
        have BK130 := n2_
        have BK133 := n3_
        have HB := n4_
        clear n0_ n1_ n2_ n3_ n4_
        (try clear hb)
        (try clear hb2)
        (try clear hk)
        (try clear hi)
        refine hK.out _ _ ⟨(blk_cell BK117.out 0).trans rfl, (blk_cell BK117.out 1).trans rfl⟩ (fun hHeld => ?_)
        clear hK K
        refine norm_ (a' := ?_) ?_ ?_
        rotate_left
        · show Act.put _ (some 55) _ = _
          simp only [Act.put, List.setIfInBounds_toArray, List.set_cons_zero, List.set_cons_succ, i64_w, i32_w]
          rfl
        refine pure_ (i := 4) (N := some 56) (v := ?_) (a' := ?_) #[true, true, true, true, true, false, false, false, false] rfl rfl (any_of HT_.out (by kernel_rfl)) (fun _ _ _ h => h) (Or.inl ⟨by rfl, ?_⟩) ?_ ?_
        rotate_left
        · intro w'
          go_simp
          with_reducible rfl
        rotate_left
        · simp only [Act.put, List.setIfInBounds_toArray, List.set_cons_zero, List.set_cons_succ, i64_w, i32_w]
          rfl
        refine pure_ (i := 5) (N := some 57) (v := ?_) (a' := ?_) #[true, true, true, true, true, true, false, false, false] rfl rfl (any_of HT_.out (by kernel_rfl)) (fun _ _ _ h => h) (Or.inl ⟨by rfl, ?_⟩) ?_ ?_
        rotate_left
        · intro w'
          go_simp
          with_reducible rfl
        rotate_left
        · simp only [Act.put, List.setIfInBounds_toArray, List.set_cons_zero, List.set_cons_succ, i64_w, i32_w]
          rfl
        refine one_ (i := 6) (N := some 58) #[true, true, true, true, true, true, true, false, false] rfl rfl (one_of HT_.out (by kernel_rfl)) (by decide) (fun K hK => ?_)
        refine goes_ Try.func11 (by kernel_rfl) rfl #[] (by rfl) rfl rfl (by (try simp only [List.map_toArray, List.map_cons, List.map_nil]); first | done | rfl | (simp only [List.length_drop, List.length_take]; rfl)) ?_
        with_reducible refine (deadboltlaw06_alive.calls  t136 _ A39.out).mono ?_
        rintro e w44 ⟨rfl, hb⟩
        refine ⟨_, rfl, ?_⟩
        have n0_ := Aside0.mk (blk_below (g := gb117) (o := .cells #[.int .i64 a2_0, .int .i64 a2_1] 27 (0, 0)) (by (with_reducible repeat (first | refine blk_drewN ?_ _ | refine blk_drew ?_ | refine blk_alloc ?_ _)); exact BK117.out) hb)
        have n1_ := Aside0.mk (blk_below (g := gb124) (o := .cells #[.int .i64 t120, .int .i64 t121] 27 (0, 0)) (by (with_reducible repeat (first | refine blk_drewN ?_ _ | refine blk_drew ?_ | refine blk_alloc ?_ _)); exact BK124.out) hb)
        have n2_ := Aside0.mk (blk_below (g := gb130) (o := .cells #[.int .i64 t127, .int .i64 t128] 27 (0, 0)) (by (with_reducible repeat (first | refine blk_drewN ?_ _ | refine blk_drew ?_ | refine blk_alloc ?_ _)); exact BK130.out) hb)
        have n3_ := Aside0.mk (blk_below (g := gb133) (o := .cells #[.int .i64 0, .int .i64 0] 27 (0, 0)) (by (with_reducible repeat (first | refine blk_drewN ?_ _ | refine blk_drew ?_ | refine blk_alloc ?_ _)); exact BK133.out) hb)
        have n4_ := Aside0.mk (below_step (by repeat (first | (with_reducible first | exact HB.out | apply below_alloc | apply pw_below_drewN | apply below_drew1 | refine below_set ?_ GE117.out | refine below_set ?_ GE124.out | refine below_set ?_ GE130.out | refine below_set ?_ GE133.out) | exact HB.out)) hb)
        clear BK117
        clear BK124
        clear BK130
        clear BK133
        clear HB
        have BK117 := n0_
        have BK124 := n1_
        have BK130 := n2_
        have BK133 := n3_
        have HB := n4_
        clear n0_ n1_ n2_ n3_ n4_
        (try clear hb)
        (try clear hb2)
        (try clear hk)
        (try clear hi)
        refine hK.out _ _ ⟨(blk_cell BK117.out 0).trans rfl, (blk_cell BK117.out 1).trans rfl⟩ (fun hHeld => ?_)
        clear hK K
        refine norm_ (a' := ?_) ?_ ?_
        rotate_left
        · show Act.put _ (some 58) _ = _
          simp only [Act.put, List.setIfInBounds_toArray, List.set_cons_zero, List.set_cons_succ, i64_w, i32_w]
          rfl
        refine pure_ (i := 7) (N := some 59) (v := ?_) (a' := ?_) #[true, true, true, true, true, true, true, true, false] rfl rfl (any_of HT_.out (by kernel_rfl)) (fun _ _ _ h => h) (Or.inl ⟨by rfl, ?_⟩) ?_ ?_
        rotate_left
        · intro w'
          go_simp
          with_reducible rfl
        rotate_left
        · simp only [Act.put, List.setIfInBounds_toArray, List.set_cons_zero, List.set_cons_succ, i64_w, i32_w]
          rfl
        refine pure_ (i := 8) (N := some 60) (v := ?_) (a' := ?_) #[true, true, true, true, true, true, true, true, true] rfl rfl (any_of HT_.out (by kernel_rfl)) (fun _ _ _ h => h) (Or.inl ⟨by rfl, ?_⟩) ?_ ?_
        rotate_left
        · intro w'
          go_simp
          with_reducible rfl
        rotate_left
        · simp only [Act.put, List.setIfInBounds_toArray, List.set_cons_zero, List.set_cons_succ, i64_w, i32_w]
          rfl
        refine done_ (done_of HT_.out (by kernel_rfl)) ?_
        try go_wp2
        go_meet
        case rel => exact ⟨_, (!t136), (by first | rfl | (simp; done) | (simp [*]; done)), H', ⟨by first | omega | exact Nat.le_refl _⟩, ⟨by (with_reducible repeat (first | refine blk_drewN ?_ _ | refine blk_drew ?_ | refine blk_alloc ?_ _)); exact BK117.out⟩, ⟨by (with_reducible repeat (first | refine blk_drewN ?_ _ | refine blk_drew ?_ | refine blk_alloc ?_ _)); exact BK124.out⟩, ⟨by (with_reducible repeat (first | refine blk_drewN ?_ _ | refine blk_drew ?_ | refine blk_alloc ?_ _)); exact BK130.out⟩, ⟨by (with_reducible repeat (first | refine blk_drewN ?_ _ | refine blk_drew ?_ | refine blk_alloc ?_ _)); exact BK133.out⟩, ⟨by repeat (first | (with_reducible first | exact HB.out | apply below_alloc | apply pw_below_drewN | apply below_drew1 | refine below_set ?_ GE117.out | refine below_set ?_ GE124.out | refine below_set ?_ GE130.out | refine below_set ?_ GE133.out) | exact HB.out)⟩⟩
  case rest =>
    clear HC10
    try clear c1
    try clear c2
    try clear p2
    try clear c3
    try clear c5
    try clear c7
    try clear c8
    try clear c9
    try clear c10
    try clear c11
    try clear c12
    try clear c13
    try clear c14
    try clear c15
    try clear c22
    try clear c23
    try clear c28
    try clear c29
    try clear c30
    try clear c34
    try clear c34b0
    try clear c34b1
    try clear c34b2
    try clear hcz12_0
    try clear hcz12_1
    try clear hcz16_0
    try clear hcz16_1
    try clear hcz17_0
    try clear hcz17_1
    try clear hcz19_0
    try clear hcz19_1
    try clear hcz24_0
    try clear hcz24_1
    try clear hcz25_0
    try clear hcz25_1
    try clear hcz31_0
    try clear hcz31_1
    try clear hfz12_0
    try clear hfz12_1
    try clear hfz16_0
    try clear hfz16_1
    try clear hfz17_0
    try clear hfz17_1
    try clear hfz19_0
    try clear hfz19_1
    try clear hfz24_0
    try clear hfz24_1
    try clear hfz25_0
    try clear hfz25_1
    try clear hfz31_0
    try clear hfz31_1
    obtain ⟨kq, x60_9, rfl, HA, HJ9, BK117, BK124, BK130, BK133, HB⟩ := hcut
    cases kq with
    | zero => exact absurd HA.out (by simp [deadboltlaw06_SpinTells.j0])
    | succ kj9 =>
      have H := HA.out
      clear HA
      simp only [deadboltlaw06_SpinTells.j0] at H
      by_cases c45 : x60_9 = true
      · subst c45
        have H1 : (some false) = some r := by rw [if_pos rfl] at H; exact H
        clear H
        have H := H1
        clear H1
        as_aux_lemma =>
          obtain rfl := Option.some.inj H
          go_wp2
          go_ret
          exact ⟨by first | rfl | (simp [errW_none, errW_some] <;> rfl) | (simp [*, errW_none, errW_some] <;> rfl), by repeat (first | (with_reducible first | exact HB.out | apply below_alloc | apply pw_below_drewN | apply below_drew1 | refine below_set ?_ GE117.out | refine below_set ?_ GE124.out | refine below_set ?_ GE130.out | refine below_set ?_ GE133.out) | exact HB.out)⟩
      · replace c45 := Bool.eq_false_iff.mpr c45
        subst c45
        have H1 : (if a0 < 0 then (deadboltlaw06_SpinTells.j1 kj9 a0 a1 a3 t118 t119 t122 t123 t125 t126 t129 t131 t132 true a2_0 a2_1 t120 t121 t127 t128 0 0) else (deadboltlaw06_SpinTells.j1 kj9 a0 a1 a3 t118 t119 t122 t123 t125 t126 t129 t131 t132 (decide (a1 < 0)) a2_0 a2_1 t120 t121 t127 t128 0 0)) = some r := by rw [if_neg (show ¬ (false = true) by decide)] at H; exact H
        clear H
        have H := H1
        clear H1
        have HC46 := Aside0.mk H
        clear H
        go_upto_region 9 with (fail)
        go_cut [66] (fun v66 wc => ∃ (kq : Nat) (x66_45 : Bool), v66 = .bool x66_45 ∧ Aside0 (deadboltlaw06_SpinTells.j1 kq a0 a1 a3 t118 t119 t122 t123 t125 t126 t129 t131 t132 x66_45 a2_0 a2_1 t120 t121 t127 t128 0 0 = some r) ∧ Aside0 (kq ≤ kj9) ∧ Aside0 (wc.heap[gb117]? = some (.cells #[.int .i64 a2_0, .int .i64 a2_1] 27 (0, 0))) ∧ Aside0 (wc.heap[gb124]? = some (.cells #[.int .i64 t120, .int .i64 t121] 27 (0, 0))) ∧ Aside0 (wc.heap[gb130]? = some (.cells #[.int .i64 t127, .int .i64 t128] 27 (0, 0))) ∧ Aside0 (wc.heap[gb133]? = some (.cells #[.int .i64 0, .int .i64 0] 27 (0, 0))) ∧ Aside0 (Below w.heap.size w wc))
        case first =>
          have H := HC46.out
          clear HC46
          by_cases c47 : a0 < 0
          · rw [if_pos c47] at H
            have c47b0 : decide (a0 < 0) = true := decide_eq_true c47
            clear c47
            (first | rw [c47b0] | (simp only [i64_w, i32_w]; rw [c47b0]) | skip)
            as_aux_lemma =>
              have H' := Aside0.mk H
              clear H
              go_wp2
              go_meet
              case rel => exact ⟨_, (true), (by first | rfl | (simp; done) | (simp [*]; done)), H', ⟨by have := HJ9.out; first | omega | exact Nat.le_refl _⟩, ⟨by (with_reducible repeat (first | refine blk_drewN ?_ _ | refine blk_drew ?_ | refine blk_alloc ?_ _)); exact BK117.out⟩, ⟨by (with_reducible repeat (first | refine blk_drewN ?_ _ | refine blk_drew ?_ | refine blk_alloc ?_ _)); exact BK124.out⟩, ⟨by (with_reducible repeat (first | refine blk_drewN ?_ _ | refine blk_drew ?_ | refine blk_alloc ?_ _)); exact BK130.out⟩, ⟨by (with_reducible repeat (first | refine blk_drewN ?_ _ | refine blk_drew ?_ | refine blk_alloc ?_ _)); exact BK133.out⟩, ⟨by repeat (first | (with_reducible first | exact HB.out | apply below_alloc | apply pw_below_drewN | apply below_drew1 | refine below_set ?_ GE117.out | refine below_set ?_ GE124.out | refine below_set ?_ GE130.out | refine below_set ?_ GE133.out) | exact HB.out)⟩⟩
          · rw [if_neg c47] at H
            have c47b0 : decide (a0 < 0) = false := decide_eq_false c47
            clear c47
            (first | rw [c47b0] | (simp only [i64_w, i32_w]; rw [c47b0]) | skip)
            as_aux_lemma =>
              have H' := Aside0.mk H
              clear H
              go_wp2
              go_meet
              case rel => exact ⟨_, (decide (a1 < 0)), (by first | rfl | (simp; done) | (simp [*]; done)), H', ⟨by have := HJ9.out; first | omega | exact Nat.le_refl _⟩, ⟨by (with_reducible repeat (first | refine blk_drewN ?_ _ | refine blk_drew ?_ | refine blk_alloc ?_ _)); exact BK117.out⟩, ⟨by (with_reducible repeat (first | refine blk_drewN ?_ _ | refine blk_drew ?_ | refine blk_alloc ?_ _)); exact BK124.out⟩, ⟨by (with_reducible repeat (first | refine blk_drewN ?_ _ | refine blk_drew ?_ | refine blk_alloc ?_ _)); exact BK130.out⟩, ⟨by (with_reducible repeat (first | refine blk_drewN ?_ _ | refine blk_drew ?_ | refine blk_alloc ?_ _)); exact BK133.out⟩, ⟨by repeat (first | (with_reducible first | exact HB.out | apply below_alloc | apply pw_below_drewN | apply below_drew1 | refine below_set ?_ GE117.out | refine below_set ?_ GE124.out | refine below_set ?_ GE130.out | refine below_set ?_ GE133.out) | exact HB.out)⟩⟩
        case rest =>
          clear HC46
          try clear c1
          try clear c2
          try clear p2
          try clear c3
          try clear c4
          try clear c5
          try clear c7
          try clear c8
          try clear c9
          try clear c10
          try clear c11
          try clear c12
          try clear c13
          try clear c14
          try clear c15
          try clear c22
          try clear c23
          try clear c28
          try clear c29
          try clear c30
          try clear c34
          try clear c34b0
          try clear c34b1
          try clear c34b2
          try clear c45
          try clear c47
          try clear c47b0
          try clear hcz12_0
          try clear hcz12_1
          try clear hcz16_0
          try clear hcz16_1
          try clear hcz17_0
          try clear hcz17_1
          try clear hcz19_0
          try clear hcz19_1
          try clear hcz24_0
          try clear hcz24_1
          try clear hcz25_0
          try clear hcz25_1
          try clear hcz31_0
          try clear hcz31_1
          try clear hfz12_0
          try clear hfz12_1
          try clear hfz16_0
          try clear hfz16_1
          try clear hfz17_0
          try clear hfz17_1
          try clear hfz19_0
          try clear hfz19_1
          try clear hfz24_0
          try clear hfz24_1
          try clear hfz25_0
          try clear hfz25_1
          try clear hfz31_0
          try clear hfz31_1
          try clear p2
          obtain ⟨kq, x66_45, rfl, HA, HJ45, BK117, BK124, BK130, BK133, HB⟩ := hcut
          cases kq with
          | zero => exact absurd HA.out (by simp [deadboltlaw06_SpinTells.j1])
          | succ kj45 =>
            have H := HA.out
            clear HA
            simp only [deadboltlaw06_SpinTells.j1] at H
            have HC48 := Aside0.mk H
            clear H
            go_upto_if 66 with (fail)
            go_cut [] (fun wc => ∃ (kq : Nat), Aside0 (deadboltlaw06_SpinTells.j2 kq a3 t122 t123 t125 t126 t129 t131 t132 a2_0 a2_1 t120 t121 t127 t128 0 0 = some r) ∧ Aside0 (kq ≤ kj45) ∧ Aside0 (wc.heap[gb117]? = some (.cells #[.int .i64 a2_0, .int .i64 a2_1] 27 (0, 0))) ∧ Aside0 (wc.heap[gb124]? = some (.cells #[.int .i64 t120, .int .i64 t121] 27 (0, 0))) ∧ Aside0 (wc.heap[gb130]? = some (.cells #[.int .i64 t127, .int .i64 t128] 27 (0, 0))) ∧ Aside0 (wc.heap[gb133]? = some (.cells #[.int .i64 0, .int .i64 0] 27 (0, 0))) ∧ Aside0 (Below w.heap.size w wc))
            case first =>
              have H := HC48.out
              clear HC48
              by_cases c49 : x66_45 = true
              · subst c49
                have H1 : (if t119 = 1 then (if t118 = true then (some false) else (deadboltlaw06_SpinTells.j2 kj45 a3 t122 t123 t125 t126 t129 t131 t132 a2_0 a2_1 t120 t121 t127 t128 0 0)) else (some false)) = some r := by rw [if_pos rfl] at H; exact H
                clear H
                have H := H1
                clear H1
                by_cases c50 : t119 = 1
                · rw [if_pos c50] at H
                  have c50b0 : (t119 == 1) = true := beq_iff_eq.mpr c50
                  have c50b1 : (t119 != 1) = false := bne_eq_false_iff_eq.mpr c50
                  clear c50
                  (first | rw [c50b0] | (simp only [i64_w, i32_w]; rw [c50b0]) | skip)
                  by_cases c51 : t118 = true
                  · subst c51
                    have H1 : (some false) = some r := by rw [if_pos rfl] at H; exact H
                    clear H
                    have H := H1
                    clear H1
                    as_aux_lemma =>
                      obtain rfl := Option.some.inj H
                      go_wp2
                      go_ret
                      exact ⟨by first | rfl | (simp [errW_none, errW_some] <;> rfl) | (simp [*, errW_none, errW_some] <;> rfl), by repeat (first | (with_reducible first | exact HB.out | apply below_alloc | apply pw_below_drewN | apply below_drew1 | refine below_set ?_ GE117.out | refine below_set ?_ GE124.out | refine below_set ?_ GE130.out | refine below_set ?_ GE133.out) | exact HB.out)⟩
                  · replace c51 := Bool.eq_false_iff.mpr c51
                    subst c51
                    have H1 : (deadboltlaw06_SpinTells.j2 kj45 a3 t122 t123 t125 t126 t129 t131 t132 a2_0 a2_1 t120 t121 t127 t128 0 0) = some r := by rw [if_neg (show ¬ (false = true) by decide)] at H; exact H
                    clear H
                    have H := H1
                    clear H1
                    as_aux_lemma =>
                      have H' := Aside0.mk H
                      clear H
                      go_wp2
                      go_meet
                      case rel => exact ⟨_, H', ⟨by have := HJ9.out; have := HJ45.out; first | omega | exact Nat.le_refl _⟩, ⟨by (with_reducible repeat (first | refine blk_drewN ?_ _ | refine blk_drew ?_ | refine blk_alloc ?_ _)); exact BK117.out⟩, ⟨by (with_reducible repeat (first | refine blk_drewN ?_ _ | refine blk_drew ?_ | refine blk_alloc ?_ _)); exact BK124.out⟩, ⟨by (with_reducible repeat (first | refine blk_drewN ?_ _ | refine blk_drew ?_ | refine blk_alloc ?_ _)); exact BK130.out⟩, ⟨by (with_reducible repeat (first | refine blk_drewN ?_ _ | refine blk_drew ?_ | refine blk_alloc ?_ _)); exact BK133.out⟩, ⟨by repeat (first | (with_reducible first | exact HB.out | apply below_alloc | apply pw_below_drewN | apply below_drew1 | refine below_set ?_ GE117.out | refine below_set ?_ GE124.out | refine below_set ?_ GE130.out | refine below_set ?_ GE133.out) | exact HB.out)⟩⟩
                · rw [if_neg c50] at H
                  have c50b0 : (t119 == 1) = false := beq_eq_false_iff_ne.mpr c50
                  have c50b1 : (t119 != 1) = true := bne_iff_ne.mpr c50
                  (first | rw [c50b0] | (simp only [i64_w, i32_w]; rw [c50b0]) | skip)
                  as_aux_lemma =>
                    obtain rfl := Option.some.inj H
                    go_wp2
                    go_ret
                    exact ⟨by first | rfl | (simp [errW_none, errW_some] <;> rfl) | (simp [*, errW_none, errW_some] <;> rfl), by repeat (first | (with_reducible first | exact HB.out | apply below_alloc | apply pw_below_drewN | apply below_drew1 | refine below_set ?_ GE117.out | refine below_set ?_ GE124.out | refine below_set ?_ GE130.out | refine below_set ?_ GE133.out) | exact HB.out)⟩
              · replace c49 := Bool.eq_false_iff.mpr c49
                subst c49
                have H1 : (if t119 = 0 then ((deadboltref06_Can.f a0 a1).bind fun t137 => (if (t118 != t137) = true then (some false) else (deadboltlaw06_SpinTells.j2 kj45 a3 t122 t123 t125 t126 t129 t131 t132 a2_0 a2_1 t120 t121 t127 t128 0 0))) else (some false)) = some r := by rw [if_neg (show ¬ (false = true) by decide)] at H; exact H
                clear H
                have H := H1
                clear H1
                by_cases c52 : t119 = 0
                · rw [if_pos c52] at H
                  have c52b0 : (t119 == 0) = true := beq_iff_eq.mpr c52
                  have c52b1 : (t119 != 0) = false := bne_eq_false_iff_eq.mpr c52
                  clear c52
                  replace H := Option.bind_eq_some_iff.mp H
                  obtain ⟨t137, A530, H⟩ := H
                  replace H : (if (t118 != t137) = true then (some false) else (deadboltlaw06_SpinTells.j2 kj45 a3 t122 t123 t125 t126 t129 t131 t132 a2_0 a2_1 t120 t121 t127 t128 0 0)) = some r := H
                  have A53 := Aside0.mk A530
                  clear A530
                  by_cases c54 : (t118 != t137) = true
                  · rw [if_pos c54] at H
                    have c54b0 : (t118 != t137) = true := c54
                    (try (have c54b1 : decide (t118 = t137) = false := by simpa using c54))
                    (try (have c54b2 : (t118 == t137) = false := by simpa using c54))
                    (try (have c54b3 : ¬ (t118 = t137) := by simpa using c54))
                    clear c54
                    as_aux_lemma =>
                      obtain rfl := Option.some.inj H
                      go_wp2_with (first | (go_at_call 15; (with_reducible refine (deadboltref06_Can.calls a0 a1 t137 _ A53.out).mono ?_); rintro e w' ⟨rfl, ⟨nd, rfl⟩⟩))
                      go_ret
                      exact ⟨by first | rfl | (simp [errW_none, errW_some] <;> rfl) | (simp [*, errW_none, errW_some] <;> rfl), by repeat (first | (with_reducible first | exact HB.out | apply below_alloc | apply pw_below_drewN | apply below_drew1 | refine below_set ?_ GE117.out | refine below_set ?_ GE124.out | refine below_set ?_ GE130.out | refine below_set ?_ GE133.out) | exact HB.out)⟩
                  · rw [if_neg c54] at H
                    have c54b0 : (t118 != t137) = false := by simpa using c54
                    (try (have c54b1 : decide (t118 = t137) = true := by simpa using c54))
                    (try (have c54b2 : (t118 == t137) = true := by simpa using c54))
                    clear c54
                    as_aux_lemma =>
                      have H' := Aside0.mk H
                      clear H
                      go_wp2_with (first | (go_at_call 15; (with_reducible refine (deadboltref06_Can.calls a0 a1 t137 _ A53.out).mono ?_); rintro e w' ⟨rfl, ⟨nd, rfl⟩⟩))
                      go_meet
                      case rel => exact ⟨_, H', ⟨by have := HJ9.out; have := HJ45.out; first | omega | exact Nat.le_refl _⟩, ⟨by (with_reducible repeat (first | refine blk_drewN ?_ _ | refine blk_drew ?_ | refine blk_alloc ?_ _)); exact BK117.out⟩, ⟨by (with_reducible repeat (first | refine blk_drewN ?_ _ | refine blk_drew ?_ | refine blk_alloc ?_ _)); exact BK124.out⟩, ⟨by (with_reducible repeat (first | refine blk_drewN ?_ _ | refine blk_drew ?_ | refine blk_alloc ?_ _)); exact BK130.out⟩, ⟨by (with_reducible repeat (first | refine blk_drewN ?_ _ | refine blk_drew ?_ | refine blk_alloc ?_ _)); exact BK133.out⟩, ⟨by repeat (first | (with_reducible first | exact HB.out | apply below_alloc | apply pw_below_drewN | apply below_drew1 | refine below_set ?_ GE117.out | refine below_set ?_ GE124.out | refine below_set ?_ GE130.out | refine below_set ?_ GE133.out) | exact HB.out)⟩⟩
                · rw [if_neg c52] at H
                  have c52b0 : (t119 == 0) = false := beq_eq_false_iff_ne.mpr c52
                  have c52b1 : (t119 != 0) = true := bne_iff_ne.mpr c52
                  as_aux_lemma =>
                    obtain rfl := Option.some.inj H
                    go_wp2
                    go_ret
                    exact ⟨by first | rfl | (simp [errW_none, errW_some] <;> rfl) | (simp [*, errW_none, errW_some] <;> rfl), by repeat (first | (with_reducible first | exact HB.out | apply below_alloc | apply pw_below_drewN | apply below_drew1 | refine below_set ?_ GE117.out | refine below_set ?_ GE124.out | refine below_set ?_ GE130.out | refine below_set ?_ GE133.out) | exact HB.out)⟩
            case rest =>
              clear HC48
              try clear c1
              try clear c2
              try clear p2
              try clear c3
              try clear c4
              try clear c5
              try clear c7
              try clear c8
              try clear c9
              try clear c10
              try clear c11
              try clear c12
              try clear c13
              try clear c14
              try clear c15
              try clear c22
              try clear c23
              try clear c28
              try clear c29
              try clear c30
              try clear c34
              try clear c34b0
              try clear c34b1
              try clear c34b2
              try clear c45
              try clear c47
              try clear c47b0
              try clear c49
              try clear c50
              try clear c50b0
              try clear c50b1
              try clear c51
              try clear c52
              try clear c52b0
              try clear c52b1
              try clear c54
              try clear c54b0
              try clear c54b1
              try clear c54b2
              try clear hcz12_0
              try clear hcz12_1
              try clear hcz16_0
              try clear hcz16_1
              try clear hcz17_0
              try clear hcz17_1
              try clear hcz19_0
              try clear hcz19_1
              try clear hcz24_0
              try clear hcz24_1
              try clear hcz25_0
              try clear hcz25_1
              try clear hcz31_0
              try clear hcz31_1
              try clear hfz12_0
              try clear hfz12_1
              try clear hfz16_0
              try clear hfz16_1
              try clear hfz17_0
              try clear hfz17_1
              try clear hfz19_0
              try clear hfz19_1
              try clear hfz24_0
              try clear hfz24_1
              try clear hfz25_0
              try clear hfz25_1
              try clear hfz31_0
              try clear hfz31_1
              try clear p2
              obtain ⟨kq, HA, HJ47, BK117, BK124, BK130, BK133, HB⟩ := hcut
              cases kq with
              | zero => exact absurd HA.out (by simp [deadboltlaw06_SpinTells.j2])
              | succ kj47 =>
                have H := HA.out
                clear HA
                simp only [deadboltlaw06_SpinTells.j2] at H
                replace H := Option.bind_eq_some_iff.mp H
                obtain ⟨t138, A550, H⟩ := H
                replace H : (if t138 = true then (if t126 = 0 then (if t132 = 0 then (if (t125 != (a3 == a2_1)) = true then (deadboltlaw06_SpinTells.j3 kj47 t122 t123 t129 true a2_0 a2_1 t120 t121 t127 t128 0 0) else ((deadboltref06_Out.f a2_0 a2_1).bind fun t139 => (deadboltlaw06_SpinTells.j3 kj47 t122 t123 t129 (t131 != t139) a2_0 a2_1 t120 t121 t127 t128 0 0))) else (deadboltlaw06_SpinTells.j3 kj47 t122 t123 t129 true a2_0 a2_1 t120 t121 t127 t128 0 0)) else (deadboltlaw06_SpinTells.j3 kj47 t122 t123 t129 true a2_0 a2_1 t120 t121 t127 t128 0 0)) else (if t123 = 1 then (if t126 = 1 then (if t129 = 1 then (if t132 = 1 then (if (t120 == 0 && (t121 == 0)) = true then (if t122 = 0 then (if t125 = true then (some false) else (if (t127 == 0 && (t128 == 0)) = true then (some (t131 == 0)) else (some false))) else (some false)) else (some false)) else (some false)) else (some false)) else (some false)) else (some false))) = some r := H
                have A55 := Aside0.mk A550
                clear A550
                by_cases c56 : t138 = true
                · subst c56
                  have H1 : (if t126 = 0 then (if t132 = 0 then (if (t125 != (a3 == a2_1)) = true then (deadboltlaw06_SpinTells.j3 kj47 t122 t123 t129 true a2_0 a2_1 t120 t121 t127 t128 0 0) else ((deadboltref06_Out.f a2_0 a2_1).bind fun t139 => (deadboltlaw06_SpinTells.j3 kj47 t122 t123 t129 (t131 != t139) a2_0 a2_1 t120 t121 t127 t128 0 0))) else (deadboltlaw06_SpinTells.j3 kj47 t122 t123 t129 true a2_0 a2_1 t120 t121 t127 t128 0 0)) else (deadboltlaw06_SpinTells.j3 kj47 t122 t123 t129 true a2_0 a2_1 t120 t121 t127 t128 0 0)) = some r := by rw [if_pos rfl] at H; exact H
                  clear H
                  have H := H1
                  clear H1
                  have HC57 := Aside0.mk H
                  clear H
                  have hnb58 := NB117_124.out
                  have hnc58 := NB124_117.out
                  have hnb59 := NB117_130.out
                  have hnc59 := NB130_117.out
                  have hnb60 := NB117_133.out
                  have hnc60 := NB133_117.out
                  have hcz61_0 : wc.cell? ⟨gb117, 0, none⟩ = some (.int .i64 a2_0) := (blk_cell BK117.out 0).trans rfl
                  have hcz61_1 : wc.cell? ⟨gb117, 1, none⟩ = some (.int .i64 a2_1) := (blk_cell BK117.out 1).trans rfl
                  have hfz61_0 := blk_frozen BK117.out 0
                  have hfz61_1 := blk_frozen BK117.out 1
                  go_upto_region 16 with (first | ((with_reducible refine gate_callee (f := 14) rfl ?_); refine goesL_ (some 82) rfl rfl Try.func14 (by kernel_rfl) rfl #[.agg #[.int .i64 a2_0, .int .i64 a2_1]] rfl (by (try simp only [List.map_toArray, List.map_cons, List.map_nil]); first | done | rfl | (simp only [List.length_drop, List.length_take]; rfl)) ?_; (with_reducible refine (deadboltref06_Right.calls a2_0 a2_1 true _ A55.out).mono ?_); rintro e w62 ⟨rfl, hb⟩; refine ⟨_, rfl, ?_⟩; have n0_ := Aside0.mk (blk_below (g := gb117) (o := .cells #[.int .i64 a2_0, .int .i64 a2_1] 27 (0, 0)) (by (with_reducible repeat (first | refine blk_drewN ?_ _ | refine blk_drew ?_ | refine blk_alloc ?_ _)); exact BK117.out) hb); have n1_ := Aside0.mk (blk_below (g := gb124) (o := .cells #[.int .i64 t120, .int .i64 t121] 27 (0, 0)) (by (with_reducible repeat (first | refine blk_drewN ?_ _ | refine blk_drew ?_ | refine blk_alloc ?_ _)); exact BK124.out) hb); have n2_ := Aside0.mk (blk_below (g := gb130) (o := .cells #[.int .i64 t127, .int .i64 t128] 27 (0, 0)) (by (with_reducible repeat (first | refine blk_drewN ?_ _ | refine blk_drew ?_ | refine blk_alloc ?_ _)); exact BK130.out) hb); have n3_ := Aside0.mk (blk_below (g := gb133) (o := .cells #[.int .i64 0, .int .i64 0] 27 (0, 0)) (by (with_reducible repeat (first | refine blk_drewN ?_ _ | refine blk_drew ?_ | refine blk_alloc ?_ _)); exact BK133.out) hb); have n4_ := Aside0.mk (below_step (by repeat (first | (with_reducible first | exact HB.out | apply below_alloc | apply pw_below_drewN | apply below_drew1 | refine below_set ?_ GE117.out | refine below_set ?_ GE124.out | refine below_set ?_ GE130.out | refine below_set ?_ GE133.out) | exact HB.out)) hb); clear BK117; clear BK124; clear BK130; clear BK133; clear HB; have BK117 := n0_; have BK124 := n1_; have BK130 := n2_; have BK133 := n3_; have HB := n4_; clear n0_ n1_ n2_ n3_ n4_; (try clear hb); (try clear hb2); (try clear hk); (try clear hi)))
                  (try simp only [Act.put, List.setIfInBounds_toArray, List.set_cons_zero, List.set_cons_succ])
                  go_cut [139] (fun v139 wc => ∃ (kq : Nat) (x139_56 : Bool), v139 = .bool x139_56 ∧ Aside0 (deadboltlaw06_SpinTells.j3 kq t122 t123 t129 x139_56 a2_0 a2_1 t120 t121 t127 t128 0 0 = some r) ∧ Aside0 (kq ≤ kj47) ∧ Aside0 (wc.heap[gb117]? = some (.cells #[.int .i64 a2_0, .int .i64 a2_1] 27 (0, 0))) ∧ Aside0 (wc.heap[gb124]? = some (.cells #[.int .i64 t120, .int .i64 t121] 27 (0, 0))) ∧ Aside0 (wc.heap[gb130]? = some (.cells #[.int .i64 t127, .int .i64 t128] 27 (0, 0))) ∧ Aside0 (wc.heap[gb133]? = some (.cells #[.int .i64 0, .int .i64 0] 27 (0, 0))) ∧ Aside0 (Below w.heap.size w wc))
                  case first =>
                    have H := HC57.out
                    clear HC57
                    by_cases c63 : t126 = 0
                    · rw [if_pos c63] at H
                      have c63b0 : (t126 == 0) = true := beq_iff_eq.mpr c63
                      have c63b1 : (t126 != 0) = false := bne_eq_false_iff_eq.mpr c63
                      clear c63
                      (first | rw [c63b0] | (simp only [i64_w, i32_w]; rw [c63b0]) | skip)
                      by_cases c64 : t132 = 0
                      · rw [if_pos c64] at H
                        have c64b0 : (t132 == 0) = true := beq_iff_eq.mpr c64
                        have c64b1 : (t132 != 0) = false := bne_eq_false_iff_eq.mpr c64
                        clear c64
                        by_cases c65 : (t125 != (a3 == a2_1)) = true
                        · rw [if_pos c65] at H
                          have c65b0 : (t125 != (a3 == a2_1)) = true := c65
                          (try (have c65b1 : decide (t125 = (a3 == a2_1)) = false := by simpa using c65))
                          (try (have c65b2 : (t125 == (a3 == a2_1)) = false := by simpa using c65))
                          (try (have c65b3 : ¬ (t125 = (a3 == a2_1)) := by simpa using c65))
                          clear c65
                          as_aux_lemma =>
                            have H' := Aside0.mk H
                            clear H
                            have hnb66 := NB117_124.out
                            have hnc66 := NB124_117.out
                            have hnb67 := NB117_130.out
                            have hnc67 := NB130_117.out
                            have hnb68 := NB117_133.out
                            have hnc68 := NB133_117.out
                            have hcz69_0 : w62.cell? ⟨gb117, 0, none⟩ = some (.int .i64 a2_0) := (blk_cell BK117.out 0).trans rfl
                            have hcz69_1 : w62.cell? ⟨gb117, 1, none⟩ = some (.int .i64 a2_1) := (blk_cell BK117.out 1).trans rfl
                            have hfz69_0 := blk_frozen BK117.out 0
                            have hfz69_1 := blk_frozen BK117.out 1
                            go_wp2
                            go_meet
                            case rel => exact ⟨_, (true), (by first | rfl | (simp; done) | (simp [*]; done)), H', ⟨by have := HJ9.out; have := HJ45.out; have := HJ47.out; first | omega | exact Nat.le_refl _⟩, ⟨by (with_reducible repeat (first | refine blk_drewN ?_ _ | refine blk_drew ?_ | refine blk_alloc ?_ _)); exact BK117.out⟩, ⟨by (with_reducible repeat (first | refine blk_drewN ?_ _ | refine blk_drew ?_ | refine blk_alloc ?_ _)); exact BK124.out⟩, ⟨by (with_reducible repeat (first | refine blk_drewN ?_ _ | refine blk_drew ?_ | refine blk_alloc ?_ _)); exact BK130.out⟩, ⟨by (with_reducible repeat (first | refine blk_drewN ?_ _ | refine blk_drew ?_ | refine blk_alloc ?_ _)); exact BK133.out⟩, ⟨by repeat (first | (with_reducible first | exact HB.out | apply below_alloc | apply pw_below_drewN | apply below_drew1 | refine below_set ?_ GE117.out | refine below_set ?_ GE124.out | refine below_set ?_ GE130.out | refine below_set ?_ GE133.out) | exact HB.out)⟩⟩
                        · rw [if_neg c65] at H
                          have c65b0 : (t125 != (a3 == a2_1)) = false := by simpa using c65
                          (try (have c65b1 : decide (t125 = (a3 == a2_1)) = true := by simpa using c65))
                          (try (have c65b2 : (t125 == (a3 == a2_1)) = true := by simpa using c65))
                          clear c65
                          replace H := Option.bind_eq_some_iff.mp H
                          obtain ⟨t139, A700, H⟩ := H
                          replace H : (deadboltlaw06_SpinTells.j3 kj47 t122 t123 t129 (t131 != t139) a2_0 a2_1 t120 t121 t127 t128 0 0) = some r := H
                          have A70 := Aside0.mk A700
                          clear A700
                          as_aux_lemma =>
                            have H' := Aside0.mk H
                            clear H
                            have hnb71 := NB117_124.out
                            have hnc71 := NB124_117.out
                            have hnb72 := NB117_130.out
                            have hnc72 := NB130_117.out
                            have hnb73 := NB117_133.out
                            have hnc73 := NB133_117.out
                            have hcz74_0 : w62.cell? ⟨gb117, 0, none⟩ = some (.int .i64 a2_0) := (blk_cell BK117.out 0).trans rfl
                            have hcz74_1 : w62.cell? ⟨gb117, 1, none⟩ = some (.int .i64 a2_1) := (blk_cell BK117.out 1).trans rfl
                            have hfz74_0 := blk_frozen BK117.out 0
                            have hfz74_1 := blk_frozen BK117.out 1
                            go_wp2_with (first | (go_at_call 16; (with_reducible refine (deadboltref06_Out.calls a2_0 a2_1 t139 _ A70.out).mono ?_); rintro e w75 ⟨rfl, hb⟩; have n0_ := Aside0.mk (blk_below (g := gb117) (o := .cells #[.int .i64 a2_0, .int .i64 a2_1] 27 (0, 0)) (by (with_reducible repeat (first | refine blk_drewN ?_ _ | refine blk_drew ?_ | refine blk_alloc ?_ _)); exact BK117.out) hb); have n1_ := Aside0.mk (blk_below (g := gb124) (o := .cells #[.int .i64 t120, .int .i64 t121] 27 (0, 0)) (by (with_reducible repeat (first | refine blk_drewN ?_ _ | refine blk_drew ?_ | refine blk_alloc ?_ _)); exact BK124.out) hb); have n2_ := Aside0.mk (blk_below (g := gb130) (o := .cells #[.int .i64 t127, .int .i64 t128] 27 (0, 0)) (by (with_reducible repeat (first | refine blk_drewN ?_ _ | refine blk_drew ?_ | refine blk_alloc ?_ _)); exact BK130.out) hb); have n3_ := Aside0.mk (blk_below (g := gb133) (o := .cells #[.int .i64 0, .int .i64 0] 27 (0, 0)) (by (with_reducible repeat (first | refine blk_drewN ?_ _ | refine blk_drew ?_ | refine blk_alloc ?_ _)); exact BK133.out) hb); have n4_ := Aside0.mk (below_step (by repeat (first | (with_reducible first | exact HB.out | apply below_alloc | apply pw_below_drewN | apply below_drew1 | refine below_set ?_ GE117.out | refine below_set ?_ GE124.out | refine below_set ?_ GE130.out | refine below_set ?_ GE133.out) | exact HB.out)) hb); clear BK117; clear BK124; clear BK130; clear BK133; clear HB; have BK117 := n0_; have BK124 := n1_; have BK130 := n2_; have BK133 := n3_; have HB := n4_; clear n0_ n1_ n2_ n3_ n4_; (try clear hb); (try clear hb2); (try clear hk); (try clear hi)))
                            go_meet
                            case rel => exact ⟨_, ((t131 != t139)), (by first | rfl | (simp; done) | (simp [*]; done)), H', ⟨by have := HJ9.out; have := HJ45.out; have := HJ47.out; first | omega | exact Nat.le_refl _⟩, ⟨by (with_reducible repeat (first | refine blk_drewN ?_ _ | refine blk_drew ?_ | refine blk_alloc ?_ _)); exact BK117.out⟩, ⟨by (with_reducible repeat (first | refine blk_drewN ?_ _ | refine blk_drew ?_ | refine blk_alloc ?_ _)); exact BK124.out⟩, ⟨by (with_reducible repeat (first | refine blk_drewN ?_ _ | refine blk_drew ?_ | refine blk_alloc ?_ _)); exact BK130.out⟩, ⟨by (with_reducible repeat (first | refine blk_drewN ?_ _ | refine blk_drew ?_ | refine blk_alloc ?_ _)); exact BK133.out⟩, ⟨by repeat (first | (with_reducible first | exact HB.out | apply below_alloc | apply pw_below_drewN | apply below_drew1 | refine below_set ?_ GE117.out | refine below_set ?_ GE124.out | refine below_set ?_ GE130.out | refine below_set ?_ GE133.out) | exact HB.out)⟩⟩
                      · rw [if_neg c64] at H
                        have c64b0 : (t132 == 0) = false := beq_eq_false_iff_ne.mpr c64
                        have c64b1 : (t132 != 0) = true := bne_iff_ne.mpr c64
                        as_aux_lemma =>
                          have H' := Aside0.mk H
                          clear H
                          go_wp2
                          go_meet
                          case rel => exact ⟨_, (true), (by first | rfl | (simp; done) | (simp [*]; done)), H', ⟨by have := HJ9.out; have := HJ45.out; have := HJ47.out; first | omega | exact Nat.le_refl _⟩, ⟨by (with_reducible repeat (first | refine blk_drewN ?_ _ | refine blk_drew ?_ | refine blk_alloc ?_ _)); exact BK117.out⟩, ⟨by (with_reducible repeat (first | refine blk_drewN ?_ _ | refine blk_drew ?_ | refine blk_alloc ?_ _)); exact BK124.out⟩, ⟨by (with_reducible repeat (first | refine blk_drewN ?_ _ | refine blk_drew ?_ | refine blk_alloc ?_ _)); exact BK130.out⟩, ⟨by (with_reducible repeat (first | refine blk_drewN ?_ _ | refine blk_drew ?_ | refine blk_alloc ?_ _)); exact BK133.out⟩, ⟨by repeat (first | (with_reducible first | exact HB.out | apply below_alloc | apply pw_below_drewN | apply below_drew1 | refine below_set ?_ GE117.out | refine below_set ?_ GE124.out | refine below_set ?_ GE130.out | refine below_set ?_ GE133.out) | exact HB.out)⟩⟩
                    · rw [if_neg c63] at H
                      have c63b0 : (t126 == 0) = false := beq_eq_false_iff_ne.mpr c63
                      have c63b1 : (t126 != 0) = true := bne_iff_ne.mpr c63
                      (first | rw [c63b0] | (simp only [i64_w, i32_w]; rw [c63b0]) | skip)
                      as_aux_lemma =>
                        have H' := Aside0.mk H
                        clear H
                        go_wp2
                        go_meet
                        case rel => exact ⟨_, (true), (by first | rfl | (simp; done) | (simp [*]; done)), H', ⟨by have := HJ9.out; have := HJ45.out; have := HJ47.out; first | omega | exact Nat.le_refl _⟩, ⟨by (with_reducible repeat (first | refine blk_drewN ?_ _ | refine blk_drew ?_ | refine blk_alloc ?_ _)); exact BK117.out⟩, ⟨by (with_reducible repeat (first | refine blk_drewN ?_ _ | refine blk_drew ?_ | refine blk_alloc ?_ _)); exact BK124.out⟩, ⟨by (with_reducible repeat (first | refine blk_drewN ?_ _ | refine blk_drew ?_ | refine blk_alloc ?_ _)); exact BK130.out⟩, ⟨by (with_reducible repeat (first | refine blk_drewN ?_ _ | refine blk_drew ?_ | refine blk_alloc ?_ _)); exact BK133.out⟩, ⟨by repeat (first | (with_reducible first | exact HB.out | apply below_alloc | apply pw_below_drewN | apply below_drew1 | refine below_set ?_ GE117.out | refine below_set ?_ GE124.out | refine below_set ?_ GE130.out | refine below_set ?_ GE133.out) | exact HB.out)⟩⟩
                  case rest =>
                    clear HC57
                    try clear c1
                    try clear c2
                    try clear p2
                    try clear c3
                    try clear c4
                    try clear c5
                    try clear c6
                    try clear c7
                    try clear c8
                    try clear c9
                    try clear c10
                    try clear c11
                    try clear c12
                    try clear c13
                    try clear c14
                    try clear c15
                    try clear c22
                    try clear c23
                    try clear c28
                    try clear c29
                    try clear c30
                    try clear c34
                    try clear c34b0
                    try clear c34b1
                    try clear c34b2
                    try clear c45
                    try clear c47
                    try clear c47b0
                    try clear c49
                    try clear c50
                    try clear c50b0
                    try clear c50b1
                    try clear c51
                    try clear c52
                    try clear c52b0
                    try clear c52b1
                    try clear c54
                    try clear c54b0
                    try clear c54b1
                    try clear c54b2
                    try clear c56
                    try clear c58
                    try clear c59
                    try clear c60
                    try clear c63
                    try clear c63b0
                    try clear c63b1
                    try clear c64
                    try clear c64b0
                    try clear c64b1
                    try clear c65
                    try clear c65b0
                    try clear c65b1
                    try clear c65b2
                    try clear c66
                    try clear c67
                    try clear c68
                    try clear c71
                    try clear c72
                    try clear c73
                    try clear hcz12_0
                    try clear hcz12_1
                    try clear hcz16_0
                    try clear hcz16_1
                    try clear hcz17_0
                    try clear hcz17_1
                    try clear hcz19_0
                    try clear hcz19_1
                    try clear hcz24_0
                    try clear hcz24_1
                    try clear hcz25_0
                    try clear hcz25_1
                    try clear hcz31_0
                    try clear hcz31_1
                    try clear hcz61_0
                    try clear hcz61_1
                    try clear hcz69_0
                    try clear hcz69_1
                    try clear hcz74_0
                    try clear hcz74_1
                    try clear hfz12_0
                    try clear hfz12_1
                    try clear hfz16_0
                    try clear hfz16_1
                    try clear hfz17_0
                    try clear hfz17_1
                    try clear hfz19_0
                    try clear hfz19_1
                    try clear hfz24_0
                    try clear hfz24_1
                    try clear hfz25_0
                    try clear hfz25_1
                    try clear hfz31_0
                    try clear hfz31_1
                    try clear hfz61_0
                    try clear hfz61_1
                    try clear hfz69_0
                    try clear hfz69_1
                    try clear hfz74_0
                    try clear hfz74_1
                    try clear p2
                    obtain ⟨kq, x139_56, rfl, HA, HJ56, BK117, BK124, BK130, BK133, HB⟩ := hcut
                    cases kq with
                    | zero => exact absurd HA.out (by simp [deadboltlaw06_SpinTells.j3])
                    | succ kj56 =>
                      have H := HA.out
                      clear HA
                      simp only [deadboltlaw06_SpinTells.j3] at H
                      by_cases c76 : x139_56 = true
                      · subst c76
                        have H1 : (some false) = some r := by rw [if_pos rfl] at H; exact H
                        clear H
                        have H := H1
                        clear H1
                        as_aux_lemma =>
                          obtain rfl := Option.some.inj H
                          go_wp2
                          go_ret
                          exact ⟨by first | rfl | (simp [errW_none, errW_some] <;> rfl) | (simp [*, errW_none, errW_some] <;> rfl), by repeat (first | (with_reducible first | exact HB.out | apply below_alloc | apply pw_below_drewN | apply below_drew1 | refine below_set ?_ GE117.out | refine below_set ?_ GE124.out | refine below_set ?_ GE130.out | refine below_set ?_ GE133.out) | exact HB.out)⟩
                      · replace c76 := Bool.eq_false_iff.mpr c76
                        subst c76
                        have H1 : ((deadboltref06_Out.f a2_0 a2_1).bind fun t140 => (if t140 = 4294967295 then (if t123 = 5 then (if (!(t120 == 0) || (!(t121 == 0))) = true then (some false) else (if t122 = 0 then (deadboltlaw06_SpinTells.j4 kj56 t129 a2_0 a2_1 t127 t128 0 0) else (some false))) else (some false)) else ((deadboltref06_Draw.f a2_0 a2_1).bind fun bt141 => (if t123 = 0 then (if (!(t120 == bt141.1) || (!(t121 == bt141.2.1))) = true then (some false) else (if t122 = bt141.2.2 then (deadboltlaw06_SpinTells.j4 kj56 t129 a2_0 a2_1 t127 t128 0 0) else (some false))) else (some false))))) = some r := by rw [if_neg (show ¬ (false = true) by decide)] at H; exact H
                        clear H
                        have H := H1
                        clear H1
                        replace H := Option.bind_eq_some_iff.mp H
                        obtain ⟨t140, A770, H⟩ := H
                        replace H : (if t140 = 4294967295 then (if t123 = 5 then (if (!(t120 == 0) || (!(t121 == 0))) = true then (some false) else (if t122 = 0 then (deadboltlaw06_SpinTells.j4 kj56 t129 a2_0 a2_1 t127 t128 0 0) else (some false))) else (some false)) else ((deadboltref06_Draw.f a2_0 a2_1).bind fun bt141 => (if t123 = 0 then (if (!(t120 == bt141.1) || (!(t121 == bt141.2.1))) = true then (some false) else (if t122 = bt141.2.2 then (deadboltlaw06_SpinTells.j4 kj56 t129 a2_0 a2_1 t127 t128 0 0) else (some false))) else (some false)))) = some r := H
                        have A77 := Aside0.mk A770
                        clear A770
                        have HC78 := Aside0.mk H
                        clear H
                        have hnb79 := NB117_124.out
                        have hnc79 := NB124_117.out
                        have hnb80 := NB117_130.out
                        have hnc80 := NB130_117.out
                        have hnb81 := NB117_133.out
                        have hnc81 := NB133_117.out
                        have hcz82_0 : wc.cell? ⟨gb117, 0, none⟩ = some (.int .i64 a2_0) := (blk_cell BK117.out 0).trans rfl
                        have hcz82_1 : wc.cell? ⟨gb117, 1, none⟩ = some (.int .i64 a2_1) := (blk_cell BK117.out 1).trans rfl
                        have hfz82_0 := blk_frozen BK117.out 0
                        have hfz82_1 := blk_frozen BK117.out 1
                        go_upto_if 142 with (first | ((with_reducible refine gate_callee (f := 16) rfl ?_); refine goesL_ (some 141) rfl rfl Try.func16 (by kernel_rfl) rfl #[.agg #[.int .i64 a2_0, .int .i64 a2_1]] rfl (by (try simp only [List.map_toArray, List.map_cons, List.map_nil]); first | done | rfl | (simp only [List.length_drop, List.length_take]; rfl)) ?_; (with_reducible refine (deadboltref06_Out.calls a2_0 a2_1 t140 _ A77.out).mono ?_); rintro e w83 ⟨rfl, hb⟩; refine ⟨_, rfl, ?_⟩; have n0_ := Aside0.mk (blk_below (g := gb117) (o := .cells #[.int .i64 a2_0, .int .i64 a2_1] 27 (0, 0)) (by (with_reducible repeat (first | refine blk_drewN ?_ _ | refine blk_drew ?_ | refine blk_alloc ?_ _)); exact BK117.out) hb); have n1_ := Aside0.mk (blk_below (g := gb124) (o := .cells #[.int .i64 t120, .int .i64 t121] 27 (0, 0)) (by (with_reducible repeat (first | refine blk_drewN ?_ _ | refine blk_drew ?_ | refine blk_alloc ?_ _)); exact BK124.out) hb); have n2_ := Aside0.mk (blk_below (g := gb130) (o := .cells #[.int .i64 t127, .int .i64 t128] 27 (0, 0)) (by (with_reducible repeat (first | refine blk_drewN ?_ _ | refine blk_drew ?_ | refine blk_alloc ?_ _)); exact BK130.out) hb); have n3_ := Aside0.mk (blk_below (g := gb133) (o := .cells #[.int .i64 0, .int .i64 0] 27 (0, 0)) (by (with_reducible repeat (first | refine blk_drewN ?_ _ | refine blk_drew ?_ | refine blk_alloc ?_ _)); exact BK133.out) hb); have n4_ := Aside0.mk (below_step (by repeat (first | (with_reducible first | exact HB.out | apply below_alloc | apply pw_below_drewN | apply below_drew1 | refine below_set ?_ GE117.out | refine below_set ?_ GE124.out | refine below_set ?_ GE130.out | refine below_set ?_ GE133.out) | exact HB.out)) hb); clear BK117; clear BK124; clear BK130; clear BK133; clear HB; have BK117 := n0_; have BK124 := n1_; have BK130 := n2_; have BK133 := n3_; have HB := n4_; clear n0_ n1_ n2_ n3_ n4_; (try clear hb); (try clear hb2); (try clear hk); (try clear hi)))
                        (try simp only [Act.put, List.setIfInBounds_toArray, List.set_cons_zero, List.set_cons_succ])
                        go_cut [] (fun wc => ∃ (kq : Nat), Aside0 (deadboltlaw06_SpinTells.j4 kq t129 a2_0 a2_1 t127 t128 0 0 = some r) ∧ Aside0 (kq ≤ kj56) ∧ Aside0 (wc.heap[gb117]? = some (.cells #[.int .i64 a2_0, .int .i64 a2_1] 27 (0, 0))) ∧ Aside0 (wc.heap[gb124]? = some (.cells #[.int .i64 t120, .int .i64 t121] 27 (0, 0))) ∧ Aside0 (wc.heap[gb130]? = some (.cells #[.int .i64 t127, .int .i64 t128] 27 (0, 0))) ∧ Aside0 (wc.heap[gb133]? = some (.cells #[.int .i64 0, .int .i64 0] 27 (0, 0))) ∧ Aside0 (Below w.heap.size w wc))
                        case first =>
                          have H := HC78.out
                          clear HC78
                          by_cases c84 : t140 = 4294967295
                          · rw [if_pos c84] at H
                            have c84b0 : (t140 == 4294967295) = true := beq_iff_eq.mpr c84
                            have c84b1 : (t140 != 4294967295) = false := bne_eq_false_iff_eq.mpr c84
                            clear c84
                            (first | rw [c84b0] | (simp only [i64_w, i32_w]; rw [c84b0]) | skip)
                            by_cases c85 : t123 = 5
                            · rw [if_pos c85] at H
                              have c85b0 : (t123 == 5) = true := beq_iff_eq.mpr c85
                              have c85b1 : (t123 != 5) = false := bne_eq_false_iff_eq.mpr c85
                              clear c85
                              by_cases c86 : (!(t120 == 0) || (!(t121 == 0))) = true
                              · rw [if_pos c86] at H
                                have c86b0 : (!(t120 == 0) || (!(t121 == 0))) = true := c86
                                clear c86
                                as_aux_lemma =>
                                  obtain rfl := Option.some.inj H
                                  have hnb87 := NB124_117.out
                                  have hnc87 := NB117_124.out
                                  have hnb88 := NB124_130.out
                                  have hnc88 := NB130_124.out
                                  have hnb89 := NB124_133.out
                                  have hnc89 := NB133_124.out
                                  have hcz90_0 : w83.cell? ⟨gb124, 0, none⟩ = some (.int .i64 t120) := (blk_cell BK124.out 0).trans rfl
                                  have hcz90_1 : w83.cell? ⟨gb124, 1, none⟩ = some (.int .i64 t121) := (blk_cell BK124.out 1).trans rfl
                                  have hfz90_0 := blk_frozen BK124.out 0
                                  have hfz90_1 := blk_frozen BK124.out 1
                                  have hnb91 := NB133_117.out
                                  have hnc91 := NB117_133.out
                                  have hnb92 := NB133_130.out
                                  have hnc92 := NB130_133.out
                                  have hcz93_0 : w83.cell? ⟨gb133, 0, none⟩ = some (.int .i64 0) := (blk_cell BK133.out 0).trans rfl
                                  have hcz93_1 : w83.cell? ⟨gb133, 1, none⟩ = some (.int .i64 0) := (blk_cell BK133.out 1).trans rfl
                                  have hfz93_0 := blk_frozen BK133.out 0
                                  have hfz93_1 := blk_frozen BK133.out 1
                                  go_wp2
                                  go_ret
                                  exact ⟨by first | rfl | (simp [errW_none, errW_some] <;> rfl) | (simp [*, errW_none, errW_some] <;> rfl), by repeat (first | (with_reducible first | exact HB.out | apply below_alloc | apply pw_below_drewN | apply below_drew1 | refine below_set ?_ GE117.out | refine below_set ?_ GE124.out | refine below_set ?_ GE130.out | refine below_set ?_ GE133.out) | exact HB.out)⟩
                              · rw [if_neg c86] at H
                                have c86b0 : (!(t120 == 0) || (!(t121 == 0))) = false := by simpa using c86
                                clear c86
                                by_cases c94 : t122 = 0
                                · rw [if_pos c94] at H
                                  have c94b0 : (t122 == 0) = true := beq_iff_eq.mpr c94
                                  have c94b1 : (t122 != 0) = false := bne_eq_false_iff_eq.mpr c94
                                  clear c94
                                  as_aux_lemma =>
                                    have H' := Aside0.mk H
                                    clear H
                                    have hnb95 := NB124_117.out
                                    have hnc95 := NB117_124.out
                                    have hnb96 := NB124_130.out
                                    have hnc96 := NB130_124.out
                                    have hnb97 := NB124_133.out
                                    have hnc97 := NB133_124.out
                                    have hcz98_0 : w83.cell? ⟨gb124, 0, none⟩ = some (.int .i64 t120) := (blk_cell BK124.out 0).trans rfl
                                    have hcz98_1 : w83.cell? ⟨gb124, 1, none⟩ = some (.int .i64 t121) := (blk_cell BK124.out 1).trans rfl
                                    have hfz98_0 := blk_frozen BK124.out 0
                                    have hfz98_1 := blk_frozen BK124.out 1
                                    have hnb99 := NB133_117.out
                                    have hnc99 := NB117_133.out
                                    have hnb100 := NB133_130.out
                                    have hnc100 := NB130_133.out
                                    have hcz101_0 : w83.cell? ⟨gb133, 0, none⟩ = some (.int .i64 0) := (blk_cell BK133.out 0).trans rfl
                                    have hcz101_1 : w83.cell? ⟨gb133, 1, none⟩ = some (.int .i64 0) := (blk_cell BK133.out 1).trans rfl
                                    have hfz101_0 := blk_frozen BK133.out 0
                                    have hfz101_1 := blk_frozen BK133.out 1
                                    go_wp2
                                    go_meet
                                    case rel => exact ⟨_, H', ⟨by have := HJ9.out; have := HJ45.out; have := HJ47.out; have := HJ56.out; first | omega | exact Nat.le_refl _⟩, ⟨by (with_reducible repeat (first | refine blk_drewN ?_ _ | refine blk_drew ?_ | refine blk_alloc ?_ _)); exact BK117.out⟩, ⟨by (with_reducible repeat (first | refine blk_drewN ?_ _ | refine blk_drew ?_ | refine blk_alloc ?_ _)); exact BK124.out⟩, ⟨by (with_reducible repeat (first | refine blk_drewN ?_ _ | refine blk_drew ?_ | refine blk_alloc ?_ _)); exact BK130.out⟩, ⟨by (with_reducible repeat (first | refine blk_drewN ?_ _ | refine blk_drew ?_ | refine blk_alloc ?_ _)); exact BK133.out⟩, ⟨by repeat (first | (with_reducible first | exact HB.out | apply below_alloc | apply pw_below_drewN | apply below_drew1 | refine below_set ?_ GE117.out | refine below_set ?_ GE124.out | refine below_set ?_ GE130.out | refine below_set ?_ GE133.out) | exact HB.out)⟩⟩
                                · rw [if_neg c94] at H
                                  have c94b0 : (t122 == 0) = false := beq_eq_false_iff_ne.mpr c94
                                  have c94b1 : (t122 != 0) = true := bne_iff_ne.mpr c94
                                  as_aux_lemma =>
                                    obtain rfl := Option.some.inj H
                                    have hnb102 := NB124_117.out
                                    have hnc102 := NB117_124.out
                                    have hnb103 := NB124_130.out
                                    have hnc103 := NB130_124.out
                                    have hnb104 := NB124_133.out
                                    have hnc104 := NB133_124.out
                                    have hcz105_0 : w83.cell? ⟨gb124, 0, none⟩ = some (.int .i64 t120) := (blk_cell BK124.out 0).trans rfl
                                    have hcz105_1 : w83.cell? ⟨gb124, 1, none⟩ = some (.int .i64 t121) := (blk_cell BK124.out 1).trans rfl
                                    have hfz105_0 := blk_frozen BK124.out 0
                                    have hfz105_1 := blk_frozen BK124.out 1
                                    have hnb106 := NB133_117.out
                                    have hnc106 := NB117_133.out
                                    have hnb107 := NB133_130.out
                                    have hnc107 := NB130_133.out
                                    have hcz108_0 : w83.cell? ⟨gb133, 0, none⟩ = some (.int .i64 0) := (blk_cell BK133.out 0).trans rfl
                                    have hcz108_1 : w83.cell? ⟨gb133, 1, none⟩ = some (.int .i64 0) := (blk_cell BK133.out 1).trans rfl
                                    have hfz108_0 := blk_frozen BK133.out 0
                                    have hfz108_1 := blk_frozen BK133.out 1
                                    go_wp2
                                    go_ret
                                    exact ⟨by first | rfl | (simp [errW_none, errW_some] <;> rfl) | (simp [*, errW_none, errW_some] <;> rfl), by repeat (first | (with_reducible first | exact HB.out | apply below_alloc | apply pw_below_drewN | apply below_drew1 | refine below_set ?_ GE117.out | refine below_set ?_ GE124.out | refine below_set ?_ GE130.out | refine below_set ?_ GE133.out) | exact HB.out)⟩
                            · rw [if_neg c85] at H
                              have c85b0 : (t123 == 5) = false := beq_eq_false_iff_ne.mpr c85
                              have c85b1 : (t123 != 5) = true := bne_iff_ne.mpr c85
                              as_aux_lemma =>
                                obtain rfl := Option.some.inj H
                                go_wp2
                                go_ret
                                exact ⟨by first | rfl | (simp [errW_none, errW_some] <;> rfl) | (simp [*, errW_none, errW_some] <;> rfl), by repeat (first | (with_reducible first | exact HB.out | apply below_alloc | apply pw_below_drewN | apply below_drew1 | refine below_set ?_ GE117.out | refine below_set ?_ GE124.out | refine below_set ?_ GE130.out | refine below_set ?_ GE133.out) | exact HB.out)⟩
                          · rw [if_neg c84] at H
                            have c84b0 : (t140 == 4294967295) = false := beq_eq_false_iff_ne.mpr c84
                            have c84b1 : (t140 != 4294967295) = true := bne_iff_ne.mpr c84
                            (first | rw [c84b0] | (simp only [i64_w, i32_w]; rw [c84b0]) | skip)
                            replace H := Option.bind_eq_some_iff.mp H
                            obtain ⟨⟨t141, t142, t143⟩, A1090, H⟩ := H
                            replace H : (if t123 = 0 then (if (!(t120 == t141) || (!(t121 == t142))) = true then (some false) else (if t122 = t143 then (deadboltlaw06_SpinTells.j4 kj56 t129 a2_0 a2_1 t127 t128 0 0) else (some false))) else (some false)) = some r := H
                            have A109 := Aside0.mk A1090
                            clear A1090
                            by_cases c110 : t123 = 0
                            · rw [if_pos c110] at H
                              have c110b0 : (t123 == 0) = true := beq_iff_eq.mpr c110
                              have c110b1 : (t123 != 0) = false := bne_eq_false_iff_eq.mpr c110
                              clear c110
                              by_cases c111 : (!(t120 == t141) || (!(t121 == t142))) = true
                              · rw [if_pos c111] at H
                                have c111b0 : (!(t120 == t141) || (!(t121 == t142))) = true := c111
                                clear c111
                                as_aux_lemma =>
                                  obtain rfl := Option.some.inj H
                                  have hnb112 := NB117_124.out
                                  have hnc112 := NB124_117.out
                                  have hnb113 := NB117_130.out
                                  have hnc113 := NB130_117.out
                                  have hnb114 := NB117_133.out
                                  have hnc114 := NB133_117.out
                                  have hcz115_0 : w83.cell? ⟨gb117, 0, none⟩ = some (.int .i64 a2_0) := (blk_cell BK117.out 0).trans rfl
                                  have hcz115_1 : w83.cell? ⟨gb117, 1, none⟩ = some (.int .i64 a2_1) := (blk_cell BK117.out 1).trans rfl
                                  have hfz115_0 := blk_frozen BK117.out 0
                                  have hfz115_1 := blk_frozen BK117.out 1
                                  go_wp2_with (first | ((with_reducible refine gate_callee (f := 17) rfl ?_); refine goesL_ (some 156) rfl rfl Try.func17 (by kernel_rfl) rfl #[.agg #[.int .i64 a2_0, .int .i64 a2_1]] rfl (by (try simp only [List.map_toArray, List.map_cons, List.map_nil]); first | done | rfl | (simp only [List.length_drop, List.length_take]; rfl)) ?_; (with_reducible refine (deadboltref06_Draw.calls a2_0 a2_1 t141 t142 t143 _ A109.out).mono ?_); rintro e w116 ⟨rfl, hb⟩; refine ⟨_, rfl, ?_⟩; have n0_ := Aside0.mk (blk_below (g := gb117) (o := .cells #[.int .i64 a2_0, .int .i64 a2_1] 27 (0, 0)) (by (with_reducible repeat (first | refine blk_drewN ?_ _ | refine blk_drew ?_ | refine blk_alloc ?_ _)); exact BK117.out) hb); have n1_ := Aside0.mk (blk_below (g := gb124) (o := .cells #[.int .i64 t120, .int .i64 t121] 27 (0, 0)) (by (with_reducible repeat (first | refine blk_drewN ?_ _ | refine blk_drew ?_ | refine blk_alloc ?_ _)); exact BK124.out) hb); have n2_ := Aside0.mk (blk_below (g := gb130) (o := .cells #[.int .i64 t127, .int .i64 t128] 27 (0, 0)) (by (with_reducible repeat (first | refine blk_drewN ?_ _ | refine blk_drew ?_ | refine blk_alloc ?_ _)); exact BK130.out) hb); have n3_ := Aside0.mk (blk_below (g := gb133) (o := .cells #[.int .i64 0, .int .i64 0] 27 (0, 0)) (by (with_reducible repeat (first | refine blk_drewN ?_ _ | refine blk_drew ?_ | refine blk_alloc ?_ _)); exact BK133.out) hb); have n4_ := Aside0.mk (below_step (by repeat (first | (with_reducible first | exact HB.out | apply below_alloc | apply pw_below_drewN | apply below_drew1 | refine below_set ?_ GE117.out | refine below_set ?_ GE124.out | refine below_set ?_ GE130.out | refine below_set ?_ GE133.out) | exact HB.out)) hb); clear BK117; clear BK124; clear BK130; clear BK133; clear HB; have BK117 := n0_; have BK124 := n1_; have BK130 := n2_; have BK133 := n3_; have HB := n4_; clear n0_ n1_ n2_ n3_ n4_; (try clear hb); (try clear hb2); (try clear hk); (try clear hi)) | ((with_reducible refine gate_dst (N := 21) rfl ?_); refine box_event ?hg (N := 21) ?hd (cs := #[.int .i64 0, .int .i64 0]) (t := 27) ?hr ?_; (case hd => rfl); (case hg => rfl); (case hr => first | (go_simp; done) | (go_simp; rfl)); intro gb144 hg w117 hbox hb; have n0_ := Aside0.mk (blk_below (g := gb117) (o := .cells #[.int .i64 a2_0, .int .i64 a2_1] 27 (0, 0)) (by (with_reducible repeat (first | refine blk_drewN ?_ _ | refine blk_drew ?_ | refine blk_alloc ?_ _)); exact BK117.out) hb); have n1_ := Aside0.mk (blk_below (g := gb124) (o := .cells #[.int .i64 t120, .int .i64 t121] 27 (0, 0)) (by (with_reducible repeat (first | refine blk_drewN ?_ _ | refine blk_drew ?_ | refine blk_alloc ?_ _)); exact BK124.out) hb); have n2_ := Aside0.mk (blk_below (g := gb130) (o := .cells #[.int .i64 t127, .int .i64 t128] 27 (0, 0)) (by (with_reducible repeat (first | refine blk_drewN ?_ _ | refine blk_drew ?_ | refine blk_alloc ?_ _)); exact BK130.out) hb); have n3_ := Aside0.mk (blk_below (g := gb133) (o := .cells #[.int .i64 0, .int .i64 0] 27 (0, 0)) (by (with_reducible repeat (first | refine blk_drewN ?_ _ | refine blk_drew ?_ | refine blk_alloc ?_ _)); exact BK133.out) hb); have n4_ := Aside0.mk (below_step (by repeat (first | (with_reducible first | exact HB.out | apply below_alloc | apply pw_below_drewN | apply below_drew1 | refine below_set ?_ GE117.out | refine below_set ?_ GE124.out | refine below_set ?_ GE130.out | refine below_set ?_ GE133.out) | exact HB.out)) hb); have n5_ := Aside0.mk (hbox); have n6_ := Aside0.mk ((by rw [hg]; exact (below_size (by repeat (first | (with_reducible first | exact HB.out | apply below_alloc | apply pw_below_drewN | apply below_drew1 | refine below_set ?_ GE117.out | refine below_set ?_ GE124.out | refine below_set ?_ GE130.out | refine below_set ?_ GE133.out) | exact HB.out))) : w.heap.size ≤ gb144)); have n7_ := Aside0.mk ((by rw [hg]; exact (below_size (by repeat (first | (with_reducible first | exact HB.out | apply below_alloc | apply pw_below_drewN | apply below_drew1 | refine below_set ?_ GE117.out | refine below_set ?_ GE124.out | refine below_set ?_ GE130.out | refine below_set ?_ GE133.out) | exact HB.out))) : w.heap.size ≤ gb144)); have n8_ := Aside0.mk ((by rw [hg]; exact Nat.ne_of_lt (blk_lt (g := gb117) (o := .cells #[.int .i64 a2_0, .int .i64 a2_1] 27 (0, 0)) (by (with_reducible repeat (first | refine blk_drewN ?_ _ | refine blk_drew ?_ | refine blk_alloc ?_ _)); exact BK117.out)) : gb117 ≠ gb144)); have n9_ := Aside0.mk ((by rw [hg]; exact Nat.ne_of_gt (blk_lt (g := gb117) (o := .cells #[.int .i64 a2_0, .int .i64 a2_1] 27 (0, 0)) (by (with_reducible repeat (first | refine blk_drewN ?_ _ | refine blk_drew ?_ | refine blk_alloc ?_ _)); exact BK117.out)) : gb144 ≠ gb117)); have n10_ := Aside0.mk ((by rw [hg]; exact Nat.ne_of_lt (blk_lt (g := gb124) (o := .cells #[.int .i64 t120, .int .i64 t121] 27 (0, 0)) (by (with_reducible repeat (first | refine blk_drewN ?_ _ | refine blk_drew ?_ | refine blk_alloc ?_ _)); exact BK124.out)) : gb124 ≠ gb144)); have n11_ := Aside0.mk ((by rw [hg]; exact Nat.ne_of_gt (blk_lt (g := gb124) (o := .cells #[.int .i64 t120, .int .i64 t121] 27 (0, 0)) (by (with_reducible repeat (first | refine blk_drewN ?_ _ | refine blk_drew ?_ | refine blk_alloc ?_ _)); exact BK124.out)) : gb144 ≠ gb124)); have n12_ := Aside0.mk ((by rw [hg]; exact Nat.ne_of_lt (blk_lt (g := gb130) (o := .cells #[.int .i64 t127, .int .i64 t128] 27 (0, 0)) (by (with_reducible repeat (first | refine blk_drewN ?_ _ | refine blk_drew ?_ | refine blk_alloc ?_ _)); exact BK130.out)) : gb130 ≠ gb144)); have n13_ := Aside0.mk ((by rw [hg]; exact Nat.ne_of_gt (blk_lt (g := gb130) (o := .cells #[.int .i64 t127, .int .i64 t128] 27 (0, 0)) (by (with_reducible repeat (first | refine blk_drewN ?_ _ | refine blk_drew ?_ | refine blk_alloc ?_ _)); exact BK130.out)) : gb144 ≠ gb130)); have n14_ := Aside0.mk ((by rw [hg]; exact Nat.ne_of_lt (blk_lt (g := gb133) (o := .cells #[.int .i64 0, .int .i64 0] 27 (0, 0)) (by (with_reducible repeat (first | refine blk_drewN ?_ _ | refine blk_drew ?_ | refine blk_alloc ?_ _)); exact BK133.out)) : gb133 ≠ gb144)); have n15_ := Aside0.mk ((by rw [hg]; exact Nat.ne_of_gt (blk_lt (g := gb133) (o := .cells #[.int .i64 0, .int .i64 0] 27 (0, 0)) (by (with_reducible repeat (first | refine blk_drewN ?_ _ | refine blk_drew ?_ | refine blk_alloc ?_ _)); exact BK133.out)) : gb144 ≠ gb133)); clear BK117; clear BK124; clear BK130; clear BK133; clear HB; have BK117 := n0_; have BK124 := n1_; have BK130 := n2_; have BK133 := n3_; have HB := n4_; have BK144 := n5_; have GW144 := n6_; have GE144 := n7_; have NB117_144 := n8_; have NB144_117 := n9_; have NB124_144 := n10_; have NB144_124 := n11_; have NB130_144 := n12_; have NB144_130 := n13_; have NB133_144 := n14_; have NB144_133 := n15_; clear n0_ n1_ n2_ n3_ n4_ n5_ n6_ n7_ n8_ n9_ n10_ n11_ n12_ n13_ n14_ n15_; clear hb hbox hg; have hnb118 := NB144_117.out; have hnc118 := NB117_144.out; have hnb119 := NB144_124.out; have hnc119 := NB124_144.out; have hnb120 := NB144_130.out; have hnc120 := NB130_144.out; have hnb121 := NB144_133.out; have hnc121 := NB133_144.out; have hcz122_0 : w117.cell? ⟨gb144, 0, none⟩ = some (.int .i64 0) := (blk_cell BK144.out 0).trans rfl; have hcz122_1 : w117.cell? ⟨gb144, 1, none⟩ = some (.int .i64 0) := (blk_cell BK144.out 1).trans rfl; have hfz122_0 := blk_frozen BK144.out 0; have hfz122_1 := blk_frozen BK144.out 1; have hnb123 := NB124_130.out; have hnc123 := NB130_124.out; have hnb124 := NB124_133.out; have hnc124 := NB133_124.out; have hcz125_0 : w117.cell? ⟨gb124, 0, none⟩ = some (.int .i64 t120) := (blk_cell BK124.out 0).trans rfl; have hcz125_1 : w117.cell? ⟨gb124, 1, none⟩ = some (.int .i64 t121) := (blk_cell BK124.out 1).trans rfl; have hfz125_0 := blk_frozen BK124.out 0; have hfz125_1 := blk_frozen BK124.out 1))
                                  go_ret
                                  exact ⟨by first | rfl | (simp [errW_none, errW_some] <;> rfl) | (simp [*, errW_none, errW_some] <;> rfl), by repeat (first | (with_reducible first | exact HB.out | apply below_alloc | apply pw_below_drewN | apply below_drew1 | refine below_set ?_ GE117.out | refine below_set ?_ GE124.out | refine below_set ?_ GE130.out | refine below_set ?_ GE133.out | refine below_set ?_ GE144.out) | exact HB.out)⟩
                              · rw [if_neg c111] at H
                                have c111b0 : (!(t120 == t141) || (!(t121 == t142))) = false := by simpa using c111
                                clear c111
                                by_cases c126 : t122 = t143
                                · rw [if_pos c126] at H
                                  have c126b0 : (t122 == t143) = true := beq_iff_eq.mpr c126
                                  have c126b1 : (t122 != t143) = false := bne_eq_false_iff_eq.mpr c126
                                  clear c126
                                  as_aux_lemma =>
                                    have H' := Aside0.mk H
                                    clear H
                                    have hnb127 := NB117_124.out
                                    have hnc127 := NB124_117.out
                                    have hnb128 := NB117_130.out
                                    have hnc128 := NB130_117.out
                                    have hnb129 := NB117_133.out
                                    have hnc129 := NB133_117.out
                                    have hcz130_0 : w83.cell? ⟨gb117, 0, none⟩ = some (.int .i64 a2_0) := (blk_cell BK117.out 0).trans rfl
                                    have hcz130_1 : w83.cell? ⟨gb117, 1, none⟩ = some (.int .i64 a2_1) := (blk_cell BK117.out 1).trans rfl
                                    have hfz130_0 := blk_frozen BK117.out 0
                                    have hfz130_1 := blk_frozen BK117.out 1
                                    go_wp2_with (first | ((with_reducible refine gate_callee (f := 17) rfl ?_); refine goesL_ (some 156) rfl rfl Try.func17 (by kernel_rfl) rfl #[.agg #[.int .i64 a2_0, .int .i64 a2_1]] rfl (by (try simp only [List.map_toArray, List.map_cons, List.map_nil]); first | done | rfl | (simp only [List.length_drop, List.length_take]; rfl)) ?_; (with_reducible refine (deadboltref06_Draw.calls a2_0 a2_1 t141 t142 t143 _ A109.out).mono ?_); rintro e w131 ⟨rfl, hb⟩; refine ⟨_, rfl, ?_⟩; have n0_ := Aside0.mk (blk_below (g := gb117) (o := .cells #[.int .i64 a2_0, .int .i64 a2_1] 27 (0, 0)) (by (with_reducible repeat (first | refine blk_drewN ?_ _ | refine blk_drew ?_ | refine blk_alloc ?_ _)); exact BK117.out) hb); have n1_ := Aside0.mk (blk_below (g := gb124) (o := .cells #[.int .i64 t120, .int .i64 t121] 27 (0, 0)) (by (with_reducible repeat (first | refine blk_drewN ?_ _ | refine blk_drew ?_ | refine blk_alloc ?_ _)); exact BK124.out) hb); have n2_ := Aside0.mk (blk_below (g := gb130) (o := .cells #[.int .i64 t127, .int .i64 t128] 27 (0, 0)) (by (with_reducible repeat (first | refine blk_drewN ?_ _ | refine blk_drew ?_ | refine blk_alloc ?_ _)); exact BK130.out) hb); have n3_ := Aside0.mk (blk_below (g := gb133) (o := .cells #[.int .i64 0, .int .i64 0] 27 (0, 0)) (by (with_reducible repeat (first | refine blk_drewN ?_ _ | refine blk_drew ?_ | refine blk_alloc ?_ _)); exact BK133.out) hb); have n4_ := Aside0.mk (below_step (by repeat (first | (with_reducible first | exact HB.out | apply below_alloc | apply pw_below_drewN | apply below_drew1 | refine below_set ?_ GE117.out | refine below_set ?_ GE124.out | refine below_set ?_ GE130.out | refine below_set ?_ GE133.out) | exact HB.out)) hb); clear BK117; clear BK124; clear BK130; clear BK133; clear HB; have BK117 := n0_; have BK124 := n1_; have BK130 := n2_; have BK133 := n3_; have HB := n4_; clear n0_ n1_ n2_ n3_ n4_; (try clear hb); (try clear hb2); (try clear hk); (try clear hi)) | ((with_reducible refine gate_dst (N := 21) rfl ?_); refine box_event ?hg (N := 21) ?hd (cs := #[.int .i64 0, .int .i64 0]) (t := 27) ?hr ?_; (case hd => rfl); (case hg => rfl); (case hr => first | (go_simp; done) | (go_simp; rfl)); intro gb144 hg w132 hbox hb; have n0_ := Aside0.mk (blk_below (g := gb117) (o := .cells #[.int .i64 a2_0, .int .i64 a2_1] 27 (0, 0)) (by (with_reducible repeat (first | refine blk_drewN ?_ _ | refine blk_drew ?_ | refine blk_alloc ?_ _)); exact BK117.out) hb); have n1_ := Aside0.mk (blk_below (g := gb124) (o := .cells #[.int .i64 t120, .int .i64 t121] 27 (0, 0)) (by (with_reducible repeat (first | refine blk_drewN ?_ _ | refine blk_drew ?_ | refine blk_alloc ?_ _)); exact BK124.out) hb); have n2_ := Aside0.mk (blk_below (g := gb130) (o := .cells #[.int .i64 t127, .int .i64 t128] 27 (0, 0)) (by (with_reducible repeat (first | refine blk_drewN ?_ _ | refine blk_drew ?_ | refine blk_alloc ?_ _)); exact BK130.out) hb); have n3_ := Aside0.mk (blk_below (g := gb133) (o := .cells #[.int .i64 0, .int .i64 0] 27 (0, 0)) (by (with_reducible repeat (first | refine blk_drewN ?_ _ | refine blk_drew ?_ | refine blk_alloc ?_ _)); exact BK133.out) hb); have n4_ := Aside0.mk (below_step (by repeat (first | (with_reducible first | exact HB.out | apply below_alloc | apply pw_below_drewN | apply below_drew1 | refine below_set ?_ GE117.out | refine below_set ?_ GE124.out | refine below_set ?_ GE130.out | refine below_set ?_ GE133.out) | exact HB.out)) hb); have n5_ := Aside0.mk (hbox); have n6_ := Aside0.mk ((by rw [hg]; exact (below_size (by repeat (first | (with_reducible first | exact HB.out | apply below_alloc | apply pw_below_drewN | apply below_drew1 | refine below_set ?_ GE117.out | refine below_set ?_ GE124.out | refine below_set ?_ GE130.out | refine below_set ?_ GE133.out) | exact HB.out))) : w.heap.size ≤ gb144)); have n7_ := Aside0.mk ((by rw [hg]; exact (below_size (by repeat (first | (with_reducible first | exact HB.out | apply below_alloc | apply pw_below_drewN | apply below_drew1 | refine below_set ?_ GE117.out | refine below_set ?_ GE124.out | refine below_set ?_ GE130.out | refine below_set ?_ GE133.out) | exact HB.out))) : w.heap.size ≤ gb144)); have n8_ := Aside0.mk ((by rw [hg]; exact Nat.ne_of_lt (blk_lt (g := gb117) (o := .cells #[.int .i64 a2_0, .int .i64 a2_1] 27 (0, 0)) (by (with_reducible repeat (first | refine blk_drewN ?_ _ | refine blk_drew ?_ | refine blk_alloc ?_ _)); exact BK117.out)) : gb117 ≠ gb144)); have n9_ := Aside0.mk ((by rw [hg]; exact Nat.ne_of_gt (blk_lt (g := gb117) (o := .cells #[.int .i64 a2_0, .int .i64 a2_1] 27 (0, 0)) (by (with_reducible repeat (first | refine blk_drewN ?_ _ | refine blk_drew ?_ | refine blk_alloc ?_ _)); exact BK117.out)) : gb144 ≠ gb117)); have n10_ := Aside0.mk ((by rw [hg]; exact Nat.ne_of_lt (blk_lt (g := gb124) (o := .cells #[.int .i64 t120, .int .i64 t121] 27 (0, 0)) (by (with_reducible repeat (first | refine blk_drewN ?_ _ | refine blk_drew ?_ | refine blk_alloc ?_ _)); exact BK124.out)) : gb124 ≠ gb144)); have n11_ := Aside0.mk ((by rw [hg]; exact Nat.ne_of_gt (blk_lt (g := gb124) (o := .cells #[.int .i64 t120, .int .i64 t121] 27 (0, 0)) (by (with_reducible repeat (first | refine blk_drewN ?_ _ | refine blk_drew ?_ | refine blk_alloc ?_ _)); exact BK124.out)) : gb144 ≠ gb124)); have n12_ := Aside0.mk ((by rw [hg]; exact Nat.ne_of_lt (blk_lt (g := gb130) (o := .cells #[.int .i64 t127, .int .i64 t128] 27 (0, 0)) (by (with_reducible repeat (first | refine blk_drewN ?_ _ | refine blk_drew ?_ | refine blk_alloc ?_ _)); exact BK130.out)) : gb130 ≠ gb144)); have n13_ := Aside0.mk ((by rw [hg]; exact Nat.ne_of_gt (blk_lt (g := gb130) (o := .cells #[.int .i64 t127, .int .i64 t128] 27 (0, 0)) (by (with_reducible repeat (first | refine blk_drewN ?_ _ | refine blk_drew ?_ | refine blk_alloc ?_ _)); exact BK130.out)) : gb144 ≠ gb130)); have n14_ := Aside0.mk ((by rw [hg]; exact Nat.ne_of_lt (blk_lt (g := gb133) (o := .cells #[.int .i64 0, .int .i64 0] 27 (0, 0)) (by (with_reducible repeat (first | refine blk_drewN ?_ _ | refine blk_drew ?_ | refine blk_alloc ?_ _)); exact BK133.out)) : gb133 ≠ gb144)); have n15_ := Aside0.mk ((by rw [hg]; exact Nat.ne_of_gt (blk_lt (g := gb133) (o := .cells #[.int .i64 0, .int .i64 0] 27 (0, 0)) (by (with_reducible repeat (first | refine blk_drewN ?_ _ | refine blk_drew ?_ | refine blk_alloc ?_ _)); exact BK133.out)) : gb144 ≠ gb133)); clear BK117; clear BK124; clear BK130; clear BK133; clear HB; have BK117 := n0_; have BK124 := n1_; have BK130 := n2_; have BK133 := n3_; have HB := n4_; have BK144 := n5_; have GW144 := n6_; have GE144 := n7_; have NB117_144 := n8_; have NB144_117 := n9_; have NB124_144 := n10_; have NB144_124 := n11_; have NB130_144 := n12_; have NB144_130 := n13_; have NB133_144 := n14_; have NB144_133 := n15_; clear n0_ n1_ n2_ n3_ n4_ n5_ n6_ n7_ n8_ n9_ n10_ n11_ n12_ n13_ n14_ n15_; clear hb hbox hg; have hnb133 := NB144_117.out; have hnc133 := NB117_144.out; have hnb134 := NB144_124.out; have hnc134 := NB124_144.out; have hnb135 := NB144_130.out; have hnc135 := NB130_144.out; have hnb136 := NB144_133.out; have hnc136 := NB133_144.out; have hcz137_0 : w132.cell? ⟨gb144, 0, none⟩ = some (.int .i64 0) := (blk_cell BK144.out 0).trans rfl; have hcz137_1 : w132.cell? ⟨gb144, 1, none⟩ = some (.int .i64 0) := (blk_cell BK144.out 1).trans rfl; have hfz137_0 := blk_frozen BK144.out 0; have hfz137_1 := blk_frozen BK144.out 1; have hnb138 := NB124_130.out; have hnc138 := NB130_124.out; have hnb139 := NB124_133.out; have hnc139 := NB133_124.out; have hcz140_0 : w132.cell? ⟨gb124, 0, none⟩ = some (.int .i64 t120) := (blk_cell BK124.out 0).trans rfl; have hcz140_1 : w132.cell? ⟨gb124, 1, none⟩ = some (.int .i64 t121) := (blk_cell BK124.out 1).trans rfl; have hfz140_0 := blk_frozen BK124.out 0; have hfz140_1 := blk_frozen BK124.out 1))
                                    go_meet
                                    case rel => exact ⟨_, H', ⟨by have := HJ9.out; have := HJ45.out; have := HJ47.out; have := HJ56.out; first | omega | exact Nat.le_refl _⟩, ⟨by (with_reducible repeat (first | refine blk_drewN ?_ _ | refine blk_drew ?_ | refine blk_alloc ?_ _)); refine blk_far ?_ NB117_144.out _; (with_reducible repeat (first | refine blk_drewN ?_ _ | refine blk_drew ?_ | refine blk_alloc ?_ _)); refine blk_far ?_ NB117_144.out _; (with_reducible repeat (first | refine blk_drewN ?_ _ | refine blk_drew ?_ | refine blk_alloc ?_ _)); exact BK117.out⟩, ⟨by (with_reducible repeat (first | refine blk_drewN ?_ _ | refine blk_drew ?_ | refine blk_alloc ?_ _)); refine blk_far ?_ NB124_144.out _; (with_reducible repeat (first | refine blk_drewN ?_ _ | refine blk_drew ?_ | refine blk_alloc ?_ _)); refine blk_far ?_ NB124_144.out _; (with_reducible repeat (first | refine blk_drewN ?_ _ | refine blk_drew ?_ | refine blk_alloc ?_ _)); exact BK124.out⟩, ⟨by (with_reducible repeat (first | refine blk_drewN ?_ _ | refine blk_drew ?_ | refine blk_alloc ?_ _)); refine blk_far ?_ NB130_144.out _; (with_reducible repeat (first | refine blk_drewN ?_ _ | refine blk_drew ?_ | refine blk_alloc ?_ _)); refine blk_far ?_ NB130_144.out _; (with_reducible repeat (first | refine blk_drewN ?_ _ | refine blk_drew ?_ | refine blk_alloc ?_ _)); exact BK130.out⟩, ⟨by (with_reducible repeat (first | refine blk_drewN ?_ _ | refine blk_drew ?_ | refine blk_alloc ?_ _)); refine blk_far ?_ NB133_144.out _; (with_reducible repeat (first | refine blk_drewN ?_ _ | refine blk_drew ?_ | refine blk_alloc ?_ _)); refine blk_far ?_ NB133_144.out _; (with_reducible repeat (first | refine blk_drewN ?_ _ | refine blk_drew ?_ | refine blk_alloc ?_ _)); exact BK133.out⟩, ⟨by repeat (first | (with_reducible first | exact HB.out | apply below_alloc | apply pw_below_drewN | apply below_drew1 | refine below_set ?_ GE117.out | refine below_set ?_ GE124.out | refine below_set ?_ GE130.out | refine below_set ?_ GE133.out | refine below_set ?_ GE144.out) | exact HB.out)⟩⟩
                                · rw [if_neg c126] at H
                                  have c126b0 : (t122 == t143) = false := beq_eq_false_iff_ne.mpr c126
                                  have c126b1 : (t122 != t143) = true := bne_iff_ne.mpr c126
                                  as_aux_lemma =>
                                    obtain rfl := Option.some.inj H
                                    have hnb141 := NB117_124.out
                                    have hnc141 := NB124_117.out
                                    have hnb142 := NB117_130.out
                                    have hnc142 := NB130_117.out
                                    have hnb143 := NB117_133.out
                                    have hnc143 := NB133_117.out
                                    have hcz144_0 : w83.cell? ⟨gb117, 0, none⟩ = some (.int .i64 a2_0) := (blk_cell BK117.out 0).trans rfl
                                    have hcz144_1 : w83.cell? ⟨gb117, 1, none⟩ = some (.int .i64 a2_1) := (blk_cell BK117.out 1).trans rfl
                                    have hfz144_0 := blk_frozen BK117.out 0
                                    have hfz144_1 := blk_frozen BK117.out 1
                                    go_wp2_with (first | ((with_reducible refine gate_callee (f := 17) rfl ?_); refine goesL_ (some 156) rfl rfl Try.func17 (by kernel_rfl) rfl #[.agg #[.int .i64 a2_0, .int .i64 a2_1]] rfl (by (try simp only [List.map_toArray, List.map_cons, List.map_nil]); first | done | rfl | (simp only [List.length_drop, List.length_take]; rfl)) ?_; (with_reducible refine (deadboltref06_Draw.calls a2_0 a2_1 t141 t142 t143 _ A109.out).mono ?_); rintro e w145 ⟨rfl, hb⟩; refine ⟨_, rfl, ?_⟩; have n0_ := Aside0.mk (blk_below (g := gb117) (o := .cells #[.int .i64 a2_0, .int .i64 a2_1] 27 (0, 0)) (by (with_reducible repeat (first | refine blk_drewN ?_ _ | refine blk_drew ?_ | refine blk_alloc ?_ _)); exact BK117.out) hb); have n1_ := Aside0.mk (blk_below (g := gb124) (o := .cells #[.int .i64 t120, .int .i64 t121] 27 (0, 0)) (by (with_reducible repeat (first | refine blk_drewN ?_ _ | refine blk_drew ?_ | refine blk_alloc ?_ _)); exact BK124.out) hb); have n2_ := Aside0.mk (blk_below (g := gb130) (o := .cells #[.int .i64 t127, .int .i64 t128] 27 (0, 0)) (by (with_reducible repeat (first | refine blk_drewN ?_ _ | refine blk_drew ?_ | refine blk_alloc ?_ _)); exact BK130.out) hb); have n3_ := Aside0.mk (blk_below (g := gb133) (o := .cells #[.int .i64 0, .int .i64 0] 27 (0, 0)) (by (with_reducible repeat (first | refine blk_drewN ?_ _ | refine blk_drew ?_ | refine blk_alloc ?_ _)); exact BK133.out) hb); have n4_ := Aside0.mk (below_step (by repeat (first | (with_reducible first | exact HB.out | apply below_alloc | apply pw_below_drewN | apply below_drew1 | refine below_set ?_ GE117.out | refine below_set ?_ GE124.out | refine below_set ?_ GE130.out | refine below_set ?_ GE133.out) | exact HB.out)) hb); clear BK117; clear BK124; clear BK130; clear BK133; clear HB; have BK117 := n0_; have BK124 := n1_; have BK130 := n2_; have BK133 := n3_; have HB := n4_; clear n0_ n1_ n2_ n3_ n4_; (try clear hb); (try clear hb2); (try clear hk); (try clear hi)) | ((with_reducible refine gate_dst (N := 21) rfl ?_); refine box_event ?hg (N := 21) ?hd (cs := #[.int .i64 0, .int .i64 0]) (t := 27) ?hr ?_; (case hd => rfl); (case hg => rfl); (case hr => first | (go_simp; done) | (go_simp; rfl)); intro gb144 hg w146 hbox hb; have n0_ := Aside0.mk (blk_below (g := gb117) (o := .cells #[.int .i64 a2_0, .int .i64 a2_1] 27 (0, 0)) (by (with_reducible repeat (first | refine blk_drewN ?_ _ | refine blk_drew ?_ | refine blk_alloc ?_ _)); exact BK117.out) hb); have n1_ := Aside0.mk (blk_below (g := gb124) (o := .cells #[.int .i64 t120, .int .i64 t121] 27 (0, 0)) (by (with_reducible repeat (first | refine blk_drewN ?_ _ | refine blk_drew ?_ | refine blk_alloc ?_ _)); exact BK124.out) hb); have n2_ := Aside0.mk (blk_below (g := gb130) (o := .cells #[.int .i64 t127, .int .i64 t128] 27 (0, 0)) (by (with_reducible repeat (first | refine blk_drewN ?_ _ | refine blk_drew ?_ | refine blk_alloc ?_ _)); exact BK130.out) hb); have n3_ := Aside0.mk (blk_below (g := gb133) (o := .cells #[.int .i64 0, .int .i64 0] 27 (0, 0)) (by (with_reducible repeat (first | refine blk_drewN ?_ _ | refine blk_drew ?_ | refine blk_alloc ?_ _)); exact BK133.out) hb); have n4_ := Aside0.mk (below_step (by repeat (first | (with_reducible first | exact HB.out | apply below_alloc | apply pw_below_drewN | apply below_drew1 | refine below_set ?_ GE117.out | refine below_set ?_ GE124.out | refine below_set ?_ GE130.out | refine below_set ?_ GE133.out) | exact HB.out)) hb); have n5_ := Aside0.mk (hbox); have n6_ := Aside0.mk ((by rw [hg]; exact (below_size (by repeat (first | (with_reducible first | exact HB.out | apply below_alloc | apply pw_below_drewN | apply below_drew1 | refine below_set ?_ GE117.out | refine below_set ?_ GE124.out | refine below_set ?_ GE130.out | refine below_set ?_ GE133.out) | exact HB.out))) : w.heap.size ≤ gb144)); have n7_ := Aside0.mk ((by rw [hg]; exact (below_size (by repeat (first | (with_reducible first | exact HB.out | apply below_alloc | apply pw_below_drewN | apply below_drew1 | refine below_set ?_ GE117.out | refine below_set ?_ GE124.out | refine below_set ?_ GE130.out | refine below_set ?_ GE133.out) | exact HB.out))) : w.heap.size ≤ gb144)); have n8_ := Aside0.mk ((by rw [hg]; exact Nat.ne_of_lt (blk_lt (g := gb117) (o := .cells #[.int .i64 a2_0, .int .i64 a2_1] 27 (0, 0)) (by (with_reducible repeat (first | refine blk_drewN ?_ _ | refine blk_drew ?_ | refine blk_alloc ?_ _)); exact BK117.out)) : gb117 ≠ gb144)); have n9_ := Aside0.mk ((by rw [hg]; exact Nat.ne_of_gt (blk_lt (g := gb117) (o := .cells #[.int .i64 a2_0, .int .i64 a2_1] 27 (0, 0)) (by (with_reducible repeat (first | refine blk_drewN ?_ _ | refine blk_drew ?_ | refine blk_alloc ?_ _)); exact BK117.out)) : gb144 ≠ gb117)); have n10_ := Aside0.mk ((by rw [hg]; exact Nat.ne_of_lt (blk_lt (g := gb124) (o := .cells #[.int .i64 t120, .int .i64 t121] 27 (0, 0)) (by (with_reducible repeat (first | refine blk_drewN ?_ _ | refine blk_drew ?_ | refine blk_alloc ?_ _)); exact BK124.out)) : gb124 ≠ gb144)); have n11_ := Aside0.mk ((by rw [hg]; exact Nat.ne_of_gt (blk_lt (g := gb124) (o := .cells #[.int .i64 t120, .int .i64 t121] 27 (0, 0)) (by (with_reducible repeat (first | refine blk_drewN ?_ _ | refine blk_drew ?_ | refine blk_alloc ?_ _)); exact BK124.out)) : gb144 ≠ gb124)); have n12_ := Aside0.mk ((by rw [hg]; exact Nat.ne_of_lt (blk_lt (g := gb130) (o := .cells #[.int .i64 t127, .int .i64 t128] 27 (0, 0)) (by (with_reducible repeat (first | refine blk_drewN ?_ _ | refine blk_drew ?_ | refine blk_alloc ?_ _)); exact BK130.out)) : gb130 ≠ gb144)); have n13_ := Aside0.mk ((by rw [hg]; exact Nat.ne_of_gt (blk_lt (g := gb130) (o := .cells #[.int .i64 t127, .int .i64 t128] 27 (0, 0)) (by (with_reducible repeat (first | refine blk_drewN ?_ _ | refine blk_drew ?_ | refine blk_alloc ?_ _)); exact BK130.out)) : gb144 ≠ gb130)); have n14_ := Aside0.mk ((by rw [hg]; exact Nat.ne_of_lt (blk_lt (g := gb133) (o := .cells #[.int .i64 0, .int .i64 0] 27 (0, 0)) (by (with_reducible repeat (first | refine blk_drewN ?_ _ | refine blk_drew ?_ | refine blk_alloc ?_ _)); exact BK133.out)) : gb133 ≠ gb144)); have n15_ := Aside0.mk ((by rw [hg]; exact Nat.ne_of_gt (blk_lt (g := gb133) (o := .cells #[.int .i64 0, .int .i64 0] 27 (0, 0)) (by (with_reducible repeat (first | refine blk_drewN ?_ _ | refine blk_drew ?_ | refine blk_alloc ?_ _)); exact BK133.out)) : gb144 ≠ gb133)); clear BK117; clear BK124; clear BK130; clear BK133; clear HB; have BK117 := n0_; have BK124 := n1_; have BK130 := n2_; have BK133 := n3_; have HB := n4_; have BK144 := n5_; have GW144 := n6_; have GE144 := n7_; have NB117_144 := n8_; have NB144_117 := n9_; have NB124_144 := n10_; have NB144_124 := n11_; have NB130_144 := n12_; have NB144_130 := n13_; have NB133_144 := n14_; have NB144_133 := n15_; clear n0_ n1_ n2_ n3_ n4_ n5_ n6_ n7_ n8_ n9_ n10_ n11_ n12_ n13_ n14_ n15_; clear hb hbox hg; have hnb147 := NB144_117.out; have hnc147 := NB117_144.out; have hnb148 := NB144_124.out; have hnc148 := NB124_144.out; have hnb149 := NB144_130.out; have hnc149 := NB130_144.out; have hnb150 := NB144_133.out; have hnc150 := NB133_144.out; have hcz151_0 : w146.cell? ⟨gb144, 0, none⟩ = some (.int .i64 0) := (blk_cell BK144.out 0).trans rfl; have hcz151_1 : w146.cell? ⟨gb144, 1, none⟩ = some (.int .i64 0) := (blk_cell BK144.out 1).trans rfl; have hfz151_0 := blk_frozen BK144.out 0; have hfz151_1 := blk_frozen BK144.out 1; have hnb152 := NB124_130.out; have hnc152 := NB130_124.out; have hnb153 := NB124_133.out; have hnc153 := NB133_124.out; have hcz154_0 : w146.cell? ⟨gb124, 0, none⟩ = some (.int .i64 t120) := (blk_cell BK124.out 0).trans rfl; have hcz154_1 : w146.cell? ⟨gb124, 1, none⟩ = some (.int .i64 t121) := (blk_cell BK124.out 1).trans rfl; have hfz154_0 := blk_frozen BK124.out 0; have hfz154_1 := blk_frozen BK124.out 1))
                                    go_ret
                                    exact ⟨by first | rfl | (simp [errW_none, errW_some] <;> rfl) | (simp [*, errW_none, errW_some] <;> rfl), by repeat (first | (with_reducible first | exact HB.out | apply below_alloc | apply pw_below_drewN | apply below_drew1 | refine below_set ?_ GE117.out | refine below_set ?_ GE124.out | refine below_set ?_ GE130.out | refine below_set ?_ GE133.out | refine below_set ?_ GE144.out) | exact HB.out)⟩
                            · rw [if_neg c110] at H
                              have c110b0 : (t123 == 0) = false := beq_eq_false_iff_ne.mpr c110
                              have c110b1 : (t123 != 0) = true := bne_iff_ne.mpr c110
                              as_aux_lemma =>
                                obtain rfl := Option.some.inj H
                                have hnb155 := NB117_124.out
                                have hnc155 := NB124_117.out
                                have hnb156 := NB117_130.out
                                have hnc156 := NB130_117.out
                                have hnb157 := NB117_133.out
                                have hnc157 := NB133_117.out
                                have hcz158_0 : w83.cell? ⟨gb117, 0, none⟩ = some (.int .i64 a2_0) := (blk_cell BK117.out 0).trans rfl
                                have hcz158_1 : w83.cell? ⟨gb117, 1, none⟩ = some (.int .i64 a2_1) := (blk_cell BK117.out 1).trans rfl
                                have hfz158_0 := blk_frozen BK117.out 0
                                have hfz158_1 := blk_frozen BK117.out 1
                                go_wp2_with (first | ((with_reducible refine gate_callee (f := 17) rfl ?_); refine goesL_ (some 156) rfl rfl Try.func17 (by kernel_rfl) rfl #[.agg #[.int .i64 a2_0, .int .i64 a2_1]] rfl (by (try simp only [List.map_toArray, List.map_cons, List.map_nil]); first | done | rfl | (simp only [List.length_drop, List.length_take]; rfl)) ?_; (with_reducible refine (deadboltref06_Draw.calls a2_0 a2_1 t141 t142 t143 _ A109.out).mono ?_); rintro e w159 ⟨rfl, hb⟩; refine ⟨_, rfl, ?_⟩; have n0_ := Aside0.mk (blk_below (g := gb117) (o := .cells #[.int .i64 a2_0, .int .i64 a2_1] 27 (0, 0)) (by (with_reducible repeat (first | refine blk_drewN ?_ _ | refine blk_drew ?_ | refine blk_alloc ?_ _)); exact BK117.out) hb); have n1_ := Aside0.mk (blk_below (g := gb124) (o := .cells #[.int .i64 t120, .int .i64 t121] 27 (0, 0)) (by (with_reducible repeat (first | refine blk_drewN ?_ _ | refine blk_drew ?_ | refine blk_alloc ?_ _)); exact BK124.out) hb); have n2_ := Aside0.mk (blk_below (g := gb130) (o := .cells #[.int .i64 t127, .int .i64 t128] 27 (0, 0)) (by (with_reducible repeat (first | refine blk_drewN ?_ _ | refine blk_drew ?_ | refine blk_alloc ?_ _)); exact BK130.out) hb); have n3_ := Aside0.mk (blk_below (g := gb133) (o := .cells #[.int .i64 0, .int .i64 0] 27 (0, 0)) (by (with_reducible repeat (first | refine blk_drewN ?_ _ | refine blk_drew ?_ | refine blk_alloc ?_ _)); exact BK133.out) hb); have n4_ := Aside0.mk (below_step (by repeat (first | (with_reducible first | exact HB.out | apply below_alloc | apply pw_below_drewN | apply below_drew1 | refine below_set ?_ GE117.out | refine below_set ?_ GE124.out | refine below_set ?_ GE130.out | refine below_set ?_ GE133.out) | exact HB.out)) hb); clear BK117; clear BK124; clear BK130; clear BK133; clear HB; have BK117 := n0_; have BK124 := n1_; have BK130 := n2_; have BK133 := n3_; have HB := n4_; clear n0_ n1_ n2_ n3_ n4_; (try clear hb); (try clear hb2); (try clear hk); (try clear hi)) | ((with_reducible refine gate_dst (N := 21) rfl ?_); refine box_event ?hg (N := 21) ?hd (cs := #[.int .i64 0, .int .i64 0]) (t := 27) ?hr ?_; (case hd => rfl); (case hg => rfl); (case hr => first | (go_simp; done) | (go_simp; rfl)); intro gb144 hg w160 hbox hb; have n0_ := Aside0.mk (blk_below (g := gb117) (o := .cells #[.int .i64 a2_0, .int .i64 a2_1] 27 (0, 0)) (by (with_reducible repeat (first | refine blk_drewN ?_ _ | refine blk_drew ?_ | refine blk_alloc ?_ _)); exact BK117.out) hb); have n1_ := Aside0.mk (blk_below (g := gb124) (o := .cells #[.int .i64 t120, .int .i64 t121] 27 (0, 0)) (by (with_reducible repeat (first | refine blk_drewN ?_ _ | refine blk_drew ?_ | refine blk_alloc ?_ _)); exact BK124.out) hb); have n2_ := Aside0.mk (blk_below (g := gb130) (o := .cells #[.int .i64 t127, .int .i64 t128] 27 (0, 0)) (by (with_reducible repeat (first | refine blk_drewN ?_ _ | refine blk_drew ?_ | refine blk_alloc ?_ _)); exact BK130.out) hb); have n3_ := Aside0.mk (blk_below (g := gb133) (o := .cells #[.int .i64 0, .int .i64 0] 27 (0, 0)) (by (with_reducible repeat (first | refine blk_drewN ?_ _ | refine blk_drew ?_ | refine blk_alloc ?_ _)); exact BK133.out) hb); have n4_ := Aside0.mk (below_step (by repeat (first | (with_reducible first | exact HB.out | apply below_alloc | apply pw_below_drewN | apply below_drew1 | refine below_set ?_ GE117.out | refine below_set ?_ GE124.out | refine below_set ?_ GE130.out | refine below_set ?_ GE133.out) | exact HB.out)) hb); have n5_ := Aside0.mk (hbox); have n6_ := Aside0.mk ((by rw [hg]; exact (below_size (by repeat (first | (with_reducible first | exact HB.out | apply below_alloc | apply pw_below_drewN | apply below_drew1 | refine below_set ?_ GE117.out | refine below_set ?_ GE124.out | refine below_set ?_ GE130.out | refine below_set ?_ GE133.out) | exact HB.out))) : w.heap.size ≤ gb144)); have n7_ := Aside0.mk ((by rw [hg]; exact (below_size (by repeat (first | (with_reducible first | exact HB.out | apply below_alloc | apply pw_below_drewN | apply below_drew1 | refine below_set ?_ GE117.out | refine below_set ?_ GE124.out | refine below_set ?_ GE130.out | refine below_set ?_ GE133.out) | exact HB.out))) : w.heap.size ≤ gb144)); have n8_ := Aside0.mk ((by rw [hg]; exact Nat.ne_of_lt (blk_lt (g := gb117) (o := .cells #[.int .i64 a2_0, .int .i64 a2_1] 27 (0, 0)) (by (with_reducible repeat (first | refine blk_drewN ?_ _ | refine blk_drew ?_ | refine blk_alloc ?_ _)); exact BK117.out)) : gb117 ≠ gb144)); have n9_ := Aside0.mk ((by rw [hg]; exact Nat.ne_of_gt (blk_lt (g := gb117) (o := .cells #[.int .i64 a2_0, .int .i64 a2_1] 27 (0, 0)) (by (with_reducible repeat (first | refine blk_drewN ?_ _ | refine blk_drew ?_ | refine blk_alloc ?_ _)); exact BK117.out)) : gb144 ≠ gb117)); have n10_ := Aside0.mk ((by rw [hg]; exact Nat.ne_of_lt (blk_lt (g := gb124) (o := .cells #[.int .i64 t120, .int .i64 t121] 27 (0, 0)) (by (with_reducible repeat (first | refine blk_drewN ?_ _ | refine blk_drew ?_ | refine blk_alloc ?_ _)); exact BK124.out)) : gb124 ≠ gb144)); have n11_ := Aside0.mk ((by rw [hg]; exact Nat.ne_of_gt (blk_lt (g := gb124) (o := .cells #[.int .i64 t120, .int .i64 t121] 27 (0, 0)) (by (with_reducible repeat (first | refine blk_drewN ?_ _ | refine blk_drew ?_ | refine blk_alloc ?_ _)); exact BK124.out)) : gb144 ≠ gb124)); have n12_ := Aside0.mk ((by rw [hg]; exact Nat.ne_of_lt (blk_lt (g := gb130) (o := .cells #[.int .i64 t127, .int .i64 t128] 27 (0, 0)) (by (with_reducible repeat (first | refine blk_drewN ?_ _ | refine blk_drew ?_ | refine blk_alloc ?_ _)); exact BK130.out)) : gb130 ≠ gb144)); have n13_ := Aside0.mk ((by rw [hg]; exact Nat.ne_of_gt (blk_lt (g := gb130) (o := .cells #[.int .i64 t127, .int .i64 t128] 27 (0, 0)) (by (with_reducible repeat (first | refine blk_drewN ?_ _ | refine blk_drew ?_ | refine blk_alloc ?_ _)); exact BK130.out)) : gb144 ≠ gb130)); have n14_ := Aside0.mk ((by rw [hg]; exact Nat.ne_of_lt (blk_lt (g := gb133) (o := .cells #[.int .i64 0, .int .i64 0] 27 (0, 0)) (by (with_reducible repeat (first | refine blk_drewN ?_ _ | refine blk_drew ?_ | refine blk_alloc ?_ _)); exact BK133.out)) : gb133 ≠ gb144)); have n15_ := Aside0.mk ((by rw [hg]; exact Nat.ne_of_gt (blk_lt (g := gb133) (o := .cells #[.int .i64 0, .int .i64 0] 27 (0, 0)) (by (with_reducible repeat (first | refine blk_drewN ?_ _ | refine blk_drew ?_ | refine blk_alloc ?_ _)); exact BK133.out)) : gb144 ≠ gb133)); clear BK117; clear BK124; clear BK130; clear BK133; clear HB; have BK117 := n0_; have BK124 := n1_; have BK130 := n2_; have BK133 := n3_; have HB := n4_; have BK144 := n5_; have GW144 := n6_; have GE144 := n7_; have NB117_144 := n8_; have NB144_117 := n9_; have NB124_144 := n10_; have NB144_124 := n11_; have NB130_144 := n12_; have NB144_130 := n13_; have NB133_144 := n14_; have NB144_133 := n15_; clear n0_ n1_ n2_ n3_ n4_ n5_ n6_ n7_ n8_ n9_ n10_ n11_ n12_ n13_ n14_ n15_; clear hb hbox hg; have hnb161 := NB144_117.out; have hnc161 := NB117_144.out; have hnb162 := NB144_124.out; have hnc162 := NB124_144.out; have hnb163 := NB144_130.out; have hnc163 := NB130_144.out; have hnb164 := NB144_133.out; have hnc164 := NB133_144.out; have hcz165_0 : w160.cell? ⟨gb144, 0, none⟩ = some (.int .i64 0) := (blk_cell BK144.out 0).trans rfl; have hcz165_1 : w160.cell? ⟨gb144, 1, none⟩ = some (.int .i64 0) := (blk_cell BK144.out 1).trans rfl; have hfz165_0 := blk_frozen BK144.out 0; have hfz165_1 := blk_frozen BK144.out 1))
                                go_ret
                                exact ⟨by first | rfl | (simp [errW_none, errW_some] <;> rfl) | (simp [*, errW_none, errW_some] <;> rfl), by repeat (first | (with_reducible first | exact HB.out | apply below_alloc | apply pw_below_drewN | apply below_drew1 | refine below_set ?_ GE117.out | refine below_set ?_ GE124.out | refine below_set ?_ GE130.out | refine below_set ?_ GE133.out | refine below_set ?_ GE144.out) | exact HB.out)⟩
                        case rest =>
                          clear HC78
                          try clear c1
                          try clear c2
                          try clear p2
                          try clear c3
                          try clear c4
                          try clear c5
                          try clear c6
                          try clear c7
                          try clear c8
                          try clear c9
                          try clear c10
                          try clear c11
                          try clear c12
                          try clear c13
                          try clear c14
                          try clear c15
                          try clear c16
                          try clear c17
                          try clear c22
                          try clear c23
                          try clear c28
                          try clear c29
                          try clear c30
                          try clear c34
                          try clear c34b0
                          try clear c34b1
                          try clear c34b2
                          try clear c45
                          try clear c47
                          try clear c47b0
                          try clear c49
                          try clear c50
                          try clear c50b0
                          try clear c50b1
                          try clear c51
                          try clear c52
                          try clear c52b0
                          try clear c52b1
                          try clear c54
                          try clear c54b0
                          try clear c54b1
                          try clear c54b2
                          try clear c56
                          try clear c58
                          try clear c59
                          try clear c60
                          try clear c63
                          try clear c63b0
                          try clear c63b1
                          try clear c64
                          try clear c64b0
                          try clear c64b1
                          try clear c65
                          try clear c65b0
                          try clear c65b1
                          try clear c65b2
                          try clear c66
                          try clear c67
                          try clear c68
                          try clear c71
                          try clear c72
                          try clear c73
                          try clear c76
                          try clear c79
                          try clear c80
                          try clear c81
                          try clear c84
                          try clear c84b0
                          try clear c84b1
                          try clear c85
                          try clear c85b0
                          try clear c85b1
                          try clear c86
                          try clear c86b0
                          try clear c87
                          try clear c88
                          try clear c89
                          try clear c91
                          try clear c92
                          try clear c94
                          try clear c94b0
                          try clear c94b1
                          try clear c95
                          try clear c96
                          try clear c97
                          try clear c99
                          try clear c100
                          try clear c102
                          try clear c103
                          try clear c104
                          try clear c106
                          try clear c107
                          try clear c110
                          try clear c110b0
                          try clear c110b1
                          try clear c111
                          try clear c111b0
                          try clear c112
                          try clear c113
                          try clear c114
                          try clear c118
                          try clear c119
                          try clear c120
                          try clear c121
                          try clear c123
                          try clear c124
                          try clear c126
                          try clear c126b0
                          try clear c126b1
                          try clear c127
                          try clear c128
                          try clear c129
                          try clear c133
                          try clear c134
                          try clear c135
                          try clear c136
                          try clear c138
                          try clear c139
                          try clear c141
                          try clear c142
                          try clear c143
                          try clear c147
                          try clear c148
                          try clear c149
                          try clear c150
                          try clear c152
                          try clear c153
                          try clear c155
                          try clear c156
                          try clear c157
                          try clear c161
                          try clear c162
                          try clear c163
                          try clear c164
                          try clear hcz101_0
                          try clear hcz101_1
                          try clear hcz105_0
                          try clear hcz105_1
                          try clear hcz108_0
                          try clear hcz108_1
                          try clear hcz115_0
                          try clear hcz115_1
                          try clear hcz122_0
                          try clear hcz122_1
                          try clear hcz125_0
                          try clear hcz125_1
                          try clear hcz12_0
                          try clear hcz12_1
                          try clear hcz130_0
                          try clear hcz130_1
                          try clear hcz137_0
                          try clear hcz137_1
                          try clear hcz140_0
                          try clear hcz140_1
                          try clear hcz144_0
                          try clear hcz144_1
                          try clear hcz151_0
                          try clear hcz151_1
                          try clear hcz154_0
                          try clear hcz154_1
                          try clear hcz158_0
                          try clear hcz158_1
                          try clear hcz165_0
                          try clear hcz165_1
                          try clear hcz16_0
                          try clear hcz16_1
                          try clear hcz17_0
                          try clear hcz17_1
                          try clear hcz19_0
                          try clear hcz19_1
                          try clear hcz24_0
                          try clear hcz24_1
                          try clear hcz25_0
                          try clear hcz25_1
                          try clear hcz31_0
                          try clear hcz31_1
                          try clear hcz61_0
                          try clear hcz61_1
                          try clear hcz69_0
                          try clear hcz69_1
                          try clear hcz74_0
                          try clear hcz74_1
                          try clear hcz82_0
                          try clear hcz82_1
                          try clear hcz90_0
                          try clear hcz90_1
                          try clear hcz93_0
                          try clear hcz93_1
                          try clear hcz98_0
                          try clear hcz98_1
                          try clear hfz101_0
                          try clear hfz101_1
                          try clear hfz105_0
                          try clear hfz105_1
                          try clear hfz108_0
                          try clear hfz108_1
                          try clear hfz115_0
                          try clear hfz115_1
                          try clear hfz122_0
                          try clear hfz122_1
                          try clear hfz125_0
                          try clear hfz125_1
                          try clear hfz12_0
                          try clear hfz12_1
                          try clear hfz130_0
                          try clear hfz130_1
                          try clear hfz137_0
                          try clear hfz137_1
                          try clear hfz140_0
                          try clear hfz140_1
                          try clear hfz144_0
                          try clear hfz144_1
                          try clear hfz151_0
                          try clear hfz151_1
                          try clear hfz154_0
                          try clear hfz154_1
                          try clear hfz158_0
                          try clear hfz158_1
                          try clear hfz165_0
                          try clear hfz165_1
                          try clear hfz16_0
                          try clear hfz16_1
                          try clear hfz17_0
                          try clear hfz17_1
                          try clear hfz19_0
                          try clear hfz19_1
                          try clear hfz24_0
                          try clear hfz24_1
                          try clear hfz25_0
                          try clear hfz25_1
                          try clear hfz31_0
                          try clear hfz31_1
                          try clear hfz61_0
                          try clear hfz61_1
                          try clear hfz69_0
                          try clear hfz69_1
                          try clear hfz74_0
                          try clear hfz74_1
                          try clear hfz82_0
                          try clear hfz82_1
                          try clear hfz90_0
                          try clear hfz90_1
                          try clear hfz93_0
                          try clear hfz93_1
                          try clear hfz98_0
                          try clear hfz98_1
                          try clear p2
                          obtain ⟨kq, HA, HJ77, BK117, BK124, BK130, BK133, HB⟩ := hcut
                          cases kq with
                          | zero => exact absurd HA.out (by simp [deadboltlaw06_SpinTells.j4])
                          | succ kj77 =>
                            have H := HA.out
                            clear HA
                            simp only [deadboltlaw06_SpinTells.j4] at H
                            replace H := Option.bind_eq_some_iff.mp H
                            obtain ⟨t145, A1660, H⟩ := H
                            replace H : (if t145 = 0 then (if t129 = 6 then (some (t127 == 0 && (t128 == 0))) else (some false)) else (if t129 = 0 then ((deadboltref06_Done.f a2_0 a2_1).bind fun bt146 => (some (t127 == bt146.1 && (t128 == bt146.2)))) else (some false))) = some r := H
                            have A166 := Aside0.mk A1660
                            clear A1660
                            by_cases c167 : t145 = 0
                            · rw [if_pos c167] at H
                              have c167b0 : (t145 == 0) = true := beq_iff_eq.mpr c167
                              have c167b1 : (t145 != 0) = false := bne_eq_false_iff_eq.mpr c167
                              clear c167
                              by_cases c168 : t129 = 6
                              · rw [if_pos c168] at H
                                have c168b0 : (t129 == 6) = true := beq_iff_eq.mpr c168
                                have c168b1 : (t129 != 6) = false := bne_eq_false_iff_eq.mpr c168
                                clear c168
                                as_aux_lemma =>
                                  obtain rfl := Option.some.inj H
                                  have hnb169 := NB117_124.out
                                  have hnc169 := NB124_117.out
                                  have hnb170 := NB117_130.out
                                  have hnc170 := NB130_117.out
                                  have hnb171 := NB117_133.out
                                  have hnc171 := NB133_117.out
                                  have hcz172_0 : wc.cell? ⟨gb117, 0, none⟩ = some (.int .i64 a2_0) := (blk_cell BK117.out 0).trans rfl
                                  have hcz172_1 : wc.cell? ⟨gb117, 1, none⟩ = some (.int .i64 a2_1) := (blk_cell BK117.out 1).trans rfl
                                  have hfz172_0 := blk_frozen BK117.out 0
                                  have hfz172_1 := blk_frozen BK117.out 1
                                  go_wp2_with (first | ((with_reducible refine gate_callee (f := 16) rfl ?_); refine goesL_ (some 172) rfl rfl Try.func16 (by kernel_rfl) rfl #[.agg #[.int .i64 a2_0, .int .i64 a2_1]] rfl (by (try simp only [List.map_toArray, List.map_cons, List.map_nil]); first | done | rfl | (simp only [List.length_drop, List.length_take]; rfl)) ?_; (with_reducible refine (deadboltref06_Out.calls a2_0 a2_1 t145 _ A166.out).mono ?_); rintro e w173 ⟨rfl, hb⟩; refine ⟨_, rfl, ?_⟩; have n0_ := Aside0.mk (blk_below (g := gb117) (o := .cells #[.int .i64 a2_0, .int .i64 a2_1] 27 (0, 0)) (by (with_reducible repeat (first | refine blk_drewN ?_ _ | refine blk_drew ?_ | refine blk_alloc ?_ _)); exact BK117.out) hb); have n1_ := Aside0.mk (blk_below (g := gb124) (o := .cells #[.int .i64 t120, .int .i64 t121] 27 (0, 0)) (by (with_reducible repeat (first | refine blk_drewN ?_ _ | refine blk_drew ?_ | refine blk_alloc ?_ _)); exact BK124.out) hb); have n2_ := Aside0.mk (blk_below (g := gb130) (o := .cells #[.int .i64 t127, .int .i64 t128] 27 (0, 0)) (by (with_reducible repeat (first | refine blk_drewN ?_ _ | refine blk_drew ?_ | refine blk_alloc ?_ _)); exact BK130.out) hb); have n3_ := Aside0.mk (blk_below (g := gb133) (o := .cells #[.int .i64 0, .int .i64 0] 27 (0, 0)) (by (with_reducible repeat (first | refine blk_drewN ?_ _ | refine blk_drew ?_ | refine blk_alloc ?_ _)); exact BK133.out) hb); have n4_ := Aside0.mk (below_step (by repeat (first | (with_reducible first | exact HB.out | apply below_alloc | apply pw_below_drewN | apply below_drew1 | refine below_set ?_ GE117.out | refine below_set ?_ GE124.out | refine below_set ?_ GE130.out | refine below_set ?_ GE133.out) | exact HB.out)) hb); clear BK117; clear BK124; clear BK130; clear BK133; clear HB; have BK117 := n0_; have BK124 := n1_; have BK130 := n2_; have BK133 := n3_; have HB := n4_; clear n0_ n1_ n2_ n3_ n4_; (try clear hb); (try clear hb2); (try clear hk); (try clear hi); have hnb174 := NB130_124.out; have hnc174 := NB124_130.out; have hnb175 := NB130_133.out; have hnc175 := NB133_130.out; have hcz176_0 : w173.cell? ⟨gb130, 0, none⟩ = some (.int .i64 t127) := (blk_cell BK130.out 0).trans rfl; have hcz176_1 : w173.cell? ⟨gb130, 1, none⟩ = some (.int .i64 t128) := (blk_cell BK130.out 1).trans rfl; have hfz176_0 := blk_frozen BK130.out 0; have hfz176_1 := blk_frozen BK130.out 1; have hnb177 := NB133_124.out; have hnc177 := NB124_133.out; have hcz178_0 : w173.cell? ⟨gb133, 0, none⟩ = some (.int .i64 0) := (blk_cell BK133.out 0).trans rfl; have hcz178_1 : w173.cell? ⟨gb133, 1, none⟩ = some (.int .i64 0) := (blk_cell BK133.out 1).trans rfl; have hfz178_0 := blk_frozen BK133.out 0; have hfz178_1 := blk_frozen BK133.out 1))
                                  go_ret
                                  exact ⟨by first | rfl | (simp [errW_none, errW_some] <;> rfl) | (simp [*, errW_none, errW_some] <;> rfl), by repeat (first | (with_reducible first | exact HB.out | apply below_alloc | apply pw_below_drewN | apply below_drew1 | refine below_set ?_ GE117.out | refine below_set ?_ GE124.out | refine below_set ?_ GE130.out | refine below_set ?_ GE133.out) | exact HB.out)⟩
                              · rw [if_neg c168] at H
                                have c168b0 : (t129 == 6) = false := beq_eq_false_iff_ne.mpr c168
                                have c168b1 : (t129 != 6) = true := bne_iff_ne.mpr c168
                                as_aux_lemma =>
                                  obtain rfl := Option.some.inj H
                                  have hnb179 := NB117_124.out
                                  have hnc179 := NB124_117.out
                                  have hnb180 := NB117_130.out
                                  have hnc180 := NB130_117.out
                                  have hnb181 := NB117_133.out
                                  have hnc181 := NB133_117.out
                                  have hcz182_0 : wc.cell? ⟨gb117, 0, none⟩ = some (.int .i64 a2_0) := (blk_cell BK117.out 0).trans rfl
                                  have hcz182_1 : wc.cell? ⟨gb117, 1, none⟩ = some (.int .i64 a2_1) := (blk_cell BK117.out 1).trans rfl
                                  have hfz182_0 := blk_frozen BK117.out 0
                                  have hfz182_1 := blk_frozen BK117.out 1
                                  go_wp2_with (first | ((with_reducible refine gate_callee (f := 16) rfl ?_); refine goesL_ (some 172) rfl rfl Try.func16 (by kernel_rfl) rfl #[.agg #[.int .i64 a2_0, .int .i64 a2_1]] rfl (by (try simp only [List.map_toArray, List.map_cons, List.map_nil]); first | done | rfl | (simp only [List.length_drop, List.length_take]; rfl)) ?_; (with_reducible refine (deadboltref06_Out.calls a2_0 a2_1 t145 _ A166.out).mono ?_); rintro e w183 ⟨rfl, hb⟩; refine ⟨_, rfl, ?_⟩; have n0_ := Aside0.mk (blk_below (g := gb117) (o := .cells #[.int .i64 a2_0, .int .i64 a2_1] 27 (0, 0)) (by (with_reducible repeat (first | refine blk_drewN ?_ _ | refine blk_drew ?_ | refine blk_alloc ?_ _)); exact BK117.out) hb); have n1_ := Aside0.mk (blk_below (g := gb124) (o := .cells #[.int .i64 t120, .int .i64 t121] 27 (0, 0)) (by (with_reducible repeat (first | refine blk_drewN ?_ _ | refine blk_drew ?_ | refine blk_alloc ?_ _)); exact BK124.out) hb); have n2_ := Aside0.mk (blk_below (g := gb130) (o := .cells #[.int .i64 t127, .int .i64 t128] 27 (0, 0)) (by (with_reducible repeat (first | refine blk_drewN ?_ _ | refine blk_drew ?_ | refine blk_alloc ?_ _)); exact BK130.out) hb); have n3_ := Aside0.mk (blk_below (g := gb133) (o := .cells #[.int .i64 0, .int .i64 0] 27 (0, 0)) (by (with_reducible repeat (first | refine blk_drewN ?_ _ | refine blk_drew ?_ | refine blk_alloc ?_ _)); exact BK133.out) hb); have n4_ := Aside0.mk (below_step (by repeat (first | (with_reducible first | exact HB.out | apply below_alloc | apply pw_below_drewN | apply below_drew1 | refine below_set ?_ GE117.out | refine below_set ?_ GE124.out | refine below_set ?_ GE130.out | refine below_set ?_ GE133.out) | exact HB.out)) hb); clear BK117; clear BK124; clear BK130; clear BK133; clear HB; have BK117 := n0_; have BK124 := n1_; have BK130 := n2_; have BK133 := n3_; have HB := n4_; clear n0_ n1_ n2_ n3_ n4_; (try clear hb); (try clear hb2); (try clear hk); (try clear hi)))
                                  go_ret
                                  exact ⟨by first | rfl | (simp [errW_none, errW_some] <;> rfl) | (simp [*, errW_none, errW_some] <;> rfl), by repeat (first | (with_reducible first | exact HB.out | apply below_alloc | apply pw_below_drewN | apply below_drew1 | refine below_set ?_ GE117.out | refine below_set ?_ GE124.out | refine below_set ?_ GE130.out | refine below_set ?_ GE133.out) | exact HB.out)⟩
                            · rw [if_neg c167] at H
                              have c167b0 : (t145 == 0) = false := beq_eq_false_iff_ne.mpr c167
                              have c167b1 : (t145 != 0) = true := bne_iff_ne.mpr c167
                              by_cases c184 : t129 = 0
                              · rw [if_pos c184] at H
                                have c184b0 : (t129 == 0) = true := beq_iff_eq.mpr c184
                                have c184b1 : (t129 != 0) = false := bne_eq_false_iff_eq.mpr c184
                                clear c184
                                replace H := Option.bind_eq_some_iff.mp H
                                obtain ⟨⟨t146, t147⟩, A1850, H⟩ := H
                                replace H : (some (t127 == t146 && (t128 == t147))) = some r := H
                                have A185 := Aside0.mk A1850
                                clear A1850
                                as_aux_lemma =>
                                  obtain rfl := Option.some.inj H
                                  have hnb186 := NB117_124.out
                                  have hnc186 := NB124_117.out
                                  have hnb187 := NB117_130.out
                                  have hnc187 := NB130_117.out
                                  have hnb188 := NB117_133.out
                                  have hnc188 := NB133_117.out
                                  have hcz189_0 : wc.cell? ⟨gb117, 0, none⟩ = some (.int .i64 a2_0) := (blk_cell BK117.out 0).trans rfl
                                  have hcz189_1 : wc.cell? ⟨gb117, 1, none⟩ = some (.int .i64 a2_1) := (blk_cell BK117.out 1).trans rfl
                                  have hfz189_0 := blk_frozen BK117.out 0
                                  have hfz189_1 := blk_frozen BK117.out 1
                                  try go_wp2_with (first | ((with_reducible refine gate_callee (f := 16) rfl ?_); refine goesL_ (some 172) rfl rfl Try.func16 (by kernel_rfl) rfl #[.agg #[.int .i64 a2_0, .int .i64 a2_1]] rfl (by (try simp only [List.map_toArray, List.map_cons, List.map_nil]); first | done | rfl | (simp only [List.length_drop, List.length_take]; rfl)) ?_; (with_reducible refine (deadboltref06_Out.calls a2_0 a2_1 t145 _ A166.out).mono ?_); rintro e w190 ⟨rfl, hb⟩; refine ⟨_, rfl, ?_⟩; have n0_ := Aside0.mk (blk_below (g := gb117) (o := .cells #[.int .i64 a2_0, .int .i64 a2_1] 27 (0, 0)) (by (with_reducible repeat (first | refine blk_drewN ?_ _ | refine blk_drew ?_ | refine blk_alloc ?_ _)); exact BK117.out) hb); have n1_ := Aside0.mk (blk_below (g := gb124) (o := .cells #[.int .i64 t120, .int .i64 t121] 27 (0, 0)) (by (with_reducible repeat (first | refine blk_drewN ?_ _ | refine blk_drew ?_ | refine blk_alloc ?_ _)); exact BK124.out) hb); have n2_ := Aside0.mk (blk_below (g := gb130) (o := .cells #[.int .i64 t127, .int .i64 t128] 27 (0, 0)) (by (with_reducible repeat (first | refine blk_drewN ?_ _ | refine blk_drew ?_ | refine blk_alloc ?_ _)); exact BK130.out) hb); have n3_ := Aside0.mk (blk_below (g := gb133) (o := .cells #[.int .i64 0, .int .i64 0] 27 (0, 0)) (by (with_reducible repeat (first | refine blk_drewN ?_ _ | refine blk_drew ?_ | refine blk_alloc ?_ _)); exact BK133.out) hb); have n4_ := Aside0.mk (below_step (by repeat (first | (with_reducible first | exact HB.out | apply below_alloc | apply pw_below_drewN | apply below_drew1 | refine below_set ?_ GE117.out | refine below_set ?_ GE124.out | refine below_set ?_ GE130.out | refine below_set ?_ GE133.out) | exact HB.out)) hb); clear BK117; clear BK124; clear BK130; clear BK133; clear HB; have BK117 := n0_; have BK124 := n1_; have BK130 := n2_; have BK133 := n3_; have HB := n4_; clear n0_ n1_ n2_ n3_ n4_; (try clear hb); (try clear hb2); (try clear hk); (try clear hi)))
                                  have n0_ := Aside0.mk (blk_drew BK117.out)
                                  have n1_ := Aside0.mk (blk_drew BK124.out)
                                  have n2_ := Aside0.mk (blk_drew BK130.out)
                                  have n3_ := Aside0.mk (blk_drew BK133.out)
                                  have n4_ := Aside0.mk (below_drew1 HB.out)
                                  clear BK117
                                  clear BK124
                                  clear BK130
                                  clear BK133
                                  clear HB
                                  have BK117 := n0_
                                  have BK124 := n1_
                                  have BK130 := n2_
                                  have BK133 := n3_
                                  have HB := n4_
                                  clear n0_ n1_ n2_ n3_ n4_
                                  refine start_ (n := 9) (S := fun w' => w'.cell? ⟨gb130, 0, none⟩ = some (.int .i64 t127) ∧ w'.cell? ⟨gb130, 1, none⟩ = some (.int .i64 t128) ∧ w'.cell? ⟨gb117, 0, none⟩ = some (.int .i64 a2_0) ∧ w'.cell? ⟨gb117, 1, none⟩ = some (.int .i64 a2_1)) (ds := []) #[false, false, false, false, false, false, false, false, false] (by kernel_rfl) rfl rfl ⟨(blk_cell BK130.out 0).trans rfl, (blk_cell BK130.out 1).trans rfl, (blk_cell BK117.out 0).trans rfl, (blk_cell BK117.out 1).trans rfl⟩ (fun hHeld => ?_); refine with_tabW deadboltlaw06_SpinTells.tab26 deadboltlaw06_SpinTells.bits26 (fun HT_ HW_ => ?_)
                                  generalize w190.drew = w191 at BK117 BK124 BK130 BK133 HB hHeld ⊢
                                  refine pure_ (i := 0) (N := some 181) (v := ?_) (a' := ?_) #[true, false, false, false, false, false, false, false, false] rfl rfl (any_of HT_.out (by kernel_rfl)) (fun _ _ _ h => h) (Or.inl ⟨by rfl, ?_⟩) ?_ ?_
                                  rotate_left
                                  · intro w'
                                    go_simp
                                    with_reducible rfl
                                  rotate_left
                                  · simp only [Act.put, List.setIfInBounds_toArray, List.set_cons_zero, List.set_cons_succ, i64_w, i32_w]
                                    rfl
                                  refine pure_ (i := 1) (N := some 182) (v := ?_) (a' := ?_) #[true, true, false, false, false, false, false, false, false] rfl rfl (any_of HT_.out (by kernel_rfl)) (fun _ _ _ h => h) (Or.inl ⟨by rfl, ?_⟩) ?_ ?_
                                  rotate_left
                                  · intro w'
                                    go_simp
                                    with_reducible rfl
                                  rotate_left
                                  · simp only [Act.put, List.setIfInBounds_toArray, List.set_cons_zero, List.set_cons_succ, i64_w, i32_w]
                                    rfl
                                  refine pure_ (i := 2) (N := some 183) (v := ?_) (a' := ?_) #[true, true, true, false, false, false, false, false, false] rfl rfl (any_of HT_.out (by kernel_rfl)) (fun _ _ _ h => h) (Or.inl ⟨by rfl, ?_⟩) ?_ ?_
                                  rotate_left
                                  · intro w'
                                    go_simp
                                    with_reducible rfl
                                  rotate_left
                                  · simp only [Act.put, List.setIfInBounds_toArray, List.set_cons_zero, List.set_cons_succ, i64_w, i32_w]
                                    rfl
                                  refine take_ (i := 3) (N := some 184) (v := ?_) (a' := ?_) #[true, true, true, true, false, false, false, false, false] rfl rfl (take_ofW HT_.out HW_.out (by kernel_rfl)) (fun _ _ _ h => h) (Or.inl ⟨by rfl, ?_⟩) hHeld ?_ ?_
                                  rotate_left
                                  · rintro w' ⟨s0, s1, s2, s3⟩
                                    go_simp
                                    with_reducible rfl
                                  rotate_left
                                  · simp only [Act.put, List.setIfInBounds_toArray, List.set_cons_zero, List.set_cons_succ, i64_w, i32_w]
                                    rfl
                                  refine take_ (i := 4) (N := some 185) (v := ?_) (a' := ?_) #[true, true, true, true, true, false, false, false, false] rfl rfl (take_ofW HT_.out HW_.out (by kernel_rfl)) (fun _ _ _ h => h) (Or.inl ⟨by rfl, ?_⟩) hHeld ?_ ?_
                                  rotate_left
                                  · rintro w' ⟨s0, s1, s2, s3⟩
                                    go_simp
                                    with_reducible rfl
                                  rotate_left
                                  · simp only [Act.put, List.setIfInBounds_toArray, List.set_cons_zero, List.set_cons_succ, i64_w, i32_w]
                                    rfl
                                  refine one_ (i := 5) (N := some 186) #[true, true, true, true, true, true, false, false, false] rfl rfl (one_of HT_.out (by kernel_rfl)) (by decide) (fun K hK => ?_)
                                  refine goes_ Try.func18 (by kernel_rfl) rfl #[.agg #[.int .i64 a2_0, .int .i64 a2_1]] (by rfl) rfl rfl (by (try simp only [List.map_toArray, List.map_cons, List.map_nil]); first | done | rfl | (simp only [List.length_drop, List.length_take]; rfl)) ?_
                                  with_reducible refine (deadboltref06_Done.calls a2_0 a2_1 t146 t147 _ A185.out).mono ?_
                                  rintro e w192 ⟨rfl, hb⟩
                                  refine ⟨_, rfl, ?_⟩
                                  have n0_ := Aside0.mk (blk_below (g := gb117) (o := .cells #[.int .i64 a2_0, .int .i64 a2_1] 27 (0, 0)) (by (with_reducible repeat (first | refine blk_drewN ?_ _ | refine blk_drew ?_ | refine blk_alloc ?_ _)); exact BK117.out) hb)
                                  have n1_ := Aside0.mk (blk_below (g := gb124) (o := .cells #[.int .i64 t120, .int .i64 t121] 27 (0, 0)) (by (with_reducible repeat (first | refine blk_drewN ?_ _ | refine blk_drew ?_ | refine blk_alloc ?_ _)); exact BK124.out) hb)
                                  have n2_ := Aside0.mk (blk_below (g := gb130) (o := .cells #[.int .i64 t127, .int .i64 t128] 27 (0, 0)) (by (with_reducible repeat (first | refine blk_drewN ?_ _ | refine blk_drew ?_ | refine blk_alloc ?_ _)); exact BK130.out) hb)
                                  have n3_ := Aside0.mk (blk_below (g := gb133) (o := .cells #[.int .i64 0, .int .i64 0] 27 (0, 0)) (by (with_reducible repeat (first | refine blk_drewN ?_ _ | refine blk_drew ?_ | refine blk_alloc ?_ _)); exact BK133.out) hb)
                                  have n4_ := Aside0.mk (below_step (by repeat (first | (with_reducible first | exact HB.out | apply below_alloc | apply pw_below_drewN | apply below_drew1 | refine below_set ?_ GE117.out | refine below_set ?_ GE124.out | refine below_set ?_ GE130.out | refine below_set ?_ GE133.out) | exact HB.out)) hb)
                                  clear BK117
                                  clear BK124
                                  clear BK130
                                  clear BK133
                                  clear HB
                                  have BK117 := n0_
                                  have BK124 := n1_
                                  have BK130 := n2_
                                  have BK133 := n3_
                                  have HB := n4_
                                  clear n0_ n1_ n2_ n3_ n4_
                                  (try clear hb)
                                  (try clear hb2)
                                  (try clear hk)
                                  (try clear hi)
                                  refine hK.out _ _ ⟨(blk_cell BK130.out 0).trans rfl, (blk_cell BK130.out 1).trans rfl, (blk_cell BK117.out 0).trans rfl, (blk_cell BK117.out 1).trans rfl⟩ (fun hHeld => ?_)
                                  clear hK K
                                  refine norm_ (a' := ?_) ?_ ?_
                                  rotate_left
                                  · show Act.put _ (some 186) _ = _
                                    simp only [Act.put, List.setIfInBounds_toArray, List.set_cons_zero, List.set_cons_succ, i64_w, i32_w]
                                    rfl
                                  refine pure_ (i := 6) (N := some 187) (v := ?_) (a' := ?_) #[true, true, true, true, true, true, true, false, false] rfl rfl (any_of HT_.out (by kernel_rfl)) (fun _ _ _ h => h) (Or.inl ⟨by rfl, ?_⟩) ?_ ?_
                                  rotate_left
                                  · intro w'
                                    go_simp
                                    with_reducible rfl
                                  rotate_left
                                  · simp only [Act.put, List.setIfInBounds_toArray, List.set_cons_zero, List.set_cons_succ, i64_w, i32_w]
                                    rfl
                                  refine pure_ (i := 7) (N := some 188) (v := ?_) (a' := ?_) #[true, true, true, true, true, true, true, true, false] rfl rfl (any_of HT_.out (by kernel_rfl)) (fun _ _ _ h => h) (Or.inl ⟨by rfl, ?_⟩) ?_ ?_
                                  rotate_left
                                  · intro w'
                                    go_simp
                                    with_reducible rfl
                                  rotate_left
                                  · simp only [Act.put, List.setIfInBounds_toArray, List.set_cons_zero, List.set_cons_succ, i64_w, i32_w]
                                    rfl
                                  refine pure_ (i := 8) (N := some 8) (v := ?_) (a' := ?_) #[true, true, true, true, true, true, true, true, true] rfl rfl (any_of HT_.out (by kernel_rfl)) (fun _ _ _ h => h) (Or.inl ⟨by rfl, ?_⟩) ?_ ?_
                                  rotate_left
                                  · intro w'
                                    go_simp
                                    with_reducible rfl
                                  rotate_left
                                  · simp only [Act.put, List.setIfInBounds_toArray, List.set_cons_zero, List.set_cons_succ, i64_w, i32_w]
                                    rfl
                                  refine done_ (done_of HT_.out (by kernel_rfl)) ?_
                                  try go_wp2
                                  go_ret
                                  exact ⟨by first | rfl | (simp [errW_none, errW_some] <;> rfl) | (simp [*, errW_none, errW_some] <;> rfl), by repeat (first | (with_reducible first | exact HB.out | apply below_alloc | apply pw_below_drewN | apply below_drew1 | refine below_set ?_ GE117.out | refine below_set ?_ GE124.out | refine below_set ?_ GE130.out | refine below_set ?_ GE133.out) | exact HB.out)⟩
                              · rw [if_neg c184] at H
                                have c184b0 : (t129 == 0) = false := beq_eq_false_iff_ne.mpr c184
                                have c184b1 : (t129 != 0) = true := bne_iff_ne.mpr c184
                                as_aux_lemma =>
                                  obtain rfl := Option.some.inj H
                                  have hnb193 := NB117_124.out
                                  have hnc193 := NB124_117.out
                                  have hnb194 := NB117_130.out
                                  have hnc194 := NB130_117.out
                                  have hnb195 := NB117_133.out
                                  have hnc195 := NB133_117.out
                                  have hcz196_0 : wc.cell? ⟨gb117, 0, none⟩ = some (.int .i64 a2_0) := (blk_cell BK117.out 0).trans rfl
                                  have hcz196_1 : wc.cell? ⟨gb117, 1, none⟩ = some (.int .i64 a2_1) := (blk_cell BK117.out 1).trans rfl
                                  have hfz196_0 := blk_frozen BK117.out 0
                                  have hfz196_1 := blk_frozen BK117.out 1
                                  try go_wp2_with (first | ((with_reducible refine gate_callee (f := 16) rfl ?_); refine goesL_ (some 172) rfl rfl Try.func16 (by kernel_rfl) rfl #[.agg #[.int .i64 a2_0, .int .i64 a2_1]] rfl (by (try simp only [List.map_toArray, List.map_cons, List.map_nil]); first | done | rfl | (simp only [List.length_drop, List.length_take]; rfl)) ?_; (with_reducible refine (deadboltref06_Out.calls a2_0 a2_1 t145 _ A166.out).mono ?_); rintro e w197 ⟨rfl, hb⟩; refine ⟨_, rfl, ?_⟩; have n0_ := Aside0.mk (blk_below (g := gb117) (o := .cells #[.int .i64 a2_0, .int .i64 a2_1] 27 (0, 0)) (by (with_reducible repeat (first | refine blk_drewN ?_ _ | refine blk_drew ?_ | refine blk_alloc ?_ _)); exact BK117.out) hb); have n1_ := Aside0.mk (blk_below (g := gb124) (o := .cells #[.int .i64 t120, .int .i64 t121] 27 (0, 0)) (by (with_reducible repeat (first | refine blk_drewN ?_ _ | refine blk_drew ?_ | refine blk_alloc ?_ _)); exact BK124.out) hb); have n2_ := Aside0.mk (blk_below (g := gb130) (o := .cells #[.int .i64 t127, .int .i64 t128] 27 (0, 0)) (by (with_reducible repeat (first | refine blk_drewN ?_ _ | refine blk_drew ?_ | refine blk_alloc ?_ _)); exact BK130.out) hb); have n3_ := Aside0.mk (blk_below (g := gb133) (o := .cells #[.int .i64 0, .int .i64 0] 27 (0, 0)) (by (with_reducible repeat (first | refine blk_drewN ?_ _ | refine blk_drew ?_ | refine blk_alloc ?_ _)); exact BK133.out) hb); have n4_ := Aside0.mk (below_step (by repeat (first | (with_reducible first | exact HB.out | apply below_alloc | apply pw_below_drewN | apply below_drew1 | refine below_set ?_ GE117.out | refine below_set ?_ GE124.out | refine below_set ?_ GE130.out | refine below_set ?_ GE133.out) | exact HB.out)) hb); clear BK117; clear BK124; clear BK130; clear BK133; clear HB; have BK117 := n0_; have BK124 := n1_; have BK130 := n2_; have BK133 := n3_; have HB := n4_; clear n0_ n1_ n2_ n3_ n4_; (try clear hb); (try clear hb2); (try clear hk); (try clear hi)))
                                  have n0_ := Aside0.mk (blk_drew BK117.out)
                                  have n1_ := Aside0.mk (blk_drew BK124.out)
                                  have n2_ := Aside0.mk (blk_drew BK130.out)
                                  have n3_ := Aside0.mk (blk_drew BK133.out)
                                  have n4_ := Aside0.mk (below_drew1 HB.out)
                                  clear BK117
                                  clear BK124
                                  clear BK130
                                  clear BK133
                                  clear HB
                                  have BK117 := n0_
                                  have BK124 := n1_
                                  have BK130 := n2_
                                  have BK133 := n3_
                                  have HB := n4_
                                  clear n0_ n1_ n2_ n3_ n4_
                                  refine start_ (n := 9) (S := fun w' => True) (ds := []) #[false, false, false, false, false, false, false, false, false] (by kernel_rfl) rfl rfl trivial (fun hHeld => ?_); refine with_tabW deadboltlaw06_SpinTells.tab26 deadboltlaw06_SpinTells.bits26 (fun HT_ HW_ => ?_)
                                  generalize w197.drew = w198 at BK117 BK124 BK130 BK133 HB hHeld ⊢
                                  refine pure_ (i := 0) (N := some 181) (v := ?_) (a' := ?_) #[true, false, false, false, false, false, false, false, false] rfl rfl (any_of HT_.out (by kernel_rfl)) (fun _ _ _ h => h) (Or.inl ⟨by rfl, ?_⟩) ?_ ?_
                                  rotate_left
                                  · intro w'
                                    go_simp
                                    with_reducible rfl
                                  rotate_left
                                  · simp only [Act.put, List.setIfInBounds_toArray, List.set_cons_zero, List.set_cons_succ, i64_w, i32_w]
                                    rfl
                                  refine pure_ (i := 1) (N := some 182) (v := ?_) (a' := ?_) #[true, true, false, false, false, false, false, false, false] rfl rfl (any_of HT_.out (by kernel_rfl)) (fun _ _ _ h => h) (Or.inl ⟨by rfl, ?_⟩) ?_ ?_
                                  rotate_left
                                  · intro w'
                                    go_simp
                                    with_reducible rfl
                                  rotate_left
                                  · simp only [Act.put, List.setIfInBounds_toArray, List.set_cons_zero, List.set_cons_succ, i64_w, i32_w]
                                    rfl
                                  refine pure_ (i := 2) (N := some 183) (v := ?_) (a' := ?_) #[true, true, true, false, false, false, false, false, false] rfl rfl (any_of HT_.out (by kernel_rfl)) (fun _ _ _ h => h) (Or.inl ⟨by rfl, ?_⟩) ?_ ?_
                                  rotate_left
                                  · intro w'
                                    go_simp
                                    with_reducible rfl
                                  rotate_left
                                  · simp only [Act.put, List.setIfInBounds_toArray, List.set_cons_zero, List.set_cons_succ, i64_w, i32_w]
                                    rfl
                                  refine pure_ (i := 3) (N := some 184) (v := undef) (a' := ?_) #[true, true, true, true, false, false, false, false, false] rfl rfl (any_of HT_.out (by kernel_rfl)) (fun _ _ _ h => h) (Or.inr ⟨by rfl, rfl⟩) ?_ ?_
                                  rotate_left
                                  · simp only [Act.put, List.setIfInBounds_toArray, List.set_cons_zero, List.set_cons_succ, i64_w, i32_w]
                                    rfl
                                  refine pure_ (i := 4) (N := some 185) (v := undef) (a' := ?_) #[true, true, true, true, true, false, false, false, false] rfl rfl (any_of HT_.out (by kernel_rfl)) (fun _ _ _ h => h) (Or.inr ⟨by rfl, rfl⟩) ?_ ?_
                                  rotate_left
                                  · simp only [Act.put, List.setIfInBounds_toArray, List.set_cons_zero, List.set_cons_succ, i64_w, i32_w]
                                    rfl
                                  refine pure_ (i := 5) (N := some 186) (v := undef) (a' := ?_) #[true, true, true, true, true, true, false, false, false] rfl rfl (any_of HT_.out (by kernel_rfl)) (fun _ _ _ h => h) (Or.inr ⟨by rfl, rfl⟩) ?_ ?_
                                  rotate_left
                                  · simp only [Act.put, List.setIfInBounds_toArray, List.set_cons_zero, List.set_cons_succ, i64_w, i32_w]
                                    rfl
                                  refine pure_ (i := 6) (N := some 187) (v := undef) (a' := ?_) #[true, true, true, true, true, true, true, false, false] rfl rfl (any_of HT_.out (by kernel_rfl)) (fun _ _ _ h => h) (Or.inr ⟨by rfl, rfl⟩) ?_ ?_
                                  rotate_left
                                  · simp only [Act.put, List.setIfInBounds_toArray, List.set_cons_zero, List.set_cons_succ, i64_w, i32_w]
                                    rfl
                                  refine pure_ (i := 7) (N := some 188) (v := ?_) (a' := ?_) #[true, true, true, true, true, true, true, true, false] rfl rfl (any_of HT_.out (by kernel_rfl)) (fun _ _ _ h => h) (Or.inl ⟨by rfl, ?_⟩) ?_ ?_
                                  rotate_left
                                  · intro w'
                                    go_simp
                                    with_reducible rfl
                                  rotate_left
                                  · simp only [Act.put, List.setIfInBounds_toArray, List.set_cons_zero, List.set_cons_succ, i64_w, i32_w]
                                    rfl
                                  refine pure_ (i := 8) (N := some 8) (v := ?_) (a' := ?_) #[true, true, true, true, true, true, true, true, true] rfl rfl (any_of HT_.out (by kernel_rfl)) (fun _ _ _ h => h) (Or.inl ⟨by rfl, ?_⟩) ?_ ?_
                                  rotate_left
                                  · intro w'
                                    go_simp
                                    with_reducible rfl
                                  rotate_left
                                  · simp only [Act.put, List.setIfInBounds_toArray, List.set_cons_zero, List.set_cons_succ, i64_w, i32_w]
                                    rfl
                                  refine done_ (done_of HT_.out (by kernel_rfl)) ?_
                                  try go_wp2
                                  go_ret
                                  exact ⟨by first | rfl | (simp [errW_none, errW_some] <;> rfl) | (simp [*, errW_none, errW_some] <;> rfl), by repeat (first | (with_reducible first | exact HB.out | apply below_alloc | apply pw_below_drewN | apply below_drew1 | refine below_set ?_ GE117.out | refine below_set ?_ GE124.out | refine below_set ?_ GE130.out | refine below_set ?_ GE133.out) | exact HB.out)⟩
                · replace c56 := Bool.eq_false_iff.mpr c56
                  subst c56
                  have H1 : (if t123 = 1 then (if t126 = 1 then (if t129 = 1 then (if t132 = 1 then (if (t120 == 0 && (t121 == 0)) = true then (if t122 = 0 then (if t125 = true then (some false) else (if (t127 == 0 && (t128 == 0)) = true then (some (t131 == 0)) else (some false))) else (some false)) else (some false)) else (some false)) else (some false)) else (some false)) else (some false)) = some r := by rw [if_neg (show ¬ (false = true) by decide)] at H; exact H
                  clear H
                  have H := H1
                  clear H1
                  by_cases c199 : t123 = 1
                  · rw [if_pos c199] at H
                    have c199b0 : (t123 == 1) = true := beq_iff_eq.mpr c199
                    have c199b1 : (t123 != 1) = false := bne_eq_false_iff_eq.mpr c199
                    clear c199
                    by_cases c200 : t126 = 1
                    · rw [if_pos c200] at H
                      have c200b0 : (t126 == 1) = true := beq_iff_eq.mpr c200
                      have c200b1 : (t126 != 1) = false := bne_eq_false_iff_eq.mpr c200
                      clear c200
                      by_cases c201 : t129 = 1
                      · rw [if_pos c201] at H
                        have c201b0 : (t129 == 1) = true := beq_iff_eq.mpr c201
                        have c201b1 : (t129 != 1) = false := bne_eq_false_iff_eq.mpr c201
                        clear c201
                        by_cases c202 : t132 = 1
                        · rw [if_pos c202] at H
                          have c202b0 : (t132 == 1) = true := beq_iff_eq.mpr c202
                          have c202b1 : (t132 != 1) = false := bne_eq_false_iff_eq.mpr c202
                          clear c202
                          by_cases c203 : (t120 == 0 && (t121 == 0)) = true
                          · rw [if_pos c203] at H
                            have c203b0 : (t120 == 0 && (t121 == 0)) = true := c203
                            (try (have c203b1 : decide (t120 = 0 && (t121 == 0)) = true := by simpa using c203))
                            (try (have c203b2 : (t120 == 0 && (t121 == 0)) = true := by simpa using c203))
                            clear c203
                            by_cases c204 : t122 = 0
                            · rw [if_pos c204] at H
                              have c204b0 : (t122 == 0) = true := beq_iff_eq.mpr c204
                              have c204b1 : (t122 != 0) = false := bne_eq_false_iff_eq.mpr c204
                              clear c204
                              by_cases c205 : t125 = true
                              · subst c205
                                have H1 : (some false) = some r := by rw [if_pos rfl] at H; exact H
                                clear H
                                have H := H1
                                clear H1
                                as_aux_lemma =>
                                  obtain rfl := Option.some.inj H
                                  have hnb206 := NB117_124.out
                                  have hnc206 := NB124_117.out
                                  have hnb207 := NB117_130.out
                                  have hnc207 := NB130_117.out
                                  have hnb208 := NB117_133.out
                                  have hnc208 := NB133_117.out
                                  have hcz209_0 : wc.cell? ⟨gb117, 0, none⟩ = some (.int .i64 a2_0) := (blk_cell BK117.out 0).trans rfl
                                  have hcz209_1 : wc.cell? ⟨gb117, 1, none⟩ = some (.int .i64 a2_1) := (blk_cell BK117.out 1).trans rfl
                                  have hfz209_0 := blk_frozen BK117.out 0
                                  have hfz209_1 := blk_frozen BK117.out 1
                                  go_wp2_with (first | ((with_reducible refine gate_callee (f := 14) rfl ?_); refine goesL_ (some 82) rfl rfl Try.func14 (by kernel_rfl) rfl #[.agg #[.int .i64 a2_0, .int .i64 a2_1]] rfl (by (try simp only [List.map_toArray, List.map_cons, List.map_nil]); first | done | rfl | (simp only [List.length_drop, List.length_take]; rfl)) ?_; (with_reducible refine (deadboltref06_Right.calls a2_0 a2_1 false _ A55.out).mono ?_); rintro e w210 ⟨rfl, hb⟩; refine ⟨_, rfl, ?_⟩; have n0_ := Aside0.mk (blk_below (g := gb117) (o := .cells #[.int .i64 a2_0, .int .i64 a2_1] 27 (0, 0)) (by (with_reducible repeat (first | refine blk_drewN ?_ _ | refine blk_drew ?_ | refine blk_alloc ?_ _)); exact BK117.out) hb); have n1_ := Aside0.mk (blk_below (g := gb124) (o := .cells #[.int .i64 t120, .int .i64 t121] 27 (0, 0)) (by (with_reducible repeat (first | refine blk_drewN ?_ _ | refine blk_drew ?_ | refine blk_alloc ?_ _)); exact BK124.out) hb); have n2_ := Aside0.mk (blk_below (g := gb130) (o := .cells #[.int .i64 t127, .int .i64 t128] 27 (0, 0)) (by (with_reducible repeat (first | refine blk_drewN ?_ _ | refine blk_drew ?_ | refine blk_alloc ?_ _)); exact BK130.out) hb); have n3_ := Aside0.mk (blk_below (g := gb133) (o := .cells #[.int .i64 0, .int .i64 0] 27 (0, 0)) (by (with_reducible repeat (first | refine blk_drewN ?_ _ | refine blk_drew ?_ | refine blk_alloc ?_ _)); exact BK133.out) hb); have n4_ := Aside0.mk (below_step (by repeat (first | (with_reducible first | exact HB.out | apply below_alloc | apply pw_below_drewN | apply below_drew1 | refine below_set ?_ GE117.out | refine below_set ?_ GE124.out | refine below_set ?_ GE130.out | refine below_set ?_ GE133.out) | exact HB.out)) hb); clear BK117; clear BK124; clear BK130; clear BK133; clear HB; have BK117 := n0_; have BK124 := n1_; have BK130 := n2_; have BK133 := n3_; have HB := n4_; clear n0_ n1_ n2_ n3_ n4_; (try clear hb); (try clear hb2); (try clear hk); (try clear hi); have hnb211 := NB124_130.out; have hnc211 := NB130_124.out; have hnb212 := NB124_133.out; have hnc212 := NB133_124.out; have hcz213_0 : w210.cell? ⟨gb124, 0, none⟩ = some (.int .i64 t120) := (blk_cell BK124.out 0).trans rfl; have hcz213_1 : w210.cell? ⟨gb124, 1, none⟩ = some (.int .i64 t121) := (blk_cell BK124.out 1).trans rfl; have hfz213_0 := blk_frozen BK124.out 0; have hfz213_1 := blk_frozen BK124.out 1; have hnb214 := NB133_130.out; have hnc214 := NB130_133.out; have hcz215_0 : w210.cell? ⟨gb133, 0, none⟩ = some (.int .i64 0) := (blk_cell BK133.out 0).trans rfl; have hcz215_1 : w210.cell? ⟨gb133, 1, none⟩ = some (.int .i64 0) := (blk_cell BK133.out 1).trans rfl; have hfz215_0 := blk_frozen BK133.out 0; have hfz215_1 := blk_frozen BK133.out 1))
                                  go_ret
                                  exact ⟨by first | rfl | (simp [errW_none, errW_some] <;> rfl) | (simp [*, errW_none, errW_some] <;> rfl), by repeat (first | (with_reducible first | exact HB.out | apply below_alloc | apply pw_below_drewN | apply below_drew1 | refine below_set ?_ GE117.out | refine below_set ?_ GE124.out | refine below_set ?_ GE130.out | refine below_set ?_ GE133.out) | exact HB.out)⟩
                              · replace c205 := Bool.eq_false_iff.mpr c205
                                subst c205
                                have H1 : (if (t127 == 0 && (t128 == 0)) = true then (some (t131 == 0)) else (some false)) = some r := by rw [if_neg (show ¬ (false = true) by decide)] at H; exact H
                                clear H
                                have H := H1
                                clear H1
                                by_cases c216 : (t127 == 0 && (t128 == 0)) = true
                                · rw [if_pos c216] at H
                                  have c216b0 : (t127 == 0 && (t128 == 0)) = true := c216
                                  (try (have c216b1 : decide (t127 = 0 && (t128 == 0)) = true := by simpa using c216))
                                  (try (have c216b2 : (t127 == 0 && (t128 == 0)) = true := by simpa using c216))
                                  clear c216
                                  as_aux_lemma =>
                                    obtain rfl := Option.some.inj H
                                    have hnb217 := NB117_124.out
                                    have hnc217 := NB124_117.out
                                    have hnb218 := NB117_130.out
                                    have hnc218 := NB130_117.out
                                    have hnb219 := NB117_133.out
                                    have hnc219 := NB133_117.out
                                    have hcz220_0 : wc.cell? ⟨gb117, 0, none⟩ = some (.int .i64 a2_0) := (blk_cell BK117.out 0).trans rfl
                                    have hcz220_1 : wc.cell? ⟨gb117, 1, none⟩ = some (.int .i64 a2_1) := (blk_cell BK117.out 1).trans rfl
                                    have hfz220_0 := blk_frozen BK117.out 0
                                    have hfz220_1 := blk_frozen BK117.out 1
                                    go_wp2_with (first | ((with_reducible refine gate_callee (f := 14) rfl ?_); refine goesL_ (some 82) rfl rfl Try.func14 (by kernel_rfl) rfl #[.agg #[.int .i64 a2_0, .int .i64 a2_1]] rfl (by (try simp only [List.map_toArray, List.map_cons, List.map_nil]); first | done | rfl | (simp only [List.length_drop, List.length_take]; rfl)) ?_; (with_reducible refine (deadboltref06_Right.calls a2_0 a2_1 false _ A55.out).mono ?_); rintro e w221 ⟨rfl, hb⟩; refine ⟨_, rfl, ?_⟩; have n0_ := Aside0.mk (blk_below (g := gb117) (o := .cells #[.int .i64 a2_0, .int .i64 a2_1] 27 (0, 0)) (by (with_reducible repeat (first | refine blk_drewN ?_ _ | refine blk_drew ?_ | refine blk_alloc ?_ _)); exact BK117.out) hb); have n1_ := Aside0.mk (blk_below (g := gb124) (o := .cells #[.int .i64 t120, .int .i64 t121] 27 (0, 0)) (by (with_reducible repeat (first | refine blk_drewN ?_ _ | refine blk_drew ?_ | refine blk_alloc ?_ _)); exact BK124.out) hb); have n2_ := Aside0.mk (blk_below (g := gb130) (o := .cells #[.int .i64 t127, .int .i64 t128] 27 (0, 0)) (by (with_reducible repeat (first | refine blk_drewN ?_ _ | refine blk_drew ?_ | refine blk_alloc ?_ _)); exact BK130.out) hb); have n3_ := Aside0.mk (blk_below (g := gb133) (o := .cells #[.int .i64 0, .int .i64 0] 27 (0, 0)) (by (with_reducible repeat (first | refine blk_drewN ?_ _ | refine blk_drew ?_ | refine blk_alloc ?_ _)); exact BK133.out) hb); have n4_ := Aside0.mk (below_step (by repeat (first | (with_reducible first | exact HB.out | apply below_alloc | apply pw_below_drewN | apply below_drew1 | refine below_set ?_ GE117.out | refine below_set ?_ GE124.out | refine below_set ?_ GE130.out | refine below_set ?_ GE133.out) | exact HB.out)) hb); clear BK117; clear BK124; clear BK130; clear BK133; clear HB; have BK117 := n0_; have BK124 := n1_; have BK130 := n2_; have BK133 := n3_; have HB := n4_; clear n0_ n1_ n2_ n3_ n4_; (try clear hb); (try clear hb2); (try clear hk); (try clear hi); have hnb222 := NB124_130.out; have hnc222 := NB130_124.out; have hnb223 := NB124_133.out; have hnc223 := NB133_124.out; have hcz224_0 : w221.cell? ⟨gb124, 0, none⟩ = some (.int .i64 t120) := (blk_cell BK124.out 0).trans rfl; have hcz224_1 : w221.cell? ⟨gb124, 1, none⟩ = some (.int .i64 t121) := (blk_cell BK124.out 1).trans rfl; have hfz224_0 := blk_frozen BK124.out 0; have hfz224_1 := blk_frozen BK124.out 1; have hnb225 := NB133_130.out; have hnc225 := NB130_133.out; have hcz226_0 : w221.cell? ⟨gb133, 0, none⟩ = some (.int .i64 0) := (blk_cell BK133.out 0).trans rfl; have hcz226_1 : w221.cell? ⟨gb133, 1, none⟩ = some (.int .i64 0) := (blk_cell BK133.out 1).trans rfl; have hfz226_0 := blk_frozen BK133.out 0; have hfz226_1 := blk_frozen BK133.out 1; have hcz227_0 : w221.cell? ⟨gb130, 0, none⟩ = some (.int .i64 t127) := (blk_cell BK130.out 0).trans rfl; have hcz227_1 : w221.cell? ⟨gb130, 1, none⟩ = some (.int .i64 t128) := (blk_cell BK130.out 1).trans rfl; have hfz227_0 := blk_frozen BK130.out 0; have hfz227_1 := blk_frozen BK130.out 1))
                                    go_ret
                                    exact ⟨by first | rfl | (simp [errW_none, errW_some] <;> rfl) | (simp [*, errW_none, errW_some] <;> rfl), by repeat (first | (with_reducible first | exact HB.out | apply below_alloc | apply pw_below_drewN | apply below_drew1 | refine below_set ?_ GE117.out | refine below_set ?_ GE124.out | refine below_set ?_ GE130.out | refine below_set ?_ GE133.out) | exact HB.out)⟩
                                · rw [if_neg c216] at H
                                  have c216b0 : (t127 == 0 && (t128 == 0)) = false := by simpa using c216
                                  (try (have c216b1 : decide (t127 = 0 && (t128 == 0)) = false := by simpa using c216))
                                  (try (have c216b2 : (t127 == 0 && (t128 == 0)) = false := by simpa using c216))
                                  (try (have c216b3 : ¬ (t127 = 0 && (t128 == 0)) := by simpa using c216))
                                  clear c216
                                  as_aux_lemma =>
                                    obtain rfl := Option.some.inj H
                                    have hnb228 := NB117_124.out
                                    have hnc228 := NB124_117.out
                                    have hnb229 := NB117_130.out
                                    have hnc229 := NB130_117.out
                                    have hnb230 := NB117_133.out
                                    have hnc230 := NB133_117.out
                                    have hcz231_0 : wc.cell? ⟨gb117, 0, none⟩ = some (.int .i64 a2_0) := (blk_cell BK117.out 0).trans rfl
                                    have hcz231_1 : wc.cell? ⟨gb117, 1, none⟩ = some (.int .i64 a2_1) := (blk_cell BK117.out 1).trans rfl
                                    have hfz231_0 := blk_frozen BK117.out 0
                                    have hfz231_1 := blk_frozen BK117.out 1
                                    go_wp2_with (first | ((with_reducible refine gate_callee (f := 14) rfl ?_); refine goesL_ (some 82) rfl rfl Try.func14 (by kernel_rfl) rfl #[.agg #[.int .i64 a2_0, .int .i64 a2_1]] rfl (by (try simp only [List.map_toArray, List.map_cons, List.map_nil]); first | done | rfl | (simp only [List.length_drop, List.length_take]; rfl)) ?_; (with_reducible refine (deadboltref06_Right.calls a2_0 a2_1 false _ A55.out).mono ?_); rintro e w232 ⟨rfl, hb⟩; refine ⟨_, rfl, ?_⟩; have n0_ := Aside0.mk (blk_below (g := gb117) (o := .cells #[.int .i64 a2_0, .int .i64 a2_1] 27 (0, 0)) (by (with_reducible repeat (first | refine blk_drewN ?_ _ | refine blk_drew ?_ | refine blk_alloc ?_ _)); exact BK117.out) hb); have n1_ := Aside0.mk (blk_below (g := gb124) (o := .cells #[.int .i64 t120, .int .i64 t121] 27 (0, 0)) (by (with_reducible repeat (first | refine blk_drewN ?_ _ | refine blk_drew ?_ | refine blk_alloc ?_ _)); exact BK124.out) hb); have n2_ := Aside0.mk (blk_below (g := gb130) (o := .cells #[.int .i64 t127, .int .i64 t128] 27 (0, 0)) (by (with_reducible repeat (first | refine blk_drewN ?_ _ | refine blk_drew ?_ | refine blk_alloc ?_ _)); exact BK130.out) hb); have n3_ := Aside0.mk (blk_below (g := gb133) (o := .cells #[.int .i64 0, .int .i64 0] 27 (0, 0)) (by (with_reducible repeat (first | refine blk_drewN ?_ _ | refine blk_drew ?_ | refine blk_alloc ?_ _)); exact BK133.out) hb); have n4_ := Aside0.mk (below_step (by repeat (first | (with_reducible first | exact HB.out | apply below_alloc | apply pw_below_drewN | apply below_drew1 | refine below_set ?_ GE117.out | refine below_set ?_ GE124.out | refine below_set ?_ GE130.out | refine below_set ?_ GE133.out) | exact HB.out)) hb); clear BK117; clear BK124; clear BK130; clear BK133; clear HB; have BK117 := n0_; have BK124 := n1_; have BK130 := n2_; have BK133 := n3_; have HB := n4_; clear n0_ n1_ n2_ n3_ n4_; (try clear hb); (try clear hb2); (try clear hk); (try clear hi); have hnb233 := NB124_130.out; have hnc233 := NB130_124.out; have hnb234 := NB124_133.out; have hnc234 := NB133_124.out; have hcz235_0 : w232.cell? ⟨gb124, 0, none⟩ = some (.int .i64 t120) := (blk_cell BK124.out 0).trans rfl; have hcz235_1 : w232.cell? ⟨gb124, 1, none⟩ = some (.int .i64 t121) := (blk_cell BK124.out 1).trans rfl; have hfz235_0 := blk_frozen BK124.out 0; have hfz235_1 := blk_frozen BK124.out 1; have hnb236 := NB133_130.out; have hnc236 := NB130_133.out; have hcz237_0 : w232.cell? ⟨gb133, 0, none⟩ = some (.int .i64 0) := (blk_cell BK133.out 0).trans rfl; have hcz237_1 : w232.cell? ⟨gb133, 1, none⟩ = some (.int .i64 0) := (blk_cell BK133.out 1).trans rfl; have hfz237_0 := blk_frozen BK133.out 0; have hfz237_1 := blk_frozen BK133.out 1; have hcz238_0 : w232.cell? ⟨gb130, 0, none⟩ = some (.int .i64 t127) := (blk_cell BK130.out 0).trans rfl; have hcz238_1 : w232.cell? ⟨gb130, 1, none⟩ = some (.int .i64 t128) := (blk_cell BK130.out 1).trans rfl; have hfz238_0 := blk_frozen BK130.out 0; have hfz238_1 := blk_frozen BK130.out 1))
                                    go_ret
                                    exact ⟨by first | rfl | (simp [errW_none, errW_some] <;> rfl) | (simp [*, errW_none, errW_some] <;> rfl), by repeat (first | (with_reducible first | exact HB.out | apply below_alloc | apply pw_below_drewN | apply below_drew1 | refine below_set ?_ GE117.out | refine below_set ?_ GE124.out | refine below_set ?_ GE130.out | refine below_set ?_ GE133.out) | exact HB.out)⟩
                            · rw [if_neg c204] at H
                              have c204b0 : (t122 == 0) = false := beq_eq_false_iff_ne.mpr c204
                              have c204b1 : (t122 != 0) = true := bne_iff_ne.mpr c204
                              as_aux_lemma =>
                                obtain rfl := Option.some.inj H
                                have hnb239 := NB117_124.out
                                have hnc239 := NB124_117.out
                                have hnb240 := NB117_130.out
                                have hnc240 := NB130_117.out
                                have hnb241 := NB117_133.out
                                have hnc241 := NB133_117.out
                                have hcz242_0 : wc.cell? ⟨gb117, 0, none⟩ = some (.int .i64 a2_0) := (blk_cell BK117.out 0).trans rfl
                                have hcz242_1 : wc.cell? ⟨gb117, 1, none⟩ = some (.int .i64 a2_1) := (blk_cell BK117.out 1).trans rfl
                                have hfz242_0 := blk_frozen BK117.out 0
                                have hfz242_1 := blk_frozen BK117.out 1
                                go_wp2_with (first | ((with_reducible refine gate_callee (f := 14) rfl ?_); refine goesL_ (some 82) rfl rfl Try.func14 (by kernel_rfl) rfl #[.agg #[.int .i64 a2_0, .int .i64 a2_1]] rfl (by (try simp only [List.map_toArray, List.map_cons, List.map_nil]); first | done | rfl | (simp only [List.length_drop, List.length_take]; rfl)) ?_; (with_reducible refine (deadboltref06_Right.calls a2_0 a2_1 false _ A55.out).mono ?_); rintro e w243 ⟨rfl, hb⟩; refine ⟨_, rfl, ?_⟩; have n0_ := Aside0.mk (blk_below (g := gb117) (o := .cells #[.int .i64 a2_0, .int .i64 a2_1] 27 (0, 0)) (by (with_reducible repeat (first | refine blk_drewN ?_ _ | refine blk_drew ?_ | refine blk_alloc ?_ _)); exact BK117.out) hb); have n1_ := Aside0.mk (blk_below (g := gb124) (o := .cells #[.int .i64 t120, .int .i64 t121] 27 (0, 0)) (by (with_reducible repeat (first | refine blk_drewN ?_ _ | refine blk_drew ?_ | refine blk_alloc ?_ _)); exact BK124.out) hb); have n2_ := Aside0.mk (blk_below (g := gb130) (o := .cells #[.int .i64 t127, .int .i64 t128] 27 (0, 0)) (by (with_reducible repeat (first | refine blk_drewN ?_ _ | refine blk_drew ?_ | refine blk_alloc ?_ _)); exact BK130.out) hb); have n3_ := Aside0.mk (blk_below (g := gb133) (o := .cells #[.int .i64 0, .int .i64 0] 27 (0, 0)) (by (with_reducible repeat (first | refine blk_drewN ?_ _ | refine blk_drew ?_ | refine blk_alloc ?_ _)); exact BK133.out) hb); have n4_ := Aside0.mk (below_step (by repeat (first | (with_reducible first | exact HB.out | apply below_alloc | apply pw_below_drewN | apply below_drew1 | refine below_set ?_ GE117.out | refine below_set ?_ GE124.out | refine below_set ?_ GE130.out | refine below_set ?_ GE133.out) | exact HB.out)) hb); clear BK117; clear BK124; clear BK130; clear BK133; clear HB; have BK117 := n0_; have BK124 := n1_; have BK130 := n2_; have BK133 := n3_; have HB := n4_; clear n0_ n1_ n2_ n3_ n4_; (try clear hb); (try clear hb2); (try clear hk); (try clear hi); have hnb244 := NB124_130.out; have hnc244 := NB130_124.out; have hnb245 := NB124_133.out; have hnc245 := NB133_124.out; have hcz246_0 : w243.cell? ⟨gb124, 0, none⟩ = some (.int .i64 t120) := (blk_cell BK124.out 0).trans rfl; have hcz246_1 : w243.cell? ⟨gb124, 1, none⟩ = some (.int .i64 t121) := (blk_cell BK124.out 1).trans rfl; have hfz246_0 := blk_frozen BK124.out 0; have hfz246_1 := blk_frozen BK124.out 1; have hnb247 := NB133_130.out; have hnc247 := NB130_133.out; have hcz248_0 : w243.cell? ⟨gb133, 0, none⟩ = some (.int .i64 0) := (blk_cell BK133.out 0).trans rfl; have hcz248_1 : w243.cell? ⟨gb133, 1, none⟩ = some (.int .i64 0) := (blk_cell BK133.out 1).trans rfl; have hfz248_0 := blk_frozen BK133.out 0; have hfz248_1 := blk_frozen BK133.out 1))
                                go_ret
                                exact ⟨by first | rfl | (simp [errW_none, errW_some] <;> rfl) | (simp [*, errW_none, errW_some] <;> rfl), by repeat (first | (with_reducible first | exact HB.out | apply below_alloc | apply pw_below_drewN | apply below_drew1 | refine below_set ?_ GE117.out | refine below_set ?_ GE124.out | refine below_set ?_ GE130.out | refine below_set ?_ GE133.out) | exact HB.out)⟩
                          · rw [if_neg c203] at H
                            have c203b0 : (t120 == 0 && (t121 == 0)) = false := by simpa using c203
                            (try (have c203b1 : decide (t120 = 0 && (t121 == 0)) = false := by simpa using c203))
                            (try (have c203b2 : (t120 == 0 && (t121 == 0)) = false := by simpa using c203))
                            (try (have c203b3 : ¬ (t120 = 0 && (t121 == 0)) := by simpa using c203))
                            clear c203
                            as_aux_lemma =>
                              obtain rfl := Option.some.inj H
                              have hnb249 := NB117_124.out
                              have hnc249 := NB124_117.out
                              have hnb250 := NB117_130.out
                              have hnc250 := NB130_117.out
                              have hnb251 := NB117_133.out
                              have hnc251 := NB133_117.out
                              have hcz252_0 : wc.cell? ⟨gb117, 0, none⟩ = some (.int .i64 a2_0) := (blk_cell BK117.out 0).trans rfl
                              have hcz252_1 : wc.cell? ⟨gb117, 1, none⟩ = some (.int .i64 a2_1) := (blk_cell BK117.out 1).trans rfl
                              have hfz252_0 := blk_frozen BK117.out 0
                              have hfz252_1 := blk_frozen BK117.out 1
                              go_wp2_with (first | ((with_reducible refine gate_callee (f := 14) rfl ?_); refine goesL_ (some 82) rfl rfl Try.func14 (by kernel_rfl) rfl #[.agg #[.int .i64 a2_0, .int .i64 a2_1]] rfl (by (try simp only [List.map_toArray, List.map_cons, List.map_nil]); first | done | rfl | (simp only [List.length_drop, List.length_take]; rfl)) ?_; (with_reducible refine (deadboltref06_Right.calls a2_0 a2_1 false _ A55.out).mono ?_); rintro e w253 ⟨rfl, hb⟩; refine ⟨_, rfl, ?_⟩; have n0_ := Aside0.mk (blk_below (g := gb117) (o := .cells #[.int .i64 a2_0, .int .i64 a2_1] 27 (0, 0)) (by (with_reducible repeat (first | refine blk_drewN ?_ _ | refine blk_drew ?_ | refine blk_alloc ?_ _)); exact BK117.out) hb); have n1_ := Aside0.mk (blk_below (g := gb124) (o := .cells #[.int .i64 t120, .int .i64 t121] 27 (0, 0)) (by (with_reducible repeat (first | refine blk_drewN ?_ _ | refine blk_drew ?_ | refine blk_alloc ?_ _)); exact BK124.out) hb); have n2_ := Aside0.mk (blk_below (g := gb130) (o := .cells #[.int .i64 t127, .int .i64 t128] 27 (0, 0)) (by (with_reducible repeat (first | refine blk_drewN ?_ _ | refine blk_drew ?_ | refine blk_alloc ?_ _)); exact BK130.out) hb); have n3_ := Aside0.mk (blk_below (g := gb133) (o := .cells #[.int .i64 0, .int .i64 0] 27 (0, 0)) (by (with_reducible repeat (first | refine blk_drewN ?_ _ | refine blk_drew ?_ | refine blk_alloc ?_ _)); exact BK133.out) hb); have n4_ := Aside0.mk (below_step (by repeat (first | (with_reducible first | exact HB.out | apply below_alloc | apply pw_below_drewN | apply below_drew1 | refine below_set ?_ GE117.out | refine below_set ?_ GE124.out | refine below_set ?_ GE130.out | refine below_set ?_ GE133.out) | exact HB.out)) hb); clear BK117; clear BK124; clear BK130; clear BK133; clear HB; have BK117 := n0_; have BK124 := n1_; have BK130 := n2_; have BK133 := n3_; have HB := n4_; clear n0_ n1_ n2_ n3_ n4_; (try clear hb); (try clear hb2); (try clear hk); (try clear hi); have hnb254 := NB124_130.out; have hnc254 := NB130_124.out; have hnb255 := NB124_133.out; have hnc255 := NB133_124.out; have hcz256_0 : w253.cell? ⟨gb124, 0, none⟩ = some (.int .i64 t120) := (blk_cell BK124.out 0).trans rfl; have hcz256_1 : w253.cell? ⟨gb124, 1, none⟩ = some (.int .i64 t121) := (blk_cell BK124.out 1).trans rfl; have hfz256_0 := blk_frozen BK124.out 0; have hfz256_1 := blk_frozen BK124.out 1; have hnb257 := NB133_130.out; have hnc257 := NB130_133.out; have hcz258_0 : w253.cell? ⟨gb133, 0, none⟩ = some (.int .i64 0) := (blk_cell BK133.out 0).trans rfl; have hcz258_1 : w253.cell? ⟨gb133, 1, none⟩ = some (.int .i64 0) := (blk_cell BK133.out 1).trans rfl; have hfz258_0 := blk_frozen BK133.out 0; have hfz258_1 := blk_frozen BK133.out 1))
                              go_ret
                              exact ⟨by first | rfl | (simp [errW_none, errW_some] <;> rfl) | (simp [*, errW_none, errW_some] <;> rfl), by repeat (first | (with_reducible first | exact HB.out | apply below_alloc | apply pw_below_drewN | apply below_drew1 | refine below_set ?_ GE117.out | refine below_set ?_ GE124.out | refine below_set ?_ GE130.out | refine below_set ?_ GE133.out) | exact HB.out)⟩
                        · rw [if_neg c202] at H
                          have c202b0 : (t132 == 1) = false := beq_eq_false_iff_ne.mpr c202
                          have c202b1 : (t132 != 1) = true := bne_iff_ne.mpr c202
                          as_aux_lemma =>
                            obtain rfl := Option.some.inj H
                            have hnb259 := NB117_124.out
                            have hnc259 := NB124_117.out
                            have hnb260 := NB117_130.out
                            have hnc260 := NB130_117.out
                            have hnb261 := NB117_133.out
                            have hnc261 := NB133_117.out
                            have hcz262_0 : wc.cell? ⟨gb117, 0, none⟩ = some (.int .i64 a2_0) := (blk_cell BK117.out 0).trans rfl
                            have hcz262_1 : wc.cell? ⟨gb117, 1, none⟩ = some (.int .i64 a2_1) := (blk_cell BK117.out 1).trans rfl
                            have hfz262_0 := blk_frozen BK117.out 0
                            have hfz262_1 := blk_frozen BK117.out 1
                            go_wp2_with (first | ((with_reducible refine gate_callee (f := 14) rfl ?_); refine goesL_ (some 82) rfl rfl Try.func14 (by kernel_rfl) rfl #[.agg #[.int .i64 a2_0, .int .i64 a2_1]] rfl (by (try simp only [List.map_toArray, List.map_cons, List.map_nil]); first | done | rfl | (simp only [List.length_drop, List.length_take]; rfl)) ?_; (with_reducible refine (deadboltref06_Right.calls a2_0 a2_1 false _ A55.out).mono ?_); rintro e w263 ⟨rfl, hb⟩; refine ⟨_, rfl, ?_⟩; have n0_ := Aside0.mk (blk_below (g := gb117) (o := .cells #[.int .i64 a2_0, .int .i64 a2_1] 27 (0, 0)) (by (with_reducible repeat (first | refine blk_drewN ?_ _ | refine blk_drew ?_ | refine blk_alloc ?_ _)); exact BK117.out) hb); have n1_ := Aside0.mk (blk_below (g := gb124) (o := .cells #[.int .i64 t120, .int .i64 t121] 27 (0, 0)) (by (with_reducible repeat (first | refine blk_drewN ?_ _ | refine blk_drew ?_ | refine blk_alloc ?_ _)); exact BK124.out) hb); have n2_ := Aside0.mk (blk_below (g := gb130) (o := .cells #[.int .i64 t127, .int .i64 t128] 27 (0, 0)) (by (with_reducible repeat (first | refine blk_drewN ?_ _ | refine blk_drew ?_ | refine blk_alloc ?_ _)); exact BK130.out) hb); have n3_ := Aside0.mk (blk_below (g := gb133) (o := .cells #[.int .i64 0, .int .i64 0] 27 (0, 0)) (by (with_reducible repeat (first | refine blk_drewN ?_ _ | refine blk_drew ?_ | refine blk_alloc ?_ _)); exact BK133.out) hb); have n4_ := Aside0.mk (below_step (by repeat (first | (with_reducible first | exact HB.out | apply below_alloc | apply pw_below_drewN | apply below_drew1 | refine below_set ?_ GE117.out | refine below_set ?_ GE124.out | refine below_set ?_ GE130.out | refine below_set ?_ GE133.out) | exact HB.out)) hb); clear BK117; clear BK124; clear BK130; clear BK133; clear HB; have BK117 := n0_; have BK124 := n1_; have BK130 := n2_; have BK133 := n3_; have HB := n4_; clear n0_ n1_ n2_ n3_ n4_; (try clear hb); (try clear hb2); (try clear hk); (try clear hi)))
                            go_ret
                            exact ⟨by first | rfl | (simp [errW_none, errW_some] <;> rfl) | (simp [*, errW_none, errW_some] <;> rfl), by repeat (first | (with_reducible first | exact HB.out | apply below_alloc | apply pw_below_drewN | apply below_drew1 | refine below_set ?_ GE117.out | refine below_set ?_ GE124.out | refine below_set ?_ GE130.out | refine below_set ?_ GE133.out) | exact HB.out)⟩
                      · rw [if_neg c201] at H
                        have c201b0 : (t129 == 1) = false := beq_eq_false_iff_ne.mpr c201
                        have c201b1 : (t129 != 1) = true := bne_iff_ne.mpr c201
                        as_aux_lemma =>
                          obtain rfl := Option.some.inj H
                          have hnb264 := NB117_124.out
                          have hnc264 := NB124_117.out
                          have hnb265 := NB117_130.out
                          have hnc265 := NB130_117.out
                          have hnb266 := NB117_133.out
                          have hnc266 := NB133_117.out
                          have hcz267_0 : wc.cell? ⟨gb117, 0, none⟩ = some (.int .i64 a2_0) := (blk_cell BK117.out 0).trans rfl
                          have hcz267_1 : wc.cell? ⟨gb117, 1, none⟩ = some (.int .i64 a2_1) := (blk_cell BK117.out 1).trans rfl
                          have hfz267_0 := blk_frozen BK117.out 0
                          have hfz267_1 := blk_frozen BK117.out 1
                          go_wp2_with (first | ((with_reducible refine gate_callee (f := 14) rfl ?_); refine goesL_ (some 82) rfl rfl Try.func14 (by kernel_rfl) rfl #[.agg #[.int .i64 a2_0, .int .i64 a2_1]] rfl (by (try simp only [List.map_toArray, List.map_cons, List.map_nil]); first | done | rfl | (simp only [List.length_drop, List.length_take]; rfl)) ?_; (with_reducible refine (deadboltref06_Right.calls a2_0 a2_1 false _ A55.out).mono ?_); rintro e w268 ⟨rfl, hb⟩; refine ⟨_, rfl, ?_⟩; have n0_ := Aside0.mk (blk_below (g := gb117) (o := .cells #[.int .i64 a2_0, .int .i64 a2_1] 27 (0, 0)) (by (with_reducible repeat (first | refine blk_drewN ?_ _ | refine blk_drew ?_ | refine blk_alloc ?_ _)); exact BK117.out) hb); have n1_ := Aside0.mk (blk_below (g := gb124) (o := .cells #[.int .i64 t120, .int .i64 t121] 27 (0, 0)) (by (with_reducible repeat (first | refine blk_drewN ?_ _ | refine blk_drew ?_ | refine blk_alloc ?_ _)); exact BK124.out) hb); have n2_ := Aside0.mk (blk_below (g := gb130) (o := .cells #[.int .i64 t127, .int .i64 t128] 27 (0, 0)) (by (with_reducible repeat (first | refine blk_drewN ?_ _ | refine blk_drew ?_ | refine blk_alloc ?_ _)); exact BK130.out) hb); have n3_ := Aside0.mk (blk_below (g := gb133) (o := .cells #[.int .i64 0, .int .i64 0] 27 (0, 0)) (by (with_reducible repeat (first | refine blk_drewN ?_ _ | refine blk_drew ?_ | refine blk_alloc ?_ _)); exact BK133.out) hb); have n4_ := Aside0.mk (below_step (by repeat (first | (with_reducible first | exact HB.out | apply below_alloc | apply pw_below_drewN | apply below_drew1 | refine below_set ?_ GE117.out | refine below_set ?_ GE124.out | refine below_set ?_ GE130.out | refine below_set ?_ GE133.out) | exact HB.out)) hb); clear BK117; clear BK124; clear BK130; clear BK133; clear HB; have BK117 := n0_; have BK124 := n1_; have BK130 := n2_; have BK133 := n3_; have HB := n4_; clear n0_ n1_ n2_ n3_ n4_; (try clear hb); (try clear hb2); (try clear hk); (try clear hi)))
                          go_ret
                          exact ⟨by first | rfl | (simp [errW_none, errW_some] <;> rfl) | (simp [*, errW_none, errW_some] <;> rfl), by repeat (first | (with_reducible first | exact HB.out | apply below_alloc | apply pw_below_drewN | apply below_drew1 | refine below_set ?_ GE117.out | refine below_set ?_ GE124.out | refine below_set ?_ GE130.out | refine below_set ?_ GE133.out) | exact HB.out)⟩
                    · rw [if_neg c200] at H
                      have c200b0 : (t126 == 1) = false := beq_eq_false_iff_ne.mpr c200
                      have c200b1 : (t126 != 1) = true := bne_iff_ne.mpr c200
                      as_aux_lemma =>
                        obtain rfl := Option.some.inj H
                        have hnb269 := NB117_124.out
                        have hnc269 := NB124_117.out
                        have hnb270 := NB117_130.out
                        have hnc270 := NB130_117.out
                        have hnb271 := NB117_133.out
                        have hnc271 := NB133_117.out
                        have hcz272_0 : wc.cell? ⟨gb117, 0, none⟩ = some (.int .i64 a2_0) := (blk_cell BK117.out 0).trans rfl
                        have hcz272_1 : wc.cell? ⟨gb117, 1, none⟩ = some (.int .i64 a2_1) := (blk_cell BK117.out 1).trans rfl
                        have hfz272_0 := blk_frozen BK117.out 0
                        have hfz272_1 := blk_frozen BK117.out 1
                        go_wp2_with (first | ((with_reducible refine gate_callee (f := 14) rfl ?_); refine goesL_ (some 82) rfl rfl Try.func14 (by kernel_rfl) rfl #[.agg #[.int .i64 a2_0, .int .i64 a2_1]] rfl (by (try simp only [List.map_toArray, List.map_cons, List.map_nil]); first | done | rfl | (simp only [List.length_drop, List.length_take]; rfl)) ?_; (with_reducible refine (deadboltref06_Right.calls a2_0 a2_1 false _ A55.out).mono ?_); rintro e w273 ⟨rfl, hb⟩; refine ⟨_, rfl, ?_⟩; have n0_ := Aside0.mk (blk_below (g := gb117) (o := .cells #[.int .i64 a2_0, .int .i64 a2_1] 27 (0, 0)) (by (with_reducible repeat (first | refine blk_drewN ?_ _ | refine blk_drew ?_ | refine blk_alloc ?_ _)); exact BK117.out) hb); have n1_ := Aside0.mk (blk_below (g := gb124) (o := .cells #[.int .i64 t120, .int .i64 t121] 27 (0, 0)) (by (with_reducible repeat (first | refine blk_drewN ?_ _ | refine blk_drew ?_ | refine blk_alloc ?_ _)); exact BK124.out) hb); have n2_ := Aside0.mk (blk_below (g := gb130) (o := .cells #[.int .i64 t127, .int .i64 t128] 27 (0, 0)) (by (with_reducible repeat (first | refine blk_drewN ?_ _ | refine blk_drew ?_ | refine blk_alloc ?_ _)); exact BK130.out) hb); have n3_ := Aside0.mk (blk_below (g := gb133) (o := .cells #[.int .i64 0, .int .i64 0] 27 (0, 0)) (by (with_reducible repeat (first | refine blk_drewN ?_ _ | refine blk_drew ?_ | refine blk_alloc ?_ _)); exact BK133.out) hb); have n4_ := Aside0.mk (below_step (by repeat (first | (with_reducible first | exact HB.out | apply below_alloc | apply pw_below_drewN | apply below_drew1 | refine below_set ?_ GE117.out | refine below_set ?_ GE124.out | refine below_set ?_ GE130.out | refine below_set ?_ GE133.out) | exact HB.out)) hb); clear BK117; clear BK124; clear BK130; clear BK133; clear HB; have BK117 := n0_; have BK124 := n1_; have BK130 := n2_; have BK133 := n3_; have HB := n4_; clear n0_ n1_ n2_ n3_ n4_; (try clear hb); (try clear hb2); (try clear hk); (try clear hi)))
                        go_ret
                        exact ⟨by first | rfl | (simp [errW_none, errW_some] <;> rfl) | (simp [*, errW_none, errW_some] <;> rfl), by repeat (first | (with_reducible first | exact HB.out | apply below_alloc | apply pw_below_drewN | apply below_drew1 | refine below_set ?_ GE117.out | refine below_set ?_ GE124.out | refine below_set ?_ GE130.out | refine below_set ?_ GE133.out) | exact HB.out)⟩
                  · rw [if_neg c199] at H
                    have c199b0 : (t123 == 1) = false := beq_eq_false_iff_ne.mpr c199
                    have c199b1 : (t123 != 1) = true := bne_iff_ne.mpr c199
                    as_aux_lemma =>
                      obtain rfl := Option.some.inj H
                      have hnb274 := NB117_124.out
                      have hnc274 := NB124_117.out
                      have hnb275 := NB117_130.out
                      have hnc275 := NB130_117.out
                      have hnb276 := NB117_133.out
                      have hnc276 := NB133_117.out
                      have hcz277_0 : wc.cell? ⟨gb117, 0, none⟩ = some (.int .i64 a2_0) := (blk_cell BK117.out 0).trans rfl
                      have hcz277_1 : wc.cell? ⟨gb117, 1, none⟩ = some (.int .i64 a2_1) := (blk_cell BK117.out 1).trans rfl
                      have hfz277_0 := blk_frozen BK117.out 0
                      have hfz277_1 := blk_frozen BK117.out 1
                      go_wp2_with (first | ((with_reducible refine gate_callee (f := 14) rfl ?_); refine goesL_ (some 82) rfl rfl Try.func14 (by kernel_rfl) rfl #[.agg #[.int .i64 a2_0, .int .i64 a2_1]] rfl (by (try simp only [List.map_toArray, List.map_cons, List.map_nil]); first | done | rfl | (simp only [List.length_drop, List.length_take]; rfl)) ?_; (with_reducible refine (deadboltref06_Right.calls a2_0 a2_1 false _ A55.out).mono ?_); rintro e w278 ⟨rfl, hb⟩; refine ⟨_, rfl, ?_⟩; have n0_ := Aside0.mk (blk_below (g := gb117) (o := .cells #[.int .i64 a2_0, .int .i64 a2_1] 27 (0, 0)) (by (with_reducible repeat (first | refine blk_drewN ?_ _ | refine blk_drew ?_ | refine blk_alloc ?_ _)); exact BK117.out) hb); have n1_ := Aside0.mk (blk_below (g := gb124) (o := .cells #[.int .i64 t120, .int .i64 t121] 27 (0, 0)) (by (with_reducible repeat (first | refine blk_drewN ?_ _ | refine blk_drew ?_ | refine blk_alloc ?_ _)); exact BK124.out) hb); have n2_ := Aside0.mk (blk_below (g := gb130) (o := .cells #[.int .i64 t127, .int .i64 t128] 27 (0, 0)) (by (with_reducible repeat (first | refine blk_drewN ?_ _ | refine blk_drew ?_ | refine blk_alloc ?_ _)); exact BK130.out) hb); have n3_ := Aside0.mk (blk_below (g := gb133) (o := .cells #[.int .i64 0, .int .i64 0] 27 (0, 0)) (by (with_reducible repeat (first | refine blk_drewN ?_ _ | refine blk_drew ?_ | refine blk_alloc ?_ _)); exact BK133.out) hb); have n4_ := Aside0.mk (below_step (by repeat (first | (with_reducible first | exact HB.out | apply below_alloc | apply pw_below_drewN | apply below_drew1 | refine below_set ?_ GE117.out | refine below_set ?_ GE124.out | refine below_set ?_ GE130.out | refine below_set ?_ GE133.out) | exact HB.out)) hb); clear BK117; clear BK124; clear BK130; clear BK133; clear HB; have BK117 := n0_; have BK124 := n1_; have BK130 := n2_; have BK133 := n3_; have HB := n4_; clear n0_ n1_ n2_ n3_ n4_; (try clear hb); (try clear hb2); (try clear hk); (try clear hi)))
                      go_ret
                      exact ⟨by first | rfl | (simp [errW_none, errW_some] <;> rfl) | (simp [*, errW_none, errW_some] <;> rfl), by repeat (first | (with_reducible first | exact HB.out | apply below_alloc | apply pw_below_drewN | apply below_drew1 | refine below_set ?_ GE117.out | refine below_set ?_ GE124.out | refine below_set ?_ GE130.out | refine below_set ?_ GE133.out) | exact HB.out)⟩

end Go.Proofs.Ytokobpgpdddndaa.PSpinTells
