/- The functions that a law reaches, as Lean functions, and for each a proof that the call hands back just what its Lean function says; no conditions beyond each statement. Written by a program of this session (a changed copy of the print). -/
import Derived.Test.YtfebhemdpbnebaaDoorPProgTidyx0
import Derived.Test.YtfebhemdpbnebaaDoorPProgTidyx5
import Derived.Test.YtfebhemdpbnebaaDoorPProgTidyx6
namespace Go.Proofs.YtfebhemdpbnebaaDoor.PProgTidy
open Go.Proofs.YtfebhemdpbnebaaDoor.Hand
open Go.RowKit Go.Proofs.YtfebhemdpbnebaaDoorW.PrintWords Go.Proofs.YtfebhemdpbnebaaDoorW.PrintLast Go.Proofs.YtfebhemdpbnebaaDoorW.PrintMore
attribute [local go_sem] max2_int min2_int max_two min_two max_three min_three max_four min_four   -- for this text's walks alone
set_option linter.unusedVariables false
set_option linter.unusedSimpArgs false

theorem zA {α : Type} {d : Kd α} {e : Nat} {w : World} {base : Nat} {ok : Nat → Prop} {v : Value} {xs : List α} (h : d.R e w base ok v xs) (o : Obj) : d.R e (w.alloc o) base ok v xs := Kd.R_alloc h o
theorem zD {α : Type} {d : Kd α} {e : Nat} {w : World} {base : Nat} {ok : Nat → Prop} {v : Value} {xs : List α} (h : d.R e w base ok v xs) : d.R e w.drew base ok v xs := Kd.R_drew h
theorem zN {α : Type} {d : Kd α} {e : Nat} {w : World} {base : Nat} {ok : Nat → Prop} {v : Value} {xs : List α} (h : d.R e w base ok v xs) (m : Nat) : d.R e (w.drewN m) base ok v xs := Kd.R_drewN h m
theorem bA {w W : World} (h : Below w.heap.size w W) (o : Obj) : Below w.heap.size w (W.alloc o) := below_alloc h o
theorem bN {B : Nat} {w W : World} (h : Below B w W) (n : Nat) : Below B w (W.drewN n) := pw_below_drewN h n
theorem bD {B : Nat} {w W : World} (h : Below B w W) : Below B w W.drew := below_drew1 h
/-! ### deadboltlaw12_ProgTidy: function 4 -/
def deadboltlaw12_ProgTidy.j0 : Nat → List (S32) → Int → Int → Bool → Bool → Option (Bool)
 | 0, _, _, _, _, _ => none
 | k + 1, x0, x2, x3, x10, x44 => if x44 = true then (some false) else (if (wrap64 ((x0.length : Int) + 1)) = 0 then (none) else ((some (([] : List (S32)) : List (S32))).bind fun y212 => (if 0 ≤ (Int.tmod (wrap64 ((wrap64 ((Int.tmod x2 (wrap64 ((x0.length : Int) + 1))) + (x0.length : Int))) + 1)) (wrap64 ((x0.length : Int) + 1))) then (if (Int.tmod (wrap64 ((wrap64 ((Int.tmod x2 (wrap64 ((x0.length : Int) + 1))) + (x0.length : Int))) + 1)) (wrap64 ((x0.length : Int) + 1))) ≤ (x0.length : Int) then ((some (x0.take ((Int.tmod (wrap64 ((wrap64 ((Int.tmod x2 (wrap64 ((x0.length : Int) + 1))) + (x0.length : Int))) + 1)) (wrap64 ((x0.length : Int) + 1))) : Int).toNat : List (S32))).bind fun y215 => (if y212.length + y215.length < 8796093022208 then ((some (y212 ++ y215 : List (S32))).bind fun y219 => ((some (([(⟨3, x3⟩ : S32)] : List (S32)) : List (S32))).bind fun y222 => (if y219.length + y222.length < 8796093022208 then ((some (y219 ++ y222 : List (S32))).bind fun y225 => ((some (x0.drop ((Int.tmod (wrap64 ((wrap64 ((Int.tmod x2 (wrap64 ((x0.length : Int) + 1))) + (x0.length : Int))) + 1)) (wrap64 ((x0.length : Int) + 1))) : Int).toNat : List (S32))).bind fun y228 => (if y225.length + y228.length < 8796093022208 then ((some (([] : List (S32)) : List (S32))).bind fun y235 => (if y235.length + x0.length < 8796093022208 then ((some (y235 ++ x0 : List (S32))).bind fun y238 => ((some (([(⟨0, x3⟩ : S32)] : List (S32)) : List (S32))).bind fun y241 => (if y238.length + y241.length < 8796093022208 then ((some (y238 ++ y241 : List (S32))).bind fun y244 => ((some (([] : List (S32)) : List (S32))).bind fun y247 => (if y247.length + y244.length < 8796093022208 then ((some (y247 ++ y244 : List (S32))).bind fun y250 => ((some (([(⟨2, x3⟩ : S32)] : List (S32)) : List (S32))).bind fun y253 => (if y250.length + y253.length < 8796093022208 then ((prog_Tidy.f k (y225 ++ y228)).bind fun t259 => (if (t259 == x10) = true then ((prog_Tidy.f k y244).bind fun t260 => (if t260 = true then (some false) else (if x10 = true then ((prog_Tidy.f k (y250 ++ y253)).bind fun t261 => (some t261)) else (some true)))) else (some false))) else (none)))) else (none)))) else (none)))) else (none))) else (none)))) else (none)))) else (none))) else (none)) else (none))))
def deadboltlaw12_ProgTidy.f (k : Nat) (l0 : List (S32)) (l1 : List (S32)) (a2 : Int) (a3 : Int) : Option (Bool) := if 0 ≤ (mn (l0.length : Int) 70) then (if (mn (l0.length : Int) 70) ≤ (l0.length : Int) then ((some (l0.take ((mn (l0.length : Int) 70) : Int).toNat : List (S32))).bind fun y190 => (if 0 ≤ (mn (l1.length : Int) 70) then (if (mn (l1.length : Int) 70) ≤ (l1.length : Int) then ((some (l1.take ((mn (l1.length : Int) 70) : Int).toNat : List (S32))).bind fun y194 => ((some (([] : List (S32)) : List (S32))).bind fun y198 => (if y198.length + y190.length < 8796093022208 then ((some (y198 ++ y190 : List (S32))).bind fun y201 => (if y201.length + y194.length < 8796093022208 then ((prog_Tidy.f k y190).bind fun t207 => ((prog_Tidy.f k y194).bind fun t208 => (if t207 = true then ((prog_Tidy.f k (y201 ++ y194)).bind fun t209 => (if (t209 != t208) = true then (deadboltlaw12_ProgTidy.j0 k y190 a2 a3 t207 true) else ((deadboltlaw12_alive.f k).bind fun t210 => (deadboltlaw12_ProgTidy.j0 k y190 a2 a3 t207 (!t210))))) else ((deadboltlaw12_alive.f k).bind fun t211 => (deadboltlaw12_ProgTidy.j0 k y190 a2 a3 t207 (!t211)))))) else (none))) else (none)))) else (none)) else (none))) else (none)) else (none)
theorem deadboltlaw12_ProgTidy.mono_l : ∀ k, (∀ y0 y1 y2 y3 y4, LeO (deadboltlaw12_ProgTidy.j0 k y0 y1 y2 y3 y4) (deadboltlaw12_ProgTidy.j0 (k + 1) y0 y1 y2 y3 y4))
 | 0 => fun _ _ _ _ _ r h => by simp [deadboltlaw12_ProgTidy.j0] at h
 | k + 1 => by
  have ih0 := deadboltlaw12_ProgTidy.mono_l k
  ·intro y0 y1 y2 y3 y4
   unfold deadboltlaw12_ProgTidy.j0
   repeat' first
   | (with_reducible exact ih0 _ _ _ _ _)
   | (with_reducible exact deadboltlaw12_alive.mono _)
   | (with_reducible exact prog_Tidy.mono _ _)
   | (with_reducible exact LeO.refl _)
   | (with_reducible exact LeO.none _)
   | (with_reducible refine LeO.ite ?_ ?_)
   | (with_reducible refine LeO.bind ?_ (fun _ => ?_))
   | exact ih0 _ _ _ _ _
   | exact deadboltlaw12_alive.mono _
   | exact prog_Tidy.mono _ _
   | exact LeO.none _
   | refine LeO.ite ?_ ?_
   | refine LeO.bind ?_ (fun _ => ?_)
theorem deadboltlaw12_ProgTidy.mono : ∀ a0 a1 a2 a3 k, LeO (deadboltlaw12_ProgTidy.f k a0 a1 a2 a3) (deadboltlaw12_ProgTidy.f (k + 1) a0 a1 a2 a3) := by
 intro a0 a1 a2 a3 k
 have ih0 := deadboltlaw12_ProgTidy.mono_l k
 unfold deadboltlaw12_ProgTidy.f
 repeat' first
   | (with_reducible exact ih0 _ _ _ _ _)
   | (with_reducible exact deadboltlaw12_alive.mono _)
   | (with_reducible exact prog_Tidy.mono _ _)
   | (with_reducible exact LeO.refl _)
   | (with_reducible exact LeO.none _)
   | (with_reducible refine LeO.ite ?_ ?_)
   | (with_reducible refine LeO.bind ?_ (fun _ => ?_))
   | exact ih0 _ _ _ _ _
   | exact deadboltlaw12_alive.mono _
   | exact prog_Tidy.mono _ _
   | exact LeO.none _
   | refine LeO.ite ?_ ?_
   | refine LeO.bind ?_ (fun _ => ?_)
def deadboltlaw12_ProgTidy.T1 : Bool × List (List Nat × List Nat) := (true, [([], []), ([], []), ([1], [1]), ([2], [2]), ([0, 3], [0, 3]), ([], []), ([], []), ([6], [6]), ([7], [7]), ([5, 8], [5, 8]), ([4, 0, 1, 2, 3, 4], [0, 1, 4]), ([9, 10, 0, 1, 2, 3, 4, 5, 6, 7, 8, 9, 10], [5, 6, 9])])
def deadboltlaw12_ProgTidy.B1 : List Nat := [0, 0, 2, 6, 15, 0, 0, 64, 192, 480, 31, 2047]
theorem deadboltlaw12_ProgTidy.tab1 : rtab .any (opsOf Tryd.f4 1) = deadboltlaw12_ProgTidy.T1 := by kernel_rfl
theorem deadboltlaw12_ProgTidy.bits1 : waitsOk deadboltlaw12_ProgTidy.T1.2 deadboltlaw12_ProgTidy.B1 = true := by kernel_rfl
def deadboltlaw12_ProgTidy.T7 : Bool × List (List Nat × List Nat) := (true, [([], []), ([], []), ([], []), ([1, 2], [1, 2]), ([0, 3], [0, 3]), ([], []), ([5], [5]), ([6], [6]), ([4, 7, 4], [4, 7]), ([], []), ([], []), ([9, 10], [9, 10]), ([8, 11, 8], [8, 11]), ([12, 12, 0, 1, 2, 3, 4, 5, 6, 7, 8, 9, 10, 11, 12], [12])])
def deadboltlaw12_ProgTidy.B7 : List Nat := [0, 0, 0, 6, 15, 0, 32, 96, 255, 0, 0, 1536, 4095, 8191]
theorem deadboltlaw12_ProgTidy.tab7 : rtab .any (opsOf Tryd.f4 7) = deadboltlaw12_ProgTidy.T7 := by kernel_rfl
theorem deadboltlaw12_ProgTidy.bits7 : waitsOk deadboltlaw12_ProgTidy.T7.2 deadboltlaw12_ProgTidy.B7 = true := by kernel_rfl
set_option maxHeartbeats 8000000 in
set_option maxRecDepth 100000 in
theorem deadboltlaw12_ProgTidy.calls (k : Nat) (A0 : Option Addr) (c0 : Nat) (l0 : List (S32)) (A1 : Option Addr) (c1 : Nat) (l1 : List (S32)) (a2 : Int) (a3 : Int) (r : Bool) (w : World) (hr0 : Kd.C k32 w A0 l0.length l0) (hc0 : l0.length ≤ c0) (hr1 : Kd.C k32 w A1 l1.length l1) (hc1 : l1.length ≤ c1) (h : deadboltlaw12_ProgTidy.f k l0 l1 a2 a3 = some r) (hT : Laid w) :
  Calls Tryd.prog 4 #[.slice A0 l0.length c0, .slice A1 l1.length c1, .int .i64 a2, .int .i64 a3] w fun e w' => e = .returned (.bool r) ∧ Below w.heap.size w w' := by
 have HT := Aside0.mk hT
 clear hT
 have hu32 := Tryd.underlying32
 have HR0 := Aside0.mk hr0
 have HC0 := Aside0.mk hc0
 clear hr0 hc0
 have HR1 := Aside0.mk hr1
 have HC1 := Aside0.mk hc1
 clear hr1 hc1
 have HB := Aside0.mk (Below.refl w.heap.size w)
 have H : (if 0 ≤ (mn (l0.length : Int) 70) then (if (mn (l0.length : Int) 70) ≤ (l0.length : Int) then ((some (l0.take ((mn (l0.length : Int) 70) : Int).toNat : List (S32))).bind fun y190 => (if 0 ≤ (mn (l1.length : Int) 70) then (if (mn (l1.length : Int) 70) ≤ (l1.length : Int) then ((some (l1.take ((mn (l1.length : Int) 70) : Int).toNat : List (S32))).bind fun y194 => ((some (([] : List (S32)) : List (S32))).bind fun y198 => (if y198.length + y190.length < 8796093022208 then ((some (y198 ++ y190 : List (S32))).bind fun y201 => (if y201.length + y194.length < 8796093022208 then ((prog_Tidy.f k y190).bind fun t207 => ((prog_Tidy.f k y194).bind fun t208 => (if t207 = true then ((prog_Tidy.f k (y201 ++ y194)).bind fun t209 => (if (t209 != t208) = true then (deadboltlaw12_ProgTidy.j0 k y190 a2 a3 t207 true) else ((deadboltlaw12_alive.f k).bind fun t210 => (deadboltlaw12_ProgTidy.j0 k y190 a2 a3 t207 (!t210))))) else ((deadboltlaw12_alive.f k).bind fun t211 => (deadboltlaw12_ProgTidy.j0 k y190 a2 a3 t207 (!t211)))))) else (none))) else (none)))) else (none)) else (none))) else (none)) else (none)) = some r := h
 clear h
 obtain ⟨ji5, hji5⟩ : ∃ j_ : Int, (mn (l0.length : Int) 70) = j_ := ⟨_, rfl⟩
 replace H : (if 0 ≤ (ji5) then (if (ji5) ≤ (l0.length : Int) then ((some (l0.take ((ji5) : Int).toNat : List (S32))).bind fun y190 => (if 0 ≤ (mn (l1.length : Int) 70) then (if (mn (l1.length : Int) 70) ≤ (l1.length : Int) then ((some (l1.take ((mn (l1.length : Int) 70) : Int).toNat : List (S32))).bind fun y194 => ((some (([] : List (S32)) : List (S32))).bind fun y198 => (if y198.length + y190.length < 8796093022208 then ((some (y198 ++ y190 : List (S32))).bind fun y201 => (if y201.length + y194.length < 8796093022208 then ((prog_Tidy.f k y190).bind fun t207 => ((prog_Tidy.f k y194).bind fun t208 => (if t207 = true then ((prog_Tidy.f k (y201 ++ y194)).bind fun t209 => (if (t209 != t208) = true then (deadboltlaw12_ProgTidy.j0 k y190 a2 a3 t207 true) else ((deadboltlaw12_alive.f k).bind fun t210 => (deadboltlaw12_ProgTidy.j0 k y190 a2 a3 t207 (!t210))))) else ((deadboltlaw12_alive.f k).bind fun t211 => (deadboltlaw12_ProgTidy.j0 k y190 a2 a3 t207 (!t211)))))) else (none))) else (none)))) else (none)) else (none))) else (none)) else (none)) = some r := by first | (rw [hji5] at H; exact H) | (simp only [hji5] at H ⊢; exact H)
 (try (have hji5h : ji5 ≤ 70 := by (rw [← hji5]; unfold mn; (repeat' split) <;> omega)))
 (try (have hji5g : ji5 ≤ 64 := by omega))
 (try (have hji5l : 0 ≤ ji5 := by (rw [← hji5]; unfold mn; (repeat' split) <;> omega)))
 (try (have hji5m : 0 ≤ ji5 := by omega))
 have hji5_ : (if 70 < (l0.length : Int) then 70 else (l0.length : Int)) = ji5 := hji5
 by_cases c6 : 0 ≤ (ji5)
 rotate_left
 ·rw [if_neg c6] at H
  exact absurd H (by simp)

 rw [if_pos c6] at H
 have c6b0 := eq_true c6
 have c6b1 : decide (0 ≤ (ji5)) = true := decide_eq_true c6
 clear c6
 by_cases c7 : (ji5) ≤ (l0.length : Int)
 rotate_left
 ·rw [if_neg c7] at H
  exact absurd H (by simp)
 rw [if_pos c7] at H
 have c7b0 := eq_true c7
 have c7b1 : decide ((ji5) ≤ (l0.length : Int)) = true := decide_eq_true c7
 clear c7
 obtain ⟨y190, hy190⟩ : ∃ y_ : List (S32), y_ = (l0.take ((ji5) : Int).toNat) := ⟨_, rfl⟩
 replace H : (if 0 ≤ (mn (l1.length : Int) 70) then (if (mn (l1.length : Int) 70) ≤ (l1.length : Int) then ((some (l1.take ((mn (l1.length : Int) 70) : Int).toNat : List (S32))).bind fun y194 => ((some (([] : List (S32)) : List (S32))).bind fun y198 => (if y198.length + y190.length < 8796093022208 then ((some (y198 ++ y190 : List (S32))).bind fun y201 => (if y201.length + y194.length < 8796093022208 then ((prog_Tidy.f k y190).bind fun t207 => ((prog_Tidy.f k y194).bind fun t208 => (if t207 = true then ((prog_Tidy.f k (y201 ++ y194)).bind fun t209 => (if (t209 != t208) = true then (deadboltlaw12_ProgTidy.j0 k y190 a2 a3 t207 true) else ((deadboltlaw12_alive.f k).bind fun t210 => (deadboltlaw12_ProgTidy.j0 k y190 a2 a3 t207 (!t210))))) else ((deadboltlaw12_alive.f k).bind fun t211 => (deadboltlaw12_ProgTidy.j0 k y190 a2 a3 t207 (!t211)))))) else (none))) else (none)))) else (none)) else (none)) = some r := by first | (rw [hy190]; with_reducible exact H) | (have H2_ := (Option.bind_some _ _).symm.trans H; rw [hy190]; with_reducible exact H2_) | (have H2_ := (Option.bind_some _ _).symm.trans H; with_reducible exact H2_) | with_reducible exact H | (rw [hy190]; exact H) | exact H
 have Ny190 := Aside0.mk hy190
 clear hy190
 obtain ⟨ji8, hji8⟩ : ∃ j_ : Int, (mn (l1.length : Int) 70) = j_ := ⟨_, rfl⟩
 replace H : (if 0 ≤ (ji8) then (if (ji8) ≤ (l1.length : Int) then ((some (l1.take ((ji8) : Int).toNat : List (S32))).bind fun y194 => ((some (([] : List (S32)) : List (S32))).bind fun y198 => (if y198.length + y190.length < 8796093022208 then ((some (y198 ++ y190 : List (S32))).bind fun y201 => (if y201.length + y194.length < 8796093022208 then ((prog_Tidy.f k y190).bind fun t207 => ((prog_Tidy.f k y194).bind fun t208 => (if t207 = true then ((prog_Tidy.f k (y201 ++ y194)).bind fun t209 => (if (t209 != t208) = true then (deadboltlaw12_ProgTidy.j0 k y190 a2 a3 t207 true) else ((deadboltlaw12_alive.f k).bind fun t210 => (deadboltlaw12_ProgTidy.j0 k y190 a2 a3 t207 (!t210))))) else ((deadboltlaw12_alive.f k).bind fun t211 => (deadboltlaw12_ProgTidy.j0 k y190 a2 a3 t207 (!t211)))))) else (none))) else (none)))) else (none)) else (none)) = some r := by first | (rw [hji8] at H; exact H) | (simp only [hji8] at H ⊢; exact H)
 (try (have hji8h : ji8 ≤ 70 := by (rw [← hji8]; unfold mn; (repeat' split) <;> omega)))
 (try (have hji8g : ji8 ≤ 64 := by omega))
 (try (have hji8l : 0 ≤ ji8 := by (rw [← hji8]; unfold mn; (repeat' split) <;> omega)))
 (try (have hji8m : 0 ≤ ji8 := by omega))
 have hji8_ : (if 70 < (l1.length : Int) then 70 else (l1.length : Int)) = ji8 := hji8
 by_cases c9 : 0 ≤ (ji8)
 rotate_left
 ·rw [if_neg c9] at H
  exact absurd H (by simp)
 rw [if_pos c9] at H
 have c9b0 := eq_true c9
 have c9b1 : decide (0 ≤ (ji8)) = true := decide_eq_true c9
 clear c9
 by_cases c10 : (ji8) ≤ (l1.length : Int)
 rotate_left
 ·rw [if_neg c10] at H
  exact absurd H (by simp)
 rw [if_pos c10] at H
 have c10b0 := eq_true c10
 have c10b1 : decide ((ji8) ≤ (l1.length : Int)) = true := decide_eq_true c10
 clear c10
 obtain ⟨y194, hy194⟩ : ∃ y_ : List (S32), y_ = (l1.take ((ji8) : Int).toNat) := ⟨_, rfl⟩
 replace H : ((some (([] : List (S32)) : List (S32))).bind fun y198 => (if y198.length + y190.length < 8796093022208 then ((some (y198 ++ y190 : List (S32))).bind fun y201 => (if y201.length + y194.length < 8796093022208 then ((prog_Tidy.f k y190).bind fun t207 => ((prog_Tidy.f k y194).bind fun t208 => (if t207 = true then ((prog_Tidy.f k (y201 ++ y194)).bind fun t209 => (if (t209 != t208) = true then (deadboltlaw12_ProgTidy.j0 k y190 a2 a3 t207 true) else ((deadboltlaw12_alive.f k).bind fun t210 => (deadboltlaw12_ProgTidy.j0 k y190 a2 a3 t207 (!t210))))) else ((deadboltlaw12_alive.f k).bind fun t211 => (deadboltlaw12_ProgTidy.j0 k y190 a2 a3 t207 (!t211)))))) else (none))) else (none))) = some r := by first | (rw [hy194]; with_reducible exact H) | (have H2_ := (Option.bind_some _ _).symm.trans H; rw [hy194]; with_reducible exact H2_) | (have H2_ := (Option.bind_some _ _).symm.trans H; with_reducible exact H2_) | with_reducible exact H | (rw [hy194]; exact H) | exact H
 have Ny194 := Aside0.mk hy194
 clear hy194
 obtain ⟨y198, hy198⟩ : ∃ y_ : List (S32), y_ = (([] : List (S32))) := ⟨_, rfl⟩
 replace H : (if y198.length + y190.length < 8796093022208 then ((some (y198 ++ y190 : List (S32))).bind fun y201 => (if y201.length + y194.length < 8796093022208 then ((prog_Tidy.f k y190).bind fun t207 => ((prog_Tidy.f k y194).bind fun t208 => (if t207 = true then ((prog_Tidy.f k (y201 ++ y194)).bind fun t209 => (if (t209 != t208) = true then (deadboltlaw12_ProgTidy.j0 k y190 a2 a3 t207 true) else ((deadboltlaw12_alive.f k).bind fun t210 => (deadboltlaw12_ProgTidy.j0 k y190 a2 a3 t207 (!t210))))) else ((deadboltlaw12_alive.f k).bind fun t211 => (deadboltlaw12_ProgTidy.j0 k y190 a2 a3 t207 (!t211)))))) else (none))) else (none)) = some r := by first | (rw [hy198]; with_reducible exact H) | (have H2_ := (Option.bind_some _ _).symm.trans H; rw [hy198]; with_reducible exact H2_) | (have H2_ := (Option.bind_some _ _).symm.trans H; with_reducible exact H2_) | with_reducible exact H | (rw [hy198]; exact H) | exact H
 have Ny198 := Aside0.mk hy198
 clear hy198
 by_cases c11 : y198.length + y190.length < 8796093022208
 rotate_left
 ·rw [if_neg c11] at H
  exact absurd H (by simp)
 rw [if_pos c11] at H
 have LMc11 := Aside0.mk c11
 clear c11
 obtain ⟨y201, hy201⟩ : ∃ y_ : List (S32), y_ = (y198 ++ y190) := ⟨_, rfl⟩
 replace H : (if y201.length + y194.length < 8796093022208 then ((prog_Tidy.f k y190).bind fun t207 => ((prog_Tidy.f k y194).bind fun t208 => (if t207 = true then ((prog_Tidy.f k (y201 ++ y194)).bind fun t209 => (if (t209 != t208) = true then (deadboltlaw12_ProgTidy.j0 k y190 a2 a3 t207 true) else ((deadboltlaw12_alive.f k).bind fun t210 => (deadboltlaw12_ProgTidy.j0 k y190 a2 a3 t207 (!t210))))) else ((deadboltlaw12_alive.f k).bind fun t211 => (deadboltlaw12_ProgTidy.j0 k y190 a2 a3 t207 (!t211)))))) else (none)) = some r := by first | (rw [hy201]; with_reducible exact H) | (have H2_ := (Option.bind_some _ _).symm.trans H; rw [hy201]; with_reducible exact H2_) | (have H2_ := (Option.bind_some _ _).symm.trans H; with_reducible exact H2_) | with_reducible exact H | (rw [hy201]; exact H) | exact H
 have Ny201 := Aside0.mk hy201
 clear hy201
 by_cases c12 : y201.length + y194.length < 8796093022208
 rotate_left
 ·rw [if_neg c12] at H
  exact absurd H (by simp)
 rw [if_pos c12] at H
 have LMc12 := Aside0.mk c12
 clear c12
 obtain ⟨y204, hy204⟩ : ∃ y_ : List (S32), y_ = (y201 ++ y194) := ⟨_, rfl⟩
 replace H : ((prog_Tidy.f k y190).bind fun t207 => ((prog_Tidy.f k y194).bind fun t208 => (if t207 = true then ((prog_Tidy.f k y204).bind fun t209 => (if (t209 != t208) = true then (deadboltlaw12_ProgTidy.j0 k y190 a2 a3 t207 true) else ((deadboltlaw12_alive.f k).bind fun t210 => (deadboltlaw12_ProgTidy.j0 k y190 a2 a3 t207 (!t210))))) else ((deadboltlaw12_alive.f k).bind fun t211 => (deadboltlaw12_ProgTidy.j0 k y190 a2 a3 t207 (!t211)))))) = some r := by first | (rw [hy204]; with_reducible exact H) | (have H2_ := (Option.bind_some _ _).symm.trans H; rw [hy204]; with_reducible exact H2_) | (have H2_ := (Option.bind_some _ _).symm.trans H; with_reducible exact H2_) | with_reducible exact H | (rw [hy204]; exact H) | exact H
 have Ny204 := Aside0.mk hy204
 clear hy204
 replace H := Option.bind_eq_some_iff.mp H
 obtain ⟨t207, A130, H⟩ := H
 replace H : ((prog_Tidy.f k y194).bind fun t208 => (if t207 = true then ((prog_Tidy.f k y204).bind fun t209 => (if (t209 != t208) = true then (deadboltlaw12_ProgTidy.j0 k y190 a2 a3 t207 true) else ((deadboltlaw12_alive.f k).bind fun t210 => (deadboltlaw12_ProgTidy.j0 k y190 a2 a3 t207 (!t210))))) else ((deadboltlaw12_alive.f k).bind fun t211 => (deadboltlaw12_ProgTidy.j0 k y190 a2 a3 t207 (!t211))))) = some r := H
 have A13 := Aside0.mk A130
 clear A130
 replace H := Option.bind_eq_some_iff.mp H
 obtain ⟨t208, A140, H⟩ := H
 replace H : (if t207 = true then ((prog_Tidy.f k y204).bind fun t209 => (if (t209 != t208) = true then (deadboltlaw12_ProgTidy.j0 k y190 a2 a3 t207 true) else ((deadboltlaw12_alive.f k).bind fun t210 => (deadboltlaw12_ProgTidy.j0 k y190 a2 a3 t207 (!t210))))) else ((deadboltlaw12_alive.f k).bind fun t211 => (deadboltlaw12_ProgTidy.j0 k y190 a2 a3 t207 (!t211)))) = some r := H
 have A14 := Aside0.mk A140
 clear A140
 have HC15 := Aside0.mk H
 clear H
 go_enter Tryd.func4, Tryd.ntmps4
 try go_wp2
 have n0_ := Aside0.mk (below_drew1 HB.out)
 clear HB
 have HB := n0_
 clear n0_
 have q17 : ((ji5) : Int) ≤ ((l0.length : Int) : Int) := of_decide_eq_true (by first | (with_reducible assumption) | assumption)
 obtain ⟨i017, hi017, _, hsz17, _⟩ := info_parts info32
 have hroom17 : l0.length ≤ c0 := HC0.out
 have hC17 : Kd.C k32 _ A0 l0.length l0 := HR0.out
 have hcut17 := cut_to (P := Tryd.prog) 29 32 .i64 Tryd.underlying29 hi017 A0 l0.length c0 (ji5) (of_decide_eq_true (by first | (with_reducible assumption) | assumption)) q17 hroom17
 have hr17 := Kd.C_take (m := ((ji5) : Int).toNat) hC17 (by omega)
 have hy17 : y190.length = ((ji5) : Int).toNat := (by rw [Ny190.out, List.length_take]; omega)
 rw [← Ny190.out] at hr17
 rw [← hy17] at hcut17
 have HR193 := Aside0.mk hr17
 have HC193 := Aside0.mk (show y190.length ≤ c0 from by omega)
 clear hr17 hC17 hroom17 hi017 hsz17
 have KY17 := Aside0.mk hy17
 clear hy17
 replace q17 := eq_true q17
 have q18 : ((ji8) : Int) ≤ ((l1.length : Int) : Int) := of_decide_eq_true (by first | (with_reducible assumption) | assumption)
 obtain ⟨i018, hi018, _, hsz18, _⟩ := info_parts info32
 have hroom18 : l1.length ≤ c1 := HC1.out
 have hC18 : Kd.C k32 _ A1 l1.length l1 := HR1.out
 have hcut18 := cut_to (P := Tryd.prog) 29 32 .i64 Tryd.underlying29 hi018 A1 l1.length c1 (ji8) (of_decide_eq_true (by first | (with_reducible assumption) | assumption)) q18 hroom18
 have hr18 := Kd.C_take (m := ((ji8) : Int).toNat) hC18 (by omega)
 have hy18 : y194.length = ((ji8) : Int).toNat := (by rw [Ny194.out, List.length_take]; omega)
 rw [← Ny194.out] at hr18
 rw [← hy18] at hcut18
 have HR197 := Aside0.mk hr18
 have HC197 := Aside0.mk (show y194.length ≤ c1 from by omega)
 clear hr18 hC18 hroom18 hi018 hsz18
 have KY18 := Aside0.mk hy18
 clear hy18
 replace q18 := eq_true q18
 refine start_ (n := 12) (S := fun w' => True) (ds := []) #[false, false, false, false, false, false, false, false, false, false, false, false] (by kernel_rfl) rfl rfl trivial (fun hHeld => ?_); refine with_tabW deadboltlaw12_ProgTidy.tab1 deadboltlaw12_ProgTidy.bits1 (fun HT_ HW_ => ?_)
 generalize w.drew = w16 at HB HR193 HR197 hHeld ⊢
 refine pure_ (i := 0) (N := some 15) (v := ?_) (a' := ?_) #[true, false, false, false, false, false, false, false, false, false, false, false] rfl rfl (any_of HT_.out (by kernel_rfl)) (fun _ _ _ h => h) (Or.inl ⟨by rfl, ?_⟩) ?_ ?_
 rotate_left
 ·intro w'
  go_simp
  with_reducible rfl
 rotate_left
 ·simp only [Act.put, List.setIfInBounds_toArray, List.set_cons_zero, List.set_cons_succ, i64_w, i32_w]
  rfl
 refine pure_ (i := 1) (N := some 16) (v := ?_) (a' := ?_) #[true, true, false, false, false, false, false, false, false, false, false, false] rfl rfl (any_of HT_.out (by kernel_rfl)) (fun _ _ _ h => h) (Or.inl ⟨by rfl, ?_⟩) ?_ ?_
 rotate_left
 ·intro w'
  go_simp
  with_reducible rfl
 rotate_left
 ·simp only [Act.put, List.setIfInBounds_toArray, List.set_cons_zero, List.set_cons_succ, i64_w, i32_w]
  rfl
 refine pure_ (i := 2) (N := some 17) (v := ?_) (a' := ?_) #[true, true, true, false, false, false, false, false, false, false, false, false] rfl rfl (any_of HT_.out (by kernel_rfl)) (fun _ _ _ h => h) (Or.inl ⟨by rfl, ?_⟩) ?_ ?_
 rotate_left
 ·intro w'
  go_simp
  with_reducible rfl
 rotate_left
 ·simp only [Act.put, List.setIfInBounds_toArray, List.set_cons_zero, List.set_cons_succ, i64_w, i32_w]
  rfl
 refine pure_ (i := 3) (N := some 18) (v := ?_) (a' := ?_) #[true, true, true, true, false, false, false, false, false, false, false, false] rfl rfl (any_of HT_.out (by kernel_rfl)) (fun _ _ _ h => h) (Or.inl ⟨by rfl, ?_⟩) ?_ ?_
 rotate_left
 ·intro w'
  go_simp
  with_reducible rfl
 rotate_left
 ·simp only [Act.put, List.setIfInBounds_toArray, List.set_cons_zero, List.set_cons_succ, i64_w, i32_w]
  rfl
 refine pure_ (i := 4) (N := some 19) (v := ?_) (a' := ?_) #[true, true, true, true, true, false, false, false, false, false, false, false] rfl rfl (any_of HT_.out (by kernel_rfl)) (fun _ _ _ h => h) (Or.inl ⟨by rfl, ?_⟩) ?_ ?_
 rotate_left
 ·intro w'
  go_simp
  with_reducible rfl
 rotate_left
 ·simp only [Act.put, List.setIfInBounds_toArray, List.set_cons_zero, List.set_cons_succ, i64_w, i32_w]
  rfl
 refine pure_ (i := 5) (N := some 20) (v := ?_) (a' := ?_) #[true, true, true, true, true, true, false, false, false, false, false, false] rfl rfl (any_of HT_.out (by kernel_rfl)) (fun _ _ _ h => h) (Or.inl ⟨by rfl, ?_⟩) ?_ ?_
 rotate_left
 ·intro w'
  go_simp
  with_reducible rfl
 rotate_left
 ·simp only [Act.put, List.setIfInBounds_toArray, List.set_cons_zero, List.set_cons_succ, i64_w, i32_w]
  rfl
 refine pure_ (i := 6) (N := some 21) (v := ?_) (a' := ?_) #[true, true, true, true, true, true, true, false, false, false, false, false] rfl rfl (any_of HT_.out (by kernel_rfl)) (fun _ _ _ h => h) (Or.inl ⟨by rfl, ?_⟩) ?_ ?_
 rotate_left
 ·intro w'
  go_simp
  with_reducible rfl
 rotate_left
 ·simp only [Act.put, List.setIfInBounds_toArray, List.set_cons_zero, List.set_cons_succ, i64_w, i32_w]
  rfl
 refine pure_ (i := 7) (N := some 22) (v := ?_) (a' := ?_) #[true, true, true, true, true, true, true, true, false, false, false, false] rfl rfl (any_of HT_.out (by kernel_rfl)) (fun _ _ _ h => h) (Or.inl ⟨by rfl, ?_⟩) ?_ ?_
 rotate_left
 ·intro w'
  go_simp
  with_reducible rfl
 rotate_left
 ·simp only [Act.put, List.setIfInBounds_toArray, List.set_cons_zero, List.set_cons_succ, i64_w, i32_w]
  rfl
 refine pure_ (i := 8) (N := some 23) (v := ?_) (a' := ?_) #[true, true, true, true, true, true, true, true, true, false, false, false] rfl rfl (any_of HT_.out (by kernel_rfl)) (fun _ _ _ h => h) (Or.inl ⟨by rfl, ?_⟩) ?_ ?_
 rotate_left
 ·intro w'
  go_simp
  with_reducible rfl
 rotate_left
 ·simp only [Act.put, List.setIfInBounds_toArray, List.set_cons_zero, List.set_cons_succ, i64_w, i32_w]
  rfl
 refine pure_ (i := 9) (N := some 24) (v := ?_) (a' := ?_) #[true, true, true, true, true, true, true, true, true, true, false, false] rfl rfl (any_of HT_.out (by kernel_rfl)) (fun _ _ _ h => h) (Or.inl ⟨by rfl, ?_⟩) ?_ ?_
 rotate_left
 ·intro w'
  go_simp
  with_reducible rfl
 rotate_left
 ·simp only [Act.put, List.setIfInBounds_toArray, List.set_cons_zero, List.set_cons_succ, i64_w, i32_w]
  rfl
 refine pure_ (i := 10) (N := some 0) (v := ?_) (a' := ?_) #[true, true, true, true, true, true, true, true, true, true, true, false] rfl rfl (any_of HT_.out (by kernel_rfl)) (fun _ _ _ h => h) (Or.inl ⟨by rfl, ?_⟩) ?_ ?_
 rotate_left
 ·intro w'
  go_simp
  with_reducible rfl
 rotate_left
 ·simp only [Act.put, List.setIfInBounds_toArray, List.set_cons_zero, List.set_cons_succ, i64_w, i32_w]
  rfl
 refine pure_ (i := 11) (N := some 1) (v := ?_) (a' := ?_) #[true, true, true, true, true, true, true, true, true, true, true, true] rfl rfl (any_of HT_.out (by kernel_rfl)) (fun _ _ _ h => h) (Or.inl ⟨by rfl, ?_⟩) ?_ ?_
 rotate_left
 ·intro w'
  go_simp
  with_reducible rfl
 rotate_left
 ·simp only [Act.put, List.setIfInBounds_toArray, List.set_cons_zero, List.set_cons_succ, i64_w, i32_w]
  rfl
 refine done_ (done_of HT_.out (by kernel_rfl)) ?_
 go_upto_region 4 with (first | ((with_reducible refine gate_dst (N := 25) rfl ?_); refine Kd.R_lit k32 _ 32 ?hg (N := 25) ?hd (xs := ([] : List (S32))) (inner := []) (ok := fun _ => True) (okp := fun _ => True) ?hr ?hp (fun _ hk => hk) trivial (Below.refl _ _) (Nat.le_refl _) (by simp) ?_; (case hd => rfl); (case hg => rfl); (case hr => first | (go_simp; done) | (go_simp; rfl)); (case hp => exact (Reps.none _ _)); intro v199 w19 ho20 hb hg_ hnew_; clear hg_ hnew_; (first | rw [← Ny198.out] at ho20 | (simp only [Int.reduceToNat] at ho20; rw [← Ny198.out] at ho20)); have n0_ := Aside0.mk (Kd.R_lower ho20 (below_size (by repeat (first | (with_reducible first | exact HB.out | apply bA | apply bN | apply bD) | exact HB.out)))); have n1_ := Aside0.mk (below_step (by repeat (first | (with_reducible first | exact HB.out | apply bA | apply bN | apply bD) | exact HB.out)) hb); clear HB; have HO200 := n0_; have HB := n1_; clear n0_ n1_; clear hb ho20) | ((with_reducible refine gate_builtin (b := .append) (xs := #[.tmp 25, .tmp 26]) rfl ?_); at_builtin; refine Kd.R_append_rows k32 (w0 := w) w.heap.size rfl (.tmp 25) (.tmp 26) 29 32 (.agg #[(.int .i64 0), (.int .i64 0)]) 16 rfl Tryd.underlying29 info32 rfl (by decide) (by omega) v199 y198 y190 _ _ _ (fun _ => True) (fun _ => False) rfl rfl ?aO ?aR (fun _ _ h => h) (fun _ h => h.elim) ?aF ?aB ?aS ?aL ?_; (case aR => repeat (first | exact (Kd.C_below HR193.out HB.out) | (with_reducible refine Kd.C_alloc ?_ _) | (with_reducible refine Kd.C_drewN ?_ _) | (with_reducible refine Kd.C_drew ?_))); (case aB => exact (by repeat (first | (with_reducible first | exact HB.out | apply bA | apply bN | apply bD) | exact HB.out))); (case aF => exact (fun _ _ => trivial)); (case aO => exact (by (with_reducible repeat (first | apply zA | apply zN | apply zD)); exact HO200.out)); (case aS => exact (below_size (by repeat (first | (with_reducible first | exact HB.out | apply bA | apply bN | apply bD) | exact HB.out)))); (case aL => have := LMc11.out; omega); intro v202 w21 ho hb hg hat; rw [← Ny201.out] at ho; have n0_ := Aside0.mk (hb); have n1_ := Aside0.mk (ho); clear HB; clear HO200; have HB := n0_; have HO203 := n1_; clear n0_ n1_; clear ho hb hg hat) | ((with_reducible refine gate_builtin (b := .append) (xs := #[.tmp 27, .tmp 28]) rfl ?_); at_builtin; refine Kd.R_append_rows k32 (w0 := w) w.heap.size rfl (.tmp 27) (.tmp 28) 29 32 (.agg #[(.int .i64 0), (.int .i64 0)]) 16 rfl Tryd.underlying29 info32 rfl (by decide) (by omega) v202 y201 y194 _ _ _ (fun _ => True) (fun _ => False) rfl rfl ?aO ?aR (fun _ _ h => h) (fun _ h => h.elim) ?aF ?aB ?aS ?aL ?_; (case aR => repeat (first | exact (Kd.C_below HR197.out HB.out) | (with_reducible refine Kd.C_alloc ?_ _) | (with_reducible refine Kd.C_drewN ?_ _) | (with_reducible refine Kd.C_drew ?_))); (case aB => exact (by repeat (first | (with_reducible first | exact HB.out | apply bA | apply bN | apply bD) | exact HB.out))); (case aF => exact (fun _ _ => trivial)); (case aO => exact (by (with_reducible repeat (first | apply zA | apply zN | apply zD)); exact HO203.out)); (case aS => exact (below_size (by repeat (first | (with_reducible first | exact HB.out | apply bA | apply bN | apply bD) | exact HB.out)))); (case aL => have := LMc12.out; omega); intro v205 w22 ho hb hg hat; rw [← Ny204.out] at ho; have n0_ := Aside0.mk (hb); have n1_ := Aside0.mk (ho); clear HB; clear HO203; have HB := n0_; have HO206 := n1_; clear n0_ n1_; clear ho hb hg hat) | ((with_reducible refine gate_callee (f := 12) rfl ?_); refine goesL_ (some 31) rfl rfl Tryd.func12 (by kernel_rfl) rfl #[.slice A0 y190.length c0] rfl (by (try simp only [List.map_toArray, List.map_cons, List.map_nil]); first | done | rfl | (simp only [List.length_drop, List.length_take]; rfl)) ?_; (with_reducible refine (prog_Tidy.calls k _ _ y190 t207 _ ?side1 ?side2 A13.out).mono ?_); (case side1 => repeat (first | exact (Kd.C_below HR193.out HB.out) | (with_reducible refine Kd.C_alloc ?_ _) | (with_reducible refine Kd.C_drewN ?_ _) | (with_reducible refine Kd.C_drew ?_))); (case side2 => exact HC193.out); rintro e w23 ⟨rfl, hb⟩; refine ⟨_, rfl, ?_⟩; have n0_ := Aside0.mk (Kd.R_below (by (with_reducible repeat (first | apply zA | apply zN | apply zD)); exact HO206.out) hb); have n1_ := Aside0.mk (below_step (by repeat (first | (with_reducible first | exact HB.out | apply bA | apply bN | apply bD) | exact HB.out)) hb); clear HO206; clear HB; have HO206 := n0_; have HB := n1_; clear n0_ n1_; (try clear hb); (try clear hb2); (try clear hk); (try clear hi)) | ((with_reducible refine gate_callee (f := 12) rfl ?_); refine goesL_ (some 33) rfl rfl Tryd.func12 (by kernel_rfl) rfl #[.slice A1 y194.length c1] rfl (by (try simp only [List.map_toArray, List.map_cons, List.map_nil]); first | done | rfl | (simp only [List.length_drop, List.length_take]; rfl)) ?_; (with_reducible refine (prog_Tidy.calls k _ _ y194 t208 _ ?side1 ?side2 A14.out).mono ?_); (case side1 => repeat (first | exact (Kd.C_below HR197.out HB.out) | (with_reducible refine Kd.C_alloc ?_ _) | (with_reducible refine Kd.C_drewN ?_ _) | (with_reducible refine Kd.C_drew ?_))); (case side2 => exact HC197.out); rintro e w24 ⟨rfl, hb⟩; refine ⟨_, rfl, ?_⟩; have n0_ := Aside0.mk (Kd.R_below (by (with_reducible repeat (first | apply zA | apply zN | apply zD)); exact HO206.out) hb); have n1_ := Aside0.mk (below_step (by repeat (first | (with_reducible first | exact HB.out | apply bA | apply bN | apply bD) | exact HB.out)) hb); clear HO206; clear HB; have HO206 := n0_; have HB := n1_; clear n0_ n1_; (try clear hb); (try clear hb2); (try clear hk); (try clear hi)))
 (try simp only [Act.put, List.setIfInBounds_toArray, List.set_cons_zero, List.set_cons_succ])
 go_cut [44] (fun v44 wc => ∃ (kq : Nat) (x44_14 : Bool), v44 = .bool x44_14 ∧ Aside0 (deadboltlaw12_ProgTidy.j0 kq y190 a2 a3 t207 x44_14 = some r) ∧ Aside0 (kq ≤ k) ∧ Aside0 (Below w.heap.size w wc))
 case first =>
  have H := HC15.out
  clear HC15
  by_cases c25 : t207 = true
  ·subst c25
   have H1 : ((prog_Tidy.f k y204).bind fun t209 => (if (t209 != t208) = true then (deadboltlaw12_ProgTidy.j0 k y190 a2 a3 true true) else ((deadboltlaw12_alive.f k).bind fun t210 => (deadboltlaw12_ProgTidy.j0 k y190 a2 a3 true (!t210))))) = some r := by rw [if_pos rfl] at H; exact H
   clear H
   have H := H1
   clear H1
   replace H := Option.bind_eq_some_iff.mp H
   obtain ⟨t209, A260, H⟩ := H
   replace H : (if (t209 != t208) = true then (deadboltlaw12_ProgTidy.j0 k y190 a2 a3 true true) else ((deadboltlaw12_alive.f k).bind fun t210 => (deadboltlaw12_ProgTidy.j0 k y190 a2 a3 true (!t210)))) = some r := H
   have A26 := Aside0.mk A260
   clear A260
   by_cases c27 : (t209 != t208) = true
   ·rw [if_pos c27] at H
    have c27b0 : (t209 != t208) = true := c27
    (try (have c27b1 : decide (t209 = t208) = false := by simpa using c27))
    (try (have c27b2 : (t209 == t208) = false := by simpa using c27))
    (try (have c27b3 : ¬ (t209 = t208) := by simpa using c27))
    clear c27
    (first | rw [c27b0] | (simp only [i64_w, i32_w]; rw [c27b0]) | skip)
    have H' := Aside0.mk H
    clear H
    obtain ⟨Ao28, co28, eo28⟩ := Kd.R_slice HO206.out
    subst eo28
    go_wp2_with (first | (go_at_call 12; (with_reducible refine (prog_Tidy.calls k _ _ y204 t209 _ ?side1 ?side2 A26.out).mono ?_); (case side1 => repeat (first | exact (Kd.R_reads' HO206.out).2.2 | (with_reducible refine Kd.C_alloc ?_ _) | (with_reducible refine Kd.C_drewN ?_ _) | (with_reducible refine Kd.C_drew ?_))); (case side2 => exact (Kd.R_reads' HO206.out).2.1); rintro e w29 ⟨rfl, hb⟩; have n0_ := Aside0.mk (Kd.R_below (by (with_reducible repeat (first | apply zA | apply zN | apply zD)); exact HO206.out) hb); have n1_ := Aside0.mk (below_step (by repeat (first | (with_reducible first | exact HB.out | apply bA | apply bN | apply bD) | exact HB.out)) hb); clear HO206; clear HB; have HO206 := n0_; have HB := n1_; clear n0_ n1_; (try clear hb); (try clear hb2); (try clear hk); (try clear hi)))
    go_meet
    case rel => exact ⟨_, (true), (by first | rfl | (simp; done) | (simp [*]; done)), H', ⟨by first | omega | exact Nat.le_refl _⟩, ⟨by repeat (first | (with_reducible first | exact HB.out | apply bA | apply bN | apply bD) | exact HB.out)⟩⟩
   ·rw [if_neg c27] at H
    have c27b0 : (t209 != t208) = false := by simpa using c27
    (try (have c27b1 : decide (t209 = t208) = true := by simpa using c27))
    (try (have c27b2 : (t209 == t208) = true := by simpa using c27))
    clear c27
    (first | rw [c27b0] | (simp only [i64_w, i32_w]; rw [c27b0]) | skip)
    replace H := Option.bind_eq_some_iff.mp H
    obtain ⟨t210, A300, H⟩ := H
    replace H : (deadboltlaw12_ProgTidy.j0 k y190 a2 a3 true (!t210)) = some r := H
    have A30 := Aside0.mk A300
    clear A300
    have H' := Aside0.mk H
    clear H
    obtain ⟨Ao31, co31, eo31⟩ := Kd.R_slice HO206.out
    subst eo31
    go_wp2_with (first | (go_at_call 12; (with_reducible refine (prog_Tidy.calls k _ _ y204 t209 _ ?side1 ?side2 A26.out).mono ?_); (case side1 => repeat (first | exact (Kd.R_reads' HO206.out).2.2 | (with_reducible refine Kd.C_alloc ?_ _) | (with_reducible refine Kd.C_drewN ?_ _) | (with_reducible refine Kd.C_drew ?_))); (case side2 => exact (Kd.R_reads' HO206.out).2.1); rintro e w32 ⟨rfl, hb⟩; have n0_ := Aside0.mk (Kd.R_below (by (with_reducible repeat (first | apply zA | apply zN | apply zD)); exact HO206.out) hb); have n1_ := Aside0.mk (below_step (by repeat (first | (with_reducible first | exact HB.out | apply bA | apply bN | apply bD) | exact HB.out)) hb); clear HO206; clear HB; have HO206 := n0_; have HB := n1_; clear n0_ n1_; (try clear hb); (try clear hb2); (try clear hk); (try clear hi)) | (go_at_call 10; (with_reducible refine (deadboltlaw12_alive.calls k  t210 _ A30.out (by first | exact HT.out | (with_reducible refine Laid.below HT.out ?_; repeat (first | (with_reducible first | exact HB.out | apply bA | apply bN | apply bD | refine below_set ?_ (Aside0.out (by assumption))) | exact HB.out)) | (exact Laid.below HT.out (by repeat (first | exact HB.out | exact Below.refl _ _ | apply bA | apply bN | apply bD | refine below_set ?_ (Aside0.out (by assumption))))))).mono ?_); rintro e w33 ⟨rfl, hb⟩; have n0_ := Aside0.mk (Kd.R_below (by (with_reducible repeat (first | apply zA | apply zN | apply zD)); exact HO206.out) hb); have n1_ := Aside0.mk (below_step (by repeat (first | (with_reducible first | exact HB.out | apply bA | apply bN | apply bD) | exact HB.out)) hb); clear HO206; clear HB; have HO206 := n0_; have HB := n1_; clear n0_ n1_; (try clear hb); (try clear hb2); (try clear hk); (try clear hi)))
    go_meet
    case rel => exact ⟨_, (!t210), (by first | rfl | (simp; done) | (simp [*]; done)), H', ⟨by first | omega | exact Nat.le_refl _⟩, ⟨by repeat (first | (with_reducible first | exact HB.out | apply bA | apply bN | apply bD) | exact HB.out)⟩⟩
  ·replace c25 := Bool.eq_false_iff.mpr c25
   subst c25
   have H1 : ((deadboltlaw12_alive.f k).bind fun t211 => (deadboltlaw12_ProgTidy.j0 k y190 a2 a3 false (!t211))) = some r := by rw [if_neg (show ¬ (false = true) by decide)] at H; exact H
   clear H
   have H := H1
   clear H1
   replace H := Option.bind_eq_some_iff.mp H
   obtain ⟨t211, A340, H⟩ := H
   replace H : (deadboltlaw12_ProgTidy.j0 k y190 a2 a3 false (!t211)) = some r := H
   have A34 := Aside0.mk A340
   clear A340
   have H' := Aside0.mk H
   clear H
   go_wp2_with (first | (go_at_call 10; (with_reducible refine (deadboltlaw12_alive.calls k  t211 _ A34.out (by first | exact HT.out | (with_reducible refine Laid.below HT.out ?_; repeat (first | (with_reducible first | exact HB.out | apply bA | apply bN | apply bD | refine below_set ?_ (Aside0.out (by assumption))) | exact HB.out)) | (exact Laid.below HT.out (by repeat (first | exact HB.out | exact Below.refl _ _ | apply bA | apply bN | apply bD | refine below_set ?_ (Aside0.out (by assumption))))))).mono ?_); rintro e w35 ⟨rfl, hb⟩; have n0_ := Aside0.mk (Kd.R_below (by (with_reducible repeat (first | apply zA | apply zN | apply zD)); exact HO206.out) hb); have n1_ := Aside0.mk (below_step (by repeat (first | (with_reducible first | exact HB.out | apply bA | apply bN | apply bD) | exact HB.out)) hb); clear HO206; clear HB; have HO206 := n0_; have HB := n1_; clear n0_ n1_; (try clear hb); (try clear hb2); (try clear hk); (try clear hi)))
   go_meet
   case rel => exact ⟨_, (!t211), (by first | rfl | (simp; done) | (simp [*]; done)), H', ⟨by first | omega | exact Nat.le_refl _⟩, ⟨by repeat (first | (with_reducible first | exact HB.out | apply bA | apply bN | apply bD) | exact HB.out)⟩⟩
 case rest =>
  clear HC15
  try clear c1
  try clear q1
  try clear c2
  try clear p2
  try clear c4
  try clear c6
  try clear c6b0
  try clear c6b1
  try clear c7
  try clear c7b0
  try clear c7b1
  try clear c9
  try clear c9b0
  try clear c9b1
  try clear c10
  try clear c10b0
  try clear c10b1
  try clear c11
  try clear c12
  try clear q17
  try clear q18
  try clear c25
  try clear c27
  try clear c27b0
  try clear c27b1
  try clear c27b2
  try clear q17
  try clear q18
  obtain ⟨kq, x44_14, rfl, HA, HJ14, HB⟩ := hcut
  cases kq with
  | zero => exact absurd HA.out (by simp [deadboltlaw12_ProgTidy.j0])
  | succ kj14 =>
   have H := HA.out
   clear HA
   simp only [deadboltlaw12_ProgTidy.j0] at H
   by_cases c36 : x44_14 = true
   ·subst c36
    have H1 : (some false) = some r := by rw [if_pos rfl] at H; exact H
    clear H
    have H := H1
    clear H1
    obtain rfl := Option.some.inj H
    go_wp2
    go_ret
    exact ⟨by first | rfl | (simp [errW_none, errW_some] <;> rfl) | (simp only [← hji5, ← hji8]; first | rfl | (simp [errW_none, errW_some] <;> rfl)) | (simp [*, errW_none, errW_some] <;> rfl), by repeat (first | (with_reducible first | exact HB.out | apply bA | apply bN | apply bD) | exact HB.out)⟩
   ·replace c36 := Bool.eq_false_iff.mpr c36
    subst c36
    have H1 : (if (wrap64 ((y190.length : Int) + 1)) = 0 then (none) else ((some (([] : List (S32)) : List (S32))).bind fun y212 => (if 0 ≤ (Int.tmod (wrap64 ((wrap64 ((Int.tmod a2 (wrap64 ((y190.length : Int) + 1))) + (y190.length : Int))) + 1)) (wrap64 ((y190.length : Int) + 1))) then (if (Int.tmod (wrap64 ((wrap64 ((Int.tmod a2 (wrap64 ((y190.length : Int) + 1))) + (y190.length : Int))) + 1)) (wrap64 ((y190.length : Int) + 1))) ≤ (y190.length : Int) then ((some (y190.take ((Int.tmod (wrap64 ((wrap64 ((Int.tmod a2 (wrap64 ((y190.length : Int) + 1))) + (y190.length : Int))) + 1)) (wrap64 ((y190.length : Int) + 1))) : Int).toNat : List (S32))).bind fun y215 => (if y212.length + y215.length < 8796093022208 then ((some (y212 ++ y215 : List (S32))).bind fun y219 => ((some (([(⟨3, a3⟩ : S32)] : List (S32)) : List (S32))).bind fun y222 => (if y219.length + y222.length < 8796093022208 then ((some (y219 ++ y222 : List (S32))).bind fun y225 => ((some (y190.drop ((Int.tmod (wrap64 ((wrap64 ((Int.tmod a2 (wrap64 ((y190.length : Int) + 1))) + (y190.length : Int))) + 1)) (wrap64 ((y190.length : Int) + 1))) : Int).toNat : List (S32))).bind fun y228 => (if y225.length + y228.length < 8796093022208 then ((some (([] : List (S32)) : List (S32))).bind fun y235 => (if y235.length + y190.length < 8796093022208 then ((some (y235 ++ y190 : List (S32))).bind fun y238 => ((some (([(⟨0, a3⟩ : S32)] : List (S32)) : List (S32))).bind fun y241 => (if y238.length + y241.length < 8796093022208 then ((some (y238 ++ y241 : List (S32))).bind fun y244 => ((some (([] : List (S32)) : List (S32))).bind fun y247 => (if y247.length + y244.length < 8796093022208 then ((some (y247 ++ y244 : List (S32))).bind fun y250 => ((some (([(⟨2, a3⟩ : S32)] : List (S32)) : List (S32))).bind fun y253 => (if y250.length + y253.length < 8796093022208 then ((prog_Tidy.f kj14 (y225 ++ y228)).bind fun t259 => (if (t259 == t207) = true then ((prog_Tidy.f kj14 y244).bind fun t260 => (if t260 = true then (some false) else (if t207 = true then ((prog_Tidy.f kj14 (y250 ++ y253)).bind fun t261 => (some t261)) else (some true)))) else (some false))) else (none)))) else (none)))) else (none)))) else (none))) else (none)))) else (none)))) else (none))) else (none)) else (none)))) = some r := by rw [if_neg (show ¬ (false = true) by decide)] at H; exact H
    clear H
    have H := H1
    clear H1
    by_cases c37 : (wrap64 ((y190.length : Int) + 1)) = 0
    ·rw [if_pos c37] at H
     exact absurd H (by simp)
    ·rw [if_neg c37] at H
     have c37b0 : ((wrap64 ((y190.length : Int) + 1)) == 0) = false := beq_eq_false_iff_ne.mpr c37
     have c37b1 : ((wrap64 ((y190.length : Int) + 1)) != 0) = true := bne_iff_ne.mpr c37
     obtain ⟨y212, hy212⟩ : ∃ y_ : List (S32), y_ = (([] : List (S32))) := ⟨_, rfl⟩
     replace H : (if 0 ≤ (Int.tmod (wrap64 ((wrap64 ((Int.tmod a2 (wrap64 ((y190.length : Int) + 1))) + (y190.length : Int))) + 1)) (wrap64 ((y190.length : Int) + 1))) then (if (Int.tmod (wrap64 ((wrap64 ((Int.tmod a2 (wrap64 ((y190.length : Int) + 1))) + (y190.length : Int))) + 1)) (wrap64 ((y190.length : Int) + 1))) ≤ (y190.length : Int) then ((some (y190.take ((Int.tmod (wrap64 ((wrap64 ((Int.tmod a2 (wrap64 ((y190.length : Int) + 1))) + (y190.length : Int))) + 1)) (wrap64 ((y190.length : Int) + 1))) : Int).toNat : List (S32))).bind fun y215 => (if y212.length + y215.length < 8796093022208 then ((some (y212 ++ y215 : List (S32))).bind fun y219 => ((some (([(⟨3, a3⟩ : S32)] : List (S32)) : List (S32))).bind fun y222 => (if y219.length + y222.length < 8796093022208 then ((some (y219 ++ y222 : List (S32))).bind fun y225 => ((some (y190.drop ((Int.tmod (wrap64 ((wrap64 ((Int.tmod a2 (wrap64 ((y190.length : Int) + 1))) + (y190.length : Int))) + 1)) (wrap64 ((y190.length : Int) + 1))) : Int).toNat : List (S32))).bind fun y228 => (if y225.length + y228.length < 8796093022208 then ((some (([] : List (S32)) : List (S32))).bind fun y235 => (if y235.length + y190.length < 8796093022208 then ((some (y235 ++ y190 : List (S32))).bind fun y238 => ((some (([(⟨0, a3⟩ : S32)] : List (S32)) : List (S32))).bind fun y241 => (if y238.length + y241.length < 8796093022208 then ((some (y238 ++ y241 : List (S32))).bind fun y244 => ((some (([] : List (S32)) : List (S32))).bind fun y247 => (if y247.length + y244.length < 8796093022208 then ((some (y247 ++ y244 : List (S32))).bind fun y250 => ((some (([(⟨2, a3⟩ : S32)] : List (S32)) : List (S32))).bind fun y253 => (if y250.length + y253.length < 8796093022208 then ((prog_Tidy.f kj14 (y225 ++ y228)).bind fun t259 => (if (t259 == t207) = true then ((prog_Tidy.f kj14 y244).bind fun t260 => (if t260 = true then (some false) else (if t207 = true then ((prog_Tidy.f kj14 (y250 ++ y253)).bind fun t261 => (some t261)) else (some true)))) else (some false))) else (none)))) else (none)))) else (none)))) else (none))) else (none)))) else (none)))) else (none))) else (none)) else (none)) = some r := by first | (rw [hy212]; with_reducible exact H) | (have H2_ := (Option.bind_some _ _).symm.trans H; rw [hy212]; with_reducible exact H2_) | (have H2_ := (Option.bind_some _ _).symm.trans H; with_reducible exact H2_) | with_reducible exact H | (rw [hy212]; exact H) | exact H
     have Ny212 := Aside0.mk hy212
     clear hy212
     obtain ⟨ji38, hji38⟩ : ∃ j_ : Int, (Int.tmod (wrap64 ((wrap64 ((Int.tmod a2 (wrap64 ((y190.length : Int) + 1))) + (y190.length : Int))) + 1)) (wrap64 ((y190.length : Int) + 1))) = j_ := ⟨_, rfl⟩
     replace H : (if 0 ≤ (ji38) then (if (ji38) ≤ (y190.length : Int) then ((some (y190.take ((ji38) : Int).toNat : List (S32))).bind fun y215 => (if y212.length + y215.length < 8796093022208 then ((some (y212 ++ y215 : List (S32))).bind fun y219 => ((some (([(⟨3, a3⟩ : S32)] : List (S32)) : List (S32))).bind fun y222 => (if y219.length + y222.length < 8796093022208 then ((some (y219 ++ y222 : List (S32))).bind fun y225 => ((some (y190.drop ((ji38) : Int).toNat : List (S32))).bind fun y228 => (if y225.length + y228.length < 8796093022208 then ((some (([] : List (S32)) : List (S32))).bind fun y235 => (if y235.length + y190.length < 8796093022208 then ((some (y235 ++ y190 : List (S32))).bind fun y238 => ((some (([(⟨0, a3⟩ : S32)] : List (S32)) : List (S32))).bind fun y241 => (if y238.length + y241.length < 8796093022208 then ((some (y238 ++ y241 : List (S32))).bind fun y244 => ((some (([] : List (S32)) : List (S32))).bind fun y247 => (if y247.length + y244.length < 8796093022208 then ((some (y247 ++ y244 : List (S32))).bind fun y250 => ((some (([(⟨2, a3⟩ : S32)] : List (S32)) : List (S32))).bind fun y253 => (if y250.length + y253.length < 8796093022208 then ((prog_Tidy.f kj14 (y225 ++ y228)).bind fun t259 => (if (t259 == t207) = true then ((prog_Tidy.f kj14 y244).bind fun t260 => (if t260 = true then (some false) else (if t207 = true then ((prog_Tidy.f kj14 (y250 ++ y253)).bind fun t261 => (some t261)) else (some true)))) else (some false))) else (none)))) else (none)))) else (none)))) else (none))) else (none)))) else (none)))) else (none))) else (none)) else (none)) = some r := by first | (rw [hji38] at H; exact H) | (simp only [hji38] at H ⊢; exact H)
     by_cases c39 : 0 ≤ (ji38)
     rotate_left
     ·rw [if_neg c39] at H
      exact absurd H (by simp)
     rw [if_pos c39] at H
     have c39b0 := eq_true c39
     have c39b1 : decide (0 ≤ (ji38)) = true := decide_eq_true c39
     clear c39
     by_cases c40 : (ji38) ≤ (y190.length : Int)
     rotate_left
     ·rw [if_neg c40] at H
      exact absurd H (by simp)
     rw [if_pos c40] at H
     have c40b0 := eq_true c40
     have c40b1 : decide ((ji38) ≤ (y190.length : Int)) = true := decide_eq_true c40
     clear c40
     obtain ⟨y215, hy215⟩ : ∃ y_ : List (S32), y_ = (y190.take ((ji38) : Int).toNat) := ⟨_, rfl⟩
     replace H : (if y212.length + y215.length < 8796093022208 then ((some (y212 ++ y215 : List (S32))).bind fun y219 => ((some (([(⟨3, a3⟩ : S32)] : List (S32)) : List (S32))).bind fun y222 => (if y219.length + y222.length < 8796093022208 then ((some (y219 ++ y222 : List (S32))).bind fun y225 => ((some (y190.drop ((ji38) : Int).toNat : List (S32))).bind fun y228 => (if y225.length + y228.length < 8796093022208 then ((some (([] : List (S32)) : List (S32))).bind fun y235 => (if y235.length + y190.length < 8796093022208 then ((some (y235 ++ y190 : List (S32))).bind fun y238 => ((some (([(⟨0, a3⟩ : S32)] : List (S32)) : List (S32))).bind fun y241 => (if y238.length + y241.length < 8796093022208 then ((some (y238 ++ y241 : List (S32))).bind fun y244 => ((some (([] : List (S32)) : List (S32))).bind fun y247 => (if y247.length + y244.length < 8796093022208 then ((some (y247 ++ y244 : List (S32))).bind fun y250 => ((some (([(⟨2, a3⟩ : S32)] : List (S32)) : List (S32))).bind fun y253 => (if y250.length + y253.length < 8796093022208 then ((prog_Tidy.f kj14 (y225 ++ y228)).bind fun t259 => (if (t259 == t207) = true then ((prog_Tidy.f kj14 y244).bind fun t260 => (if t260 = true then (some false) else (if t207 = true then ((prog_Tidy.f kj14 (y250 ++ y253)).bind fun t261 => (some t261)) else (some true)))) else (some false))) else (none)))) else (none)))) else (none)))) else (none))) else (none)))) else (none)))) else (none)) = some r := by first | (rw [hy215]; with_reducible exact H) | (have H2_ := (Option.bind_some _ _).symm.trans H; rw [hy215]; with_reducible exact H2_) | (have H2_ := (Option.bind_some _ _).symm.trans H; with_reducible exact H2_) | with_reducible exact H | (rw [hy215]; exact H) | exact H
     have Ny215 := Aside0.mk hy215
     clear hy215
     by_cases c41 : y212.length + y215.length < 8796093022208
     rotate_left
     ·rw [if_neg c41] at H
      exact absurd H (by simp)
     rw [if_pos c41] at H
     have LMc41 := Aside0.mk c41
     clear c41
     obtain ⟨y219, hy219⟩ : ∃ y_ : List (S32), y_ = (y212 ++ y215) := ⟨_, rfl⟩
     replace H : ((some (([(⟨3, a3⟩ : S32)] : List (S32)) : List (S32))).bind fun y222 => (if y219.length + y222.length < 8796093022208 then ((some (y219 ++ y222 : List (S32))).bind fun y225 => ((some (y190.drop ((ji38) : Int).toNat : List (S32))).bind fun y228 => (if y225.length + y228.length < 8796093022208 then ((some (([] : List (S32)) : List (S32))).bind fun y235 => (if y235.length + y190.length < 8796093022208 then ((some (y235 ++ y190 : List (S32))).bind fun y238 => ((some (([(⟨0, a3⟩ : S32)] : List (S32)) : List (S32))).bind fun y241 => (if y238.length + y241.length < 8796093022208 then ((some (y238 ++ y241 : List (S32))).bind fun y244 => ((some (([] : List (S32)) : List (S32))).bind fun y247 => (if y247.length + y244.length < 8796093022208 then ((some (y247 ++ y244 : List (S32))).bind fun y250 => ((some (([(⟨2, a3⟩ : S32)] : List (S32)) : List (S32))).bind fun y253 => (if y250.length + y253.length < 8796093022208 then ((prog_Tidy.f kj14 (y225 ++ y228)).bind fun t259 => (if (t259 == t207) = true then ((prog_Tidy.f kj14 y244).bind fun t260 => (if t260 = true then (some false) else (if t207 = true then ((prog_Tidy.f kj14 (y250 ++ y253)).bind fun t261 => (some t261)) else (some true)))) else (some false))) else (none)))) else (none)))) else (none)))) else (none))) else (none)))) else (none))) = some r := by first | (rw [hy219]; with_reducible exact H) | (have H2_ := (Option.bind_some _ _).symm.trans H; rw [hy219]; with_reducible exact H2_) | (have H2_ := (Option.bind_some _ _).symm.trans H; with_reducible exact H2_) | with_reducible exact H | (rw [hy219]; exact H) | exact H
     have Ny219 := Aside0.mk hy219
     clear hy219
     obtain ⟨y222, hy222⟩ : ∃ y_ : List (S32), y_ = (([(⟨3, a3⟩ : S32)] : List (S32))) := ⟨_, rfl⟩
     replace H : (if y219.length + y222.length < 8796093022208 then ((some (y219 ++ y222 : List (S32))).bind fun y225 => ((some (y190.drop ((ji38) : Int).toNat : List (S32))).bind fun y228 => (if y225.length + y228.length < 8796093022208 then ((some (([] : List (S32)) : List (S32))).bind fun y235 => (if y235.length + y190.length < 8796093022208 then ((some (y235 ++ y190 : List (S32))).bind fun y238 => ((some (([(⟨0, a3⟩ : S32)] : List (S32)) : List (S32))).bind fun y241 => (if y238.length + y241.length < 8796093022208 then ((some (y238 ++ y241 : List (S32))).bind fun y244 => ((some (([] : List (S32)) : List (S32))).bind fun y247 => (if y247.length + y244.length < 8796093022208 then ((some (y247 ++ y244 : List (S32))).bind fun y250 => ((some (([(⟨2, a3⟩ : S32)] : List (S32)) : List (S32))).bind fun y253 => (if y250.length + y253.length < 8796093022208 then ((prog_Tidy.f kj14 (y225 ++ y228)).bind fun t259 => (if (t259 == t207) = true then ((prog_Tidy.f kj14 y244).bind fun t260 => (if t260 = true then (some false) else (if t207 = true then ((prog_Tidy.f kj14 (y250 ++ y253)).bind fun t261 => (some t261)) else (some true)))) else (some false))) else (none)))) else (none)))) else (none)))) else (none))) else (none)))) else (none)) = some r := by first | (rw [hy222]; with_reducible exact H) | (have H2_ := (Option.bind_some _ _).symm.trans H; rw [hy222]; with_reducible exact H2_) | (have H2_ := (Option.bind_some _ _).symm.trans H; with_reducible exact H2_) | with_reducible exact H | (rw [hy222]; exact H) | exact H
     have Ny222 := Aside0.mk hy222
     clear hy222
     by_cases c42 : y219.length + y222.length < 8796093022208
     rotate_left
     ·rw [if_neg c42] at H
      exact absurd H (by simp)
     rw [if_pos c42] at H
     have LMc42 := Aside0.mk c42
     clear c42
     obtain ⟨y225, hy225⟩ : ∃ y_ : List (S32), y_ = (y219 ++ y222) := ⟨_, rfl⟩
     replace H : ((some (y190.drop ((ji38) : Int).toNat : List (S32))).bind fun y228 => (if y225.length + y228.length < 8796093022208 then ((some (([] : List (S32)) : List (S32))).bind fun y235 => (if y235.length + y190.length < 8796093022208 then ((some (y235 ++ y190 : List (S32))).bind fun y238 => ((some (([(⟨0, a3⟩ : S32)] : List (S32)) : List (S32))).bind fun y241 => (if y238.length + y241.length < 8796093022208 then ((some (y238 ++ y241 : List (S32))).bind fun y244 => ((some (([] : List (S32)) : List (S32))).bind fun y247 => (if y247.length + y244.length < 8796093022208 then ((some (y247 ++ y244 : List (S32))).bind fun y250 => ((some (([(⟨2, a3⟩ : S32)] : List (S32)) : List (S32))).bind fun y253 => (if y250.length + y253.length < 8796093022208 then ((prog_Tidy.f kj14 (y225 ++ y228)).bind fun t259 => (if (t259 == t207) = true then ((prog_Tidy.f kj14 y244).bind fun t260 => (if t260 = true then (some false) else (if t207 = true then ((prog_Tidy.f kj14 (y250 ++ y253)).bind fun t261 => (some t261)) else (some true)))) else (some false))) else (none)))) else (none)))) else (none)))) else (none))) else (none))) = some r := by first | (rw [hy225]; with_reducible exact H) | (have H2_ := (Option.bind_some _ _).symm.trans H; rw [hy225]; with_reducible exact H2_) | (have H2_ := (Option.bind_some _ _).symm.trans H; with_reducible exact H2_) | with_reducible exact H | (rw [hy225]; exact H) | exact H
     have Ny225 := Aside0.mk hy225
     clear hy225
     have c43b0 := eq_true (of_decide_eq_true (by first | (with_reducible assumption) | assumption) : 0 ≤ (ji38))
     have c44b0 := eq_true (of_decide_eq_true (by first | (with_reducible assumption) | assumption) : (ji38) ≤ (y190.length : Int))
     obtain ⟨y228, hy228⟩ : ∃ y_ : List (S32), y_ = (y190.drop ((ji38) : Int).toNat) := ⟨_, rfl⟩
     replace H : (if y225.length + y228.length < 8796093022208 then ((some (([] : List (S32)) : List (S32))).bind fun y235 => (if y235.length + y190.length < 8796093022208 then ((some (y235 ++ y190 : List (S32))).bind fun y238 => ((some (([(⟨0, a3⟩ : S32)] : List (S32)) : List (S32))).bind fun y241 => (if y238.length + y241.length < 8796093022208 then ((some (y238 ++ y241 : List (S32))).bind fun y244 => ((some (([] : List (S32)) : List (S32))).bind fun y247 => (if y247.length + y244.length < 8796093022208 then ((some (y247 ++ y244 : List (S32))).bind fun y250 => ((some (([(⟨2, a3⟩ : S32)] : List (S32)) : List (S32))).bind fun y253 => (if y250.length + y253.length < 8796093022208 then ((prog_Tidy.f kj14 (y225 ++ y228)).bind fun t259 => (if (t259 == t207) = true then ((prog_Tidy.f kj14 y244).bind fun t260 => (if t260 = true then (some false) else (if t207 = true then ((prog_Tidy.f kj14 (y250 ++ y253)).bind fun t261 => (some t261)) else (some true)))) else (some false))) else (none)))) else (none)))) else (none)))) else (none))) else (none)) = some r := by first | (rw [hy228]; with_reducible exact H) | (have H2_ := (Option.bind_some _ _).symm.trans H; rw [hy228]; with_reducible exact H2_) | (have H2_ := (Option.bind_some _ _).symm.trans H; with_reducible exact H2_) | with_reducible exact H | (rw [hy228]; exact H) | exact H
     have Ny228 := Aside0.mk hy228
     clear hy228
     by_cases c45 : y225.length + y228.length < 8796093022208
     rotate_left
     ·rw [if_neg c45] at H
      exact absurd H (by simp)
     rw [if_pos c45] at H
     have LMc45 := Aside0.mk c45
     clear c45
     obtain ⟨y232, hy232⟩ : ∃ y_ : List (S32), y_ = (y225 ++ y228) := ⟨_, rfl⟩
     replace H : ((some (([] : List (S32)) : List (S32))).bind fun y235 => (if y235.length + y190.length < 8796093022208 then ((some (y235 ++ y190 : List (S32))).bind fun y238 => ((some (([(⟨0, a3⟩ : S32)] : List (S32)) : List (S32))).bind fun y241 => (if y238.length + y241.length < 8796093022208 then ((some (y238 ++ y241 : List (S32))).bind fun y244 => ((some (([] : List (S32)) : List (S32))).bind fun y247 => (if y247.length + y244.length < 8796093022208 then ((some (y247 ++ y244 : List (S32))).bind fun y250 => ((some (([(⟨2, a3⟩ : S32)] : List (S32)) : List (S32))).bind fun y253 => (if y250.length + y253.length < 8796093022208 then ((prog_Tidy.f kj14 y232).bind fun t259 => (if (t259 == t207) = true then ((prog_Tidy.f kj14 y244).bind fun t260 => (if t260 = true then (some false) else (if t207 = true then ((prog_Tidy.f kj14 (y250 ++ y253)).bind fun t261 => (some t261)) else (some true)))) else (some false))) else (none)))) else (none)))) else (none)))) else (none))) = some r := by first | (rw [hy232]; with_reducible exact H) | (have H2_ := (Option.bind_some _ _).symm.trans H; rw [hy232]; with_reducible exact H2_) | (have H2_ := (Option.bind_some _ _).symm.trans H; with_reducible exact H2_) | with_reducible exact H | (rw [hy232]; exact H) | exact H
     have Ny232 := Aside0.mk hy232
     clear hy232
     obtain ⟨y235, hy235⟩ : ∃ y_ : List (S32), y_ = (([] : List (S32))) := ⟨_, rfl⟩
     replace H : (if y235.length + y190.length < 8796093022208 then ((some (y235 ++ y190 : List (S32))).bind fun y238 => ((some (([(⟨0, a3⟩ : S32)] : List (S32)) : List (S32))).bind fun y241 => (if y238.length + y241.length < 8796093022208 then ((some (y238 ++ y241 : List (S32))).bind fun y244 => ((some (([] : List (S32)) : List (S32))).bind fun y247 => (if y247.length + y244.length < 8796093022208 then ((some (y247 ++ y244 : List (S32))).bind fun y250 => ((some (([(⟨2, a3⟩ : S32)] : List (S32)) : List (S32))).bind fun y253 => (if y250.length + y253.length < 8796093022208 then ((prog_Tidy.f kj14 y232).bind fun t259 => (if (t259 == t207) = true then ((prog_Tidy.f kj14 y244).bind fun t260 => (if t260 = true then (some false) else (if t207 = true then ((prog_Tidy.f kj14 (y250 ++ y253)).bind fun t261 => (some t261)) else (some true)))) else (some false))) else (none)))) else (none)))) else (none)))) else (none)) = some r := by first | (rw [hy235]; with_reducible exact H) | (have H2_ := (Option.bind_some _ _).symm.trans H; rw [hy235]; with_reducible exact H2_) | (have H2_ := (Option.bind_some _ _).symm.trans H; with_reducible exact H2_) | with_reducible exact H | (rw [hy235]; exact H) | exact H
     have Ny235 := Aside0.mk hy235
     clear hy235
     by_cases c46 : y235.length + y190.length < 8796093022208
     rotate_left
     ·rw [if_neg c46] at H
      exact absurd H (by simp)
     rw [if_pos c46] at H
     have LMc46 := Aside0.mk c46
     clear c46
     obtain ⟨y238, hy238⟩ : ∃ y_ : List (S32), y_ = (y235 ++ y190) := ⟨_, rfl⟩
     replace H : ((some (([(⟨0, a3⟩ : S32)] : List (S32)) : List (S32))).bind fun y241 => (if y238.length + y241.length < 8796093022208 then ((some (y238 ++ y241 : List (S32))).bind fun y244 => ((some (([] : List (S32)) : List (S32))).bind fun y247 => (if y247.length + y244.length < 8796093022208 then ((some (y247 ++ y244 : List (S32))).bind fun y250 => ((some (([(⟨2, a3⟩ : S32)] : List (S32)) : List (S32))).bind fun y253 => (if y250.length + y253.length < 8796093022208 then ((prog_Tidy.f kj14 y232).bind fun t259 => (if (t259 == t207) = true then ((prog_Tidy.f kj14 y244).bind fun t260 => (if t260 = true then (some false) else (if t207 = true then ((prog_Tidy.f kj14 (y250 ++ y253)).bind fun t261 => (some t261)) else (some true)))) else (some false))) else (none)))) else (none)))) else (none))) = some r := by first | (rw [hy238]; with_reducible exact H) | (have H2_ := (Option.bind_some _ _).symm.trans H; rw [hy238]; with_reducible exact H2_) | (have H2_ := (Option.bind_some _ _).symm.trans H; with_reducible exact H2_) | with_reducible exact H | (rw [hy238]; exact H) | exact H
     have Ny238 := Aside0.mk hy238
     clear hy238
     obtain ⟨y241, hy241⟩ : ∃ y_ : List (S32), y_ = (([(⟨0, a3⟩ : S32)] : List (S32))) := ⟨_, rfl⟩
     replace H : (if y238.length + y241.length < 8796093022208 then ((some (y238 ++ y241 : List (S32))).bind fun y244 => ((some (([] : List (S32)) : List (S32))).bind fun y247 => (if y247.length + y244.length < 8796093022208 then ((some (y247 ++ y244 : List (S32))).bind fun y250 => ((some (([(⟨2, a3⟩ : S32)] : List (S32)) : List (S32))).bind fun y253 => (if y250.length + y253.length < 8796093022208 then ((prog_Tidy.f kj14 y232).bind fun t259 => (if (t259 == t207) = true then ((prog_Tidy.f kj14 y244).bind fun t260 => (if t260 = true then (some false) else (if t207 = true then ((prog_Tidy.f kj14 (y250 ++ y253)).bind fun t261 => (some t261)) else (some true)))) else (some false))) else (none)))) else (none)))) else (none)) = some r := by first | (rw [hy241]; with_reducible exact H) | (have H2_ := (Option.bind_some _ _).symm.trans H; rw [hy241]; with_reducible exact H2_) | (have H2_ := (Option.bind_some _ _).symm.trans H; with_reducible exact H2_) | with_reducible exact H | (rw [hy241]; exact H) | exact H
     have Ny241 := Aside0.mk hy241
     clear hy241
     by_cases c47 : y238.length + y241.length < 8796093022208
     rotate_left
     ·rw [if_neg c47] at H
      exact absurd H (by simp)
     rw [if_pos c47] at H
     have LMc47 := Aside0.mk c47
     clear c47
     obtain ⟨y244, hy244⟩ : ∃ y_ : List (S32), y_ = (y238 ++ y241) := ⟨_, rfl⟩
     replace H : ((some (([] : List (S32)) : List (S32))).bind fun y247 => (if y247.length + y244.length < 8796093022208 then ((some (y247 ++ y244 : List (S32))).bind fun y250 => ((some (([(⟨2, a3⟩ : S32)] : List (S32)) : List (S32))).bind fun y253 => (if y250.length + y253.length < 8796093022208 then ((prog_Tidy.f kj14 y232).bind fun t259 => (if (t259 == t207) = true then ((prog_Tidy.f kj14 y244).bind fun t260 => (if t260 = true then (some false) else (if t207 = true then ((prog_Tidy.f kj14 (y250 ++ y253)).bind fun t261 => (some t261)) else (some true)))) else (some false))) else (none)))) else (none))) = some r := by first | (rw [hy244]; with_reducible exact H) | (have H2_ := (Option.bind_some _ _).symm.trans H; rw [hy244]; with_reducible exact H2_) | (have H2_ := (Option.bind_some _ _).symm.trans H; with_reducible exact H2_) | with_reducible exact H | (rw [hy244]; exact H) | exact H
     have Ny244 := Aside0.mk hy244
     clear hy244
     obtain ⟨y247, hy247⟩ : ∃ y_ : List (S32), y_ = (([] : List (S32))) := ⟨_, rfl⟩
     replace H : (if y247.length + y244.length < 8796093022208 then ((some (y247 ++ y244 : List (S32))).bind fun y250 => ((some (([(⟨2, a3⟩ : S32)] : List (S32)) : List (S32))).bind fun y253 => (if y250.length + y253.length < 8796093022208 then ((prog_Tidy.f kj14 y232).bind fun t259 => (if (t259 == t207) = true then ((prog_Tidy.f kj14 y244).bind fun t260 => (if t260 = true then (some false) else (if t207 = true then ((prog_Tidy.f kj14 (y250 ++ y253)).bind fun t261 => (some t261)) else (some true)))) else (some false))) else (none)))) else (none)) = some r := by first | (rw [hy247]; with_reducible exact H) | (have H2_ := (Option.bind_some _ _).symm.trans H; rw [hy247]; with_reducible exact H2_) | (have H2_ := (Option.bind_some _ _).symm.trans H; with_reducible exact H2_) | with_reducible exact H | (rw [hy247]; exact H) | exact H
     have Ny247 := Aside0.mk hy247
     clear hy247
     by_cases c48 : y247.length + y244.length < 8796093022208
     rotate_left
     ·rw [if_neg c48] at H
      exact absurd H (by simp)
     rw [if_pos c48] at H
     have LMc48 := Aside0.mk c48
     clear c48
     obtain ⟨y250, hy250⟩ : ∃ y_ : List (S32), y_ = (y247 ++ y244) := ⟨_, rfl⟩
     replace H : ((some (([(⟨2, a3⟩ : S32)] : List (S32)) : List (S32))).bind fun y253 => (if y250.length + y253.length < 8796093022208 then ((prog_Tidy.f kj14 y232).bind fun t259 => (if (t259 == t207) = true then ((prog_Tidy.f kj14 y244).bind fun t260 => (if t260 = true then (some false) else (if t207 = true then ((prog_Tidy.f kj14 (y250 ++ y253)).bind fun t261 => (some t261)) else (some true)))) else (some false))) else (none))) = some r := by first | (rw [hy250]; with_reducible exact H) | (have H2_ := (Option.bind_some _ _).symm.trans H; rw [hy250]; with_reducible exact H2_) | (have H2_ := (Option.bind_some _ _).symm.trans H; with_reducible exact H2_) | with_reducible exact H | (rw [hy250]; exact H) | exact H
     have Ny250 := Aside0.mk hy250
     clear hy250
     obtain ⟨y253, hy253⟩ : ∃ y_ : List (S32), y_ = (([(⟨2, a3⟩ : S32)] : List (S32))) := ⟨_, rfl⟩
     replace H : (if y250.length + y253.length < 8796093022208 then ((prog_Tidy.f kj14 y232).bind fun t259 => (if (t259 == t207) = true then ((prog_Tidy.f kj14 y244).bind fun t260 => (if t260 = true then (some false) else (if t207 = true then ((prog_Tidy.f kj14 (y250 ++ y253)).bind fun t261 => (some t261)) else (some true)))) else (some false))) else (none)) = some r := by first | (rw [hy253]; with_reducible exact H) | (have H2_ := (Option.bind_some _ _).symm.trans H; rw [hy253]; with_reducible exact H2_) | (have H2_ := (Option.bind_some _ _).symm.trans H; with_reducible exact H2_) | with_reducible exact H | (rw [hy253]; exact H) | exact H
     have Ny253 := Aside0.mk hy253
     clear hy253
     by_cases c49 : y250.length + y253.length < 8796093022208
     rotate_left
     ·rw [if_neg c49] at H
      exact absurd H (by simp)
     rw [if_pos c49] at H
     have LMc49 := Aside0.mk c49
     clear c49
     obtain ⟨y256, hy256⟩ : ∃ y_ : List (S32), y_ = (y250 ++ y253) := ⟨_, rfl⟩
     replace H : ((prog_Tidy.f kj14 y232).bind fun t259 => (if (t259 == t207) = true then ((prog_Tidy.f kj14 y244).bind fun t260 => (if t260 = true then (some false) else (if t207 = true then ((prog_Tidy.f kj14 y256).bind fun t261 => (some t261)) else (some true)))) else (some false))) = some r := by first | (rw [hy256]; with_reducible exact H) | (have H2_ := (Option.bind_some _ _).symm.trans H; rw [hy256]; with_reducible exact H2_) | (have H2_ := (Option.bind_some _ _).symm.trans H; with_reducible exact H2_) | with_reducible exact H | (rw [hy256]; exact H) | exact H
     have Ny256 := Aside0.mk hy256
     clear hy256
     replace H := Option.bind_eq_some_iff.mp H
     obtain ⟨t259, A500, H⟩ := H
     replace H : (if (t259 == t207) = true then ((prog_Tidy.f kj14 y244).bind fun t260 => (if t260 = true then (some false) else (if t207 = true then ((prog_Tidy.f kj14 y256).bind fun t261 => (some t261)) else (some true)))) else (some false)) = some r := H
     have A50 := Aside0.mk A500
     clear A500
     by_cases c51 : (t259 == t207) = true
     ·rw [if_pos c51] at H
      have c51b0 : (t259 == t207) = true := c51
      (try (have c51b1 : decide (t259 = t207) = true := by simpa using c51))
      (try (have c51b2 : (t259 == t207) = true := by simpa using c51))
      clear c51
      replace H := Option.bind_eq_some_iff.mp H
      obtain ⟨t260, A520, H⟩ := H
      replace H : (if t260 = true then (some false) else (if t207 = true then ((prog_Tidy.f kj14 y256).bind fun t261 => (some t261)) else (some true))) = some r := H
      have A52 := Aside0.mk A520
      clear A520
      by_cases c53 : t260 = true
      ·subst c53
       have H1 : (some false) = some r := by rw [if_pos rfl] at H; exact H
       clear H
       have H := H1
       clear H1
       obtain rfl := Option.some.inj H
       try go_wp2
       have n0_ := Aside0.mk (below_drew1 HB.out)
       clear HB
       have HB := n0_
       clear n0_
       have q55 : ((ji38) : Int) ≤ ((y190.length : Int) : Int) := of_decide_eq_true (by first | (with_reducible assumption) | assumption)
       obtain ⟨i055, hi055, _, hsz55, _⟩ := info_parts info32
       have hroom55 : y190.length ≤ c0 := HC193.out
       have hC55 : Kd.C k32 _ A0 y190.length y190 := HR193.out
       have hcut55 := cut_to (P := Tryd.prog) 29 32 .i64 Tryd.underlying29 hi055 A0 y190.length c0 (ji38) (of_decide_eq_true (by first | (with_reducible assumption) | assumption)) q55 hroom55
       have hr55 := Kd.C_take (m := ((ji38) : Int).toNat) hC55 (by omega)
       have hy55 : y215.length = ((ji38) : Int).toNat := (by rw [Ny215.out, List.length_take]; omega)
       rw [← Ny215.out] at hr55
       rw [← hy55] at hcut55
       have HR218 := Aside0.mk hr55
       have HC218 := Aside0.mk (show y215.length ≤ c0 from by omega)
       clear hr55 hC55 hroom55 hi055 hsz55
       have KY55 := Aside0.mk hy55
       clear hy55
       replace q55 := eq_true q55
       have q56 : ((ji38) : Int) ≤ ((y190.length : Int) : Int) := of_decide_eq_true (by first | (with_reducible assumption) | assumption)
       obtain ⟨i056, hi056, _, hsz56, _⟩ := info_parts info32
       have hroom56 : y190.length ≤ c0 := HC193.out
       have hC56 : Kd.C k32 _ A0 y190.length y190 := HR193.out
       have q056 : (0 : Int) ≤ ((ji38) : Int) := of_decide_eq_true (by first | (with_reducible assumption) | assumption)
       have hcut56 := cut_from (P := Tryd.prog) 29 32 .i64 Tryd.underlying29 hi056 2 hsz56 A0 y190.length c0 (ji38) q056 q56
       have hr56 := Kd.C_drop (m := ((ji38) : Int).toNat) (c := c0) hC56 (by omega) hroom56
       obtain ⟨A56, hA56⟩ : ∃ A1, A1 = (if c0 = ((ji38) : Int).toNat then A0 else (A0 : Option Addr).map (·.add (((ji38) : Int).toNat * 2))) := ⟨_, rfl⟩
       obtain ⟨c56, hc56⟩ : ∃ c1, c1 = c0 - ((ji38) : Int).toNat := ⟨_, rfl⟩
       have hy56 : y228.length = y190.length - ((ji38) : Int).toNat := (by rw [Ny228.out, List.length_drop] <;> omega)
       rw [show (y190).drop ((ji38) : Int).toNat = y228 from Ny228.out.symm] at hr56
       replace hr56 : Kd.C k32 _ A56 y228.length y228 := (by rw [hA56]; exact hr56)
       rw [← hy56, ← hA56, ← hc56] at hcut56
       have HR231 := Aside0.mk hr56
       have HC231 := Aside0.mk (show y228.length ≤ c56 from by rw [hy56, hc56]; exact Nat.sub_le_sub_right hroom56 _)
       clear hr56 hC56 hroom56 hi056 hsz56 hc56
       have KY56 := Aside0.mk hy56
       have KA56 := Aside0.mk hA56
       clear hy56 hA56
       replace q56 := eq_true q56
       refine start_ (n := 14) (S := fun w' => True) (ds := []) #[false, false, false, false, false, false, false, false, false, false, false, false, false, false] (by kernel_rfl) rfl rfl trivial (fun hHeld => ?_); refine with_tabW deadboltlaw12_ProgTidy.tab7 deadboltlaw12_ProgTidy.bits7 (fun HT_ HW_ => ?_)
       generalize wc.drew = w54 at HB HR218 HR231 hHeld ⊢
       refine pure_ (i := 1) (N := some 59) (v := ?_) (a' := ?_) #[false, true, false, false, false, false, false, false, false, false, false, false, false, false] rfl rfl (any_of HT_.out (by kernel_rfl)) (fun _ _ _ h => h) (Or.inl ⟨by rfl, ?_⟩) ?_ ?_
       rotate_left
       ·intro w'
        go_simp
        with_reducible rfl
       rotate_left
       ·simp only [Act.put, List.setIfInBounds_toArray, List.set_cons_zero, List.set_cons_succ, i64_w, i32_w]
        rfl
       refine pure_ (i := 2) (N := some 60) (v := ?_) (a' := ?_) #[false, true, true, false, false, false, false, false, false, false, false, false, false, false] rfl rfl (any_of HT_.out (by kernel_rfl)) (fun _ _ _ h => h) (Or.inl ⟨by rfl, ?_⟩) ?_ ?_
       rotate_left
       ·intro w'
        go_simp
        with_reducible rfl
       rotate_left
       ·simp only [Act.put, List.setIfInBounds_toArray, List.set_cons_zero, List.set_cons_succ, i64_w, i32_w]
        rfl
       refine pure_ (i := 3) (N := some 61) (v := ?_) (a' := ?_) #[false, true, true, true, false, false, false, false, false, false, false, false, false, false] rfl rfl (any_of HT_.out (by kernel_rfl)) (fun _ _ _ h => h) (Or.inl ⟨by rfl, ?_⟩) ?_ ?_
       rotate_left
       ·intro w'
        go_simp
        with_reducible rfl
       rotate_left
       ·simp only [Act.put, List.setIfInBounds_toArray, List.set_cons_zero, List.set_cons_succ, i64_w, i32_w]
        rfl
       refine pure_ (i := 5) (N := some 63) (v := ?_) (a' := ?_) #[false, true, true, true, false, true, false, false, false, false, false, false, false, false] rfl rfl (any_of HT_.out (by kernel_rfl)) (fun _ _ _ h => h) (Or.inl ⟨by rfl, ?_⟩) ?_ ?_
       rotate_left
       ·intro w'
        go_simp
        with_reducible rfl
       rotate_left
       ·simp only [Act.put, List.setIfInBounds_toArray, List.set_cons_zero, List.set_cons_succ, i64_w, i32_w]
        rfl
       refine pure_ (i := 6) (N := some 64) (v := ?_) (a' := ?_) #[false, true, true, true, false, true, true, false, false, false, false, false, false, false] rfl rfl (any_of HT_.out (by kernel_rfl)) (fun _ _ _ h => h) (Or.inl ⟨by rfl, ?_⟩) ?_ ?_
       rotate_left
       ·intro w'
        go_simp
        with_reducible rfl
       rotate_left
       ·simp only [Act.put, List.setIfInBounds_toArray, List.set_cons_zero, List.set_cons_succ, i64_w, i32_w]
        rfl
       refine pure_ (i := 9) (N := some 67) (v := ?_) (a' := ?_) #[false, true, true, true, false, true, true, false, false, true, false, false, false, false] rfl rfl (any_of HT_.out (by kernel_rfl)) (fun _ _ _ h => h) (Or.inl ⟨by rfl, ?_⟩) ?_ ?_
       rotate_left
       ·intro w'
        go_simp
        with_reducible rfl
       rotate_left
       ·simp only [Act.put, List.setIfInBounds_toArray, List.set_cons_zero, List.set_cons_succ, i64_w, i32_w]
        rfl
       refine pure_ (i := 10) (N := some 68) (v := ?_) (a' := ?_) #[false, true, true, true, false, true, true, false, false, true, true, false, false, false] rfl rfl (any_of HT_.out (by kernel_rfl)) (fun _ _ _ h => h) (Or.inl ⟨by rfl, ?_⟩) ?_ ?_
       rotate_left
       ·intro w'
        go_simp
        with_reducible rfl
       rotate_left
       ·simp only [Act.put, List.setIfInBounds_toArray, List.set_cons_zero, List.set_cons_succ, i64_w, i32_w]
        rfl
       refine pure_ (i := 11) (N := some 69) (v := ?_) (a' := ?_) #[false, true, true, true, false, true, true, false, false, true, true, true, false, false] rfl rfl (any_of HT_.out (by kernel_rfl)) (fun _ _ _ h => h) (Or.inl ⟨by rfl, ?_⟩) ?_ ?_
       rotate_left
       ·intro w'
        go_simp
        with_reducible rfl
       rotate_left
       ·simp only [Act.put, List.setIfInBounds_toArray, List.set_cons_zero, List.set_cons_succ, i64_w, i32_w]
        rfl
       refine join_ (σ := Value × Value × Value) 3 #[true, true, true, true, true, true, true, true, false, true, true, true, false, false] (fun s_ => [(58, s_.1), (62, s_.2.1), (65, s_.2.2)]) (fun s_ w' => (Kd.R k32 32 w' w.heap.size (fun k_ => some k_ ≠ (s_.2.2 : Value).ownBlock) s_.2.1 y219) ∧ (Kd.R k32 32 w' w.heap.size (fun k_ => some k_ ≠ (s_.2.1 : Value).ownBlock) s_.2.2 y222) ∧ (Below w.heap.size w w')) ?_ ?_
       rotate_left
       ·intro hCont
        refine two_ (i := 0) (j := 7) (Ni := some 58) (Nj := some 65) #[true, true, true, true, false, true, true, false, false, true, true, true, false, false] #[false, true, true, true, false, true, true, true, false, true, true, true, false, false] rfl rfl rfl rfl (two_of HT_.out (by kernel_rfl)) (by decide) (by decide) (fun K hK => ?_) (fun K hK => ?_)
        ·skip
         refine Kd.R_lit_step k32 _ 32 ?hg (N := 58) ?hd (xs := ([] : List (S32))) (inner := []) (ok := fun _ => True) (okp := fun _ => True) ?hr ?hp (fun _ hk => hk) trivial (Below.refl _ _) (Nat.le_refl _) (by simp) ?_; (case hd => rfl); (case hg => rfl); (case hr => first | (go_simp; done) | (go_simp; rfl)); (case hp => exact (Reps.none _ _))
         intro v213 w57 ho58 hb hg_ hnew_
         clear hg_ hnew_
         (first | rw [← Ny212.out] at ho58 | (simp only [Int.reduceToNat] at ho58; rw [← Ny212.out] at ho58))
         have n0_ := Aside0.mk (Kd.R_lower ho58 (below_size (by repeat (first | (with_reducible first | exact HB.out | apply bA | apply bN | apply bD) | exact HB.out))))
         have n1_ := Aside0.mk (below_step (by repeat (first | (with_reducible first | exact HB.out | apply bA | apply bN | apply bD) | exact HB.out)) hb)
         clear HB
         have HO214 := n0_
         have HB := n1_
         clear n0_ n1_
         clear hb ho58
         refine hK.out _ _ trivial (fun hHeld => ?_)
         clear hK K
         refine norm_ (a' := ?_) ?_ ?_
         rotate_left
         ·show Act.put _ (some 58) _ = _
          simp only [Act.put, List.setIfInBounds_toArray, List.set_cons_zero, List.set_cons_succ, i64_w, i32_w]
          rfl
         refine two_ (i := 4) (j := 7) (Ni := some 62) (Nj := some 65) #[true, true, true, true, true, true, true, false, false, true, true, true, false, false] #[true, true, true, true, false, true, true, true, false, true, true, true, false, false] rfl rfl rfl rfl (two_of HT_.out (by kernel_rfl)) (by decide) (by decide) (fun K hK => ?_) (fun K hK => ?_)
         ·skip
          refine Kd.R_append_rows_step k32 (w0 := w) w.heap.size (by rfl) (.tmp 58) (.tmp 61) 29 32 (.agg #[(.int .i64 0), (.int .i64 0)]) 16 rfl Tryd.underlying29 info32 rfl (by decide) (by omega) v213 y212 y215 _ _ _ (fun _ => True) (fun _ => False) rfl rfl ?aO ?aR (fun _ _ h => h) (fun _ h => h.elim) ?aF ?aB ?aS ?aL ?_
          (case aR => repeat (first | exact (Kd.C_below HR218.out HB.out) | (with_reducible refine Kd.C_alloc ?_ _) | (with_reducible refine Kd.C_drewN ?_ _) | (with_reducible refine Kd.C_drew ?_)))
          (case aB => exact (by repeat (first | (with_reducible first | exact HB.out | apply bA | apply bN | apply bD) | exact HB.out)))
          (case aF => exact (fun _ _ => trivial))
          (case aO => exact (by (with_reducible repeat (first | apply zA | apply zN | apply zD)); exact HO214.out))
          (case aS => exact (below_size (by repeat (first | (with_reducible first | exact HB.out | apply bA | apply bN | apply bD) | exact HB.out))))
          (case aL => have := LMc41.out; omega)
          intro v220 w59 ho hb hg hat
          rw [← Ny219.out] at ho
          have n0_ := Aside0.mk (hb)
          have n1_ := Aside0.mk (ho)
          clear HB
          clear HO214
          have HB := n0_
          have HO221 := n1_
          clear n0_ n1_
          clear ho hb hg hat
          refine hK.out _ _ trivial (fun hHeld => ?_)
          clear hK K
          refine norm_ (a' := ?_) ?_ ?_
          rotate_left
          ·show Act.put _ (some 62) _ = _
           simp only [Act.put, List.setIfInBounds_toArray, List.set_cons_zero, List.set_cons_succ, i64_w, i32_w]
           rfl
          refine one_ (i := 7) (N := some 65) #[true, true, true, true, true, true, true, true, false, true, true, true, false, false] rfl rfl (one_of HT_.out (by kernel_rfl)) (by decide) (fun K hK => ?_)
          refine Kd.R_lit_step k32 _ 32 ?hg (N := 65) ?hd (xs := ([(⟨3, a3⟩ : S32)] : List (S32))) (inner := [.int .i64 3, .int .i64 a3]) (ok := fun _ => True) (okp := fun _ => True) ?hr ?hp (fun _ hk => hk) trivial (Below.refl _ _) (Nat.le_refl _) (by simp) ?_; (case hd => rfl); (case hg => rfl); (case hr => first | (go_simp; done) | (go_simp; rfl)); (case hp => exact (Reps.c2 (show Kd.M k32 _ _ _ (⟨3, a3⟩ : S32) [.int .i64 3, .int .i64 a3] from (k32_mkM _ _ _ (⟨3, a3⟩ : S32) )) (Reps.none _ _)))
          intro v223 w60 ho61 hb hg_ hnew_
          clear hg_ hnew_
          (first | rw [← Ny222.out] at ho61 | (simp only [Int.reduceToNat] at ho61; rw [← Ny222.out] at ho61))
          have n0_ := Aside0.mk (Kd.R_elder' (by (with_reducible repeat (first | apply zA | apply zN | apply zD)); exact HO221.out) (Kd.R_base ho61) hb)
          have n1_ := Aside0.mk (Kd.R_lower (Kd.R_new' ho61 (Kd.R_lt (by (with_reducible repeat (first | apply zA | apply zN | apply zD)); exact HO221.out))) (below_size (by repeat (first | (with_reducible first | exact HB.out | apply bA | apply bN | apply bD) | exact HB.out))))
          have n2_ := Aside0.mk (below_step (by repeat (first | (with_reducible first | exact HB.out | apply bA | apply bN | apply bD) | exact HB.out)) hb)
          clear HO221
          clear HB
          have HO221 := n0_
          have HO224 := n1_
          have HB := n2_
          clear n0_ n1_ n2_
          clear hb ho61
          refine hK.out _ _ trivial (fun hHeld => ?_)
          clear hK K
          refine norm_ (a' := ?_) ?_ ?_
          rotate_left
          ·show Act.put _ (some 65) _ = _
           simp only [Act.put, List.setIfInBounds_toArray, List.set_cons_zero, List.set_cons_succ, i64_w, i32_w]
           rfl
          exact norm_ (by simp only [putAll, Act.put, List.setIfInBounds_toArray, List.set_cons_zero, List.set_cons_succ]) (hCont (v213, v220, v223) _ ⟨(by (with_reducible repeat (first | apply zA | apply zN | apply zD)); exact Kd.R_mono HO221.out (fun _ hk => hk.2)), (by (with_reducible repeat (first | apply zA | apply zN | apply zD)); exact Kd.R_mono HO224.out (fun _ hk => hk.2)), (by repeat (first | (with_reducible first | exact HB.out | apply bA | apply bN | apply bD) | exact HB.out))⟩)
         ·skip
          refine Kd.R_lit_step k32 _ 32 ?hg (N := 65) ?hd (xs := ([(⟨3, a3⟩ : S32)] : List (S32))) (inner := [.int .i64 3, .int .i64 a3]) (ok := fun _ => True) (okp := fun _ => True) ?hr ?hp (fun _ hk => hk) trivial (Below.refl _ _) (Nat.le_refl _) (by simp) ?_; (case hd => rfl); (case hg => rfl); (case hr => first | (go_simp; done) | (go_simp; rfl)); (case hp => exact (Reps.c2 (show Kd.M k32 _ _ _ (⟨3, a3⟩ : S32) [.int .i64 3, .int .i64 a3] from (k32_mkM _ _ _ (⟨3, a3⟩ : S32) )) (Reps.none _ _)))
          intro v223 w59 ho60 hb hg_ hnew_
          clear hg_ hnew_
          (first | rw [← Ny222.out] at ho60 | (simp only [Int.reduceToNat] at ho60; rw [← Ny222.out] at ho60))
          have n0_ := Aside0.mk (Kd.R_elder' (by (with_reducible repeat (first | apply zA | apply zN | apply zD)); exact HO214.out) (Kd.R_base ho60) hb)
          have n1_ := Aside0.mk (Kd.R_lower (Kd.R_new' ho60 (Kd.R_lt (by (with_reducible repeat (first | apply zA | apply zN | apply zD)); exact HO214.out))) (below_size (by repeat (first | (with_reducible first | exact HB.out | apply bA | apply bN | apply bD) | exact HB.out))))
          have n2_ := Aside0.mk (below_step (by repeat (first | (with_reducible first | exact HB.out | apply bA | apply bN | apply bD) | exact HB.out)) hb)
          clear HO214
          clear HB
          have HO214 := n0_
          have HO224 := n1_
          have HB := n2_
          clear n0_ n1_ n2_
          clear hb ho60
          refine hK.out _ _ trivial (fun hHeld => ?_)
          clear hK K
          refine norm_ (a' := ?_) ?_ ?_
          rotate_left
          ·show Act.put _ (some 65) _ = _
           simp only [Act.put, List.setIfInBounds_toArray, List.set_cons_zero, List.set_cons_succ, i64_w, i32_w]
           rfl
          refine one_ (i := 4) (N := some 62) #[true, true, true, true, true, true, true, true, false, true, true, true, false, false] rfl rfl (one_of HT_.out (by kernel_rfl)) (by decide) (fun K hK => ?_)
          refine Kd.R_append_rows_step k32 (w0 := w) w.heap.size (by rfl) (.tmp 58) (.tmp 61) 29 32 (.agg #[(.int .i64 0), (.int .i64 0)]) 16 rfl Tryd.underlying29 info32 rfl (by decide) (by omega) v213 y212 y215 _ _ _ (fun k_ => some k_ ≠ (v223 : Value).ownBlock) (fun _ => False) rfl rfl ?aO ?aR (fun _ _ h => h) (fun _ h => h.elim) ?aF ?aB ?aS ?aL ?_
          (case aR => repeat (first | exact (Kd.C_below HR218.out HB.out) | (with_reducible refine Kd.C_alloc ?_ _) | (with_reducible refine Kd.C_drewN ?_ _) | (with_reducible refine Kd.C_drew ?_)))
          (case aB => exact (by repeat (first | (with_reducible first | exact HB.out | apply bA | apply bN | apply bD) | exact HB.out)))
          (case aF => exact (fun k_ hk => Kd.fresh' (Kd.R_lt (by (with_reducible repeat (first | apply zA | apply zN | apply zD)); exact HO224.out)) k_ hk))
          (case aO => exact (by (with_reducible repeat (first | apply zA | apply zN | apply zD)); exact Kd.R_mono HO214.out (fun _ hk => hk.2)))
          (case aS => exact (below_size (by repeat (first | (with_reducible first | exact HB.out | apply bA | apply bN | apply bD) | exact HB.out))))
          (case aL => have := LMc41.out; omega)
          intro v220 w61 ho hb hg hat
          rw [← Ny219.out] at ho
          have n0_ := Aside0.mk (Kd.R_after (ok := (fun _ => True)) (by (with_reducible repeat (first | apply zA | apply zN | apply zD)); exact HO224.out) hg hat)
          have n1_ := Aside0.mk (hb)
          have n2_ := Aside0.mk (ho)
          clear HO224
          clear HB
          clear HO214
          have HO224 := n0_
          have HB := n1_
          have HO221 := n2_
          clear n0_ n1_ n2_
          clear ho hb hg hat
          refine hK.out _ _ trivial (fun hHeld => ?_)
          clear hK K
          refine norm_ (a' := ?_) ?_ ?_
          rotate_left
          ·show Act.put _ (some 62) _ = _
           simp only [Act.put, List.setIfInBounds_toArray, List.set_cons_zero, List.set_cons_succ, i64_w, i32_w]
           rfl
          exact norm_ (by simp only [putAll, Act.put, List.setIfInBounds_toArray, List.set_cons_zero, List.set_cons_succ]) (hCont (v213, v220, v223) _ ⟨(by (with_reducible repeat (first | apply zA | apply zN | apply zD)); exact HO221.out), (by (with_reducible repeat (first | apply zA | apply zN | apply zD)); exact Kd.R_mono HO224.out (fun _ hk => hk.2)), (by repeat (first | (with_reducible first | exact HB.out | apply bA | apply bN | apply bD) | exact HB.out))⟩)
        ·skip
         refine Kd.R_lit_step k32 _ 32 ?hg (N := 65) ?hd (xs := ([(⟨3, a3⟩ : S32)] : List (S32))) (inner := [.int .i64 3, .int .i64 a3]) (ok := fun _ => True) (okp := fun _ => True) ?hr ?hp (fun _ hk => hk) trivial (Below.refl _ _) (Nat.le_refl _) (by simp) ?_; (case hd => rfl); (case hg => rfl); (case hr => first | (go_simp; done) | (go_simp; rfl)); (case hp => exact (Reps.c2 (show Kd.M k32 _ _ _ (⟨3, a3⟩ : S32) [.int .i64 3, .int .i64 a3] from (k32_mkM _ _ _ (⟨3, a3⟩ : S32) )) (Reps.none _ _)))
         intro v223 w57 ho58 hb hg_ hnew_
         clear hg_ hnew_
         (first | rw [← Ny222.out] at ho58 | (simp only [Int.reduceToNat] at ho58; rw [← Ny222.out] at ho58))
         have n0_ := Aside0.mk (Kd.R_lower ho58 (below_size (by repeat (first | (with_reducible first | exact HB.out | apply bA | apply bN | apply bD) | exact HB.out))))
         have n1_ := Aside0.mk (below_step (by repeat (first | (with_reducible first | exact HB.out | apply bA | apply bN | apply bD) | exact HB.out)) hb)
         clear HB
         have HO224 := n0_
         have HB := n1_
         clear n0_ n1_
         clear hb ho58
         refine hK.out _ _ trivial (fun hHeld => ?_)
         clear hK K
         refine norm_ (a' := ?_) ?_ ?_
         rotate_left
         ·show Act.put _ (some 65) _ = _
          simp only [Act.put, List.setIfInBounds_toArray, List.set_cons_zero, List.set_cons_succ, i64_w, i32_w]
          rfl
         refine one_ (i := 0) (N := some 58) #[true, true, true, true, false, true, true, true, false, true, true, true, false, false] rfl rfl (one_of HT_.out (by kernel_rfl)) (by decide) (fun K hK => ?_)
         refine Kd.R_lit_step k32 _ 32 ?hg (N := 58) ?hd (xs := ([] : List (S32))) (inner := []) (ok := fun _ => True) (okp := fun _ => True) ?hr ?hp (fun _ hk => hk) trivial (Below.refl _ _) (Nat.le_refl _) (by simp) ?_; (case hd => rfl); (case hg => rfl); (case hr => first | (go_simp; done) | (go_simp; rfl)); (case hp => exact (Reps.none _ _))
         intro v213 w59 ho60 hb hg_ hnew_
         clear hg_ hnew_
         (first | rw [← Ny212.out] at ho60 | (simp only [Int.reduceToNat] at ho60; rw [← Ny212.out] at ho60))
         have n0_ := Aside0.mk (Kd.R_elder' (by (with_reducible repeat (first | apply zA | apply zN | apply zD)); exact HO224.out) (Kd.R_base ho60) hb)
         have n1_ := Aside0.mk (Kd.R_lower (Kd.R_new' ho60 (Kd.R_lt (by (with_reducible repeat (first | apply zA | apply zN | apply zD)); exact HO224.out))) (below_size (by repeat (first | (with_reducible first | exact HB.out | apply bA | apply bN | apply bD) | exact HB.out))))
         have n2_ := Aside0.mk (below_step (by repeat (first | (with_reducible first | exact HB.out | apply bA | apply bN | apply bD) | exact HB.out)) hb)
         clear HO224
         clear HB
         have HO224 := n0_
         have HO214 := n1_
         have HB := n2_
         clear n0_ n1_ n2_
         clear hb ho60
         refine hK.out _ _ trivial (fun hHeld => ?_)
         clear hK K
         refine norm_ (a' := ?_) ?_ ?_
         rotate_left
         ·show Act.put _ (some 58) _ = _
          simp only [Act.put, List.setIfInBounds_toArray, List.set_cons_zero, List.set_cons_succ, i64_w, i32_w]
          rfl
         refine one_ (i := 4) (N := some 62) #[true, true, true, true, true, true, true, true, false, true, true, true, false, false] rfl rfl (one_of HT_.out (by kernel_rfl)) (by decide) (fun K hK => ?_)
         refine Kd.R_append_rows_step k32 (w0 := w) w.heap.size (by rfl) (.tmp 58) (.tmp 61) 29 32 (.agg #[(.int .i64 0), (.int .i64 0)]) 16 rfl Tryd.underlying29 info32 rfl (by decide) (by omega) v213 y212 y215 _ _ _ (fun k_ => some k_ ≠ (v223 : Value).ownBlock) (fun _ => False) rfl rfl ?aO ?aR (fun _ _ h => h) (fun _ h => h.elim) ?aF ?aB ?aS ?aL ?_
         (case aR => repeat (first | exact (Kd.C_below HR218.out HB.out) | (with_reducible refine Kd.C_alloc ?_ _) | (with_reducible refine Kd.C_drewN ?_ _) | (with_reducible refine Kd.C_drew ?_)))
         (case aB => exact (by repeat (first | (with_reducible first | exact HB.out | apply bA | apply bN | apply bD) | exact HB.out)))
         (case aF => exact (fun k_ hk => Kd.fresh' (Kd.R_lt (by (with_reducible repeat (first | apply zA | apply zN | apply zD)); exact HO224.out)) k_ hk))
         (case aO => exact (by (with_reducible repeat (first | apply zA | apply zN | apply zD)); exact Kd.R_mono HO214.out (fun _ hk => hk.2)))
         (case aS => exact (below_size (by repeat (first | (with_reducible first | exact HB.out | apply bA | apply bN | apply bD) | exact HB.out))))
         (case aL => have := LMc41.out; omega)
         intro v220 w61 ho hb hg hat
         rw [← Ny219.out] at ho
         have n0_ := Aside0.mk (Kd.R_after (ok := (fun _ => True)) (by (with_reducible repeat (first | apply zA | apply zN | apply zD)); exact HO224.out) hg hat)
         have n1_ := Aside0.mk (hb)
         have n2_ := Aside0.mk (ho)
         clear HO224
         clear HB
         clear HO214
         have HO224 := n0_
         have HB := n1_
         have HO221 := n2_
         clear n0_ n1_ n2_
         clear ho hb hg hat
         refine hK.out _ _ trivial (fun hHeld => ?_)
         clear hK K
         refine norm_ (a' := ?_) ?_ ?_
         rotate_left
         ·show Act.put _ (some 62) _ = _
          simp only [Act.put, List.setIfInBounds_toArray, List.set_cons_zero, List.set_cons_succ, i64_w, i32_w]
          rfl
         exact norm_ (by simp only [putAll, Act.put, List.setIfInBounds_toArray, List.set_cons_zero, List.set_cons_succ]) (hCont (v213, v220, v223) _ ⟨(by (with_reducible repeat (first | apply zA | apply zN | apply zD)); exact HO221.out), (by (with_reducible repeat (first | apply zA | apply zN | apply zD)); exact Kd.R_mono HO224.out (fun _ hk => hk.2)), (by repeat (first | (with_reducible first | exact HB.out | apply bA | apply bN | apply bD) | exact HB.out))⟩)
       rintro ⟨v213, v220, v223⟩ w62 ⟨h0_, h1_, h2_⟩
       have n0_ : Aside0 (Kd.R k32 32 w62 w.heap.size (fun k_ => some k_ ≠ (v223 : Value).ownBlock) v220 y219) := ⟨h0_⟩
       have n1_ : Aside0 (Kd.R k32 32 w62 w.heap.size (fun k_ => some k_ ≠ (v220 : Value).ownBlock) v223 y222) := ⟨h1_⟩
       have n2_ : Aside0 (Below w.heap.size w w62) := ⟨h2_⟩
       clear HB
       clear h0_ h1_ h2_
       have HO221 := n0_
       have HO224 := n1_
       have HB := n2_
       clear n0_ n1_ n2_
       have hHeld := trivial
       obtain ⟨Ao64, co64, eo64⟩ := Kd.R_slice HO224.out
       (first | subst eo64 | (injection eo64 with f1_ f2_ f3_; have f4_ := f1_.symm; have f5_ := f3_.symm; clear f1_ f2_ f3_; subst f4_; subst f5_))
       refine norm_ (a' := ?_) ?_ ?_
       rotate_left
       ·simp only [putAll, Act.put, List.setIfInBounds_toArray, List.set_cons_zero, List.set_cons_succ]
        rfl
       refine one_ (i := 8) (N := some 66) #[true, true, true, true, true, true, true, true, true, true, true, true, false, false] rfl rfl (one_of HT_.out (by kernel_rfl)) (by decide) (fun K hK => ?_)
       refine Kd.R_append_rows_step k32 (w0 := w) w.heap.size (by rfl) (.tmp 62) (.tmp 65) 29 32 (.agg #[(.int .i64 0), (.int .i64 0)]) 16 rfl Tryd.underlying29 info32 rfl (by decide) (by omega) v220 y219 y222 _ _ _ (fun k_ => some k_ ≠ (.slice Ao64 y222.length co64 : Value).ownBlock) (fun _ => False) rfl rfl ?aO ?aR (fun _ _ h => h) (fun _ h => h.elim) ?aF ?aB ?aS ?aL ?_
       (case aR => repeat (first | exact (Kd.R_reads' HO224.out).2.2 | (with_reducible refine Kd.C_alloc ?_ _) | (with_reducible refine Kd.C_drewN ?_ _) | (with_reducible refine Kd.C_drew ?_)))
       (case aB => exact (by repeat (first | (with_reducible first | exact HB.out | apply bA | apply bN | apply bD) | exact HB.out)))
       (case aF => exact (fun k_ hk => Kd.fresh' (Kd.R_lt (by (with_reducible repeat (first | apply zA | apply zN | apply zD)); exact HO224.out)) k_ hk))
       (case aO => exact (by (with_reducible repeat (first | apply zA | apply zN | apply zD)); exact HO221.out))
       (case aS => exact (below_size (by repeat (first | (with_reducible first | exact HB.out | apply bA | apply bN | apply bD) | exact HB.out))))
       (case aL => have := LMc42.out; omega)
       intro v226 w63 ho hb hg hat
       rw [← Ny225.out] at ho
       have n0_ := Aside0.mk (Kd.R_after (ok := (fun _ => True)) (by (with_reducible repeat (first | apply zA | apply zN | apply zD)); exact Kd.R_mono HO224.out (fun _ hk => ⟨trivial, hk⟩)) hg hat)
       have n1_ := Aside0.mk (hb)
       have n2_ := Aside0.mk (ho)
       clear HO224
       clear HB
       clear HO221
       have HO224 := n0_
       have HB := n1_
       have HO227 := n2_
       clear n0_ n1_ n2_
       clear ho hb hg hat
       refine hK.out _ _ trivial (fun hHeld => ?_)
       clear hK K
       refine norm_ (a' := ?_) ?_ ?_
       rotate_left
       ·show Act.put _ (some 66) _ = _
        simp only [Act.put, List.setIfInBounds_toArray, List.set_cons_zero, List.set_cons_succ, i64_w, i32_w]
        rfl
       refine one_ (i := 12) (N := some 70) #[true, true, true, true, true, true, true, true, true, true, true, true, true, false] rfl rfl (one_of HT_.out (by kernel_rfl)) (by decide) (fun K hK => ?_)
       refine Kd.R_append_rows_step k32 (w0 := w) w.heap.size (by rfl) (.tmp 66) (.tmp 69) 29 32 (.agg #[(.int .i64 0), (.int .i64 0)]) 16 rfl Tryd.underlying29 info32 rfl (by decide) (by omega) v226 y225 y228 _ _ _ (fun k_ => some k_ ≠ (.slice Ao64 y222.length co64 : Value).ownBlock) (fun _ => False) rfl rfl ?aO ?aR (fun _ _ h => h) (fun _ h => h.elim) ?aF ?aB ?aS ?aL ?_
       (case aR => repeat (first | exact (Kd.C_below HR231.out HB.out) | (with_reducible refine Kd.C_alloc ?_ _) | (with_reducible refine Kd.C_drewN ?_ _) | (with_reducible refine Kd.C_drew ?_)))
       (case aB => exact (by repeat (first | (with_reducible first | exact HB.out | apply bA | apply bN | apply bD) | exact HB.out)))
       (case aF => exact (fun k_ hk => Kd.fresh' (Kd.R_lt (by (with_reducible repeat (first | apply zA | apply zN | apply zD)); exact HO224.out)) k_ hk))
       (case aO => exact (by (with_reducible repeat (first | apply zA | apply zN | apply zD)); exact HO227.out))
       (case aS => exact (below_size (by repeat (first | (with_reducible first | exact HB.out | apply bA | apply bN | apply bD) | exact HB.out))))
       (case aL => have := LMc45.out; omega)
       intro v233 w65 ho hb hg hat
       rw [← Ny232.out] at ho
       have n0_ := Aside0.mk (Kd.R_after (ok := (fun _ => True)) (by (with_reducible repeat (first | apply zA | apply zN | apply zD)); exact HO224.out) hg hat)
       have n1_ := Aside0.mk (hb)
       have n2_ := Aside0.mk (ho)
       clear HO224
       clear HB
       clear HO227
       have HO224 := n0_
       have HB := n1_
       have HO234 := n2_
       clear n0_ n1_ n2_
       clear ho hb hg hat
       refine hK.out _ _ trivial (fun hHeld => ?_)
       clear hK K
       refine norm_ (a' := ?_) ?_ ?_
       rotate_left
       ·show Act.put _ (some 70) _ = _
        simp only [Act.put, List.setIfInBounds_toArray, List.set_cons_zero, List.set_cons_succ, i64_w, i32_w]
        rfl
       refine pure_ (i := 13) (N := some 12) (v := ?_) (a' := ?_) #[true, true, true, true, true, true, true, true, true, true, true, true, true, true] rfl rfl (any_of HT_.out (by kernel_rfl)) (fun _ _ _ h => h) (Or.inl ⟨by rfl, ?_⟩) ?_ ?_
       rotate_left
       ·intro w'
        go_simp
        with_reducible rfl
       rotate_left
       ·simp only [Act.put, List.setIfInBounds_toArray, List.set_cons_zero, List.set_cons_succ, i64_w, i32_w]
        rfl
       refine done_ (done_of HT_.out (by kernel_rfl)) ?_
       try go_wp2_with (first | ((with_reducible refine gate_dst (N := 71) rfl ?_); refine Kd.R_lit k32 _ 32 ?hg (N := 71) ?hd (xs := ([] : List (S32))) (inner := []) (ok := fun _ => True) (okp := fun _ => True) ?hr ?hp (fun _ hk => hk) trivial (Below.refl _ _) (Nat.le_refl _) (by simp) ?_; (case hd => rfl); (case hg => rfl); (case hr => first | (go_simp; done) | (go_simp; rfl)); (case hp => exact (Reps.none _ _)); intro v236 w66 ho67 hb hg_ hnew_; clear hg_ hnew_; (first | rw [← Ny235.out] at ho67 | (simp only [Int.reduceToNat] at ho67; rw [← Ny235.out] at ho67)); have n0_ := Aside0.mk (Kd.R_elder' (by (with_reducible repeat (first | apply zA | apply zN | apply zD)); exact HO224.out) (Kd.R_base ho67) hb); have n1_ := Aside0.mk (Kd.R_elder' (by (with_reducible repeat (first | apply zA | apply zN | apply zD)); exact HO234.out) (Kd.R_base ho67) hb); have n2_ := Aside0.mk (Kd.R_lower (Kd.R_new' (Kd.R_new' ho67 (Kd.R_lt (by (with_reducible repeat (first | apply zA | apply zN | apply zD)); exact HO224.out))) (Kd.R_lt (by (with_reducible repeat (first | apply zA | apply zN | apply zD)); exact HO234.out))) (below_size (by repeat (first | (with_reducible first | exact HB.out | apply bA | apply bN | apply bD) | exact HB.out)))); have n3_ := Aside0.mk (below_step (by repeat (first | (with_reducible first | exact HB.out | apply bA | apply bN | apply bD) | exact HB.out)) hb); clear HO224; clear HO234; clear HB; have HO224 := n0_; have HO234 := n1_; have HO237 := n2_; have HB := n3_; clear n0_ n1_ n2_ n3_; clear hb ho67) | ((with_reducible refine gate_builtin (b := .append) (xs := #[.tmp 71, .tmp 72]) rfl ?_); at_builtin; refine Kd.R_append_rows k32 (w0 := w) w.heap.size rfl (.tmp 71) (.tmp 72) 29 32 (.agg #[(.int .i64 0), (.int .i64 0)]) 16 rfl Tryd.underlying29 info32 rfl (by decide) (by omega) v236 y235 y190 _ _ _ (fun k_ => some k_ ≠ (.slice Ao64 y222.length co64 : Value).ownBlock ∧ some k_ ≠ (v233 : Value).ownBlock) (fun _ => False) rfl rfl ?aO ?aR (fun _ _ h => h) (fun _ h => h.elim) ?aF ?aB ?aS ?aL ?_; (case aR => repeat (first | exact (Kd.C_below HR193.out HB.out) | (with_reducible refine Kd.C_alloc ?_ _) | (with_reducible refine Kd.C_drewN ?_ _) | (with_reducible refine Kd.C_drew ?_))); (case aB => exact (by repeat (first | (with_reducible first | exact HB.out | apply bA | apply bN | apply bD) | exact HB.out))); (case aF => exact (fun k_ hk => ⟨Kd.fresh' (Kd.R_lt (by (with_reducible repeat (first | apply zA | apply zN | apply zD)); exact HO224.out)) k_ hk, Kd.fresh' (Kd.R_lt (by (with_reducible repeat (first | apply zA | apply zN | apply zD)); exact HO234.out)) k_ hk⟩)); (case aO => exact (by (with_reducible repeat (first | apply zA | apply zN | apply zD)); exact Kd.R_mono HO237.out (fun _ hk => ⟨hk.1.2, hk.2⟩))); (case aS => exact (below_size (by repeat (first | (with_reducible first | exact HB.out | apply bA | apply bN | apply bD) | exact HB.out)))); (case aL => have := LMc46.out; omega); intro v239 w68 ho hb hg hat; rw [← Ny238.out] at ho; have n0_ := Aside0.mk (Kd.R_after (ok := (fun k_ => some k_ ≠ (v233 : Value).ownBlock)) (by (with_reducible repeat (first | apply zA | apply zN | apply zD)); exact Kd.R_mono HO224.out (fun _ hk => ⟨hk.1.2, hk.2⟩)) hg hat); have n1_ := Aside0.mk (Kd.R_after (ok := (fun k_ => some k_ ≠ (.slice Ao64 y222.length co64 : Value).ownBlock)) (by (with_reducible repeat (first | apply zA | apply zN | apply zD)); exact HO234.out) hg hat); have n2_ := Aside0.mk (hb); have n3_ := Aside0.mk (ho); clear HO224; clear HO234; clear HB; clear HO237; have HO224 := n0_; have HO234 := n1_; have HB := n2_; have HO240 := n3_; clear n0_ n1_ n2_ n3_; clear ho hb hg hat) | ((with_reducible refine gate_dst (N := 76) rfl ?_); refine Kd.R_lit k32 _ 32 ?hg (N := 76) ?hd (xs := ([(⟨0, a3⟩ : S32)] : List (S32))) (inner := [.int .i64 0, .int .i64 a3]) (ok := fun _ => True) (okp := fun _ => True) ?hr ?hp (fun _ hk => hk) trivial (Below.refl _ _) (Nat.le_refl _) (by simp) ?_; (case hd => rfl); (case hg => rfl); (case hr => first | (go_simp; done) | (go_simp; rfl)); (case hp => exact (Reps.c2 (show Kd.M k32 _ _ _ (⟨0, a3⟩ : S32) [.int .i64 0, .int .i64 a3] from (k32_mkM _ _ _ (⟨0, a3⟩ : S32) )) (Reps.none _ _))); intro v242 w69 ho70 hb hg_ hnew_; clear hg_ hnew_; (first | rw [← Ny241.out] at ho70 | (simp only [Int.reduceToNat] at ho70; rw [← Ny241.out] at ho70)); have n0_ := Aside0.mk (Kd.R_elder' (by (with_reducible repeat (first | apply zA | apply zN | apply zD)); exact HO224.out) (Kd.R_base ho70) hb); have n1_ := Aside0.mk (Kd.R_elder' (by (with_reducible repeat (first | apply zA | apply zN | apply zD)); exact HO234.out) (Kd.R_base ho70) hb); have n2_ := Aside0.mk (Kd.R_elder' (by (with_reducible repeat (first | apply zA | apply zN | apply zD)); exact HO240.out) (Kd.R_base ho70) hb); have n3_ := Aside0.mk (Kd.R_lower (Kd.R_new' (Kd.R_new' (Kd.R_new' ho70 (Kd.R_lt (by (with_reducible repeat (first | apply zA | apply zN | apply zD)); exact HO224.out))) (Kd.R_lt (by (with_reducible repeat (first | apply zA | apply zN | apply zD)); exact HO234.out))) (Kd.R_lt (by (with_reducible repeat (first | apply zA | apply zN | apply zD)); exact HO240.out))) (below_size (by repeat (first | (with_reducible first | exact HB.out | apply bA | apply bN | apply bD) | exact HB.out)))); have n4_ := Aside0.mk (below_step (by repeat (first | (with_reducible first | exact HB.out | apply bA | apply bN | apply bD) | exact HB.out)) hb); clear HO224; clear HO234; clear HO240; clear HB; have HO224 := n0_; have HO234 := n1_; have HO240 := n2_; have HO243 := n3_; have HB := n4_; clear n0_ n1_ n2_ n3_ n4_; clear hb ho70; obtain ⟨Ao72, co72, eo72⟩ := Kd.R_slice HO243.out; subst eo72) | ((with_reducible refine gate_builtin (b := .append) (xs := #[.tmp 73, .tmp 76]) rfl ?_); at_builtin; refine Kd.R_append_rows k32 (w0 := w) w.heap.size rfl (.tmp 73) (.tmp 76) 29 32 (.agg #[(.int .i64 0), (.int .i64 0)]) 16 rfl Tryd.underlying29 info32 rfl (by decide) (by omega) v239 y238 y241 _ _ _ (fun k_ => some k_ ≠ (.slice Ao64 y222.length co64 : Value).ownBlock ∧ some k_ ≠ (v233 : Value).ownBlock ∧ some k_ ≠ (.slice Ao72 y241.length co72 : Value).ownBlock) (fun _ => False) rfl rfl ?aO ?aR (fun _ _ h => h) (fun _ h => h.elim) ?aF ?aB ?aS ?aL ?_; (case aR => repeat (first | exact (Kd.R_reads' HO243.out).2.2 | (with_reducible refine Kd.C_alloc ?_ _) | (with_reducible refine Kd.C_drewN ?_ _) | (with_reducible refine Kd.C_drew ?_))); (case aB => exact (by repeat (first | (with_reducible first | exact HB.out | apply bA | apply bN | apply bD) | exact HB.out))); (case aF => exact (fun k_ hk => ⟨Kd.fresh' (Kd.R_lt (by (with_reducible repeat (first | apply zA | apply zN | apply zD)); exact HO224.out)) k_ hk, Kd.fresh' (Kd.R_lt (by (with_reducible repeat (first | apply zA | apply zN | apply zD)); exact HO234.out)) k_ hk, Kd.fresh' (Kd.R_lt (by (with_reducible repeat (first | apply zA | apply zN | apply zD)); exact HO243.out)) k_ hk⟩)); (case aO => exact (by (with_reducible repeat (first | apply zA | apply zN | apply zD)); exact Kd.R_mono HO240.out (fun _ hk => ⟨hk.1.1, ⟨hk.1.2, hk.2⟩⟩))); (case aS => exact (below_size (by repeat (first | (with_reducible first | exact HB.out | apply bA | apply bN | apply bD) | exact HB.out)))); (case aL => have := LMc47.out; omega); intro v245 w71 ho hb hg hat; rw [← Ny244.out] at ho; have n0_ := Aside0.mk (Kd.R_after (ok := (fun k_ => some k_ ≠ (v233 : Value).ownBlock ∧ some k_ ≠ (.slice Ao72 y241.length co72 : Value).ownBlock)) (by (with_reducible repeat (first | apply zA | apply zN | apply zD)); exact Kd.R_mono HO224.out (fun _ hk => ⟨⟨hk.1.1, hk.2⟩, hk.1.2⟩)) hg hat); have n1_ := Aside0.mk (Kd.R_after (ok := (fun k_ => some k_ ≠ (.slice Ao64 y222.length co64 : Value).ownBlock ∧ some k_ ≠ (.slice Ao72 y241.length co72 : Value).ownBlock)) (by (with_reducible repeat (first | apply zA | apply zN | apply zD)); exact Kd.R_mono HO234.out (fun _ hk => ⟨⟨hk.1.1, hk.2⟩, hk.1.2⟩)) hg hat); have n2_ := Aside0.mk (Kd.R_after (ok := (fun k_ => some k_ ≠ (.slice Ao64 y222.length co64 : Value).ownBlock ∧ some k_ ≠ (v233 : Value).ownBlock)) (by (with_reducible repeat (first | apply zA | apply zN | apply zD)); exact Kd.R_mono HO243.out (fun _ hk => ⟨⟨hk.1.1.2, hk.1.2⟩, hk.2⟩)) hg hat); have n3_ := Aside0.mk (hb); have n4_ := Aside0.mk (ho); clear HO224; clear HO234; clear HO243; clear HB; clear HO240; have HO224 := n0_; have HO234 := n1_; have HO243 := n2_; have HB := n3_; have HO246 := n4_; clear n0_ n1_ n2_ n3_ n4_; clear ho hb hg hat) | ((with_reducible refine gate_dst (N := 78) rfl ?_); refine Kd.R_lit k32 _ 32 ?hg (N := 78) ?hd (xs := ([] : List (S32))) (inner := []) (ok := fun _ => True) (okp := fun _ => True) ?hr ?hp (fun _ hk => hk) trivial (Below.refl _ _) (Nat.le_refl _) (by simp) ?_; (case hd => rfl); (case hg => rfl); (case hr => first | (go_simp; done) | (go_simp; rfl)); (case hp => exact (Reps.none _ _)); intro v248 w73 ho74 hb hg_ hnew_; clear hg_ hnew_; (first | rw [← Ny247.out] at ho74 | (simp only [Int.reduceToNat] at ho74; rw [← Ny247.out] at ho74)); have n0_ := Aside0.mk (Kd.R_elder' (by (with_reducible repeat (first | apply zA | apply zN | apply zD)); exact HO224.out) (Kd.R_base ho74) hb); have n1_ := Aside0.mk (Kd.R_elder' (by (with_reducible repeat (first | apply zA | apply zN | apply zD)); exact HO234.out) (Kd.R_base ho74) hb); have n2_ := Aside0.mk (Kd.R_elder' (by (with_reducible repeat (first | apply zA | apply zN | apply zD)); exact HO243.out) (Kd.R_base ho74) hb); have n3_ := Aside0.mk (Kd.R_elder' (by (with_reducible repeat (first | apply zA | apply zN | apply zD)); exact HO246.out) (Kd.R_base ho74) hb); have n4_ := Aside0.mk (Kd.R_lower (Kd.R_new' (Kd.R_new' (Kd.R_new' (Kd.R_new' ho74 (Kd.R_lt (by (with_reducible repeat (first | apply zA | apply zN | apply zD)); exact HO224.out))) (Kd.R_lt (by (with_reducible repeat (first | apply zA | apply zN | apply zD)); exact HO234.out))) (Kd.R_lt (by (with_reducible repeat (first | apply zA | apply zN | apply zD)); exact HO243.out))) (Kd.R_lt (by (with_reducible repeat (first | apply zA | apply zN | apply zD)); exact HO246.out))) (below_size (by repeat (first | (with_reducible first | exact HB.out | apply bA | apply bN | apply bD) | exact HB.out)))); have n5_ := Aside0.mk (below_step (by repeat (first | (with_reducible first | exact HB.out | apply bA | apply bN | apply bD) | exact HB.out)) hb); clear HO224; clear HO234; clear HO243; clear HO246; clear HB; have HO224 := n0_; have HO234 := n1_; have HO243 := n2_; have HO246 := n3_; have HO249 := n4_; have HB := n5_; clear n0_ n1_ n2_ n3_ n4_ n5_; clear hb ho74; obtain ⟨Ao76, co76, eo76⟩ := Kd.R_slice HO246.out; subst eo76) | ((with_reducible refine gate_builtin (b := .append) (xs := #[.tmp 78, .tmp 79]) rfl ?_); at_builtin; refine Kd.R_append_rows k32 (w0 := w) w.heap.size rfl (.tmp 78) (.tmp 79) 29 32 (.agg #[(.int .i64 0), (.int .i64 0)]) 16 rfl Tryd.underlying29 info32 rfl (by decide) (by omega) v248 y247 y244 _ _ _ (fun k_ => some k_ ≠ (.slice Ao64 y222.length co64 : Value).ownBlock ∧ some k_ ≠ (v233 : Value).ownBlock ∧ some k_ ≠ (.slice Ao72 y241.length co72 : Value).ownBlock ∧ some k_ ≠ (.slice Ao76 y244.length co76 : Value).ownBlock) (fun _ => False) rfl rfl ?aO ?aR (fun _ _ h => h) (fun _ h => h.elim) ?aF ?aB ?aS ?aL ?_; (case aR => repeat (first | exact (Kd.R_reads' HO246.out).2.2 | (with_reducible refine Kd.C_alloc ?_ _) | (with_reducible refine Kd.C_drewN ?_ _) | (with_reducible refine Kd.C_drew ?_))); (case aB => exact (by repeat (first | (with_reducible first | exact HB.out | apply bA | apply bN | apply bD) | exact HB.out))); (case aF => exact (fun k_ hk => ⟨Kd.fresh' (Kd.R_lt (by (with_reducible repeat (first | apply zA | apply zN | apply zD)); exact HO224.out)) k_ hk, Kd.fresh' (Kd.R_lt (by (with_reducible repeat (first | apply zA | apply zN | apply zD)); exact HO234.out)) k_ hk, Kd.fresh' (Kd.R_lt (by (with_reducible repeat (first | apply zA | apply zN | apply zD)); exact HO243.out)) k_ hk, Kd.fresh' (Kd.R_lt (by (with_reducible repeat (first | apply zA | apply zN | apply zD)); exact HO246.out)) k_ hk⟩)); (case aO => exact (by (with_reducible repeat (first | apply zA | apply zN | apply zD)); exact Kd.R_mono HO249.out (fun _ hk => ⟨hk.1.1.1.2, ⟨hk.1.1.2, ⟨hk.1.2, hk.2⟩⟩⟩))); (case aS => exact (below_size (by repeat (first | (with_reducible first | exact HB.out | apply bA | apply bN | apply bD) | exact HB.out)))); (case aL => have := LMc48.out; omega); intro v251 w75 ho hb hg hat; rw [← Ny250.out] at ho; have n0_ := Aside0.mk (Kd.R_after (ok := (fun k_ => some k_ ≠ (v233 : Value).ownBlock ∧ some k_ ≠ (.slice Ao72 y241.length co72 : Value).ownBlock ∧ some k_ ≠ (.slice Ao76 y244.length co76 : Value).ownBlock)) (by (with_reducible repeat (first | apply zA | apply zN | apply zD)); exact Kd.R_mono HO224.out (fun _ hk => ⟨⟨hk.1.1.1, ⟨hk.1.1.2, hk.1.2⟩⟩, hk.2⟩)) hg hat); have n1_ := Aside0.mk (Kd.R_after (ok := (fun k_ => some k_ ≠ (.slice Ao64 y222.length co64 : Value).ownBlock ∧ some k_ ≠ (.slice Ao72 y241.length co72 : Value).ownBlock ∧ some k_ ≠ (.slice Ao76 y244.length co76 : Value).ownBlock)) (by (with_reducible repeat (first | apply zA | apply zN | apply zD)); exact Kd.R_mono HO234.out (fun _ hk => ⟨⟨hk.1.1.1, ⟨hk.1.1.2, hk.1.2⟩⟩, hk.2⟩)) hg hat); have n2_ := Aside0.mk (Kd.R_after (ok := (fun k_ => some k_ ≠ (.slice Ao64 y222.length co64 : Value).ownBlock ∧ some k_ ≠ (v233 : Value).ownBlock ∧ some k_ ≠ (.slice Ao76 y244.length co76 : Value).ownBlock)) (by (with_reducible repeat (first | apply zA | apply zN | apply zD)); exact Kd.R_mono HO243.out (fun _ hk => ⟨⟨hk.1.1.1, ⟨hk.1.1.2, hk.1.2⟩⟩, hk.2⟩)) hg hat); have n3_ := Aside0.mk (Kd.R_after (ok := (fun k_ => some k_ ≠ (.slice Ao64 y222.length co64 : Value).ownBlock ∧ some k_ ≠ (v233 : Value).ownBlock ∧ some k_ ≠ (.slice Ao72 y241.length co72 : Value).ownBlock)) (by (with_reducible repeat (first | apply zA | apply zN | apply zD)); exact HO246.out) hg hat); have n4_ := Aside0.mk (hb); have n5_ := Aside0.mk (ho); clear HO224; clear HO234; clear HO243; clear HO246; clear HB; clear HO249; have HO224 := n0_; have HO234 := n1_; have HO243 := n2_; have HO246 := n3_; have HB := n4_; have HO252 := n5_; clear n0_ n1_ n2_ n3_ n4_ n5_; clear ho hb hg hat) | ((with_reducible refine gate_dst (N := 83) rfl ?_); refine Kd.R_lit k32 _ 32 ?hg (N := 83) ?hd (xs := ([(⟨2, a3⟩ : S32)] : List (S32))) (inner := [.int .i64 2, .int .i64 a3]) (ok := fun _ => True) (okp := fun _ => True) ?hr ?hp (fun _ hk => hk) trivial (Below.refl _ _) (Nat.le_refl _) (by simp) ?_; (case hd => rfl); (case hg => rfl); (case hr => first | (go_simp; done) | (go_simp; rfl)); (case hp => exact (Reps.c2 (show Kd.M k32 _ _ _ (⟨2, a3⟩ : S32) [.int .i64 2, .int .i64 a3] from (k32_mkM _ _ _ (⟨2, a3⟩ : S32) )) (Reps.none _ _))); intro v254 w77 ho78 hb hg_ hnew_; clear hg_ hnew_; (first | rw [← Ny253.out] at ho78 | (simp only [Int.reduceToNat] at ho78; rw [← Ny253.out] at ho78)); have n0_ := Aside0.mk (Kd.R_elder' (by (with_reducible repeat (first | apply zA | apply zN | apply zD)); exact HO224.out) (Kd.R_base ho78) hb); have n1_ := Aside0.mk (Kd.R_elder' (by (with_reducible repeat (first | apply zA | apply zN | apply zD)); exact HO234.out) (Kd.R_base ho78) hb); have n2_ := Aside0.mk (Kd.R_elder' (by (with_reducible repeat (first | apply zA | apply zN | apply zD)); exact HO243.out) (Kd.R_base ho78) hb); have n3_ := Aside0.mk (Kd.R_elder' (by (with_reducible repeat (first | apply zA | apply zN | apply zD)); exact HO246.out) (Kd.R_base ho78) hb); have n4_ := Aside0.mk (Kd.R_elder' (by (with_reducible repeat (first | apply zA | apply zN | apply zD)); exact HO252.out) (Kd.R_base ho78) hb); have n5_ := Aside0.mk (Kd.R_lower (Kd.R_new' (Kd.R_new' (Kd.R_new' (Kd.R_new' (Kd.R_new' ho78 (Kd.R_lt (by (with_reducible repeat (first | apply zA | apply zN | apply zD)); exact HO224.out))) (Kd.R_lt (by (with_reducible repeat (first | apply zA | apply zN | apply zD)); exact HO234.out))) (Kd.R_lt (by (with_reducible repeat (first | apply zA | apply zN | apply zD)); exact HO243.out))) (Kd.R_lt (by (with_reducible repeat (first | apply zA | apply zN | apply zD)); exact HO246.out))) (Kd.R_lt (by (with_reducible repeat (first | apply zA | apply zN | apply zD)); exact HO252.out))) (below_size (by repeat (first | (with_reducible first | exact HB.out | apply bA | apply bN | apply bD) | exact HB.out)))); have n6_ := Aside0.mk (below_step (by repeat (first | (with_reducible first | exact HB.out | apply bA | apply bN | apply bD) | exact HB.out)) hb); clear HO224; clear HO234; clear HO243; clear HO246; clear HO252; clear HB; have HO224 := n0_; have HO234 := n1_; have HO243 := n2_; have HO246 := n3_; have HO252 := n4_; have HO255 := n5_; have HB := n6_; clear n0_ n1_ n2_ n3_ n4_ n5_ n6_; clear hb ho78; obtain ⟨Ao80, co80, eo80⟩ := Kd.R_slice HO255.out; subst eo80) | ((with_reducible refine gate_builtin (b := .append) (xs := #[.tmp 80, .tmp 83]) rfl ?_); at_builtin; refine Kd.R_append_rows k32 (w0 := w) w.heap.size rfl (.tmp 80) (.tmp 83) 29 32 (.agg #[(.int .i64 0), (.int .i64 0)]) 16 rfl Tryd.underlying29 info32 rfl (by decide) (by omega) v251 y250 y253 _ _ _ (fun k_ => some k_ ≠ (.slice Ao64 y222.length co64 : Value).ownBlock ∧ some k_ ≠ (v233 : Value).ownBlock ∧ some k_ ≠ (.slice Ao72 y241.length co72 : Value).ownBlock ∧ some k_ ≠ (.slice Ao76 y244.length co76 : Value).ownBlock ∧ some k_ ≠ (.slice Ao80 y253.length co80 : Value).ownBlock) (fun _ => False) rfl rfl ?aO ?aR (fun _ _ h => h) (fun _ h => h.elim) ?aF ?aB ?aS ?aL ?_; (case aR => repeat (first | exact (Kd.R_reads' HO255.out).2.2 | (with_reducible refine Kd.C_alloc ?_ _) | (with_reducible refine Kd.C_drewN ?_ _) | (with_reducible refine Kd.C_drew ?_))); (case aB => exact (by repeat (first | (with_reducible first | exact HB.out | apply bA | apply bN | apply bD) | exact HB.out))); (case aF => exact (fun k_ hk => ⟨Kd.fresh' (Kd.R_lt (by (with_reducible repeat (first | apply zA | apply zN | apply zD)); exact HO224.out)) k_ hk, Kd.fresh' (Kd.R_lt (by (with_reducible repeat (first | apply zA | apply zN | apply zD)); exact HO234.out)) k_ hk, Kd.fresh' (Kd.R_lt (by (with_reducible repeat (first | apply zA | apply zN | apply zD)); exact HO243.out)) k_ hk, Kd.fresh' (Kd.R_lt (by (with_reducible repeat (first | apply zA | apply zN | apply zD)); exact HO246.out)) k_ hk, Kd.fresh' (Kd.R_lt (by (with_reducible repeat (first | apply zA | apply zN | apply zD)); exact HO255.out)) k_ hk⟩)); (case aO => exact (by (with_reducible repeat (first | apply zA | apply zN | apply zD)); exact Kd.R_mono HO252.out (fun _ hk => ⟨hk.1.1, ⟨hk.1.2.1, ⟨hk.1.2.2.1, ⟨hk.1.2.2.2, hk.2⟩⟩⟩⟩))); (case aS => exact (below_size (by repeat (first | (with_reducible first | exact HB.out | apply bA | apply bN | apply bD) | exact HB.out)))); (case aL => have := LMc49.out; omega); intro v257 w79 ho hb hg hat; rw [← Ny256.out] at ho; have n0_ := Aside0.mk (Kd.R_after (ok := (fun k_ => some k_ ≠ (v233 : Value).ownBlock ∧ some k_ ≠ (.slice Ao72 y241.length co72 : Value).ownBlock ∧ some k_ ≠ (.slice Ao76 y244.length co76 : Value).ownBlock ∧ some k_ ≠ (.slice Ao80 y253.length co80 : Value).ownBlock)) (by (with_reducible repeat (first | apply zA | apply zN | apply zD)); exact Kd.R_mono HO224.out (fun _ hk => ⟨⟨hk.1.1.1, ⟨hk.1.1.2.1, ⟨hk.1.1.2.2, hk.2⟩⟩⟩, hk.1.2⟩)) hg hat); have n1_ := Aside0.mk (Kd.R_after (ok := (fun k_ => some k_ ≠ (.slice Ao64 y222.length co64 : Value).ownBlock ∧ some k_ ≠ (.slice Ao72 y241.length co72 : Value).ownBlock ∧ some k_ ≠ (.slice Ao76 y244.length co76 : Value).ownBlock ∧ some k_ ≠ (.slice Ao80 y253.length co80 : Value).ownBlock)) (by (with_reducible repeat (first | apply zA | apply zN | apply zD)); exact Kd.R_mono HO234.out (fun _ hk => ⟨⟨hk.1.1.1, ⟨hk.1.1.2.1, ⟨hk.1.1.2.2, hk.2⟩⟩⟩, hk.1.2⟩)) hg hat); have n2_ := Aside0.mk (Kd.R_after (ok := (fun k_ => some k_ ≠ (.slice Ao64 y222.length co64 : Value).ownBlock ∧ some k_ ≠ (v233 : Value).ownBlock ∧ some k_ ≠ (.slice Ao76 y244.length co76 : Value).ownBlock ∧ some k_ ≠ (.slice Ao80 y253.length co80 : Value).ownBlock)) (by (with_reducible repeat (first | apply zA | apply zN | apply zD)); exact Kd.R_mono HO243.out (fun _ hk => ⟨⟨hk.1.1.1, ⟨hk.1.1.2.1, ⟨hk.1.1.2.2, hk.2⟩⟩⟩, hk.1.2⟩)) hg hat); have n3_ := Aside0.mk (Kd.R_after (ok := (fun k_ => some k_ ≠ (.slice Ao64 y222.length co64 : Value).ownBlock ∧ some k_ ≠ (v233 : Value).ownBlock ∧ some k_ ≠ (.slice Ao72 y241.length co72 : Value).ownBlock ∧ some k_ ≠ (.slice Ao80 y253.length co80 : Value).ownBlock)) (by (with_reducible repeat (first | apply zA | apply zN | apply zD)); exact Kd.R_mono HO246.out (fun _ hk => ⟨⟨hk.1.1.1, ⟨hk.1.1.2.1, ⟨hk.1.1.2.2, hk.2⟩⟩⟩, hk.1.2⟩)) hg hat); have n4_ := Aside0.mk (Kd.R_after (ok := (fun k_ => some k_ ≠ (.slice Ao64 y222.length co64 : Value).ownBlock ∧ some k_ ≠ (v233 : Value).ownBlock ∧ some k_ ≠ (.slice Ao72 y241.length co72 : Value).ownBlock ∧ some k_ ≠ (.slice Ao76 y244.length co76 : Value).ownBlock)) (by (with_reducible repeat (first | apply zA | apply zN | apply zD)); exact Kd.R_mono HO255.out (fun _ hk => ⟨⟨hk.1.1.1.1.2, ⟨hk.1.1.1.2, ⟨hk.1.1.2, hk.1.2⟩⟩⟩, hk.2⟩)) hg hat); have n5_ := Aside0.mk (hb); have n6_ := Aside0.mk (ho); clear HO224; clear HO234; clear HO243; clear HO246; clear HO255; clear HB; clear HO252; have HO224 := n0_; have HO234 := n1_; have HO243 := n2_; have HO246 := n3_; have HO255 := n4_; have HB := n5_; have HO258 := n6_; clear n0_ n1_ n2_ n3_ n4_ n5_ n6_; clear ho hb hg hat; obtain ⟨Ao81, co81, eo81⟩ := Kd.R_slice HO234.out; subst eo81) | ((with_reducible refine gate_callee (f := 12) rfl ?_); refine goesL_ (some 86) rfl rfl Tryd.func12 (by kernel_rfl) rfl #[.slice Ao81 y232.length co81] rfl (by (try simp only [List.map_toArray, List.map_cons, List.map_nil]); first | done | rfl | (simp only [List.length_drop, List.length_take]; rfl)) ?_; (with_reducible refine (prog_Tidy.calls kj14 _ _ y232 t259 _ ?side1 ?side2 A50.out).mono ?_); (case side1 => repeat (first | exact (Kd.R_reads' HO234.out).2.2 | (with_reducible refine Kd.C_alloc ?_ _) | (with_reducible refine Kd.C_drewN ?_ _) | (with_reducible refine Kd.C_drew ?_))); (case side2 => exact (Kd.R_reads' HO234.out).2.1); rintro e w82 ⟨rfl, hb⟩; refine ⟨_, rfl, ?_⟩; have n0_ := Aside0.mk (Kd.R_below (by (with_reducible repeat (first | apply zA | apply zN | apply zD)); exact HO224.out) hb); have n1_ := Aside0.mk (Kd.R_below (by (with_reducible repeat (first | apply zA | apply zN | apply zD)); exact HO234.out) hb); have n2_ := Aside0.mk (Kd.R_below (by (with_reducible repeat (first | apply zA | apply zN | apply zD)); exact HO243.out) hb); have n3_ := Aside0.mk (Kd.R_below (by (with_reducible repeat (first | apply zA | apply zN | apply zD)); exact HO246.out) hb); have n4_ := Aside0.mk (Kd.R_below (by (with_reducible repeat (first | apply zA | apply zN | apply zD)); exact HO255.out) hb); have n5_ := Aside0.mk (Kd.R_below (by (with_reducible repeat (first | apply zA | apply zN | apply zD)); exact HO258.out) hb); have n6_ := Aside0.mk (below_step (by repeat (first | (with_reducible first | exact HB.out | apply bA | apply bN | apply bD) | exact HB.out)) hb); clear HO224; clear HO234; clear HO243; clear HO246; clear HO255; clear HO258; clear HB; have HO224 := n0_; have HO234 := n1_; have HO243 := n2_; have HO246 := n3_; have HO255 := n4_; have HO258 := n5_; have HB := n6_; clear n0_ n1_ n2_ n3_ n4_ n5_ n6_; (try clear hb); (try clear hb2); (try clear hk); (try clear hi)) | (go_at_call 12; (with_reducible refine (prog_Tidy.calls kj14 _ _ y244 true _ ?side1 ?side2 A52.out).mono ?_); (case side1 => repeat (first | exact (Kd.R_reads' HO246.out).2.2 | (with_reducible refine Kd.C_alloc ?_ _) | (with_reducible refine Kd.C_drewN ?_ _) | (with_reducible refine Kd.C_drew ?_))); (case side2 => exact (Kd.R_reads' HO246.out).2.1); rintro e w83 ⟨rfl, hb⟩; have n0_ := Aside0.mk (Kd.R_below (by (with_reducible repeat (first | apply zA | apply zN | apply zD)); exact HO224.out) hb); have n1_ := Aside0.mk (Kd.R_below (by (with_reducible repeat (first | apply zA | apply zN | apply zD)); exact HO234.out) hb); have n2_ := Aside0.mk (Kd.R_below (by (with_reducible repeat (first | apply zA | apply zN | apply zD)); exact HO243.out) hb); have n3_ := Aside0.mk (Kd.R_below (by (with_reducible repeat (first | apply zA | apply zN | apply zD)); exact HO246.out) hb); have n4_ := Aside0.mk (Kd.R_below (by (with_reducible repeat (first | apply zA | apply zN | apply zD)); exact HO255.out) hb); have n5_ := Aside0.mk (Kd.R_below (by (with_reducible repeat (first | apply zA | apply zN | apply zD)); exact HO258.out) hb); have n6_ := Aside0.mk (below_step (by repeat (first | (with_reducible first | exact HB.out | apply bA | apply bN | apply bD) | exact HB.out)) hb); clear HO224; clear HO234; clear HO243; clear HO246; clear HO255; clear HO258; clear HB; have HO224 := n0_; have HO234 := n1_; have HO243 := n2_; have HO246 := n3_; have HO255 := n4_; have HO258 := n5_; have HB := n6_; clear n0_ n1_ n2_ n3_ n4_ n5_ n6_; (try clear hb); (try clear hb2); (try clear hk); (try clear hi)))
       go_ret
       exact ⟨by first | rfl | (simp [errW_none, errW_some] <;> rfl) | (simp only [← hji5, ← hji8, ← hji38]; first | rfl | (simp [errW_none, errW_some] <;> rfl)) | (simp [*, errW_none, errW_some] <;> rfl), by repeat (first | (with_reducible first | exact HB.out | apply bA | apply bN | apply bD) | exact HB.out)⟩
      ·replace c53 := Bool.eq_false_iff.mpr c53
       subst c53
       have H1 : (if t207 = true then ((prog_Tidy.f kj14 y256).bind fun t261 => (some t261)) else (some true)) = some r := by rw [if_neg (show ¬ (false = true) by decide)] at H; exact H
       clear H
       have H := H1
       clear H1
       by_cases c84 : t207 = true
       ·subst c84
        have H1 : ((prog_Tidy.f kj14 y256).bind fun t261 => (some t261)) = some r := by rw [if_pos rfl] at H; exact H
        clear H
        have H := H1
        clear H1
        replace H := Option.bind_eq_some_iff.mp H
        obtain ⟨t261, A850, H⟩ := H
        replace H : (some t261) = some r := H
        have A85 := Aside0.mk A850
        clear A850
        obtain rfl := Option.some.inj H
        try go_wp2
        have n0_ := Aside0.mk (below_drew1 HB.out)
        clear HB
        have HB := n0_
        clear n0_
        have q87 : ((ji38) : Int) ≤ ((y190.length : Int) : Int) := of_decide_eq_true (by first | (with_reducible assumption) | assumption)
        obtain ⟨i087, hi087, _, hsz87, _⟩ := info_parts info32
        have hroom87 : y190.length ≤ c0 := HC193.out
        have hC87 : Kd.C k32 _ A0 y190.length y190 := HR193.out
        have hcut87 := cut_to (P := Tryd.prog) 29 32 .i64 Tryd.underlying29 hi087 A0 y190.length c0 (ji38) (of_decide_eq_true (by first | (with_reducible assumption) | assumption)) q87 hroom87
        have hr87 := Kd.C_take (m := ((ji38) : Int).toNat) hC87 (by omega)
        have hy87 : y215.length = ((ji38) : Int).toNat := (by rw [Ny215.out, List.length_take]; omega)
        rw [← Ny215.out] at hr87
        rw [← hy87] at hcut87
        have HR218 := Aside0.mk hr87
        have HC218 := Aside0.mk (show y215.length ≤ c0 from by omega)
        clear hr87 hC87 hroom87 hi087 hsz87
        have KY87 := Aside0.mk hy87
        clear hy87
        replace q87 := eq_true q87
        have q88 : ((ji38) : Int) ≤ ((y190.length : Int) : Int) := of_decide_eq_true (by first | (with_reducible assumption) | assumption)
        obtain ⟨i088, hi088, _, hsz88, _⟩ := info_parts info32
        have hroom88 : y190.length ≤ c0 := HC193.out
        have hC88 : Kd.C k32 _ A0 y190.length y190 := HR193.out
        have q088 : (0 : Int) ≤ ((ji38) : Int) := of_decide_eq_true (by first | (with_reducible assumption) | assumption)
        have hcut88 := cut_from (P := Tryd.prog) 29 32 .i64 Tryd.underlying29 hi088 2 hsz88 A0 y190.length c0 (ji38) q088 q88
        have hr88 := Kd.C_drop (m := ((ji38) : Int).toNat) (c := c0) hC88 (by omega) hroom88
        obtain ⟨A88, hA88⟩ : ∃ A1, A1 = (if c0 = ((ji38) : Int).toNat then A0 else (A0 : Option Addr).map (·.add (((ji38) : Int).toNat * 2))) := ⟨_, rfl⟩
        obtain ⟨c88, hc88⟩ : ∃ c1, c1 = c0 - ((ji38) : Int).toNat := ⟨_, rfl⟩
        have hy88 : y228.length = y190.length - ((ji38) : Int).toNat := (by rw [Ny228.out, List.length_drop] <;> omega)
        rw [show (y190).drop ((ji38) : Int).toNat = y228 from Ny228.out.symm] at hr88
        replace hr88 : Kd.C k32 _ A88 y228.length y228 := (by rw [hA88]; exact hr88)
        rw [← hy88, ← hA88, ← hc88] at hcut88
        have HR231 := Aside0.mk hr88
        have HC231 := Aside0.mk (show y228.length ≤ c88 from by rw [hy88, hc88]; exact Nat.sub_le_sub_right hroom88 _)
        clear hr88 hC88 hroom88 hi088 hsz88 hc88
        have KY88 := Aside0.mk hy88
        have KA88 := Aside0.mk hA88
        clear hy88 hA88
        replace q88 := eq_true q88
        refine start_ (n := 14) (S := fun w' => True) (ds := []) #[false, false, false, false, false, false, false, false, false, false, false, false, false, false] (by kernel_rfl) rfl rfl trivial (fun hHeld => ?_); refine with_tabW deadboltlaw12_ProgTidy.tab7 deadboltlaw12_ProgTidy.bits7 (fun HT_ HW_ => ?_)
        generalize wc.drew = w86 at HB HR218 HR231 hHeld ⊢
        refine pure_ (i := 1) (N := some 59) (v := ?_) (a' := ?_) #[false, true, false, false, false, false, false, false, false, false, false, false, false, false] rfl rfl (any_of HT_.out (by kernel_rfl)) (fun _ _ _ h => h) (Or.inl ⟨by rfl, ?_⟩) ?_ ?_
        rotate_left
        ·intro w'
         go_simp
         with_reducible rfl
        rotate_left
        ·simp only [Act.put, List.setIfInBounds_toArray, List.set_cons_zero, List.set_cons_succ, i64_w, i32_w]
         rfl
        refine pure_ (i := 2) (N := some 60) (v := ?_) (a' := ?_) #[false, true, true, false, false, false, false, false, false, false, false, false, false, false] rfl rfl (any_of HT_.out (by kernel_rfl)) (fun _ _ _ h => h) (Or.inl ⟨by rfl, ?_⟩) ?_ ?_
        rotate_left
        ·intro w'
         go_simp
         with_reducible rfl
        rotate_left
        ·simp only [Act.put, List.setIfInBounds_toArray, List.set_cons_zero, List.set_cons_succ, i64_w, i32_w]
         rfl
        refine pure_ (i := 3) (N := some 61) (v := ?_) (a' := ?_) #[false, true, true, true, false, false, false, false, false, false, false, false, false, false] rfl rfl (any_of HT_.out (by kernel_rfl)) (fun _ _ _ h => h) (Or.inl ⟨by rfl, ?_⟩) ?_ ?_
        rotate_left
        ·intro w'
         go_simp
         with_reducible rfl
        rotate_left
        ·simp only [Act.put, List.setIfInBounds_toArray, List.set_cons_zero, List.set_cons_succ, i64_w, i32_w]
         rfl
        refine pure_ (i := 5) (N := some 63) (v := ?_) (a' := ?_) #[false, true, true, true, false, true, false, false, false, false, false, false, false, false] rfl rfl (any_of HT_.out (by kernel_rfl)) (fun _ _ _ h => h) (Or.inl ⟨by rfl, ?_⟩) ?_ ?_
        rotate_left
        ·intro w'
         go_simp
         with_reducible rfl
        rotate_left
        ·simp only [Act.put, List.setIfInBounds_toArray, List.set_cons_zero, List.set_cons_succ, i64_w, i32_w]
         rfl
        refine pure_ (i := 6) (N := some 64) (v := ?_) (a' := ?_) #[false, true, true, true, false, true, true, false, false, false, false, false, false, false] rfl rfl (any_of HT_.out (by kernel_rfl)) (fun _ _ _ h => h) (Or.inl ⟨by rfl, ?_⟩) ?_ ?_
        rotate_left
        ·intro w'
         go_simp
         with_reducible rfl
        rotate_left
        ·simp only [Act.put, List.setIfInBounds_toArray, List.set_cons_zero, List.set_cons_succ, i64_w, i32_w]
         rfl
        refine pure_ (i := 9) (N := some 67) (v := ?_) (a' := ?_) #[false, true, true, true, false, true, true, false, false, true, false, false, false, false] rfl rfl (any_of HT_.out (by kernel_rfl)) (fun _ _ _ h => h) (Or.inl ⟨by rfl, ?_⟩) ?_ ?_
        rotate_left
        ·intro w'
         go_simp
         with_reducible rfl
        rotate_left
        ·simp only [Act.put, List.setIfInBounds_toArray, List.set_cons_zero, List.set_cons_succ, i64_w, i32_w]
         rfl
        refine pure_ (i := 10) (N := some 68) (v := ?_) (a' := ?_) #[false, true, true, true, false, true, true, false, false, true, true, false, false, false] rfl rfl (any_of HT_.out (by kernel_rfl)) (fun _ _ _ h => h) (Or.inl ⟨by rfl, ?_⟩) ?_ ?_
        rotate_left
        ·intro w'
         go_simp
         with_reducible rfl
        rotate_left
        ·simp only [Act.put, List.setIfInBounds_toArray, List.set_cons_zero, List.set_cons_succ, i64_w, i32_w]
         rfl
        refine pure_ (i := 11) (N := some 69) (v := ?_) (a' := ?_) #[false, true, true, true, false, true, true, false, false, true, true, true, false, false] rfl rfl (any_of HT_.out (by kernel_rfl)) (fun _ _ _ h => h) (Or.inl ⟨by rfl, ?_⟩) ?_ ?_
        rotate_left
        ·intro w'
         go_simp
         with_reducible rfl
        rotate_left
        ·simp only [Act.put, List.setIfInBounds_toArray, List.set_cons_zero, List.set_cons_succ, i64_w, i32_w]
         rfl
        refine join_ (σ := Value × Value × Value) 3 #[true, true, true, true, true, true, true, true, false, true, true, true, false, false] (fun s_ => [(58, s_.1), (62, s_.2.1), (65, s_.2.2)]) (fun s_ w' => (Kd.R k32 32 w' w.heap.size (fun k_ => some k_ ≠ (s_.2.2 : Value).ownBlock) s_.2.1 y219) ∧ (Kd.R k32 32 w' w.heap.size (fun k_ => some k_ ≠ (s_.2.1 : Value).ownBlock) s_.2.2 y222) ∧ (Below w.heap.size w w')) ?_ ?_
        rotate_left
        ·intro hCont
         refine two_ (i := 0) (j := 7) (Ni := some 58) (Nj := some 65) #[true, true, true, true, false, true, true, false, false, true, true, true, false, false] #[false, true, true, true, false, true, true, true, false, true, true, true, false, false] rfl rfl rfl rfl (two_of HT_.out (by kernel_rfl)) (by decide) (by decide) (fun K hK => ?_) (fun K hK => ?_)
         ·skip
          refine Kd.R_lit_step k32 _ 32 ?hg (N := 58) ?hd (xs := ([] : List (S32))) (inner := []) (ok := fun _ => True) (okp := fun _ => True) ?hr ?hp (fun _ hk => hk) trivial (Below.refl _ _) (Nat.le_refl _) (by simp) ?_; (case hd => rfl); (case hg => rfl); (case hr => first | (go_simp; done) | (go_simp; rfl)); (case hp => exact (Reps.none _ _))
          intro v213 w89 ho90 hb hg_ hnew_
          clear hg_ hnew_
          (first | rw [← Ny212.out] at ho90 | (simp only [Int.reduceToNat] at ho90; rw [← Ny212.out] at ho90))
          have n0_ := Aside0.mk (Kd.R_lower ho90 (below_size (by repeat (first | (with_reducible first | exact HB.out | apply bA | apply bN | apply bD) | exact HB.out))))
          have n1_ := Aside0.mk (below_step (by repeat (first | (with_reducible first | exact HB.out | apply bA | apply bN | apply bD) | exact HB.out)) hb)
          clear HB
          have HO214 := n0_
          have HB := n1_
          clear n0_ n1_
          clear hb ho90
          refine hK.out _ _ trivial (fun hHeld => ?_)
          clear hK K
          refine norm_ (a' := ?_) ?_ ?_
          rotate_left
          ·show Act.put _ (some 58) _ = _
           simp only [Act.put, List.setIfInBounds_toArray, List.set_cons_zero, List.set_cons_succ, i64_w, i32_w]
           rfl
          refine two_ (i := 4) (j := 7) (Ni := some 62) (Nj := some 65) #[true, true, true, true, true, true, true, false, false, true, true, true, false, false] #[true, true, true, true, false, true, true, true, false, true, true, true, false, false] rfl rfl rfl rfl (two_of HT_.out (by kernel_rfl)) (by decide) (by decide) (fun K hK => ?_) (fun K hK => ?_)
          ·skip
           refine Kd.R_append_rows_step k32 (w0 := w) w.heap.size (by rfl) (.tmp 58) (.tmp 61) 29 32 (.agg #[(.int .i64 0), (.int .i64 0)]) 16 rfl Tryd.underlying29 info32 rfl (by decide) (by omega) v213 y212 y215 _ _ _ (fun _ => True) (fun _ => False) rfl rfl ?aO ?aR (fun _ _ h => h) (fun _ h => h.elim) ?aF ?aB ?aS ?aL ?_
           (case aR => repeat (first | exact (Kd.C_below HR218.out HB.out) | (with_reducible refine Kd.C_alloc ?_ _) | (with_reducible refine Kd.C_drewN ?_ _) | (with_reducible refine Kd.C_drew ?_)))
           (case aB => exact (by repeat (first | (with_reducible first | exact HB.out | apply bA | apply bN | apply bD) | exact HB.out)))
           (case aF => exact (fun _ _ => trivial))
           (case aO => exact (by (with_reducible repeat (first | apply zA | apply zN | apply zD)); exact HO214.out))
           (case aS => exact (below_size (by repeat (first | (with_reducible first | exact HB.out | apply bA | apply bN | apply bD) | exact HB.out))))
           (case aL => have := LMc41.out; omega)
           intro v220 w91 ho hb hg hat
           rw [← Ny219.out] at ho
           have n0_ := Aside0.mk (hb)
           have n1_ := Aside0.mk (ho)
           clear HB
           clear HO214
           have HB := n0_
           have HO221 := n1_
           clear n0_ n1_
           clear ho hb hg hat
           refine hK.out _ _ trivial (fun hHeld => ?_)
           clear hK K
           refine norm_ (a' := ?_) ?_ ?_
           rotate_left
           ·show Act.put _ (some 62) _ = _
            simp only [Act.put, List.setIfInBounds_toArray, List.set_cons_zero, List.set_cons_succ, i64_w, i32_w]
            rfl
           refine one_ (i := 7) (N := some 65) #[true, true, true, true, true, true, true, true, false, true, true, true, false, false] rfl rfl (one_of HT_.out (by kernel_rfl)) (by decide) (fun K hK => ?_)
           refine Kd.R_lit_step k32 _ 32 ?hg (N := 65) ?hd (xs := ([(⟨3, a3⟩ : S32)] : List (S32))) (inner := [.int .i64 3, .int .i64 a3]) (ok := fun _ => True) (okp := fun _ => True) ?hr ?hp (fun _ hk => hk) trivial (Below.refl _ _) (Nat.le_refl _) (by simp) ?_; (case hd => rfl); (case hg => rfl); (case hr => first | (go_simp; done) | (go_simp; rfl)); (case hp => exact (Reps.c2 (show Kd.M k32 _ _ _ (⟨3, a3⟩ : S32) [.int .i64 3, .int .i64 a3] from (k32_mkM _ _ _ (⟨3, a3⟩ : S32) )) (Reps.none _ _)))
           intro v223 w92 ho93 hb hg_ hnew_
           clear hg_ hnew_
           (first | rw [← Ny222.out] at ho93 | (simp only [Int.reduceToNat] at ho93; rw [← Ny222.out] at ho93))
           have n0_ := Aside0.mk (Kd.R_elder' (by (with_reducible repeat (first | apply zA | apply zN | apply zD)); exact HO221.out) (Kd.R_base ho93) hb)
           have n1_ := Aside0.mk (Kd.R_lower (Kd.R_new' ho93 (Kd.R_lt (by (with_reducible repeat (first | apply zA | apply zN | apply zD)); exact HO221.out))) (below_size (by repeat (first | (with_reducible first | exact HB.out | apply bA | apply bN | apply bD) | exact HB.out))))
           have n2_ := Aside0.mk (below_step (by repeat (first | (with_reducible first | exact HB.out | apply bA | apply bN | apply bD) | exact HB.out)) hb)
           clear HO221
           clear HB
           have HO221 := n0_
           have HO224 := n1_
           have HB := n2_
           clear n0_ n1_ n2_
           clear hb ho93
           refine hK.out _ _ trivial (fun hHeld => ?_)
           clear hK K
           refine norm_ (a' := ?_) ?_ ?_
           rotate_left
           ·show Act.put _ (some 65) _ = _
            simp only [Act.put, List.setIfInBounds_toArray, List.set_cons_zero, List.set_cons_succ, i64_w, i32_w]
            rfl
           exact norm_ (by simp only [putAll, Act.put, List.setIfInBounds_toArray, List.set_cons_zero, List.set_cons_succ]) (hCont (v213, v220, v223) _ ⟨(by (with_reducible repeat (first | apply zA | apply zN | apply zD)); exact Kd.R_mono HO221.out (fun _ hk => hk.2)), (by (with_reducible repeat (first | apply zA | apply zN | apply zD)); exact Kd.R_mono HO224.out (fun _ hk => hk.2)), (by repeat (first | (with_reducible first | exact HB.out | apply bA | apply bN | apply bD) | exact HB.out))⟩)
          ·skip
           refine Kd.R_lit_step k32 _ 32 ?hg (N := 65) ?hd (xs := ([(⟨3, a3⟩ : S32)] : List (S32))) (inner := [.int .i64 3, .int .i64 a3]) (ok := fun _ => True) (okp := fun _ => True) ?hr ?hp (fun _ hk => hk) trivial (Below.refl _ _) (Nat.le_refl _) (by simp) ?_; (case hd => rfl); (case hg => rfl); (case hr => first | (go_simp; done) | (go_simp; rfl)); (case hp => exact (Reps.c2 (show Kd.M k32 _ _ _ (⟨3, a3⟩ : S32) [.int .i64 3, .int .i64 a3] from (k32_mkM _ _ _ (⟨3, a3⟩ : S32) )) (Reps.none _ _)))
           intro v223 w91 ho92 hb hg_ hnew_
           clear hg_ hnew_
           (first | rw [← Ny222.out] at ho92 | (simp only [Int.reduceToNat] at ho92; rw [← Ny222.out] at ho92))
           have n0_ := Aside0.mk (Kd.R_elder' (by (with_reducible repeat (first | apply zA | apply zN | apply zD)); exact HO214.out) (Kd.R_base ho92) hb)
           have n1_ := Aside0.mk (Kd.R_lower (Kd.R_new' ho92 (Kd.R_lt (by (with_reducible repeat (first | apply zA | apply zN | apply zD)); exact HO214.out))) (below_size (by repeat (first | (with_reducible first | exact HB.out | apply bA | apply bN | apply bD) | exact HB.out))))
           have n2_ := Aside0.mk (below_step (by repeat (first | (with_reducible first | exact HB.out | apply bA | apply bN | apply bD) | exact HB.out)) hb)
           clear HO214
           clear HB
           have HO214 := n0_
           have HO224 := n1_
           have HB := n2_
           clear n0_ n1_ n2_
           clear hb ho92
           refine hK.out _ _ trivial (fun hHeld => ?_)
           clear hK K
           refine norm_ (a' := ?_) ?_ ?_
           rotate_left
           ·show Act.put _ (some 65) _ = _
            simp only [Act.put, List.setIfInBounds_toArray, List.set_cons_zero, List.set_cons_succ, i64_w, i32_w]
            rfl
           refine one_ (i := 4) (N := some 62) #[true, true, true, true, true, true, true, true, false, true, true, true, false, false] rfl rfl (one_of HT_.out (by kernel_rfl)) (by decide) (fun K hK => ?_)
           refine Kd.R_append_rows_step k32 (w0 := w) w.heap.size (by rfl) (.tmp 58) (.tmp 61) 29 32 (.agg #[(.int .i64 0), (.int .i64 0)]) 16 rfl Tryd.underlying29 info32 rfl (by decide) (by omega) v213 y212 y215 _ _ _ (fun k_ => some k_ ≠ (v223 : Value).ownBlock) (fun _ => False) rfl rfl ?aO ?aR (fun _ _ h => h) (fun _ h => h.elim) ?aF ?aB ?aS ?aL ?_
           (case aR => repeat (first | exact (Kd.C_below HR218.out HB.out) | (with_reducible refine Kd.C_alloc ?_ _) | (with_reducible refine Kd.C_drewN ?_ _) | (with_reducible refine Kd.C_drew ?_)))
           (case aB => exact (by repeat (first | (with_reducible first | exact HB.out | apply bA | apply bN | apply bD) | exact HB.out)))
           (case aF => exact (fun k_ hk => Kd.fresh' (Kd.R_lt (by (with_reducible repeat (first | apply zA | apply zN | apply zD)); exact HO224.out)) k_ hk))
           (case aO => exact (by (with_reducible repeat (first | apply zA | apply zN | apply zD)); exact Kd.R_mono HO214.out (fun _ hk => hk.2)))
           (case aS => exact (below_size (by repeat (first | (with_reducible first | exact HB.out | apply bA | apply bN | apply bD) | exact HB.out))))
           (case aL => have := LMc41.out; omega)
           intro v220 w93 ho hb hg hat
           rw [← Ny219.out] at ho
           have n0_ := Aside0.mk (Kd.R_after (ok := (fun _ => True)) (by (with_reducible repeat (first | apply zA | apply zN | apply zD)); exact HO224.out) hg hat)
           have n1_ := Aside0.mk (hb)
           have n2_ := Aside0.mk (ho)
           clear HO224
           clear HB
           clear HO214
           have HO224 := n0_
           have HB := n1_
           have HO221 := n2_
           clear n0_ n1_ n2_
           clear ho hb hg hat
           refine hK.out _ _ trivial (fun hHeld => ?_)
           clear hK K
           refine norm_ (a' := ?_) ?_ ?_
           rotate_left
           ·show Act.put _ (some 62) _ = _
            simp only [Act.put, List.setIfInBounds_toArray, List.set_cons_zero, List.set_cons_succ, i64_w, i32_w]
            rfl
           exact norm_ (by simp only [putAll, Act.put, List.setIfInBounds_toArray, List.set_cons_zero, List.set_cons_succ]) (hCont (v213, v220, v223) _ ⟨(by (with_reducible repeat (first | apply zA | apply zN | apply zD)); exact HO221.out), (by (with_reducible repeat (first | apply zA | apply zN | apply zD)); exact Kd.R_mono HO224.out (fun _ hk => hk.2)), (by repeat (first | (with_reducible first | exact HB.out | apply bA | apply bN | apply bD) | exact HB.out))⟩)
         ·skip
          refine Kd.R_lit_step k32 _ 32 ?hg (N := 65) ?hd (xs := ([(⟨3, a3⟩ : S32)] : List (S32))) (inner := [.int .i64 3, .int .i64 a3]) (ok := fun _ => True) (okp := fun _ => True) ?hr ?hp (fun _ hk => hk) trivial (Below.refl _ _) (Nat.le_refl _) (by simp) ?_; (case hd => rfl); (case hg => rfl); (case hr => first | (go_simp; done) | (go_simp; rfl)); (case hp => exact (Reps.c2 (show Kd.M k32 _ _ _ (⟨3, a3⟩ : S32) [.int .i64 3, .int .i64 a3] from (k32_mkM _ _ _ (⟨3, a3⟩ : S32) )) (Reps.none _ _)))
          intro v223 w89 ho90 hb hg_ hnew_
          clear hg_ hnew_
          (first | rw [← Ny222.out] at ho90 | (simp only [Int.reduceToNat] at ho90; rw [← Ny222.out] at ho90))
          have n0_ := Aside0.mk (Kd.R_lower ho90 (below_size (by repeat (first | (with_reducible first | exact HB.out | apply bA | apply bN | apply bD) | exact HB.out))))
          have n1_ := Aside0.mk (below_step (by repeat (first | (with_reducible first | exact HB.out | apply bA | apply bN | apply bD) | exact HB.out)) hb)
          clear HB
          have HO224 := n0_
          have HB := n1_
          clear n0_ n1_
          clear hb ho90
          refine hK.out _ _ trivial (fun hHeld => ?_)
          clear hK K
          refine norm_ (a' := ?_) ?_ ?_
          rotate_left
          ·show Act.put _ (some 65) _ = _
           simp only [Act.put, List.setIfInBounds_toArray, List.set_cons_zero, List.set_cons_succ, i64_w, i32_w]
           rfl
          refine one_ (i := 0) (N := some 58) #[true, true, true, true, false, true, true, true, false, true, true, true, false, false] rfl rfl (one_of HT_.out (by kernel_rfl)) (by decide) (fun K hK => ?_)
          refine Kd.R_lit_step k32 _ 32 ?hg (N := 58) ?hd (xs := ([] : List (S32))) (inner := []) (ok := fun _ => True) (okp := fun _ => True) ?hr ?hp (fun _ hk => hk) trivial (Below.refl _ _) (Nat.le_refl _) (by simp) ?_; (case hd => rfl); (case hg => rfl); (case hr => first | (go_simp; done) | (go_simp; rfl)); (case hp => exact (Reps.none _ _))
          intro v213 w91 ho92 hb hg_ hnew_
          clear hg_ hnew_
          (first | rw [← Ny212.out] at ho92 | (simp only [Int.reduceToNat] at ho92; rw [← Ny212.out] at ho92))
          have n0_ := Aside0.mk (Kd.R_elder' (by (with_reducible repeat (first | apply zA | apply zN | apply zD)); exact HO224.out) (Kd.R_base ho92) hb)
          have n1_ := Aside0.mk (Kd.R_lower (Kd.R_new' ho92 (Kd.R_lt (by (with_reducible repeat (first | apply zA | apply zN | apply zD)); exact HO224.out))) (below_size (by repeat (first | (with_reducible first | exact HB.out | apply bA | apply bN | apply bD) | exact HB.out))))
          have n2_ := Aside0.mk (below_step (by repeat (first | (with_reducible first | exact HB.out | apply bA | apply bN | apply bD) | exact HB.out)) hb)
          clear HO224
          clear HB
          have HO224 := n0_
          have HO214 := n1_
          have HB := n2_
          clear n0_ n1_ n2_
          clear hb ho92
          refine hK.out _ _ trivial (fun hHeld => ?_)
          clear hK K
          refine norm_ (a' := ?_) ?_ ?_
          rotate_left
          ·show Act.put _ (some 58) _ = _
           simp only [Act.put, List.setIfInBounds_toArray, List.set_cons_zero, List.set_cons_succ, i64_w, i32_w]
           rfl
          refine one_ (i := 4) (N := some 62) #[true, true, true, true, true, true, true, true, false, true, true, true, false, false] rfl rfl (one_of HT_.out (by kernel_rfl)) (by decide) (fun K hK => ?_)
          refine Kd.R_append_rows_step k32 (w0 := w) w.heap.size (by rfl) (.tmp 58) (.tmp 61) 29 32 (.agg #[(.int .i64 0), (.int .i64 0)]) 16 rfl Tryd.underlying29 info32 rfl (by decide) (by omega) v213 y212 y215 _ _ _ (fun k_ => some k_ ≠ (v223 : Value).ownBlock) (fun _ => False) rfl rfl ?aO ?aR (fun _ _ h => h) (fun _ h => h.elim) ?aF ?aB ?aS ?aL ?_
          (case aR => repeat (first | exact (Kd.C_below HR218.out HB.out) | (with_reducible refine Kd.C_alloc ?_ _) | (with_reducible refine Kd.C_drewN ?_ _) | (with_reducible refine Kd.C_drew ?_)))
          (case aB => exact (by repeat (first | (with_reducible first | exact HB.out | apply bA | apply bN | apply bD) | exact HB.out)))
          (case aF => exact (fun k_ hk => Kd.fresh' (Kd.R_lt (by (with_reducible repeat (first | apply zA | apply zN | apply zD)); exact HO224.out)) k_ hk))
          (case aO => exact (by (with_reducible repeat (first | apply zA | apply zN | apply zD)); exact Kd.R_mono HO214.out (fun _ hk => hk.2)))
          (case aS => exact (below_size (by repeat (first | (with_reducible first | exact HB.out | apply bA | apply bN | apply bD) | exact HB.out))))
          (case aL => have := LMc41.out; omega)
          intro v220 w93 ho hb hg hat
          rw [← Ny219.out] at ho
          have n0_ := Aside0.mk (Kd.R_after (ok := (fun _ => True)) (by (with_reducible repeat (first | apply zA | apply zN | apply zD)); exact HO224.out) hg hat)
          have n1_ := Aside0.mk (hb)
          have n2_ := Aside0.mk (ho)
          clear HO224
          clear HB
          clear HO214
          have HO224 := n0_
          have HB := n1_
          have HO221 := n2_
          clear n0_ n1_ n2_
          clear ho hb hg hat
          refine hK.out _ _ trivial (fun hHeld => ?_)
          clear hK K
          refine norm_ (a' := ?_) ?_ ?_
          rotate_left
          ·show Act.put _ (some 62) _ = _
           simp only [Act.put, List.setIfInBounds_toArray, List.set_cons_zero, List.set_cons_succ, i64_w, i32_w]
           rfl
          exact norm_ (by simp only [putAll, Act.put, List.setIfInBounds_toArray, List.set_cons_zero, List.set_cons_succ]) (hCont (v213, v220, v223) _ ⟨(by (with_reducible repeat (first | apply zA | apply zN | apply zD)); exact HO221.out), (by (with_reducible repeat (first | apply zA | apply zN | apply zD)); exact Kd.R_mono HO224.out (fun _ hk => hk.2)), (by repeat (first | (with_reducible first | exact HB.out | apply bA | apply bN | apply bD) | exact HB.out))⟩)
        rintro ⟨v213, v220, v223⟩ w94 ⟨h0_, h1_, h2_⟩
        have n0_ : Aside0 (Kd.R k32 32 w94 w.heap.size (fun k_ => some k_ ≠ (v223 : Value).ownBlock) v220 y219) := ⟨h0_⟩
        have n1_ : Aside0 (Kd.R k32 32 w94 w.heap.size (fun k_ => some k_ ≠ (v220 : Value).ownBlock) v223 y222) := ⟨h1_⟩
        have n2_ : Aside0 (Below w.heap.size w w94) := ⟨h2_⟩
        clear HB
        clear h0_ h1_ h2_
        have HO221 := n0_
        have HO224 := n1_
        have HB := n2_
        clear n0_ n1_ n2_
        have hHeld := trivial
        obtain ⟨Ao96, co96, eo96⟩ := Kd.R_slice HO224.out
        (first | subst eo96 | (injection eo96 with f1_ f2_ f3_; have f4_ := f1_.symm; have f5_ := f3_.symm; clear f1_ f2_ f3_; subst f4_; subst f5_))
        refine norm_ (a' := ?_) ?_ ?_
        rotate_left
        ·simp only [putAll, Act.put, List.setIfInBounds_toArray, List.set_cons_zero, List.set_cons_succ]
         rfl
        refine one_ (i := 8) (N := some 66) #[true, true, true, true, true, true, true, true, true, true, true, true, false, false] rfl rfl (one_of HT_.out (by kernel_rfl)) (by decide) (fun K hK => ?_)
        refine Kd.R_append_rows_step k32 (w0 := w) w.heap.size (by rfl) (.tmp 62) (.tmp 65) 29 32 (.agg #[(.int .i64 0), (.int .i64 0)]) 16 rfl Tryd.underlying29 info32 rfl (by decide) (by omega) v220 y219 y222 _ _ _ (fun k_ => some k_ ≠ (.slice Ao96 y222.length co96 : Value).ownBlock) (fun _ => False) rfl rfl ?aO ?aR (fun _ _ h => h) (fun _ h => h.elim) ?aF ?aB ?aS ?aL ?_
        (case aR => repeat (first | exact (Kd.R_reads' HO224.out).2.2 | (with_reducible refine Kd.C_alloc ?_ _) | (with_reducible refine Kd.C_drewN ?_ _) | (with_reducible refine Kd.C_drew ?_)))
        (case aB => exact (by repeat (first | (with_reducible first | exact HB.out | apply bA | apply bN | apply bD) | exact HB.out)))
        (case aF => exact (fun k_ hk => Kd.fresh' (Kd.R_lt (by (with_reducible repeat (first | apply zA | apply zN | apply zD)); exact HO224.out)) k_ hk))
        (case aO => exact (by (with_reducible repeat (first | apply zA | apply zN | apply zD)); exact HO221.out))
        (case aS => exact (below_size (by repeat (first | (with_reducible first | exact HB.out | apply bA | apply bN | apply bD) | exact HB.out))))
        (case aL => have := LMc42.out; omega)
        intro v226 w95 ho hb hg hat
        rw [← Ny225.out] at ho
        have n0_ := Aside0.mk (Kd.R_after (ok := (fun _ => True)) (by (with_reducible repeat (first | apply zA | apply zN | apply zD)); exact Kd.R_mono HO224.out (fun _ hk => ⟨trivial, hk⟩)) hg hat)
        have n1_ := Aside0.mk (hb)
        have n2_ := Aside0.mk (ho)
        clear HO224
        clear HB
        clear HO221
        have HO224 := n0_
        have HB := n1_
        have HO227 := n2_
        clear n0_ n1_ n2_
        clear ho hb hg hat
        refine hK.out _ _ trivial (fun hHeld => ?_)
        clear hK K
        refine norm_ (a' := ?_) ?_ ?_
        rotate_left
        ·show Act.put _ (some 66) _ = _
         simp only [Act.put, List.setIfInBounds_toArray, List.set_cons_zero, List.set_cons_succ, i64_w, i32_w]
         rfl
        refine one_ (i := 12) (N := some 70) #[true, true, true, true, true, true, true, true, true, true, true, true, true, false] rfl rfl (one_of HT_.out (by kernel_rfl)) (by decide) (fun K hK => ?_)
        refine Kd.R_append_rows_step k32 (w0 := w) w.heap.size (by rfl) (.tmp 66) (.tmp 69) 29 32 (.agg #[(.int .i64 0), (.int .i64 0)]) 16 rfl Tryd.underlying29 info32 rfl (by decide) (by omega) v226 y225 y228 _ _ _ (fun k_ => some k_ ≠ (.slice Ao96 y222.length co96 : Value).ownBlock) (fun _ => False) rfl rfl ?aO ?aR (fun _ _ h => h) (fun _ h => h.elim) ?aF ?aB ?aS ?aL ?_
        (case aR => repeat (first | exact (Kd.C_below HR231.out HB.out) | (with_reducible refine Kd.C_alloc ?_ _) | (with_reducible refine Kd.C_drewN ?_ _) | (with_reducible refine Kd.C_drew ?_)))
        (case aB => exact (by repeat (first | (with_reducible first | exact HB.out | apply bA | apply bN | apply bD) | exact HB.out)))
        (case aF => exact (fun k_ hk => Kd.fresh' (Kd.R_lt (by (with_reducible repeat (first | apply zA | apply zN | apply zD)); exact HO224.out)) k_ hk))
        (case aO => exact (by (with_reducible repeat (first | apply zA | apply zN | apply zD)); exact HO227.out))
        (case aS => exact (below_size (by repeat (first | (with_reducible first | exact HB.out | apply bA | apply bN | apply bD) | exact HB.out))))
        (case aL => have := LMc45.out; omega)
        intro v233 w97 ho hb hg hat
        rw [← Ny232.out] at ho
        have n0_ := Aside0.mk (Kd.R_after (ok := (fun _ => True)) (by (with_reducible repeat (first | apply zA | apply zN | apply zD)); exact HO224.out) hg hat)
        have n1_ := Aside0.mk (hb)
        have n2_ := Aside0.mk (ho)
        clear HO224
        clear HB
        clear HO227
        have HO224 := n0_
        have HB := n1_
        have HO234 := n2_
        clear n0_ n1_ n2_
        clear ho hb hg hat
        refine hK.out _ _ trivial (fun hHeld => ?_)
        clear hK K
        refine norm_ (a' := ?_) ?_ ?_
        rotate_left
        ·show Act.put _ (some 70) _ = _
         simp only [Act.put, List.setIfInBounds_toArray, List.set_cons_zero, List.set_cons_succ, i64_w, i32_w]
         rfl
        refine pure_ (i := 13) (N := some 12) (v := ?_) (a' := ?_) #[true, true, true, true, true, true, true, true, true, true, true, true, true, true] rfl rfl (any_of HT_.out (by kernel_rfl)) (fun _ _ _ h => h) (Or.inl ⟨by rfl, ?_⟩) ?_ ?_
        rotate_left
        ·intro w'
         go_simp
         with_reducible rfl
        rotate_left
        ·simp only [Act.put, List.setIfInBounds_toArray, List.set_cons_zero, List.set_cons_succ, i64_w, i32_w]
         rfl
        refine done_ (done_of HT_.out (by kernel_rfl)) ?_
        try go_wp2_with (first | ((with_reducible refine gate_dst (N := 71) rfl ?_); refine Kd.R_lit k32 _ 32 ?hg (N := 71) ?hd (xs := ([] : List (S32))) (inner := []) (ok := fun _ => True) (okp := fun _ => True) ?hr ?hp (fun _ hk => hk) trivial (Below.refl _ _) (Nat.le_refl _) (by simp) ?_; (case hd => rfl); (case hg => rfl); (case hr => first | (go_simp; done) | (go_simp; rfl)); (case hp => exact (Reps.none _ _)); intro v236 w98 ho99 hb hg_ hnew_; clear hg_ hnew_; (first | rw [← Ny235.out] at ho99 | (simp only [Int.reduceToNat] at ho99; rw [← Ny235.out] at ho99)); have n0_ := Aside0.mk (Kd.R_elder' (by (with_reducible repeat (first | apply zA | apply zN | apply zD)); exact HO224.out) (Kd.R_base ho99) hb); have n1_ := Aside0.mk (Kd.R_elder' (by (with_reducible repeat (first | apply zA | apply zN | apply zD)); exact HO234.out) (Kd.R_base ho99) hb); have n2_ := Aside0.mk (Kd.R_lower (Kd.R_new' (Kd.R_new' ho99 (Kd.R_lt (by (with_reducible repeat (first | apply zA | apply zN | apply zD)); exact HO224.out))) (Kd.R_lt (by (with_reducible repeat (first | apply zA | apply zN | apply zD)); exact HO234.out))) (below_size (by repeat (first | (with_reducible first | exact HB.out | apply bA | apply bN | apply bD) | exact HB.out)))); have n3_ := Aside0.mk (below_step (by repeat (first | (with_reducible first | exact HB.out | apply bA | apply bN | apply bD) | exact HB.out)) hb); clear HO224; clear HO234; clear HB; have HO224 := n0_; have HO234 := n1_; have HO237 := n2_; have HB := n3_; clear n0_ n1_ n2_ n3_; clear hb ho99) | ((with_reducible refine gate_builtin (b := .append) (xs := #[.tmp 71, .tmp 72]) rfl ?_); at_builtin; refine Kd.R_append_rows k32 (w0 := w) w.heap.size rfl (.tmp 71) (.tmp 72) 29 32 (.agg #[(.int .i64 0), (.int .i64 0)]) 16 rfl Tryd.underlying29 info32 rfl (by decide) (by omega) v236 y235 y190 _ _ _ (fun k_ => some k_ ≠ (.slice Ao96 y222.length co96 : Value).ownBlock ∧ some k_ ≠ (v233 : Value).ownBlock) (fun _ => False) rfl rfl ?aO ?aR (fun _ _ h => h) (fun _ h => h.elim) ?aF ?aB ?aS ?aL ?_; (case aR => repeat (first | exact (Kd.C_below HR193.out HB.out) | (with_reducible refine Kd.C_alloc ?_ _) | (with_reducible refine Kd.C_drewN ?_ _) | (with_reducible refine Kd.C_drew ?_))); (case aB => exact (by repeat (first | (with_reducible first | exact HB.out | apply bA | apply bN | apply bD) | exact HB.out))); (case aF => exact (fun k_ hk => ⟨Kd.fresh' (Kd.R_lt (by (with_reducible repeat (first | apply zA | apply zN | apply zD)); exact HO224.out)) k_ hk, Kd.fresh' (Kd.R_lt (by (with_reducible repeat (first | apply zA | apply zN | apply zD)); exact HO234.out)) k_ hk⟩)); (case aO => exact (by (with_reducible repeat (first | apply zA | apply zN | apply zD)); exact Kd.R_mono HO237.out (fun _ hk => ⟨hk.1.2, hk.2⟩))); (case aS => exact (below_size (by repeat (first | (with_reducible first | exact HB.out | apply bA | apply bN | apply bD) | exact HB.out)))); (case aL => have := LMc46.out; omega); intro v239 w100 ho hb hg hat; rw [← Ny238.out] at ho; have n0_ := Aside0.mk (Kd.R_after (ok := (fun k_ => some k_ ≠ (v233 : Value).ownBlock)) (by (with_reducible repeat (first | apply zA | apply zN | apply zD)); exact Kd.R_mono HO224.out (fun _ hk => ⟨hk.1.2, hk.2⟩)) hg hat); have n1_ := Aside0.mk (Kd.R_after (ok := (fun k_ => some k_ ≠ (.slice Ao96 y222.length co96 : Value).ownBlock)) (by (with_reducible repeat (first | apply zA | apply zN | apply zD)); exact HO234.out) hg hat); have n2_ := Aside0.mk (hb); have n3_ := Aside0.mk (ho); clear HO224; clear HO234; clear HB; clear HO237; have HO224 := n0_; have HO234 := n1_; have HB := n2_; have HO240 := n3_; clear n0_ n1_ n2_ n3_; clear ho hb hg hat) | ((with_reducible refine gate_dst (N := 76) rfl ?_); refine Kd.R_lit k32 _ 32 ?hg (N := 76) ?hd (xs := ([(⟨0, a3⟩ : S32)] : List (S32))) (inner := [.int .i64 0, .int .i64 a3]) (ok := fun _ => True) (okp := fun _ => True) ?hr ?hp (fun _ hk => hk) trivial (Below.refl _ _) (Nat.le_refl _) (by simp) ?_; (case hd => rfl); (case hg => rfl); (case hr => first | (go_simp; done) | (go_simp; rfl)); (case hp => exact (Reps.c2 (show Kd.M k32 _ _ _ (⟨0, a3⟩ : S32) [.int .i64 0, .int .i64 a3] from (k32_mkM _ _ _ (⟨0, a3⟩ : S32) )) (Reps.none _ _))); intro v242 w101 ho102 hb hg_ hnew_; clear hg_ hnew_; (first | rw [← Ny241.out] at ho102 | (simp only [Int.reduceToNat] at ho102; rw [← Ny241.out] at ho102)); have n0_ := Aside0.mk (Kd.R_elder' (by (with_reducible repeat (first | apply zA | apply zN | apply zD)); exact HO224.out) (Kd.R_base ho102) hb); have n1_ := Aside0.mk (Kd.R_elder' (by (with_reducible repeat (first | apply zA | apply zN | apply zD)); exact HO234.out) (Kd.R_base ho102) hb); have n2_ := Aside0.mk (Kd.R_elder' (by (with_reducible repeat (first | apply zA | apply zN | apply zD)); exact HO240.out) (Kd.R_base ho102) hb); have n3_ := Aside0.mk (Kd.R_lower (Kd.R_new' (Kd.R_new' (Kd.R_new' ho102 (Kd.R_lt (by (with_reducible repeat (first | apply zA | apply zN | apply zD)); exact HO224.out))) (Kd.R_lt (by (with_reducible repeat (first | apply zA | apply zN | apply zD)); exact HO234.out))) (Kd.R_lt (by (with_reducible repeat (first | apply zA | apply zN | apply zD)); exact HO240.out))) (below_size (by repeat (first | (with_reducible first | exact HB.out | apply bA | apply bN | apply bD) | exact HB.out)))); have n4_ := Aside0.mk (below_step (by repeat (first | (with_reducible first | exact HB.out | apply bA | apply bN | apply bD) | exact HB.out)) hb); clear HO224; clear HO234; clear HO240; clear HB; have HO224 := n0_; have HO234 := n1_; have HO240 := n2_; have HO243 := n3_; have HB := n4_; clear n0_ n1_ n2_ n3_ n4_; clear hb ho102; obtain ⟨Ao104, co104, eo104⟩ := Kd.R_slice HO243.out; subst eo104) | ((with_reducible refine gate_builtin (b := .append) (xs := #[.tmp 73, .tmp 76]) rfl ?_); at_builtin; refine Kd.R_append_rows k32 (w0 := w) w.heap.size rfl (.tmp 73) (.tmp 76) 29 32 (.agg #[(.int .i64 0), (.int .i64 0)]) 16 rfl Tryd.underlying29 info32 rfl (by decide) (by omega) v239 y238 y241 _ _ _ (fun k_ => some k_ ≠ (.slice Ao96 y222.length co96 : Value).ownBlock ∧ some k_ ≠ (v233 : Value).ownBlock ∧ some k_ ≠ (.slice Ao104 y241.length co104 : Value).ownBlock) (fun _ => False) rfl rfl ?aO ?aR (fun _ _ h => h) (fun _ h => h.elim) ?aF ?aB ?aS ?aL ?_; (case aR => repeat (first | exact (Kd.R_reads' HO243.out).2.2 | (with_reducible refine Kd.C_alloc ?_ _) | (with_reducible refine Kd.C_drewN ?_ _) | (with_reducible refine Kd.C_drew ?_))); (case aB => exact (by repeat (first | (with_reducible first | exact HB.out | apply bA | apply bN | apply bD) | exact HB.out))); (case aF => exact (fun k_ hk => ⟨Kd.fresh' (Kd.R_lt (by (with_reducible repeat (first | apply zA | apply zN | apply zD)); exact HO224.out)) k_ hk, Kd.fresh' (Kd.R_lt (by (with_reducible repeat (first | apply zA | apply zN | apply zD)); exact HO234.out)) k_ hk, Kd.fresh' (Kd.R_lt (by (with_reducible repeat (first | apply zA | apply zN | apply zD)); exact HO243.out)) k_ hk⟩)); (case aO => exact (by (with_reducible repeat (first | apply zA | apply zN | apply zD)); exact Kd.R_mono HO240.out (fun _ hk => ⟨hk.1.1, ⟨hk.1.2, hk.2⟩⟩))); (case aS => exact (below_size (by repeat (first | (with_reducible first | exact HB.out | apply bA | apply bN | apply bD) | exact HB.out)))); (case aL => have := LMc47.out; omega); intro v245 w103 ho hb hg hat; rw [← Ny244.out] at ho; have n0_ := Aside0.mk (Kd.R_after (ok := (fun k_ => some k_ ≠ (v233 : Value).ownBlock ∧ some k_ ≠ (.slice Ao104 y241.length co104 : Value).ownBlock)) (by (with_reducible repeat (first | apply zA | apply zN | apply zD)); exact Kd.R_mono HO224.out (fun _ hk => ⟨⟨hk.1.1, hk.2⟩, hk.1.2⟩)) hg hat); have n1_ := Aside0.mk (Kd.R_after (ok := (fun k_ => some k_ ≠ (.slice Ao96 y222.length co96 : Value).ownBlock ∧ some k_ ≠ (.slice Ao104 y241.length co104 : Value).ownBlock)) (by (with_reducible repeat (first | apply zA | apply zN | apply zD)); exact Kd.R_mono HO234.out (fun _ hk => ⟨⟨hk.1.1, hk.2⟩, hk.1.2⟩)) hg hat); have n2_ := Aside0.mk (Kd.R_after (ok := (fun k_ => some k_ ≠ (.slice Ao96 y222.length co96 : Value).ownBlock ∧ some k_ ≠ (v233 : Value).ownBlock)) (by (with_reducible repeat (first | apply zA | apply zN | apply zD)); exact Kd.R_mono HO243.out (fun _ hk => ⟨⟨hk.1.1.2, hk.1.2⟩, hk.2⟩)) hg hat); have n3_ := Aside0.mk (hb); have n4_ := Aside0.mk (ho); clear HO224; clear HO234; clear HO243; clear HB; clear HO240; have HO224 := n0_; have HO234 := n1_; have HO243 := n2_; have HB := n3_; have HO246 := n4_; clear n0_ n1_ n2_ n3_ n4_; clear ho hb hg hat) | ((with_reducible refine gate_dst (N := 78) rfl ?_); refine Kd.R_lit k32 _ 32 ?hg (N := 78) ?hd (xs := ([] : List (S32))) (inner := []) (ok := fun _ => True) (okp := fun _ => True) ?hr ?hp (fun _ hk => hk) trivial (Below.refl _ _) (Nat.le_refl _) (by simp) ?_; (case hd => rfl); (case hg => rfl); (case hr => first | (go_simp; done) | (go_simp; rfl)); (case hp => exact (Reps.none _ _)); intro v248 w105 ho106 hb hg_ hnew_; clear hg_ hnew_; (first | rw [← Ny247.out] at ho106 | (simp only [Int.reduceToNat] at ho106; rw [← Ny247.out] at ho106)); have n0_ := Aside0.mk (Kd.R_elder' (by (with_reducible repeat (first | apply zA | apply zN | apply zD)); exact HO224.out) (Kd.R_base ho106) hb); have n1_ := Aside0.mk (Kd.R_elder' (by (with_reducible repeat (first | apply zA | apply zN | apply zD)); exact HO234.out) (Kd.R_base ho106) hb); have n2_ := Aside0.mk (Kd.R_elder' (by (with_reducible repeat (first | apply zA | apply zN | apply zD)); exact HO243.out) (Kd.R_base ho106) hb); have n3_ := Aside0.mk (Kd.R_elder' (by (with_reducible repeat (first | apply zA | apply zN | apply zD)); exact HO246.out) (Kd.R_base ho106) hb); have n4_ := Aside0.mk (Kd.R_lower (Kd.R_new' (Kd.R_new' (Kd.R_new' (Kd.R_new' ho106 (Kd.R_lt (by (with_reducible repeat (first | apply zA | apply zN | apply zD)); exact HO224.out))) (Kd.R_lt (by (with_reducible repeat (first | apply zA | apply zN | apply zD)); exact HO234.out))) (Kd.R_lt (by (with_reducible repeat (first | apply zA | apply zN | apply zD)); exact HO243.out))) (Kd.R_lt (by (with_reducible repeat (first | apply zA | apply zN | apply zD)); exact HO246.out))) (below_size (by repeat (first | (with_reducible first | exact HB.out | apply bA | apply bN | apply bD) | exact HB.out)))); have n5_ := Aside0.mk (below_step (by repeat (first | (with_reducible first | exact HB.out | apply bA | apply bN | apply bD) | exact HB.out)) hb); clear HO224; clear HO234; clear HO243; clear HO246; clear HB; have HO224 := n0_; have HO234 := n1_; have HO243 := n2_; have HO246 := n3_; have HO249 := n4_; have HB := n5_; clear n0_ n1_ n2_ n3_ n4_ n5_; clear hb ho106; obtain ⟨Ao108, co108, eo108⟩ := Kd.R_slice HO246.out; subst eo108) | ((with_reducible refine gate_builtin (b := .append) (xs := #[.tmp 78, .tmp 79]) rfl ?_); at_builtin; refine Kd.R_append_rows k32 (w0 := w) w.heap.size rfl (.tmp 78) (.tmp 79) 29 32 (.agg #[(.int .i64 0), (.int .i64 0)]) 16 rfl Tryd.underlying29 info32 rfl (by decide) (by omega) v248 y247 y244 _ _ _ (fun k_ => some k_ ≠ (.slice Ao96 y222.length co96 : Value).ownBlock ∧ some k_ ≠ (v233 : Value).ownBlock ∧ some k_ ≠ (.slice Ao104 y241.length co104 : Value).ownBlock ∧ some k_ ≠ (.slice Ao108 y244.length co108 : Value).ownBlock) (fun _ => False) rfl rfl ?aO ?aR (fun _ _ h => h) (fun _ h => h.elim) ?aF ?aB ?aS ?aL ?_; (case aR => repeat (first | exact (Kd.R_reads' HO246.out).2.2 | (with_reducible refine Kd.C_alloc ?_ _) | (with_reducible refine Kd.C_drewN ?_ _) | (with_reducible refine Kd.C_drew ?_))); (case aB => exact (by repeat (first | (with_reducible first | exact HB.out | apply bA | apply bN | apply bD) | exact HB.out))); (case aF => exact (fun k_ hk => ⟨Kd.fresh' (Kd.R_lt (by (with_reducible repeat (first | apply zA | apply zN | apply zD)); exact HO224.out)) k_ hk, Kd.fresh' (Kd.R_lt (by (with_reducible repeat (first | apply zA | apply zN | apply zD)); exact HO234.out)) k_ hk, Kd.fresh' (Kd.R_lt (by (with_reducible repeat (first | apply zA | apply zN | apply zD)); exact HO243.out)) k_ hk, Kd.fresh' (Kd.R_lt (by (with_reducible repeat (first | apply zA | apply zN | apply zD)); exact HO246.out)) k_ hk⟩)); (case aO => exact (by (with_reducible repeat (first | apply zA | apply zN | apply zD)); exact Kd.R_mono HO249.out (fun _ hk => ⟨hk.1.1.1.2, ⟨hk.1.1.2, ⟨hk.1.2, hk.2⟩⟩⟩))); (case aS => exact (below_size (by repeat (first | (with_reducible first | exact HB.out | apply bA | apply bN | apply bD) | exact HB.out)))); (case aL => have := LMc48.out; omega); intro v251 w107 ho hb hg hat; rw [← Ny250.out] at ho; have n0_ := Aside0.mk (Kd.R_after (ok := (fun k_ => some k_ ≠ (v233 : Value).ownBlock ∧ some k_ ≠ (.slice Ao104 y241.length co104 : Value).ownBlock ∧ some k_ ≠ (.slice Ao108 y244.length co108 : Value).ownBlock)) (by (with_reducible repeat (first | apply zA | apply zN | apply zD)); exact Kd.R_mono HO224.out (fun _ hk => ⟨⟨hk.1.1.1, ⟨hk.1.1.2, hk.1.2⟩⟩, hk.2⟩)) hg hat); have n1_ := Aside0.mk (Kd.R_after (ok := (fun k_ => some k_ ≠ (.slice Ao96 y222.length co96 : Value).ownBlock ∧ some k_ ≠ (.slice Ao104 y241.length co104 : Value).ownBlock ∧ some k_ ≠ (.slice Ao108 y244.length co108 : Value).ownBlock)) (by (with_reducible repeat (first | apply zA | apply zN | apply zD)); exact Kd.R_mono HO234.out (fun _ hk => ⟨⟨hk.1.1.1, ⟨hk.1.1.2, hk.1.2⟩⟩, hk.2⟩)) hg hat); have n2_ := Aside0.mk (Kd.R_after (ok := (fun k_ => some k_ ≠ (.slice Ao96 y222.length co96 : Value).ownBlock ∧ some k_ ≠ (v233 : Value).ownBlock ∧ some k_ ≠ (.slice Ao108 y244.length co108 : Value).ownBlock)) (by (with_reducible repeat (first | apply zA | apply zN | apply zD)); exact Kd.R_mono HO243.out (fun _ hk => ⟨⟨hk.1.1.1, ⟨hk.1.1.2, hk.1.2⟩⟩, hk.2⟩)) hg hat); have n3_ := Aside0.mk (Kd.R_after (ok := (fun k_ => some k_ ≠ (.slice Ao96 y222.length co96 : Value).ownBlock ∧ some k_ ≠ (v233 : Value).ownBlock ∧ some k_ ≠ (.slice Ao104 y241.length co104 : Value).ownBlock)) (by (with_reducible repeat (first | apply zA | apply zN | apply zD)); exact HO246.out) hg hat); have n4_ := Aside0.mk (hb); have n5_ := Aside0.mk (ho); clear HO224; clear HO234; clear HO243; clear HO246; clear HB; clear HO249; have HO224 := n0_; have HO234 := n1_; have HO243 := n2_; have HO246 := n3_; have HB := n4_; have HO252 := n5_; clear n0_ n1_ n2_ n3_ n4_ n5_; clear ho hb hg hat) | ((with_reducible refine gate_dst (N := 83) rfl ?_); refine Kd.R_lit k32 _ 32 ?hg (N := 83) ?hd (xs := ([(⟨2, a3⟩ : S32)] : List (S32))) (inner := [.int .i64 2, .int .i64 a3]) (ok := fun _ => True) (okp := fun _ => True) ?hr ?hp (fun _ hk => hk) trivial (Below.refl _ _) (Nat.le_refl _) (by simp) ?_; (case hd => rfl); (case hg => rfl); (case hr => first | (go_simp; done) | (go_simp; rfl)); (case hp => exact (Reps.c2 (show Kd.M k32 _ _ _ (⟨2, a3⟩ : S32) [.int .i64 2, .int .i64 a3] from (k32_mkM _ _ _ (⟨2, a3⟩ : S32) )) (Reps.none _ _))); intro v254 w109 ho110 hb hg_ hnew_; clear hg_ hnew_; (first | rw [← Ny253.out] at ho110 | (simp only [Int.reduceToNat] at ho110; rw [← Ny253.out] at ho110)); have n0_ := Aside0.mk (Kd.R_elder' (by (with_reducible repeat (first | apply zA | apply zN | apply zD)); exact HO224.out) (Kd.R_base ho110) hb); have n1_ := Aside0.mk (Kd.R_elder' (by (with_reducible repeat (first | apply zA | apply zN | apply zD)); exact HO234.out) (Kd.R_base ho110) hb); have n2_ := Aside0.mk (Kd.R_elder' (by (with_reducible repeat (first | apply zA | apply zN | apply zD)); exact HO243.out) (Kd.R_base ho110) hb); have n3_ := Aside0.mk (Kd.R_elder' (by (with_reducible repeat (first | apply zA | apply zN | apply zD)); exact HO246.out) (Kd.R_base ho110) hb); have n4_ := Aside0.mk (Kd.R_elder' (by (with_reducible repeat (first | apply zA | apply zN | apply zD)); exact HO252.out) (Kd.R_base ho110) hb); have n5_ := Aside0.mk (Kd.R_lower (Kd.R_new' (Kd.R_new' (Kd.R_new' (Kd.R_new' (Kd.R_new' ho110 (Kd.R_lt (by (with_reducible repeat (first | apply zA | apply zN | apply zD)); exact HO224.out))) (Kd.R_lt (by (with_reducible repeat (first | apply zA | apply zN | apply zD)); exact HO234.out))) (Kd.R_lt (by (with_reducible repeat (first | apply zA | apply zN | apply zD)); exact HO243.out))) (Kd.R_lt (by (with_reducible repeat (first | apply zA | apply zN | apply zD)); exact HO246.out))) (Kd.R_lt (by (with_reducible repeat (first | apply zA | apply zN | apply zD)); exact HO252.out))) (below_size (by repeat (first | (with_reducible first | exact HB.out | apply bA | apply bN | apply bD) | exact HB.out)))); have n6_ := Aside0.mk (below_step (by repeat (first | (with_reducible first | exact HB.out | apply bA | apply bN | apply bD) | exact HB.out)) hb); clear HO224; clear HO234; clear HO243; clear HO246; clear HO252; clear HB; have HO224 := n0_; have HO234 := n1_; have HO243 := n2_; have HO246 := n3_; have HO252 := n4_; have HO255 := n5_; have HB := n6_; clear n0_ n1_ n2_ n3_ n4_ n5_ n6_; clear hb ho110; obtain ⟨Ao112, co112, eo112⟩ := Kd.R_slice HO255.out; subst eo112) | ((with_reducible refine gate_builtin (b := .append) (xs := #[.tmp 80, .tmp 83]) rfl ?_); at_builtin; refine Kd.R_append_rows k32 (w0 := w) w.heap.size rfl (.tmp 80) (.tmp 83) 29 32 (.agg #[(.int .i64 0), (.int .i64 0)]) 16 rfl Tryd.underlying29 info32 rfl (by decide) (by omega) v251 y250 y253 _ _ _ (fun k_ => some k_ ≠ (.slice Ao96 y222.length co96 : Value).ownBlock ∧ some k_ ≠ (v233 : Value).ownBlock ∧ some k_ ≠ (.slice Ao104 y241.length co104 : Value).ownBlock ∧ some k_ ≠ (.slice Ao108 y244.length co108 : Value).ownBlock ∧ some k_ ≠ (.slice Ao112 y253.length co112 : Value).ownBlock) (fun _ => False) rfl rfl ?aO ?aR (fun _ _ h => h) (fun _ h => h.elim) ?aF ?aB ?aS ?aL ?_; (case aR => repeat (first | exact (Kd.R_reads' HO255.out).2.2 | (with_reducible refine Kd.C_alloc ?_ _) | (with_reducible refine Kd.C_drewN ?_ _) | (with_reducible refine Kd.C_drew ?_))); (case aB => exact (by repeat (first | (with_reducible first | exact HB.out | apply bA | apply bN | apply bD) | exact HB.out))); (case aF => exact (fun k_ hk => ⟨Kd.fresh' (Kd.R_lt (by (with_reducible repeat (first | apply zA | apply zN | apply zD)); exact HO224.out)) k_ hk, Kd.fresh' (Kd.R_lt (by (with_reducible repeat (first | apply zA | apply zN | apply zD)); exact HO234.out)) k_ hk, Kd.fresh' (Kd.R_lt (by (with_reducible repeat (first | apply zA | apply zN | apply zD)); exact HO243.out)) k_ hk, Kd.fresh' (Kd.R_lt (by (with_reducible repeat (first | apply zA | apply zN | apply zD)); exact HO246.out)) k_ hk, Kd.fresh' (Kd.R_lt (by (with_reducible repeat (first | apply zA | apply zN | apply zD)); exact HO255.out)) k_ hk⟩)); (case aO => exact (by (with_reducible repeat (first | apply zA | apply zN | apply zD)); exact Kd.R_mono HO252.out (fun _ hk => ⟨hk.1.1, ⟨hk.1.2.1, ⟨hk.1.2.2.1, ⟨hk.1.2.2.2, hk.2⟩⟩⟩⟩))); (case aS => exact (below_size (by repeat (first | (with_reducible first | exact HB.out | apply bA | apply bN | apply bD) | exact HB.out)))); (case aL => have := LMc49.out; omega); intro v257 w111 ho hb hg hat; rw [← Ny256.out] at ho; have n0_ := Aside0.mk (Kd.R_after (ok := (fun k_ => some k_ ≠ (v233 : Value).ownBlock ∧ some k_ ≠ (.slice Ao104 y241.length co104 : Value).ownBlock ∧ some k_ ≠ (.slice Ao108 y244.length co108 : Value).ownBlock ∧ some k_ ≠ (.slice Ao112 y253.length co112 : Value).ownBlock)) (by (with_reducible repeat (first | apply zA | apply zN | apply zD)); exact Kd.R_mono HO224.out (fun _ hk => ⟨⟨hk.1.1.1, ⟨hk.1.1.2.1, ⟨hk.1.1.2.2, hk.2⟩⟩⟩, hk.1.2⟩)) hg hat); have n1_ := Aside0.mk (Kd.R_after (ok := (fun k_ => some k_ ≠ (.slice Ao96 y222.length co96 : Value).ownBlock ∧ some k_ ≠ (.slice Ao104 y241.length co104 : Value).ownBlock ∧ some k_ ≠ (.slice Ao108 y244.length co108 : Value).ownBlock ∧ some k_ ≠ (.slice Ao112 y253.length co112 : Value).ownBlock)) (by (with_reducible repeat (first | apply zA | apply zN | apply zD)); exact Kd.R_mono HO234.out (fun _ hk => ⟨⟨hk.1.1.1, ⟨hk.1.1.2.1, ⟨hk.1.1.2.2, hk.2⟩⟩⟩, hk.1.2⟩)) hg hat); have n2_ := Aside0.mk (Kd.R_after (ok := (fun k_ => some k_ ≠ (.slice Ao96 y222.length co96 : Value).ownBlock ∧ some k_ ≠ (v233 : Value).ownBlock ∧ some k_ ≠ (.slice Ao108 y244.length co108 : Value).ownBlock ∧ some k_ ≠ (.slice Ao112 y253.length co112 : Value).ownBlock)) (by (with_reducible repeat (first | apply zA | apply zN | apply zD)); exact Kd.R_mono HO243.out (fun _ hk => ⟨⟨hk.1.1.1, ⟨hk.1.1.2.1, ⟨hk.1.1.2.2, hk.2⟩⟩⟩, hk.1.2⟩)) hg hat); have n3_ := Aside0.mk (Kd.R_after (ok := (fun k_ => some k_ ≠ (.slice Ao96 y222.length co96 : Value).ownBlock ∧ some k_ ≠ (v233 : Value).ownBlock ∧ some k_ ≠ (.slice Ao104 y241.length co104 : Value).ownBlock ∧ some k_ ≠ (.slice Ao112 y253.length co112 : Value).ownBlock)) (by (with_reducible repeat (first | apply zA | apply zN | apply zD)); exact Kd.R_mono HO246.out (fun _ hk => ⟨⟨hk.1.1.1, ⟨hk.1.1.2.1, ⟨hk.1.1.2.2, hk.2⟩⟩⟩, hk.1.2⟩)) hg hat); have n4_ := Aside0.mk (Kd.R_after (ok := (fun k_ => some k_ ≠ (.slice Ao96 y222.length co96 : Value).ownBlock ∧ some k_ ≠ (v233 : Value).ownBlock ∧ some k_ ≠ (.slice Ao104 y241.length co104 : Value).ownBlock ∧ some k_ ≠ (.slice Ao108 y244.length co108 : Value).ownBlock)) (by (with_reducible repeat (first | apply zA | apply zN | apply zD)); exact Kd.R_mono HO255.out (fun _ hk => ⟨⟨hk.1.1.1.1.2, ⟨hk.1.1.1.2, ⟨hk.1.1.2, hk.1.2⟩⟩⟩, hk.2⟩)) hg hat); have n5_ := Aside0.mk (hb); have n6_ := Aside0.mk (ho); clear HO224; clear HO234; clear HO243; clear HO246; clear HO255; clear HB; clear HO252; have HO224 := n0_; have HO234 := n1_; have HO243 := n2_; have HO246 := n3_; have HO255 := n4_; have HB := n5_; have HO258 := n6_; clear n0_ n1_ n2_ n3_ n4_ n5_ n6_; clear ho hb hg hat; obtain ⟨Ao113, co113, eo113⟩ := Kd.R_slice HO234.out; subst eo113) | ((with_reducible refine gate_callee (f := 12) rfl ?_); refine goesL_ (some 86) rfl rfl Tryd.func12 (by kernel_rfl) rfl #[.slice Ao113 y232.length co113] rfl (by (try simp only [List.map_toArray, List.map_cons, List.map_nil]); first | done | rfl | (simp only [List.length_drop, List.length_take]; rfl)) ?_; (with_reducible refine (prog_Tidy.calls kj14 _ _ y232 t259 _ ?side1 ?side2 A50.out).mono ?_); (case side1 => repeat (first | exact (Kd.R_reads' HO234.out).2.2 | (with_reducible refine Kd.C_alloc ?_ _) | (with_reducible refine Kd.C_drewN ?_ _) | (with_reducible refine Kd.C_drew ?_))); (case side2 => exact (Kd.R_reads' HO234.out).2.1); rintro e w114 ⟨rfl, hb⟩; refine ⟨_, rfl, ?_⟩; have n0_ := Aside0.mk (Kd.R_below (by (with_reducible repeat (first | apply zA | apply zN | apply zD)); exact HO224.out) hb); have n1_ := Aside0.mk (Kd.R_below (by (with_reducible repeat (first | apply zA | apply zN | apply zD)); exact HO234.out) hb); have n2_ := Aside0.mk (Kd.R_below (by (with_reducible repeat (first | apply zA | apply zN | apply zD)); exact HO243.out) hb); have n3_ := Aside0.mk (Kd.R_below (by (with_reducible repeat (first | apply zA | apply zN | apply zD)); exact HO246.out) hb); have n4_ := Aside0.mk (Kd.R_below (by (with_reducible repeat (first | apply zA | apply zN | apply zD)); exact HO255.out) hb); have n5_ := Aside0.mk (Kd.R_below (by (with_reducible repeat (first | apply zA | apply zN | apply zD)); exact HO258.out) hb); have n6_ := Aside0.mk (below_step (by repeat (first | (with_reducible first | exact HB.out | apply bA | apply bN | apply bD) | exact HB.out)) hb); clear HO224; clear HO234; clear HO243; clear HO246; clear HO255; clear HO258; clear HB; have HO224 := n0_; have HO234 := n1_; have HO243 := n2_; have HO246 := n3_; have HO255 := n4_; have HO258 := n5_; have HB := n6_; clear n0_ n1_ n2_ n3_ n4_ n5_ n6_; (try clear hb); (try clear hb2); (try clear hk); (try clear hi)) | (go_at_call 12; (with_reducible refine (prog_Tidy.calls kj14 _ _ y244 false _ ?side1 ?side2 A52.out).mono ?_); (case side1 => repeat (first | exact (Kd.R_reads' HO246.out).2.2 | (with_reducible refine Kd.C_alloc ?_ _) | (with_reducible refine Kd.C_drewN ?_ _) | (with_reducible refine Kd.C_drew ?_))); (case side2 => exact (Kd.R_reads' HO246.out).2.1); rintro e w115 ⟨rfl, hb⟩; have n0_ := Aside0.mk (Kd.R_below (by (with_reducible repeat (first | apply zA | apply zN | apply zD)); exact HO224.out) hb); have n1_ := Aside0.mk (Kd.R_below (by (with_reducible repeat (first | apply zA | apply zN | apply zD)); exact HO234.out) hb); have n2_ := Aside0.mk (Kd.R_below (by (with_reducible repeat (first | apply zA | apply zN | apply zD)); exact HO243.out) hb); have n3_ := Aside0.mk (Kd.R_below (by (with_reducible repeat (first | apply zA | apply zN | apply zD)); exact HO246.out) hb); have n4_ := Aside0.mk (Kd.R_below (by (with_reducible repeat (first | apply zA | apply zN | apply zD)); exact HO255.out) hb); have n5_ := Aside0.mk (Kd.R_below (by (with_reducible repeat (first | apply zA | apply zN | apply zD)); exact HO258.out) hb); have n6_ := Aside0.mk (below_step (by repeat (first | (with_reducible first | exact HB.out | apply bA | apply bN | apply bD) | exact HB.out)) hb); clear HO224; clear HO234; clear HO243; clear HO246; clear HO255; clear HO258; clear HB; have HO224 := n0_; have HO234 := n1_; have HO243 := n2_; have HO246 := n3_; have HO255 := n4_; have HO258 := n5_; have HB := n6_; clear n0_ n1_ n2_ n3_ n4_ n5_ n6_; (try clear hb); (try clear hb2); (try clear hk); (try clear hi); obtain ⟨Ao116, co116, eo116⟩ := Kd.R_slice HO258.out; subst eo116) | (go_at_call 12; (with_reducible refine (prog_Tidy.calls kj14 _ _ y256 t261 _ ?side1 ?side2 A85.out).mono ?_); (case side1 => repeat (first | exact (Kd.R_reads' HO258.out).2.2 | (with_reducible refine Kd.C_alloc ?_ _) | (with_reducible refine Kd.C_drewN ?_ _) | (with_reducible refine Kd.C_drew ?_))); (case side2 => exact (Kd.R_reads' HO258.out).2.1); rintro e w117 ⟨rfl, hb⟩; have n0_ := Aside0.mk (Kd.R_below (by (with_reducible repeat (first | apply zA | apply zN | apply zD)); exact HO224.out) hb); have n1_ := Aside0.mk (Kd.R_below (by (with_reducible repeat (first | apply zA | apply zN | apply zD)); exact HO234.out) hb); have n2_ := Aside0.mk (Kd.R_below (by (with_reducible repeat (first | apply zA | apply zN | apply zD)); exact HO243.out) hb); have n3_ := Aside0.mk (Kd.R_below (by (with_reducible repeat (first | apply zA | apply zN | apply zD)); exact HO246.out) hb); have n4_ := Aside0.mk (Kd.R_below (by (with_reducible repeat (first | apply zA | apply zN | apply zD)); exact HO255.out) hb); have n5_ := Aside0.mk (Kd.R_below (by (with_reducible repeat (first | apply zA | apply zN | apply zD)); exact HO258.out) hb); have n6_ := Aside0.mk (below_step (by repeat (first | (with_reducible first | exact HB.out | apply bA | apply bN | apply bD) | exact HB.out)) hb); clear HO224; clear HO234; clear HO243; clear HO246; clear HO255; clear HO258; clear HB; have HO224 := n0_; have HO234 := n1_; have HO243 := n2_; have HO246 := n3_; have HO255 := n4_; have HO258 := n5_; have HB := n6_; clear n0_ n1_ n2_ n3_ n4_ n5_ n6_; (try clear hb); (try clear hb2); (try clear hk); (try clear hi)))
        go_ret
        exact ⟨by first | rfl | (simp [errW_none, errW_some] <;> rfl) | (simp only [← hji5, ← hji8, ← hji38]; first | rfl | (simp [errW_none, errW_some] <;> rfl)) | (simp [*, errW_none, errW_some] <;> rfl), by repeat (first | (with_reducible first | exact HB.out | apply bA | apply bN | apply bD) | exact HB.out)⟩
       ·replace c84 := Bool.eq_false_iff.mpr c84
        subst c84
        have H1 : (some true) = some r := by rw [if_neg (show ¬ (false = true) by decide)] at H; exact H
        clear H
        have H := H1
        clear H1
        obtain rfl := Option.some.inj H
        try go_wp2
        have n0_ := Aside0.mk (below_drew1 HB.out)
        clear HB
        have HB := n0_
        clear n0_
        have q119 : ((ji38) : Int) ≤ ((y190.length : Int) : Int) := of_decide_eq_true (by first | (with_reducible assumption) | assumption)
        obtain ⟨i0119, hi0119, _, hsz119, _⟩ := info_parts info32
        have hroom119 : y190.length ≤ c0 := HC193.out
        have hC119 : Kd.C k32 _ A0 y190.length y190 := HR193.out
        have hcut119 := cut_to (P := Tryd.prog) 29 32 .i64 Tryd.underlying29 hi0119 A0 y190.length c0 (ji38) (of_decide_eq_true (by first | (with_reducible assumption) | assumption)) q119 hroom119
        have hr119 := Kd.C_take (m := ((ji38) : Int).toNat) hC119 (by omega)
        have hy119 : y215.length = ((ji38) : Int).toNat := (by rw [Ny215.out, List.length_take]; omega)
        rw [← Ny215.out] at hr119
        rw [← hy119] at hcut119
        have HR218 := Aside0.mk hr119
        have HC218 := Aside0.mk (show y215.length ≤ c0 from by omega)
        clear hr119 hC119 hroom119 hi0119 hsz119
        have KY119 := Aside0.mk hy119
        clear hy119
        replace q119 := eq_true q119
        have q120 : ((ji38) : Int) ≤ ((y190.length : Int) : Int) := of_decide_eq_true (by first | (with_reducible assumption) | assumption)
        obtain ⟨i0120, hi0120, _, hsz120, _⟩ := info_parts info32
        have hroom120 : y190.length ≤ c0 := HC193.out
        have hC120 : Kd.C k32 _ A0 y190.length y190 := HR193.out
        have q0120 : (0 : Int) ≤ ((ji38) : Int) := of_decide_eq_true (by first | (with_reducible assumption) | assumption)
        have hcut120 := cut_from (P := Tryd.prog) 29 32 .i64 Tryd.underlying29 hi0120 2 hsz120 A0 y190.length c0 (ji38) q0120 q120
        have hr120 := Kd.C_drop (m := ((ji38) : Int).toNat) (c := c0) hC120 (by omega) hroom120
        obtain ⟨A120, hA120⟩ : ∃ A1, A1 = (if c0 = ((ji38) : Int).toNat then A0 else (A0 : Option Addr).map (·.add (((ji38) : Int).toNat * 2))) := ⟨_, rfl⟩
        obtain ⟨c120, hc120⟩ : ∃ c1, c1 = c0 - ((ji38) : Int).toNat := ⟨_, rfl⟩
        have hy120 : y228.length = y190.length - ((ji38) : Int).toNat := (by rw [Ny228.out, List.length_drop] <;> omega)
        rw [show (y190).drop ((ji38) : Int).toNat = y228 from Ny228.out.symm] at hr120
        replace hr120 : Kd.C k32 _ A120 y228.length y228 := (by rw [hA120]; exact hr120)
        rw [← hy120, ← hA120, ← hc120] at hcut120
        have HR231 := Aside0.mk hr120
        have HC231 := Aside0.mk (show y228.length ≤ c120 from by rw [hy120, hc120]; exact Nat.sub_le_sub_right hroom120 _)
        clear hr120 hC120 hroom120 hi0120 hsz120 hc120
        have KY120 := Aside0.mk hy120
        have KA120 := Aside0.mk hA120
        clear hy120 hA120
        replace q120 := eq_true q120
        refine start_ (n := 14) (S := fun w' => True) (ds := []) #[false, false, false, false, false, false, false, false, false, false, false, false, false, false] (by kernel_rfl) rfl rfl trivial (fun hHeld => ?_); refine with_tabW deadboltlaw12_ProgTidy.tab7 deadboltlaw12_ProgTidy.bits7 (fun HT_ HW_ => ?_)
        generalize wc.drew = w118 at HB HR218 HR231 hHeld ⊢
        refine pure_ (i := 1) (N := some 59) (v := ?_) (a' := ?_) #[false, true, false, false, false, false, false, false, false, false, false, false, false, false] rfl rfl (any_of HT_.out (by kernel_rfl)) (fun _ _ _ h => h) (Or.inl ⟨by rfl, ?_⟩) ?_ ?_
        rotate_left
        ·intro w'
         go_simp
         with_reducible rfl
        rotate_left
        ·simp only [Act.put, List.setIfInBounds_toArray, List.set_cons_zero, List.set_cons_succ, i64_w, i32_w]
         rfl
        refine pure_ (i := 2) (N := some 60) (v := ?_) (a' := ?_) #[false, true, true, false, false, false, false, false, false, false, false, false, false, false] rfl rfl (any_of HT_.out (by kernel_rfl)) (fun _ _ _ h => h) (Or.inl ⟨by rfl, ?_⟩) ?_ ?_
        rotate_left
        ·intro w'
         go_simp
         with_reducible rfl
        rotate_left
        ·simp only [Act.put, List.setIfInBounds_toArray, List.set_cons_zero, List.set_cons_succ, i64_w, i32_w]
         rfl
        refine pure_ (i := 3) (N := some 61) (v := ?_) (a' := ?_) #[false, true, true, true, false, false, false, false, false, false, false, false, false, false] rfl rfl (any_of HT_.out (by kernel_rfl)) (fun _ _ _ h => h) (Or.inl ⟨by rfl, ?_⟩) ?_ ?_
        rotate_left
        ·intro w'
         go_simp
         with_reducible rfl
        rotate_left
        ·simp only [Act.put, List.setIfInBounds_toArray, List.set_cons_zero, List.set_cons_succ, i64_w, i32_w]
         rfl
        refine pure_ (i := 5) (N := some 63) (v := ?_) (a' := ?_) #[false, true, true, true, false, true, false, false, false, false, false, false, false, false] rfl rfl (any_of HT_.out (by kernel_rfl)) (fun _ _ _ h => h) (Or.inl ⟨by rfl, ?_⟩) ?_ ?_
        rotate_left
        ·intro w'
         go_simp
         with_reducible rfl
        rotate_left
        ·simp only [Act.put, List.setIfInBounds_toArray, List.set_cons_zero, List.set_cons_succ, i64_w, i32_w]
         rfl
        refine pure_ (i := 6) (N := some 64) (v := ?_) (a' := ?_) #[false, true, true, true, false, true, true, false, false, false, false, false, false, false] rfl rfl (any_of HT_.out (by kernel_rfl)) (fun _ _ _ h => h) (Or.inl ⟨by rfl, ?_⟩) ?_ ?_
        rotate_left
        ·intro w'
         go_simp
         with_reducible rfl
        rotate_left
        ·simp only [Act.put, List.setIfInBounds_toArray, List.set_cons_zero, List.set_cons_succ, i64_w, i32_w]
         rfl
        refine pure_ (i := 9) (N := some 67) (v := ?_) (a' := ?_) #[false, true, true, true, false, true, true, false, false, true, false, false, false, false] rfl rfl (any_of HT_.out (by kernel_rfl)) (fun _ _ _ h => h) (Or.inl ⟨by rfl, ?_⟩) ?_ ?_
        rotate_left
        ·intro w'
         go_simp
         with_reducible rfl
        rotate_left
        ·simp only [Act.put, List.setIfInBounds_toArray, List.set_cons_zero, List.set_cons_succ, i64_w, i32_w]
         rfl
        refine pure_ (i := 10) (N := some 68) (v := ?_) (a' := ?_) #[false, true, true, true, false, true, true, false, false, true, true, false, false, false] rfl rfl (any_of HT_.out (by kernel_rfl)) (fun _ _ _ h => h) (Or.inl ⟨by rfl, ?_⟩) ?_ ?_
        rotate_left
        ·intro w'
         go_simp
         with_reducible rfl
        rotate_left
        ·simp only [Act.put, List.setIfInBounds_toArray, List.set_cons_zero, List.set_cons_succ, i64_w, i32_w]
         rfl
        refine pure_ (i := 11) (N := some 69) (v := ?_) (a' := ?_) #[false, true, true, true, false, true, true, false, false, true, true, true, false, false] rfl rfl (any_of HT_.out (by kernel_rfl)) (fun _ _ _ h => h) (Or.inl ⟨by rfl, ?_⟩) ?_ ?_
        rotate_left
        ·intro w'
         go_simp
         with_reducible rfl
        rotate_left
        ·simp only [Act.put, List.setIfInBounds_toArray, List.set_cons_zero, List.set_cons_succ, i64_w, i32_w]
         rfl
        refine join_ (σ := Value × Value × Value) 3 #[true, true, true, true, true, true, true, true, false, true, true, true, false, false] (fun s_ => [(58, s_.1), (62, s_.2.1), (65, s_.2.2)]) (fun s_ w' => (Kd.R k32 32 w' w.heap.size (fun k_ => some k_ ≠ (s_.2.2 : Value).ownBlock) s_.2.1 y219) ∧ (Kd.R k32 32 w' w.heap.size (fun k_ => some k_ ≠ (s_.2.1 : Value).ownBlock) s_.2.2 y222) ∧ (Below w.heap.size w w')) ?_ ?_
        rotate_left
        ·intro hCont
         refine two_ (i := 0) (j := 7) (Ni := some 58) (Nj := some 65) #[true, true, true, true, false, true, true, false, false, true, true, true, false, false] #[false, true, true, true, false, true, true, true, false, true, true, true, false, false] rfl rfl rfl rfl (two_of HT_.out (by kernel_rfl)) (by decide) (by decide) (fun K hK => ?_) (fun K hK => ?_)
         ·skip
          refine Kd.R_lit_step k32 _ 32 ?hg (N := 58) ?hd (xs := ([] : List (S32))) (inner := []) (ok := fun _ => True) (okp := fun _ => True) ?hr ?hp (fun _ hk => hk) trivial (Below.refl _ _) (Nat.le_refl _) (by simp) ?_; (case hd => rfl); (case hg => rfl); (case hr => first | (go_simp; done) | (go_simp; rfl)); (case hp => exact (Reps.none _ _))
          intro v213 w121 ho122 hb hg_ hnew_
          clear hg_ hnew_
          (first | rw [← Ny212.out] at ho122 | (simp only [Int.reduceToNat] at ho122; rw [← Ny212.out] at ho122))
          have n0_ := Aside0.mk (Kd.R_lower ho122 (below_size (by repeat (first | (with_reducible first | exact HB.out | apply bA | apply bN | apply bD) | exact HB.out))))
          have n1_ := Aside0.mk (below_step (by repeat (first | (with_reducible first | exact HB.out | apply bA | apply bN | apply bD) | exact HB.out)) hb)
          clear HB
          have HO214 := n0_
          have HB := n1_
          clear n0_ n1_
          clear hb ho122
          refine hK.out _ _ trivial (fun hHeld => ?_)
          clear hK K
          refine norm_ (a' := ?_) ?_ ?_
          rotate_left
          ·show Act.put _ (some 58) _ = _
           simp only [Act.put, List.setIfInBounds_toArray, List.set_cons_zero, List.set_cons_succ, i64_w, i32_w]
           rfl
          refine two_ (i := 4) (j := 7) (Ni := some 62) (Nj := some 65) #[true, true, true, true, true, true, true, false, false, true, true, true, false, false] #[true, true, true, true, false, true, true, true, false, true, true, true, false, false] rfl rfl rfl rfl (two_of HT_.out (by kernel_rfl)) (by decide) (by decide) (fun K hK => ?_) (fun K hK => ?_)
          ·skip
           refine Kd.R_append_rows_step k32 (w0 := w) w.heap.size (by rfl) (.tmp 58) (.tmp 61) 29 32 (.agg #[(.int .i64 0), (.int .i64 0)]) 16 rfl Tryd.underlying29 info32 rfl (by decide) (by omega) v213 y212 y215 _ _ _ (fun _ => True) (fun _ => False) rfl rfl ?aO ?aR (fun _ _ h => h) (fun _ h => h.elim) ?aF ?aB ?aS ?aL ?_
           (case aR => repeat (first | exact (Kd.C_below HR218.out HB.out) | (with_reducible refine Kd.C_alloc ?_ _) | (with_reducible refine Kd.C_drewN ?_ _) | (with_reducible refine Kd.C_drew ?_)))
           (case aB => exact (by repeat (first | (with_reducible first | exact HB.out | apply bA | apply bN | apply bD) | exact HB.out)))
           (case aF => exact (fun _ _ => trivial))
           (case aO => exact (by (with_reducible repeat (first | apply zA | apply zN | apply zD)); exact HO214.out))
           (case aS => exact (below_size (by repeat (first | (with_reducible first | exact HB.out | apply bA | apply bN | apply bD) | exact HB.out))))
           (case aL => have := LMc41.out; omega)
           intro v220 w123 ho hb hg hat
           rw [← Ny219.out] at ho
           have n0_ := Aside0.mk (hb)
           have n1_ := Aside0.mk (ho)
           clear HB
           clear HO214
           have HB := n0_
           have HO221 := n1_
           clear n0_ n1_
           clear ho hb hg hat
           refine hK.out _ _ trivial (fun hHeld => ?_)
           clear hK K
           refine norm_ (a' := ?_) ?_ ?_
           rotate_left
           ·show Act.put _ (some 62) _ = _
            simp only [Act.put, List.setIfInBounds_toArray, List.set_cons_zero, List.set_cons_succ, i64_w, i32_w]
            rfl
           refine one_ (i := 7) (N := some 65) #[true, true, true, true, true, true, true, true, false, true, true, true, false, false] rfl rfl (one_of HT_.out (by kernel_rfl)) (by decide) (fun K hK => ?_)
           refine Kd.R_lit_step k32 _ 32 ?hg (N := 65) ?hd (xs := ([(⟨3, a3⟩ : S32)] : List (S32))) (inner := [.int .i64 3, .int .i64 a3]) (ok := fun _ => True) (okp := fun _ => True) ?hr ?hp (fun _ hk => hk) trivial (Below.refl _ _) (Nat.le_refl _) (by simp) ?_; (case hd => rfl); (case hg => rfl); (case hr => first | (go_simp; done) | (go_simp; rfl)); (case hp => exact (Reps.c2 (show Kd.M k32 _ _ _ (⟨3, a3⟩ : S32) [.int .i64 3, .int .i64 a3] from (k32_mkM _ _ _ (⟨3, a3⟩ : S32) )) (Reps.none _ _)))
           intro v223 w124 ho125 hb hg_ hnew_
           clear hg_ hnew_
           (first | rw [← Ny222.out] at ho125 | (simp only [Int.reduceToNat] at ho125; rw [← Ny222.out] at ho125))
           have n0_ := Aside0.mk (Kd.R_elder' (by (with_reducible repeat (first | apply zA | apply zN | apply zD)); exact HO221.out) (Kd.R_base ho125) hb)
           have n1_ := Aside0.mk (Kd.R_lower (Kd.R_new' ho125 (Kd.R_lt (by (with_reducible repeat (first | apply zA | apply zN | apply zD)); exact HO221.out))) (below_size (by repeat (first | (with_reducible first | exact HB.out | apply bA | apply bN | apply bD) | exact HB.out))))
           have n2_ := Aside0.mk (below_step (by repeat (first | (with_reducible first | exact HB.out | apply bA | apply bN | apply bD) | exact HB.out)) hb)
           clear HO221
           clear HB
           have HO221 := n0_
           have HO224 := n1_
           have HB := n2_
           clear n0_ n1_ n2_
           clear hb ho125
           refine hK.out _ _ trivial (fun hHeld => ?_)
           clear hK K
           refine norm_ (a' := ?_) ?_ ?_
           rotate_left
           ·show Act.put _ (some 65) _ = _
            simp only [Act.put, List.setIfInBounds_toArray, List.set_cons_zero, List.set_cons_succ, i64_w, i32_w]
            rfl
           exact norm_ (by simp only [putAll, Act.put, List.setIfInBounds_toArray, List.set_cons_zero, List.set_cons_succ]) (hCont (v213, v220, v223) _ ⟨(by (with_reducible repeat (first | apply zA | apply zN | apply zD)); exact Kd.R_mono HO221.out (fun _ hk => hk.2)), (by (with_reducible repeat (first | apply zA | apply zN | apply zD)); exact Kd.R_mono HO224.out (fun _ hk => hk.2)), (by repeat (first | (with_reducible first | exact HB.out | apply bA | apply bN | apply bD) | exact HB.out))⟩)
          ·skip
           refine Kd.R_lit_step k32 _ 32 ?hg (N := 65) ?hd (xs := ([(⟨3, a3⟩ : S32)] : List (S32))) (inner := [.int .i64 3, .int .i64 a3]) (ok := fun _ => True) (okp := fun _ => True) ?hr ?hp (fun _ hk => hk) trivial (Below.refl _ _) (Nat.le_refl _) (by simp) ?_; (case hd => rfl); (case hg => rfl); (case hr => first | (go_simp; done) | (go_simp; rfl)); (case hp => exact (Reps.c2 (show Kd.M k32 _ _ _ (⟨3, a3⟩ : S32) [.int .i64 3, .int .i64 a3] from (k32_mkM _ _ _ (⟨3, a3⟩ : S32) )) (Reps.none _ _)))
           intro v223 w123 ho124 hb hg_ hnew_
           clear hg_ hnew_
           (first | rw [← Ny222.out] at ho124 | (simp only [Int.reduceToNat] at ho124; rw [← Ny222.out] at ho124))
           have n0_ := Aside0.mk (Kd.R_elder' (by (with_reducible repeat (first | apply zA | apply zN | apply zD)); exact HO214.out) (Kd.R_base ho124) hb)
           have n1_ := Aside0.mk (Kd.R_lower (Kd.R_new' ho124 (Kd.R_lt (by (with_reducible repeat (first | apply zA | apply zN | apply zD)); exact HO214.out))) (below_size (by repeat (first | (with_reducible first | exact HB.out | apply bA | apply bN | apply bD) | exact HB.out))))
           have n2_ := Aside0.mk (below_step (by repeat (first | (with_reducible first | exact HB.out | apply bA | apply bN | apply bD) | exact HB.out)) hb)
           clear HO214
           clear HB
           have HO214 := n0_
           have HO224 := n1_
           have HB := n2_
           clear n0_ n1_ n2_
           clear hb ho124
           refine hK.out _ _ trivial (fun hHeld => ?_)
           clear hK K
           refine norm_ (a' := ?_) ?_ ?_
           rotate_left
           ·show Act.put _ (some 65) _ = _
            simp only [Act.put, List.setIfInBounds_toArray, List.set_cons_zero, List.set_cons_succ, i64_w, i32_w]
            rfl
           refine one_ (i := 4) (N := some 62) #[true, true, true, true, true, true, true, true, false, true, true, true, false, false] rfl rfl (one_of HT_.out (by kernel_rfl)) (by decide) (fun K hK => ?_)
           refine Kd.R_append_rows_step k32 (w0 := w) w.heap.size (by rfl) (.tmp 58) (.tmp 61) 29 32 (.agg #[(.int .i64 0), (.int .i64 0)]) 16 rfl Tryd.underlying29 info32 rfl (by decide) (by omega) v213 y212 y215 _ _ _ (fun k_ => some k_ ≠ (v223 : Value).ownBlock) (fun _ => False) rfl rfl ?aO ?aR (fun _ _ h => h) (fun _ h => h.elim) ?aF ?aB ?aS ?aL ?_
           (case aR => repeat (first | exact (Kd.C_below HR218.out HB.out) | (with_reducible refine Kd.C_alloc ?_ _) | (with_reducible refine Kd.C_drewN ?_ _) | (with_reducible refine Kd.C_drew ?_)))
           (case aB => exact (by repeat (first | (with_reducible first | exact HB.out | apply bA | apply bN | apply bD) | exact HB.out)))
           (case aF => exact (fun k_ hk => Kd.fresh' (Kd.R_lt (by (with_reducible repeat (first | apply zA | apply zN | apply zD)); exact HO224.out)) k_ hk))
           (case aO => exact (by (with_reducible repeat (first | apply zA | apply zN | apply zD)); exact Kd.R_mono HO214.out (fun _ hk => hk.2)))
           (case aS => exact (below_size (by repeat (first | (with_reducible first | exact HB.out | apply bA | apply bN | apply bD) | exact HB.out))))
           (case aL => have := LMc41.out; omega)
           intro v220 w125 ho hb hg hat
           rw [← Ny219.out] at ho
           have n0_ := Aside0.mk (Kd.R_after (ok := (fun _ => True)) (by (with_reducible repeat (first | apply zA | apply zN | apply zD)); exact HO224.out) hg hat)
           have n1_ := Aside0.mk (hb)
           have n2_ := Aside0.mk (ho)
           clear HO224
           clear HB
           clear HO214
           have HO224 := n0_
           have HB := n1_
           have HO221 := n2_
           clear n0_ n1_ n2_
           clear ho hb hg hat
           refine hK.out _ _ trivial (fun hHeld => ?_)
           clear hK K
           refine norm_ (a' := ?_) ?_ ?_
           rotate_left
           ·show Act.put _ (some 62) _ = _
            simp only [Act.put, List.setIfInBounds_toArray, List.set_cons_zero, List.set_cons_succ, i64_w, i32_w]
            rfl
           exact norm_ (by simp only [putAll, Act.put, List.setIfInBounds_toArray, List.set_cons_zero, List.set_cons_succ]) (hCont (v213, v220, v223) _ ⟨(by (with_reducible repeat (first | apply zA | apply zN | apply zD)); exact HO221.out), (by (with_reducible repeat (first | apply zA | apply zN | apply zD)); exact Kd.R_mono HO224.out (fun _ hk => hk.2)), (by repeat (first | (with_reducible first | exact HB.out | apply bA | apply bN | apply bD) | exact HB.out))⟩)
         ·skip
          refine Kd.R_lit_step k32 _ 32 ?hg (N := 65) ?hd (xs := ([(⟨3, a3⟩ : S32)] : List (S32))) (inner := [.int .i64 3, .int .i64 a3]) (ok := fun _ => True) (okp := fun _ => True) ?hr ?hp (fun _ hk => hk) trivial (Below.refl _ _) (Nat.le_refl _) (by simp) ?_; (case hd => rfl); (case hg => rfl); (case hr => first | (go_simp; done) | (go_simp; rfl)); (case hp => exact (Reps.c2 (show Kd.M k32 _ _ _ (⟨3, a3⟩ : S32) [.int .i64 3, .int .i64 a3] from (k32_mkM _ _ _ (⟨3, a3⟩ : S32) )) (Reps.none _ _)))
          intro v223 w121 ho122 hb hg_ hnew_
          clear hg_ hnew_
          (first | rw [← Ny222.out] at ho122 | (simp only [Int.reduceToNat] at ho122; rw [← Ny222.out] at ho122))
          have n0_ := Aside0.mk (Kd.R_lower ho122 (below_size (by repeat (first | (with_reducible first | exact HB.out | apply bA | apply bN | apply bD) | exact HB.out))))
          have n1_ := Aside0.mk (below_step (by repeat (first | (with_reducible first | exact HB.out | apply bA | apply bN | apply bD) | exact HB.out)) hb)
          clear HB
          have HO224 := n0_
          have HB := n1_
          clear n0_ n1_
          clear hb ho122
          refine hK.out _ _ trivial (fun hHeld => ?_)
          clear hK K
          refine norm_ (a' := ?_) ?_ ?_
          rotate_left
          ·show Act.put _ (some 65) _ = _
           simp only [Act.put, List.setIfInBounds_toArray, List.set_cons_zero, List.set_cons_succ, i64_w, i32_w]
           rfl
          refine one_ (i := 0) (N := some 58) #[true, true, true, true, false, true, true, true, false, true, true, true, false, false] rfl rfl (one_of HT_.out (by kernel_rfl)) (by decide) (fun K hK => ?_)
          refine Kd.R_lit_step k32 _ 32 ?hg (N := 58) ?hd (xs := ([] : List (S32))) (inner := []) (ok := fun _ => True) (okp := fun _ => True) ?hr ?hp (fun _ hk => hk) trivial (Below.refl _ _) (Nat.le_refl _) (by simp) ?_; (case hd => rfl); (case hg => rfl); (case hr => first | (go_simp; done) | (go_simp; rfl)); (case hp => exact (Reps.none _ _))
          intro v213 w123 ho124 hb hg_ hnew_
          clear hg_ hnew_
          (first | rw [← Ny212.out] at ho124 | (simp only [Int.reduceToNat] at ho124; rw [← Ny212.out] at ho124))
          have n0_ := Aside0.mk (Kd.R_elder' (by (with_reducible repeat (first | apply zA | apply zN | apply zD)); exact HO224.out) (Kd.R_base ho124) hb)
          have n1_ := Aside0.mk (Kd.R_lower (Kd.R_new' ho124 (Kd.R_lt (by (with_reducible repeat (first | apply zA | apply zN | apply zD)); exact HO224.out))) (below_size (by repeat (first | (with_reducible first | exact HB.out | apply bA | apply bN | apply bD) | exact HB.out))))
          have n2_ := Aside0.mk (below_step (by repeat (first | (with_reducible first | exact HB.out | apply bA | apply bN | apply bD) | exact HB.out)) hb)
          clear HO224
          clear HB
          have HO224 := n0_
          have HO214 := n1_
          have HB := n2_
          clear n0_ n1_ n2_
          clear hb ho124
          refine hK.out _ _ trivial (fun hHeld => ?_)
          clear hK K
          refine norm_ (a' := ?_) ?_ ?_
          rotate_left
          ·show Act.put _ (some 58) _ = _
           simp only [Act.put, List.setIfInBounds_toArray, List.set_cons_zero, List.set_cons_succ, i64_w, i32_w]
           rfl
          refine one_ (i := 4) (N := some 62) #[true, true, true, true, true, true, true, true, false, true, true, true, false, false] rfl rfl (one_of HT_.out (by kernel_rfl)) (by decide) (fun K hK => ?_)
          refine Kd.R_append_rows_step k32 (w0 := w) w.heap.size (by rfl) (.tmp 58) (.tmp 61) 29 32 (.agg #[(.int .i64 0), (.int .i64 0)]) 16 rfl Tryd.underlying29 info32 rfl (by decide) (by omega) v213 y212 y215 _ _ _ (fun k_ => some k_ ≠ (v223 : Value).ownBlock) (fun _ => False) rfl rfl ?aO ?aR (fun _ _ h => h) (fun _ h => h.elim) ?aF ?aB ?aS ?aL ?_
          (case aR => repeat (first | exact (Kd.C_below HR218.out HB.out) | (with_reducible refine Kd.C_alloc ?_ _) | (with_reducible refine Kd.C_drewN ?_ _) | (with_reducible refine Kd.C_drew ?_)))
          (case aB => exact (by repeat (first | (with_reducible first | exact HB.out | apply bA | apply bN | apply bD) | exact HB.out)))
          (case aF => exact (fun k_ hk => Kd.fresh' (Kd.R_lt (by (with_reducible repeat (first | apply zA | apply zN | apply zD)); exact HO224.out)) k_ hk))
          (case aO => exact (by (with_reducible repeat (first | apply zA | apply zN | apply zD)); exact Kd.R_mono HO214.out (fun _ hk => hk.2)))
          (case aS => exact (below_size (by repeat (first | (with_reducible first | exact HB.out | apply bA | apply bN | apply bD) | exact HB.out))))
          (case aL => have := LMc41.out; omega)
          intro v220 w125 ho hb hg hat
          rw [← Ny219.out] at ho
          have n0_ := Aside0.mk (Kd.R_after (ok := (fun _ => True)) (by (with_reducible repeat (first | apply zA | apply zN | apply zD)); exact HO224.out) hg hat)
          have n1_ := Aside0.mk (hb)
          have n2_ := Aside0.mk (ho)
          clear HO224
          clear HB
          clear HO214
          have HO224 := n0_
          have HB := n1_
          have HO221 := n2_
          clear n0_ n1_ n2_
          clear ho hb hg hat
          refine hK.out _ _ trivial (fun hHeld => ?_)
          clear hK K
          refine norm_ (a' := ?_) ?_ ?_
          rotate_left
          ·show Act.put _ (some 62) _ = _
           simp only [Act.put, List.setIfInBounds_toArray, List.set_cons_zero, List.set_cons_succ, i64_w, i32_w]
           rfl
          exact norm_ (by simp only [putAll, Act.put, List.setIfInBounds_toArray, List.set_cons_zero, List.set_cons_succ]) (hCont (v213, v220, v223) _ ⟨(by (with_reducible repeat (first | apply zA | apply zN | apply zD)); exact HO221.out), (by (with_reducible repeat (first | apply zA | apply zN | apply zD)); exact Kd.R_mono HO224.out (fun _ hk => hk.2)), (by repeat (first | (with_reducible first | exact HB.out | apply bA | apply bN | apply bD) | exact HB.out))⟩)
        rintro ⟨v213, v220, v223⟩ w126 ⟨h0_, h1_, h2_⟩
        have n0_ : Aside0 (Kd.R k32 32 w126 w.heap.size (fun k_ => some k_ ≠ (v223 : Value).ownBlock) v220 y219) := ⟨h0_⟩
        have n1_ : Aside0 (Kd.R k32 32 w126 w.heap.size (fun k_ => some k_ ≠ (v220 : Value).ownBlock) v223 y222) := ⟨h1_⟩
        have n2_ : Aside0 (Below w.heap.size w w126) := ⟨h2_⟩
        clear HB
        clear h0_ h1_ h2_
        have HO221 := n0_
        have HO224 := n1_
        have HB := n2_
        clear n0_ n1_ n2_
        have hHeld := trivial
        obtain ⟨Ao128, co128, eo128⟩ := Kd.R_slice HO224.out
        (first | subst eo128 | (injection eo128 with f1_ f2_ f3_; have f4_ := f1_.symm; have f5_ := f3_.symm; clear f1_ f2_ f3_; subst f4_; subst f5_))
        refine norm_ (a' := ?_) ?_ ?_
        rotate_left
        ·simp only [putAll, Act.put, List.setIfInBounds_toArray, List.set_cons_zero, List.set_cons_succ]
         rfl
        refine one_ (i := 8) (N := some 66) #[true, true, true, true, true, true, true, true, true, true, true, true, false, false] rfl rfl (one_of HT_.out (by kernel_rfl)) (by decide) (fun K hK => ?_)
        refine Kd.R_append_rows_step k32 (w0 := w) w.heap.size (by rfl) (.tmp 62) (.tmp 65) 29 32 (.agg #[(.int .i64 0), (.int .i64 0)]) 16 rfl Tryd.underlying29 info32 rfl (by decide) (by omega) v220 y219 y222 _ _ _ (fun k_ => some k_ ≠ (.slice Ao128 y222.length co128 : Value).ownBlock) (fun _ => False) rfl rfl ?aO ?aR (fun _ _ h => h) (fun _ h => h.elim) ?aF ?aB ?aS ?aL ?_
        (case aR => repeat (first | exact (Kd.R_reads' HO224.out).2.2 | (with_reducible refine Kd.C_alloc ?_ _) | (with_reducible refine Kd.C_drewN ?_ _) | (with_reducible refine Kd.C_drew ?_)))
        (case aB => exact (by repeat (first | (with_reducible first | exact HB.out | apply bA | apply bN | apply bD) | exact HB.out)))
        (case aF => exact (fun k_ hk => Kd.fresh' (Kd.R_lt (by (with_reducible repeat (first | apply zA | apply zN | apply zD)); exact HO224.out)) k_ hk))
        (case aO => exact (by (with_reducible repeat (first | apply zA | apply zN | apply zD)); exact HO221.out))
        (case aS => exact (below_size (by repeat (first | (with_reducible first | exact HB.out | apply bA | apply bN | apply bD) | exact HB.out))))
        (case aL => have := LMc42.out; omega)
        intro v226 w127 ho hb hg hat
        rw [← Ny225.out] at ho
        have n0_ := Aside0.mk (Kd.R_after (ok := (fun _ => True)) (by (with_reducible repeat (first | apply zA | apply zN | apply zD)); exact Kd.R_mono HO224.out (fun _ hk => ⟨trivial, hk⟩)) hg hat)
        have n1_ := Aside0.mk (hb)
        have n2_ := Aside0.mk (ho)
        clear HO224
        clear HB
        clear HO221
        have HO224 := n0_
        have HB := n1_
        have HO227 := n2_
        clear n0_ n1_ n2_
        clear ho hb hg hat
        refine hK.out _ _ trivial (fun hHeld => ?_)
        clear hK K
        refine norm_ (a' := ?_) ?_ ?_
        rotate_left
        ·show Act.put _ (some 66) _ = _
         simp only [Act.put, List.setIfInBounds_toArray, List.set_cons_zero, List.set_cons_succ, i64_w, i32_w]
         rfl
        refine one_ (i := 12) (N := some 70) #[true, true, true, true, true, true, true, true, true, true, true, true, true, false] rfl rfl (one_of HT_.out (by kernel_rfl)) (by decide) (fun K hK => ?_)
        refine Kd.R_append_rows_step k32 (w0 := w) w.heap.size (by rfl) (.tmp 66) (.tmp 69) 29 32 (.agg #[(.int .i64 0), (.int .i64 0)]) 16 rfl Tryd.underlying29 info32 rfl (by decide) (by omega) v226 y225 y228 _ _ _ (fun k_ => some k_ ≠ (.slice Ao128 y222.length co128 : Value).ownBlock) (fun _ => False) rfl rfl ?aO ?aR (fun _ _ h => h) (fun _ h => h.elim) ?aF ?aB ?aS ?aL ?_
        (case aR => repeat (first | exact (Kd.C_below HR231.out HB.out) | (with_reducible refine Kd.C_alloc ?_ _) | (with_reducible refine Kd.C_drewN ?_ _) | (with_reducible refine Kd.C_drew ?_)))
        (case aB => exact (by repeat (first | (with_reducible first | exact HB.out | apply bA | apply bN | apply bD) | exact HB.out)))
        (case aF => exact (fun k_ hk => Kd.fresh' (Kd.R_lt (by (with_reducible repeat (first | apply zA | apply zN | apply zD)); exact HO224.out)) k_ hk))
        (case aO => exact (by (with_reducible repeat (first | apply zA | apply zN | apply zD)); exact HO227.out))
        (case aS => exact (below_size (by repeat (first | (with_reducible first | exact HB.out | apply bA | apply bN | apply bD) | exact HB.out))))
        (case aL => have := LMc45.out; omega)
        intro v233 w129 ho hb hg hat
        rw [← Ny232.out] at ho
        have n0_ := Aside0.mk (Kd.R_after (ok := (fun _ => True)) (by (with_reducible repeat (first | apply zA | apply zN | apply zD)); exact HO224.out) hg hat)
        have n1_ := Aside0.mk (hb)
        have n2_ := Aside0.mk (ho)
        clear HO224
        clear HB
        clear HO227
        have HO224 := n0_
        have HB := n1_
        have HO234 := n2_
        clear n0_ n1_ n2_
        clear ho hb hg hat
        refine hK.out _ _ trivial (fun hHeld => ?_)
        clear hK K
        refine norm_ (a' := ?_) ?_ ?_
        rotate_left
        ·show Act.put _ (some 70) _ = _
         simp only [Act.put, List.setIfInBounds_toArray, List.set_cons_zero, List.set_cons_succ, i64_w, i32_w]
         rfl
        refine pure_ (i := 13) (N := some 12) (v := ?_) (a' := ?_) #[true, true, true, true, true, true, true, true, true, true, true, true, true, true] rfl rfl (any_of HT_.out (by kernel_rfl)) (fun _ _ _ h => h) (Or.inl ⟨by rfl, ?_⟩) ?_ ?_
        rotate_left
        ·intro w'
         go_simp
         with_reducible rfl
        rotate_left
        ·simp only [Act.put, List.setIfInBounds_toArray, List.set_cons_zero, List.set_cons_succ, i64_w, i32_w]
         rfl
        refine done_ (done_of HT_.out (by kernel_rfl)) ?_
        try go_wp2_with (first | ((with_reducible refine gate_dst (N := 71) rfl ?_); refine Kd.R_lit k32 _ 32 ?hg (N := 71) ?hd (xs := ([] : List (S32))) (inner := []) (ok := fun _ => True) (okp := fun _ => True) ?hr ?hp (fun _ hk => hk) trivial (Below.refl _ _) (Nat.le_refl _) (by simp) ?_; (case hd => rfl); (case hg => rfl); (case hr => first | (go_simp; done) | (go_simp; rfl)); (case hp => exact (Reps.none _ _)); intro v236 w130 ho131 hb hg_ hnew_; clear hg_ hnew_; (first | rw [← Ny235.out] at ho131 | (simp only [Int.reduceToNat] at ho131; rw [← Ny235.out] at ho131)); have n0_ := Aside0.mk (Kd.R_elder' (by (with_reducible repeat (first | apply zA | apply zN | apply zD)); exact HO224.out) (Kd.R_base ho131) hb); have n1_ := Aside0.mk (Kd.R_elder' (by (with_reducible repeat (first | apply zA | apply zN | apply zD)); exact HO234.out) (Kd.R_base ho131) hb); have n2_ := Aside0.mk (Kd.R_lower (Kd.R_new' (Kd.R_new' ho131 (Kd.R_lt (by (with_reducible repeat (first | apply zA | apply zN | apply zD)); exact HO224.out))) (Kd.R_lt (by (with_reducible repeat (first | apply zA | apply zN | apply zD)); exact HO234.out))) (below_size (by repeat (first | (with_reducible first | exact HB.out | apply bA | apply bN | apply bD) | exact HB.out)))); have n3_ := Aside0.mk (below_step (by repeat (first | (with_reducible first | exact HB.out | apply bA | apply bN | apply bD) | exact HB.out)) hb); clear HO224; clear HO234; clear HB; have HO224 := n0_; have HO234 := n1_; have HO237 := n2_; have HB := n3_; clear n0_ n1_ n2_ n3_; clear hb ho131) | ((with_reducible refine gate_builtin (b := .append) (xs := #[.tmp 71, .tmp 72]) rfl ?_); at_builtin; refine Kd.R_append_rows k32 (w0 := w) w.heap.size rfl (.tmp 71) (.tmp 72) 29 32 (.agg #[(.int .i64 0), (.int .i64 0)]) 16 rfl Tryd.underlying29 info32 rfl (by decide) (by omega) v236 y235 y190 _ _ _ (fun k_ => some k_ ≠ (.slice Ao128 y222.length co128 : Value).ownBlock ∧ some k_ ≠ (v233 : Value).ownBlock) (fun _ => False) rfl rfl ?aO ?aR (fun _ _ h => h) (fun _ h => h.elim) ?aF ?aB ?aS ?aL ?_; (case aR => repeat (first | exact (Kd.C_below HR193.out HB.out) | (with_reducible refine Kd.C_alloc ?_ _) | (with_reducible refine Kd.C_drewN ?_ _) | (with_reducible refine Kd.C_drew ?_))); (case aB => exact (by repeat (first | (with_reducible first | exact HB.out | apply bA | apply bN | apply bD) | exact HB.out))); (case aF => exact (fun k_ hk => ⟨Kd.fresh' (Kd.R_lt (by (with_reducible repeat (first | apply zA | apply zN | apply zD)); exact HO224.out)) k_ hk, Kd.fresh' (Kd.R_lt (by (with_reducible repeat (first | apply zA | apply zN | apply zD)); exact HO234.out)) k_ hk⟩)); (case aO => exact (by (with_reducible repeat (first | apply zA | apply zN | apply zD)); exact Kd.R_mono HO237.out (fun _ hk => ⟨hk.1.2, hk.2⟩))); (case aS => exact (below_size (by repeat (first | (with_reducible first | exact HB.out | apply bA | apply bN | apply bD) | exact HB.out)))); (case aL => have := LMc46.out; omega); intro v239 w132 ho hb hg hat; rw [← Ny238.out] at ho; have n0_ := Aside0.mk (Kd.R_after (ok := (fun k_ => some k_ ≠ (v233 : Value).ownBlock)) (by (with_reducible repeat (first | apply zA | apply zN | apply zD)); exact Kd.R_mono HO224.out (fun _ hk => ⟨hk.1.2, hk.2⟩)) hg hat); have n1_ := Aside0.mk (Kd.R_after (ok := (fun k_ => some k_ ≠ (.slice Ao128 y222.length co128 : Value).ownBlock)) (by (with_reducible repeat (first | apply zA | apply zN | apply zD)); exact HO234.out) hg hat); have n2_ := Aside0.mk (hb); have n3_ := Aside0.mk (ho); clear HO224; clear HO234; clear HB; clear HO237; have HO224 := n0_; have HO234 := n1_; have HB := n2_; have HO240 := n3_; clear n0_ n1_ n2_ n3_; clear ho hb hg hat) | ((with_reducible refine gate_dst (N := 76) rfl ?_); refine Kd.R_lit k32 _ 32 ?hg (N := 76) ?hd (xs := ([(⟨0, a3⟩ : S32)] : List (S32))) (inner := [.int .i64 0, .int .i64 a3]) (ok := fun _ => True) (okp := fun _ => True) ?hr ?hp (fun _ hk => hk) trivial (Below.refl _ _) (Nat.le_refl _) (by simp) ?_; (case hd => rfl); (case hg => rfl); (case hr => first | (go_simp; done) | (go_simp; rfl)); (case hp => exact (Reps.c2 (show Kd.M k32 _ _ _ (⟨0, a3⟩ : S32) [.int .i64 0, .int .i64 a3] from (k32_mkM _ _ _ (⟨0, a3⟩ : S32) )) (Reps.none _ _))); intro v242 w133 ho134 hb hg_ hnew_; clear hg_ hnew_; (first | rw [← Ny241.out] at ho134 | (simp only [Int.reduceToNat] at ho134; rw [← Ny241.out] at ho134)); have n0_ := Aside0.mk (Kd.R_elder' (by (with_reducible repeat (first | apply zA | apply zN | apply zD)); exact HO224.out) (Kd.R_base ho134) hb); have n1_ := Aside0.mk (Kd.R_elder' (by (with_reducible repeat (first | apply zA | apply zN | apply zD)); exact HO234.out) (Kd.R_base ho134) hb); have n2_ := Aside0.mk (Kd.R_elder' (by (with_reducible repeat (first | apply zA | apply zN | apply zD)); exact HO240.out) (Kd.R_base ho134) hb); have n3_ := Aside0.mk (Kd.R_lower (Kd.R_new' (Kd.R_new' (Kd.R_new' ho134 (Kd.R_lt (by (with_reducible repeat (first | apply zA | apply zN | apply zD)); exact HO224.out))) (Kd.R_lt (by (with_reducible repeat (first | apply zA | apply zN | apply zD)); exact HO234.out))) (Kd.R_lt (by (with_reducible repeat (first | apply zA | apply zN | apply zD)); exact HO240.out))) (below_size (by repeat (first | (with_reducible first | exact HB.out | apply bA | apply bN | apply bD) | exact HB.out)))); have n4_ := Aside0.mk (below_step (by repeat (first | (with_reducible first | exact HB.out | apply bA | apply bN | apply bD) | exact HB.out)) hb); clear HO224; clear HO234; clear HO240; clear HB; have HO224 := n0_; have HO234 := n1_; have HO240 := n2_; have HO243 := n3_; have HB := n4_; clear n0_ n1_ n2_ n3_ n4_; clear hb ho134; obtain ⟨Ao136, co136, eo136⟩ := Kd.R_slice HO243.out; subst eo136) | ((with_reducible refine gate_builtin (b := .append) (xs := #[.tmp 73, .tmp 76]) rfl ?_); at_builtin; refine Kd.R_append_rows k32 (w0 := w) w.heap.size rfl (.tmp 73) (.tmp 76) 29 32 (.agg #[(.int .i64 0), (.int .i64 0)]) 16 rfl Tryd.underlying29 info32 rfl (by decide) (by omega) v239 y238 y241 _ _ _ (fun k_ => some k_ ≠ (.slice Ao128 y222.length co128 : Value).ownBlock ∧ some k_ ≠ (v233 : Value).ownBlock ∧ some k_ ≠ (.slice Ao136 y241.length co136 : Value).ownBlock) (fun _ => False) rfl rfl ?aO ?aR (fun _ _ h => h) (fun _ h => h.elim) ?aF ?aB ?aS ?aL ?_; (case aR => repeat (first | exact (Kd.R_reads' HO243.out).2.2 | (with_reducible refine Kd.C_alloc ?_ _) | (with_reducible refine Kd.C_drewN ?_ _) | (with_reducible refine Kd.C_drew ?_))); (case aB => exact (by repeat (first | (with_reducible first | exact HB.out | apply bA | apply bN | apply bD) | exact HB.out))); (case aF => exact (fun k_ hk => ⟨Kd.fresh' (Kd.R_lt (by (with_reducible repeat (first | apply zA | apply zN | apply zD)); exact HO224.out)) k_ hk, Kd.fresh' (Kd.R_lt (by (with_reducible repeat (first | apply zA | apply zN | apply zD)); exact HO234.out)) k_ hk, Kd.fresh' (Kd.R_lt (by (with_reducible repeat (first | apply zA | apply zN | apply zD)); exact HO243.out)) k_ hk⟩)); (case aO => exact (by (with_reducible repeat (first | apply zA | apply zN | apply zD)); exact Kd.R_mono HO240.out (fun _ hk => ⟨hk.1.1, ⟨hk.1.2, hk.2⟩⟩))); (case aS => exact (below_size (by repeat (first | (with_reducible first | exact HB.out | apply bA | apply bN | apply bD) | exact HB.out)))); (case aL => have := LMc47.out; omega); intro v245 w135 ho hb hg hat; rw [← Ny244.out] at ho; have n0_ := Aside0.mk (Kd.R_after (ok := (fun k_ => some k_ ≠ (v233 : Value).ownBlock ∧ some k_ ≠ (.slice Ao136 y241.length co136 : Value).ownBlock)) (by (with_reducible repeat (first | apply zA | apply zN | apply zD)); exact Kd.R_mono HO224.out (fun _ hk => ⟨⟨hk.1.1, hk.2⟩, hk.1.2⟩)) hg hat); have n1_ := Aside0.mk (Kd.R_after (ok := (fun k_ => some k_ ≠ (.slice Ao128 y222.length co128 : Value).ownBlock ∧ some k_ ≠ (.slice Ao136 y241.length co136 : Value).ownBlock)) (by (with_reducible repeat (first | apply zA | apply zN | apply zD)); exact Kd.R_mono HO234.out (fun _ hk => ⟨⟨hk.1.1, hk.2⟩, hk.1.2⟩)) hg hat); have n2_ := Aside0.mk (Kd.R_after (ok := (fun k_ => some k_ ≠ (.slice Ao128 y222.length co128 : Value).ownBlock ∧ some k_ ≠ (v233 : Value).ownBlock)) (by (with_reducible repeat (first | apply zA | apply zN | apply zD)); exact Kd.R_mono HO243.out (fun _ hk => ⟨⟨hk.1.1.2, hk.1.2⟩, hk.2⟩)) hg hat); have n3_ := Aside0.mk (hb); have n4_ := Aside0.mk (ho); clear HO224; clear HO234; clear HO243; clear HB; clear HO240; have HO224 := n0_; have HO234 := n1_; have HO243 := n2_; have HB := n3_; have HO246 := n4_; clear n0_ n1_ n2_ n3_ n4_; clear ho hb hg hat) | ((with_reducible refine gate_dst (N := 78) rfl ?_); refine Kd.R_lit k32 _ 32 ?hg (N := 78) ?hd (xs := ([] : List (S32))) (inner := []) (ok := fun _ => True) (okp := fun _ => True) ?hr ?hp (fun _ hk => hk) trivial (Below.refl _ _) (Nat.le_refl _) (by simp) ?_; (case hd => rfl); (case hg => rfl); (case hr => first | (go_simp; done) | (go_simp; rfl)); (case hp => exact (Reps.none _ _)); intro v248 w137 ho138 hb hg_ hnew_; clear hg_ hnew_; (first | rw [← Ny247.out] at ho138 | (simp only [Int.reduceToNat] at ho138; rw [← Ny247.out] at ho138)); have n0_ := Aside0.mk (Kd.R_elder' (by (with_reducible repeat (first | apply zA | apply zN | apply zD)); exact HO224.out) (Kd.R_base ho138) hb); have n1_ := Aside0.mk (Kd.R_elder' (by (with_reducible repeat (first | apply zA | apply zN | apply zD)); exact HO234.out) (Kd.R_base ho138) hb); have n2_ := Aside0.mk (Kd.R_elder' (by (with_reducible repeat (first | apply zA | apply zN | apply zD)); exact HO243.out) (Kd.R_base ho138) hb); have n3_ := Aside0.mk (Kd.R_elder' (by (with_reducible repeat (first | apply zA | apply zN | apply zD)); exact HO246.out) (Kd.R_base ho138) hb); have n4_ := Aside0.mk (Kd.R_lower (Kd.R_new' (Kd.R_new' (Kd.R_new' (Kd.R_new' ho138 (Kd.R_lt (by (with_reducible repeat (first | apply zA | apply zN | apply zD)); exact HO224.out))) (Kd.R_lt (by (with_reducible repeat (first | apply zA | apply zN | apply zD)); exact HO234.out))) (Kd.R_lt (by (with_reducible repeat (first | apply zA | apply zN | apply zD)); exact HO243.out))) (Kd.R_lt (by (with_reducible repeat (first | apply zA | apply zN | apply zD)); exact HO246.out))) (below_size (by repeat (first | (with_reducible first | exact HB.out | apply bA | apply bN | apply bD) | exact HB.out)))); have n5_ := Aside0.mk (below_step (by repeat (first | (with_reducible first | exact HB.out | apply bA | apply bN | apply bD) | exact HB.out)) hb); clear HO224; clear HO234; clear HO243; clear HO246; clear HB; have HO224 := n0_; have HO234 := n1_; have HO243 := n2_; have HO246 := n3_; have HO249 := n4_; have HB := n5_; clear n0_ n1_ n2_ n3_ n4_ n5_; clear hb ho138; obtain ⟨Ao140, co140, eo140⟩ := Kd.R_slice HO246.out; subst eo140) | ((with_reducible refine gate_builtin (b := .append) (xs := #[.tmp 78, .tmp 79]) rfl ?_); at_builtin; refine Kd.R_append_rows k32 (w0 := w) w.heap.size rfl (.tmp 78) (.tmp 79) 29 32 (.agg #[(.int .i64 0), (.int .i64 0)]) 16 rfl Tryd.underlying29 info32 rfl (by decide) (by omega) v248 y247 y244 _ _ _ (fun k_ => some k_ ≠ (.slice Ao128 y222.length co128 : Value).ownBlock ∧ some k_ ≠ (v233 : Value).ownBlock ∧ some k_ ≠ (.slice Ao136 y241.length co136 : Value).ownBlock ∧ some k_ ≠ (.slice Ao140 y244.length co140 : Value).ownBlock) (fun _ => False) rfl rfl ?aO ?aR (fun _ _ h => h) (fun _ h => h.elim) ?aF ?aB ?aS ?aL ?_; (case aR => repeat (first | exact (Kd.R_reads' HO246.out).2.2 | (with_reducible refine Kd.C_alloc ?_ _) | (with_reducible refine Kd.C_drewN ?_ _) | (with_reducible refine Kd.C_drew ?_))); (case aB => exact (by repeat (first | (with_reducible first | exact HB.out | apply bA | apply bN | apply bD) | exact HB.out))); (case aF => exact (fun k_ hk => ⟨Kd.fresh' (Kd.R_lt (by (with_reducible repeat (first | apply zA | apply zN | apply zD)); exact HO224.out)) k_ hk, Kd.fresh' (Kd.R_lt (by (with_reducible repeat (first | apply zA | apply zN | apply zD)); exact HO234.out)) k_ hk, Kd.fresh' (Kd.R_lt (by (with_reducible repeat (first | apply zA | apply zN | apply zD)); exact HO243.out)) k_ hk, Kd.fresh' (Kd.R_lt (by (with_reducible repeat (first | apply zA | apply zN | apply zD)); exact HO246.out)) k_ hk⟩)); (case aO => exact (by (with_reducible repeat (first | apply zA | apply zN | apply zD)); exact Kd.R_mono HO249.out (fun _ hk => ⟨hk.1.1.1.2, ⟨hk.1.1.2, ⟨hk.1.2, hk.2⟩⟩⟩))); (case aS => exact (below_size (by repeat (first | (with_reducible first | exact HB.out | apply bA | apply bN | apply bD) | exact HB.out)))); (case aL => have := LMc48.out; omega); intro v251 w139 ho hb hg hat; rw [← Ny250.out] at ho; have n0_ := Aside0.mk (Kd.R_after (ok := (fun k_ => some k_ ≠ (v233 : Value).ownBlock ∧ some k_ ≠ (.slice Ao136 y241.length co136 : Value).ownBlock ∧ some k_ ≠ (.slice Ao140 y244.length co140 : Value).ownBlock)) (by (with_reducible repeat (first | apply zA | apply zN | apply zD)); exact Kd.R_mono HO224.out (fun _ hk => ⟨⟨hk.1.1.1, ⟨hk.1.1.2, hk.1.2⟩⟩, hk.2⟩)) hg hat); have n1_ := Aside0.mk (Kd.R_after (ok := (fun k_ => some k_ ≠ (.slice Ao128 y222.length co128 : Value).ownBlock ∧ some k_ ≠ (.slice Ao136 y241.length co136 : Value).ownBlock ∧ some k_ ≠ (.slice Ao140 y244.length co140 : Value).ownBlock)) (by (with_reducible repeat (first | apply zA | apply zN | apply zD)); exact Kd.R_mono HO234.out (fun _ hk => ⟨⟨hk.1.1.1, ⟨hk.1.1.2, hk.1.2⟩⟩, hk.2⟩)) hg hat); have n2_ := Aside0.mk (Kd.R_after (ok := (fun k_ => some k_ ≠ (.slice Ao128 y222.length co128 : Value).ownBlock ∧ some k_ ≠ (v233 : Value).ownBlock ∧ some k_ ≠ (.slice Ao140 y244.length co140 : Value).ownBlock)) (by (with_reducible repeat (first | apply zA | apply zN | apply zD)); exact Kd.R_mono HO243.out (fun _ hk => ⟨⟨hk.1.1.1, ⟨hk.1.1.2, hk.1.2⟩⟩, hk.2⟩)) hg hat); have n3_ := Aside0.mk (Kd.R_after (ok := (fun k_ => some k_ ≠ (.slice Ao128 y222.length co128 : Value).ownBlock ∧ some k_ ≠ (v233 : Value).ownBlock ∧ some k_ ≠ (.slice Ao136 y241.length co136 : Value).ownBlock)) (by (with_reducible repeat (first | apply zA | apply zN | apply zD)); exact HO246.out) hg hat); have n4_ := Aside0.mk (hb); have n5_ := Aside0.mk (ho); clear HO224; clear HO234; clear HO243; clear HO246; clear HB; clear HO249; have HO224 := n0_; have HO234 := n1_; have HO243 := n2_; have HO246 := n3_; have HB := n4_; have HO252 := n5_; clear n0_ n1_ n2_ n3_ n4_ n5_; clear ho hb hg hat) | ((with_reducible refine gate_dst (N := 83) rfl ?_); refine Kd.R_lit k32 _ 32 ?hg (N := 83) ?hd (xs := ([(⟨2, a3⟩ : S32)] : List (S32))) (inner := [.int .i64 2, .int .i64 a3]) (ok := fun _ => True) (okp := fun _ => True) ?hr ?hp (fun _ hk => hk) trivial (Below.refl _ _) (Nat.le_refl _) (by simp) ?_; (case hd => rfl); (case hg => rfl); (case hr => first | (go_simp; done) | (go_simp; rfl)); (case hp => exact (Reps.c2 (show Kd.M k32 _ _ _ (⟨2, a3⟩ : S32) [.int .i64 2, .int .i64 a3] from (k32_mkM _ _ _ (⟨2, a3⟩ : S32) )) (Reps.none _ _))); intro v254 w141 ho142 hb hg_ hnew_; clear hg_ hnew_; (first | rw [← Ny253.out] at ho142 | (simp only [Int.reduceToNat] at ho142; rw [← Ny253.out] at ho142)); have n0_ := Aside0.mk (Kd.R_elder' (by (with_reducible repeat (first | apply zA | apply zN | apply zD)); exact HO224.out) (Kd.R_base ho142) hb); have n1_ := Aside0.mk (Kd.R_elder' (by (with_reducible repeat (first | apply zA | apply zN | apply zD)); exact HO234.out) (Kd.R_base ho142) hb); have n2_ := Aside0.mk (Kd.R_elder' (by (with_reducible repeat (first | apply zA | apply zN | apply zD)); exact HO243.out) (Kd.R_base ho142) hb); have n3_ := Aside0.mk (Kd.R_elder' (by (with_reducible repeat (first | apply zA | apply zN | apply zD)); exact HO246.out) (Kd.R_base ho142) hb); have n4_ := Aside0.mk (Kd.R_elder' (by (with_reducible repeat (first | apply zA | apply zN | apply zD)); exact HO252.out) (Kd.R_base ho142) hb); have n5_ := Aside0.mk (Kd.R_lower (Kd.R_new' (Kd.R_new' (Kd.R_new' (Kd.R_new' (Kd.R_new' ho142 (Kd.R_lt (by (with_reducible repeat (first | apply zA | apply zN | apply zD)); exact HO224.out))) (Kd.R_lt (by (with_reducible repeat (first | apply zA | apply zN | apply zD)); exact HO234.out))) (Kd.R_lt (by (with_reducible repeat (first | apply zA | apply zN | apply zD)); exact HO243.out))) (Kd.R_lt (by (with_reducible repeat (first | apply zA | apply zN | apply zD)); exact HO246.out))) (Kd.R_lt (by (with_reducible repeat (first | apply zA | apply zN | apply zD)); exact HO252.out))) (below_size (by repeat (first | (with_reducible first | exact HB.out | apply bA | apply bN | apply bD) | exact HB.out)))); have n6_ := Aside0.mk (below_step (by repeat (first | (with_reducible first | exact HB.out | apply bA | apply bN | apply bD) | exact HB.out)) hb); clear HO224; clear HO234; clear HO243; clear HO246; clear HO252; clear HB; have HO224 := n0_; have HO234 := n1_; have HO243 := n2_; have HO246 := n3_; have HO252 := n4_; have HO255 := n5_; have HB := n6_; clear n0_ n1_ n2_ n3_ n4_ n5_ n6_; clear hb ho142; obtain ⟨Ao144, co144, eo144⟩ := Kd.R_slice HO255.out; subst eo144) | ((with_reducible refine gate_builtin (b := .append) (xs := #[.tmp 80, .tmp 83]) rfl ?_); at_builtin; refine Kd.R_append_rows k32 (w0 := w) w.heap.size rfl (.tmp 80) (.tmp 83) 29 32 (.agg #[(.int .i64 0), (.int .i64 0)]) 16 rfl Tryd.underlying29 info32 rfl (by decide) (by omega) v251 y250 y253 _ _ _ (fun k_ => some k_ ≠ (.slice Ao128 y222.length co128 : Value).ownBlock ∧ some k_ ≠ (v233 : Value).ownBlock ∧ some k_ ≠ (.slice Ao136 y241.length co136 : Value).ownBlock ∧ some k_ ≠ (.slice Ao140 y244.length co140 : Value).ownBlock ∧ some k_ ≠ (.slice Ao144 y253.length co144 : Value).ownBlock) (fun _ => False) rfl rfl ?aO ?aR (fun _ _ h => h) (fun _ h => h.elim) ?aF ?aB ?aS ?aL ?_; (case aR => repeat (first | exact (Kd.R_reads' HO255.out).2.2 | (with_reducible refine Kd.C_alloc ?_ _) | (with_reducible refine Kd.C_drewN ?_ _) | (with_reducible refine Kd.C_drew ?_))); (case aB => exact (by repeat (first | (with_reducible first | exact HB.out | apply bA | apply bN | apply bD) | exact HB.out))); (case aF => exact (fun k_ hk => ⟨Kd.fresh' (Kd.R_lt (by (with_reducible repeat (first | apply zA | apply zN | apply zD)); exact HO224.out)) k_ hk, Kd.fresh' (Kd.R_lt (by (with_reducible repeat (first | apply zA | apply zN | apply zD)); exact HO234.out)) k_ hk, Kd.fresh' (Kd.R_lt (by (with_reducible repeat (first | apply zA | apply zN | apply zD)); exact HO243.out)) k_ hk, Kd.fresh' (Kd.R_lt (by (with_reducible repeat (first | apply zA | apply zN | apply zD)); exact HO246.out)) k_ hk, Kd.fresh' (Kd.R_lt (by (with_reducible repeat (first | apply zA | apply zN | apply zD)); exact HO255.out)) k_ hk⟩)); (case aO => exact (by (with_reducible repeat (first | apply zA | apply zN | apply zD)); exact Kd.R_mono HO252.out (fun _ hk => ⟨hk.1.1, ⟨hk.1.2.1, ⟨hk.1.2.2.1, ⟨hk.1.2.2.2, hk.2⟩⟩⟩⟩))); (case aS => exact (below_size (by repeat (first | (with_reducible first | exact HB.out | apply bA | apply bN | apply bD) | exact HB.out)))); (case aL => have := LMc49.out; omega); intro v257 w143 ho hb hg hat; rw [← Ny256.out] at ho; have n0_ := Aside0.mk (Kd.R_after (ok := (fun k_ => some k_ ≠ (v233 : Value).ownBlock ∧ some k_ ≠ (.slice Ao136 y241.length co136 : Value).ownBlock ∧ some k_ ≠ (.slice Ao140 y244.length co140 : Value).ownBlock ∧ some k_ ≠ (.slice Ao144 y253.length co144 : Value).ownBlock)) (by (with_reducible repeat (first | apply zA | apply zN | apply zD)); exact Kd.R_mono HO224.out (fun _ hk => ⟨⟨hk.1.1.1, ⟨hk.1.1.2.1, ⟨hk.1.1.2.2, hk.2⟩⟩⟩, hk.1.2⟩)) hg hat); have n1_ := Aside0.mk (Kd.R_after (ok := (fun k_ => some k_ ≠ (.slice Ao128 y222.length co128 : Value).ownBlock ∧ some k_ ≠ (.slice Ao136 y241.length co136 : Value).ownBlock ∧ some k_ ≠ (.slice Ao140 y244.length co140 : Value).ownBlock ∧ some k_ ≠ (.slice Ao144 y253.length co144 : Value).ownBlock)) (by (with_reducible repeat (first | apply zA | apply zN | apply zD)); exact Kd.R_mono HO234.out (fun _ hk => ⟨⟨hk.1.1.1, ⟨hk.1.1.2.1, ⟨hk.1.1.2.2, hk.2⟩⟩⟩, hk.1.2⟩)) hg hat); have n2_ := Aside0.mk (Kd.R_after (ok := (fun k_ => some k_ ≠ (.slice Ao128 y222.length co128 : Value).ownBlock ∧ some k_ ≠ (v233 : Value).ownBlock ∧ some k_ ≠ (.slice Ao140 y244.length co140 : Value).ownBlock ∧ some k_ ≠ (.slice Ao144 y253.length co144 : Value).ownBlock)) (by (with_reducible repeat (first | apply zA | apply zN | apply zD)); exact Kd.R_mono HO243.out (fun _ hk => ⟨⟨hk.1.1.1, ⟨hk.1.1.2.1, ⟨hk.1.1.2.2, hk.2⟩⟩⟩, hk.1.2⟩)) hg hat); have n3_ := Aside0.mk (Kd.R_after (ok := (fun k_ => some k_ ≠ (.slice Ao128 y222.length co128 : Value).ownBlock ∧ some k_ ≠ (v233 : Value).ownBlock ∧ some k_ ≠ (.slice Ao136 y241.length co136 : Value).ownBlock ∧ some k_ ≠ (.slice Ao144 y253.length co144 : Value).ownBlock)) (by (with_reducible repeat (first | apply zA | apply zN | apply zD)); exact Kd.R_mono HO246.out (fun _ hk => ⟨⟨hk.1.1.1, ⟨hk.1.1.2.1, ⟨hk.1.1.2.2, hk.2⟩⟩⟩, hk.1.2⟩)) hg hat); have n4_ := Aside0.mk (Kd.R_after (ok := (fun k_ => some k_ ≠ (.slice Ao128 y222.length co128 : Value).ownBlock ∧ some k_ ≠ (v233 : Value).ownBlock ∧ some k_ ≠ (.slice Ao136 y241.length co136 : Value).ownBlock ∧ some k_ ≠ (.slice Ao140 y244.length co140 : Value).ownBlock)) (by (with_reducible repeat (first | apply zA | apply zN | apply zD)); exact Kd.R_mono HO255.out (fun _ hk => ⟨⟨hk.1.1.1.1.2, ⟨hk.1.1.1.2, ⟨hk.1.1.2, hk.1.2⟩⟩⟩, hk.2⟩)) hg hat); have n5_ := Aside0.mk (hb); have n6_ := Aside0.mk (ho); clear HO224; clear HO234; clear HO243; clear HO246; clear HO255; clear HB; clear HO252; have HO224 := n0_; have HO234 := n1_; have HO243 := n2_; have HO246 := n3_; have HO255 := n4_; have HB := n5_; have HO258 := n6_; clear n0_ n1_ n2_ n3_ n4_ n5_ n6_; clear ho hb hg hat; obtain ⟨Ao145, co145, eo145⟩ := Kd.R_slice HO234.out; subst eo145) | ((with_reducible refine gate_callee (f := 12) rfl ?_); refine goesL_ (some 86) rfl rfl Tryd.func12 (by kernel_rfl) rfl #[.slice Ao145 y232.length co145] rfl (by (try simp only [List.map_toArray, List.map_cons, List.map_nil]); first | done | rfl | (simp only [List.length_drop, List.length_take]; rfl)) ?_; (with_reducible refine (prog_Tidy.calls kj14 _ _ y232 t259 _ ?side1 ?side2 A50.out).mono ?_); (case side1 => repeat (first | exact (Kd.R_reads' HO234.out).2.2 | (with_reducible refine Kd.C_alloc ?_ _) | (with_reducible refine Kd.C_drewN ?_ _) | (with_reducible refine Kd.C_drew ?_))); (case side2 => exact (Kd.R_reads' HO234.out).2.1); rintro e w146 ⟨rfl, hb⟩; refine ⟨_, rfl, ?_⟩; have n0_ := Aside0.mk (Kd.R_below (by (with_reducible repeat (first | apply zA | apply zN | apply zD)); exact HO224.out) hb); have n1_ := Aside0.mk (Kd.R_below (by (with_reducible repeat (first | apply zA | apply zN | apply zD)); exact HO234.out) hb); have n2_ := Aside0.mk (Kd.R_below (by (with_reducible repeat (first | apply zA | apply zN | apply zD)); exact HO243.out) hb); have n3_ := Aside0.mk (Kd.R_below (by (with_reducible repeat (first | apply zA | apply zN | apply zD)); exact HO246.out) hb); have n4_ := Aside0.mk (Kd.R_below (by (with_reducible repeat (first | apply zA | apply zN | apply zD)); exact HO255.out) hb); have n5_ := Aside0.mk (Kd.R_below (by (with_reducible repeat (first | apply zA | apply zN | apply zD)); exact HO258.out) hb); have n6_ := Aside0.mk (below_step (by repeat (first | (with_reducible first | exact HB.out | apply bA | apply bN | apply bD) | exact HB.out)) hb); clear HO224; clear HO234; clear HO243; clear HO246; clear HO255; clear HO258; clear HB; have HO224 := n0_; have HO234 := n1_; have HO243 := n2_; have HO246 := n3_; have HO255 := n4_; have HO258 := n5_; have HB := n6_; clear n0_ n1_ n2_ n3_ n4_ n5_ n6_; (try clear hb); (try clear hb2); (try clear hk); (try clear hi)) | (go_at_call 12; (with_reducible refine (prog_Tidy.calls kj14 _ _ y244 false _ ?side1 ?side2 A52.out).mono ?_); (case side1 => repeat (first | exact (Kd.R_reads' HO246.out).2.2 | (with_reducible refine Kd.C_alloc ?_ _) | (with_reducible refine Kd.C_drewN ?_ _) | (with_reducible refine Kd.C_drew ?_))); (case side2 => exact (Kd.R_reads' HO246.out).2.1); rintro e w147 ⟨rfl, hb⟩; have n0_ := Aside0.mk (Kd.R_below (by (with_reducible repeat (first | apply zA | apply zN | apply zD)); exact HO224.out) hb); have n1_ := Aside0.mk (Kd.R_below (by (with_reducible repeat (first | apply zA | apply zN | apply zD)); exact HO234.out) hb); have n2_ := Aside0.mk (Kd.R_below (by (with_reducible repeat (first | apply zA | apply zN | apply zD)); exact HO243.out) hb); have n3_ := Aside0.mk (Kd.R_below (by (with_reducible repeat (first | apply zA | apply zN | apply zD)); exact HO246.out) hb); have n4_ := Aside0.mk (Kd.R_below (by (with_reducible repeat (first | apply zA | apply zN | apply zD)); exact HO255.out) hb); have n5_ := Aside0.mk (Kd.R_below (by (with_reducible repeat (first | apply zA | apply zN | apply zD)); exact HO258.out) hb); have n6_ := Aside0.mk (below_step (by repeat (first | (with_reducible first | exact HB.out | apply bA | apply bN | apply bD) | exact HB.out)) hb); clear HO224; clear HO234; clear HO243; clear HO246; clear HO255; clear HO258; clear HB; have HO224 := n0_; have HO234 := n1_; have HO243 := n2_; have HO246 := n3_; have HO255 := n4_; have HO258 := n5_; have HB := n6_; clear n0_ n1_ n2_ n3_ n4_ n5_ n6_; (try clear hb); (try clear hb2); (try clear hk); (try clear hi)))
        go_ret
        exact ⟨by first | rfl | (simp [errW_none, errW_some] <;> rfl) | (simp only [← hji5, ← hji8, ← hji38]; first | rfl | (simp [errW_none, errW_some] <;> rfl)) | (simp [*, errW_none, errW_some] <;> rfl), by repeat (first | (with_reducible first | exact HB.out | apply bA | apply bN | apply bD) | exact HB.out)⟩
     ·rw [if_neg c51] at H
      have c51b0 : (t259 == t207) = false := by simpa using c51
      (try (have c51b1 : decide (t259 = t207) = false := by simpa using c51))
      (try (have c51b2 : (t259 == t207) = false := by simpa using c51))
      (try (have c51b3 : ¬ (t259 = t207) := by simpa using c51))
      clear c51
      obtain rfl := Option.some.inj H
      try go_wp2
      have n0_ := Aside0.mk (below_drew1 HB.out)
      clear HB
      have HB := n0_
      clear n0_
      have q149 : ((ji38) : Int) ≤ ((y190.length : Int) : Int) := of_decide_eq_true (by first | (with_reducible assumption) | assumption)
      obtain ⟨i0149, hi0149, _, hsz149, _⟩ := info_parts info32
      have hroom149 : y190.length ≤ c0 := HC193.out
      have hC149 : Kd.C k32 _ A0 y190.length y190 := HR193.out
      have hcut149 := cut_to (P := Tryd.prog) 29 32 .i64 Tryd.underlying29 hi0149 A0 y190.length c0 (ji38) (of_decide_eq_true (by first | (with_reducible assumption) | assumption)) q149 hroom149
      have hr149 := Kd.C_take (m := ((ji38) : Int).toNat) hC149 (by omega)
      have hy149 : y215.length = ((ji38) : Int).toNat := (by rw [Ny215.out, List.length_take]; omega)
      rw [← Ny215.out] at hr149
      rw [← hy149] at hcut149
      have HR218 := Aside0.mk hr149
      have HC218 := Aside0.mk (show y215.length ≤ c0 from by omega)
      clear hr149 hC149 hroom149 hi0149 hsz149
      have KY149 := Aside0.mk hy149
      clear hy149
      replace q149 := eq_true q149
      have q150 : ((ji38) : Int) ≤ ((y190.length : Int) : Int) := of_decide_eq_true (by first | (with_reducible assumption) | assumption)
      obtain ⟨i0150, hi0150, _, hsz150, _⟩ := info_parts info32
      have hroom150 : y190.length ≤ c0 := HC193.out
      have hC150 : Kd.C k32 _ A0 y190.length y190 := HR193.out
      have q0150 : (0 : Int) ≤ ((ji38) : Int) := of_decide_eq_true (by first | (with_reducible assumption) | assumption)
      have hcut150 := cut_from (P := Tryd.prog) 29 32 .i64 Tryd.underlying29 hi0150 2 hsz150 A0 y190.length c0 (ji38) q0150 q150
      have hr150 := Kd.C_drop (m := ((ji38) : Int).toNat) (c := c0) hC150 (by omega) hroom150
      obtain ⟨A150, hA150⟩ : ∃ A1, A1 = (if c0 = ((ji38) : Int).toNat then A0 else (A0 : Option Addr).map (·.add (((ji38) : Int).toNat * 2))) := ⟨_, rfl⟩
      obtain ⟨c150, hc150⟩ : ∃ c1, c1 = c0 - ((ji38) : Int).toNat := ⟨_, rfl⟩
      have hy150 : y228.length = y190.length - ((ji38) : Int).toNat := (by rw [Ny228.out, List.length_drop] <;> omega)
      rw [show (y190).drop ((ji38) : Int).toNat = y228 from Ny228.out.symm] at hr150
      replace hr150 : Kd.C k32 _ A150 y228.length y228 := (by rw [hA150]; exact hr150)
      rw [← hy150, ← hA150, ← hc150] at hcut150
      have HR231 := Aside0.mk hr150
      have HC231 := Aside0.mk (show y228.length ≤ c150 from by rw [hy150, hc150]; exact Nat.sub_le_sub_right hroom150 _)
      clear hr150 hC150 hroom150 hi0150 hsz150 hc150
      have KY150 := Aside0.mk hy150
      have KA150 := Aside0.mk hA150
      clear hy150 hA150
      replace q150 := eq_true q150
      refine start_ (n := 14) (S := fun w' => True) (ds := []) #[false, false, false, false, false, false, false, false, false, false, false, false, false, false] (by kernel_rfl) rfl rfl trivial (fun hHeld => ?_); refine with_tabW deadboltlaw12_ProgTidy.tab7 deadboltlaw12_ProgTidy.bits7 (fun HT_ HW_ => ?_)
      generalize wc.drew = w148 at HB HR218 HR231 hHeld ⊢
      refine pure_ (i := 1) (N := some 59) (v := ?_) (a' := ?_) #[false, true, false, false, false, false, false, false, false, false, false, false, false, false] rfl rfl (any_of HT_.out (by kernel_rfl)) (fun _ _ _ h => h) (Or.inl ⟨by rfl, ?_⟩) ?_ ?_
      rotate_left
      ·intro w'
       go_simp
       with_reducible rfl
      rotate_left
      ·simp only [Act.put, List.setIfInBounds_toArray, List.set_cons_zero, List.set_cons_succ, i64_w, i32_w]
       rfl
      refine pure_ (i := 2) (N := some 60) (v := ?_) (a' := ?_) #[false, true, true, false, false, false, false, false, false, false, false, false, false, false] rfl rfl (any_of HT_.out (by kernel_rfl)) (fun _ _ _ h => h) (Or.inl ⟨by rfl, ?_⟩) ?_ ?_
      rotate_left
      ·intro w'
       go_simp
       with_reducible rfl
      rotate_left
      ·simp only [Act.put, List.setIfInBounds_toArray, List.set_cons_zero, List.set_cons_succ, i64_w, i32_w]
       rfl
      refine pure_ (i := 3) (N := some 61) (v := ?_) (a' := ?_) #[false, true, true, true, false, false, false, false, false, false, false, false, false, false] rfl rfl (any_of HT_.out (by kernel_rfl)) (fun _ _ _ h => h) (Or.inl ⟨by rfl, ?_⟩) ?_ ?_
      rotate_left
      ·intro w'
       go_simp
       with_reducible rfl
      rotate_left
      ·simp only [Act.put, List.setIfInBounds_toArray, List.set_cons_zero, List.set_cons_succ, i64_w, i32_w]
       rfl
      refine pure_ (i := 5) (N := some 63) (v := ?_) (a' := ?_) #[false, true, true, true, false, true, false, false, false, false, false, false, false, false] rfl rfl (any_of HT_.out (by kernel_rfl)) (fun _ _ _ h => h) (Or.inl ⟨by rfl, ?_⟩) ?_ ?_
      rotate_left
      ·intro w'
       go_simp
       with_reducible rfl
      rotate_left
      ·simp only [Act.put, List.setIfInBounds_toArray, List.set_cons_zero, List.set_cons_succ, i64_w, i32_w]
       rfl
      refine pure_ (i := 6) (N := some 64) (v := ?_) (a' := ?_) #[false, true, true, true, false, true, true, false, false, false, false, false, false, false] rfl rfl (any_of HT_.out (by kernel_rfl)) (fun _ _ _ h => h) (Or.inl ⟨by rfl, ?_⟩) ?_ ?_
      rotate_left
      ·intro w'
       go_simp
       with_reducible rfl
      rotate_left
      ·simp only [Act.put, List.setIfInBounds_toArray, List.set_cons_zero, List.set_cons_succ, i64_w, i32_w]
       rfl
      refine pure_ (i := 9) (N := some 67) (v := ?_) (a' := ?_) #[false, true, true, true, false, true, true, false, false, true, false, false, false, false] rfl rfl (any_of HT_.out (by kernel_rfl)) (fun _ _ _ h => h) (Or.inl ⟨by rfl, ?_⟩) ?_ ?_
      rotate_left
      ·intro w'
       go_simp
       with_reducible rfl
      rotate_left
      ·simp only [Act.put, List.setIfInBounds_toArray, List.set_cons_zero, List.set_cons_succ, i64_w, i32_w]
       rfl
      refine pure_ (i := 10) (N := some 68) (v := ?_) (a' := ?_) #[false, true, true, true, false, true, true, false, false, true, true, false, false, false] rfl rfl (any_of HT_.out (by kernel_rfl)) (fun _ _ _ h => h) (Or.inl ⟨by rfl, ?_⟩) ?_ ?_
      rotate_left
      ·intro w'
       go_simp
       with_reducible rfl
      rotate_left
      ·simp only [Act.put, List.setIfInBounds_toArray, List.set_cons_zero, List.set_cons_succ, i64_w, i32_w]
       rfl
      refine pure_ (i := 11) (N := some 69) (v := ?_) (a' := ?_) #[false, true, true, true, false, true, true, false, false, true, true, true, false, false] rfl rfl (any_of HT_.out (by kernel_rfl)) (fun _ _ _ h => h) (Or.inl ⟨by rfl, ?_⟩) ?_ ?_
      rotate_left
      ·intro w'
       go_simp
       with_reducible rfl
      rotate_left
      ·simp only [Act.put, List.setIfInBounds_toArray, List.set_cons_zero, List.set_cons_succ, i64_w, i32_w]
       rfl
      refine join_ (σ := Value × Value × Value) 3 #[true, true, true, true, true, true, true, true, false, true, true, true, false, false] (fun s_ => [(58, s_.1), (62, s_.2.1), (65, s_.2.2)]) (fun s_ w' => (Kd.R k32 32 w' w.heap.size (fun k_ => some k_ ≠ (s_.2.2 : Value).ownBlock) s_.2.1 y219) ∧ (Kd.R k32 32 w' w.heap.size (fun k_ => some k_ ≠ (s_.2.1 : Value).ownBlock) s_.2.2 y222) ∧ (Below w.heap.size w w')) ?_ ?_
      rotate_left
      ·intro hCont
       refine two_ (i := 0) (j := 7) (Ni := some 58) (Nj := some 65) #[true, true, true, true, false, true, true, false, false, true, true, true, false, false] #[false, true, true, true, false, true, true, true, false, true, true, true, false, false] rfl rfl rfl rfl (two_of HT_.out (by kernel_rfl)) (by decide) (by decide) (fun K hK => ?_) (fun K hK => ?_)
       ·skip
        refine Kd.R_lit_step k32 _ 32 ?hg (N := 58) ?hd (xs := ([] : List (S32))) (inner := []) (ok := fun _ => True) (okp := fun _ => True) ?hr ?hp (fun _ hk => hk) trivial (Below.refl _ _) (Nat.le_refl _) (by simp) ?_; (case hd => rfl); (case hg => rfl); (case hr => first | (go_simp; done) | (go_simp; rfl)); (case hp => exact (Reps.none _ _))
        intro v213 w151 ho152 hb hg_ hnew_
        clear hg_ hnew_
        (first | rw [← Ny212.out] at ho152 | (simp only [Int.reduceToNat] at ho152; rw [← Ny212.out] at ho152))
        have n0_ := Aside0.mk (Kd.R_lower ho152 (below_size (by repeat (first | (with_reducible first | exact HB.out | apply bA | apply bN | apply bD) | exact HB.out))))
        have n1_ := Aside0.mk (below_step (by repeat (first | (with_reducible first | exact HB.out | apply bA | apply bN | apply bD) | exact HB.out)) hb)
        clear HB
        have HO214 := n0_
        have HB := n1_
        clear n0_ n1_
        clear hb ho152
        refine hK.out _ _ trivial (fun hHeld => ?_)
        clear hK K
        refine norm_ (a' := ?_) ?_ ?_
        rotate_left
        ·show Act.put _ (some 58) _ = _
         simp only [Act.put, List.setIfInBounds_toArray, List.set_cons_zero, List.set_cons_succ, i64_w, i32_w]
         rfl
        refine two_ (i := 4) (j := 7) (Ni := some 62) (Nj := some 65) #[true, true, true, true, true, true, true, false, false, true, true, true, false, false] #[true, true, true, true, false, true, true, true, false, true, true, true, false, false] rfl rfl rfl rfl (two_of HT_.out (by kernel_rfl)) (by decide) (by decide) (fun K hK => ?_) (fun K hK => ?_)
        ·skip
         refine Kd.R_append_rows_step k32 (w0 := w) w.heap.size (by rfl) (.tmp 58) (.tmp 61) 29 32 (.agg #[(.int .i64 0), (.int .i64 0)]) 16 rfl Tryd.underlying29 info32 rfl (by decide) (by omega) v213 y212 y215 _ _ _ (fun _ => True) (fun _ => False) rfl rfl ?aO ?aR (fun _ _ h => h) (fun _ h => h.elim) ?aF ?aB ?aS ?aL ?_
         (case aR => repeat (first | exact (Kd.C_below HR218.out HB.out) | (with_reducible refine Kd.C_alloc ?_ _) | (with_reducible refine Kd.C_drewN ?_ _) | (with_reducible refine Kd.C_drew ?_)))
         (case aB => exact (by repeat (first | (with_reducible first | exact HB.out | apply bA | apply bN | apply bD) | exact HB.out)))
         (case aF => exact (fun _ _ => trivial))
         (case aO => exact (by (with_reducible repeat (first | apply zA | apply zN | apply zD)); exact HO214.out))
         (case aS => exact (below_size (by repeat (first | (with_reducible first | exact HB.out | apply bA | apply bN | apply bD) | exact HB.out))))
         (case aL => have := LMc41.out; omega)
         intro v220 w153 ho hb hg hat
         rw [← Ny219.out] at ho
         have n0_ := Aside0.mk (hb)
         have n1_ := Aside0.mk (ho)
         clear HB
         clear HO214
         have HB := n0_
         have HO221 := n1_
         clear n0_ n1_
         clear ho hb hg hat
         refine hK.out _ _ trivial (fun hHeld => ?_)
         clear hK K
         refine norm_ (a' := ?_) ?_ ?_
         rotate_left
         ·show Act.put _ (some 62) _ = _
          simp only [Act.put, List.setIfInBounds_toArray, List.set_cons_zero, List.set_cons_succ, i64_w, i32_w]
          rfl
         refine one_ (i := 7) (N := some 65) #[true, true, true, true, true, true, true, true, false, true, true, true, false, false] rfl rfl (one_of HT_.out (by kernel_rfl)) (by decide) (fun K hK => ?_)
         refine Kd.R_lit_step k32 _ 32 ?hg (N := 65) ?hd (xs := ([(⟨3, a3⟩ : S32)] : List (S32))) (inner := [.int .i64 3, .int .i64 a3]) (ok := fun _ => True) (okp := fun _ => True) ?hr ?hp (fun _ hk => hk) trivial (Below.refl _ _) (Nat.le_refl _) (by simp) ?_; (case hd => rfl); (case hg => rfl); (case hr => first | (go_simp; done) | (go_simp; rfl)); (case hp => exact (Reps.c2 (show Kd.M k32 _ _ _ (⟨3, a3⟩ : S32) [.int .i64 3, .int .i64 a3] from (k32_mkM _ _ _ (⟨3, a3⟩ : S32) )) (Reps.none _ _)))
         intro v223 w154 ho155 hb hg_ hnew_
         clear hg_ hnew_
         (first | rw [← Ny222.out] at ho155 | (simp only [Int.reduceToNat] at ho155; rw [← Ny222.out] at ho155))
         have n0_ := Aside0.mk (Kd.R_elder' (by (with_reducible repeat (first | apply zA | apply zN | apply zD)); exact HO221.out) (Kd.R_base ho155) hb)
         have n1_ := Aside0.mk (Kd.R_lower (Kd.R_new' ho155 (Kd.R_lt (by (with_reducible repeat (first | apply zA | apply zN | apply zD)); exact HO221.out))) (below_size (by repeat (first | (with_reducible first | exact HB.out | apply bA | apply bN | apply bD) | exact HB.out))))
         have n2_ := Aside0.mk (below_step (by repeat (first | (with_reducible first | exact HB.out | apply bA | apply bN | apply bD) | exact HB.out)) hb)
         clear HO221
         clear HB
         have HO221 := n0_
         have HO224 := n1_
         have HB := n2_
         clear n0_ n1_ n2_
         clear hb ho155
         refine hK.out _ _ trivial (fun hHeld => ?_)
         clear hK K
         refine norm_ (a' := ?_) ?_ ?_
         rotate_left
         ·show Act.put _ (some 65) _ = _
          simp only [Act.put, List.setIfInBounds_toArray, List.set_cons_zero, List.set_cons_succ, i64_w, i32_w]
          rfl
         exact norm_ (by simp only [putAll, Act.put, List.setIfInBounds_toArray, List.set_cons_zero, List.set_cons_succ]) (hCont (v213, v220, v223) _ ⟨(by (with_reducible repeat (first | apply zA | apply zN | apply zD)); exact Kd.R_mono HO221.out (fun _ hk => hk.2)), (by (with_reducible repeat (first | apply zA | apply zN | apply zD)); exact Kd.R_mono HO224.out (fun _ hk => hk.2)), (by repeat (first | (with_reducible first | exact HB.out | apply bA | apply bN | apply bD) | exact HB.out))⟩)
        ·skip
         refine Kd.R_lit_step k32 _ 32 ?hg (N := 65) ?hd (xs := ([(⟨3, a3⟩ : S32)] : List (S32))) (inner := [.int .i64 3, .int .i64 a3]) (ok := fun _ => True) (okp := fun _ => True) ?hr ?hp (fun _ hk => hk) trivial (Below.refl _ _) (Nat.le_refl _) (by simp) ?_; (case hd => rfl); (case hg => rfl); (case hr => first | (go_simp; done) | (go_simp; rfl)); (case hp => exact (Reps.c2 (show Kd.M k32 _ _ _ (⟨3, a3⟩ : S32) [.int .i64 3, .int .i64 a3] from (k32_mkM _ _ _ (⟨3, a3⟩ : S32) )) (Reps.none _ _)))
         intro v223 w153 ho154 hb hg_ hnew_
         clear hg_ hnew_
         (first | rw [← Ny222.out] at ho154 | (simp only [Int.reduceToNat] at ho154; rw [← Ny222.out] at ho154))
         have n0_ := Aside0.mk (Kd.R_elder' (by (with_reducible repeat (first | apply zA | apply zN | apply zD)); exact HO214.out) (Kd.R_base ho154) hb)
         have n1_ := Aside0.mk (Kd.R_lower (Kd.R_new' ho154 (Kd.R_lt (by (with_reducible repeat (first | apply zA | apply zN | apply zD)); exact HO214.out))) (below_size (by repeat (first | (with_reducible first | exact HB.out | apply bA | apply bN | apply bD) | exact HB.out))))
         have n2_ := Aside0.mk (below_step (by repeat (first | (with_reducible first | exact HB.out | apply bA | apply bN | apply bD) | exact HB.out)) hb)
         clear HO214
         clear HB
         have HO214 := n0_
         have HO224 := n1_
         have HB := n2_
         clear n0_ n1_ n2_
         clear hb ho154
         refine hK.out _ _ trivial (fun hHeld => ?_)
         clear hK K
         refine norm_ (a' := ?_) ?_ ?_
         rotate_left
         ·show Act.put _ (some 65) _ = _
          simp only [Act.put, List.setIfInBounds_toArray, List.set_cons_zero, List.set_cons_succ, i64_w, i32_w]
          rfl
         refine one_ (i := 4) (N := some 62) #[true, true, true, true, true, true, true, true, false, true, true, true, false, false] rfl rfl (one_of HT_.out (by kernel_rfl)) (by decide) (fun K hK => ?_)
         refine Kd.R_append_rows_step k32 (w0 := w) w.heap.size (by rfl) (.tmp 58) (.tmp 61) 29 32 (.agg #[(.int .i64 0), (.int .i64 0)]) 16 rfl Tryd.underlying29 info32 rfl (by decide) (by omega) v213 y212 y215 _ _ _ (fun k_ => some k_ ≠ (v223 : Value).ownBlock) (fun _ => False) rfl rfl ?aO ?aR (fun _ _ h => h) (fun _ h => h.elim) ?aF ?aB ?aS ?aL ?_
         (case aR => repeat (first | exact (Kd.C_below HR218.out HB.out) | (with_reducible refine Kd.C_alloc ?_ _) | (with_reducible refine Kd.C_drewN ?_ _) | (with_reducible refine Kd.C_drew ?_)))
         (case aB => exact (by repeat (first | (with_reducible first | exact HB.out | apply bA | apply bN | apply bD) | exact HB.out)))
         (case aF => exact (fun k_ hk => Kd.fresh' (Kd.R_lt (by (with_reducible repeat (first | apply zA | apply zN | apply zD)); exact HO224.out)) k_ hk))
         (case aO => exact (by (with_reducible repeat (first | apply zA | apply zN | apply zD)); exact Kd.R_mono HO214.out (fun _ hk => hk.2)))
         (case aS => exact (below_size (by repeat (first | (with_reducible first | exact HB.out | apply bA | apply bN | apply bD) | exact HB.out))))
         (case aL => have := LMc41.out; omega)
         intro v220 w155 ho hb hg hat
         rw [← Ny219.out] at ho
         have n0_ := Aside0.mk (Kd.R_after (ok := (fun _ => True)) (by (with_reducible repeat (first | apply zA | apply zN | apply zD)); exact HO224.out) hg hat)
         have n1_ := Aside0.mk (hb)
         have n2_ := Aside0.mk (ho)
         clear HO224
         clear HB
         clear HO214
         have HO224 := n0_
         have HB := n1_
         have HO221 := n2_
         clear n0_ n1_ n2_
         clear ho hb hg hat
         refine hK.out _ _ trivial (fun hHeld => ?_)
         clear hK K
         refine norm_ (a' := ?_) ?_ ?_
         rotate_left
         ·show Act.put _ (some 62) _ = _
          simp only [Act.put, List.setIfInBounds_toArray, List.set_cons_zero, List.set_cons_succ, i64_w, i32_w]
          rfl
         exact norm_ (by simp only [putAll, Act.put, List.setIfInBounds_toArray, List.set_cons_zero, List.set_cons_succ]) (hCont (v213, v220, v223) _ ⟨(by (with_reducible repeat (first | apply zA | apply zN | apply zD)); exact HO221.out), (by (with_reducible repeat (first | apply zA | apply zN | apply zD)); exact Kd.R_mono HO224.out (fun _ hk => hk.2)), (by repeat (first | (with_reducible first | exact HB.out | apply bA | apply bN | apply bD) | exact HB.out))⟩)
       ·skip
        refine Kd.R_lit_step k32 _ 32 ?hg (N := 65) ?hd (xs := ([(⟨3, a3⟩ : S32)] : List (S32))) (inner := [.int .i64 3, .int .i64 a3]) (ok := fun _ => True) (okp := fun _ => True) ?hr ?hp (fun _ hk => hk) trivial (Below.refl _ _) (Nat.le_refl _) (by simp) ?_; (case hd => rfl); (case hg => rfl); (case hr => first | (go_simp; done) | (go_simp; rfl)); (case hp => exact (Reps.c2 (show Kd.M k32 _ _ _ (⟨3, a3⟩ : S32) [.int .i64 3, .int .i64 a3] from (k32_mkM _ _ _ (⟨3, a3⟩ : S32) )) (Reps.none _ _)))
        intro v223 w151 ho152 hb hg_ hnew_
        clear hg_ hnew_
        (first | rw [← Ny222.out] at ho152 | (simp only [Int.reduceToNat] at ho152; rw [← Ny222.out] at ho152))
        have n0_ := Aside0.mk (Kd.R_lower ho152 (below_size (by repeat (first | (with_reducible first | exact HB.out | apply bA | apply bN | apply bD) | exact HB.out))))
        have n1_ := Aside0.mk (below_step (by repeat (first | (with_reducible first | exact HB.out | apply bA | apply bN | apply bD) | exact HB.out)) hb)
        clear HB
        have HO224 := n0_
        have HB := n1_
        clear n0_ n1_
        clear hb ho152
        refine hK.out _ _ trivial (fun hHeld => ?_)
        clear hK K
        refine norm_ (a' := ?_) ?_ ?_
        rotate_left
        ·show Act.put _ (some 65) _ = _
         simp only [Act.put, List.setIfInBounds_toArray, List.set_cons_zero, List.set_cons_succ, i64_w, i32_w]
         rfl
        refine one_ (i := 0) (N := some 58) #[true, true, true, true, false, true, true, true, false, true, true, true, false, false] rfl rfl (one_of HT_.out (by kernel_rfl)) (by decide) (fun K hK => ?_)
        refine Kd.R_lit_step k32 _ 32 ?hg (N := 58) ?hd (xs := ([] : List (S32))) (inner := []) (ok := fun _ => True) (okp := fun _ => True) ?hr ?hp (fun _ hk => hk) trivial (Below.refl _ _) (Nat.le_refl _) (by simp) ?_; (case hd => rfl); (case hg => rfl); (case hr => first | (go_simp; done) | (go_simp; rfl)); (case hp => exact (Reps.none _ _))
        intro v213 w153 ho154 hb hg_ hnew_
        clear hg_ hnew_
        (first | rw [← Ny212.out] at ho154 | (simp only [Int.reduceToNat] at ho154; rw [← Ny212.out] at ho154))
        have n0_ := Aside0.mk (Kd.R_elder' (by (with_reducible repeat (first | apply zA | apply zN | apply zD)); exact HO224.out) (Kd.R_base ho154) hb)
        have n1_ := Aside0.mk (Kd.R_lower (Kd.R_new' ho154 (Kd.R_lt (by (with_reducible repeat (first | apply zA | apply zN | apply zD)); exact HO224.out))) (below_size (by repeat (first | (with_reducible first | exact HB.out | apply bA | apply bN | apply bD) | exact HB.out))))
        have n2_ := Aside0.mk (below_step (by repeat (first | (with_reducible first | exact HB.out | apply bA | apply bN | apply bD) | exact HB.out)) hb)
        clear HO224
        clear HB
        have HO224 := n0_
        have HO214 := n1_
        have HB := n2_
        clear n0_ n1_ n2_
        clear hb ho154
        refine hK.out _ _ trivial (fun hHeld => ?_)
        clear hK K
        refine norm_ (a' := ?_) ?_ ?_
        rotate_left
        ·show Act.put _ (some 58) _ = _
         simp only [Act.put, List.setIfInBounds_toArray, List.set_cons_zero, List.set_cons_succ, i64_w, i32_w]
         rfl
        refine one_ (i := 4) (N := some 62) #[true, true, true, true, true, true, true, true, false, true, true, true, false, false] rfl rfl (one_of HT_.out (by kernel_rfl)) (by decide) (fun K hK => ?_)
        refine Kd.R_append_rows_step k32 (w0 := w) w.heap.size (by rfl) (.tmp 58) (.tmp 61) 29 32 (.agg #[(.int .i64 0), (.int .i64 0)]) 16 rfl Tryd.underlying29 info32 rfl (by decide) (by omega) v213 y212 y215 _ _ _ (fun k_ => some k_ ≠ (v223 : Value).ownBlock) (fun _ => False) rfl rfl ?aO ?aR (fun _ _ h => h) (fun _ h => h.elim) ?aF ?aB ?aS ?aL ?_
        (case aR => repeat (first | exact (Kd.C_below HR218.out HB.out) | (with_reducible refine Kd.C_alloc ?_ _) | (with_reducible refine Kd.C_drewN ?_ _) | (with_reducible refine Kd.C_drew ?_)))
        (case aB => exact (by repeat (first | (with_reducible first | exact HB.out | apply bA | apply bN | apply bD) | exact HB.out)))
        (case aF => exact (fun k_ hk => Kd.fresh' (Kd.R_lt (by (with_reducible repeat (first | apply zA | apply zN | apply zD)); exact HO224.out)) k_ hk))
        (case aO => exact (by (with_reducible repeat (first | apply zA | apply zN | apply zD)); exact Kd.R_mono HO214.out (fun _ hk => hk.2)))
        (case aS => exact (below_size (by repeat (first | (with_reducible first | exact HB.out | apply bA | apply bN | apply bD) | exact HB.out))))
        (case aL => have := LMc41.out; omega)
        intro v220 w155 ho hb hg hat
        rw [← Ny219.out] at ho
        have n0_ := Aside0.mk (Kd.R_after (ok := (fun _ => True)) (by (with_reducible repeat (first | apply zA | apply zN | apply zD)); exact HO224.out) hg hat)
        have n1_ := Aside0.mk (hb)
        have n2_ := Aside0.mk (ho)
        clear HO224
        clear HB
        clear HO214
        have HO224 := n0_
        have HB := n1_
        have HO221 := n2_
        clear n0_ n1_ n2_
        clear ho hb hg hat
        refine hK.out _ _ trivial (fun hHeld => ?_)
        clear hK K
        refine norm_ (a' := ?_) ?_ ?_
        rotate_left
        ·show Act.put _ (some 62) _ = _
         simp only [Act.put, List.setIfInBounds_toArray, List.set_cons_zero, List.set_cons_succ, i64_w, i32_w]
         rfl
        exact norm_ (by simp only [putAll, Act.put, List.setIfInBounds_toArray, List.set_cons_zero, List.set_cons_succ]) (hCont (v213, v220, v223) _ ⟨(by (with_reducible repeat (first | apply zA | apply zN | apply zD)); exact HO221.out), (by (with_reducible repeat (first | apply zA | apply zN | apply zD)); exact Kd.R_mono HO224.out (fun _ hk => hk.2)), (by repeat (first | (with_reducible first | exact HB.out | apply bA | apply bN | apply bD) | exact HB.out))⟩)
      rintro ⟨v213, v220, v223⟩ w156 ⟨h0_, h1_, h2_⟩
      have n0_ : Aside0 (Kd.R k32 32 w156 w.heap.size (fun k_ => some k_ ≠ (v223 : Value).ownBlock) v220 y219) := ⟨h0_⟩
      have n1_ : Aside0 (Kd.R k32 32 w156 w.heap.size (fun k_ => some k_ ≠ (v220 : Value).ownBlock) v223 y222) := ⟨h1_⟩
      have n2_ : Aside0 (Below w.heap.size w w156) := ⟨h2_⟩
      clear HB
      clear h0_ h1_ h2_
      have HO221 := n0_
      have HO224 := n1_
      have HB := n2_
      clear n0_ n1_ n2_
      have hHeld := trivial
      obtain ⟨Ao158, co158, eo158⟩ := Kd.R_slice HO224.out
      (first | subst eo158 | (injection eo158 with f1_ f2_ f3_; have f4_ := f1_.symm; have f5_ := f3_.symm; clear f1_ f2_ f3_; subst f4_; subst f5_))
      refine norm_ (a' := ?_) ?_ ?_
      rotate_left
      ·simp only [putAll, Act.put, List.setIfInBounds_toArray, List.set_cons_zero, List.set_cons_succ]
       rfl
      refine one_ (i := 8) (N := some 66) #[true, true, true, true, true, true, true, true, true, true, true, true, false, false] rfl rfl (one_of HT_.out (by kernel_rfl)) (by decide) (fun K hK => ?_)
      refine Kd.R_append_rows_step k32 (w0 := w) w.heap.size (by rfl) (.tmp 62) (.tmp 65) 29 32 (.agg #[(.int .i64 0), (.int .i64 0)]) 16 rfl Tryd.underlying29 info32 rfl (by decide) (by omega) v220 y219 y222 _ _ _ (fun k_ => some k_ ≠ (.slice Ao158 y222.length co158 : Value).ownBlock) (fun _ => False) rfl rfl ?aO ?aR (fun _ _ h => h) (fun _ h => h.elim) ?aF ?aB ?aS ?aL ?_
      (case aR => repeat (first | exact (Kd.R_reads' HO224.out).2.2 | (with_reducible refine Kd.C_alloc ?_ _) | (with_reducible refine Kd.C_drewN ?_ _) | (with_reducible refine Kd.C_drew ?_)))
      (case aB => exact (by repeat (first | (with_reducible first | exact HB.out | apply bA | apply bN | apply bD) | exact HB.out)))
      (case aF => exact (fun k_ hk => Kd.fresh' (Kd.R_lt (by (with_reducible repeat (first | apply zA | apply zN | apply zD)); exact HO224.out)) k_ hk))
      (case aO => exact (by (with_reducible repeat (first | apply zA | apply zN | apply zD)); exact HO221.out))
      (case aS => exact (below_size (by repeat (first | (with_reducible first | exact HB.out | apply bA | apply bN | apply bD) | exact HB.out))))
      (case aL => have := LMc42.out; omega)
      intro v226 w157 ho hb hg hat
      rw [← Ny225.out] at ho
      have n0_ := Aside0.mk (Kd.R_after (ok := (fun _ => True)) (by (with_reducible repeat (first | apply zA | apply zN | apply zD)); exact Kd.R_mono HO224.out (fun _ hk => ⟨trivial, hk⟩)) hg hat)
      have n1_ := Aside0.mk (hb)
      have n2_ := Aside0.mk (ho)
      clear HO224
      clear HB
      clear HO221
      have HO224 := n0_
      have HB := n1_
      have HO227 := n2_
      clear n0_ n1_ n2_
      clear ho hb hg hat
      refine hK.out _ _ trivial (fun hHeld => ?_)
      clear hK K
      refine norm_ (a' := ?_) ?_ ?_
      rotate_left
      ·show Act.put _ (some 66) _ = _
       simp only [Act.put, List.setIfInBounds_toArray, List.set_cons_zero, List.set_cons_succ, i64_w, i32_w]
       rfl
      refine one_ (i := 12) (N := some 70) #[true, true, true, true, true, true, true, true, true, true, true, true, true, false] rfl rfl (one_of HT_.out (by kernel_rfl)) (by decide) (fun K hK => ?_)
      refine Kd.R_append_rows_step k32 (w0 := w) w.heap.size (by rfl) (.tmp 66) (.tmp 69) 29 32 (.agg #[(.int .i64 0), (.int .i64 0)]) 16 rfl Tryd.underlying29 info32 rfl (by decide) (by omega) v226 y225 y228 _ _ _ (fun k_ => some k_ ≠ (.slice Ao158 y222.length co158 : Value).ownBlock) (fun _ => False) rfl rfl ?aO ?aR (fun _ _ h => h) (fun _ h => h.elim) ?aF ?aB ?aS ?aL ?_
      (case aR => repeat (first | exact (Kd.C_below HR231.out HB.out) | (with_reducible refine Kd.C_alloc ?_ _) | (with_reducible refine Kd.C_drewN ?_ _) | (with_reducible refine Kd.C_drew ?_)))
      (case aB => exact (by repeat (first | (with_reducible first | exact HB.out | apply bA | apply bN | apply bD) | exact HB.out)))
      (case aF => exact (fun k_ hk => Kd.fresh' (Kd.R_lt (by (with_reducible repeat (first | apply zA | apply zN | apply zD)); exact HO224.out)) k_ hk))
      (case aO => exact (by (with_reducible repeat (first | apply zA | apply zN | apply zD)); exact HO227.out))
      (case aS => exact (below_size (by repeat (first | (with_reducible first | exact HB.out | apply bA | apply bN | apply bD) | exact HB.out))))
      (case aL => have := LMc45.out; omega)
      intro v233 w159 ho hb hg hat
      rw [← Ny232.out] at ho
      have n0_ := Aside0.mk (Kd.R_after (ok := (fun _ => True)) (by (with_reducible repeat (first | apply zA | apply zN | apply zD)); exact HO224.out) hg hat)
      have n1_ := Aside0.mk (hb)
      have n2_ := Aside0.mk (ho)
      clear HO224
      clear HB
      clear HO227
      have HO224 := n0_
      have HB := n1_
      have HO234 := n2_
      clear n0_ n1_ n2_
      clear ho hb hg hat
      refine hK.out _ _ trivial (fun hHeld => ?_)
      clear hK K
      refine norm_ (a' := ?_) ?_ ?_
      rotate_left
      ·show Act.put _ (some 70) _ = _
       simp only [Act.put, List.setIfInBounds_toArray, List.set_cons_zero, List.set_cons_succ, i64_w, i32_w]
       rfl
      refine pure_ (i := 13) (N := some 12) (v := ?_) (a' := ?_) #[true, true, true, true, true, true, true, true, true, true, true, true, true, true] rfl rfl (any_of HT_.out (by kernel_rfl)) (fun _ _ _ h => h) (Or.inl ⟨by rfl, ?_⟩) ?_ ?_
      rotate_left
      ·intro w'
       go_simp
       with_reducible rfl
      rotate_left
      ·simp only [Act.put, List.setIfInBounds_toArray, List.set_cons_zero, List.set_cons_succ, i64_w, i32_w]
       rfl
      refine done_ (done_of HT_.out (by kernel_rfl)) ?_
      try go_wp2_with (first | ((with_reducible refine gate_dst (N := 71) rfl ?_); refine Kd.R_lit k32 _ 32 ?hg (N := 71) ?hd (xs := ([] : List (S32))) (inner := []) (ok := fun _ => True) (okp := fun _ => True) ?hr ?hp (fun _ hk => hk) trivial (Below.refl _ _) (Nat.le_refl _) (by simp) ?_; (case hd => rfl); (case hg => rfl); (case hr => first | (go_simp; done) | (go_simp; rfl)); (case hp => exact (Reps.none _ _)); intro v236 w160 ho161 hb hg_ hnew_; clear hg_ hnew_; (first | rw [← Ny235.out] at ho161 | (simp only [Int.reduceToNat] at ho161; rw [← Ny235.out] at ho161)); have n0_ := Aside0.mk (Kd.R_elder' (by (with_reducible repeat (first | apply zA | apply zN | apply zD)); exact HO224.out) (Kd.R_base ho161) hb); have n1_ := Aside0.mk (Kd.R_elder' (by (with_reducible repeat (first | apply zA | apply zN | apply zD)); exact HO234.out) (Kd.R_base ho161) hb); have n2_ := Aside0.mk (Kd.R_lower (Kd.R_new' (Kd.R_new' ho161 (Kd.R_lt (by (with_reducible repeat (first | apply zA | apply zN | apply zD)); exact HO224.out))) (Kd.R_lt (by (with_reducible repeat (first | apply zA | apply zN | apply zD)); exact HO234.out))) (below_size (by repeat (first | (with_reducible first | exact HB.out | apply bA | apply bN | apply bD) | exact HB.out)))); have n3_ := Aside0.mk (below_step (by repeat (first | (with_reducible first | exact HB.out | apply bA | apply bN | apply bD) | exact HB.out)) hb); clear HO224; clear HO234; clear HB; have HO224 := n0_; have HO234 := n1_; have HO237 := n2_; have HB := n3_; clear n0_ n1_ n2_ n3_; clear hb ho161) | ((with_reducible refine gate_builtin (b := .append) (xs := #[.tmp 71, .tmp 72]) rfl ?_); at_builtin; refine Kd.R_append_rows k32 (w0 := w) w.heap.size rfl (.tmp 71) (.tmp 72) 29 32 (.agg #[(.int .i64 0), (.int .i64 0)]) 16 rfl Tryd.underlying29 info32 rfl (by decide) (by omega) v236 y235 y190 _ _ _ (fun k_ => some k_ ≠ (.slice Ao158 y222.length co158 : Value).ownBlock ∧ some k_ ≠ (v233 : Value).ownBlock) (fun _ => False) rfl rfl ?aO ?aR (fun _ _ h => h) (fun _ h => h.elim) ?aF ?aB ?aS ?aL ?_; (case aR => repeat (first | exact (Kd.C_below HR193.out HB.out) | (with_reducible refine Kd.C_alloc ?_ _) | (with_reducible refine Kd.C_drewN ?_ _) | (with_reducible refine Kd.C_drew ?_))); (case aB => exact (by repeat (first | (with_reducible first | exact HB.out | apply bA | apply bN | apply bD) | exact HB.out))); (case aF => exact (fun k_ hk => ⟨Kd.fresh' (Kd.R_lt (by (with_reducible repeat (first | apply zA | apply zN | apply zD)); exact HO224.out)) k_ hk, Kd.fresh' (Kd.R_lt (by (with_reducible repeat (first | apply zA | apply zN | apply zD)); exact HO234.out)) k_ hk⟩)); (case aO => exact (by (with_reducible repeat (first | apply zA | apply zN | apply zD)); exact Kd.R_mono HO237.out (fun _ hk => ⟨hk.1.2, hk.2⟩))); (case aS => exact (below_size (by repeat (first | (with_reducible first | exact HB.out | apply bA | apply bN | apply bD) | exact HB.out)))); (case aL => have := LMc46.out; omega); intro v239 w162 ho hb hg hat; rw [← Ny238.out] at ho; have n0_ := Aside0.mk (Kd.R_after (ok := (fun k_ => some k_ ≠ (v233 : Value).ownBlock)) (by (with_reducible repeat (first | apply zA | apply zN | apply zD)); exact Kd.R_mono HO224.out (fun _ hk => ⟨hk.1.2, hk.2⟩)) hg hat); have n1_ := Aside0.mk (Kd.R_after (ok := (fun k_ => some k_ ≠ (.slice Ao158 y222.length co158 : Value).ownBlock)) (by (with_reducible repeat (first | apply zA | apply zN | apply zD)); exact HO234.out) hg hat); have n2_ := Aside0.mk (hb); have n3_ := Aside0.mk (ho); clear HO224; clear HO234; clear HB; clear HO237; have HO224 := n0_; have HO234 := n1_; have HB := n2_; have HO240 := n3_; clear n0_ n1_ n2_ n3_; clear ho hb hg hat) | ((with_reducible refine gate_dst (N := 76) rfl ?_); refine Kd.R_lit k32 _ 32 ?hg (N := 76) ?hd (xs := ([(⟨0, a3⟩ : S32)] : List (S32))) (inner := [.int .i64 0, .int .i64 a3]) (ok := fun _ => True) (okp := fun _ => True) ?hr ?hp (fun _ hk => hk) trivial (Below.refl _ _) (Nat.le_refl _) (by simp) ?_; (case hd => rfl); (case hg => rfl); (case hr => first | (go_simp; done) | (go_simp; rfl)); (case hp => exact (Reps.c2 (show Kd.M k32 _ _ _ (⟨0, a3⟩ : S32) [.int .i64 0, .int .i64 a3] from (k32_mkM _ _ _ (⟨0, a3⟩ : S32) )) (Reps.none _ _))); intro v242 w163 ho164 hb hg_ hnew_; clear hg_ hnew_; (first | rw [← Ny241.out] at ho164 | (simp only [Int.reduceToNat] at ho164; rw [← Ny241.out] at ho164)); have n0_ := Aside0.mk (Kd.R_elder' (by (with_reducible repeat (first | apply zA | apply zN | apply zD)); exact HO224.out) (Kd.R_base ho164) hb); have n1_ := Aside0.mk (Kd.R_elder' (by (with_reducible repeat (first | apply zA | apply zN | apply zD)); exact HO234.out) (Kd.R_base ho164) hb); have n2_ := Aside0.mk (Kd.R_elder' (by (with_reducible repeat (first | apply zA | apply zN | apply zD)); exact HO240.out) (Kd.R_base ho164) hb); have n3_ := Aside0.mk (Kd.R_lower (Kd.R_new' (Kd.R_new' (Kd.R_new' ho164 (Kd.R_lt (by (with_reducible repeat (first | apply zA | apply zN | apply zD)); exact HO224.out))) (Kd.R_lt (by (with_reducible repeat (first | apply zA | apply zN | apply zD)); exact HO234.out))) (Kd.R_lt (by (with_reducible repeat (first | apply zA | apply zN | apply zD)); exact HO240.out))) (below_size (by repeat (first | (with_reducible first | exact HB.out | apply bA | apply bN | apply bD) | exact HB.out)))); have n4_ := Aside0.mk (below_step (by repeat (first | (with_reducible first | exact HB.out | apply bA | apply bN | apply bD) | exact HB.out)) hb); clear HO224; clear HO234; clear HO240; clear HB; have HO224 := n0_; have HO234 := n1_; have HO240 := n2_; have HO243 := n3_; have HB := n4_; clear n0_ n1_ n2_ n3_ n4_; clear hb ho164; obtain ⟨Ao166, co166, eo166⟩ := Kd.R_slice HO243.out; subst eo166) | ((with_reducible refine gate_builtin (b := .append) (xs := #[.tmp 73, .tmp 76]) rfl ?_); at_builtin; refine Kd.R_append_rows k32 (w0 := w) w.heap.size rfl (.tmp 73) (.tmp 76) 29 32 (.agg #[(.int .i64 0), (.int .i64 0)]) 16 rfl Tryd.underlying29 info32 rfl (by decide) (by omega) v239 y238 y241 _ _ _ (fun k_ => some k_ ≠ (.slice Ao158 y222.length co158 : Value).ownBlock ∧ some k_ ≠ (v233 : Value).ownBlock ∧ some k_ ≠ (.slice Ao166 y241.length co166 : Value).ownBlock) (fun _ => False) rfl rfl ?aO ?aR (fun _ _ h => h) (fun _ h => h.elim) ?aF ?aB ?aS ?aL ?_; (case aR => repeat (first | exact (Kd.R_reads' HO243.out).2.2 | (with_reducible refine Kd.C_alloc ?_ _) | (with_reducible refine Kd.C_drewN ?_ _) | (with_reducible refine Kd.C_drew ?_))); (case aB => exact (by repeat (first | (with_reducible first | exact HB.out | apply bA | apply bN | apply bD) | exact HB.out))); (case aF => exact (fun k_ hk => ⟨Kd.fresh' (Kd.R_lt (by (with_reducible repeat (first | apply zA | apply zN | apply zD)); exact HO224.out)) k_ hk, Kd.fresh' (Kd.R_lt (by (with_reducible repeat (first | apply zA | apply zN | apply zD)); exact HO234.out)) k_ hk, Kd.fresh' (Kd.R_lt (by (with_reducible repeat (first | apply zA | apply zN | apply zD)); exact HO243.out)) k_ hk⟩)); (case aO => exact (by (with_reducible repeat (first | apply zA | apply zN | apply zD)); exact Kd.R_mono HO240.out (fun _ hk => ⟨hk.1.1, ⟨hk.1.2, hk.2⟩⟩))); (case aS => exact (below_size (by repeat (first | (with_reducible first | exact HB.out | apply bA | apply bN | apply bD) | exact HB.out)))); (case aL => have := LMc47.out; omega); intro v245 w165 ho hb hg hat; rw [← Ny244.out] at ho; have n0_ := Aside0.mk (Kd.R_after (ok := (fun k_ => some k_ ≠ (v233 : Value).ownBlock ∧ some k_ ≠ (.slice Ao166 y241.length co166 : Value).ownBlock)) (by (with_reducible repeat (first | apply zA | apply zN | apply zD)); exact Kd.R_mono HO224.out (fun _ hk => ⟨⟨hk.1.1, hk.2⟩, hk.1.2⟩)) hg hat); have n1_ := Aside0.mk (Kd.R_after (ok := (fun k_ => some k_ ≠ (.slice Ao158 y222.length co158 : Value).ownBlock ∧ some k_ ≠ (.slice Ao166 y241.length co166 : Value).ownBlock)) (by (with_reducible repeat (first | apply zA | apply zN | apply zD)); exact Kd.R_mono HO234.out (fun _ hk => ⟨⟨hk.1.1, hk.2⟩, hk.1.2⟩)) hg hat); have n2_ := Aside0.mk (Kd.R_after (ok := (fun k_ => some k_ ≠ (.slice Ao158 y222.length co158 : Value).ownBlock ∧ some k_ ≠ (v233 : Value).ownBlock)) (by (with_reducible repeat (first | apply zA | apply zN | apply zD)); exact Kd.R_mono HO243.out (fun _ hk => ⟨⟨hk.1.1.2, hk.1.2⟩, hk.2⟩)) hg hat); have n3_ := Aside0.mk (hb); have n4_ := Aside0.mk (ho); clear HO224; clear HO234; clear HO243; clear HB; clear HO240; have HO224 := n0_; have HO234 := n1_; have HO243 := n2_; have HB := n3_; have HO246 := n4_; clear n0_ n1_ n2_ n3_ n4_; clear ho hb hg hat) | ((with_reducible refine gate_dst (N := 78) rfl ?_); refine Kd.R_lit k32 _ 32 ?hg (N := 78) ?hd (xs := ([] : List (S32))) (inner := []) (ok := fun _ => True) (okp := fun _ => True) ?hr ?hp (fun _ hk => hk) trivial (Below.refl _ _) (Nat.le_refl _) (by simp) ?_; (case hd => rfl); (case hg => rfl); (case hr => first | (go_simp; done) | (go_simp; rfl)); (case hp => exact (Reps.none _ _)); intro v248 w167 ho168 hb hg_ hnew_; clear hg_ hnew_; (first | rw [← Ny247.out] at ho168 | (simp only [Int.reduceToNat] at ho168; rw [← Ny247.out] at ho168)); have n0_ := Aside0.mk (Kd.R_elder' (by (with_reducible repeat (first | apply zA | apply zN | apply zD)); exact HO224.out) (Kd.R_base ho168) hb); have n1_ := Aside0.mk (Kd.R_elder' (by (with_reducible repeat (first | apply zA | apply zN | apply zD)); exact HO234.out) (Kd.R_base ho168) hb); have n2_ := Aside0.mk (Kd.R_elder' (by (with_reducible repeat (first | apply zA | apply zN | apply zD)); exact HO243.out) (Kd.R_base ho168) hb); have n3_ := Aside0.mk (Kd.R_elder' (by (with_reducible repeat (first | apply zA | apply zN | apply zD)); exact HO246.out) (Kd.R_base ho168) hb); have n4_ := Aside0.mk (Kd.R_lower (Kd.R_new' (Kd.R_new' (Kd.R_new' (Kd.R_new' ho168 (Kd.R_lt (by (with_reducible repeat (first | apply zA | apply zN | apply zD)); exact HO224.out))) (Kd.R_lt (by (with_reducible repeat (first | apply zA | apply zN | apply zD)); exact HO234.out))) (Kd.R_lt (by (with_reducible repeat (first | apply zA | apply zN | apply zD)); exact HO243.out))) (Kd.R_lt (by (with_reducible repeat (first | apply zA | apply zN | apply zD)); exact HO246.out))) (below_size (by repeat (first | (with_reducible first | exact HB.out | apply bA | apply bN | apply bD) | exact HB.out)))); have n5_ := Aside0.mk (below_step (by repeat (first | (with_reducible first | exact HB.out | apply bA | apply bN | apply bD) | exact HB.out)) hb); clear HO224; clear HO234; clear HO243; clear HO246; clear HB; have HO224 := n0_; have HO234 := n1_; have HO243 := n2_; have HO246 := n3_; have HO249 := n4_; have HB := n5_; clear n0_ n1_ n2_ n3_ n4_ n5_; clear hb ho168; obtain ⟨Ao170, co170, eo170⟩ := Kd.R_slice HO246.out; subst eo170) | ((with_reducible refine gate_builtin (b := .append) (xs := #[.tmp 78, .tmp 79]) rfl ?_); at_builtin; refine Kd.R_append_rows k32 (w0 := w) w.heap.size rfl (.tmp 78) (.tmp 79) 29 32 (.agg #[(.int .i64 0), (.int .i64 0)]) 16 rfl Tryd.underlying29 info32 rfl (by decide) (by omega) v248 y247 y244 _ _ _ (fun k_ => some k_ ≠ (.slice Ao158 y222.length co158 : Value).ownBlock ∧ some k_ ≠ (v233 : Value).ownBlock ∧ some k_ ≠ (.slice Ao166 y241.length co166 : Value).ownBlock ∧ some k_ ≠ (.slice Ao170 y244.length co170 : Value).ownBlock) (fun _ => False) rfl rfl ?aO ?aR (fun _ _ h => h) (fun _ h => h.elim) ?aF ?aB ?aS ?aL ?_; (case aR => repeat (first | exact (Kd.R_reads' HO246.out).2.2 | (with_reducible refine Kd.C_alloc ?_ _) | (with_reducible refine Kd.C_drewN ?_ _) | (with_reducible refine Kd.C_drew ?_))); (case aB => exact (by repeat (first | (with_reducible first | exact HB.out | apply bA | apply bN | apply bD) | exact HB.out))); (case aF => exact (fun k_ hk => ⟨Kd.fresh' (Kd.R_lt (by (with_reducible repeat (first | apply zA | apply zN | apply zD)); exact HO224.out)) k_ hk, Kd.fresh' (Kd.R_lt (by (with_reducible repeat (first | apply zA | apply zN | apply zD)); exact HO234.out)) k_ hk, Kd.fresh' (Kd.R_lt (by (with_reducible repeat (first | apply zA | apply zN | apply zD)); exact HO243.out)) k_ hk, Kd.fresh' (Kd.R_lt (by (with_reducible repeat (first | apply zA | apply zN | apply zD)); exact HO246.out)) k_ hk⟩)); (case aO => exact (by (with_reducible repeat (first | apply zA | apply zN | apply zD)); exact Kd.R_mono HO249.out (fun _ hk => ⟨hk.1.1.1.2, ⟨hk.1.1.2, ⟨hk.1.2, hk.2⟩⟩⟩))); (case aS => exact (below_size (by repeat (first | (with_reducible first | exact HB.out | apply bA | apply bN | apply bD) | exact HB.out)))); (case aL => have := LMc48.out; omega); intro v251 w169 ho hb hg hat; rw [← Ny250.out] at ho; have n0_ := Aside0.mk (Kd.R_after (ok := (fun k_ => some k_ ≠ (v233 : Value).ownBlock ∧ some k_ ≠ (.slice Ao166 y241.length co166 : Value).ownBlock ∧ some k_ ≠ (.slice Ao170 y244.length co170 : Value).ownBlock)) (by (with_reducible repeat (first | apply zA | apply zN | apply zD)); exact Kd.R_mono HO224.out (fun _ hk => ⟨⟨hk.1.1.1, ⟨hk.1.1.2, hk.1.2⟩⟩, hk.2⟩)) hg hat); have n1_ := Aside0.mk (Kd.R_after (ok := (fun k_ => some k_ ≠ (.slice Ao158 y222.length co158 : Value).ownBlock ∧ some k_ ≠ (.slice Ao166 y241.length co166 : Value).ownBlock ∧ some k_ ≠ (.slice Ao170 y244.length co170 : Value).ownBlock)) (by (with_reducible repeat (first | apply zA | apply zN | apply zD)); exact Kd.R_mono HO234.out (fun _ hk => ⟨⟨hk.1.1.1, ⟨hk.1.1.2, hk.1.2⟩⟩, hk.2⟩)) hg hat); have n2_ := Aside0.mk (Kd.R_after (ok := (fun k_ => some k_ ≠ (.slice Ao158 y222.length co158 : Value).ownBlock ∧ some k_ ≠ (v233 : Value).ownBlock ∧ some k_ ≠ (.slice Ao170 y244.length co170 : Value).ownBlock)) (by (with_reducible repeat (first | apply zA | apply zN | apply zD)); exact Kd.R_mono HO243.out (fun _ hk => ⟨⟨hk.1.1.1, ⟨hk.1.1.2, hk.1.2⟩⟩, hk.2⟩)) hg hat); have n3_ := Aside0.mk (Kd.R_after (ok := (fun k_ => some k_ ≠ (.slice Ao158 y222.length co158 : Value).ownBlock ∧ some k_ ≠ (v233 : Value).ownBlock ∧ some k_ ≠ (.slice Ao166 y241.length co166 : Value).ownBlock)) (by (with_reducible repeat (first | apply zA | apply zN | apply zD)); exact HO246.out) hg hat); have n4_ := Aside0.mk (hb); have n5_ := Aside0.mk (ho); clear HO224; clear HO234; clear HO243; clear HO246; clear HB; clear HO249; have HO224 := n0_; have HO234 := n1_; have HO243 := n2_; have HO246 := n3_; have HB := n4_; have HO252 := n5_; clear n0_ n1_ n2_ n3_ n4_ n5_; clear ho hb hg hat) | ((with_reducible refine gate_dst (N := 83) rfl ?_); refine Kd.R_lit k32 _ 32 ?hg (N := 83) ?hd (xs := ([(⟨2, a3⟩ : S32)] : List (S32))) (inner := [.int .i64 2, .int .i64 a3]) (ok := fun _ => True) (okp := fun _ => True) ?hr ?hp (fun _ hk => hk) trivial (Below.refl _ _) (Nat.le_refl _) (by simp) ?_; (case hd => rfl); (case hg => rfl); (case hr => first | (go_simp; done) | (go_simp; rfl)); (case hp => exact (Reps.c2 (show Kd.M k32 _ _ _ (⟨2, a3⟩ : S32) [.int .i64 2, .int .i64 a3] from (k32_mkM _ _ _ (⟨2, a3⟩ : S32) )) (Reps.none _ _))); intro v254 w171 ho172 hb hg_ hnew_; clear hg_ hnew_; (first | rw [← Ny253.out] at ho172 | (simp only [Int.reduceToNat] at ho172; rw [← Ny253.out] at ho172)); have n0_ := Aside0.mk (Kd.R_elder' (by (with_reducible repeat (first | apply zA | apply zN | apply zD)); exact HO224.out) (Kd.R_base ho172) hb); have n1_ := Aside0.mk (Kd.R_elder' (by (with_reducible repeat (first | apply zA | apply zN | apply zD)); exact HO234.out) (Kd.R_base ho172) hb); have n2_ := Aside0.mk (Kd.R_elder' (by (with_reducible repeat (first | apply zA | apply zN | apply zD)); exact HO243.out) (Kd.R_base ho172) hb); have n3_ := Aside0.mk (Kd.R_elder' (by (with_reducible repeat (first | apply zA | apply zN | apply zD)); exact HO246.out) (Kd.R_base ho172) hb); have n4_ := Aside0.mk (Kd.R_elder' (by (with_reducible repeat (first | apply zA | apply zN | apply zD)); exact HO252.out) (Kd.R_base ho172) hb); have n5_ := Aside0.mk (Kd.R_lower (Kd.R_new' (Kd.R_new' (Kd.R_new' (Kd.R_new' (Kd.R_new' ho172 (Kd.R_lt (by (with_reducible repeat (first | apply zA | apply zN | apply zD)); exact HO224.out))) (Kd.R_lt (by (with_reducible repeat (first | apply zA | apply zN | apply zD)); exact HO234.out))) (Kd.R_lt (by (with_reducible repeat (first | apply zA | apply zN | apply zD)); exact HO243.out))) (Kd.R_lt (by (with_reducible repeat (first | apply zA | apply zN | apply zD)); exact HO246.out))) (Kd.R_lt (by (with_reducible repeat (first | apply zA | apply zN | apply zD)); exact HO252.out))) (below_size (by repeat (first | (with_reducible first | exact HB.out | apply bA | apply bN | apply bD) | exact HB.out)))); have n6_ := Aside0.mk (below_step (by repeat (first | (with_reducible first | exact HB.out | apply bA | apply bN | apply bD) | exact HB.out)) hb); clear HO224; clear HO234; clear HO243; clear HO246; clear HO252; clear HB; have HO224 := n0_; have HO234 := n1_; have HO243 := n2_; have HO246 := n3_; have HO252 := n4_; have HO255 := n5_; have HB := n6_; clear n0_ n1_ n2_ n3_ n4_ n5_ n6_; clear hb ho172; obtain ⟨Ao174, co174, eo174⟩ := Kd.R_slice HO255.out; subst eo174) | ((with_reducible refine gate_builtin (b := .append) (xs := #[.tmp 80, .tmp 83]) rfl ?_); at_builtin; refine Kd.R_append_rows k32 (w0 := w) w.heap.size rfl (.tmp 80) (.tmp 83) 29 32 (.agg #[(.int .i64 0), (.int .i64 0)]) 16 rfl Tryd.underlying29 info32 rfl (by decide) (by omega) v251 y250 y253 _ _ _ (fun k_ => some k_ ≠ (.slice Ao158 y222.length co158 : Value).ownBlock ∧ some k_ ≠ (v233 : Value).ownBlock ∧ some k_ ≠ (.slice Ao166 y241.length co166 : Value).ownBlock ∧ some k_ ≠ (.slice Ao170 y244.length co170 : Value).ownBlock ∧ some k_ ≠ (.slice Ao174 y253.length co174 : Value).ownBlock) (fun _ => False) rfl rfl ?aO ?aR (fun _ _ h => h) (fun _ h => h.elim) ?aF ?aB ?aS ?aL ?_; (case aR => repeat (first | exact (Kd.R_reads' HO255.out).2.2 | (with_reducible refine Kd.C_alloc ?_ _) | (with_reducible refine Kd.C_drewN ?_ _) | (with_reducible refine Kd.C_drew ?_))); (case aB => exact (by repeat (first | (with_reducible first | exact HB.out | apply bA | apply bN | apply bD) | exact HB.out))); (case aF => exact (fun k_ hk => ⟨Kd.fresh' (Kd.R_lt (by (with_reducible repeat (first | apply zA | apply zN | apply zD)); exact HO224.out)) k_ hk, Kd.fresh' (Kd.R_lt (by (with_reducible repeat (first | apply zA | apply zN | apply zD)); exact HO234.out)) k_ hk, Kd.fresh' (Kd.R_lt (by (with_reducible repeat (first | apply zA | apply zN | apply zD)); exact HO243.out)) k_ hk, Kd.fresh' (Kd.R_lt (by (with_reducible repeat (first | apply zA | apply zN | apply zD)); exact HO246.out)) k_ hk, Kd.fresh' (Kd.R_lt (by (with_reducible repeat (first | apply zA | apply zN | apply zD)); exact HO255.out)) k_ hk⟩)); (case aO => exact (by (with_reducible repeat (first | apply zA | apply zN | apply zD)); exact Kd.R_mono HO252.out (fun _ hk => ⟨hk.1.1, ⟨hk.1.2.1, ⟨hk.1.2.2.1, ⟨hk.1.2.2.2, hk.2⟩⟩⟩⟩))); (case aS => exact (below_size (by repeat (first | (with_reducible first | exact HB.out | apply bA | apply bN | apply bD) | exact HB.out)))); (case aL => have := LMc49.out; omega); intro v257 w173 ho hb hg hat; rw [← Ny256.out] at ho; have n0_ := Aside0.mk (Kd.R_after (ok := (fun k_ => some k_ ≠ (v233 : Value).ownBlock ∧ some k_ ≠ (.slice Ao166 y241.length co166 : Value).ownBlock ∧ some k_ ≠ (.slice Ao170 y244.length co170 : Value).ownBlock ∧ some k_ ≠ (.slice Ao174 y253.length co174 : Value).ownBlock)) (by (with_reducible repeat (first | apply zA | apply zN | apply zD)); exact Kd.R_mono HO224.out (fun _ hk => ⟨⟨hk.1.1.1, ⟨hk.1.1.2.1, ⟨hk.1.1.2.2, hk.2⟩⟩⟩, hk.1.2⟩)) hg hat); have n1_ := Aside0.mk (Kd.R_after (ok := (fun k_ => some k_ ≠ (.slice Ao158 y222.length co158 : Value).ownBlock ∧ some k_ ≠ (.slice Ao166 y241.length co166 : Value).ownBlock ∧ some k_ ≠ (.slice Ao170 y244.length co170 : Value).ownBlock ∧ some k_ ≠ (.slice Ao174 y253.length co174 : Value).ownBlock)) (by (with_reducible repeat (first | apply zA | apply zN | apply zD)); exact Kd.R_mono HO234.out (fun _ hk => ⟨⟨hk.1.1.1, ⟨hk.1.1.2.1, ⟨hk.1.1.2.2, hk.2⟩⟩⟩, hk.1.2⟩)) hg hat); have n2_ := Aside0.mk (Kd.R_after (ok := (fun k_ => some k_ ≠ (.slice Ao158 y222.length co158 : Value).ownBlock ∧ some k_ ≠ (v233 : Value).ownBlock ∧ some k_ ≠ (.slice Ao170 y244.length co170 : Value).ownBlock ∧ some k_ ≠ (.slice Ao174 y253.length co174 : Value).ownBlock)) (by (with_reducible repeat (first | apply zA | apply zN | apply zD)); exact Kd.R_mono HO243.out (fun _ hk => ⟨⟨hk.1.1.1, ⟨hk.1.1.2.1, ⟨hk.1.1.2.2, hk.2⟩⟩⟩, hk.1.2⟩)) hg hat); have n3_ := Aside0.mk (Kd.R_after (ok := (fun k_ => some k_ ≠ (.slice Ao158 y222.length co158 : Value).ownBlock ∧ some k_ ≠ (v233 : Value).ownBlock ∧ some k_ ≠ (.slice Ao166 y241.length co166 : Value).ownBlock ∧ some k_ ≠ (.slice Ao174 y253.length co174 : Value).ownBlock)) (by (with_reducible repeat (first | apply zA | apply zN | apply zD)); exact Kd.R_mono HO246.out (fun _ hk => ⟨⟨hk.1.1.1, ⟨hk.1.1.2.1, ⟨hk.1.1.2.2, hk.2⟩⟩⟩, hk.1.2⟩)) hg hat); have n4_ := Aside0.mk (Kd.R_after (ok := (fun k_ => some k_ ≠ (.slice Ao158 y222.length co158 : Value).ownBlock ∧ some k_ ≠ (v233 : Value).ownBlock ∧ some k_ ≠ (.slice Ao166 y241.length co166 : Value).ownBlock ∧ some k_ ≠ (.slice Ao170 y244.length co170 : Value).ownBlock)) (by (with_reducible repeat (first | apply zA | apply zN | apply zD)); exact Kd.R_mono HO255.out (fun _ hk => ⟨⟨hk.1.1.1.1.2, ⟨hk.1.1.1.2, ⟨hk.1.1.2, hk.1.2⟩⟩⟩, hk.2⟩)) hg hat); have n5_ := Aside0.mk (hb); have n6_ := Aside0.mk (ho); clear HO224; clear HO234; clear HO243; clear HO246; clear HO255; clear HB; clear HO252; have HO224 := n0_; have HO234 := n1_; have HO243 := n2_; have HO246 := n3_; have HO255 := n4_; have HB := n5_; have HO258 := n6_; clear n0_ n1_ n2_ n3_ n4_ n5_ n6_; clear ho hb hg hat; obtain ⟨Ao175, co175, eo175⟩ := Kd.R_slice HO234.out; subst eo175) | ((with_reducible refine gate_callee (f := 12) rfl ?_); refine goesL_ (some 86) rfl rfl Tryd.func12 (by kernel_rfl) rfl #[.slice Ao175 y232.length co175] rfl (by (try simp only [List.map_toArray, List.map_cons, List.map_nil]); first | done | rfl | (simp only [List.length_drop, List.length_take]; rfl)) ?_; (with_reducible refine (prog_Tidy.calls kj14 _ _ y232 t259 _ ?side1 ?side2 A50.out).mono ?_); (case side1 => repeat (first | exact (Kd.R_reads' HO234.out).2.2 | (with_reducible refine Kd.C_alloc ?_ _) | (with_reducible refine Kd.C_drewN ?_ _) | (with_reducible refine Kd.C_drew ?_))); (case side2 => exact (Kd.R_reads' HO234.out).2.1); rintro e w176 ⟨rfl, hb⟩; refine ⟨_, rfl, ?_⟩; have n0_ := Aside0.mk (Kd.R_below (by (with_reducible repeat (first | apply zA | apply zN | apply zD)); exact HO224.out) hb); have n1_ := Aside0.mk (Kd.R_below (by (with_reducible repeat (first | apply zA | apply zN | apply zD)); exact HO234.out) hb); have n2_ := Aside0.mk (Kd.R_below (by (with_reducible repeat (first | apply zA | apply zN | apply zD)); exact HO243.out) hb); have n3_ := Aside0.mk (Kd.R_below (by (with_reducible repeat (first | apply zA | apply zN | apply zD)); exact HO246.out) hb); have n4_ := Aside0.mk (Kd.R_below (by (with_reducible repeat (first | apply zA | apply zN | apply zD)); exact HO255.out) hb); have n5_ := Aside0.mk (Kd.R_below (by (with_reducible repeat (first | apply zA | apply zN | apply zD)); exact HO258.out) hb); have n6_ := Aside0.mk (below_step (by repeat (first | (with_reducible first | exact HB.out | apply bA | apply bN | apply bD) | exact HB.out)) hb); clear HO224; clear HO234; clear HO243; clear HO246; clear HO255; clear HO258; clear HB; have HO224 := n0_; have HO234 := n1_; have HO243 := n2_; have HO246 := n3_; have HO255 := n4_; have HO258 := n5_; have HB := n6_; clear n0_ n1_ n2_ n3_ n4_ n5_ n6_; (try clear hb); (try clear hb2); (try clear hk); (try clear hi)))
      go_ret
      exact ⟨by first | rfl | (simp [errW_none, errW_some] <;> rfl) | (simp only [← hji5, ← hji8, ← hji38]; first | rfl | (simp [errW_none, errW_some] <;> rfl)) | (simp [*, errW_none, errW_some] <;> rfl), by repeat (first | (with_reducible first | exact HB.out | apply bA | apply bN | apply bD) | exact HB.out)⟩
end Go.Proofs.YtfebhemdpbnebaaDoor.PProgTidy
