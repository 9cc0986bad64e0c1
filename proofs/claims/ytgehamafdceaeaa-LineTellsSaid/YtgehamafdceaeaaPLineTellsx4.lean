/- The functions that a law reaches, as Lean functions, and for each a proof that the call hands back just what its Lean function says; no conditions beyond each statement. Written by a program of this session (a changed copy of the print). -/
import Derived.Test.YtgehamafdceaeaaPLineTellsx0
import Derived.Test.YtgehamafdceaeaaPLineTellsx1
import Derived.Test.YtgehamafdceaeaaPLineTellsx2
import Derived.Test.YtgehamafdceaeaaPLineTellsx3
namespace Go.Proofs.Ytgehamafdceaeaa.PLineTells
open Go.Proofs.Ytgehamafdceaeaa.Hand
open Go.RowKit Go.Proofs.YtgehamafdceaeaaW.PrintWords Go.Proofs.YtgehamafdceaeaaW.PrintLast Go.Proofs.YtgehamafdceaeaaW.PrintMore
attribute [local go_sem] max2_int min2_int max_two min_two max_three min_three max_four min_four   -- for this text's walks alone
set_option linter.unusedVariables false
set_option linter.unusedSimpArgs false

/-! ### deadboltlaw07_LineTells: function 5 -/
mutual
def deadboltlaw07_LineTells.j0 : Nat → List Int → Int → Bool → List Int → Int → List Int → Int → Int → List Int → Int → Int → Int → Bool → Bool → Option (Bool)
  | 0, _, _, _, _, _, _, _, _, _, _, _, _, _, _ => none
  | k + 1, x0, x1, x2, x7, x8, x9, x10, x11, x12, x13, x14, x15, x16, x54 => if x54 = true then (some false) else (if x16 = true then (if (x0.length : Int) = 0 then (if x11 = 4 then (if (x9.length : Int) = 0 then (if x10 = 0 then (deadboltlaw07_LineTells.j1 k x0 x1 x2 x7 x8 x12 x13 x14 x15 x16) else (some false)) else (some false)) else (some false)) else (if x11 = 0 then (if 0 < (x0.length : Int) then (if x10 = (rd x0 0) then (if 1 ≤ (x0.length : Int) then ((deadboltref07_Same.f k x9 (x0.drop 1)).bind fun t221 => (if t221 = true then (deadboltlaw07_LineTells.j1 k x0 x1 x2 x7 x8 x12 x13 x14 x15 x16) else (some false))) else (none)) else (some false)) else (none)) else (some false))) else (if x11 = 1 then (if (x9.length : Int) = 0 then (if x10 = 0 then (deadboltlaw07_LineTells.j1 k x0 x1 x2 x7 x8 x12 x13 x14 x15 x16) else (some false)) else (some false)) else (some false)))
def deadboltlaw07_LineTells.j1 : Nat → List Int → Int → Bool → List Int → Int → List Int → Int → Int → Int → Bool → Option (Bool)
  | 0, _, _, _, _, _, _, _, _, _, _ => none
  | k + 1, x0, x1, x2, x7, x8, x12, x13, x14, x15, x16 => if x16 = true then (deadboltlaw07_LineTells.j2 k x0 x1 x2 x7 x8 x12 x13 x14 x15 (decide (x1 < 0))) else (deadboltlaw07_LineTells.j2 k x0 x1 x2 x7 x8 x12 x13 x14 x15 true)
def deadboltlaw07_LineTells.j2 : Nat → List Int → Int → Bool → List Int → Int → List Int → Int → Int → Int → Bool → Option (Bool)
  | 0, _, _, _, _, _, _, _, _, _, _ => none
  | k + 1, x0, x1, x2, x7, x8, x12, x13, x14, x15, x106 => if x106 = true then (if x8 = 1 then (if x13 = 1 then (if x15 = 1 then (if (x7.length : Int) = 0 then (if (x12.length : Int) = 0 then (some (x14 == 0)) else (some false)) else (some false)) else (some false)) else (some false)) else (some false)) else ((deadboltref07_Place.f k x0 x1).bind fun t222 => (if t222 ≥ 0 then (if x8 = 7 then (if (x7.length : Int) = 0 then (if x13 = 0 then ((deadboltref07_Without.f k x0 x1).bind fun t223 => ((deadboltref07_Same.f k x12 t223).bind fun t226 => (if t226 = true then (if x15 = 0 then (some (x14 == t222)) else (some false)) else (some false)))) else (some false)) else (some false)) else (some false)) else (if x13 = 4 then (if x15 = 4 then (if (x12.length : Int) = 0 then (deadboltlaw07_LineTells.j3 k x0 x1 x2 x7 x8 (x14 != 0)) else (deadboltlaw07_LineTells.j3 k x0 x1 x2 x7 x8 true)) else (deadboltlaw07_LineTells.j3 k x0 x1 x2 x7 x8 true)) else (deadboltlaw07_LineTells.j3 k x0 x1 x2 x7 x8 true))))
def deadboltlaw07_LineTells.j3 : Nat → List Int → Int → Bool → List Int → Int → Bool → Option (Bool)
  | 0, _, _, _, _, _, _ => none
  | k + 1, x0, x1, x2, x7, x8, x177 => if x177 = true then (some false) else (if (x0.length : Int) = 64 then (if x8 = 5 then (some ((x7.length : Int) == 0)) else (some false)) else (if x8 = 0 then ((deadboltref07_Push.f x0 x1 x2).bind fun t227 => ((deadboltref07_Same.f k x7 t227).bind fun t230 => (some t230))) else (some false)))
end
def deadboltlaw07_LineTells.f (k : Nat) (l0 : List Int) (a1 : Int) (a2 : Bool) : Option (Bool) := (deadboltlaw07_few.f l0).bind fun t194 => ((line_Push.f k t194 a1 a2).bind fun bt197 => ((line_Pop.f t194).bind fun bt201 => ((line_Drop.f k t194 a1).bind fun bt206 => ((line_Place.f k t194 a1).bind fun bt210 => ((deadboltref07_Right.f t194).bind fun t212 => ((line_Right.f t194).bind fun t213 => (if (t213 != t212) = true then (deadboltlaw07_LineTells.j0 k t194 a1 a2 bt197.1 bt197.2 bt201.1 bt201.2.1 bt201.2.2 bt206.1 bt206.2 bt210.1 bt210.2 t212 true) else ((deadboltlaw07_alive.f k).bind fun t214 => (deadboltlaw07_LineTells.j0 k t194 a1 a2 bt197.1 bt197.2 bt201.1 bt201.2.1 bt201.2.2 bt206.1 bt206.2 bt210.1 bt210.2 t212 (!t214))))))))))
theorem deadboltlaw07_LineTells.mono_l : ∀ k, (∀ y0 y1 y2 y3 y4 y5 y6 y7 y8 y9 y10 y11 y12 y13, LeO (deadboltlaw07_LineTells.j0 k y0 y1 y2 y3 y4 y5 y6 y7 y8 y9 y10 y11 y12 y13) (deadboltlaw07_LineTells.j0 (k + 1) y0 y1 y2 y3 y4 y5 y6 y7 y8 y9 y10 y11 y12 y13)) ∧ (∀ y0 y1 y2 y3 y4 y5 y6 y7 y8 y9, LeO (deadboltlaw07_LineTells.j1 k y0 y1 y2 y3 y4 y5 y6 y7 y8 y9) (deadboltlaw07_LineTells.j1 (k + 1) y0 y1 y2 y3 y4 y5 y6 y7 y8 y9)) ∧ (∀ y0 y1 y2 y3 y4 y5 y6 y7 y8 y9, LeO (deadboltlaw07_LineTells.j2 k y0 y1 y2 y3 y4 y5 y6 y7 y8 y9) (deadboltlaw07_LineTells.j2 (k + 1) y0 y1 y2 y3 y4 y5 y6 y7 y8 y9)) ∧ (∀ y0 y1 y2 y3 y4 y5, LeO (deadboltlaw07_LineTells.j3 k y0 y1 y2 y3 y4 y5) (deadboltlaw07_LineTells.j3 (k + 1) y0 y1 y2 y3 y4 y5))
  | 0 => ⟨fun _ _ _ _ _ _ _ _ _ _ _ _ _ _ r h => by simp [deadboltlaw07_LineTells.j0] at h, fun _ _ _ _ _ _ _ _ _ _ r h => by simp [deadboltlaw07_LineTells.j1] at h, fun _ _ _ _ _ _ _ _ _ _ r h => by simp [deadboltlaw07_LineTells.j2] at h, fun _ _ _ _ _ _ r h => by simp [deadboltlaw07_LineTells.j3] at h⟩
  | k + 1 => by
    obtain ⟨ih0, ih1, ih2, ih3⟩ := deadboltlaw07_LineTells.mono_l k
    refine ⟨?_, ?_, ?_, ?_⟩
    · intro y0 y1 y2 y3 y4 y5 y6 y7 y8 y9 y10 y11 y12 y13
      unfold deadboltlaw07_LineTells.j0
      repeat' first
      | (with_reducible exact ih0 _ _ _ _ _ _ _ _ _ _ _ _ _ _)
      | (with_reducible exact ih1 _ _ _ _ _ _ _ _ _ _)
      | (with_reducible exact ih2 _ _ _ _ _ _ _ _ _ _)
      | (with_reducible exact ih3 _ _ _ _ _ _)
      | (with_reducible exact deadboltlaw07_alive.mono _)
      | (with_reducible exact deadboltref07_Place.mono _ _ _)
      | (with_reducible exact deadboltref07_Same.mono _ _ _)
      | (with_reducible exact deadboltref07_Without.mono _ _ _)
      | (with_reducible exact line_Drop.mono _ _ _)
      | (with_reducible exact line_Place.mono _ _ _)
      | (with_reducible exact line_Push.mono _ _ _ _)
      | (with_reducible exact LeO.refl _)
      | (with_reducible exact LeO.none _)
      | (with_reducible refine LeO.ite ?_ ?_)
      | (with_reducible refine LeO.bind ?_ (fun _ => ?_))
      | exact ih0 _ _ _ _ _ _ _ _ _ _ _ _ _ _
      | exact ih1 _ _ _ _ _ _ _ _ _ _
      | exact ih2 _ _ _ _ _ _ _ _ _ _
      | exact ih3 _ _ _ _ _ _
      | exact deadboltlaw07_alive.mono _
      | exact deadboltref07_Place.mono _ _ _
      | exact deadboltref07_Same.mono _ _ _
      | exact deadboltref07_Without.mono _ _ _
      | exact line_Drop.mono _ _ _
      | exact line_Place.mono _ _ _
      | exact line_Push.mono _ _ _ _
      | exact LeO.none _
      | refine LeO.ite ?_ ?_
      | refine LeO.bind ?_ (fun _ => ?_)
    · intro y0 y1 y2 y3 y4 y5 y6 y7 y8 y9
      unfold deadboltlaw07_LineTells.j1
      repeat' first
      | (with_reducible exact ih0 _ _ _ _ _ _ _ _ _ _ _ _ _ _)
      | (with_reducible exact ih1 _ _ _ _ _ _ _ _ _ _)
      | (with_reducible exact ih2 _ _ _ _ _ _ _ _ _ _)
      | (with_reducible exact ih3 _ _ _ _ _ _)
      | (with_reducible exact deadboltlaw07_alive.mono _)
      | (with_reducible exact deadboltref07_Place.mono _ _ _)
      | (with_reducible exact deadboltref07_Same.mono _ _ _)
      | (with_reducible exact deadboltref07_Without.mono _ _ _)
      | (with_reducible exact line_Drop.mono _ _ _)
      | (with_reducible exact line_Place.mono _ _ _)
      | (with_reducible exact line_Push.mono _ _ _ _)
      | (with_reducible exact LeO.refl _)
      | (with_reducible exact LeO.none _)
      | (with_reducible refine LeO.ite ?_ ?_)
      | (with_reducible refine LeO.bind ?_ (fun _ => ?_))
      | exact ih0 _ _ _ _ _ _ _ _ _ _ _ _ _ _
      | exact ih1 _ _ _ _ _ _ _ _ _ _
      | exact ih2 _ _ _ _ _ _ _ _ _ _
      | exact ih3 _ _ _ _ _ _
      | exact deadboltlaw07_alive.mono _
      | exact deadboltref07_Place.mono _ _ _
      | exact deadboltref07_Same.mono _ _ _
      | exact deadboltref07_Without.mono _ _ _
      | exact line_Drop.mono _ _ _
      | exact line_Place.mono _ _ _
      | exact line_Push.mono _ _ _ _
      | exact LeO.none _
      | refine LeO.ite ?_ ?_
      | refine LeO.bind ?_ (fun _ => ?_)
    · intro y0 y1 y2 y3 y4 y5 y6 y7 y8 y9
      unfold deadboltlaw07_LineTells.j2
      repeat' first
      | (with_reducible exact ih0 _ _ _ _ _ _ _ _ _ _ _ _ _ _)
      | (with_reducible exact ih1 _ _ _ _ _ _ _ _ _ _)
      | (with_reducible exact ih2 _ _ _ _ _ _ _ _ _ _)
      | (with_reducible exact ih3 _ _ _ _ _ _)
      | (with_reducible exact deadboltlaw07_alive.mono _)
      | (with_reducible exact deadboltref07_Place.mono _ _ _)
      | (with_reducible exact deadboltref07_Same.mono _ _ _)
      | (with_reducible exact deadboltref07_Without.mono _ _ _)
      | (with_reducible exact line_Drop.mono _ _ _)
      | (with_reducible exact line_Place.mono _ _ _)
      | (with_reducible exact line_Push.mono _ _ _ _)
      | (with_reducible exact LeO.refl _)
      | (with_reducible exact LeO.none _)
      | (with_reducible refine LeO.ite ?_ ?_)
      | (with_reducible refine LeO.bind ?_ (fun _ => ?_))
      | exact ih0 _ _ _ _ _ _ _ _ _ _ _ _ _ _
      | exact ih1 _ _ _ _ _ _ _ _ _ _
      | exact ih2 _ _ _ _ _ _ _ _ _ _
      | exact ih3 _ _ _ _ _ _
      | exact deadboltlaw07_alive.mono _
      | exact deadboltref07_Place.mono _ _ _
      | exact deadboltref07_Same.mono _ _ _
      | exact deadboltref07_Without.mono _ _ _
      | exact line_Drop.mono _ _ _
      | exact line_Place.mono _ _ _
      | exact line_Push.mono _ _ _ _
      | exact LeO.none _
      | refine LeO.ite ?_ ?_
      | refine LeO.bind ?_ (fun _ => ?_)
    · intro y0 y1 y2 y3 y4 y5
      unfold deadboltlaw07_LineTells.j3
      repeat' first
      | (with_reducible exact ih0 _ _ _ _ _ _ _ _ _ _ _ _ _ _)
      | (with_reducible exact ih1 _ _ _ _ _ _ _ _ _ _)
      | (with_reducible exact ih2 _ _ _ _ _ _ _ _ _ _)
      | (with_reducible exact ih3 _ _ _ _ _ _)
      | (with_reducible exact deadboltlaw07_alive.mono _)
      | (with_reducible exact deadboltref07_Place.mono _ _ _)
      | (with_reducible exact deadboltref07_Same.mono _ _ _)
      | (with_reducible exact deadboltref07_Without.mono _ _ _)
      | (with_reducible exact line_Drop.mono _ _ _)
      | (with_reducible exact line_Place.mono _ _ _)
      | (with_reducible exact line_Push.mono _ _ _ _)
      | (with_reducible exact LeO.refl _)
      | (with_reducible exact LeO.none _)
      | (with_reducible refine LeO.ite ?_ ?_)
      | (with_reducible refine LeO.bind ?_ (fun _ => ?_))
      | exact ih0 _ _ _ _ _ _ _ _ _ _ _ _ _ _
      | exact ih1 _ _ _ _ _ _ _ _ _ _
      | exact ih2 _ _ _ _ _ _ _ _ _ _
      | exact ih3 _ _ _ _ _ _
      | exact deadboltlaw07_alive.mono _
      | exact deadboltref07_Place.mono _ _ _
      | exact deadboltref07_Same.mono _ _ _
      | exact deadboltref07_Without.mono _ _ _
      | exact line_Drop.mono _ _ _
      | exact line_Place.mono _ _ _
      | exact line_Push.mono _ _ _ _
      | exact LeO.none _
      | refine LeO.ite ?_ ?_
      | refine LeO.bind ?_ (fun _ => ?_)
theorem deadboltlaw07_LineTells.mono : ∀ a0 a1 a2 k, LeO (deadboltlaw07_LineTells.f k a0 a1 a2) (deadboltlaw07_LineTells.f (k + 1) a0 a1 a2) := by
  intro a0 a1 a2 k
  obtain ⟨ih0, ih1, ih2, ih3⟩ := deadboltlaw07_LineTells.mono_l k
  unfold deadboltlaw07_LineTells.f
  repeat' first
      | (with_reducible exact ih0 _ _ _ _ _ _ _ _ _ _ _ _ _ _)
      | (with_reducible exact ih1 _ _ _ _ _ _ _ _ _ _)
      | (with_reducible exact ih2 _ _ _ _ _ _ _ _ _ _)
      | (with_reducible exact ih3 _ _ _ _ _ _)
      | (with_reducible exact deadboltlaw07_alive.mono _)
      | (with_reducible exact deadboltref07_Place.mono _ _ _)
      | (with_reducible exact deadboltref07_Same.mono _ _ _)
      | (with_reducible exact deadboltref07_Without.mono _ _ _)
      | (with_reducible exact line_Drop.mono _ _ _)
      | (with_reducible exact line_Place.mono _ _ _)
      | (with_reducible exact line_Push.mono _ _ _ _)
      | (with_reducible exact LeO.refl _)
      | (with_reducible exact LeO.none _)
      | (with_reducible refine LeO.ite ?_ ?_)
      | (with_reducible refine LeO.bind ?_ (fun _ => ?_))
      | exact ih0 _ _ _ _ _ _ _ _ _ _ _ _ _ _
      | exact ih1 _ _ _ _ _ _ _ _ _ _
      | exact ih2 _ _ _ _ _ _ _ _ _ _
      | exact ih3 _ _ _ _ _ _
      | exact deadboltlaw07_alive.mono _
      | exact deadboltref07_Place.mono _ _ _
      | exact deadboltref07_Same.mono _ _ _
      | exact deadboltref07_Without.mono _ _ _
      | exact line_Drop.mono _ _ _
      | exact line_Place.mono _ _ _
      | exact line_Push.mono _ _ _ _
      | exact LeO.none _
      | refine LeO.ite ?_ ?_
      | refine LeO.bind ?_ (fun _ => ?_)
set_option maxHeartbeats 8000000 in
set_option maxRecDepth 100000 in
theorem deadboltlaw07_LineTells.calls (k : Nat) (A0 : Option Addr) (c0 : Nat) (l0 : List Int) (a1 : Int) (a2 : Bool) (r : Bool) (w : World) (hr0 : Kd.C (Kd.int .i64) w A0 l0.length l0) (hc0 : l0.length ≤ c0) (h : deadboltlaw07_LineTells.f k l0 a1 a2 = some r) :
    Calls Try.prog 5 #[.slice A0 l0.length c0, .int .i64 a1, .bool a2] w fun e w' => e = .returned (.bool r) ∧ Below w.heap.size w w' := by
  have HR0 := Aside0.mk hr0
  have HC0 := Aside0.mk hc0
  clear hr0 hc0
  have HB := Aside0.mk (Below.refl w.heap.size w)
  have H : ((deadboltlaw07_few.f l0).bind fun t194 => ((line_Push.f k t194 a1 a2).bind fun bt197 => ((line_Pop.f t194).bind fun bt201 => ((line_Drop.f k t194 a1).bind fun bt206 => ((line_Place.f k t194 a1).bind fun bt210 => ((deadboltref07_Right.f t194).bind fun t212 => ((line_Right.f t194).bind fun t213 => (if (t213 != t212) = true then (deadboltlaw07_LineTells.j0 k t194 a1 a2 bt197.1 bt197.2 bt201.1 bt201.2.1 bt201.2.2 bt206.1 bt206.2 bt210.1 bt210.2 t212 true) else ((deadboltlaw07_alive.f k).bind fun t214 => (deadboltlaw07_LineTells.j0 k t194 a1 a2 bt197.1 bt197.2 bt201.1 bt201.2.1 bt201.2.2 bt206.1 bt206.2 bt210.1 bt210.2 t212 (!t214))))))))))) = some r := h
  clear h
  replace H := Option.bind_eq_some_iff.mp H
  obtain ⟨t194, A40, H⟩ := H
  replace H : ((line_Push.f k t194 a1 a2).bind fun bt197 => ((line_Pop.f t194).bind fun bt201 => ((line_Drop.f k t194 a1).bind fun bt206 => ((line_Place.f k t194 a1).bind fun bt210 => ((deadboltref07_Right.f t194).bind fun t212 => ((line_Right.f t194).bind fun t213 => (if (t213 != t212) = true then (deadboltlaw07_LineTells.j0 k t194 a1 a2 bt197.1 bt197.2 bt201.1 bt201.2.1 bt201.2.2 bt206.1 bt206.2 bt210.1 bt210.2 t212 true) else ((deadboltlaw07_alive.f k).bind fun t214 => (deadboltlaw07_LineTells.j0 k t194 a1 a2 bt197.1 bt197.2 bt201.1 bt201.2.1 bt201.2.2 bt206.1 bt206.2 bt210.1 bt210.2 t212 (!t214)))))))))) = some r := H
  have A4 := Aside0.mk A40
  clear A40
  replace H := Option.bind_eq_some_iff.mp H
  obtain ⟨⟨t197, t200⟩, A50, H⟩ := H
  replace H : ((line_Pop.f t194).bind fun bt201 => ((line_Drop.f k t194 a1).bind fun bt206 => ((line_Place.f k t194 a1).bind fun bt210 => ((deadboltref07_Right.f t194).bind fun t212 => ((line_Right.f t194).bind fun t213 => (if (t213 != t212) = true then (deadboltlaw07_LineTells.j0 k t194 a1 a2 t197 t200 bt201.1 bt201.2.1 bt201.2.2 bt206.1 bt206.2 bt210.1 bt210.2 t212 true) else ((deadboltlaw07_alive.f k).bind fun t214 => (deadboltlaw07_LineTells.j0 k t194 a1 a2 t197 t200 bt201.1 bt201.2.1 bt201.2.2 bt206.1 bt206.2 bt210.1 bt210.2 t212 (!t214))))))))) = some r := H
  have A5 := Aside0.mk A50
  clear A50
  replace H := Option.bind_eq_some_iff.mp H
  obtain ⟨⟨t201, t204, t205⟩, A60, H⟩ := H
  replace H : ((line_Drop.f k t194 a1).bind fun bt206 => ((line_Place.f k t194 a1).bind fun bt210 => ((deadboltref07_Right.f t194).bind fun t212 => ((line_Right.f t194).bind fun t213 => (if (t213 != t212) = true then (deadboltlaw07_LineTells.j0 k t194 a1 a2 t197 t200 t201 t204 t205 bt206.1 bt206.2 bt210.1 bt210.2 t212 true) else ((deadboltlaw07_alive.f k).bind fun t214 => (deadboltlaw07_LineTells.j0 k t194 a1 a2 t197 t200 t201 t204 t205 bt206.1 bt206.2 bt210.1 bt210.2 t212 (!t214)))))))) = some r := H
  have A6 := Aside0.mk A60
  clear A60
  replace H := Option.bind_eq_some_iff.mp H
  obtain ⟨⟨t206, t209⟩, A70, H⟩ := H
  replace H : ((line_Place.f k t194 a1).bind fun bt210 => ((deadboltref07_Right.f t194).bind fun t212 => ((line_Right.f t194).bind fun t213 => (if (t213 != t212) = true then (deadboltlaw07_LineTells.j0 k t194 a1 a2 t197 t200 t201 t204 t205 t206 t209 bt210.1 bt210.2 t212 true) else ((deadboltlaw07_alive.f k).bind fun t214 => (deadboltlaw07_LineTells.j0 k t194 a1 a2 t197 t200 t201 t204 t205 t206 t209 bt210.1 bt210.2 t212 (!t214))))))) = some r := H
  have A7 := Aside0.mk A70
  clear A70
  replace H := Option.bind_eq_some_iff.mp H
  obtain ⟨⟨t210, t211⟩, A80, H⟩ := H
  replace H : ((deadboltref07_Right.f t194).bind fun t212 => ((line_Right.f t194).bind fun t213 => (if (t213 != t212) = true then (deadboltlaw07_LineTells.j0 k t194 a1 a2 t197 t200 t201 t204 t205 t206 t209 t210 t211 t212 true) else ((deadboltlaw07_alive.f k).bind fun t214 => (deadboltlaw07_LineTells.j0 k t194 a1 a2 t197 t200 t201 t204 t205 t206 t209 t210 t211 t212 (!t214)))))) = some r := H
  have A8 := Aside0.mk A80
  clear A80
  replace H := Option.bind_eq_some_iff.mp H
  obtain ⟨t212, A90, H⟩ := H
  replace H : ((line_Right.f t194).bind fun t213 => (if (t213 != t212) = true then (deadboltlaw07_LineTells.j0 k t194 a1 a2 t197 t200 t201 t204 t205 t206 t209 t210 t211 t212 true) else ((deadboltlaw07_alive.f k).bind fun t214 => (deadboltlaw07_LineTells.j0 k t194 a1 a2 t197 t200 t201 t204 t205 t206 t209 t210 t211 t212 (!t214))))) = some r := H
  have A9 := Aside0.mk A90
  clear A90
  have HC10 := Aside0.mk H
  clear H
  go_enter Try.func5, Try.ntmps5
  go_upto_region 7 with (first | ((with_reducible refine gate_callee (f := 7) rfl ?_); refine goesL_ (some 19) rfl rfl Try.func7 (by kernel_rfl) rfl #[.slice A0 l0.length c0] rfl (by (try simp only [List.map_toArray, List.map_cons, List.map_nil]); first | done | rfl | (simp only [List.length_drop, List.length_take]; rfl)) ?_; (with_reducible refine (deadboltlaw07_few.calls (fun k_ => k_ < w.heap.size) _ _ l0 t194 _ ?side1 A4.out).mono ?_); (case side1 => exact Kd.V_mk HC0.out (Kd.F_below (Kd.C_F (Kd.heap_int .i64) HR0.out) (by repeat (first | (with_reducible first | exact HB.out | apply below_alloc | apply pw_below_drewN | apply below_drew1) | exact HB.out)))); rintro e w11 ⟨v195, rfl, ho0, hb⟩; refine ⟨_, rfl, ?_⟩; have n0_ := Aside0.mk (Kd.V_lower (Kd.V_mono (ok' := fun k_ => True) ho0 (fun k_ hk_ => trivial)) (below_size (by repeat (first | (with_reducible first | exact HB.out | apply below_alloc | apply pw_below_drewN | apply below_drew1) | exact HB.out)))); have n1_ := Aside0.mk (below_step (by repeat (first | (with_reducible first | exact HB.out | apply below_alloc | apply pw_below_drewN | apply below_drew1) | exact HB.out)) hb); clear HB; have HO196 := n0_; have HB := n1_; clear n0_ n1_; (try clear hb); (try clear hb2); (try clear hk); (try clear hi); (try clear ho0); obtain ⟨Ao12, co12, eo12⟩ := Kd.V_slice HO196.out; subst eo12) | ((with_reducible refine gate_callee (f := 12) rfl ?_); refine goesL_ (some 24) rfl rfl Try.func12 (by kernel_rfl) rfl #[.slice Ao12 t194.length co12, .int .i64 a1, .bool a2] rfl (by (try simp only [List.map_toArray, List.map_cons, List.map_nil]); first | done | rfl | (simp only [List.length_drop, List.length_take]; rfl)) ?_; (with_reducible refine (line_Push.calls k (fun k_ => True) _ _ t194 a1 a2 t197 t200 _ ?side1 A5.out).mono ?_); (case side1 => exact HO196.out); rintro e w13 ⟨v198, rfl, ho0, hb⟩; refine ⟨_, rfl, ?_⟩; have n0_ := Aside0.mk (Kd.V_elder' (by (with_reducible repeat (first | apply Kd.V_alloc | apply Kd.V_drewN | apply Kd.V_drew)); exact HO196.out) (Kd.R_base ho0) hb); have n1_ := Aside0.mk (Kd.R_lower (Kd.R_mono (ok' := fun k_ => True) ho0 (fun _ hk_ => trivial)) (below_size (by repeat (first | (with_reducible first | exact HB.out | apply below_alloc | apply pw_below_drewN | apply below_drew1) | exact HB.out)))); have n2_ := Aside0.mk (below_step (by repeat (first | (with_reducible first | exact HB.out | apply below_alloc | apply pw_below_drewN | apply below_drew1) | exact HB.out)) hb); clear HO196; clear HB; have HO196 := n0_; have HO199 := n1_; have HB := n2_; clear n0_ n1_ n2_; (try clear hb); (try clear hb2); (try clear hk); (try clear hi); (try clear ho0)) | ((with_reducible refine gate_callee (f := 13) rfl ?_); refine goesL_ (some 29) rfl rfl Try.func13 (by kernel_rfl) rfl #[.slice Ao12 t194.length co12] rfl (by (try simp only [List.map_toArray, List.map_cons, List.map_nil]); first | done | rfl | (simp only [List.length_drop, List.length_take]; rfl)) ?_; (with_reducible refine (line_Pop.calls (fun k_ => (True ∧ some k_ ≠ (v198 : Value).ownBlock)) _ _ t194 t201 t204 t205 _ ?side1 A6.out).mono ?_); (case side1 => exact HO196.out); rintro e w14 ⟨v202, rfl, ho0, hb⟩; refine ⟨_, rfl, ?_⟩; have n0_ := Aside0.mk (Kd.V_below (by (with_reducible repeat (first | apply Kd.V_alloc | apply Kd.V_drewN | apply Kd.V_drew)); exact HO196.out) hb); have n1_ := Aside0.mk (Kd.R_below (by (with_reducible repeat (first | apply Kd.R_alloc | apply Kd.R_drewN | apply Kd.R_drew)); exact HO199.out) hb); have n2_ := Aside0.mk (Kd.V_lower (Kd.V_mono (ok' := fun k_ => some k_ ≠ (v198 : Value).ownBlock) ho0 (fun k_ hk_ => Or.elim hk_ (fun hs_ => hs_.2) (fun hn_ => (Kd.fresh' (Kd.R_lt (by (with_reducible repeat (first | apply Kd.R_alloc | apply Kd.R_drewN | apply Kd.R_drew)); exact HO199.out)) k_ hn_)))) (below_size (by repeat (first | (with_reducible first | exact HB.out | apply below_alloc | apply pw_below_drewN | apply below_drew1) | exact HB.out)))); have n3_ := Aside0.mk (below_step (by repeat (first | (with_reducible first | exact HB.out | apply below_alloc | apply pw_below_drewN | apply below_drew1) | exact HB.out)) hb); clear HO196; clear HO199; clear HB; have HO196 := n0_; have HO199 := n1_; have HO203 := n2_; have HB := n3_; clear n0_ n1_ n2_ n3_; (try clear hb); (try clear hb2); (try clear hk); (try clear hi); (try clear ho0)) | ((with_reducible refine gate_callee (f := 11) rfl ?_); refine goesL_ (some 36) rfl rfl Try.func11 (by kernel_rfl) rfl #[.slice Ao12 t194.length co12, .int .i64 a1] rfl (by (try simp only [List.map_toArray, List.map_cons, List.map_nil]); first | done | rfl | (simp only [List.length_drop, List.length_take]; rfl)) ?_; (with_reducible refine (line_Drop.calls k (fun k_ => (True ∧ some k_ ≠ (v198 : Value).ownBlock)) _ _ t194 a1 t206 t209 _ ?side1 A7.out).mono ?_); (case side1 => exact HO196.out); rintro e w15 ⟨v207, rfl, ho0, hb⟩; refine ⟨_, rfl, ?_⟩; have n0_ := Aside0.mk (Kd.V_elder' (by (with_reducible repeat (first | apply Kd.V_alloc | apply Kd.V_drewN | apply Kd.V_drew)); exact HO196.out) (Kd.R_base ho0) hb); have n1_ := Aside0.mk (Kd.R_elder' (by (with_reducible repeat (first | apply Kd.R_alloc | apply Kd.R_drewN | apply Kd.R_drew)); exact HO199.out) (Kd.R_base ho0) hb); have n2_ := Aside0.mk (Kd.V_elder' (by (with_reducible repeat (first | apply Kd.V_alloc | apply Kd.V_drewN | apply Kd.V_drew)); exact HO203.out) (Kd.R_base ho0) hb); have n3_ := Aside0.mk (Kd.R_lower (Kd.R_new' (Kd.R_mono (ok' := fun k_ => True) ho0 (fun _ hk_ => trivial)) (Kd.R_lt (by (with_reducible repeat (first | apply Kd.R_alloc | apply Kd.R_drewN | apply Kd.R_drew)); exact HO199.out))) (below_size (by repeat (first | (with_reducible first | exact HB.out | apply below_alloc | apply pw_below_drewN | apply below_drew1) | exact HB.out)))); have n4_ := Aside0.mk (below_step (by repeat (first | (with_reducible first | exact HB.out | apply below_alloc | apply pw_below_drewN | apply below_drew1) | exact HB.out)) hb); clear HO196; clear HO199; clear HO203; clear HB; have HO196 := n0_; have HO199 := n1_; have HO203 := n2_; have HO208 := n3_; have HB := n4_; clear n0_ n1_ n2_ n3_ n4_; (try clear hb); (try clear hb2); (try clear hk); (try clear hi); (try clear ho0)) | ((with_reducible refine gate_callee (f := 10) rfl ?_); refine goesL_ (some 42) rfl rfl Try.func10 (by kernel_rfl) rfl #[.slice Ao12 t194.length co12, .int .i64 a1] rfl (by (try simp only [List.map_toArray, List.map_cons, List.map_nil]); first | done | rfl | (simp only [List.length_drop, List.length_take]; rfl)) ?_; (with_reducible refine (line_Place.calls k _ _ t194 a1 t210 t211 _ ?side1 ?side2 A8.out).mono ?_); (case side1 => repeat (first | exact (Kd.V_reads' HO196.out).2.2 | (with_reducible refine Kd.C_alloc ?_ _) | (with_reducible refine Kd.C_drewN ?_ _) | (with_reducible refine Kd.C_drew ?_))); (case side2 => exact (Kd.V_reads' HO196.out).2.1); rintro e w' ⟨rfl, ⟨nd, rfl⟩⟩; refine ⟨_, rfl, ?_⟩) | ((with_reducible refine gate_callee (f := 15) rfl ?_); refine goesL_ (some 46) rfl rfl Try.func15 (by kernel_rfl) rfl #[.slice Ao12 t194.length co12] rfl (by (try simp only [List.map_toArray, List.map_cons, List.map_nil]); first | done | rfl | (simp only [List.length_drop, List.length_take]; rfl)) ?_; (with_reducible refine (deadboltref07_Right.calls _ _ t194 t212 _ ?side1 ?side2 A9.out).mono ?_); (case side1 => repeat (first | exact (Kd.V_reads' HO196.out).2.2 | (with_reducible refine Kd.C_alloc ?_ _) | (with_reducible refine Kd.C_drewN ?_ _) | (with_reducible refine Kd.C_drew ?_))); (case side2 => exact (Kd.V_reads' HO196.out).2.1); rintro e w' ⟨rfl, ⟨nd, rfl⟩⟩; refine ⟨_, rfl, ?_⟩))
  (try simp only [Act.put, List.setIfInBounds_toArray, List.set_cons_zero, List.set_cons_succ])
  go_cut [54] (fun v54 wc => ∃ (kq : Nat) (x54_9 : Bool), v54 = .bool x54_9 ∧ Aside0 (deadboltlaw07_LineTells.j0 kq t194 a1 a2 t197 t200 t201 t204 t205 t206 t209 t210 t211 t212 x54_9 = some r) ∧ Aside0 (kq ≤ k) ∧ Aside0 (Kd.V (Kd.int .i64) 3 wc w.heap.size (fun k_ => some k_ ≠ (v198 : Value).ownBlock ∧ some k_ ≠ (v207 : Value).ownBlock) (.slice Ao12 t194.length co12) t194) ∧ Aside0 (Kd.R (Kd.int .i64) 3 wc w.heap.size (fun k_ => some k_ ≠ (v207 : Value).ownBlock) v198 t197) ∧ Aside0 (Kd.V (Kd.int .i64) 3 wc w.heap.size (fun k_ => some k_ ≠ (v198 : Value).ownBlock ∧ some k_ ≠ (v207 : Value).ownBlock) v202 t201) ∧ Aside0 (Kd.R (Kd.int .i64) 3 wc w.heap.size (fun k_ => some k_ ≠ (v198 : Value).ownBlock) v207 t206) ∧ Aside0 (Below w.heap.size w wc))
  case first =>
    have H := HC10.out
    clear HC10
    replace H := Option.bind_eq_some_iff.mp H
    obtain ⟨t213, A160, H⟩ := H
    replace H : (if (t213 != t212) = true then (deadboltlaw07_LineTells.j0 k t194 a1 a2 t197 t200 t201 t204 t205 t206 t209 t210 t211 t212 true) else ((deadboltlaw07_alive.f k).bind fun t214 => (deadboltlaw07_LineTells.j0 k t194 a1 a2 t197 t200 t201 t204 t205 t206 t209 t210 t211 t212 (!t214)))) = some r := H
    have A16 := Aside0.mk A160
    clear A160
    by_cases c17 : (t213 != t212) = true
    · rw [if_pos c17] at H
      have c17b0 : (t213 != t212) = true := c17
      (try (have c17b1 : decide (t213 = t212) = false := by simpa using c17))
      (try (have c17b2 : (t213 == t212) = false := by simpa using c17))
      (try (have c17b3 : ¬ (t213 = t212) := by simpa using c17))
      clear c17
      (first | rw [c17b0] | (simp only [i64_w, i32_w]; rw [c17b0]) | skip)
      as_aux_lemma =>
        have H' := Aside0.mk H
        clear H
        go_wp2_with (first | ((with_reducible refine gate_callee (f := 8) rfl ?_); refine goesL_ (some 48) rfl rfl Try.func8 (by kernel_rfl) rfl #[.slice Ao12 t194.length co12] rfl (by (try simp only [List.map_toArray, List.map_cons, List.map_nil]); first | done | rfl | (simp only [List.length_drop, List.length_take]; rfl)) ?_; (with_reducible refine (line_Right.calls _ _ t194 t213 _ ?side1 ?side2 A16.out).mono ?_); (case side1 => repeat (first | exact (Kd.V_reads' HO196.out).2.2 | (with_reducible refine Kd.C_alloc ?_ _) | (with_reducible refine Kd.C_drewN ?_ _) | (with_reducible refine Kd.C_drew ?_))); (case side2 => exact (Kd.V_reads' HO196.out).2.1); rintro e w' ⟨rfl, ⟨nd, rfl⟩⟩; refine ⟨_, rfl, ?_⟩))
        go_meet
        case rel => exact ⟨_, (true), (by first | rfl | (simp; done) | (simp [*]; done)), H', ⟨by first | omega | exact Nat.le_refl _⟩, ⟨by (with_reducible repeat (first | apply Kd.V_alloc | apply Kd.V_drewN | apply Kd.V_drew)); exact Kd.V_mono HO196.out (fun _ hk => ⟨hk.1.2, hk.2⟩)⟩, ⟨by (with_reducible repeat (first | apply Kd.R_alloc | apply Kd.R_drewN | apply Kd.R_drew)); exact Kd.R_mono HO199.out (fun _ hk => hk.2)⟩, ⟨by (with_reducible repeat (first | apply Kd.V_alloc | apply Kd.V_drewN | apply Kd.V_drew)); exact HO203.out⟩, ⟨by (with_reducible repeat (first | apply Kd.R_alloc | apply Kd.R_drewN | apply Kd.R_drew)); exact Kd.R_mono HO208.out (fun _ hk => hk.2)⟩, ⟨by repeat (first | (with_reducible first | exact HB.out | apply below_alloc | apply pw_below_drewN | apply below_drew1) | exact HB.out)⟩⟩
    · rw [if_neg c17] at H
      have c17b0 : (t213 != t212) = false := by simpa using c17
      (try (have c17b1 : decide (t213 = t212) = true := by simpa using c17))
      (try (have c17b2 : (t213 == t212) = true := by simpa using c17))
      clear c17
      (first | rw [c17b0] | (simp only [i64_w, i32_w]; rw [c17b0]) | skip)
      replace H := Option.bind_eq_some_iff.mp H
      obtain ⟨t214, A180, H⟩ := H
      replace H : (deadboltlaw07_LineTells.j0 k t194 a1 a2 t197 t200 t201 t204 t205 t206 t209 t210 t211 t212 (!t214)) = some r := H
      have A18 := Aside0.mk A180
      clear A180
      as_aux_lemma =>
        have H' := Aside0.mk H
        clear H
        go_wp2_with (first | ((with_reducible refine gate_callee (f := 8) rfl ?_); refine goesL_ (some 48) rfl rfl Try.func8 (by kernel_rfl) rfl #[.slice Ao12 t194.length co12] rfl (by (try simp only [List.map_toArray, List.map_cons, List.map_nil]); first | done | rfl | (simp only [List.length_drop, List.length_take]; rfl)) ?_; (with_reducible refine (line_Right.calls _ _ t194 t213 _ ?side1 ?side2 A16.out).mono ?_); (case side1 => repeat (first | exact (Kd.V_reads' HO196.out).2.2 | (with_reducible refine Kd.C_alloc ?_ _) | (with_reducible refine Kd.C_drewN ?_ _) | (with_reducible refine Kd.C_drew ?_))); (case side2 => exact (Kd.V_reads' HO196.out).2.1); rintro e w' ⟨rfl, ⟨nd, rfl⟩⟩; refine ⟨_, rfl, ?_⟩) | (go_at_call 9; (with_reducible refine (deadboltlaw07_alive.calls k  t214 _ A18.out).mono ?_); rintro e w19 ⟨rfl, hb⟩; have n0_ := Aside0.mk (Kd.V_below (by (with_reducible repeat (first | apply Kd.V_alloc | apply Kd.V_drewN | apply Kd.V_drew)); exact HO196.out) hb); have n1_ := Aside0.mk (Kd.R_below (by (with_reducible repeat (first | apply Kd.R_alloc | apply Kd.R_drewN | apply Kd.R_drew)); exact HO199.out) hb); have n2_ := Aside0.mk (Kd.V_below (by (with_reducible repeat (first | apply Kd.V_alloc | apply Kd.V_drewN | apply Kd.V_drew)); exact HO203.out) hb); have n3_ := Aside0.mk (Kd.R_below (by (with_reducible repeat (first | apply Kd.R_alloc | apply Kd.R_drewN | apply Kd.R_drew)); exact HO208.out) hb); have n4_ := Aside0.mk (below_step (by repeat (first | (with_reducible first | exact HB.out | apply below_alloc | apply pw_below_drewN | apply below_drew1) | exact HB.out)) hb); clear HO196; clear HO199; clear HO203; clear HO208; clear HB; have HO196 := n0_; have HO199 := n1_; have HO203 := n2_; have HO208 := n3_; have HB := n4_; clear n0_ n1_ n2_ n3_ n4_; (try clear hb); (try clear hb2); (try clear hk); (try clear hi)))
        go_meet
        case rel => exact ⟨_, (!t214), (by first | rfl | (simp; done) | (simp [*]; done)), H', ⟨by first | omega | exact Nat.le_refl _⟩, ⟨by (with_reducible repeat (first | apply Kd.V_alloc | apply Kd.V_drewN | apply Kd.V_drew)); exact Kd.V_mono HO196.out (fun _ hk => ⟨hk.1.2, hk.2⟩)⟩, ⟨by (with_reducible repeat (first | apply Kd.R_alloc | apply Kd.R_drewN | apply Kd.R_drew)); exact Kd.R_mono HO199.out (fun _ hk => hk.2)⟩, ⟨by (with_reducible repeat (first | apply Kd.V_alloc | apply Kd.V_drewN | apply Kd.V_drew)); exact HO203.out⟩, ⟨by (with_reducible repeat (first | apply Kd.R_alloc | apply Kd.R_drewN | apply Kd.R_drew)); exact Kd.R_mono HO208.out (fun _ hk => hk.2)⟩, ⟨by repeat (first | (with_reducible first | exact HB.out | apply below_alloc | apply pw_below_drewN | apply below_drew1) | exact HB.out)⟩⟩
  case rest =>
    clear HC10
    try clear c1
    try clear p2
    try clear c5
    try clear c7
    try clear c8
    try clear c10
    try clear c11
    try clear c12
    try clear c13
    try clear c15
    try clear c17
    try clear c17b0
    try clear c17b1
    try clear c17b2
    obtain ⟨kq, x54_9, rfl, HA, HJ9, HO_0, HO_7, HO_9, HO_12, HB⟩ := hcut
    cases kq with
    | zero => exact absurd HA.out (by simp [deadboltlaw07_LineTells.j0])
    | succ kj9 =>
      have H := HA.out
      clear HA
      simp only [deadboltlaw07_LineTells.j0] at H
      by_cases c20 : x54_9 = true
      · subst c20
        have H1 : (some false) = some r := by rw [if_pos rfl] at H; exact H
        clear H
        have H := H1
        clear H1
        as_aux_lemma =>
          obtain rfl := Option.some.inj H
          go_wp2
          go_ret
          exact ⟨by first | rfl | (simp [errW_none, errW_some] <;> rfl) | (simp [*, errW_none, errW_some] <;> rfl), by repeat (first | (with_reducible first | exact HB.out | apply below_alloc | apply pw_below_drewN | apply below_drew1) | exact HB.out)⟩
      · replace c20 := Bool.eq_false_iff.mpr c20
        subst c20
        have H1 : (if t212 = true then (if (t194.length : Int) = 0 then (if t205 = 4 then (if (t201.length : Int) = 0 then (if t204 = 0 then (deadboltlaw07_LineTells.j1 kj9 t194 a1 a2 t197 t200 t206 t209 t210 t211 t212) else (some false)) else (some false)) else (some false)) else (if t205 = 0 then (if 0 < (t194.length : Int) then (if t204 = (rd t194 0) then (if 1 ≤ (t194.length : Int) then ((deadboltref07_Same.f kj9 t201 (t194.drop 1)).bind fun t221 => (if t221 = true then (deadboltlaw07_LineTells.j1 kj9 t194 a1 a2 t197 t200 t206 t209 t210 t211 t212) else (some false))) else (none)) else (some false)) else (none)) else (some false))) else (if t205 = 1 then (if (t201.length : Int) = 0 then (if t204 = 0 then (deadboltlaw07_LineTells.j1 kj9 t194 a1 a2 t197 t200 t206 t209 t210 t211 t212) else (some false)) else (some false)) else (some false))) = some r := by rw [if_neg (show ¬ (false = true) by decide)] at H; exact H
        clear H
        have H := H1
        clear H1
        have HC21 := Aside0.mk H
        clear H
        go_upto_block 0 with (fail)
        go_cut [] (fun wc => ∃ (kq : Nat), Aside0 (deadboltlaw07_LineTells.j1 kq t194 a1 a2 t197 t200 t206 t209 t210 t211 t212 = some r) ∧ Aside0 (kq ≤ kj9) ∧ Aside0 (Kd.V (Kd.int .i64) 3 wc w.heap.size (fun k_ => some k_ ≠ (v198 : Value).ownBlock ∧ some k_ ≠ (v207 : Value).ownBlock) (.slice Ao12 t194.length co12) t194) ∧ Aside0 (Kd.R (Kd.int .i64) 3 wc w.heap.size (fun k_ => some k_ ≠ (v207 : Value).ownBlock) v198 t197) ∧ Aside0 (Kd.R (Kd.int .i64) 3 wc w.heap.size (fun k_ => some k_ ≠ (v198 : Value).ownBlock) v207 t206) ∧ Aside0 (Below w.heap.size w wc))
        case first =>
          have H := HC21.out
          clear HC21
          by_cases c22 : t212 = true
          · subst c22
            have H1 : (if (t194.length : Int) = 0 then (if t205 = 4 then (if (t201.length : Int) = 0 then (if t204 = 0 then (deadboltlaw07_LineTells.j1 kj9 t194 a1 a2 t197 t200 t206 t209 t210 t211 true) else (some false)) else (some false)) else (some false)) else (if t205 = 0 then (if 0 < (t194.length : Int) then (if t204 = (rd t194 0) then (if 1 ≤ (t194.length : Int) then ((deadboltref07_Same.f kj9 t201 (t194.drop 1)).bind fun t221 => (if t221 = true then (deadboltlaw07_LineTells.j1 kj9 t194 a1 a2 t197 t200 t206 t209 t210 t211 true) else (some false))) else (none)) else (some false)) else (none)) else (some false))) = some r := by rw [if_pos rfl] at H; exact H
            clear H
            have H := H1
            clear H1
            by_cases c23 : (t194.length : Int) = 0
            · rw [if_pos c23] at H
              have c23b0 : ((t194.length : Int) == 0) = true := beq_iff_eq.mpr c23
              have c23b1 : ((t194.length : Int) != 0) = false := bne_eq_false_iff_eq.mpr c23
              clear c23
              (first | rw [c23b0] | (simp only [i64_w, i32_w]; rw [c23b0]) | skip)
              by_cases c24 : t205 = 4
              · rw [if_pos c24] at H
                have c24b0 : (t205 == 4) = true := beq_iff_eq.mpr c24
                have c24b1 : (t205 != 4) = false := bne_eq_false_iff_eq.mpr c24
                clear c24
                by_cases c25 : (t201.length : Int) = 0
                · rw [if_pos c25] at H
                  have c25b0 : ((t201.length : Int) == 0) = true := beq_iff_eq.mpr c25
                  have c25b1 : ((t201.length : Int) != 0) = false := bne_eq_false_iff_eq.mpr c25
                  clear c25
                  by_cases c26 : t204 = 0
                  · rw [if_pos c26] at H
                    have c26b0 : (t204 == 0) = true := beq_iff_eq.mpr c26
                    have c26b1 : (t204 != 0) = false := bne_eq_false_iff_eq.mpr c26
                    clear c26
                    as_aux_lemma =>
                      have H' := Aside0.mk H
                      clear H
                      obtain ⟨Ao27, co27, eo27⟩ := Kd.V_slice HO_9.out
                      subst eo27
                      go_wp2
                      go_meet
                      case rel => exact ⟨_, H', ⟨by have := HJ9.out; first | omega | exact Nat.le_refl _⟩, ⟨by (with_reducible repeat (first | apply Kd.V_alloc | apply Kd.V_drewN | apply Kd.V_drew)); exact HO_0.out⟩, ⟨by (with_reducible repeat (first | apply Kd.R_alloc | apply Kd.R_drewN | apply Kd.R_drew)); exact HO_7.out⟩, ⟨by (with_reducible repeat (first | apply Kd.R_alloc | apply Kd.R_drewN | apply Kd.R_drew)); exact HO_12.out⟩, ⟨by repeat (first | (with_reducible first | exact HB.out | apply below_alloc | apply pw_below_drewN | apply below_drew1) | exact HB.out)⟩⟩
                  · rw [if_neg c26] at H
                    have c26b0 : (t204 == 0) = false := beq_eq_false_iff_ne.mpr c26
                    have c26b1 : (t204 != 0) = true := bne_iff_ne.mpr c26
                    as_aux_lemma =>
                      obtain rfl := Option.some.inj H
                      obtain ⟨Ao28, co28, eo28⟩ := Kd.V_slice HO_9.out
                      subst eo28
                      go_wp2
                      go_ret
                      exact ⟨by first | rfl | (simp [errW_none, errW_some] <;> rfl) | (simp [*, errW_none, errW_some] <;> rfl), by repeat (first | (with_reducible first | exact HB.out | apply below_alloc | apply pw_below_drewN | apply below_drew1) | exact HB.out)⟩
                · rw [if_neg c25] at H
                  have c25b0 : ((t201.length : Int) == 0) = false := beq_eq_false_iff_ne.mpr c25
                  have c25b1 : ((t201.length : Int) != 0) = true := bne_iff_ne.mpr c25
                  have c25b2 : ¬ (t201 = []) := fun h_ => c25 (by rw [h_]; rfl)
                  as_aux_lemma =>
                    obtain rfl := Option.some.inj H
                    obtain ⟨Ao29, co29, eo29⟩ := Kd.V_slice HO_9.out
                    subst eo29
                    go_wp2
                    go_ret
                    exact ⟨by first | rfl | (simp [errW_none, errW_some] <;> rfl) | (simp [*, errW_none, errW_some] <;> rfl), by repeat (first | (with_reducible first | exact HB.out | apply below_alloc | apply pw_below_drewN | apply below_drew1) | exact HB.out)⟩
              · rw [if_neg c24] at H
                have c24b0 : (t205 == 4) = false := beq_eq_false_iff_ne.mpr c24
                have c24b1 : (t205 != 4) = true := bne_iff_ne.mpr c24
                as_aux_lemma =>
                  obtain rfl := Option.some.inj H
                  go_wp2
                  go_ret
                  exact ⟨by first | rfl | (simp [errW_none, errW_some] <;> rfl) | (simp [*, errW_none, errW_some] <;> rfl), by repeat (first | (with_reducible first | exact HB.out | apply below_alloc | apply pw_below_drewN | apply below_drew1) | exact HB.out)⟩
            · rw [if_neg c23] at H
              have c23b0 : ((t194.length : Int) == 0) = false := beq_eq_false_iff_ne.mpr c23
              have c23b1 : ((t194.length : Int) != 0) = true := bne_iff_ne.mpr c23
              have c23b2 : ¬ (t194 = []) := fun h_ => c23 (by rw [h_]; rfl)
              (first | rw [c23b0] | (simp only [i64_w, i32_w]; rw [c23b0]) | skip)
              by_cases c30 : t205 = 0
              · rw [if_pos c30] at H
                have c30b0 : (t205 == 0) = true := beq_iff_eq.mpr c30
                have c30b1 : (t205 != 0) = false := bne_eq_false_iff_eq.mpr c30
                clear c30
                by_cases c31 : 0 < (t194.length : Int)
                · rw [if_pos c31] at H
                  have c31b0 : decide (0 < (t194.length : Int)) = true := decide_eq_true c31
                  have c31b1 : decide (0 < t194.length) = true := decide_eq_true (by omega)
                  clear c31
                  by_cases c32 : t204 = (rd t194 0)
                  · rw [if_pos c32] at H
                    have c32b0 : (t204 == (rd t194 0)) = true := beq_iff_eq.mpr c32
                    have c32b1 : (t204 != (rd t194 0)) = false := bne_eq_false_iff_eq.mpr c32
                    clear c32
                    by_cases c33 : 1 ≤ (t194.length : Int)
                    · rw [if_pos c33] at H
                      have c33b0 := eq_true c33
                      have c33b1 : decide (1 ≤ (t194.length : Int)) = true := decide_eq_true c33
                      clear c33
                      obtain ⟨y216, hy216⟩ : ∃ y_ : List Int, y_ = (t194.drop 1) := ⟨_, rfl⟩
                      replace H : ((deadboltref07_Same.f kj9 t201 y216).bind fun t221 => (if t221 = true then (deadboltlaw07_LineTells.j1 kj9 t194 a1 a2 t197 t200 t206 t209 t210 t211 true) else (some false))) = some r := by first | (rw [hy216]; with_reducible exact H) | (have H2_ := (Option.bind_some _ _).symm.trans H; rw [hy216]; with_reducible exact H2_) | (have H2_ := (Option.bind_some _ _).symm.trans H; with_reducible exact H2_) | with_reducible exact H | (rw [hy216]; exact H) | exact H
                      have Ny216 := Aside0.mk hy216
                      clear hy216
                      replace H := Option.bind_eq_some_iff.mp H
                      obtain ⟨t221, A340, H⟩ := H
                      replace H : (if t221 = true then (deadboltlaw07_LineTells.j1 kj9 t194 a1 a2 t197 t200 t206 t209 t210 t211 true) else (some false)) = some r := H
                      have A34 := Aside0.mk A340
                      clear A340
                      by_cases c35 : t221 = true
                      · subst c35
                        have H1 : (deadboltlaw07_LineTells.j1 kj9 t194 a1 a2 t197 t200 t206 t209 t210 t211 true) = some r := by rw [if_pos rfl] at H; exact H
                        clear H
                        have H := H1
                        clear H1
                        as_aux_lemma =>
                          have H' := Aside0.mk H
                          clear H
                          have p215 : 0 ≤ (0 : Int) := (by omega)
                          have q215 : 0 < (t194.length : Int) := of_decide_eq_true (by first | (with_reducible assumption) | assumption)
                          obtain ⟨ad215, e215, hx215_0⟩ := Kd.at_int (Kd.V_reads' HO_0.out).2.2 0 p215 q215
                          cases e215
                          have qi215 : (0 < t194.length) = True := eq_true (by omega)
                          (try rw [show ((0 : Int)).toNat = 0 from rfl] at hx215_0)
                          (try rw [Addr.add_zero'] at hx215_0)
                          replace p215 := eq_true p215
                          replace q215 := eq_true q215
                          have q36 : (1 : Int) ≤ ((t194.length : Int) : Int) := of_decide_eq_true (by first | (with_reducible assumption) | assumption)
                          obtain ⟨i036, hi036, _, hsz36, _⟩ := info_parts info3
                          have hroom36 : t194.length ≤ co12 := (Kd.V_reads' HO_0.out).2.1
                          have hC36 : Kd.F (Kd.int .i64) _ _ (some ad215) t194.length t194 := (Kd.V_at (base := w.heap.size) HO_0.out).2.2
                          have hcut36 := cut_from (P := Try.prog) 22 3 .i64 Try.underlying22 hi036 1 hsz36 (some ad215) t194.length co12 1 (by omega) q36
                          have hr36 := Kd.F_cut (m := (1 : Int).toNat) (c := co12) hC36 (by omega) hroom36
                          obtain ⟨A36, hA36⟩ : ∃ A1, A1 = (if co12 = (1 : Int).toNat then (some ad215) else ((some ad215) : Option Addr).map (·.add ((1 : Int).toNat * 1))) := ⟨_, rfl⟩
                          obtain ⟨c36, hc36⟩ : ∃ c1, c1 = co12 - (1 : Int).toNat := ⟨_, rfl⟩
                          have hy36 : y216.length = t194.length - (1 : Int).toNat := (by rw [Ny216.out, List.length_drop] <;> omega)
                          rw [show (t194).drop (1 : Int).toNat = y216 from Ny216.out.symm] at hr36
                          replace hr36 : Kd.F (Kd.int .i64) _ _ A36 y216.length y216 := (by rw [hA36]; exact hr36)
                          rw [← hy36, ← hA36, ← hc36] at hcut36
                          have HO220 := Aside0.mk (show Kd.V (Kd.int .i64) 3 _ w.heap.size _ (.slice A36 y216.length c36) y216 from Kd.V_mk (by rw [hy36, hc36]; exact Nat.sub_le_sub_right hroom36 _) hr36)
                          have HC220 := Aside0.mk (show y216.length ≤ c36 from by rw [hy36, hc36]; exact Nat.sub_le_sub_right hroom36 _)
                          clear hr36 hC36 hroom36 hi036 hsz36 hc36
                          have KY36 := Aside0.mk hy36
                          have KA36 := Aside0.mk hA36
                          clear hy36 hA36
                          replace q36 := eq_true q36
                          obtain ⟨Ao37, co37, eo37⟩ := Kd.V_slice HO_9.out
                          subst eo37
                          go_wp2_with (first | (go_at_call 14; (with_reducible refine (deadboltref07_Same.calls kj9 _ _ t201 _ _ y216 true _ ?side1 ?side2 ?side3 ?side4 A34.out).mono ?_); (case side1 => repeat (first | exact (Kd.V_reads' HO_9.out).2.2 | (with_reducible refine Kd.C_alloc ?_ _) | (with_reducible refine Kd.C_drewN ?_ _) | (with_reducible refine Kd.C_drew ?_))); (case side2 => exact (Kd.V_reads' HO_9.out).2.1); (case side3 => repeat (first | exact (Kd.V_reads' HO220.out).2.2 | (with_reducible refine Kd.C_alloc ?_ _) | (with_reducible refine Kd.C_drewN ?_ _) | (with_reducible refine Kd.C_drew ?_))); (case side4 => exact (Kd.V_reads' HO220.out).2.1); rintro e w' ⟨rfl, ⟨nd, rfl⟩⟩))
                          go_meet
                          case rel => exact ⟨_, H', ⟨by have := HJ9.out; first | omega | exact Nat.le_refl _⟩, ⟨by (with_reducible repeat (first | apply Kd.V_alloc | apply Kd.V_drewN | apply Kd.V_drew)); exact HO_0.out⟩, ⟨by (with_reducible repeat (first | apply Kd.R_alloc | apply Kd.R_drewN | apply Kd.R_drew)); exact HO_7.out⟩, ⟨by (with_reducible repeat (first | apply Kd.R_alloc | apply Kd.R_drewN | apply Kd.R_drew)); exact HO_12.out⟩, ⟨by repeat (first | (with_reducible first | exact HB.out | apply below_alloc | apply pw_below_drewN | apply below_drew1) | exact HB.out)⟩⟩
                      · replace c35 := Bool.eq_false_iff.mpr c35
                        subst c35
                        have H1 : (some false) = some r := by rw [if_neg (show ¬ (false = true) by decide)] at H; exact H
                        clear H
                        have H := H1
                        clear H1
                        as_aux_lemma =>
                          obtain rfl := Option.some.inj H
                          have p215 : 0 ≤ (0 : Int) := (by omega)
                          have q215 : 0 < (t194.length : Int) := of_decide_eq_true (by first | (with_reducible assumption) | assumption)
                          obtain ⟨ad215, e215, hx215_0⟩ := Kd.at_int (Kd.V_reads' HO_0.out).2.2 0 p215 q215
                          cases e215
                          have qi215 : (0 < t194.length) = True := eq_true (by omega)
                          (try rw [show ((0 : Int)).toNat = 0 from rfl] at hx215_0)
                          (try rw [Addr.add_zero'] at hx215_0)
                          replace p215 := eq_true p215
                          replace q215 := eq_true q215
                          have q38 : (1 : Int) ≤ ((t194.length : Int) : Int) := of_decide_eq_true (by first | (with_reducible assumption) | assumption)
                          obtain ⟨i038, hi038, _, hsz38, _⟩ := info_parts info3
                          have hroom38 : t194.length ≤ co12 := (Kd.V_reads' HO_0.out).2.1
                          have hC38 : Kd.F (Kd.int .i64) _ _ (some ad215) t194.length t194 := (Kd.V_at (base := w.heap.size) HO_0.out).2.2
                          have hcut38 := cut_from (P := Try.prog) 22 3 .i64 Try.underlying22 hi038 1 hsz38 (some ad215) t194.length co12 1 (by omega) q38
                          have hr38 := Kd.F_cut (m := (1 : Int).toNat) (c := co12) hC38 (by omega) hroom38
                          obtain ⟨A38, hA38⟩ : ∃ A1, A1 = (if co12 = (1 : Int).toNat then (some ad215) else ((some ad215) : Option Addr).map (·.add ((1 : Int).toNat * 1))) := ⟨_, rfl⟩
                          obtain ⟨c38, hc38⟩ : ∃ c1, c1 = co12 - (1 : Int).toNat := ⟨_, rfl⟩
                          have hy38 : y216.length = t194.length - (1 : Int).toNat := (by rw [Ny216.out, List.length_drop] <;> omega)
                          rw [show (t194).drop (1 : Int).toNat = y216 from Ny216.out.symm] at hr38
                          replace hr38 : Kd.F (Kd.int .i64) _ _ A38 y216.length y216 := (by rw [hA38]; exact hr38)
                          rw [← hy38, ← hA38, ← hc38] at hcut38
                          have HO220 := Aside0.mk (show Kd.V (Kd.int .i64) 3 _ w.heap.size _ (.slice A38 y216.length c38) y216 from Kd.V_mk (by rw [hy38, hc38]; exact Nat.sub_le_sub_right hroom38 _) hr38)
                          have HC220 := Aside0.mk (show y216.length ≤ c38 from by rw [hy38, hc38]; exact Nat.sub_le_sub_right hroom38 _)
                          clear hr38 hC38 hroom38 hi038 hsz38 hc38
                          have KY38 := Aside0.mk hy38
                          have KA38 := Aside0.mk hA38
                          clear hy38 hA38
                          replace q38 := eq_true q38
                          obtain ⟨Ao39, co39, eo39⟩ := Kd.V_slice HO_9.out
                          subst eo39
                          go_wp2_with (first | (go_at_call 14; (with_reducible refine (deadboltref07_Same.calls kj9 _ _ t201 _ _ y216 false _ ?side1 ?side2 ?side3 ?side4 A34.out).mono ?_); (case side1 => repeat (first | exact (Kd.V_reads' HO_9.out).2.2 | (with_reducible refine Kd.C_alloc ?_ _) | (with_reducible refine Kd.C_drewN ?_ _) | (with_reducible refine Kd.C_drew ?_))); (case side2 => exact (Kd.V_reads' HO_9.out).2.1); (case side3 => repeat (first | exact (Kd.V_reads' HO220.out).2.2 | (with_reducible refine Kd.C_alloc ?_ _) | (with_reducible refine Kd.C_drewN ?_ _) | (with_reducible refine Kd.C_drew ?_))); (case side4 => exact (Kd.V_reads' HO220.out).2.1); rintro e w' ⟨rfl, ⟨nd, rfl⟩⟩))
                          go_ret
                          exact ⟨by first | rfl | (simp [errW_none, errW_some] <;> rfl) | (simp [*, errW_none, errW_some] <;> rfl), by repeat (first | (with_reducible first | exact HB.out | apply below_alloc | apply pw_below_drewN | apply below_drew1) | exact HB.out)⟩
                    · rw [if_neg c33] at H
                      exact absurd H (by simp)
                  · rw [if_neg c32] at H
                    have c32b0 : (t204 == (rd t194 0)) = false := beq_eq_false_iff_ne.mpr c32
                    have c32b1 : (t204 != (rd t194 0)) = true := bne_iff_ne.mpr c32
                    as_aux_lemma =>
                      obtain rfl := Option.some.inj H
                      have p215 : 0 ≤ (0 : Int) := (by omega)
                      have q215 : 0 < (t194.length : Int) := of_decide_eq_true (by first | (with_reducible assumption) | assumption)
                      obtain ⟨ad215, e215, hx215_0⟩ := Kd.at_int (Kd.V_reads' HO_0.out).2.2 0 p215 q215
                      cases e215
                      have qi215 : (0 < t194.length) = True := eq_true (by omega)
                      (try rw [show ((0 : Int)).toNat = 0 from rfl] at hx215_0)
                      (try rw [Addr.add_zero'] at hx215_0)
                      replace p215 := eq_true p215
                      replace q215 := eq_true q215
                      go_wp2
                      go_ret
                      exact ⟨by first | rfl | (simp [errW_none, errW_some] <;> rfl) | (simp [*, errW_none, errW_some] <;> rfl), by repeat (first | (with_reducible first | exact HB.out | apply below_alloc | apply pw_below_drewN | apply below_drew1) | exact HB.out)⟩
                · rw [if_neg c31] at H
                  exact absurd H (by simp)
              · rw [if_neg c30] at H
                have c30b0 : (t205 == 0) = false := beq_eq_false_iff_ne.mpr c30
                have c30b1 : (t205 != 0) = true := bne_iff_ne.mpr c30
                as_aux_lemma =>
                  obtain rfl := Option.some.inj H
                  go_wp2
                  go_ret
                  exact ⟨by first | rfl | (simp [errW_none, errW_some] <;> rfl) | (simp [*, errW_none, errW_some] <;> rfl), by repeat (first | (with_reducible first | exact HB.out | apply below_alloc | apply pw_below_drewN | apply below_drew1) | exact HB.out)⟩
          · replace c22 := Bool.eq_false_iff.mpr c22
            subst c22
            have H1 : (if t205 = 1 then (if (t201.length : Int) = 0 then (if t204 = 0 then (deadboltlaw07_LineTells.j1 kj9 t194 a1 a2 t197 t200 t206 t209 t210 t211 false) else (some false)) else (some false)) else (some false)) = some r := by rw [if_neg (show ¬ (false = true) by decide)] at H; exact H
            clear H
            have H := H1
            clear H1
            by_cases c40 : t205 = 1
            · rw [if_pos c40] at H
              have c40b0 : (t205 == 1) = true := beq_iff_eq.mpr c40
              have c40b1 : (t205 != 1) = false := bne_eq_false_iff_eq.mpr c40
              clear c40
              by_cases c41 : (t201.length : Int) = 0
              · rw [if_pos c41] at H
                have c41b0 : ((t201.length : Int) == 0) = true := beq_iff_eq.mpr c41
                have c41b1 : ((t201.length : Int) != 0) = false := bne_eq_false_iff_eq.mpr c41
                clear c41
                by_cases c42 : t204 = 0
                · rw [if_pos c42] at H
                  have c42b0 : (t204 == 0) = true := beq_iff_eq.mpr c42
                  have c42b1 : (t204 != 0) = false := bne_eq_false_iff_eq.mpr c42
                  clear c42
                  as_aux_lemma =>
                    have H' := Aside0.mk H
                    clear H
                    obtain ⟨Ao43, co43, eo43⟩ := Kd.V_slice HO_9.out
                    subst eo43
                    go_wp2
                    go_meet
                    case rel => exact ⟨_, H', ⟨by have := HJ9.out; first | omega | exact Nat.le_refl _⟩, ⟨by (with_reducible repeat (first | apply Kd.V_alloc | apply Kd.V_drewN | apply Kd.V_drew)); exact HO_0.out⟩, ⟨by (with_reducible repeat (first | apply Kd.R_alloc | apply Kd.R_drewN | apply Kd.R_drew)); exact HO_7.out⟩, ⟨by (with_reducible repeat (first | apply Kd.R_alloc | apply Kd.R_drewN | apply Kd.R_drew)); exact HO_12.out⟩, ⟨by repeat (first | (with_reducible first | exact HB.out | apply below_alloc | apply pw_below_drewN | apply below_drew1) | exact HB.out)⟩⟩
                · rw [if_neg c42] at H
                  have c42b0 : (t204 == 0) = false := beq_eq_false_iff_ne.mpr c42
                  have c42b1 : (t204 != 0) = true := bne_iff_ne.mpr c42
                  as_aux_lemma =>
                    obtain rfl := Option.some.inj H
                    obtain ⟨Ao44, co44, eo44⟩ := Kd.V_slice HO_9.out
                    subst eo44
                    go_wp2
                    go_ret
                    exact ⟨by first | rfl | (simp [errW_none, errW_some] <;> rfl) | (simp [*, errW_none, errW_some] <;> rfl), by repeat (first | (with_reducible first | exact HB.out | apply below_alloc | apply pw_below_drewN | apply below_drew1) | exact HB.out)⟩
              · rw [if_neg c41] at H
                have c41b0 : ((t201.length : Int) == 0) = false := beq_eq_false_iff_ne.mpr c41
                have c41b1 : ((t201.length : Int) != 0) = true := bne_iff_ne.mpr c41
                have c41b2 : ¬ (t201 = []) := fun h_ => c41 (by rw [h_]; rfl)
                as_aux_lemma =>
                  obtain rfl := Option.some.inj H
                  obtain ⟨Ao45, co45, eo45⟩ := Kd.V_slice HO_9.out
                  subst eo45
                  go_wp2
                  go_ret
                  exact ⟨by first | rfl | (simp [errW_none, errW_some] <;> rfl) | (simp [*, errW_none, errW_some] <;> rfl), by repeat (first | (with_reducible first | exact HB.out | apply below_alloc | apply pw_below_drewN | apply below_drew1) | exact HB.out)⟩
            · rw [if_neg c40] at H
              have c40b0 : (t205 == 1) = false := beq_eq_false_iff_ne.mpr c40
              have c40b1 : (t205 != 1) = true := bne_iff_ne.mpr c40
              as_aux_lemma =>
                obtain rfl := Option.some.inj H
                go_wp2
                go_ret
                exact ⟨by first | rfl | (simp [errW_none, errW_some] <;> rfl) | (simp [*, errW_none, errW_some] <;> rfl), by repeat (first | (with_reducible first | exact HB.out | apply below_alloc | apply pw_below_drewN | apply below_drew1) | exact HB.out)⟩
        case rest =>
          clear HC21
          try clear c1
          try clear c2
          try clear p2
          try clear q2
          try clear hx2
          try clear qi2
          try clear c3
          try clear q3
          try clear c4
          try clear c5
          try clear c7
          try clear c8
          try clear c10
          try clear c11
          try clear c12
          try clear c13
          try clear c15
          try clear c17
          try clear c17b0
          try clear c17b1
          try clear c17b2
          try clear c20
          try clear p21
          try clear q21
          try clear hx21
          try clear qi21
          try clear c22
          try clear c23
          try clear c23b0
          try clear c23b1
          try clear c23b2
          try clear c24
          try clear c24b0
          try clear c24b1
          try clear c25
          try clear c25b0
          try clear c25b1
          try clear c25b2
          try clear c26
          try clear c26b0
          try clear c26b1
          try clear c30
          try clear c30b0
          try clear c30b1
          try clear c31
          try clear c31b0
          try clear c31b1
          try clear c32
          try clear c32b0
          try clear c32b1
          try clear c33
          try clear c33b0
          try clear c33b1
          try clear c35
          try clear c36
          try clear q36
          try clear c38
          try clear q38
          try clear c40
          try clear c40b0
          try clear c40b1
          try clear c41
          try clear c41b0
          try clear c41b1
          try clear c41b2
          try clear c42
          try clear c42b0
          try clear c42b1
          try clear hx215_0
          try clear p2
          try clear p215
          try clear q215
          try clear q36
          try clear q38
          obtain ⟨kq, HA, HJ20, HO_0, HO_7, HO_12, HB⟩ := hcut
          cases kq with
          | zero => exact absurd HA.out (by simp [deadboltlaw07_LineTells.j1])
          | succ kj20 =>
            have H := HA.out
            clear HA
            simp only [deadboltlaw07_LineTells.j1] at H
            have HC46 := Aside0.mk H
            clear H
            go_upto_region 17 with (fail)
            go_cut [106] (fun v106 wc => ∃ (kq : Nat) (x106_45 : Bool), v106 = .bool x106_45 ∧ Aside0 (deadboltlaw07_LineTells.j2 kq t194 a1 a2 t197 t200 t206 t209 t210 t211 x106_45 = some r) ∧ Aside0 (kq ≤ kj20) ∧ Aside0 (Kd.V (Kd.int .i64) 3 wc w.heap.size (fun k_ => some k_ ≠ (v198 : Value).ownBlock ∧ some k_ ≠ (v207 : Value).ownBlock) (.slice Ao12 t194.length co12) t194) ∧ Aside0 (Kd.R (Kd.int .i64) 3 wc w.heap.size (fun k_ => some k_ ≠ (v207 : Value).ownBlock) v198 t197) ∧ Aside0 (Kd.R (Kd.int .i64) 3 wc w.heap.size (fun k_ => some k_ ≠ (v198 : Value).ownBlock) v207 t206) ∧ Aside0 (Below w.heap.size w wc))
            case first =>
              have H := HC46.out
              clear HC46
              by_cases c47 : t212 = true
              · subst c47
                have H1 : (deadboltlaw07_LineTells.j2 kj20 t194 a1 a2 t197 t200 t206 t209 t210 t211 (decide (a1 < 0))) = some r := by rw [if_pos rfl] at H; exact H
                clear H
                have H := H1
                clear H1
                as_aux_lemma =>
                  have H' := Aside0.mk H
                  clear H
                  go_wp2
                  go_meet
                  case rel => exact ⟨_, (decide (a1 < 0)), (by first | rfl | (simp; done) | (simp [*]; done)), H', ⟨by have := HJ9.out; have := HJ20.out; first | omega | exact Nat.le_refl _⟩, ⟨by (with_reducible repeat (first | apply Kd.V_alloc | apply Kd.V_drewN | apply Kd.V_drew)); exact HO_0.out⟩, ⟨by (with_reducible repeat (first | apply Kd.R_alloc | apply Kd.R_drewN | apply Kd.R_drew)); exact HO_7.out⟩, ⟨by (with_reducible repeat (first | apply Kd.R_alloc | apply Kd.R_drewN | apply Kd.R_drew)); exact HO_12.out⟩, ⟨by repeat (first | (with_reducible first | exact HB.out | apply below_alloc | apply pw_below_drewN | apply below_drew1) | exact HB.out)⟩⟩
              · replace c47 := Bool.eq_false_iff.mpr c47
                subst c47
                have H1 : (deadboltlaw07_LineTells.j2 kj20 t194 a1 a2 t197 t200 t206 t209 t210 t211 true) = some r := by rw [if_neg (show ¬ (false = true) by decide)] at H; exact H
                clear H
                have H := H1
                clear H1
                as_aux_lemma =>
                  have H' := Aside0.mk H
                  clear H
                  go_wp2
                  go_meet
                  case rel => exact ⟨_, (true), (by first | rfl | (simp; done) | (simp [*]; done)), H', ⟨by have := HJ9.out; have := HJ20.out; first | omega | exact Nat.le_refl _⟩, ⟨by (with_reducible repeat (first | apply Kd.V_alloc | apply Kd.V_drewN | apply Kd.V_drew)); exact HO_0.out⟩, ⟨by (with_reducible repeat (first | apply Kd.R_alloc | apply Kd.R_drewN | apply Kd.R_drew)); exact HO_7.out⟩, ⟨by (with_reducible repeat (first | apply Kd.R_alloc | apply Kd.R_drewN | apply Kd.R_drew)); exact HO_12.out⟩, ⟨by repeat (first | (with_reducible first | exact HB.out | apply below_alloc | apply pw_below_drewN | apply below_drew1) | exact HB.out)⟩⟩
            case rest =>
              clear HC46
              try clear c1
              try clear c2
              try clear p2
              try clear q2
              try clear hx2
              try clear qi2
              try clear c3
              try clear q3
              try clear c4
              try clear c5
              try clear c7
              try clear c8
              try clear c10
              try clear c11
              try clear c12
              try clear c13
              try clear c15
              try clear c17
              try clear c17b0
              try clear c17b1
              try clear c17b2
              try clear c20
              try clear p21
              try clear q21
              try clear hx21
              try clear qi21
              try clear c22
              try clear c23
              try clear c23b0
              try clear c23b1
              try clear c23b2
              try clear c24
              try clear c24b0
              try clear c24b1
              try clear c25
              try clear c25b0
              try clear c25b1
              try clear c25b2
              try clear c26
              try clear c26b0
              try clear c26b1
              try clear c30
              try clear c30b0
              try clear c30b1
              try clear c31
              try clear c31b0
              try clear c31b1
              try clear c32
              try clear c32b0
              try clear c32b1
              try clear c33
              try clear c33b0
              try clear c33b1
              try clear c35
              try clear c36
              try clear q36
              try clear c38
              try clear q38
              try clear c40
              try clear c40b0
              try clear c40b1
              try clear c41
              try clear c41b0
              try clear c41b1
              try clear c41b2
              try clear c42
              try clear c42b0
              try clear c42b1
              try clear c47
              try clear hx215_0
              try clear p2
              try clear p21
              try clear p215
              try clear q2
              try clear q21
              try clear q215
              try clear q3
              try clear q36
              try clear q38
              obtain ⟨kq, x106_45, rfl, HA, HJ45, HO_0, HO_7, HO_12, HB⟩ := hcut
              cases kq with
              | zero => exact absurd HA.out (by simp [deadboltlaw07_LineTells.j2])
              | succ kj45 =>
                have H := HA.out
                clear HA
                simp only [deadboltlaw07_LineTells.j2] at H
                by_cases c48 : x106_45 = true
                · subst c48
                  have H1 : (if t200 = 1 then (if t209 = 1 then (if t211 = 1 then (if (t197.length : Int) = 0 then (if (t206.length : Int) = 0 then (some (t210 == 0)) else (some false)) else (some false)) else (some false)) else (some false)) else (some false)) = some r := by rw [if_pos rfl] at H; exact H
                  clear H
                  have H := H1
                  clear H1
                  by_cases c49 : t200 = 1
                  · rw [if_pos c49] at H
                    have c49b0 : (t200 == 1) = true := beq_iff_eq.mpr c49
                    have c49b1 : (t200 != 1) = false := bne_eq_false_iff_eq.mpr c49
                    clear c49
                    by_cases c50 : t209 = 1
                    · rw [if_pos c50] at H
                      have c50b0 : (t209 == 1) = true := beq_iff_eq.mpr c50
                      have c50b1 : (t209 != 1) = false := bne_eq_false_iff_eq.mpr c50
                      clear c50
                      by_cases c51 : t211 = 1
                      · rw [if_pos c51] at H
                        have c51b0 : (t211 == 1) = true := beq_iff_eq.mpr c51
                        have c51b1 : (t211 != 1) = false := bne_eq_false_iff_eq.mpr c51
                        clear c51
                        by_cases c52 : (t197.length : Int) = 0
                        · rw [if_pos c52] at H
                          have c52b0 : ((t197.length : Int) == 0) = true := beq_iff_eq.mpr c52
                          have c52b1 : ((t197.length : Int) != 0) = false := bne_eq_false_iff_eq.mpr c52
                          clear c52
                          by_cases c53 : (t206.length : Int) = 0
                          · rw [if_pos c53] at H
                            have c53b0 : ((t206.length : Int) == 0) = true := beq_iff_eq.mpr c53
                            have c53b1 : ((t206.length : Int) != 0) = false := bne_eq_false_iff_eq.mpr c53
                            clear c53
                            as_aux_lemma =>
                              obtain rfl := Option.some.inj H
                              obtain ⟨Ao54, co54, eo54⟩ := Kd.R_slice HO_7.out
                              subst eo54
                              obtain ⟨Ao55, co55, eo55⟩ := Kd.R_slice HO_12.out
                              subst eo55
                              go_wp2
                              go_ret
                              exact ⟨by first | rfl | (simp [errW_none, errW_some] <;> rfl) | (simp [*, errW_none, errW_some] <;> rfl), by repeat (first | (with_reducible first | exact HB.out | apply below_alloc | apply pw_below_drewN | apply below_drew1) | exact HB.out)⟩
                          · rw [if_neg c53] at H
                            have c53b0 : ((t206.length : Int) == 0) = false := beq_eq_false_iff_ne.mpr c53
                            have c53b1 : ((t206.length : Int) != 0) = true := bne_iff_ne.mpr c53
                            have c53b2 : ¬ (t206 = []) := fun h_ => c53 (by rw [h_]; rfl)
                            as_aux_lemma =>
                              obtain rfl := Option.some.inj H
                              obtain ⟨Ao56, co56, eo56⟩ := Kd.R_slice HO_7.out
                              subst eo56
                              obtain ⟨Ao57, co57, eo57⟩ := Kd.R_slice HO_12.out
                              subst eo57
                              go_wp2
                              go_ret
                              exact ⟨by first | rfl | (simp [errW_none, errW_some] <;> rfl) | (simp [*, errW_none, errW_some] <;> rfl), by repeat (first | (with_reducible first | exact HB.out | apply below_alloc | apply pw_below_drewN | apply below_drew1) | exact HB.out)⟩
                        · rw [if_neg c52] at H
                          have c52b0 : ((t197.length : Int) == 0) = false := beq_eq_false_iff_ne.mpr c52
                          have c52b1 : ((t197.length : Int) != 0) = true := bne_iff_ne.mpr c52
                          have c52b2 : ¬ (t197 = []) := fun h_ => c52 (by rw [h_]; rfl)
                          as_aux_lemma =>
                            obtain rfl := Option.some.inj H
                            obtain ⟨Ao58, co58, eo58⟩ := Kd.R_slice HO_7.out
                            subst eo58
                            go_wp2
                            go_ret
                            exact ⟨by first | rfl | (simp [errW_none, errW_some] <;> rfl) | (simp [*, errW_none, errW_some] <;> rfl), by repeat (first | (with_reducible first | exact HB.out | apply below_alloc | apply pw_below_drewN | apply below_drew1) | exact HB.out)⟩
                      · rw [if_neg c51] at H
                        have c51b0 : (t211 == 1) = false := beq_eq_false_iff_ne.mpr c51
                        have c51b1 : (t211 != 1) = true := bne_iff_ne.mpr c51
                        as_aux_lemma =>
                          obtain rfl := Option.some.inj H
                          go_wp2
                          go_ret
                          exact ⟨by first | rfl | (simp [errW_none, errW_some] <;> rfl) | (simp [*, errW_none, errW_some] <;> rfl), by repeat (first | (with_reducible first | exact HB.out | apply below_alloc | apply pw_below_drewN | apply below_drew1) | exact HB.out)⟩
                    · rw [if_neg c50] at H
                      have c50b0 : (t209 == 1) = false := beq_eq_false_iff_ne.mpr c50
                      have c50b1 : (t209 != 1) = true := bne_iff_ne.mpr c50
                      as_aux_lemma =>
                        obtain rfl := Option.some.inj H
                        go_wp2
                        go_ret
                        exact ⟨by first | rfl | (simp [errW_none, errW_some] <;> rfl) | (simp [*, errW_none, errW_some] <;> rfl), by repeat (first | (with_reducible first | exact HB.out | apply below_alloc | apply pw_below_drewN | apply below_drew1) | exact HB.out)⟩
                  · rw [if_neg c49] at H
                    have c49b0 : (t200 == 1) = false := beq_eq_false_iff_ne.mpr c49
                    have c49b1 : (t200 != 1) = true := bne_iff_ne.mpr c49
                    as_aux_lemma =>
                      obtain rfl := Option.some.inj H
                      go_wp2
                      go_ret
                      exact ⟨by first | rfl | (simp [errW_none, errW_some] <;> rfl) | (simp [*, errW_none, errW_some] <;> rfl), by repeat (first | (with_reducible first | exact HB.out | apply below_alloc | apply pw_below_drewN | apply below_drew1) | exact HB.out)⟩
                · replace c48 := Bool.eq_false_iff.mpr c48
                  subst c48
                  have H1 : ((deadboltref07_Place.f kj45 t194 a1).bind fun t222 => (if t222 ≥ 0 then (if t200 = 7 then (if (t197.length : Int) = 0 then (if t209 = 0 then ((deadboltref07_Without.f kj45 t194 a1).bind fun t223 => ((deadboltref07_Same.f kj45 t206 t223).bind fun t226 => (if t226 = true then (if t211 = 0 then (some (t210 == t222)) else (some false)) else (some false)))) else (some false)) else (some false)) else (some false)) else (if t209 = 4 then (if t211 = 4 then (if (t206.length : Int) = 0 then (deadboltlaw07_LineTells.j3 kj45 t194 a1 a2 t197 t200 (t210 != 0)) else (deadboltlaw07_LineTells.j3 kj45 t194 a1 a2 t197 t200 true)) else (deadboltlaw07_LineTells.j3 kj45 t194 a1 a2 t197 t200 true)) else (deadboltlaw07_LineTells.j3 kj45 t194 a1 a2 t197 t200 true)))) = some r := by rw [if_neg (show ¬ (false = true) by decide)] at H; exact H
                  clear H
                  have H := H1
                  clear H1
                  replace H := Option.bind_eq_some_iff.mp H
                  obtain ⟨t222, A590, H⟩ := H
                  replace H : (if t222 ≥ 0 then (if t200 = 7 then (if (t197.length : Int) = 0 then (if t209 = 0 then ((deadboltref07_Without.f kj45 t194 a1).bind fun t223 => ((deadboltref07_Same.f kj45 t206 t223).bind fun t226 => (if t226 = true then (if t211 = 0 then (some (t210 == t222)) else (some false)) else (some false)))) else (some false)) else (some false)) else (some false)) else (if t209 = 4 then (if t211 = 4 then (if (t206.length : Int) = 0 then (deadboltlaw07_LineTells.j3 kj45 t194 a1 a2 t197 t200 (t210 != 0)) else (deadboltlaw07_LineTells.j3 kj45 t194 a1 a2 t197 t200 true)) else (deadboltlaw07_LineTells.j3 kj45 t194 a1 a2 t197 t200 true)) else (deadboltlaw07_LineTells.j3 kj45 t194 a1 a2 t197 t200 true))) = some r := H
                  have A59 := Aside0.mk A590
                  clear A590
                  by_cases c60 : t222 ≥ 0
                  · rw [if_pos c60] at H
                    have c60b0 : decide (0 ≤ t222) = true := decide_eq_true c60
                    clear c60
                    by_cases c61 : t200 = 7
                    · rw [if_pos c61] at H
                      have c61b0 : (t200 == 7) = true := beq_iff_eq.mpr c61
                      have c61b1 : (t200 != 7) = false := bne_eq_false_iff_eq.mpr c61
                      clear c61
                      by_cases c62 : (t197.length : Int) = 0
                      · rw [if_pos c62] at H
                        have c62b0 : ((t197.length : Int) == 0) = true := beq_iff_eq.mpr c62
                        have c62b1 : ((t197.length : Int) != 0) = false := bne_eq_false_iff_eq.mpr c62
                        clear c62
                        by_cases c63 : t209 = 0
                        · rw [if_pos c63] at H
                          have c63b0 : (t209 == 0) = true := beq_iff_eq.mpr c63
                          have c63b1 : (t209 != 0) = false := bne_eq_false_iff_eq.mpr c63
                          clear c63
                          replace H := Option.bind_eq_some_iff.mp H
                          obtain ⟨t223, A640, H⟩ := H
                          replace H : ((deadboltref07_Same.f kj45 t206 t223).bind fun t226 => (if t226 = true then (if t211 = 0 then (some (t210 == t222)) else (some false)) else (some false))) = some r := H
                          have A64 := Aside0.mk A640
                          clear A640
                          replace H := Option.bind_eq_some_iff.mp H
                          obtain ⟨t226, A650, H⟩ := H
                          replace H : (if t226 = true then (if t211 = 0 then (some (t210 == t222)) else (some false)) else (some false)) = some r := H
                          have A65 := Aside0.mk A650
                          clear A650
                          by_cases c66 : t226 = true
                          · subst c66
                            have H1 : (if t211 = 0 then (some (t210 == t222)) else (some false)) = some r := by rw [if_pos rfl] at H; exact H
                            clear H
                            have H := H1
                            clear H1
                            by_cases c67 : t211 = 0
                            · rw [if_pos c67] at H
                              have c67b0 : (t211 == 0) = true := beq_iff_eq.mpr c67
                              have c67b1 : (t211 != 0) = false := bne_eq_false_iff_eq.mpr c67
                              clear c67
                              as_aux_lemma =>
                                obtain rfl := Option.some.inj H
                                go_wp2_with (first | ((with_reducible refine gate_callee (f := 16) rfl ?_); refine goesL_ (some 133) rfl rfl Try.func16 (by kernel_rfl) rfl #[.slice Ao12 t194.length co12, .int .i64 a1] rfl (by (try simp only [List.map_toArray, List.map_cons, List.map_nil]); first | done | rfl | (simp only [List.length_drop, List.length_take]; rfl)) ?_; (with_reducible refine (deadboltref07_Place.calls kj45 _ _ t194 a1 t222 _ ?side1 ?side2 A59.out).mono ?_); (case side1 => repeat (first | exact (Kd.V_reads' HO_0.out).2.2 | (with_reducible refine Kd.C_alloc ?_ _) | (with_reducible refine Kd.C_drewN ?_ _) | (with_reducible refine Kd.C_drew ?_))); (case side2 => exact (Kd.V_reads' HO_0.out).2.1); rintro e w' ⟨rfl, ⟨nd, rfl⟩⟩; refine ⟨_, rfl, ?_⟩; obtain ⟨Ao68, co68, eo68⟩ := Kd.R_slice HO_7.out; subst eo68) | (go_at_call 17; (with_reducible refine (deadboltref07_Without.calls kj45 _ _ t194 a1 t223 _ ?side1 ?side2 A64.out).mono ?_); (case side1 => repeat (first | exact (Kd.V_reads' HO_0.out).2.2 | (with_reducible refine Kd.C_alloc ?_ _) | (with_reducible refine Kd.C_drewN ?_ _) | (with_reducible refine Kd.C_drew ?_))); (case side2 => exact (Kd.V_reads' HO_0.out).2.1); rintro e w69 ⟨v224, rfl, ho0, hb⟩; have n0_ := Aside0.mk (Kd.V_elder' (by (with_reducible repeat (first | apply Kd.V_alloc | apply Kd.V_drewN | apply Kd.V_drew)); exact HO_0.out) (Kd.R_base ho0) hb); have n1_ := Aside0.mk (Kd.R_elder' (by (with_reducible repeat (first | apply Kd.R_alloc | apply Kd.R_drewN | apply Kd.R_drew)); exact HO_7.out) (Kd.R_base ho0) hb); have n2_ := Aside0.mk (Kd.R_elder' (by (with_reducible repeat (first | apply Kd.R_alloc | apply Kd.R_drewN | apply Kd.R_drew)); exact HO_12.out) (Kd.R_base ho0) hb); have n3_ := Aside0.mk (Kd.R_lower (Kd.R_new' (Kd.R_new' ho0 (Kd.R_lt (by (with_reducible repeat (first | apply Kd.R_alloc | apply Kd.R_drewN | apply Kd.R_drew)); exact HO_7.out))) (Kd.R_lt (by (with_reducible repeat (first | apply Kd.R_alloc | apply Kd.R_drewN | apply Kd.R_drew)); exact HO_12.out))) (below_size (by repeat (first | (with_reducible first | exact HB.out | apply below_alloc | apply pw_below_drewN | apply below_drew1) | exact HB.out)))); have n4_ := Aside0.mk (below_step (by repeat (first | (with_reducible first | exact HB.out | apply below_alloc | apply pw_below_drewN | apply below_drew1) | exact HB.out)) hb); clear HO_0; clear HO_7; clear HO_12; clear HB; have HO_0 := n0_; have HO_7 := n1_; have HO_12 := n2_; have HO225 := n3_; have HB := n4_; clear n0_ n1_ n2_ n3_ n4_; (try clear hb); (try clear hb2); (try clear hk); (try clear hi); (try clear ho0); obtain ⟨Ao70, co70, eo70⟩ := Kd.R_slice HO_12.out; subst eo70; obtain ⟨Ao71, co71, eo71⟩ := Kd.R_slice HO225.out; subst eo71) | (go_at_call 14; (with_reducible refine (deadboltref07_Same.calls kj45 _ _ t206 _ _ t223 true _ ?side1 ?side2 ?side3 ?side4 A65.out).mono ?_); (case side1 => repeat (first | exact (Kd.R_reads' HO_12.out).2.2 | (with_reducible refine Kd.C_alloc ?_ _) | (with_reducible refine Kd.C_drewN ?_ _) | (with_reducible refine Kd.C_drew ?_))); (case side2 => exact (Kd.R_reads' HO_12.out).2.1); (case side3 => repeat (first | exact (Kd.R_reads' HO225.out).2.2 | (with_reducible refine Kd.C_alloc ?_ _) | (with_reducible refine Kd.C_drewN ?_ _) | (with_reducible refine Kd.C_drew ?_))); (case side4 => exact (Kd.R_reads' HO225.out).2.1); rintro e w' ⟨rfl, ⟨nd, rfl⟩⟩))
                                go_ret
                                exact ⟨by first | rfl | (simp [errW_none, errW_some] <;> rfl) | (simp [*, errW_none, errW_some] <;> rfl), by repeat (first | (with_reducible first | exact HB.out | apply below_alloc | apply pw_below_drewN | apply below_drew1) | exact HB.out)⟩
                            · rw [if_neg c67] at H
                              have c67b0 : (t211 == 0) = false := beq_eq_false_iff_ne.mpr c67
                              have c67b1 : (t211 != 0) = true := bne_iff_ne.mpr c67
                              as_aux_lemma =>
                                obtain rfl := Option.some.inj H
                                go_wp2_with (first | ((with_reducible refine gate_callee (f := 16) rfl ?_); refine goesL_ (some 133) rfl rfl Try.func16 (by kernel_rfl) rfl #[.slice Ao12 t194.length co12, .int .i64 a1] rfl (by (try simp only [List.map_toArray, List.map_cons, List.map_nil]); first | done | rfl | (simp only [List.length_drop, List.length_take]; rfl)) ?_; (with_reducible refine (deadboltref07_Place.calls kj45 _ _ t194 a1 t222 _ ?side1 ?side2 A59.out).mono ?_); (case side1 => repeat (first | exact (Kd.V_reads' HO_0.out).2.2 | (with_reducible refine Kd.C_alloc ?_ _) | (with_reducible refine Kd.C_drewN ?_ _) | (with_reducible refine Kd.C_drew ?_))); (case side2 => exact (Kd.V_reads' HO_0.out).2.1); rintro e w' ⟨rfl, ⟨nd, rfl⟩⟩; refine ⟨_, rfl, ?_⟩; obtain ⟨Ao72, co72, eo72⟩ := Kd.R_slice HO_7.out; subst eo72) | (go_at_call 17; (with_reducible refine (deadboltref07_Without.calls kj45 _ _ t194 a1 t223 _ ?side1 ?side2 A64.out).mono ?_); (case side1 => repeat (first | exact (Kd.V_reads' HO_0.out).2.2 | (with_reducible refine Kd.C_alloc ?_ _) | (with_reducible refine Kd.C_drewN ?_ _) | (with_reducible refine Kd.C_drew ?_))); (case side2 => exact (Kd.V_reads' HO_0.out).2.1); rintro e w73 ⟨v224, rfl, ho0, hb⟩; have n0_ := Aside0.mk (Kd.V_elder' (by (with_reducible repeat (first | apply Kd.V_alloc | apply Kd.V_drewN | apply Kd.V_drew)); exact HO_0.out) (Kd.R_base ho0) hb); have n1_ := Aside0.mk (Kd.R_elder' (by (with_reducible repeat (first | apply Kd.R_alloc | apply Kd.R_drewN | apply Kd.R_drew)); exact HO_7.out) (Kd.R_base ho0) hb); have n2_ := Aside0.mk (Kd.R_elder' (by (with_reducible repeat (first | apply Kd.R_alloc | apply Kd.R_drewN | apply Kd.R_drew)); exact HO_12.out) (Kd.R_base ho0) hb); have n3_ := Aside0.mk (Kd.R_lower (Kd.R_new' (Kd.R_new' ho0 (Kd.R_lt (by (with_reducible repeat (first | apply Kd.R_alloc | apply Kd.R_drewN | apply Kd.R_drew)); exact HO_7.out))) (Kd.R_lt (by (with_reducible repeat (first | apply Kd.R_alloc | apply Kd.R_drewN | apply Kd.R_drew)); exact HO_12.out))) (below_size (by repeat (first | (with_reducible first | exact HB.out | apply below_alloc | apply pw_below_drewN | apply below_drew1) | exact HB.out)))); have n4_ := Aside0.mk (below_step (by repeat (first | (with_reducible first | exact HB.out | apply below_alloc | apply pw_below_drewN | apply below_drew1) | exact HB.out)) hb); clear HO_0; clear HO_7; clear HO_12; clear HB; have HO_0 := n0_; have HO_7 := n1_; have HO_12 := n2_; have HO225 := n3_; have HB := n4_; clear n0_ n1_ n2_ n3_ n4_; (try clear hb); (try clear hb2); (try clear hk); (try clear hi); (try clear ho0); obtain ⟨Ao74, co74, eo74⟩ := Kd.R_slice HO_12.out; subst eo74; obtain ⟨Ao75, co75, eo75⟩ := Kd.R_slice HO225.out; subst eo75) | (go_at_call 14; (with_reducible refine (deadboltref07_Same.calls kj45 _ _ t206 _ _ t223 true _ ?side1 ?side2 ?side3 ?side4 A65.out).mono ?_); (case side1 => repeat (first | exact (Kd.R_reads' HO_12.out).2.2 | (with_reducible refine Kd.C_alloc ?_ _) | (with_reducible refine Kd.C_drewN ?_ _) | (with_reducible refine Kd.C_drew ?_))); (case side2 => exact (Kd.R_reads' HO_12.out).2.1); (case side3 => repeat (first | exact (Kd.R_reads' HO225.out).2.2 | (with_reducible refine Kd.C_alloc ?_ _) | (with_reducible refine Kd.C_drewN ?_ _) | (with_reducible refine Kd.C_drew ?_))); (case side4 => exact (Kd.R_reads' HO225.out).2.1); rintro e w' ⟨rfl, ⟨nd, rfl⟩⟩))
                                go_ret
                                exact ⟨by first | rfl | (simp [errW_none, errW_some] <;> rfl) | (simp [*, errW_none, errW_some] <;> rfl), by repeat (first | (with_reducible first | exact HB.out | apply below_alloc | apply pw_below_drewN | apply below_drew1) | exact HB.out)⟩
                          · replace c66 := Bool.eq_false_iff.mpr c66
                            subst c66
                            have H1 : (some false) = some r := by rw [if_neg (show ¬ (false = true) by decide)] at H; exact H
                            clear H
                            have H := H1
                            clear H1
                            as_aux_lemma =>
                              obtain rfl := Option.some.inj H
                              go_wp2_with (first | ((with_reducible refine gate_callee (f := 16) rfl ?_); refine goesL_ (some 133) rfl rfl Try.func16 (by kernel_rfl) rfl #[.slice Ao12 t194.length co12, .int .i64 a1] rfl (by (try simp only [List.map_toArray, List.map_cons, List.map_nil]); first | done | rfl | (simp only [List.length_drop, List.length_take]; rfl)) ?_; (with_reducible refine (deadboltref07_Place.calls kj45 _ _ t194 a1 t222 _ ?side1 ?side2 A59.out).mono ?_); (case side1 => repeat (first | exact (Kd.V_reads' HO_0.out).2.2 | (with_reducible refine Kd.C_alloc ?_ _) | (with_reducible refine Kd.C_drewN ?_ _) | (with_reducible refine Kd.C_drew ?_))); (case side2 => exact (Kd.V_reads' HO_0.out).2.1); rintro e w' ⟨rfl, ⟨nd, rfl⟩⟩; refine ⟨_, rfl, ?_⟩; obtain ⟨Ao76, co76, eo76⟩ := Kd.R_slice HO_7.out; subst eo76) | (go_at_call 17; (with_reducible refine (deadboltref07_Without.calls kj45 _ _ t194 a1 t223 _ ?side1 ?side2 A64.out).mono ?_); (case side1 => repeat (first | exact (Kd.V_reads' HO_0.out).2.2 | (with_reducible refine Kd.C_alloc ?_ _) | (with_reducible refine Kd.C_drewN ?_ _) | (with_reducible refine Kd.C_drew ?_))); (case side2 => exact (Kd.V_reads' HO_0.out).2.1); rintro e w77 ⟨v224, rfl, ho0, hb⟩; have n0_ := Aside0.mk (Kd.V_elder' (by (with_reducible repeat (first | apply Kd.V_alloc | apply Kd.V_drewN | apply Kd.V_drew)); exact HO_0.out) (Kd.R_base ho0) hb); have n1_ := Aside0.mk (Kd.R_elder' (by (with_reducible repeat (first | apply Kd.R_alloc | apply Kd.R_drewN | apply Kd.R_drew)); exact HO_7.out) (Kd.R_base ho0) hb); have n2_ := Aside0.mk (Kd.R_elder' (by (with_reducible repeat (first | apply Kd.R_alloc | apply Kd.R_drewN | apply Kd.R_drew)); exact HO_12.out) (Kd.R_base ho0) hb); have n3_ := Aside0.mk (Kd.R_lower (Kd.R_new' (Kd.R_new' ho0 (Kd.R_lt (by (with_reducible repeat (first | apply Kd.R_alloc | apply Kd.R_drewN | apply Kd.R_drew)); exact HO_7.out))) (Kd.R_lt (by (with_reducible repeat (first | apply Kd.R_alloc | apply Kd.R_drewN | apply Kd.R_drew)); exact HO_12.out))) (below_size (by repeat (first | (with_reducible first | exact HB.out | apply below_alloc | apply pw_below_drewN | apply below_drew1) | exact HB.out)))); have n4_ := Aside0.mk (below_step (by repeat (first | (with_reducible first | exact HB.out | apply below_alloc | apply pw_below_drewN | apply below_drew1) | exact HB.out)) hb); clear HO_0; clear HO_7; clear HO_12; clear HB; have HO_0 := n0_; have HO_7 := n1_; have HO_12 := n2_; have HO225 := n3_; have HB := n4_; clear n0_ n1_ n2_ n3_ n4_; (try clear hb); (try clear hb2); (try clear hk); (try clear hi); (try clear ho0); obtain ⟨Ao78, co78, eo78⟩ := Kd.R_slice HO_12.out; subst eo78; obtain ⟨Ao79, co79, eo79⟩ := Kd.R_slice HO225.out; subst eo79) | (go_at_call 14; (with_reducible refine (deadboltref07_Same.calls kj45 _ _ t206 _ _ t223 false _ ?side1 ?side2 ?side3 ?side4 A65.out).mono ?_); (case side1 => repeat (first | exact (Kd.R_reads' HO_12.out).2.2 | (with_reducible refine Kd.C_alloc ?_ _) | (with_reducible refine Kd.C_drewN ?_ _) | (with_reducible refine Kd.C_drew ?_))); (case side2 => exact (Kd.R_reads' HO_12.out).2.1); (case side3 => repeat (first | exact (Kd.R_reads' HO225.out).2.2 | (with_reducible refine Kd.C_alloc ?_ _) | (with_reducible refine Kd.C_drewN ?_ _) | (with_reducible refine Kd.C_drew ?_))); (case side4 => exact (Kd.R_reads' HO225.out).2.1); rintro e w' ⟨rfl, ⟨nd, rfl⟩⟩))
                              go_ret
                              exact ⟨by first | rfl | (simp [errW_none, errW_some] <;> rfl) | (simp [*, errW_none, errW_some] <;> rfl), by repeat (first | (with_reducible first | exact HB.out | apply below_alloc | apply pw_below_drewN | apply below_drew1) | exact HB.out)⟩
                        · rw [if_neg c63] at H
                          have c63b0 : (t209 == 0) = false := beq_eq_false_iff_ne.mpr c63
                          have c63b1 : (t209 != 0) = true := bne_iff_ne.mpr c63
                          as_aux_lemma =>
                            obtain rfl := Option.some.inj H
                            go_wp2_with (first | ((with_reducible refine gate_callee (f := 16) rfl ?_); refine goesL_ (some 133) rfl rfl Try.func16 (by kernel_rfl) rfl #[.slice Ao12 t194.length co12, .int .i64 a1] rfl (by (try simp only [List.map_toArray, List.map_cons, List.map_nil]); first | done | rfl | (simp only [List.length_drop, List.length_take]; rfl)) ?_; (with_reducible refine (deadboltref07_Place.calls kj45 _ _ t194 a1 t222 _ ?side1 ?side2 A59.out).mono ?_); (case side1 => repeat (first | exact (Kd.V_reads' HO_0.out).2.2 | (with_reducible refine Kd.C_alloc ?_ _) | (with_reducible refine Kd.C_drewN ?_ _) | (with_reducible refine Kd.C_drew ?_))); (case side2 => exact (Kd.V_reads' HO_0.out).2.1); rintro e w' ⟨rfl, ⟨nd, rfl⟩⟩; refine ⟨_, rfl, ?_⟩; obtain ⟨Ao80, co80, eo80⟩ := Kd.R_slice HO_7.out; subst eo80))
                            go_ret
                            exact ⟨by first | rfl | (simp [errW_none, errW_some] <;> rfl) | (simp [*, errW_none, errW_some] <;> rfl), by repeat (first | (with_reducible first | exact HB.out | apply below_alloc | apply pw_below_drewN | apply below_drew1) | exact HB.out)⟩
                      · rw [if_neg c62] at H
                        have c62b0 : ((t197.length : Int) == 0) = false := beq_eq_false_iff_ne.mpr c62
                        have c62b1 : ((t197.length : Int) != 0) = true := bne_iff_ne.mpr c62
                        have c62b2 : ¬ (t197 = []) := fun h_ => c62 (by rw [h_]; rfl)
                        as_aux_lemma =>
                          obtain rfl := Option.some.inj H
                          go_wp2_with (first | ((with_reducible refine gate_callee (f := 16) rfl ?_); refine goesL_ (some 133) rfl rfl Try.func16 (by kernel_rfl) rfl #[.slice Ao12 t194.length co12, .int .i64 a1] rfl (by (try simp only [List.map_toArray, List.map_cons, List.map_nil]); first | done | rfl | (simp only [List.length_drop, List.length_take]; rfl)) ?_; (with_reducible refine (deadboltref07_Place.calls kj45 _ _ t194 a1 t222 _ ?side1 ?side2 A59.out).mono ?_); (case side1 => repeat (first | exact (Kd.V_reads' HO_0.out).2.2 | (with_reducible refine Kd.C_alloc ?_ _) | (with_reducible refine Kd.C_drewN ?_ _) | (with_reducible refine Kd.C_drew ?_))); (case side2 => exact (Kd.V_reads' HO_0.out).2.1); rintro e w' ⟨rfl, ⟨nd, rfl⟩⟩; refine ⟨_, rfl, ?_⟩; obtain ⟨Ao81, co81, eo81⟩ := Kd.R_slice HO_7.out; subst eo81))
                          go_ret
                          exact ⟨by first | rfl | (simp [errW_none, errW_some] <;> rfl) | (simp [*, errW_none, errW_some] <;> rfl), by repeat (first | (with_reducible first | exact HB.out | apply below_alloc | apply pw_below_drewN | apply below_drew1) | exact HB.out)⟩
                    · rw [if_neg c61] at H
                      have c61b0 : (t200 == 7) = false := beq_eq_false_iff_ne.mpr c61
                      have c61b1 : (t200 != 7) = true := bne_iff_ne.mpr c61
                      as_aux_lemma =>
                        obtain rfl := Option.some.inj H
                        go_wp2_with (first | ((with_reducible refine gate_callee (f := 16) rfl ?_); refine goesL_ (some 133) rfl rfl Try.func16 (by kernel_rfl) rfl #[.slice Ao12 t194.length co12, .int .i64 a1] rfl (by (try simp only [List.map_toArray, List.map_cons, List.map_nil]); first | done | rfl | (simp only [List.length_drop, List.length_take]; rfl)) ?_; (with_reducible refine (deadboltref07_Place.calls kj45 _ _ t194 a1 t222 _ ?side1 ?side2 A59.out).mono ?_); (case side1 => repeat (first | exact (Kd.V_reads' HO_0.out).2.2 | (with_reducible refine Kd.C_alloc ?_ _) | (with_reducible refine Kd.C_drewN ?_ _) | (with_reducible refine Kd.C_drew ?_))); (case side2 => exact (Kd.V_reads' HO_0.out).2.1); rintro e w' ⟨rfl, ⟨nd, rfl⟩⟩; refine ⟨_, rfl, ?_⟩))
                        go_ret
                        exact ⟨by first | rfl | (simp [errW_none, errW_some] <;> rfl) | (simp [*, errW_none, errW_some] <;> rfl), by repeat (first | (with_reducible first | exact HB.out | apply below_alloc | apply pw_below_drewN | apply below_drew1) | exact HB.out)⟩
                  · rw [if_neg c60] at H
                    have c60b0 : decide (0 ≤ t222) = false := decide_eq_false c60
                    clear c60
                    have HC82 := Aside0.mk H
                    clear H
                    go_upto_region 22 with (first | ((with_reducible refine gate_callee (f := 16) rfl ?_); refine goesL_ (some 133) rfl rfl Try.func16 (by kernel_rfl) rfl #[.slice Ao12 t194.length co12, .int .i64 a1] rfl (by (try simp only [List.map_toArray, List.map_cons, List.map_nil]); first | done | rfl | (simp only [List.length_drop, List.length_take]; rfl)) ?_; (with_reducible refine (deadboltref07_Place.calls kj45 _ _ t194 a1 t222 _ ?side1 ?side2 A59.out).mono ?_); (case side1 => repeat (first | exact (Kd.V_reads' HO_0.out).2.2 | (with_reducible refine Kd.C_alloc ?_ _) | (with_reducible refine Kd.C_drewN ?_ _) | (with_reducible refine Kd.C_drew ?_))); (case side2 => exact (Kd.V_reads' HO_0.out).2.1); rintro e w' ⟨rfl, ⟨nd, rfl⟩⟩; refine ⟨_, rfl, ?_⟩))
                    (try simp only [Act.put, List.setIfInBounds_toArray, List.set_cons_zero, List.set_cons_succ])
                    go_cut [177] (fun v177 wc => ∃ (kq : Nat) (x177_81 : Bool), v177 = .bool x177_81 ∧ Aside0 (deadboltlaw07_LineTells.j3 kq t194 a1 a2 t197 t200 x177_81 = some r) ∧ Aside0 (kq ≤ kj45) ∧ Aside0 (Kd.V (Kd.int .i64) 3 wc w.heap.size (fun k_ => some k_ ≠ (v198 : Value).ownBlock) (.slice Ao12 t194.length co12) t194) ∧ Aside0 (Kd.R (Kd.int .i64) 3 wc w.heap.size (fun _ => True) v198 t197) ∧ Aside0 (Below w.heap.size w wc))
                    case first =>
                      have H := HC82.out
                      clear HC82
                      by_cases c83 : t209 = 4
                      · rw [if_pos c83] at H
                        have c83b0 : (t209 == 4) = true := beq_iff_eq.mpr c83
                        have c83b1 : (t209 != 4) = false := bne_eq_false_iff_eq.mpr c83
                        clear c83
                        (first | rw [c83b0] | (simp only [i64_w, i32_w]; rw [c83b0]) | skip)
                        by_cases c84 : t211 = 4
                        · rw [if_pos c84] at H
                          have c84b0 : (t211 == 4) = true := beq_iff_eq.mpr c84
                          have c84b1 : (t211 != 4) = false := bne_eq_false_iff_eq.mpr c84
                          clear c84
                          by_cases c85 : (t206.length : Int) = 0
                          · rw [if_pos c85] at H
                            have c85b0 : ((t206.length : Int) == 0) = true := beq_iff_eq.mpr c85
                            have c85b1 : ((t206.length : Int) != 0) = false := bne_eq_false_iff_eq.mpr c85
                            clear c85
                            as_aux_lemma =>
                              have H' := Aside0.mk H
                              clear H
                              obtain ⟨Ao86, co86, eo86⟩ := Kd.R_slice HO_12.out
                              subst eo86
                              go_wp2
                              go_meet
                              case rel => exact ⟨_, ((t210 != 0)), (by first | rfl | (simp; done) | (simp [*]; done)), H', ⟨by have := HJ9.out; have := HJ20.out; have := HJ45.out; first | omega | exact Nat.le_refl _⟩, ⟨by (with_reducible repeat (first | apply Kd.V_alloc | apply Kd.V_drewN | apply Kd.V_drew)); exact Kd.V_mono HO_0.out (fun _ hk => hk.1)⟩, ⟨by (with_reducible repeat (first | apply Kd.R_alloc | apply Kd.R_drewN | apply Kd.R_drew)); exact Kd.R_mono HO_7.out (fun _ hk => trivial)⟩, ⟨by repeat (first | (with_reducible first | exact HB.out | apply below_alloc | apply pw_below_drewN | apply below_drew1) | exact HB.out)⟩⟩
                          · rw [if_neg c85] at H
                            have c85b0 : ((t206.length : Int) == 0) = false := beq_eq_false_iff_ne.mpr c85
                            have c85b1 : ((t206.length : Int) != 0) = true := bne_iff_ne.mpr c85
                            have c85b2 : ¬ (t206 = []) := fun h_ => c85 (by rw [h_]; rfl)
                            as_aux_lemma =>
                              have H' := Aside0.mk H
                              clear H
                              obtain ⟨Ao87, co87, eo87⟩ := Kd.R_slice HO_12.out
                              subst eo87
                              go_wp2
                              go_meet
                              case rel => exact ⟨_, (true), (by first | rfl | (simp; done) | (simp [*]; done)), H', ⟨by have := HJ9.out; have := HJ20.out; have := HJ45.out; first | omega | exact Nat.le_refl _⟩, ⟨by (with_reducible repeat (first | apply Kd.V_alloc | apply Kd.V_drewN | apply Kd.V_drew)); exact Kd.V_mono HO_0.out (fun _ hk => hk.1)⟩, ⟨by (with_reducible repeat (first | apply Kd.R_alloc | apply Kd.R_drewN | apply Kd.R_drew)); exact Kd.R_mono HO_7.out (fun _ hk => trivial)⟩, ⟨by repeat (first | (with_reducible first | exact HB.out | apply below_alloc | apply pw_below_drewN | apply below_drew1) | exact HB.out)⟩⟩
                        · rw [if_neg c84] at H
                          have c84b0 : (t211 == 4) = false := beq_eq_false_iff_ne.mpr c84
                          have c84b1 : (t211 != 4) = true := bne_iff_ne.mpr c84
                          as_aux_lemma =>
                            have H' := Aside0.mk H
                            clear H
                            go_wp2
                            go_meet
                            case rel => exact ⟨_, (true), (by first | rfl | (simp; done) | (simp [*]; done)), H', ⟨by have := HJ9.out; have := HJ20.out; have := HJ45.out; first | omega | exact Nat.le_refl _⟩, ⟨by (with_reducible repeat (first | apply Kd.V_alloc | apply Kd.V_drewN | apply Kd.V_drew)); exact Kd.V_mono HO_0.out (fun _ hk => hk.1)⟩, ⟨by (with_reducible repeat (first | apply Kd.R_alloc | apply Kd.R_drewN | apply Kd.R_drew)); exact Kd.R_mono HO_7.out (fun _ hk => trivial)⟩, ⟨by repeat (first | (with_reducible first | exact HB.out | apply below_alloc | apply pw_below_drewN | apply below_drew1) | exact HB.out)⟩⟩
                      · rw [if_neg c83] at H
                        have c83b0 : (t209 == 4) = false := beq_eq_false_iff_ne.mpr c83
                        have c83b1 : (t209 != 4) = true := bne_iff_ne.mpr c83
                        (first | rw [c83b0] | (simp only [i64_w, i32_w]; rw [c83b0]) | skip)
                        as_aux_lemma =>
                          have H' := Aside0.mk H
                          clear H
                          go_wp2
                          go_meet
                          case rel => exact ⟨_, (true), (by first | rfl | (simp; done) | (simp [*]; done)), H', ⟨by have := HJ9.out; have := HJ20.out; have := HJ45.out; first | omega | exact Nat.le_refl _⟩, ⟨by (with_reducible repeat (first | apply Kd.V_alloc | apply Kd.V_drewN | apply Kd.V_drew)); exact Kd.V_mono HO_0.out (fun _ hk => hk.1)⟩, ⟨by (with_reducible repeat (first | apply Kd.R_alloc | apply Kd.R_drewN | apply Kd.R_drew)); exact Kd.R_mono HO_7.out (fun _ hk => trivial)⟩, ⟨by repeat (first | (with_reducible first | exact HB.out | apply below_alloc | apply pw_below_drewN | apply below_drew1) | exact HB.out)⟩⟩
                    case rest =>
                      clear HC82
                      try clear c1
                      try clear c2
                      try clear p2
                      try clear q2
                      try clear hx2
                      try clear qi2
                      try clear c3
                      try clear q3
                      try clear c4
                      try clear c5
                      try clear c6
                      try clear c7
                      try clear c8
                      try clear c10
                      try clear c11
                      try clear c12
                      try clear c13
                      try clear c15
                      try clear c16
                      try clear c17
                      try clear c17b0
                      try clear c17b1
                      try clear c17b2
                      try clear c20
                      try clear p21
                      try clear q21
                      try clear hx21
                      try clear qi21
                      try clear c22
                      try clear c23
                      try clear c23b0
                      try clear c23b1
                      try clear c23b2
                      try clear c24
                      try clear c24b0
                      try clear c24b1
                      try clear c25
                      try clear c25b0
                      try clear c25b1
                      try clear c25b2
                      try clear c26
                      try clear c26b0
                      try clear c26b1
                      try clear c30
                      try clear c30b0
                      try clear c30b1
                      try clear c31
                      try clear c31b0
                      try clear c31b1
                      try clear c32
                      try clear c32b0
                      try clear c32b1
                      try clear c33
                      try clear c33b0
                      try clear c33b1
                      try clear c35
                      try clear c36
                      try clear q36
                      try clear c38
                      try clear q38
                      try clear c40
                      try clear c40b0
                      try clear c40b1
                      try clear c41
                      try clear c41b0
                      try clear c41b1
                      try clear c41b2
                      try clear c42
                      try clear c42b0
                      try clear c42b1
                      try clear c47
                      try clear c48
                      try clear c49
                      try clear c49b0
                      try clear c49b1
                      try clear c50
                      try clear c50b0
                      try clear c50b1
                      try clear c51
                      try clear c51b0
                      try clear c51b1
                      try clear c52
                      try clear c52b0
                      try clear c52b1
                      try clear c52b2
                      try clear c53
                      try clear c53b0
                      try clear c53b1
                      try clear c53b2
                      try clear c60
                      try clear c60b0
                      try clear c61
                      try clear c61b0
                      try clear c61b1
                      try clear c62
                      try clear c62b0
                      try clear c62b1
                      try clear c62b2
                      try clear c63
                      try clear c63b0
                      try clear c63b1
                      try clear c66
                      try clear c67
                      try clear c67b0
                      try clear c67b1
                      try clear c83
                      try clear c83b0
                      try clear c83b1
                      try clear c84
                      try clear c84b0
                      try clear c84b1
                      try clear c85
                      try clear c85b0
                      try clear c85b1
                      try clear c85b2
                      try clear hx215_0
                      try clear p2
                      try clear p21
                      try clear p215
                      try clear q2
                      try clear q21
                      try clear q215
                      try clear q3
                      try clear q36
                      try clear q38
                      obtain ⟨kq, x177_81, rfl, HA, HJ81, HO_0, HO_7, HB⟩ := hcut
                      cases kq with
                      | zero => exact absurd HA.out (by simp [deadboltlaw07_LineTells.j3])
                      | succ kj81 =>
                        have H := HA.out
                        clear HA
                        simp only [deadboltlaw07_LineTells.j3] at H
                        by_cases c88 : x177_81 = true
                        · subst c88
                          have H1 : (some false) = some r := by rw [if_pos rfl] at H; exact H
                          clear H
                          have H := H1
                          clear H1
                          as_aux_lemma =>
                            obtain rfl := Option.some.inj H
                            go_wp2
                            go_ret
                            exact ⟨by first | rfl | (simp [errW_none, errW_some] <;> rfl) | (simp [*, errW_none, errW_some] <;> rfl), by repeat (first | (with_reducible first | exact HB.out | apply below_alloc | apply pw_below_drewN | apply below_drew1) | exact HB.out)⟩
                        · replace c88 := Bool.eq_false_iff.mpr c88
                          subst c88
                          have H1 : (if (t194.length : Int) = 64 then (if t200 = 5 then (some ((t197.length : Int) == 0)) else (some false)) else (if t200 = 0 then ((deadboltref07_Push.f t194 a1 a2).bind fun t227 => ((deadboltref07_Same.f kj81 t197 t227).bind fun t230 => (some t230))) else (some false))) = some r := by rw [if_neg (show ¬ (false = true) by decide)] at H; exact H
                          clear H
                          have H := H1
                          clear H1
                          by_cases c89 : (t194.length : Int) = 64
                          · rw [if_pos c89] at H
                            have c89b0 : ((t194.length : Int) == 64) = true := beq_iff_eq.mpr c89
                            have c89b1 : ((t194.length : Int) != 64) = false := bne_eq_false_iff_eq.mpr c89
                            clear c89
                            by_cases c90 : t200 = 5
                            · rw [if_pos c90] at H
                              have c90b0 : (t200 == 5) = true := beq_iff_eq.mpr c90
                              have c90b1 : (t200 != 5) = false := bne_eq_false_iff_eq.mpr c90
                              clear c90
                              as_aux_lemma =>
                                obtain rfl := Option.some.inj H
                                obtain ⟨Ao91, co91, eo91⟩ := Kd.R_slice HO_7.out
                                subst eo91
                                go_wp2
                                go_ret
                                exact ⟨by first | rfl | (simp [errW_none, errW_some] <;> rfl) | (simp [*, errW_none, errW_some] <;> rfl), by repeat (first | (with_reducible first | exact HB.out | apply below_alloc | apply pw_below_drewN | apply below_drew1) | exact HB.out)⟩
                            · rw [if_neg c90] at H
                              have c90b0 : (t200 == 5) = false := beq_eq_false_iff_ne.mpr c90
                              have c90b1 : (t200 != 5) = true := bne_iff_ne.mpr c90
                              as_aux_lemma =>
                                obtain rfl := Option.some.inj H
                                go_wp2
                                go_ret
                                exact ⟨by first | rfl | (simp [errW_none, errW_some] <;> rfl) | (simp [*, errW_none, errW_some] <;> rfl), by repeat (first | (with_reducible first | exact HB.out | apply below_alloc | apply pw_below_drewN | apply below_drew1) | exact HB.out)⟩
                          · rw [if_neg c89] at H
                            have c89b0 : ((t194.length : Int) == 64) = false := beq_eq_false_iff_ne.mpr c89
                            have c89b1 : ((t194.length : Int) != 64) = true := bne_iff_ne.mpr c89
                            by_cases c92 : t200 = 0
                            · rw [if_pos c92] at H
                              have c92b0 : (t200 == 0) = true := beq_iff_eq.mpr c92
                              have c92b1 : (t200 != 0) = false := bne_eq_false_iff_eq.mpr c92
                              clear c92
                              replace H := Option.bind_eq_some_iff.mp H
                              obtain ⟨t227, A930, H⟩ := H
                              replace H : ((deadboltref07_Same.f kj81 t197 t227).bind fun t230 => (some t230)) = some r := H
                              have A93 := Aside0.mk A930
                              clear A930
                              replace H := Option.bind_eq_some_iff.mp H
                              obtain ⟨t230, A940, H⟩ := H
                              replace H : (some t230) = some r := H
                              have A94 := Aside0.mk A940
                              clear A940
                              as_aux_lemma =>
                                obtain rfl := Option.some.inj H
                                go_wp2_with (first | (go_at_call 18; (with_reducible refine (deadboltref07_Push.calls _ _ t194 a1 a2 t227 _ ?side1 ?side2 A93.out).mono ?_); (case side1 => repeat (first | exact (Kd.V_reads' HO_0.out).2.2 | (with_reducible refine Kd.C_alloc ?_ _) | (with_reducible refine Kd.C_drewN ?_ _) | (with_reducible refine Kd.C_drew ?_))); (case side2 => exact (Kd.V_reads' HO_0.out).2.1); rintro e w95 ⟨v228, rfl, ho0, hb⟩; have n0_ := Aside0.mk (Kd.V_elder' (by (with_reducible repeat (first | apply Kd.V_alloc | apply Kd.V_drewN | apply Kd.V_drew)); exact HO_0.out) (Kd.R_base ho0) hb); have n1_ := Aside0.mk (Kd.R_elder' (by (with_reducible repeat (first | apply Kd.R_alloc | apply Kd.R_drewN | apply Kd.R_drew)); exact HO_7.out) (Kd.R_base ho0) hb); have n2_ := Aside0.mk (Kd.R_lower (Kd.R_new' ho0 (Kd.R_lt (by (with_reducible repeat (first | apply Kd.R_alloc | apply Kd.R_drewN | apply Kd.R_drew)); exact HO_7.out))) (below_size (by repeat (first | (with_reducible first | exact HB.out | apply below_alloc | apply pw_below_drewN | apply below_drew1) | exact HB.out)))); have n3_ := Aside0.mk (below_step (by repeat (first | (with_reducible first | exact HB.out | apply below_alloc | apply pw_below_drewN | apply below_drew1) | exact HB.out)) hb); clear HO_0; clear HO_7; clear HB; have HO_0 := n0_; have HO_7 := n1_; have HO229 := n2_; have HB := n3_; clear n0_ n1_ n2_ n3_; (try clear hb); (try clear hb2); (try clear hk); (try clear hi); (try clear ho0); obtain ⟨Ao96, co96, eo96⟩ := Kd.R_slice HO_7.out; subst eo96; obtain ⟨Ao97, co97, eo97⟩ := Kd.R_slice HO229.out; subst eo97) | (go_at_call 14; (with_reducible refine (deadboltref07_Same.calls kj81 _ _ t197 _ _ t227 t230 _ ?side1 ?side2 ?side3 ?side4 A94.out).mono ?_); (case side1 => repeat (first | exact (Kd.R_reads' HO_7.out).2.2 | (with_reducible refine Kd.C_alloc ?_ _) | (with_reducible refine Kd.C_drewN ?_ _) | (with_reducible refine Kd.C_drew ?_))); (case side2 => exact (Kd.R_reads' HO_7.out).2.1); (case side3 => repeat (first | exact (Kd.R_reads' HO229.out).2.2 | (with_reducible refine Kd.C_alloc ?_ _) | (with_reducible refine Kd.C_drewN ?_ _) | (with_reducible refine Kd.C_drew ?_))); (case side4 => exact (Kd.R_reads' HO229.out).2.1); rintro e w' ⟨rfl, ⟨nd, rfl⟩⟩))
                                go_ret
                                exact ⟨by first | rfl | (simp [errW_none, errW_some] <;> rfl) | (simp [*, errW_none, errW_some] <;> rfl), by repeat (first | (with_reducible first | exact HB.out | apply below_alloc | apply pw_below_drewN | apply below_drew1) | exact HB.out)⟩
                            · rw [if_neg c92] at H
                              have c92b0 : (t200 == 0) = false := beq_eq_false_iff_ne.mpr c92
                              have c92b1 : (t200 != 0) = true := bne_iff_ne.mpr c92
                              as_aux_lemma =>
                                obtain rfl := Option.some.inj H
                                go_wp2
                                go_ret
                                exact ⟨by first | rfl | (simp [errW_none, errW_some] <;> rfl) | (simp [*, errW_none, errW_some] <;> rfl), by repeat (first | (with_reducible first | exact HB.out | apply below_alloc | apply pw_below_drewN | apply below_drew1) | exact HB.out)⟩

/-- THE ONE PURE STATEMENT of deadboltlaw07_LineTells: yours. -/
def deadboltlaw07_LineTells.Pure : Prop := ∀ (l0 : List Int) (a1 : Int) (a2 : Bool), l0.length ≤ maxLen → l0.length * 8 ≤ 140737488351232 → (∀ x ∈ l0, (Lit.int .i64 x).wf = true) → (Lit.int .i64 a1).wf = true → ∃ k, deadboltlaw07_LineTells.f k l0 a1 a2 = some true
theorem deadboltlaw07_LineTells.walk (P : deadboltlaw07_LineTells.Pure) (a0 : Option Addr) (len0 cap0 : Nat) (z0 : List Int) (a1 : Int) (a2 : Bool) (w : World) (w0 : (a0 = none ∧ len0 = 0 ∧ cap0 = 0 ∧ z0 = []) ∨ ∃ x, a0 = some x ∧ len0 ≤ cap0 ∧ cap0 ≤ maxLen ∧ z0.length = cap0 ∧ (∀ i, i < z0.length → w.cell? (x.add i) = some (.int .i64 (z0.getD i 0))) ∧ ∀ n ∈ z0, (Lit.int .i64 n).wf = true) (y0 : len0 * 8 ≤ 140737488351232) (w1 : (Lit.int .i64 a1).wf = true) :
    Calls Try.prog 5 #[.slice a0 len0 cap0, .int .i64 a1, .bool a2] w fun e w' => e = .returned (.bool true) ∧ Below w.heap.size w w' := by
  obtain ⟨l0, rfl, hr0, hm0, hw0, hc0⟩ := ReadsInt.ofRowC w0
  obtain ⟨k, h⟩ := P l0 a1 a2 hm0 y0 hw0 w1
  refine (deadboltlaw07_LineTells.calls k _ _ l0 a1 a2 true w (Kd.C_of_reads (d := (0 : Int)) (h1 := fun _ => rfl) hr0) hc0 h).mono ?_
  rintro e w' ⟨rfl, hd⟩
  exact ⟨rfl, hd⟩

end Go.Proofs.Ytgehamafdceaeaa.PLineTells
