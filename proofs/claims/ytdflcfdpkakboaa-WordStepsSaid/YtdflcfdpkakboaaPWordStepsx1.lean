-- PRINTED BY print.sh 35421559b90ae4d0a3588c463048766b98c2df88dd9212a6774a882060cdf62d: not written by this session
import Derived.Test.YtdflcfdpkakboaaPWordStepsx0
namespace Go.Proofs.Ytdflcfdpkakboaa.PWordSteps
open Go.RowKit Go.Proofs.YtdflcfdpkakboaaW.PrintWords Go.Proofs.YtdflcfdpkakboaaW.PrintLast Go.Proofs.YtdflcfdpkakboaaW.PrintMore
attribute [local go_sem] max2_int min2_int max_two min_two max_three min_three max_four min_four   -- for this text's walks alone
set_option linter.unusedVariables false
set_option linter.unusedSimpArgs false

/-! ### word_Wrap: function 8 -/
def word_Wrap.f (a0 : Int) (a1 : Int) : Option (Int × Int) := if a0 = 0 then (some (wrap64 (wrap32 (a1)), 0)) else (if a0 = 1 then (some ((a1) % 4294967296, 0)) else (if a0 = 2 then (some (a1, 0)) else (some (0, 1))))
set_option maxHeartbeats 8000000 in
set_option maxRecDepth 100000 in
theorem word_Wrap.calls (a0 : Int) (a1 : Int) (r1 : Int) (r2 : Int) (w : World) (h : word_Wrap.f a0 a1 = some (r1, r2)) :
    Calls Try.prog 8 #[.int .i64 a0, .int .i64 a1] w fun e w' => e = .returned (.tuple #[.int .i64 r1, .int .i64 r2]) ∧ Drawn0 w w' := by
  have H : (if a0 = 0 then (some (wrap64 (wrap32 (a1)), 0)) else (if a0 = 1 then (some ((a1) % 4294967296, 0)) else (if a0 = 2 then (some (a1, 0)) else (some (0, 1))))) = some (r1, r2) := h
  clear h
  by_cases c3 : a0 = 0
  · rw [if_pos c3] at H
    have c3b0 : (a0 == 0) = true := beq_iff_eq.mpr c3
    have c3b1 : (a0 != 0) = false := bne_eq_false_iff_eq.mpr c3
    clear c3
    simp only [Option.some.injEq, Prod.mk.injEq] at H
    obtain ⟨rfl, rfl⟩ := H
    go_enter Try.func8, Try.ntmps8
    go_wp2
    go_ret2
    exact ⟨by first | rfl | (simp; done) | (simp [*]; done), by repeat (first | exact Drawn0.refl _ | apply Drawn0.step)⟩
  · rw [if_neg c3] at H
    have c3b0 : (a0 == 0) = false := beq_eq_false_iff_ne.mpr c3
    have c3b1 : (a0 != 0) = true := bne_iff_ne.mpr c3
    by_cases c4 : a0 = 1
    · rw [if_pos c4] at H
      have c4b0 : (a0 == 1) = true := beq_iff_eq.mpr c4
      have c4b1 : (a0 != 1) = false := bne_eq_false_iff_eq.mpr c4
      clear c4
      simp only [Option.some.injEq, Prod.mk.injEq] at H
      obtain ⟨rfl, rfl⟩ := H
      go_enter Try.func8, Try.ntmps8
      go_wp2
      go_ret2
      exact ⟨by first | rfl | (simp; done) | (simp [*]; done), by repeat (first | exact Drawn0.refl _ | apply Drawn0.step)⟩
    · rw [if_neg c4] at H
      have c4b0 : (a0 == 1) = false := beq_eq_false_iff_ne.mpr c4
      have c4b1 : (a0 != 1) = true := bne_iff_ne.mpr c4
      by_cases c5 : a0 = 2
      · rw [if_pos c5] at H
        have c5b0 : (a0 == 2) = true := beq_iff_eq.mpr c5
        have c5b1 : (a0 != 2) = false := bne_eq_false_iff_eq.mpr c5
        clear c5
        simp only [Option.some.injEq, Prod.mk.injEq] at H
        obtain ⟨rfl, rfl⟩ := H
        go_enter Try.func8, Try.ntmps8
        go_wp2
        go_ret2
        exact ⟨by first | rfl | (simp; done) | (simp [*]; done), by repeat (first | exact Drawn0.refl _ | apply Drawn0.step)⟩
      · rw [if_neg c5] at H
        have c5b0 : (a0 == 2) = false := beq_eq_false_iff_ne.mpr c5
        have c5b1 : (a0 != 2) = true := bne_iff_ne.mpr c5
        simp only [Option.some.injEq, Prod.mk.injEq] at H
        obtain ⟨rfl, rfl⟩ := H
        go_enter Try.func8, Try.ntmps8
        go_wp2
        go_ret2
        exact ⟨by first | rfl | (simp; done) | (simp [*]; done), by repeat (first | exact Drawn0.refl _ | apply Drawn0.step)⟩

/-! ### word_Add: function 7 -/
def word_Add.f (a0 : Int) (a1 : Int) (a2 : Int) : Option (Int × Int) := (word_Wrap.f a0 (wrap64 (a1 + a2))).bind fun bt101 => (some (bt101.1, bt101.2))
set_option maxHeartbeats 8000000 in
set_option maxRecDepth 100000 in
theorem word_Add.calls (a0 : Int) (a1 : Int) (a2 : Int) (r1 : Int) (r2 : Int) (w : World) (h : word_Add.f a0 a1 a2 = some (r1, r2)) :
    Calls Try.prog 7 #[.int .i64 a0, .int .i64 a1, .int .i64 a2] w fun e w' => e = .returned (.tuple #[.int .i64 r1, .int .i64 r2]) ∧ Drawn0 w w' := by
  have H : ((word_Wrap.f a0 (wrap64 (a1 + a2))).bind fun bt101 => (some (bt101.1, bt101.2))) = some (r1, r2) := h
  clear h
  replace H := Option.bind_eq_some_iff.mp H
  obtain ⟨⟨t101, t102⟩, A40, H⟩ := H
  replace H : (some (t101, t102)) = some (r1, r2) := H
  have A4 := Aside0.mk A40
  clear A40
  simp only [Option.some.injEq, Prod.mk.injEq] at H
  obtain ⟨rfl, rfl⟩ := H
  go_enter Try.func7, Try.ntmps7
  go_wp2_with (first | ((with_reducible refine gate_callee (f := 8) rfl ?_); refine goesL_ (some 12) rfl rfl Try.func8 (by kernel_rfl) rfl #[.int .i64 a0, .int .i64 (wrap64 (a1 + a2))] rfl (by (try simp only [List.map_toArray, List.map_cons, List.map_nil]); first | done | rfl | (simp only [List.length_drop, List.length_take]; rfl)) ?_; (with_reducible refine (word_Wrap.calls a0 (wrap64 (a1 + a2)) t101 t102 _ A4.out).mono ?_); rintro e w' ⟨rfl, ⟨nd, rfl⟩⟩; refine ⟨_, rfl, ?_⟩))
  go_ret2
  exact ⟨by first | rfl | (simp; done) | (simp [*]; done), by repeat (first | exact Drawn0.refl _ | apply Drawn0.step)⟩

/-! ### deadboltlaw01_alive: function 9 -/
def deadboltlaw01_alive.f  : Option (Bool) := (word_Add.f 0 2147483647 1).bind fun bt103 => (if bt103.2 = 0 then (some (bt103.1 == (-2147483648))) else (some false))
set_option maxHeartbeats 8000000 in
set_option maxRecDepth 100000 in
theorem deadboltlaw01_alive.calls  (r : Bool) (w : World) (h : deadboltlaw01_alive.f  = some r) :
    Calls Try.prog 9 #[] w fun e w' => e = .returned (.bool r) ∧ Drawn0 w w' := by
  have H : ((word_Add.f 0 2147483647 1).bind fun bt103 => (if bt103.2 = 0 then (some (bt103.1 == (-2147483648))) else (some false))) = some r := h
  clear h
  replace H := Option.bind_eq_some_iff.mp H
  obtain ⟨⟨t103, t104⟩, A10, H⟩ := H
  replace H : (if t104 = 0 then (some (t103 == (-2147483648))) else (some false)) = some r := H
  have A1 := Aside0.mk A10
  clear A10
  by_cases c2 : t104 = 0
  · rw [if_pos c2] at H
    have c2b0 : (t104 == 0) = true := beq_iff_eq.mpr c2
    have c2b1 : (t104 != 0) = false := bne_eq_false_iff_eq.mpr c2
    clear c2
    obtain rfl := Option.some.inj H
    go_enter Try.func9, Try.ntmps9
    go_wp2_with (first | ((with_reducible refine gate_callee (f := 7) rfl ?_); refine goesL_ (some 4) rfl rfl Try.func7 (by kernel_rfl) rfl #[.int .i64 0, .int .i64 2147483647, .int .i64 1] rfl (by (try simp only [List.map_toArray, List.map_cons, List.map_nil]); first | done | rfl | (simp only [List.length_drop, List.length_take]; rfl)) ?_; (with_reducible refine (word_Add.calls 0 2147483647 1 t103 t104 _ A1.out).mono ?_); rintro e w' ⟨rfl, ⟨nd, rfl⟩⟩; refine ⟨_, rfl, ?_⟩))
    go_ret
    exact ⟨by first | rfl | (simp; done) | (simp [*]; done), by repeat (first | exact Drawn0.refl _ | apply Drawn0.step)⟩
  · rw [if_neg c2] at H
    have c2b0 : (t104 == 0) = false := beq_eq_false_iff_ne.mpr c2
    have c2b1 : (t104 != 0) = true := bne_iff_ne.mpr c2
    obtain rfl := Option.some.inj H
    go_enter Try.func9, Try.ntmps9
    go_wp2_with (first | ((with_reducible refine gate_callee (f := 7) rfl ?_); refine goesL_ (some 4) rfl rfl Try.func7 (by kernel_rfl) rfl #[.int .i64 0, .int .i64 2147483647, .int .i64 1] rfl (by (try simp only [List.map_toArray, List.map_cons, List.map_nil]); first | done | rfl | (simp only [List.length_drop, List.length_take]; rfl)) ?_; (with_reducible refine (word_Add.calls 0 2147483647 1 t103 t104 _ A1.out).mono ?_); rintro e w' ⟨rfl, ⟨nd, rfl⟩⟩; refine ⟨_, rfl, ?_⟩))
    go_ret
    exact ⟨by first | rfl | (simp; done) | (simp [*]; done), by repeat (first | exact Drawn0.refl _ | apply Drawn0.step)⟩

/-! ### word_Fits: function 10 -/
def word_Fits.f (a0 : Int) (a1 : Int) : Option (Bool) := (word_Wrap.f a0 a1).bind fun bt105 => (if bt105.2 = 0 then (some (bt105.1 == a1)) else (some false))
set_option maxHeartbeats 8000000 in
set_option maxRecDepth 100000 in
theorem word_Fits.calls (a0 : Int) (a1 : Int) (r : Bool) (w : World) (h : word_Fits.f a0 a1 = some r) :
    Calls Try.prog 10 #[.int .i64 a0, .int .i64 a1] w fun e w' => e = .returned (.bool r) ∧ Drawn0 w w' := by
  have H : ((word_Wrap.f a0 a1).bind fun bt105 => (if bt105.2 = 0 then (some (bt105.1 == a1)) else (some false))) = some r := h
  clear h
  replace H := Option.bind_eq_some_iff.mp H
  obtain ⟨⟨t105, t106⟩, A30, H⟩ := H
  replace H : (if t106 = 0 then (some (t105 == a1)) else (some false)) = some r := H
  have A3 := Aside0.mk A30
  clear A30
  by_cases c4 : t106 = 0
  · rw [if_pos c4] at H
    have c4b0 : (t106 == 0) = true := beq_iff_eq.mpr c4
    have c4b1 : (t106 != 0) = false := bne_eq_false_iff_eq.mpr c4
    clear c4
    obtain rfl := Option.some.inj H
    go_enter Try.func10, Try.ntmps10
    go_wp2_with (first | ((with_reducible refine gate_callee (f := 8) rfl ?_); refine goesL_ (some 10) rfl rfl Try.func8 (by kernel_rfl) rfl #[.int .i64 a0, .int .i64 a1] rfl (by (try simp only [List.map_toArray, List.map_cons, List.map_nil]); first | done | rfl | (simp only [List.length_drop, List.length_take]; rfl)) ?_; (with_reducible refine (word_Wrap.calls a0 a1 t105 t106 _ A3.out).mono ?_); rintro e w' ⟨rfl, ⟨nd, rfl⟩⟩; refine ⟨_, rfl, ?_⟩))
    go_ret
    exact ⟨by first | rfl | (simp; done) | (simp [*]; done), by repeat (first | exact Drawn0.refl _ | apply Drawn0.step)⟩
  · rw [if_neg c4] at H
    have c4b0 : (t106 == 0) = false := beq_eq_false_iff_ne.mpr c4
    have c4b1 : (t106 != 0) = true := bne_iff_ne.mpr c4
    obtain rfl := Option.some.inj H
    go_enter Try.func10, Try.ntmps10
    go_wp2_with (first | ((with_reducible refine gate_callee (f := 8) rfl ?_); refine goesL_ (some 10) rfl rfl Try.func8 (by kernel_rfl) rfl #[.int .i64 a0, .int .i64 a1] rfl (by (try simp only [List.map_toArray, List.map_cons, List.map_nil]); first | done | rfl | (simp only [List.length_drop, List.length_take]; rfl)) ?_; (with_reducible refine (word_Wrap.calls a0 a1 t105 t106 _ A3.out).mono ?_); rintro e w' ⟨rfl, ⟨nd, rfl⟩⟩; refine ⟨_, rfl, ?_⟩))
    go_ret
    exact ⟨by first | rfl | (simp; done) | (simp [*]; done), by repeat (first | exact Drawn0.refl _ | apply Drawn0.step)⟩

/-! ### deadboltlaw01_WordSteps: function 4 -/
def deadboltlaw01_WordSteps.l0 : Nat → Int → Int → Int → Int → Int → Int → Int → Option (Bool)
  | 0, _, _, _, _, _, _, _ => none
  | k + 1, x0, x1, x2, x7, x9, x33, x34 => if x34 < x33 then ((word_Add.f x0 x9 1).bind fun bt114 => (if bt114.2 = 0 then ((word_Fits.f x0 bt114.1).bind fun t116 => (if t116 = true then (if bt114.1 = x9 then (some false) else (deadboltlaw01_WordSteps.l0 k x0 x1 x2 x7 bt114.1 x33 (wrap64 (x34 + 1)))) else (some false))) else (some false))) else ((word_Add.f x0 x1 x2).bind fun bt109 => ((word_Add.f x0 x9 (wrap64 (-x2))).bind fun bt111 => ((deadboltlaw01_alive.f).bind fun t113 => (if t113 = true then (if bt109.2 = 0 then (if bt111.2 = 0 then (if x9 = bt109.1 then (some (bt111.1 == x7)) else (some false)) else (some false)) else (some false)) else (some false)))))
def deadboltlaw01_WordSteps.f (k : Nat) (a0 : Int) (a1 : Int) (a2 : Int) : Option (Bool) := (word_Wrap.f (Int.tmod (wrap64 ((Int.tmod a0 3) + 3)) 3) a1).bind fun bt107 => (if bt107.2 = 0 then (deadboltlaw01_WordSteps.l0 k (Int.tmod (wrap64 ((Int.tmod a0 3) + 3)) 3) a1 (Int.tmod (wrap64 ((Int.tmod a2 60) + 60)) 60) bt107.1 bt107.1 (Int.tmod (wrap64 ((Int.tmod a2 60) + 60)) 60) 0) else (some false))
theorem deadboltlaw01_WordSteps.mono_l : ∀ k, (∀ y0 y1 y2 y3 y4 y5 y6, LeO (deadboltlaw01_WordSteps.l0 k y0 y1 y2 y3 y4 y5 y6) (deadboltlaw01_WordSteps.l0 (k + 1) y0 y1 y2 y3 y4 y5 y6))
  | 0 => fun _ _ _ _ _ _ _ r h => by simp [deadboltlaw01_WordSteps.l0] at h
  | k + 1 => by
    have ih0 := deadboltlaw01_WordSteps.mono_l k
    · intro y0 y1 y2 y3 y4 y5 y6
      unfold deadboltlaw01_WordSteps.l0
      repeat' first
      | (with_reducible exact ih0 _ _ _ _ _ _ _)
      | (with_reducible exact LeO.refl _)
      | (with_reducible exact LeO.none _)
      | (with_reducible refine LeO.ite ?_ ?_)
      | (with_reducible refine LeO.bind ?_ (fun _ => ?_))
      | exact ih0 _ _ _ _ _ _ _
      | exact LeO.none _
      | refine LeO.ite ?_ ?_
      | refine LeO.bind ?_ (fun _ => ?_)
theorem deadboltlaw01_WordSteps.mono : ∀ a0 a1 a2 k, LeO (deadboltlaw01_WordSteps.f k a0 a1 a2) (deadboltlaw01_WordSteps.f (k + 1) a0 a1 a2) := by
  intro a0 a1 a2 k
  have ih0 := deadboltlaw01_WordSteps.mono_l k
  unfold deadboltlaw01_WordSteps.f
  repeat' first
      | (with_reducible exact ih0 _ _ _ _ _ _ _)
      | (with_reducible exact LeO.refl _)
      | (with_reducible exact LeO.none _)
      | (with_reducible refine LeO.ite ?_ ?_)
      | (with_reducible refine LeO.bind ?_ (fun _ => ?_))
      | exact ih0 _ _ _ _ _ _ _
      | exact LeO.none _
      | refine LeO.ite ?_ ?_
      | refine LeO.bind ?_ (fun _ => ?_)
set_option maxHeartbeats 8000000 in
set_option maxRecDepth 100000 in
theorem deadboltlaw01_WordSteps.calls (k : Nat) (a0 : Int) (a1 : Int) (a2 : Int) (r : Bool) (w : World) (h : deadboltlaw01_WordSteps.f k a0 a1 a2 = some r) :
    Calls Try.prog 4 #[.int .i64 a0, .int .i64 a1, .int .i64 a2] w fun e w' => e = .returned (.bool r) ∧ Drawn0 w w' := by
  have H : ((word_Wrap.f (Int.tmod (wrap64 ((Int.tmod a0 3) + 3)) 3) a1).bind fun bt107 => (if bt107.2 = 0 then (deadboltlaw01_WordSteps.l0 k (Int.tmod (wrap64 ((Int.tmod a0 3) + 3)) 3) a1 (Int.tmod (wrap64 ((Int.tmod a2 60) + 60)) 60) bt107.1 bt107.1 (Int.tmod (wrap64 ((Int.tmod a2 60) + 60)) 60) 0) else (some false))) = some r := h
  clear h
  replace H := Option.bind_eq_some_iff.mp H
  obtain ⟨⟨t107, t108⟩, A40, H⟩ := H
  replace H : (if t108 = 0 then (deadboltlaw01_WordSteps.l0 k (Int.tmod (wrap64 ((Int.tmod a0 3) + 3)) 3) a1 (Int.tmod (wrap64 ((Int.tmod a2 60) + 60)) 60) t107 t107 (Int.tmod (wrap64 ((Int.tmod a2 60) + 60)) 60) 0) else (some false)) = some r := H
  have A4 := Aside0.mk A40
  clear A40
  by_cases c5 : t108 = 0
  · rw [if_pos c5] at H
    have c5b0 : (t108 == 0) = true := beq_iff_eq.mpr c5
    have c5b1 : (t108 != 0) = false := bne_eq_false_iff_eq.mpr c5
    clear c5
    have H' := Aside0.mk H
    clear H
    go_enter Try.func4, Try.ntmps4
    go_wp2_with (first | ((with_reducible refine gate_callee (f := 8) rfl ?_); refine goesL_ (some 27) rfl rfl Try.func8 (by kernel_rfl) rfl #[.int .i64 (Int.tmod (wrap64 ((Int.tmod a0 3) + 3)) 3), .int .i64 a1] rfl (by (try simp only [List.map_toArray, List.map_cons, List.map_nil]); first | done | rfl | (simp only [List.length_drop, List.length_take]; rfl)) ?_; (with_reducible refine (word_Wrap.calls (Int.tmod (wrap64 ((Int.tmod a0 3) + 3)) 3) a1 t107 t108 _ A4.out).mono ?_); rintro e w' ⟨rfl, ⟨nd, rfl⟩⟩; refine ⟨_, rfl, ?_⟩))
    go_loopg [9, 34] k (fun kq v9 v34 w' => ∃ (x9_1 : Int) (x34_1 : Int), v9 = .int .i64 x9_1 ∧ v34 = .int .i64 x34_1 ∧ Aside0 (deadboltlaw01_WordSteps.l0 kq (Int.tmod (wrap64 ((Int.tmod a0 3) + 3)) 3) a1 (Int.tmod (wrap64 ((Int.tmod a2 60) + 60)) 60) t107 x9_1 (Int.tmod (wrap64 ((Int.tmod a2 60) + 60)) 60) x34_1 = some r) ∧ Aside0 (kq ≤ k) ∧ Drawn0 w w')
    case atStart => exact ⟨(t107), (0), (by first | rfl | (simp; done) | (simp [*]; done)), (by first | rfl | (simp; done) | (simp [*]; done)), H', ⟨Nat.le_refl _⟩, by repeat (first | exact Drawn0.refl _ | apply Drawn0.step)⟩
    case round =>
      clear H'
      try clear p2
      try clear c4
      try clear c5
      try clear c5b0
      try clear c5b1
      obtain ⟨x9_1, x34_1, rfl, rfl, HA, HK1, ⟨m1, rfl⟩⟩ := hrel
      cases gk with
      | zero => exact absurd HA.out (by simp [deadboltlaw01_WordSteps.l0])
      | succ k1 =>
        have H := HA.out
        clear HA
        simp only [deadboltlaw01_WordSteps.l0] at H
        by_cases c6 : x34_1 < (Int.tmod (wrap64 ((Int.tmod a2 60) + 60)) 60)
        · rw [if_pos c6] at H
          have c6b0 : decide (x34_1 < (Int.tmod (wrap64 ((Int.tmod a2 60) + 60)) 60)) = true := decide_eq_true c6
          clear c6
          replace H := Option.bind_eq_some_iff.mp H
          obtain ⟨⟨t114, t115⟩, A70, H⟩ := H
          replace H : (if t115 = 0 then ((word_Fits.f (Int.tmod (wrap64 ((Int.tmod a0 3) + 3)) 3) t114).bind fun t116 => (if t116 = true then (if t114 = x9_1 then (some false) else (deadboltlaw01_WordSteps.l0 k1 (Int.tmod (wrap64 ((Int.tmod a0 3) + 3)) 3) a1 (Int.tmod (wrap64 ((Int.tmod a2 60) + 60)) 60) t107 t114 (Int.tmod (wrap64 ((Int.tmod a2 60) + 60)) 60) (wrap64 (x34_1 + 1)))) else (some false))) else (some false)) = some r := H
          have A7 := Aside0.mk A70
          clear A70
          by_cases c8 : t115 = 0
          · rw [if_pos c8] at H
            have c8b0 : (t115 == 0) = true := beq_iff_eq.mpr c8
            have c8b1 : (t115 != 0) = false := bne_eq_false_iff_eq.mpr c8
            clear c8
            replace H := Option.bind_eq_some_iff.mp H
            obtain ⟨t116, A90, H⟩ := H
            replace H : (if t116 = true then (if t114 = x9_1 then (some false) else (deadboltlaw01_WordSteps.l0 k1 (Int.tmod (wrap64 ((Int.tmod a0 3) + 3)) 3) a1 (Int.tmod (wrap64 ((Int.tmod a2 60) + 60)) 60) t107 t114 (Int.tmod (wrap64 ((Int.tmod a2 60) + 60)) 60) (wrap64 (x34_1 + 1)))) else (some false)) = some r := H
            have A9 := Aside0.mk A90
            clear A90
            by_cases c10 : t116 = true
            · subst c10
              have H1 : (if t114 = x9_1 then (some false) else (deadboltlaw01_WordSteps.l0 k1 (Int.tmod (wrap64 ((Int.tmod a0 3) + 3)) 3) a1 (Int.tmod (wrap64 ((Int.tmod a2 60) + 60)) 60) t107 t114 (Int.tmod (wrap64 ((Int.tmod a2 60) + 60)) 60) (wrap64 (x34_1 + 1)))) = some r := by rw [if_pos rfl] at H; exact H
              clear H
              have H := H1
              clear H1
              by_cases c11 : t114 = x9_1
              · rw [if_pos c11] at H
                have c11b0 : (t114 == x9_1) = true := beq_iff_eq.mpr c11
                have c11b1 : (t114 != x9_1) = false := bne_eq_false_iff_eq.mpr c11
                clear c11
                obtain rfl := Option.some.inj H
                go_wp2_with (first | ((with_reducible refine gate_callee (f := 7) rfl ?_); refine goesL_ (some 39) rfl rfl Try.func7 (by kernel_rfl) rfl #[.int .i64 (Int.tmod (wrap64 ((Int.tmod a0 3) + 3)) 3), .int .i64 x9_1, .int .i64 1] rfl (by (try simp only [List.map_toArray, List.map_cons, List.map_nil]); first | done | rfl | (simp only [List.length_drop, List.length_take]; rfl)) ?_; (with_reducible refine (word_Add.calls (Int.tmod (wrap64 ((Int.tmod a0 3) + 3)) 3) x9_1 1 t114 t115 _ A7.out).mono ?_); rintro e w' ⟨rfl, ⟨nd, rfl⟩⟩; refine ⟨_, rfl, ?_⟩) | (go_at_call 10; (with_reducible refine (word_Fits.calls (Int.tmod (wrap64 ((Int.tmod a0 3) + 3)) 3) t114 true _ A9.out).mono ?_); rintro e w' ⟨rfl, ⟨nd, rfl⟩⟩))
                go_ret
                exact ⟨by first | rfl | (simp; done) | (simp [*]; done), by repeat (first | exact Drawn0.refl _ | apply Drawn0.step)⟩
              · rw [if_neg c11] at H
                have c11b0 : (t114 == x9_1) = false := beq_eq_false_iff_ne.mpr c11
                have c11b1 : (t114 != x9_1) = true := bne_iff_ne.mpr c11
                have H' := Aside0.mk H
                clear H
                go_wp2_with (first | ((with_reducible refine gate_callee (f := 7) rfl ?_); refine goesL_ (some 39) rfl rfl Try.func7 (by kernel_rfl) rfl #[.int .i64 (Int.tmod (wrap64 ((Int.tmod a0 3) + 3)) 3), .int .i64 x9_1, .int .i64 1] rfl (by (try simp only [List.map_toArray, List.map_cons, List.map_nil]); first | done | rfl | (simp only [List.length_drop, List.length_take]; rfl)) ?_; (with_reducible refine (word_Add.calls (Int.tmod (wrap64 ((Int.tmod a0 3) + 3)) 3) x9_1 1 t114 t115 _ A7.out).mono ?_); rintro e w' ⟨rfl, ⟨nd, rfl⟩⟩; refine ⟨_, rfl, ?_⟩) | (go_at_call 10; (with_reducible refine (word_Fits.calls (Int.tmod (wrap64 ((Int.tmod a0 3) + 3)) 3) t114 true _ A9.out).mono ?_); rintro e w' ⟨rfl, ⟨nd, rfl⟩⟩))
                go_roundg k1
                case measure => have := HK1.out; omega
                case rel => exact ⟨(t114), (wrap64 (x34_1 + 1)), (by first | rfl | (simp; done) | (simp [*]; done)), (by first | rfl | (simp; done) | (simp [*]; done)), H', ⟨by have := HK1.out; omega⟩, by repeat (first | exact Drawn0.refl _ | apply Drawn0.step)⟩
            · replace c10 := Bool.eq_false_iff.mpr c10
              subst c10
              have H1 : (some false) = some r := by rw [if_neg (show ¬ (false = true) by decide)] at H; exact H
              clear H
              have H := H1
              clear H1
              obtain rfl := Option.some.inj H
              go_wp2_with (first | ((with_reducible refine gate_callee (f := 7) rfl ?_); refine goesL_ (some 39) rfl rfl Try.func7 (by kernel_rfl) rfl #[.int .i64 (Int.tmod (wrap64 ((Int.tmod a0 3) + 3)) 3), .int .i64 x9_1, .int .i64 1] rfl (by (try simp only [List.map_toArray, List.map_cons, List.map_nil]); first | done | rfl | (simp only [List.length_drop, List.length_take]; rfl)) ?_; (with_reducible refine (word_Add.calls (Int.tmod (wrap64 ((Int.tmod a0 3) + 3)) 3) x9_1 1 t114 t115 _ A7.out).mono ?_); rintro e w' ⟨rfl, ⟨nd, rfl⟩⟩; refine ⟨_, rfl, ?_⟩) | (go_at_call 10; (with_reducible refine (word_Fits.calls (Int.tmod (wrap64 ((Int.tmod a0 3) + 3)) 3) t114 false _ A9.out).mono ?_); rintro e w' ⟨rfl, ⟨nd, rfl⟩⟩))
              go_ret
              exact ⟨by first | rfl | (simp; done) | (simp [*]; done), by repeat (first | exact Drawn0.refl _ | apply Drawn0.step)⟩
          · rw [if_neg c8] at H
            have c8b0 : (t115 == 0) = false := beq_eq_false_iff_ne.mpr c8
            have c8b1 : (t115 != 0) = true := bne_iff_ne.mpr c8
            obtain rfl := Option.some.inj H
            go_wp2_with (first | ((with_reducible refine gate_callee (f := 7) rfl ?_); refine goesL_ (some 39) rfl rfl Try.func7 (by kernel_rfl) rfl #[.int .i64 (Int.tmod (wrap64 ((Int.tmod a0 3) + 3)) 3), .int .i64 x9_1, .int .i64 1] rfl (by (try simp only [List.map_toArray, List.map_cons, List.map_nil]); first | done | rfl | (simp only [List.length_drop, List.length_take]; rfl)) ?_; (with_reducible refine (word_Add.calls (Int.tmod (wrap64 ((Int.tmod a0 3) + 3)) 3) x9_1 1 t114 t115 _ A7.out).mono ?_); rintro e w' ⟨rfl, ⟨nd, rfl⟩⟩; refine ⟨_, rfl, ?_⟩))
            go_ret
            exact ⟨by first | rfl | (simp; done) | (simp [*]; done), by repeat (first | exact Drawn0.refl _ | apply Drawn0.step)⟩
        · rw [if_neg c6] at H
          have c6b0 : decide (x34_1 < (Int.tmod (wrap64 ((Int.tmod a2 60) + 60)) 60)) = false := decide_eq_false c6
          clear c6
          replace H := Option.bind_eq_some_iff.mp H
          obtain ⟨⟨t109, t110⟩, A120, H⟩ := H
          replace H : ((word_Add.f (Int.tmod (wrap64 ((Int.tmod a0 3) + 3)) 3) x9_1 (wrap64 (-(Int.tmod (wrap64 ((Int.tmod a2 60) + 60)) 60)))).bind fun bt111 => ((deadboltlaw01_alive.f).bind fun t113 => (if t113 = true then (if t110 = 0 then (if bt111.2 = 0 then (if x9_1 = t109 then (some (bt111.1 == t107)) else (some false)) else (some false)) else (some false)) else (some false)))) = some r := H
          have A12 := Aside0.mk A120
          clear A120
          replace H := Option.bind_eq_some_iff.mp H
          obtain ⟨⟨t111, t112⟩, A130, H⟩ := H
          replace H : ((deadboltlaw01_alive.f).bind fun t113 => (if t113 = true then (if t110 = 0 then (if t112 = 0 then (if x9_1 = t109 then (some (t111 == t107)) else (some false)) else (some false)) else (some false)) else (some false))) = some r := H
          have A13 := Aside0.mk A130
          clear A130
          replace H := Option.bind_eq_some_iff.mp H
          obtain ⟨t113, A140, H⟩ := H
          replace H : (if t113 = true then (if t110 = 0 then (if t112 = 0 then (if x9_1 = t109 then (some (t111 == t107)) else (some false)) else (some false)) else (some false)) else (some false)) = some r := H
          have A14 := Aside0.mk A140
          clear A140
          by_cases c15 : t113 = true
          · subst c15
            have H1 : (if t110 = 0 then (if t112 = 0 then (if x9_1 = t109 then (some (t111 == t107)) else (some false)) else (some false)) else (some false)) = some r := by rw [if_pos rfl] at H; exact H
            clear H
            have H := H1
            clear H1
            by_cases c16 : t110 = 0
            · rw [if_pos c16] at H
              have c16b0 : (t110 == 0) = true := beq_iff_eq.mpr c16
              have c16b1 : (t110 != 0) = false := bne_eq_false_iff_eq.mpr c16
              clear c16
              by_cases c17 : t112 = 0
              · rw [if_pos c17] at H
                have c17b0 : (t112 == 0) = true := beq_iff_eq.mpr c17
                have c17b1 : (t112 != 0) = false := bne_eq_false_iff_eq.mpr c17
                clear c17
                by_cases c18 : x9_1 = t109
                · rw [if_pos c18] at H
                  have c18b0 : (x9_1 == t109) = true := beq_iff_eq.mpr c18
                  have c18b1 : (x9_1 != t109) = false := bne_eq_false_iff_eq.mpr c18
                  clear c18
                  obtain rfl := Option.some.inj H
                  go_wp2_with (first | ((with_reducible refine gate_callee (f := 7) rfl ?_); refine goesL_ (some 61) rfl rfl Try.func7 (by kernel_rfl) rfl #[.int .i64 (Int.tmod (wrap64 ((Int.tmod a0 3) + 3)) 3), .int .i64 a1, .int .i64 (Int.tmod (wrap64 ((Int.tmod a2 60) + 60)) 60)] rfl (by (try simp only [List.map_toArray, List.map_cons, List.map_nil]); first | done | rfl | (simp only [List.length_drop, List.length_take]; rfl)) ?_; (with_reducible refine (word_Add.calls (Int.tmod (wrap64 ((Int.tmod a0 3) + 3)) 3) a1 (Int.tmod (wrap64 ((Int.tmod a2 60) + 60)) 60) t109 t110 _ A12.out).mono ?_); rintro e w' ⟨rfl, ⟨nd, rfl⟩⟩; refine ⟨_, rfl, ?_⟩) | ((with_reducible refine gate_callee (f := 7) rfl ?_); refine goesL_ (some 69) rfl rfl Try.func7 (by kernel_rfl) rfl #[.int .i64 (Int.tmod (wrap64 ((Int.tmod a0 3) + 3)) 3), .int .i64 x9_1, .int .i64 (wrap64 (-(Int.tmod (wrap64 ((Int.tmod a2 60) + 60)) 60)))] rfl (by (try simp only [List.map_toArray, List.map_cons, List.map_nil]); first | done | rfl | (simp only [List.length_drop, List.length_take]; rfl)) ?_; (with_reducible refine (word_Add.calls (Int.tmod (wrap64 ((Int.tmod a0 3) + 3)) 3) x9_1 (wrap64 (-(Int.tmod (wrap64 ((Int.tmod a2 60) + 60)) 60))) t111 t112 _ A13.out).mono ?_); rintro e w' ⟨rfl, ⟨nd, rfl⟩⟩; refine ⟨_, rfl, ?_⟩) | ((with_reducible refine gate_callee (f := 9) rfl ?_); refine goesL_ (some 72) rfl rfl Try.func9 (by kernel_rfl) rfl #[] rfl (by (try simp only [List.map_toArray, List.map_cons, List.map_nil]); first | done | rfl | (simp only [List.length_drop, List.length_take]; rfl)) ?_; (with_reducible refine (deadboltlaw01_alive.calls  true _ A14.out).mono ?_); rintro e w' ⟨rfl, ⟨nd, rfl⟩⟩; refine ⟨_, rfl, ?_⟩))
                  go_ret
                  exact ⟨by first | rfl | (simp; done) | (simp [*]; done), by repeat (first | exact Drawn0.refl _ | apply Drawn0.step)⟩
                · rw [if_neg c18] at H
                  have c18b0 : (x9_1 == t109) = false := beq_eq_false_iff_ne.mpr c18
                  have c18b1 : (x9_1 != t109) = true := bne_iff_ne.mpr c18
                  obtain rfl := Option.some.inj H
                  go_wp2_with (first | ((with_reducible refine gate_callee (f := 7) rfl ?_); refine goesL_ (some 61) rfl rfl Try.func7 (by kernel_rfl) rfl #[.int .i64 (Int.tmod (wrap64 ((Int.tmod a0 3) + 3)) 3), .int .i64 a1, .int .i64 (Int.tmod (wrap64 ((Int.tmod a2 60) + 60)) 60)] rfl (by (try simp only [List.map_toArray, List.map_cons, List.map_nil]); first | done | rfl | (simp only [List.length_drop, List.length_take]; rfl)) ?_; (with_reducible refine (word_Add.calls (Int.tmod (wrap64 ((Int.tmod a0 3) + 3)) 3) a1 (Int.tmod (wrap64 ((Int.tmod a2 60) + 60)) 60) t109 t110 _ A12.out).mono ?_); rintro e w' ⟨rfl, ⟨nd, rfl⟩⟩; refine ⟨_, rfl, ?_⟩) | ((with_reducible refine gate_callee (f := 7) rfl ?_); refine goesL_ (some 69) rfl rfl Try.func7 (by kernel_rfl) rfl #[.int .i64 (Int.tmod (wrap64 ((Int.tmod a0 3) + 3)) 3), .int .i64 x9_1, .int .i64 (wrap64 (-(Int.tmod (wrap64 ((Int.tmod a2 60) + 60)) 60)))] rfl (by (try simp only [List.map_toArray, List.map_cons, List.map_nil]); first | done | rfl | (simp only [List.length_drop, List.length_take]; rfl)) ?_; (with_reducible refine (word_Add.calls (Int.tmod (wrap64 ((Int.tmod a0 3) + 3)) 3) x9_1 (wrap64 (-(Int.tmod (wrap64 ((Int.tmod a2 60) + 60)) 60))) t111 t112 _ A13.out).mono ?_); rintro e w' ⟨rfl, ⟨nd, rfl⟩⟩; refine ⟨_, rfl, ?_⟩) | ((with_reducible refine gate_callee (f := 9) rfl ?_); refine goesL_ (some 72) rfl rfl Try.func9 (by kernel_rfl) rfl #[] rfl (by (try simp only [List.map_toArray, List.map_cons, List.map_nil]); first | done | rfl | (simp only [List.length_drop, List.length_take]; rfl)) ?_; (with_reducible refine (deadboltlaw01_alive.calls  true _ A14.out).mono ?_); rintro e w' ⟨rfl, ⟨nd, rfl⟩⟩; refine ⟨_, rfl, ?_⟩))
                  go_ret
                  exact ⟨by first | rfl | (simp; done) | (simp [*]; done), by repeat (first | exact Drawn0.refl _ | apply Drawn0.step)⟩
              · rw [if_neg c17] at H
                have c17b0 : (t112 == 0) = false := beq_eq_false_iff_ne.mpr c17
                have c17b1 : (t112 != 0) = true := bne_iff_ne.mpr c17
                obtain rfl := Option.some.inj H
                go_wp2_with (first | ((with_reducible refine gate_callee (f := 7) rfl ?_); refine goesL_ (some 61) rfl rfl Try.func7 (by kernel_rfl) rfl #[.int .i64 (Int.tmod (wrap64 ((Int.tmod a0 3) + 3)) 3), .int .i64 a1, .int .i64 (Int.tmod (wrap64 ((Int.tmod a2 60) + 60)) 60)] rfl (by (try simp only [List.map_toArray, List.map_cons, List.map_nil]); first | done | rfl | (simp only [List.length_drop, List.length_take]; rfl)) ?_; (with_reducible refine (word_Add.calls (Int.tmod (wrap64 ((Int.tmod a0 3) + 3)) 3) a1 (Int.tmod (wrap64 ((Int.tmod a2 60) + 60)) 60) t109 t110 _ A12.out).mono ?_); rintro e w' ⟨rfl, ⟨nd, rfl⟩⟩; refine ⟨_, rfl, ?_⟩) | ((with_reducible refine gate_callee (f := 7) rfl ?_); refine goesL_ (some 69) rfl rfl Try.func7 (by kernel_rfl) rfl #[.int .i64 (Int.tmod (wrap64 ((Int.tmod a0 3) + 3)) 3), .int .i64 x9_1, .int .i64 (wrap64 (-(Int.tmod (wrap64 ((Int.tmod a2 60) + 60)) 60)))] rfl (by (try simp only [List.map_toArray, List.map_cons, List.map_nil]); first | done | rfl | (simp only [List.length_drop, List.length_take]; rfl)) ?_; (with_reducible refine (word_Add.calls (Int.tmod (wrap64 ((Int.tmod a0 3) + 3)) 3) x9_1 (wrap64 (-(Int.tmod (wrap64 ((Int.tmod a2 60) + 60)) 60))) t111 t112 _ A13.out).mono ?_); rintro e w' ⟨rfl, ⟨nd, rfl⟩⟩; refine ⟨_, rfl, ?_⟩) | ((with_reducible refine gate_callee (f := 9) rfl ?_); refine goesL_ (some 72) rfl rfl Try.func9 (by kernel_rfl) rfl #[] rfl (by (try simp only [List.map_toArray, List.map_cons, List.map_nil]); first | done | rfl | (simp only [List.length_drop, List.length_take]; rfl)) ?_; (with_reducible refine (deadboltlaw01_alive.calls  true _ A14.out).mono ?_); rintro e w' ⟨rfl, ⟨nd, rfl⟩⟩; refine ⟨_, rfl, ?_⟩))
                go_ret
                exact ⟨by first | rfl | (simp; done) | (simp [*]; done), by repeat (first | exact Drawn0.refl _ | apply Drawn0.step)⟩
            · rw [if_neg c16] at H
              have c16b0 : (t110 == 0) = false := beq_eq_false_iff_ne.mpr c16
              have c16b1 : (t110 != 0) = true := bne_iff_ne.mpr c16
              obtain rfl := Option.some.inj H
              go_wp2_with (first | ((with_reducible refine gate_callee (f := 7) rfl ?_); refine goesL_ (some 61) rfl rfl Try.func7 (by kernel_rfl) rfl #[.int .i64 (Int.tmod (wrap64 ((Int.tmod a0 3) + 3)) 3), .int .i64 a1, .int .i64 (Int.tmod (wrap64 ((Int.tmod a2 60) + 60)) 60)] rfl (by (try simp only [List.map_toArray, List.map_cons, List.map_nil]); first | done | rfl | (simp only [List.length_drop, List.length_take]; rfl)) ?_; (with_reducible refine (word_Add.calls (Int.tmod (wrap64 ((Int.tmod a0 3) + 3)) 3) a1 (Int.tmod (wrap64 ((Int.tmod a2 60) + 60)) 60) t109 t110 _ A12.out).mono ?_); rintro e w' ⟨rfl, ⟨nd, rfl⟩⟩; refine ⟨_, rfl, ?_⟩) | ((with_reducible refine gate_callee (f := 7) rfl ?_); refine goesL_ (some 69) rfl rfl Try.func7 (by kernel_rfl) rfl #[.int .i64 (Int.tmod (wrap64 ((Int.tmod a0 3) + 3)) 3), .int .i64 x9_1, .int .i64 (wrap64 (-(Int.tmod (wrap64 ((Int.tmod a2 60) + 60)) 60)))] rfl (by (try simp only [List.map_toArray, List.map_cons, List.map_nil]); first | done | rfl | (simp only [List.length_drop, List.length_take]; rfl)) ?_; (with_reducible refine (word_Add.calls (Int.tmod (wrap64 ((Int.tmod a0 3) + 3)) 3) x9_1 (wrap64 (-(Int.tmod (wrap64 ((Int.tmod a2 60) + 60)) 60))) t111 t112 _ A13.out).mono ?_); rintro e w' ⟨rfl, ⟨nd, rfl⟩⟩; refine ⟨_, rfl, ?_⟩) | ((with_reducible refine gate_callee (f := 9) rfl ?_); refine goesL_ (some 72) rfl rfl Try.func9 (by kernel_rfl) rfl #[] rfl (by (try simp only [List.map_toArray, List.map_cons, List.map_nil]); first | done | rfl | (simp only [List.length_drop, List.length_take]; rfl)) ?_; (with_reducible refine (deadboltlaw01_alive.calls  true _ A14.out).mono ?_); rintro e w' ⟨rfl, ⟨nd, rfl⟩⟩; refine ⟨_, rfl, ?_⟩))
              go_ret
              exact ⟨by first | rfl | (simp; done) | (simp [*]; done), by repeat (first | exact Drawn0.refl _ | apply Drawn0.step)⟩
          · replace c15 := Bool.eq_false_iff.mpr c15
            subst c15
            have H1 : (some false) = some r := by rw [if_neg (show ¬ (false = true) by decide)] at H; exact H
            clear H
            have H := H1
            clear H1
            obtain rfl := Option.some.inj H
            go_wp2_with (first | ((with_reducible refine gate_callee (f := 7) rfl ?_); refine goesL_ (some 61) rfl rfl Try.func7 (by kernel_rfl) rfl #[.int .i64 (Int.tmod (wrap64 ((Int.tmod a0 3) + 3)) 3), .int .i64 a1, .int .i64 (Int.tmod (wrap64 ((Int.tmod a2 60) + 60)) 60)] rfl (by (try simp only [List.map_toArray, List.map_cons, List.map_nil]); first | done | rfl | (simp only [List.length_drop, List.length_take]; rfl)) ?_; (with_reducible refine (word_Add.calls (Int.tmod (wrap64 ((Int.tmod a0 3) + 3)) 3) a1 (Int.tmod (wrap64 ((Int.tmod a2 60) + 60)) 60) t109 t110 _ A12.out).mono ?_); rintro e w' ⟨rfl, ⟨nd, rfl⟩⟩; refine ⟨_, rfl, ?_⟩) | ((with_reducible refine gate_callee (f := 7) rfl ?_); refine goesL_ (some 69) rfl rfl Try.func7 (by kernel_rfl) rfl #[.int .i64 (Int.tmod (wrap64 ((Int.tmod a0 3) + 3)) 3), .int .i64 x9_1, .int .i64 (wrap64 (-(Int.tmod (wrap64 ((Int.tmod a2 60) + 60)) 60)))] rfl (by (try simp only [List.map_toArray, List.map_cons, List.map_nil]); first | done | rfl | (simp only [List.length_drop, List.length_take]; rfl)) ?_; (with_reducible refine (word_Add.calls (Int.tmod (wrap64 ((Int.tmod a0 3) + 3)) 3) x9_1 (wrap64 (-(Int.tmod (wrap64 ((Int.tmod a2 60) + 60)) 60))) t111 t112 _ A13.out).mono ?_); rintro e w' ⟨rfl, ⟨nd, rfl⟩⟩; refine ⟨_, rfl, ?_⟩) | ((with_reducible refine gate_callee (f := 9) rfl ?_); refine goesL_ (some 72) rfl rfl Try.func9 (by kernel_rfl) rfl #[] rfl (by (try simp only [List.map_toArray, List.map_cons, List.map_nil]); first | done | rfl | (simp only [List.length_drop, List.length_take]; rfl)) ?_; (with_reducible refine (deadboltlaw01_alive.calls  false _ A14.out).mono ?_); rintro e w' ⟨rfl, ⟨nd, rfl⟩⟩; refine ⟨_, rfl, ?_⟩))
            go_ret
            exact ⟨by first | rfl | (simp; done) | (simp [*]; done), by repeat (first | exact Drawn0.refl _ | apply Drawn0.step)⟩
  · rw [if_neg c5] at H
    have c5b0 : (t108 == 0) = false := beq_eq_false_iff_ne.mpr c5
    have c5b1 : (t108 != 0) = true := bne_iff_ne.mpr c5
    obtain rfl := Option.some.inj H
    go_enter Try.func4, Try.ntmps4
    go_wp2_with (first | ((with_reducible refine gate_callee (f := 8) rfl ?_); refine goesL_ (some 27) rfl rfl Try.func8 (by kernel_rfl) rfl #[.int .i64 (Int.tmod (wrap64 ((Int.tmod a0 3) + 3)) 3), .int .i64 a1] rfl (by (try simp only [List.map_toArray, List.map_cons, List.map_nil]); first | done | rfl | (simp only [List.length_drop, List.length_take]; rfl)) ?_; (with_reducible refine (word_Wrap.calls (Int.tmod (wrap64 ((Int.tmod a0 3) + 3)) 3) a1 t107 t108 _ A4.out).mono ?_); rintro e w' ⟨rfl, ⟨nd, rfl⟩⟩; refine ⟨_, rfl, ?_⟩))
    go_ret
    exact ⟨by first | rfl | (simp; done) | (simp [*]; done), by repeat (first | exact Drawn0.refl _ | apply Drawn0.step)⟩

/-- THE ONE PURE STATEMENT of deadboltlaw01_WordSteps: yours. -/
def deadboltlaw01_WordSteps.Pure : Prop := ∀ (a0 : Int) (a1 : Int) (a2 : Int), (Lit.int .i64 a0).wf = true → (Lit.int .i64 a1).wf = true → (Lit.int .i64 a2).wf = true → ∃ k, deadboltlaw01_WordSteps.f k a0 a1 a2 = some true
theorem deadboltlaw01_WordSteps.walk (P : deadboltlaw01_WordSteps.Pure) (a0 : Int) (a1 : Int) (a2 : Int) (w : World) (w0 : (Lit.int .i64 a0).wf = true) (w1 : (Lit.int .i64 a1).wf = true) (w2 : (Lit.int .i64 a2).wf = true) :
    Calls Try.prog 4 #[.int .i64 a0, .int .i64 a1, .int .i64 a2] w fun e w' => e = .returned (.bool true) ∧ Below w.heap.size w w' := by
  obtain ⟨k, h⟩ := P a0 a1 a2 w0 w1 w2
  refine (deadboltlaw01_WordSteps.calls k a0 a1 a2 true w h).mono ?_
  rintro e w' ⟨rfl, hd⟩
  exact ⟨rfl, hd.below⟩

end Go.Proofs.Ytdflcfdpkakboaa.PWordSteps
