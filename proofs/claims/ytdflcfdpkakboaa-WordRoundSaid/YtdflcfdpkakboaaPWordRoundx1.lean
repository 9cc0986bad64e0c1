-- PRINTED BY print.sh 35421559b90ae4d0a3588c463048766b98c2df88dd9212a6774a882060cdf62d: not written by this session
import Derived.Test.YtdflcfdpkakboaaPWordRoundx0
namespace Go.Proofs.Ytdflcfdpkakboaa.PWordRound
open Go.RowKit Go.Proofs.YtdflcfdpkakboaaW.PrintWords Go.Proofs.YtdflcfdpkakboaaW.PrintLast Go.Proofs.YtdflcfdpkakboaaW.PrintMore
attribute [local go_sem] max2_int min2_int max_two min_two max_three min_three max_four min_four   -- for this text's walks alone
set_option linter.unusedVariables false
set_option linter.unusedSimpArgs false

/-! ### word_Wrap: function 8 -/
def word_Wrap.f (a0 : Int) (a1 : Int) : Option (Int × Int) := if a0 = 0 then (some (wrap64 (wrap32 (a1)), 0)) else (if a0 = 1 then (some ((a1) % 4294967296, 0)) else (if a0 = 2 then (some (a1, 0)) else (some (0, 1))))
set_option maxHeartbeats 8000000 in
set_option maxRecDepth 100000 in
theorem word_Wrap.calls (a0 : Int) (a1 : Int) (r1 : Int) (r2 : Int) (w : World) (h : word_Wrap.f a0 a1 = some (r1, r2)) :
    Calls Try.prog 8 #[.int .i64 a0, .int .i64 a1] w fun e w' => e = .returned (.tuple #[.int .i64 r1, .int .i64 r2]) ∧ Drawn0 w w' := by
  have H : (if a0 = 0 then (some (wrap64 (wrap32 (a1)), 0)) else (if a0 = 1 then (some ((a1) % 4294967296, 0)) else (if a0 = 2 then (some (a1, 0)) else (some (0, 1))))) = some (r1, r2) := h
  clear h
  by_cases c3 : a0 = 0
  · rw [if_pos c3] at H
    have c3b0 : (a0 == 0) = true := beq_iff_eq.mpr c3
    have c3b1 : (a0 != 0) = false := bne_eq_false_iff_eq.mpr c3
    clear c3
    simp only [Option.some.injEq, Prod.mk.injEq] at H
    obtain ⟨rfl, rfl⟩ := H
    go_enter Try.func8, Try.ntmps8
    go_wp2
    go_ret2
    exact ⟨by first | rfl | (simp; done) | (simp [*]; done), by repeat (first | exact Drawn0.refl _ | apply Drawn0.step)⟩
  · rw [if_neg c3] at H
    have c3b0 : (a0 == 0) = false := beq_eq_false_iff_ne.mpr c3
    have c3b1 : (a0 != 0) = true := bne_iff_ne.mpr c3
    by_cases c4 : a0 = 1
    · rw [if_pos c4] at H
      have c4b0 : (a0 == 1) = true := beq_iff_eq.mpr c4
      have c4b1 : (a0 != 1) = false := bne_eq_false_iff_eq.mpr c4
      clear c4
      simp only [Option.some.injEq, Prod.mk.injEq] at H
      obtain ⟨rfl, rfl⟩ := H
      go_enter Try.func8, Try.ntmps8
      go_wp2
      go_ret2
      exact ⟨by first | rfl | (simp; done) | (simp [*]; done), by repeat (first | exact Drawn0.refl _ | apply Drawn0.step)⟩
    · rw [if_neg c4] at H
      have c4b0 : (a0 == 1) = false := beq_eq_false_iff_ne.mpr c4
      have c4b1 : (a0 != 1) = true := bne_iff_ne.mpr c4
      by_cases c5 : a0 = 2
      · rw [if_pos c5] at H
        have c5b0 : (a0 == 2) = true := beq_iff_eq.mpr c5
        have c5b1 : (a0 != 2) = false := bne_eq_false_iff_eq.mpr c5
        clear c5
        simp only [Option.some.injEq, Prod.mk.injEq] at H
        obtain ⟨rfl, rfl⟩ := H
        go_enter Try.func8, Try.ntmps8
        go_wp2
        go_ret2
        exact ⟨by first | rfl | (simp; done) | (simp [*]; done), by repeat (first | exact Drawn0.refl _ | apply Drawn0.step)⟩
      · rw [if_neg c5] at H
        have c5b0 : (a0 == 2) = false := beq_eq_false_iff_ne.mpr c5
        have c5b1 : (a0 != 2) = true := bne_iff_ne.mpr c5
        simp only [Option.some.injEq, Prod.mk.injEq] at H
        obtain ⟨rfl, rfl⟩ := H
        go_enter Try.func8, Try.ntmps8
        go_wp2
        go_ret2
        exact ⟨by first | rfl | (simp; done) | (simp [*]; done), by repeat (first | exact Drawn0.refl _ | apply Drawn0.step)⟩

/-! ### word_Add: function 7 -/
def word_Add.f (a0 : Int) (a1 : Int) (a2 : Int) : Option (Int × Int) := (word_Wrap.f a0 (wrap64 (a1 + a2))).bind fun bt101 => (some (bt101.1, bt101.2))
set_option maxHeartbeats 8000000 in
set_option maxRecDepth 100000 in
theorem word_Add.calls (a0 : Int) (a1 : Int) (a2 : Int) (r1 : Int) (r2 : Int) (w : World) (h : word_Add.f a0 a1 a2 = some (r1, r2)) :
    Calls Try.prog 7 #[.int .i64 a0, .int .i64 a1, .int .i64 a2] w fun e w' => e = .returned (.tuple #[.int .i64 r1, .int .i64 r2]) ∧ Drawn0 w w' := by
  have H : ((word_Wrap.f a0 (wrap64 (a1 + a2))).bind fun bt101 => (some (bt101.1, bt101.2))) = some (r1, r2) := h
  clear h
  replace H := Option.bind_eq_some_iff.mp H
  obtain ⟨⟨t101, t102⟩, A40, H⟩ := H
  replace H : (some (t101, t102)) = some (r1, r2) := H
  have A4 := Aside0.mk A40
  clear A40
  simp only [Option.some.injEq, Prod.mk.injEq] at H
  obtain ⟨rfl, rfl⟩ := H
  go_enter Try.func7, Try.ntmps7
  go_wp2_with (first | ((with_reducible refine gate_callee (f := 8) rfl ?_); refine goesL_ (some 12) rfl rfl Try.func8 (by kernel_rfl) rfl #[.int .i64 a0, .int .i64 (wrap64 (a1 + a2))] rfl (by (try simp only [List.map_toArray, List.map_cons, List.map_nil]); first | done | rfl | (simp only [List.length_drop, List.length_take]; rfl)) ?_; (with_reducible refine (word_Wrap.calls a0 (wrap64 (a1 + a2)) t101 t102 _ A4.out).mono ?_); rintro e w' ⟨rfl, ⟨nd, rfl⟩⟩; refine ⟨_, rfl, ?_⟩))
  go_ret2
  exact ⟨by first | rfl | (simp; done) | (simp [*]; done), by repeat (first | exact Drawn0.refl _ | apply Drawn0.step)⟩

/-! ### deadboltlaw01_alive: function 9 -/
def deadboltlaw01_alive.f  : Option (Bool) := (word_Add.f 0 2147483647 1).bind fun bt103 => (if bt103.2 = 0 then (some (bt103.1 == (-2147483648))) else (some false))
set_option maxHeartbeats 8000000 in
set_option maxRecDepth 100000 in
theorem deadboltlaw01_alive.calls  (r : Bool) (w : World) (h : deadboltlaw01_alive.f  = some r) :
    Calls Try.prog 9 #[] w fun e w' => e = .returned (.bool r) ∧ Drawn0 w w' := by
  have H : ((word_Add.f 0 2147483647 1).bind fun bt103 => (if bt103.2 = 0 then (some (bt103.1 == (-2147483648))) else (some false))) = some r := h
  clear h
  replace H := Option.bind_eq_some_iff.mp H
  obtain ⟨⟨t103, t104⟩, A10, H⟩ := H
  replace H : (if t104 = 0 then (some (t103 == (-2147483648))) else (some false)) = some r := H
  have A1 := Aside0.mk A10
  clear A10
  by_cases c2 : t104 = 0
  · rw [if_pos c2] at H
    have c2b0 : (t104 == 0) = true := beq_iff_eq.mpr c2
    have c2b1 : (t104 != 0) = false := bne_eq_false_iff_eq.mpr c2
    clear c2
    obtain rfl := Option.some.inj H
    go_enter Try.func9, Try.ntmps9
    go_wp2_with (first | ((with_reducible refine gate_callee (f := 7) rfl ?_); refine goesL_ (some 4) rfl rfl Try.func7 (by kernel_rfl) rfl #[.int .i64 0, .int .i64 2147483647, .int .i64 1] rfl (by (try simp only [List.map_toArray, List.map_cons, List.map_nil]); first | done | rfl | (simp only [List.length_drop, List.length_take]; rfl)) ?_; (with_reducible refine (word_Add.calls 0 2147483647 1 t103 t104 _ A1.out).mono ?_); rintro e w' ⟨rfl, ⟨nd, rfl⟩⟩; refine ⟨_, rfl, ?_⟩))
    go_ret
    exact ⟨by first | rfl | (simp; done) | (simp [*]; done), by repeat (first | exact Drawn0.refl _ | apply Drawn0.step)⟩
  · rw [if_neg c2] at H
    have c2b0 : (t104 == 0) = false := beq_eq_false_iff_ne.mpr c2
    have c2b1 : (t104 != 0) = true := bne_iff_ne.mpr c2
    obtain rfl := Option.some.inj H
    go_enter Try.func9, Try.ntmps9
    go_wp2_with (first | ((with_reducible refine gate_callee (f := 7) rfl ?_); refine goesL_ (some 4) rfl rfl Try.func7 (by kernel_rfl) rfl #[.int .i64 0, .int .i64 2147483647, .int .i64 1] rfl (by (try simp only [List.map_toArray, List.map_cons, List.map_nil]); first | done | rfl | (simp only [List.length_drop, List.length_take]; rfl)) ?_; (with_reducible refine (word_Add.calls 0 2147483647 1 t103 t104 _ A1.out).mono ?_); rintro e w' ⟨rfl, ⟨nd, rfl⟩⟩; refine ⟨_, rfl, ?_⟩))
    go_ret
    exact ⟨by first | rfl | (simp; done) | (simp [*]; done), by repeat (first | exact Drawn0.refl _ | apply Drawn0.step)⟩

/-! ### word_Fits: function 10 -/
def word_Fits.f (a0 : Int) (a1 : Int) : Option (Bool) := (word_Wrap.f a0 a1).bind fun bt105 => (if bt105.2 = 0 then (some (bt105.1 == a1)) else (some false))
set_option maxHeartbeats 8000000 in
set_option maxRecDepth 100000 in
theorem word_Fits.calls (a0 : Int) (a1 : Int) (r : Bool) (w : World) (h : word_Fits.f a0 a1 = some r) :
    Calls Try.prog 10 #[.int .i64 a0, .int .i64 a1] w fun e w' => e = .returned (.bool r) ∧ Drawn0 w w' := by
  have H : ((word_Wrap.f a0 a1).bind fun bt105 => (if bt105.2 = 0 then (some (bt105.1 == a1)) else (some false))) = some r := h
  clear h
  replace H := Option.bind_eq_some_iff.mp H
  obtain ⟨⟨t105, t106⟩, A30, H⟩ := H
  replace H : (if t106 = 0 then (some (t105 == a1)) else (some false)) = some r := H
  have A3 := Aside0.mk A30
  clear A30
  by_cases c4 : t106 = 0
  · rw [if_pos c4] at H
    have c4b0 : (t106 == 0) = true := beq_iff_eq.mpr c4
    have c4b1 : (t106 != 0) = false := bne_eq_false_iff_eq.mpr c4
    clear c4
    obtain rfl := Option.some.inj H
    go_enter Try.func10, Try.ntmps10
    go_wp2_with (first | ((with_reducible refine gate_callee (f := 8) rfl ?_); refine goesL_ (some 10) rfl rfl Try.func8 (by kernel_rfl) rfl #[.int .i64 a0, .int .i64 a1] rfl (by (try simp only [List.map_toArray, List.map_cons, List.map_nil]); first | done | rfl | (simp only [List.length_drop, List.length_take]; rfl)) ?_; (with_reducible refine (word_Wrap.calls a0 a1 t105 t106 _ A3.out).mono ?_); rintro e w' ⟨rfl, ⟨nd, rfl⟩⟩; refine ⟨_, rfl, ?_⟩))
    go_ret
    exact ⟨by first | rfl | (simp; done) | (simp [*]; done), by repeat (first | exact Drawn0.refl _ | apply Drawn0.step)⟩
  · rw [if_neg c4] at H
    have c4b0 : (t106 == 0) = false := beq_eq_false_iff_ne.mpr c4
    have c4b1 : (t106 != 0) = true := bne_iff_ne.mpr c4
    obtain rfl := Option.some.inj H
    go_enter Try.func10, Try.ntmps10
    go_wp2_with (first | ((with_reducible refine gate_callee (f := 8) rfl ?_); refine goesL_ (some 10) rfl rfl Try.func8 (by kernel_rfl) rfl #[.int .i64 a0, .int .i64 a1] rfl (by (try simp only [List.map_toArray, List.map_cons, List.map_nil]); first | done | rfl | (simp only [List.length_drop, List.length_take]; rfl)) ?_; (with_reducible refine (word_Wrap.calls a0 a1 t105 t106 _ A3.out).mono ?_); rintro e w' ⟨rfl, ⟨nd, rfl⟩⟩; refine ⟨_, rfl, ?_⟩))
    go_ret
    exact ⟨by first | rfl | (simp; done) | (simp [*]; done), by repeat (first | exact Drawn0.refl _ | apply Drawn0.step)⟩

/-! ### deadboltlaw01_WordRound: function 3 -/
def deadboltlaw01_WordRound.j0 : Nat → Int → Int → Int → Int → Int → Int → Int → Int → Int → Int → Bool → Option (Bool)
  | 0, _, _, _, _, _, _, _, _, _, _, _ => none
  | k + 1, x0, x9, x11, x13, x17, x19, x21, x23, x25, x27, x138 => if x138 = true then (some false) else ((deadboltlaw01_alive.f).bind fun t127 => (if t127 = true then (if x9 = x11 then (if x13 = x17 then (if x21 = x19 then (if x23 = x9 then (if x25 = 0 then (if x27 = x19 then ((word_Fits.f x0 x19).bind fun t128 => (if t128 = true then ((word_Fits.f x0 x13).bind fun t129 => (some t129)) else (some false))) else (some false)) else (some false)) else (some false)) else (some false)) else (some false)) else (some false)) else (some false)))
def deadboltlaw01_WordRound.f (k : Nat) (a0 : Int) (a1 : Int) (a2 : Int) (a3 : Int) : Option (Bool) := (word_Add.f (Int.tmod (wrap64 ((Int.tmod a0 3) + 3)) 3) a1 a2).bind fun bt107 => ((word_Add.f (Int.tmod (wrap64 ((Int.tmod a0 3) + 3)) 3) a2 a1).bind fun bt109 => ((word_Add.f (Int.tmod (wrap64 ((Int.tmod a0 3) + 3)) 3) bt107.1 a3).bind fun bt111 => ((word_Add.f (Int.tmod (wrap64 ((Int.tmod a0 3) + 3)) 3) a2 a3).bind fun bt113 => ((word_Add.f (Int.tmod (wrap64 ((Int.tmod a0 3) + 3)) 3) a1 bt113.1).bind fun bt115 => ((word_Wrap.f (Int.tmod (wrap64 ((Int.tmod a0 3) + 3)) 3) a1).bind fun bt117 => ((word_Wrap.f (Int.tmod (wrap64 ((Int.tmod a0 3) + 3)) 3) bt117.1).bind fun bt119 => ((word_Add.f (Int.tmod (wrap64 ((Int.tmod a0 3) + 3)) 3) bt117.1 a2).bind fun bt121 => ((word_Add.f (Int.tmod (wrap64 ((Int.tmod a0 3) + 3)) 3) a1 (wrap64 (-a1))).bind fun bt123 => ((word_Add.f (Int.tmod (wrap64 ((Int.tmod a0 3) + 3)) 3) a1 0).bind fun bt125 => (if bt107.2 = 0 then (if bt109.2 = 0 then (if bt111.2 = 0 then (if bt113.2 = 0 then (if bt115.2 = 0 then (if bt117.2 = 0 then (if bt119.2 = 0 then (if bt121.2 = 0 then (if bt123.2 = 0 then (deadboltlaw01_WordRound.j0 k (Int.tmod (wrap64 ((Int.tmod a0 3) + 3)) 3) bt107.1 bt109.1 bt111.1 bt115.1 bt117.1 bt119.1 bt121.1 bt123.1 bt125.1 (bt125.2 != 0)) else (deadboltlaw01_WordRound.j0 k (Int.tmod (wrap64 ((Int.tmod a0 3) + 3)) 3) bt107.1 bt109.1 bt111.1 bt115.1 bt117.1 bt119.1 bt121.1 bt123.1 bt125.1 true)) else (deadboltlaw01_WordRound.j0 k (Int.tmod (wrap64 ((Int.tmod a0 3) + 3)) 3) bt107.1 bt109.1 bt111.1 bt115.1 bt117.1 bt119.1 bt121.1 bt123.1 bt125.1 true)) else (deadboltlaw01_WordRound.j0 k (Int.tmod (wrap64 ((Int.tmod a0 3) + 3)) 3) bt107.1 bt109.1 bt111.1 bt115.1 bt117.1 bt119.1 bt121.1 bt123.1 bt125.1 true)) else (deadboltlaw01_WordRound.j0 k (Int.tmod (wrap64 ((Int.tmod a0 3) + 3)) 3) bt107.1 bt109.1 bt111.1 bt115.1 bt117.1 bt119.1 bt121.1 bt123.1 bt125.1 true)) else (deadboltlaw01_WordRound.j0 k (Int.tmod (wrap64 ((Int.tmod a0 3) + 3)) 3) bt107.1 bt109.1 bt111.1 bt115.1 bt117.1 bt119.1 bt121.1 bt123.1 bt125.1 true)) else (deadboltlaw01_WordRound.j0 k (Int.tmod (wrap64 ((Int.tmod a0 3) + 3)) 3) bt107.1 bt109.1 bt111.1 bt115.1 bt117.1 bt119.1 bt121.1 bt123.1 bt125.1 true)) else (deadboltlaw01_WordRound.j0 k (Int.tmod (wrap64 ((Int.tmod a0 3) + 3)) 3) bt107.1 bt109.1 bt111.1 bt115.1 bt117.1 bt119.1 bt121.1 bt123.1 bt125.1 true)) else (deadboltlaw01_WordRound.j0 k (Int.tmod (wrap64 ((Int.tmod a0 3) + 3)) 3) bt107.1 bt109.1 bt111.1 bt115.1 bt117.1 bt119.1 bt121.1 bt123.1 bt125.1 true)) else (deadboltlaw01_WordRound.j0 k (Int.tmod (wrap64 ((Int.tmod a0 3) + 3)) 3) bt107.1 bt109.1 bt111.1 bt115.1 bt117.1 bt119.1 bt121.1 bt123.1 bt125.1 true)))))))))))
theorem deadboltlaw01_WordRound.mono_l : ∀ k, (∀ y0 y1 y2 y3 y4 y5 y6 y7 y8 y9 y10, LeO (deadboltlaw01_WordRound.j0 k y0 y1 y2 y3 y4 y5 y6 y7 y8 y9 y10) (deadboltlaw01_WordRound.j0 (k + 1) y0 y1 y2 y3 y4 y5 y6 y7 y8 y9 y10))
  | 0 => fun _ _ _ _ _ _ _ _ _ _ _ r h => by simp [deadboltlaw01_WordRound.j0] at h
  | k + 1 => by
    have ih0 := deadboltlaw01_WordRound.mono_l k
    · intro y0 y1 y2 y3 y4 y5 y6 y7 y8 y9 y10
      unfold deadboltlaw01_WordRound.j0
      repeat' first
      | (with_reducible exact ih0 _ _ _ _ _ _ _ _ _ _ _)
      | (with_reducible exact LeO.refl _)
      | (with_reducible exact LeO.none _)
      | (with_reducible refine LeO.ite ?_ ?_)
      | (with_reducible refine LeO.bind ?_ (fun _ => ?_))
      | exact ih0 _ _ _ _ _ _ _ _ _ _ _
      | exact LeO.none _
      | refine LeO.ite ?_ ?_
      | refine LeO.bind ?_ (fun _ => ?_)
theorem deadboltlaw01_WordRound.mono : ∀ a0 a1 a2 a3 k, LeO (deadboltlaw01_WordRound.f k a0 a1 a2 a3) (deadboltlaw01_WordRound.f (k + 1) a0 a1 a2 a3) := by
  intro a0 a1 a2 a3 k
  have ih0 := deadboltlaw01_WordRound.mono_l k
  unfold deadboltlaw01_WordRound.f
  repeat' first
      | (with_reducible exact ih0 _ _ _ _ _ _ _ _ _ _ _)
      | (with_reducible exact LeO.refl _)
      | (with_reducible exact LeO.none _)
      | (with_reducible refine LeO.ite ?_ ?_)
      | (with_reducible refine LeO.bind ?_ (fun _ => ?_))
      | exact ih0 _ _ _ _ _ _ _ _ _ _ _
      | exact LeO.none _
      | refine LeO.ite ?_ ?_
      | refine LeO.bind ?_ (fun _ => ?_)
set_option maxHeartbeats 8000000 in
set_option maxRecDepth 100000 in
theorem deadboltlaw01_WordRound.calls (k : Nat) (a0 : Int) (a1 : Int) (a2 : Int) (a3 : Int) (r : Bool) (w : World) (h : deadboltlaw01_WordRound.f k a0 a1 a2 a3 = some r) :
    Calls Try.prog 3 #[.int .i64 a0, .int .i64 a1, .int .i64 a2, .int .i64 a3] w fun e w' => e = .returned (.bool r) ∧ Drawn0 w w' := by
  have H : ((word_Add.f (Int.tmod (wrap64 ((Int.tmod a0 3) + 3)) 3) a1 a2).bind fun bt107 => ((word_Add.f (Int.tmod (wrap64 ((Int.tmod a0 3) + 3)) 3) a2 a1).bind fun bt109 => ((word_Add.f (Int.tmod (wrap64 ((Int.tmod a0 3) + 3)) 3) bt107.1 a3).bind fun bt111 => ((word_Add.f (Int.tmod (wrap64 ((Int.tmod a0 3) + 3)) 3) a2 a3).bind fun bt113 => ((word_Add.f (Int.tmod (wrap64 ((Int.tmod a0 3) + 3)) 3) a1 bt113.1).bind fun bt115 => ((word_Wrap.f (Int.tmod (wrap64 ((Int.tmod a0 3) + 3)) 3) a1).bind fun bt117 => ((word_Wrap.f (Int.tmod (wrap64 ((Int.tmod a0 3) + 3)) 3) bt117.1).bind fun bt119 => ((word_Add.f (Int.tmod (wrap64 ((Int.tmod a0 3) + 3)) 3) bt117.1 a2).bind fun bt121 => ((word_Add.f (Int.tmod (wrap64 ((Int.tmod a0 3) + 3)) 3) a1 (wrap64 (-a1))).bind fun bt123 => ((word_Add.f (Int.tmod (wrap64 ((Int.tmod a0 3) + 3)) 3) a1 0).bind fun bt125 => (if bt107.2 = 0 then (if bt109.2 = 0 then (if bt111.2 = 0 then (if bt113.2 = 0 then (if bt115.2 = 0 then (if bt117.2 = 0 then (if bt119.2 = 0 then (if bt121.2 = 0 then (if bt123.2 = 0 then (deadboltlaw01_WordRound.j0 k (Int.tmod (wrap64 ((Int.tmod a0 3) + 3)) 3) bt107.1 bt109.1 bt111.1 bt115.1 bt117.1 bt119.1 bt121.1 bt123.1 bt125.1 (bt125.2 != 0)) else (deadboltlaw01_WordRound.j0 k (Int.tmod (wrap64 ((Int.tmod a0 3) + 3)) 3) bt107.1 bt109.1 bt111.1 bt115.1 bt117.1 bt119.1 bt121.1 bt123.1 bt125.1 true)) else (deadboltlaw01_WordRound.j0 k (Int.tmod (wrap64 ((Int.tmod a0 3) + 3)) 3) bt107.1 bt109.1 bt111.1 bt115.1 bt117.1 bt119.1 bt121.1 bt123.1 bt125.1 true)) else (deadboltlaw01_WordRound.j0 k (Int.tmod (wrap64 ((Int.tmod a0 3) + 3)) 3) bt107.1 bt109.1 bt111.1 bt115.1 bt117.1 bt119.1 bt121.1 bt123.1 bt125.1 true)) else (deadboltlaw01_WordRound.j0 k (Int.tmod (wrap64 ((Int.tmod a0 3) + 3)) 3) bt107.1 bt109.1 bt111.1 bt115.1 bt117.1 bt119.1 bt121.1 bt123.1 bt125.1 true)) else (deadboltlaw01_WordRound.j0 k (Int.tmod (wrap64 ((Int.tmod a0 3) + 3)) 3) bt107.1 bt109.1 bt111.1 bt115.1 bt117.1 bt119.1 bt121.1 bt123.1 bt125.1 true)) else (deadboltlaw01_WordRound.j0 k (Int.tmod (wrap64 ((Int.tmod a0 3) + 3)) 3) bt107.1 bt109.1 bt111.1 bt115.1 bt117.1 bt119.1 bt121.1 bt123.1 bt125.1 true)) else (deadboltlaw01_WordRound.j0 k (Int.tmod (wrap64 ((Int.tmod a0 3) + 3)) 3) bt107.1 bt109.1 bt111.1 bt115.1 bt117.1 bt119.1 bt121.1 bt123.1 bt125.1 true)) else (deadboltlaw01_WordRound.j0 k (Int.tmod (wrap64 ((Int.tmod a0 3) + 3)) 3) bt107.1 bt109.1 bt111.1 bt115.1 bt117.1 bt119.1 bt121.1 bt123.1 bt125.1 true)) else (deadboltlaw01_WordRound.j0 k (Int.tmod (wrap64 ((Int.tmod a0 3) + 3)) 3) bt107.1 bt109.1 bt111.1 bt115.1 bt117.1 bt119.1 bt121.1 bt123.1 bt125.1 true)))))))))))) = some r := h
  clear h
  replace H := Option.bind_eq_some_iff.mp H
  obtain ⟨⟨t107, t108⟩, A50, H⟩ := H
  replace H : ((word_Add.f (Int.tmod (wrap64 ((Int.tmod a0 3) + 3)) 3) a2 a1).bind fun bt109 => ((word_Add.f (Int.tmod (wrap64 ((Int.tmod a0 3) + 3)) 3) t107 a3).bind fun bt111 => ((word_Add.f (Int.tmod (wrap64 ((Int.tmod a0 3) + 3)) 3) a2 a3).bind fun bt113 => ((word_Add.f (Int.tmod (wrap64 ((Int.tmod a0 3) + 3)) 3) a1 bt113.1).bind fun bt115 => ((word_Wrap.f (Int.tmod (wrap64 ((Int.tmod a0 3) + 3)) 3) a1).bind fun bt117 => ((word_Wrap.f (Int.tmod (wrap64 ((Int.tmod a0 3) + 3)) 3) bt117.1).bind fun bt119 => ((word_Add.f (Int.tmod (wrap64 ((Int.tmod a0 3) + 3)) 3) bt117.1 a2).bind fun bt121 => ((word_Add.f (Int.tmod (wrap64 ((Int.tmod a0 3) + 3)) 3) a1 (wrap64 (-a1))).bind fun bt123 => ((word_Add.f (Int.tmod (wrap64 ((Int.tmod a0 3) + 3)) 3) a1 0).bind fun bt125 => (if t108 = 0 then (if bt109.2 = 0 then (if bt111.2 = 0 then (if bt113.2 = 0 then (if bt115.2 = 0 then (if bt117.2 = 0 then (if bt119.2 = 0 then (if bt121.2 = 0 then (if bt123.2 = 0 then (deadboltlaw01_WordRound.j0 k (Int.tmod (wrap64 ((Int.tmod a0 3) + 3)) 3) t107 bt109.1 bt111.1 bt115.1 bt117.1 bt119.1 bt121.1 bt123.1 bt125.1 (bt125.2 != 0)) else (deadboltlaw01_WordRound.j0 k (Int.tmod (wrap64 ((Int.tmod a0 3) + 3)) 3) t107 bt109.1 bt111.1 bt115.1 bt117.1 bt119.1 bt121.1 bt123.1 bt125.1 true)) else (deadboltlaw01_WordRound.j0 k (Int.tmod (wrap64 ((Int.tmod a0 3) + 3)) 3) t107 bt109.1 bt111.1 bt115.1 bt117.1 bt119.1 bt121.1 bt123.1 bt125.1 true)) else (deadboltlaw01_WordRound.j0 k (Int.tmod (wrap64 ((Int.tmod a0 3) + 3)) 3) t107 bt109.1 bt111.1 bt115.1 bt117.1 bt119.1 bt121.1 bt123.1 bt125.1 true)) else (deadboltlaw01_WordRound.j0 k (Int.tmod (wrap64 ((Int.tmod a0 3) + 3)) 3) t107 bt109.1 bt111.1 bt115.1 bt117.1 bt119.1 bt121.1 bt123.1 bt125.1 true)) else (deadboltlaw01_WordRound.j0 k (Int.tmod (wrap64 ((Int.tmod a0 3) + 3)) 3) t107 bt109.1 bt111.1 bt115.1 bt117.1 bt119.1 bt121.1 bt123.1 bt125.1 true)) else (deadboltlaw01_WordRound.j0 k (Int.tmod (wrap64 ((Int.tmod a0 3) + 3)) 3) t107 bt109.1 bt111.1 bt115.1 bt117.1 bt119.1 bt121.1 bt123.1 bt125.1 true)) else (deadboltlaw01_WordRound.j0 k (Int.tmod (wrap64 ((Int.tmod a0 3) + 3)) 3) t107 bt109.1 bt111.1 bt115.1 bt117.1 bt119.1 bt121.1 bt123.1 bt125.1 true)) else (deadboltlaw01_WordRound.j0 k (Int.tmod (wrap64 ((Int.tmod a0 3) + 3)) 3) t107 bt109.1 bt111.1 bt115.1 bt117.1 bt119.1 bt121.1 bt123.1 bt125.1 true)) else (deadboltlaw01_WordRound.j0 k (Int.tmod (wrap64 ((Int.tmod a0 3) + 3)) 3) t107 bt109.1 bt111.1 bt115.1 bt117.1 bt119.1 bt121.1 bt123.1 bt125.1 true))))))))))) = some r := H
  have A5 := Aside0.mk A50
  clear A50
  replace H := Option.bind_eq_some_iff.mp H
  obtain ⟨⟨t109, t110⟩, A60, H⟩ := H
  replace H : ((word_Add.f (Int.tmod (wrap64 ((Int.tmod a0 3) + 3)) 3) t107 a3).bind fun bt111 => ((word_Add.f (Int.tmod (wrap64 ((Int.tmod a0 3) + 3)) 3) a2 a3).bind fun bt113 => ((word_Add.f (Int.tmod (wrap64 ((Int.tmod a0 3) + 3)) 3) a1 bt113.1).bind fun bt115 => ((word_Wrap.f (Int.tmod (wrap64 ((Int.tmod a0 3) + 3)) 3) a1).bind fun bt117 => ((word_Wrap.f (Int.tmod (wrap64 ((Int.tmod a0 3) + 3)) 3) bt117.1).bind fun bt119 => ((word_Add.f (Int.tmod (wrap64 ((Int.tmod a0 3) + 3)) 3) bt117.1 a2).bind fun bt121 => ((word_Add.f (Int.tmod (wrap64 ((Int.tmod a0 3) + 3)) 3) a1 (wrap64 (-a1))).bind fun bt123 => ((word_Add.f (Int.tmod (wrap64 ((Int.tmod a0 3) + 3)) 3) a1 0).bind fun bt125 => (if t108 = 0 then (if t110 = 0 then (if bt111.2 = 0 then (if bt113.2 = 0 then (if bt115.2 = 0 then (if bt117.2 = 0 then (if bt119.2 = 0 then (if bt121.2 = 0 then (if bt123.2 = 0 then (deadboltlaw01_WordRound.j0 k (Int.tmod (wrap64 ((Int.tmod a0 3) + 3)) 3) t107 t109 bt111.1 bt115.1 bt117.1 bt119.1 bt121.1 bt123.1 bt125.1 (bt125.2 != 0)) else (deadboltlaw01_WordRound.j0 k (Int.tmod (wrap64 ((Int.tmod a0 3) + 3)) 3) t107 t109 bt111.1 bt115.1 bt117.1 bt119.1 bt121.1 bt123.1 bt125.1 true)) else (deadboltlaw01_WordRound.j0 k (Int.tmod (wrap64 ((Int.tmod a0 3) + 3)) 3) t107 t109 bt111.1 bt115.1 bt117.1 bt119.1 bt121.1 bt123.1 bt125.1 true)) else (deadboltlaw01_WordRound.j0 k (Int.tmod (wrap64 ((Int.tmod a0 3) + 3)) 3) t107 t109 bt111.1 bt115.1 bt117.1 bt119.1 bt121.1 bt123.1 bt125.1 true)) else (deadboltlaw01_WordRound.j0 k (Int.tmod (wrap64 ((Int.tmod a0 3) + 3)) 3) t107 t109 bt111.1 bt115.1 bt117.1 bt119.1 bt121.1 bt123.1 bt125.1 true)) else (deadboltlaw01_WordRound.j0 k (Int.tmod (wrap64 ((Int.tmod a0 3) + 3)) 3) t107 t109 bt111.1 bt115.1 bt117.1 bt119.1 bt121.1 bt123.1 bt125.1 true)) else (deadboltlaw01_WordRound.j0 k (Int.tmod (wrap64 ((Int.tmod a0 3) + 3)) 3) t107 t109 bt111.1 bt115.1 bt117.1 bt119.1 bt121.1 bt123.1 bt125.1 true)) else (deadboltlaw01_WordRound.j0 k (Int.tmod (wrap64 ((Int.tmod a0 3) + 3)) 3) t107 t109 bt111.1 bt115.1 bt117.1 bt119.1 bt121.1 bt123.1 bt125.1 true)) else (deadboltlaw01_WordRound.j0 k (Int.tmod (wrap64 ((Int.tmod a0 3) + 3)) 3) t107 t109 bt111.1 bt115.1 bt117.1 bt119.1 bt121.1 bt123.1 bt125.1 true)) else (deadboltlaw01_WordRound.j0 k (Int.tmod (wrap64 ((Int.tmod a0 3) + 3)) 3) t107 t109 bt111.1 bt115.1 bt117.1 bt119.1 bt121.1 bt123.1 bt125.1 true)))))))))) = some r := H
  have A6 := Aside0.mk A60
  clear A60
  replace H := Option.bind_eq_some_iff.mp H
  obtain ⟨⟨t111, t112⟩, A70, H⟩ := H
  replace H : ((word_Add.f (Int.tmod (wrap64 ((Int.tmod a0 3) + 3)) 3) a2 a3).bind fun bt113 => ((word_Add.f (Int.tmod (wrap64 ((Int.tmod a0 3) + 3)) 3) a1 bt113.1).bind fun bt115 => ((word_Wrap.f (Int.tmod (wrap64 ((Int.tmod a0 3) + 3)) 3) a1).bind fun bt117 => ((word_Wrap.f (Int.tmod (wrap64 ((Int.tmod a0 3) + 3)) 3) bt117.1).bind fun bt119 => ((word_Add.f (Int.tmod (wrap64 ((Int.tmod a0 3) + 3)) 3) bt117.1 a2).bind fun bt121 => ((word_Add.f (Int.tmod (wrap64 ((Int.tmod a0 3) + 3)) 3) a1 (wrap64 (-a1))).bind fun bt123 => ((word_Add.f (Int.tmod (wrap64 ((Int.tmod a0 3) + 3)) 3) a1 0).bind fun bt125 => (if t108 = 0 then (if t110 = 0 then (if t112 = 0 then (if bt113.2 = 0 then (if bt115.2 = 0 then (if bt117.2 = 0 then (if bt119.2 = 0 then (if bt121.2 = 0 then (if bt123.2 = 0 then (deadboltlaw01_WordRound.j0 k (Int.tmod (wrap64 ((Int.tmod a0 3) + 3)) 3) t107 t109 t111 bt115.1 bt117.1 bt119.1 bt121.1 bt123.1 bt125.1 (bt125.2 != 0)) else (deadboltlaw01_WordRound.j0 k (Int.tmod (wrap64 ((Int.tmod a0 3) + 3)) 3) t107 t109 t111 bt115.1 bt117.1 bt119.1 bt121.1 bt123.1 bt125.1 true)) else (deadboltlaw01_WordRound.j0 k (Int.tmod (wrap64 ((Int.tmod a0 3) + 3)) 3) t107 t109 t111 bt115.1 bt117.1 bt119.1 bt121.1 bt123.1 bt125.1 true)) else (deadboltlaw01_WordRound.j0 k (Int.tmod (wrap64 ((Int.tmod a0 3) + 3)) 3) t107 t109 t111 bt115.1 bt117.1 bt119.1 bt121.1 bt123.1 bt125.1 true)) else (deadboltlaw01_WordRound.j0 k (Int.tmod (wrap64 ((Int.tmod a0 3) + 3)) 3) t107 t109 t111 bt115.1 bt117.1 bt119.1 bt121.1 bt123.1 bt125.1 true)) else (deadboltlaw01_WordRound.j0 k (Int.tmod (wrap64 ((Int.tmod a0 3) + 3)) 3) t107 t109 t111 bt115.1 bt117.1 bt119.1 bt121.1 bt123.1 bt125.1 true)) else (deadboltlaw01_WordRound.j0 k (Int.tmod (wrap64 ((Int.tmod a0 3) + 3)) 3) t107 t109 t111 bt115.1 bt117.1 bt119.1 bt121.1 bt123.1 bt125.1 true)) else (deadboltlaw01_WordRound.j0 k (Int.tmod (wrap64 ((Int.tmod a0 3) + 3)) 3) t107 t109 t111 bt115.1 bt117.1 bt119.1 bt121.1 bt123.1 bt125.1 true)) else (deadboltlaw01_WordRound.j0 k (Int.tmod (wrap64 ((Int.tmod a0 3) + 3)) 3) t107 t109 t111 bt115.1 bt117.1 bt119.1 bt121.1 bt123.1 bt125.1 true)) else (deadboltlaw01_WordRound.j0 k (Int.tmod (wrap64 ((Int.tmod a0 3) + 3)) 3) t107 t109 t111 bt115.1 bt117.1 bt119.1 bt121.1 bt123.1 bt125.1 true))))))))) = some r := H
  have A7 := Aside0.mk A70
  clear A70
  replace H := Option.bind_eq_some_iff.mp H
  obtain ⟨⟨t113, t114⟩, A80, H⟩ := H
  replace H : ((word_Add.f (Int.tmod (wrap64 ((Int.tmod a0 3) + 3)) 3) a1 t113).bind fun bt115 => ((word_Wrap.f (Int.tmod (wrap64 ((Int.tmod a0 3) + 3)) 3) a1).bind fun bt117 => ((word_Wrap.f (Int.tmod (wrap64 ((Int.tmod a0 3) + 3)) 3) bt117.1).bind fun bt119 => ((word_Add.f (Int.tmod (wrap64 ((Int.tmod a0 3) + 3)) 3) bt117.1 a2).bind fun bt121 => ((word_Add.f (Int.tmod (wrap64 ((Int.tmod a0 3) + 3)) 3) a1 (wrap64 (-a1))).bind fun bt123 => ((word_Add.f (Int.tmod (wrap64 ((Int.tmod a0 3) + 3)) 3) a1 0).bind fun bt125 => (if t108 = 0 then (if t110 = 0 then (if t112 = 0 then (if t114 = 0 then (if bt115.2 = 0 then (if bt117.2 = 0 then (if bt119.2 = 0 then (if bt121.2 = 0 then (if bt123.2 = 0 then (deadboltlaw01_WordRound.j0 k (Int.tmod (wrap64 ((Int.tmod a0 3) + 3)) 3) t107 t109 t111 bt115.1 bt117.1 bt119.1 bt121.1 bt123.1 bt125.1 (bt125.2 != 0)) else (deadboltlaw01_WordRound.j0 k (Int.tmod (wrap64 ((Int.tmod a0 3) + 3)) 3) t107 t109 t111 bt115.1 bt117.1 bt119.1 bt121.1 bt123.1 bt125.1 true)) else (deadboltlaw01_WordRound.j0 k (Int.tmod (wrap64 ((Int.tmod a0 3) + 3)) 3) t107 t109 t111 bt115.1 bt117.1 bt119.1 bt121.1 bt123.1 bt125.1 true)) else (deadboltlaw01_WordRound.j0 k (Int.tmod (wrap64 ((Int.tmod a0 3) + 3)) 3) t107 t109 t111 bt115.1 bt117.1 bt119.1 bt121.1 bt123.1 bt125.1 true)) else (deadboltlaw01_WordRound.j0 k (Int.tmod (wrap64 ((Int.tmod a0 3) + 3)) 3) t107 t109 t111 bt115.1 bt117.1 bt119.1 bt121.1 bt123.1 bt125.1 true)) else (deadboltlaw01_WordRound.j0 k (Int.tmod (wrap64 ((Int.tmod a0 3) + 3)) 3) t107 t109 t111 bt115.1 bt117.1 bt119.1 bt121.1 bt123.1 bt125.1 true)) else (deadboltlaw01_WordRound.j0 k (Int.tmod (wrap64 ((Int.tmod a0 3) + 3)) 3) t107 t109 t111 bt115.1 bt117.1 bt119.1 bt121.1 bt123.1 bt125.1 true)) else (deadboltlaw01_WordRound.j0 k (Int.tmod (wrap64 ((Int.tmod a0 3) + 3)) 3) t107 t109 t111 bt115.1 bt117.1 bt119.1 bt121.1 bt123.1 bt125.1 true)) else (deadboltlaw01_WordRound.j0 k (Int.tmod (wrap64 ((Int.tmod a0 3) + 3)) 3) t107 t109 t111 bt115.1 bt117.1 bt119.1 bt121.1 bt123.1 bt125.1 true)) else (deadboltlaw01_WordRound.j0 k (Int.tmod (wrap64 ((Int.tmod a0 3) + 3)) 3) t107 t109 t111 bt115.1 bt117.1 bt119.1 bt121.1 bt123.1 bt125.1 true)))))))) = some r := H
  have A8 := Aside0.mk A80
  clear A80
  replace H := Option.bind_eq_some_iff.mp H
  obtain ⟨⟨t115, t116⟩, A90, H⟩ := H
  replace H : ((word_Wrap.f (Int.tmod (wrap64 ((Int.tmod a0 3) + 3)) 3) a1).bind fun bt117 => ((word_Wrap.f (Int.tmod (wrap64 ((Int.tmod a0 3) + 3)) 3) bt117.1).bind fun bt119 => ((word_Add.f (Int.tmod (wrap64 ((Int.tmod a0 3) + 3)) 3) bt117.1 a2).bind fun bt121 => ((word_Add.f (Int.tmod (wrap64 ((Int.tmod a0 3) + 3)) 3) a1 (wrap64 (-a1))).bind fun bt123 => ((word_Add.f (Int.tmod (wrap64 ((Int.tmod a0 3) + 3)) 3) a1 0).bind fun bt125 => (if t108 = 0 then (if t110 = 0 then (if t112 = 0 then (if t114 = 0 then (if t116 = 0 then (if bt117.2 = 0 then (if bt119.2 = 0 then (if bt121.2 = 0 then (if bt123.2 = 0 then (deadboltlaw01_WordRound.j0 k (Int.tmod (wrap64 ((Int.tmod a0 3) + 3)) 3) t107 t109 t111 t115 bt117.1 bt119.1 bt121.1 bt123.1 bt125.1 (bt125.2 != 0)) else (deadboltlaw01_WordRound.j0 k (Int.tmod (wrap64 ((Int.tmod a0 3) + 3)) 3) t107 t109 t111 t115 bt117.1 bt119.1 bt121.1 bt123.1 bt125.1 true)) else (deadboltlaw01_WordRound.j0 k (Int.tmod (wrap64 ((Int.tmod a0 3) + 3)) 3) t107 t109 t111 t115 bt117.1 bt119.1 bt121.1 bt123.1 bt125.1 true)) else (deadboltlaw01_WordRound.j0 k (Int.tmod (wrap64 ((Int.tmod a0 3) + 3)) 3) t107 t109 t111 t115 bt117.1 bt119.1 bt121.1 bt123.1 bt125.1 true)) else (deadboltlaw01_WordRound.j0 k (Int.tmod (wrap64 ((Int.tmod a0 3) + 3)) 3) t107 t109 t111 t115 bt117.1 bt119.1 bt121.1 bt123.1 bt125.1 true)) else (deadboltlaw01_WordRound.j0 k (Int.tmod (wrap64 ((Int.tmod a0 3) + 3)) 3) t107 t109 t111 t115 bt117.1 bt119.1 bt121.1 bt123.1 bt125.1 true)) else (deadboltlaw01_WordRound.j0 k (Int.tmod (wrap64 ((Int.tmod a0 3) + 3)) 3) t107 t109 t111 t115 bt117.1 bt119.1 bt121.1 bt123.1 bt125.1 true)) else (deadboltlaw01_WordRound.j0 k (Int.tmod (wrap64 ((Int.tmod a0 3) + 3)) 3) t107 t109 t111 t115 bt117.1 bt119.1 bt121.1 bt123.1 bt125.1 true)) else (deadboltlaw01_WordRound.j0 k (Int.tmod (wrap64 ((Int.tmod a0 3) + 3)) 3) t107 t109 t111 t115 bt117.1 bt119.1 bt121.1 bt123.1 bt125.1 true)) else (deadboltlaw01_WordRound.j0 k (Int.tmod (wrap64 ((Int.tmod a0 3) + 3)) 3) t107 t109 t111 t115 bt117.1 bt119.1 bt121.1 bt123.1 bt125.1 true))))))) = some r := H
  have A9 := Aside0.mk A90
  clear A90
  replace H := Option.bind_eq_some_iff.mp H
  obtain ⟨⟨t117, t118⟩, A100, H⟩ := H
  replace H : ((word_Wrap.f (Int.tmod (wrap64 ((Int.tmod a0 3) + 3)) 3) t117).bind fun bt119 => ((word_Add.f (Int.tmod (wrap64 ((Int.tmod a0 3) + 3)) 3) t117 a2).bind fun bt121 => ((word_Add.f (Int.tmod (wrap64 ((Int.tmod a0 3) + 3)) 3) a1 (wrap64 (-a1))).bind fun bt123 => ((word_Add.f (Int.tmod (wrap64 ((Int.tmod a0 3) + 3)) 3) a1 0).bind fun bt125 => (if t108 = 0 then (if t110 = 0 then (if t112 = 0 then (if t114 = 0 then (if t116 = 0 then (if t118 = 0 then (if bt119.2 = 0 then (if bt121.2 = 0 then (if bt123.2 = 0 then (deadboltlaw01_WordRound.j0 k (Int.tmod (wrap64 ((Int.tmod a0 3) + 3)) 3) t107 t109 t111 t115 t117 bt119.1 bt121.1 bt123.1 bt125.1 (bt125.2 != 0)) else (deadboltlaw01_WordRound.j0 k (Int.tmod (wrap64 ((Int.tmod a0 3) + 3)) 3) t107 t109 t111 t115 t117 bt119.1 bt121.1 bt123.1 bt125.1 true)) else (deadboltlaw01_WordRound.j0 k (Int.tmod (wrap64 ((Int.tmod a0 3) + 3)) 3) t107 t109 t111 t115 t117 bt119.1 bt121.1 bt123.1 bt125.1 true)) else (deadboltlaw01_WordRound.j0 k (Int.tmod (wrap64 ((Int.tmod a0 3) + 3)) 3) t107 t109 t111 t115 t117 bt119.1 bt121.1 bt123.1 bt125.1 true)) else (deadboltlaw01_WordRound.j0 k (Int.tmod (wrap64 ((Int.tmod a0 3) + 3)) 3) t107 t109 t111 t115 t117 bt119.1 bt121.1 bt123.1 bt125.1 true)) else (deadboltlaw01_WordRound.j0 k (Int.tmod (wrap64 ((Int.tmod a0 3) + 3)) 3) t107 t109 t111 t115 t117 bt119.1 bt121.1 bt123.1 bt125.1 true)) else (deadboltlaw01_WordRound.j0 k (Int.tmod (wrap64 ((Int.tmod a0 3) + 3)) 3) t107 t109 t111 t115 t117 bt119.1 bt121.1 bt123.1 bt125.1 true)) else (deadboltlaw01_WordRound.j0 k (Int.tmod (wrap64 ((Int.tmod a0 3) + 3)) 3) t107 t109 t111 t115 t117 bt119.1 bt121.1 bt123.1 bt125.1 true)) else (deadboltlaw01_WordRound.j0 k (Int.tmod (wrap64 ((Int.tmod a0 3) + 3)) 3) t107 t109 t111 t115 t117 bt119.1 bt121.1 bt123.1 bt125.1 true)) else (deadboltlaw01_WordRound.j0 k (Int.tmod (wrap64 ((Int.tmod a0 3) + 3)) 3) t107 t109 t111 t115 t117 bt119.1 bt121.1 bt123.1 bt125.1 true)))))) = some r := H
  have A10 := Aside0.mk A100
  clear A100
  replace H := Option.bind_eq_some_iff.mp H
  obtain ⟨⟨t119, t120⟩, A110, H⟩ := H
  replace H : ((word_Add.f (Int.tmod (wrap64 ((Int.tmod a0 3) + 3)) 3) t117 a2).bind fun bt121 => ((word_Add.f (Int.tmod (wrap64 ((Int.tmod a0 3) + 3)) 3) a1 (wrap64 (-a1))).bind fun bt123 => ((word_Add.f (Int.tmod (wrap64 ((Int.tmod a0 3) + 3)) 3) a1 0).bind fun bt125 => (if t108 = 0 then (if t110 = 0 then (if t112 = 0 then (if t114 = 0 then (if t116 = 0 then (if t118 = 0 then (if t120 = 0 then (if bt121.2 = 0 then (if bt123.2 = 0 then (deadboltlaw01_WordRound.j0 k (Int.tmod (wrap64 ((Int.tmod a0 3) + 3)) 3) t107 t109 t111 t115 t117 t119 bt121.1 bt123.1 bt125.1 (bt125.2 != 0)) else (deadboltlaw01_WordRound.j0 k (Int.tmod (wrap64 ((Int.tmod a0 3) + 3)) 3) t107 t109 t111 t115 t117 t119 bt121.1 bt123.1 bt125.1 true)) else (deadboltlaw01_WordRound.j0 k (Int.tmod (wrap64 ((Int.tmod a0 3) + 3)) 3) t107 t109 t111 t115 t117 t119 bt121.1 bt123.1 bt125.1 true)) else (deadboltlaw01_WordRound.j0 k (Int.tmod (wrap64 ((Int.tmod a0 3) + 3)) 3) t107 t109 t111 t115 t117 t119 bt121.1 bt123.1 bt125.1 true)) else (deadboltlaw01_WordRound.j0 k (Int.tmod (wrap64 ((Int.tmod a0 3) + 3)) 3) t107 t109 t111 t115 t117 t119 bt121.1 bt123.1 bt125.1 true)) else (deadboltlaw01_WordRound.j0 k (Int.tmod (wrap64 ((Int.tmod a0 3) + 3)) 3) t107 t109 t111 t115 t117 t119 bt121.1 bt123.1 bt125.1 true)) else (deadboltlaw01_WordRound.j0 k (Int.tmod (wrap64 ((Int.tmod a0 3) + 3)) 3) t107 t109 t111 t115 t117 t119 bt121.1 bt123.1 bt125.1 true)) else (deadboltlaw01_WordRound.j0 k (Int.tmod (wrap64 ((Int.tmod a0 3) + 3)) 3) t107 t109 t111 t115 t117 t119 bt121.1 bt123.1 bt125.1 true)) else (deadboltlaw01_WordRound.j0 k (Int.tmod (wrap64 ((Int.tmod a0 3) + 3)) 3) t107 t109 t111 t115 t117 t119 bt121.1 bt123.1 bt125.1 true)) else (deadboltlaw01_WordRound.j0 k (Int.tmod (wrap64 ((Int.tmod a0 3) + 3)) 3) t107 t109 t111 t115 t117 t119 bt121.1 bt123.1 bt125.1 true))))) = some r := H
  have A11 := Aside0.mk A110
  clear A110
  replace H := Option.bind_eq_some_iff.mp H
  obtain ⟨⟨t121, t122⟩, A120, H⟩ := H
  replace H : ((word_Add.f (Int.tmod (wrap64 ((Int.tmod a0 3) + 3)) 3) a1 (wrap64 (-a1))).bind fun bt123 => ((word_Add.f (Int.tmod (wrap64 ((Int.tmod a0 3) + 3)) 3) a1 0).bind fun bt125 => (if t108 = 0 then (if t110 = 0 then (if t112 = 0 then (if t114 = 0 then (if t116 = 0 then (if t118 = 0 then (if t120 = 0 then (if t122 = 0 then (if bt123.2 = 0 then (deadboltlaw01_WordRound.j0 k (Int.tmod (wrap64 ((Int.tmod a0 3) + 3)) 3) t107 t109 t111 t115 t117 t119 t121 bt123.1 bt125.1 (bt125.2 != 0)) else (deadboltlaw01_WordRound.j0 k (Int.tmod (wrap64 ((Int.tmod a0 3) + 3)) 3) t107 t109 t111 t115 t117 t119 t121 bt123.1 bt125.1 true)) else (deadboltlaw01_WordRound.j0 k (Int.tmod (wrap64 ((Int.tmod a0 3) + 3)) 3) t107 t109 t111 t115 t117 t119 t121 bt123.1 bt125.1 true)) else (deadboltlaw01_WordRound.j0 k (Int.tmod (wrap64 ((Int.tmod a0 3) + 3)) 3) t107 t109 t111 t115 t117 t119 t121 bt123.1 bt125.1 true)) else (deadboltlaw01_WordRound.j0 k (Int.tmod (wrap64 ((Int.tmod a0 3) + 3)) 3) t107 t109 t111 t115 t117 t119 t121 bt123.1 bt125.1 true)) else (deadboltlaw01_WordRound.j0 k (Int.tmod (wrap64 ((Int.tmod a0 3) + 3)) 3) t107 t109 t111 t115 t117 t119 t121 bt123.1 bt125.1 true)) else (deadboltlaw01_WordRound.j0 k (Int.tmod (wrap64 ((Int.tmod a0 3) + 3)) 3) t107 t109 t111 t115 t117 t119 t121 bt123.1 bt125.1 true)) else (deadboltlaw01_WordRound.j0 k (Int.tmod (wrap64 ((Int.tmod a0 3) + 3)) 3) t107 t109 t111 t115 t117 t119 t121 bt123.1 bt125.1 true)) else (deadboltlaw01_WordRound.j0 k (Int.tmod (wrap64 ((Int.tmod a0 3) + 3)) 3) t107 t109 t111 t115 t117 t119 t121 bt123.1 bt125.1 true)) else (deadboltlaw01_WordRound.j0 k (Int.tmod (wrap64 ((Int.tmod a0 3) + 3)) 3) t107 t109 t111 t115 t117 t119 t121 bt123.1 bt125.1 true)))) = some r := H
  have A12 := Aside0.mk A120
  clear A120
  replace H := Option.bind_eq_some_iff.mp H
  obtain ⟨⟨t123, t124⟩, A130, H⟩ := H
  replace H : ((word_Add.f (Int.tmod (wrap64 ((Int.tmod a0 3) + 3)) 3) a1 0).bind fun bt125 => (if t108 = 0 then (if t110 = 0 then (if t112 = 0 then (if t114 = 0 then (if t116 = 0 then (if t118 = 0 then (if t120 = 0 then (if t122 = 0 then (if t124 = 0 then (deadboltlaw01_WordRound.j0 k (Int.tmod (wrap64 ((Int.tmod a0 3) + 3)) 3) t107 t109 t111 t115 t117 t119 t121 t123 bt125.1 (bt125.2 != 0)) else (deadboltlaw01_WordRound.j0 k (Int.tmod (wrap64 ((Int.tmod a0 3) + 3)) 3) t107 t109 t111 t115 t117 t119 t121 t123 bt125.1 true)) else (deadboltlaw01_WordRound.j0 k (Int.tmod (wrap64 ((Int.tmod a0 3) + 3)) 3) t107 t109 t111 t115 t117 t119 t121 t123 bt125.1 true)) else (deadboltlaw01_WordRound.j0 k (Int.tmod (wrap64 ((Int.tmod a0 3) + 3)) 3) t107 t109 t111 t115 t117 t119 t121 t123 bt125.1 true)) else (deadboltlaw01_WordRound.j0 k (Int.tmod (wrap64 ((Int.tmod a0 3) + 3)) 3) t107 t109 t111 t115 t117 t119 t121 t123 bt125.1 true)) else (deadboltlaw01_WordRound.j0 k (Int.tmod (wrap64 ((Int.tmod a0 3) + 3)) 3) t107 t109 t111 t115 t117 t119 t121 t123 bt125.1 true)) else (deadboltlaw01_WordRound.j0 k (Int.tmod (wrap64 ((Int.tmod a0 3) + 3)) 3) t107 t109 t111 t115 t117 t119 t121 t123 bt125.1 true)) else (deadboltlaw01_WordRound.j0 k (Int.tmod (wrap64 ((Int.tmod a0 3) + 3)) 3) t107 t109 t111 t115 t117 t119 t121 t123 bt125.1 true)) else (deadboltlaw01_WordRound.j0 k (Int.tmod (wrap64 ((Int.tmod a0 3) + 3)) 3) t107 t109 t111 t115 t117 t119 t121 t123 bt125.1 true)) else (deadboltlaw01_WordRound.j0 k (Int.tmod (wrap64 ((Int.tmod a0 3) + 3)) 3) t107 t109 t111 t115 t117 t119 t121 t123 bt125.1 true))) = some r := H
  have A13 := Aside0.mk A130
  clear A130
  replace H := Option.bind_eq_some_iff.mp H
  obtain ⟨⟨t125, t126⟩, A140, H⟩ := H
  replace H : (if t108 = 0 then (if t110 = 0 then (if t112 = 0 then (if t114 = 0 then (if t116 = 0 then (if t118 = 0 then (if t120 = 0 then (if t122 = 0 then (if t124 = 0 then (deadboltlaw01_WordRound.j0 k (Int.tmod (wrap64 ((Int.tmod a0 3) + 3)) 3) t107 t109 t111 t115 t117 t119 t121 t123 t125 (t126 != 0)) else (deadboltlaw01_WordRound.j0 k (Int.tmod (wrap64 ((Int.tmod a0 3) + 3)) 3) t107 t109 t111 t115 t117 t119 t121 t123 t125 true)) else (deadboltlaw01_WordRound.j0 k (Int.tmod (wrap64 ((Int.tmod a0 3) + 3)) 3) t107 t109 t111 t115 t117 t119 t121 t123 t125 true)) else (deadboltlaw01_WordRound.j0 k (Int.tmod (wrap64 ((Int.tmod a0 3) + 3)) 3) t107 t109 t111 t115 t117 t119 t121 t123 t125 true)) else (deadboltlaw01_WordRound.j0 k (Int.tmod (wrap64 ((Int.tmod a0 3) + 3)) 3) t107 t109 t111 t115 t117 t119 t121 t123 t125 true)) else (deadboltlaw01_WordRound.j0 k (Int.tmod (wrap64 ((Int.tmod a0 3) + 3)) 3) t107 t109 t111 t115 t117 t119 t121 t123 t125 true)) else (deadboltlaw01_WordRound.j0 k (Int.tmod (wrap64 ((Int.tmod a0 3) + 3)) 3) t107 t109 t111 t115 t117 t119 t121 t123 t125 true)) else (deadboltlaw01_WordRound.j0 k (Int.tmod (wrap64 ((Int.tmod a0 3) + 3)) 3) t107 t109 t111 t115 t117 t119 t121 t123 t125 true)) else (deadboltlaw01_WordRound.j0 k (Int.tmod (wrap64 ((Int.tmod a0 3) + 3)) 3) t107 t109 t111 t115 t117 t119 t121 t123 t125 true)) else (deadboltlaw01_WordRound.j0 k (Int.tmod (wrap64 ((Int.tmod a0 3) + 3)) 3) t107 t109 t111 t115 t117 t119 t121 t123 t125 true)) = some r := H
  have A14 := Aside0.mk A140
  clear A140
  have HC15 := Aside0.mk H
  clear H
  go_enter Try.func3, Try.ntmps3
  go_upto_region 12 with (first | ((with_reducible refine gate_callee (f := 7) rfl ?_); refine goesL_ (some 37) rfl rfl Try.func7 (by kernel_rfl) rfl #[.int .i64 (Int.tmod (wrap64 ((Int.tmod a0 3) + 3)) 3), .int .i64 a1, .int .i64 a2] rfl (by (try simp only [List.map_toArray, List.map_cons, List.map_nil]); first | done | rfl | (simp only [List.length_drop, List.length_take]; rfl)) ?_; (with_reducible refine (word_Add.calls (Int.tmod (wrap64 ((Int.tmod a0 3) + 3)) 3) a1 a2 t107 t108 _ A5.out).mono ?_); rintro e w' ⟨rfl, ⟨nd, rfl⟩⟩; refine ⟨_, rfl, ?_⟩) | ((with_reducible refine gate_callee (f := 7) rfl ?_); refine goesL_ (some 44) rfl rfl Try.func7 (by kernel_rfl) rfl #[.int .i64 (Int.tmod (wrap64 ((Int.tmod a0 3) + 3)) 3), .int .i64 a2, .int .i64 a1] rfl (by (try simp only [List.map_toArray, List.map_cons, List.map_nil]); first | done | rfl | (simp only [List.length_drop, List.length_take]; rfl)) ?_; (with_reducible refine (word_Add.calls (Int.tmod (wrap64 ((Int.tmod a0 3) + 3)) 3) a2 a1 t109 t110 _ A6.out).mono ?_); rintro e w' ⟨rfl, ⟨nd, rfl⟩⟩; refine ⟨_, rfl, ?_⟩) | ((with_reducible refine gate_callee (f := 7) rfl ?_); refine goesL_ (some 51) rfl rfl Try.func7 (by kernel_rfl) rfl #[.int .i64 (Int.tmod (wrap64 ((Int.tmod a0 3) + 3)) 3), .int .i64 t107, .int .i64 a3] rfl (by (try simp only [List.map_toArray, List.map_cons, List.map_nil]); first | done | rfl | (simp only [List.length_drop, List.length_take]; rfl)) ?_; (with_reducible refine (word_Add.calls (Int.tmod (wrap64 ((Int.tmod a0 3) + 3)) 3) t107 a3 t111 t112 _ A7.out).mono ?_); rintro e w' ⟨rfl, ⟨nd, rfl⟩⟩; refine ⟨_, rfl, ?_⟩) | ((with_reducible refine gate_callee (f := 7) rfl ?_); refine goesL_ (some 58) rfl rfl Try.func7 (by kernel_rfl) rfl #[.int .i64 (Int.tmod (wrap64 ((Int.tmod a0 3) + 3)) 3), .int .i64 a2, .int .i64 a3] rfl (by (try simp only [List.map_toArray, List.map_cons, List.map_nil]); first | done | rfl | (simp only [List.length_drop, List.length_take]; rfl)) ?_; (with_reducible refine (word_Add.calls (Int.tmod (wrap64 ((Int.tmod a0 3) + 3)) 3) a2 a3 t113 t114 _ A8.out).mono ?_); rintro e w' ⟨rfl, ⟨nd, rfl⟩⟩; refine ⟨_, rfl, ?_⟩) | ((with_reducible refine gate_callee (f := 7) rfl ?_); refine goesL_ (some 65) rfl rfl Try.func7 (by kernel_rfl) rfl #[.int .i64 (Int.tmod (wrap64 ((Int.tmod a0 3) + 3)) 3), .int .i64 a1, .int .i64 t113] rfl (by (try simp only [List.map_toArray, List.map_cons, List.map_nil]); first | done | rfl | (simp only [List.length_drop, List.length_take]; rfl)) ?_; (with_reducible refine (word_Add.calls (Int.tmod (wrap64 ((Int.tmod a0 3) + 3)) 3) a1 t113 t115 t116 _ A9.out).mono ?_); rintro e w' ⟨rfl, ⟨nd, rfl⟩⟩; refine ⟨_, rfl, ?_⟩) | ((with_reducible refine gate_callee (f := 8) rfl ?_); refine goesL_ (some 71) rfl rfl Try.func8 (by kernel_rfl) rfl #[.int .i64 (Int.tmod (wrap64 ((Int.tmod a0 3) + 3)) 3), .int .i64 a1] rfl (by (try simp only [List.map_toArray, List.map_cons, List.map_nil]); first | done | rfl | (simp only [List.length_drop, List.length_take]; rfl)) ?_; (with_reducible refine (word_Wrap.calls (Int.tmod (wrap64 ((Int.tmod a0 3) + 3)) 3) a1 t117 t118 _ A10.out).mono ?_); rintro e w' ⟨rfl, ⟨nd, rfl⟩⟩; refine ⟨_, rfl, ?_⟩) | ((with_reducible refine gate_callee (f := 8) rfl ?_); refine goesL_ (some 77) rfl rfl Try.func8 (by kernel_rfl) rfl #[.int .i64 (Int.tmod (wrap64 ((Int.tmod a0 3) + 3)) 3), .int .i64 t117] rfl (by (try simp only [List.map_toArray, List.map_cons, List.map_nil]); first | done | rfl | (simp only [List.length_drop, List.length_take]; rfl)) ?_; (with_reducible refine (word_Wrap.calls (Int.tmod (wrap64 ((Int.tmod a0 3) + 3)) 3) t117 t119 t120 _ A11.out).mono ?_); rintro e w' ⟨rfl, ⟨nd, rfl⟩⟩; refine ⟨_, rfl, ?_⟩) | ((with_reducible refine gate_callee (f := 7) rfl ?_); refine goesL_ (some 84) rfl rfl Try.func7 (by kernel_rfl) rfl #[.int .i64 (Int.tmod (wrap64 ((Int.tmod a0 3) + 3)) 3), .int .i64 t117, .int .i64 a2] rfl (by (try simp only [List.map_toArray, List.map_cons, List.map_nil]); first | done | rfl | (simp only [List.length_drop, List.length_take]; rfl)) ?_; (with_reducible refine (word_Add.calls (Int.tmod (wrap64 ((Int.tmod a0 3) + 3)) 3) t117 a2 t121 t122 _ A12.out).mono ?_); rintro e w' ⟨rfl, ⟨nd, rfl⟩⟩; refine ⟨_, rfl, ?_⟩) | ((with_reducible refine gate_callee (f := 7) rfl ?_); refine goesL_ (some 92) rfl rfl Try.func7 (by kernel_rfl) rfl #[.int .i64 (Int.tmod (wrap64 ((Int.tmod a0 3) + 3)) 3), .int .i64 a1, .int .i64 (wrap64 (-a1))] rfl (by (try simp only [List.map_toArray, List.map_cons, List.map_nil]); first | done | rfl | (simp only [List.length_drop, List.length_take]; rfl)) ?_; (with_reducible refine (word_Add.calls (Int.tmod (wrap64 ((Int.tmod a0 3) + 3)) 3) a1 (wrap64 (-a1)) t123 t124 _ A13.out).mono ?_); rintro e w' ⟨rfl, ⟨nd, rfl⟩⟩; refine ⟨_, rfl, ?_⟩) | ((with_reducible refine gate_callee (f := 7) rfl ?_); refine goesL_ (some 98) rfl rfl Try.func7 (by kernel_rfl) rfl #[.int .i64 (Int.tmod (wrap64 ((Int.tmod a0 3) + 3)) 3), .int .i64 a1, .int .i64 0] rfl (by (try simp only [List.map_toArray, List.map_cons, List.map_nil]); first | done | rfl | (simp only [List.length_drop, List.length_take]; rfl)) ?_; (with_reducible refine (word_Add.calls (Int.tmod (wrap64 ((Int.tmod a0 3) + 3)) 3) a1 0 t125 t126 _ A14.out).mono ?_); rintro e w' ⟨rfl, ⟨nd, rfl⟩⟩; refine ⟨_, rfl, ?_⟩))
  (try simp only [Act.put, List.setIfInBounds_toArray, List.set_cons_zero, List.set_cons_succ])
  go_cut [138] (fun v138 wc => ∃ (kq : Nat) (x138_14 : Bool), v138 = .bool x138_14 ∧ Aside0 (deadboltlaw01_WordRound.j0 kq (Int.tmod (wrap64 ((Int.tmod a0 3) + 3)) 3) t107 t109 t111 t115 t117 t119 t121 t123 t125 x138_14 = some r) ∧ Aside0 (kq ≤ k) ∧ Drawn0 w wc)
  case first =>
    have H := HC15.out
    clear HC15
    by_cases c16 : t108 = 0
    · rw [if_pos c16] at H
      have c16b0 : (t108 == 0) = true := beq_iff_eq.mpr c16
      have c16b1 : (t108 != 0) = false := bne_eq_false_iff_eq.mpr c16
      clear c16
      (first | rw [c16b0] | (simp only [i64_w, i32_w]; rw [c16b0]) | skip)
      by_cases c17 : t110 = 0
      · rw [if_pos c17] at H
        have c17b0 : (t110 == 0) = true := beq_iff_eq.mpr c17
        have c17b1 : (t110 != 0) = false := bne_eq_false_iff_eq.mpr c17
        clear c17
        by_cases c18 : t112 = 0
        · rw [if_pos c18] at H
          have c18b0 : (t112 == 0) = true := beq_iff_eq.mpr c18
          have c18b1 : (t112 != 0) = false := bne_eq_false_iff_eq.mpr c18
          clear c18
          by_cases c19 : t114 = 0
          · rw [if_pos c19] at H
            have c19b0 : (t114 == 0) = true := beq_iff_eq.mpr c19
            have c19b1 : (t114 != 0) = false := bne_eq_false_iff_eq.mpr c19
            clear c19
            by_cases c20 : t116 = 0
            · rw [if_pos c20] at H
              have c20b0 : (t116 == 0) = true := beq_iff_eq.mpr c20
              have c20b1 : (t116 != 0) = false := bne_eq_false_iff_eq.mpr c20
              clear c20
              by_cases c21 : t118 = 0
              · rw [if_pos c21] at H
                have c21b0 : (t118 == 0) = true := beq_iff_eq.mpr c21
                have c21b1 : (t118 != 0) = false := bne_eq_false_iff_eq.mpr c21
                clear c21
                by_cases c22 : t120 = 0
                · rw [if_pos c22] at H
                  have c22b0 : (t120 == 0) = true := beq_iff_eq.mpr c22
                  have c22b1 : (t120 != 0) = false := bne_eq_false_iff_eq.mpr c22
                  clear c22
                  by_cases c23 : t122 = 0
                  · rw [if_pos c23] at H
                    have c23b0 : (t122 == 0) = true := beq_iff_eq.mpr c23
                    have c23b1 : (t122 != 0) = false := bne_eq_false_iff_eq.mpr c23
                    clear c23
                    by_cases c24 : t124 = 0
                    · rw [if_pos c24] at H
                      have c24b0 : (t124 == 0) = true := beq_iff_eq.mpr c24
                      have c24b1 : (t124 != 0) = false := bne_eq_false_iff_eq.mpr c24
                      clear c24
                      have H' := Aside0.mk H
                      clear H
                      go_wp2
                      go_meet
                      case rel => exact ⟨_, ((t126 != 0)), (by first | rfl | (simp; done) | (simp [*]; done)), H', ⟨by first | omega | exact Nat.le_refl _⟩, by repeat (first | exact Drawn0.refl _ | apply Drawn0.step)⟩
                    · rw [if_neg c24] at H
                      have c24b0 : (t124 == 0) = false := beq_eq_false_iff_ne.mpr c24
                      have c24b1 : (t124 != 0) = true := bne_iff_ne.mpr c24
                      have H' := Aside0.mk H
                      clear H
                      go_wp2
                      go_meet
                      case rel => exact ⟨_, (true), (by first | rfl | (simp; done) | (simp [*]; done)), H', ⟨by first | omega | exact Nat.le_refl _⟩, by repeat (first | exact Drawn0.refl _ | apply Drawn0.step)⟩
                  · rw [if_neg c23] at H
                    have c23b0 : (t122 == 0) = false := beq_eq_false_iff_ne.mpr c23
                    have c23b1 : (t122 != 0) = true := bne_iff_ne.mpr c23
                    have H' := Aside0.mk H
                    clear H
                    go_wp2
                    go_meet
                    case rel => exact ⟨_, (true), (by first | rfl | (simp; done) | (simp [*]; done)), H', ⟨by first | omega | exact Nat.le_refl _⟩, by repeat (first | exact Drawn0.refl _ | apply Drawn0.step)⟩
                · rw [if_neg c22] at H
                  have c22b0 : (t120 == 0) = false := beq_eq_false_iff_ne.mpr c22
                  have c22b1 : (t120 != 0) = true := bne_iff_ne.mpr c22
                  have H' := Aside0.mk H
                  clear H
                  go_wp2
                  go_meet
                  case rel => exact ⟨_, (true), (by first | rfl | (simp; done) | (simp [*]; done)), H', ⟨by first | omega | exact Nat.le_refl _⟩, by repeat (first | exact Drawn0.refl _ | apply Drawn0.step)⟩
              · rw [if_neg c21] at H
                have c21b0 : (t118 == 0) = false := beq_eq_false_iff_ne.mpr c21
                have c21b1 : (t118 != 0) = true := bne_iff_ne.mpr c21
                have H' := Aside0.mk H
                clear H
                go_wp2
                go_meet
                case rel => exact ⟨_, (true), (by first | rfl | (simp; done) | (simp [*]; done)), H', ⟨by first | omega | exact Nat.le_refl _⟩, by repeat (first | exact Drawn0.refl _ | apply Drawn0.step)⟩
            · rw [if_neg c20] at H
              have c20b0 : (t116 == 0) = false := beq_eq_false_iff_ne.mpr c20
              have c20b1 : (t116 != 0) = true := bne_iff_ne.mpr c20
              have H' := Aside0.mk H
              clear H
              go_wp2
              go_meet
              case rel => exact ⟨_, (true), (by first | rfl | (simp; done) | (simp [*]; done)), H', ⟨by first | omega | exact Nat.le_refl _⟩, by repeat (first | exact Drawn0.refl _ | apply Drawn0.step)⟩
          · rw [if_neg c19] at H
            have c19b0 : (t114 == 0) = false := beq_eq_false_iff_ne.mpr c19
            have c19b1 : (t114 != 0) = true := bne_iff_ne.mpr c19
            have H' := Aside0.mk H
            clear H
            go_wp2
            go_meet
            case rel => exact ⟨_, (true), (by first | rfl | (simp; done) | (simp [*]; done)), H', ⟨by first | omega | exact Nat.le_refl _⟩, by repeat (first | exact Drawn0.refl _ | apply Drawn0.step)⟩
        · rw [if_neg c18] at H
          have c18b0 : (t112 == 0) = false := beq_eq_false_iff_ne.mpr c18
          have c18b1 : (t112 != 0) = true := bne_iff_ne.mpr c18
          have H' := Aside0.mk H
          clear H
          go_wp2
          go_meet
          case rel => exact ⟨_, (true), (by first | rfl | (simp; done) | (simp [*]; done)), H', ⟨by first | omega | exact Nat.le_refl _⟩, by repeat (first | exact Drawn0.refl _ | apply Drawn0.step)⟩
      · rw [if_neg c17] at H
        have c17b0 : (t110 == 0) = false := beq_eq_false_iff_ne.mpr c17
        have c17b1 : (t110 != 0) = true := bne_iff_ne.mpr c17
        have H' := Aside0.mk H
        clear H
        go_wp2
        go_meet
        case rel => exact ⟨_, (true), (by first | rfl | (simp; done) | (simp [*]; done)), H', ⟨by first | omega | exact Nat.le_refl _⟩, by repeat (first | exact Drawn0.refl _ | apply Drawn0.step)⟩
    · rw [if_neg c16] at H
      have c16b0 : (t108 == 0) = false := beq_eq_false_iff_ne.mpr c16
      have c16b1 : (t108 != 0) = true := bne_iff_ne.mpr c16
      (first | rw [c16b0] | (simp only [i64_w, i32_w]; rw [c16b0]) | skip)
      have H' := Aside0.mk H
      clear H
      go_wp2
      go_meet
      case rel => exact ⟨_, (true), (by first | rfl | (simp; done) | (simp [*]; done)), H', ⟨by first | omega | exact Nat.le_refl _⟩, by repeat (first | exact Drawn0.refl _ | apply Drawn0.step)⟩
  case rest =>
    clear HC15
    try clear c1
    try clear c2
    try clear p2
    try clear c3
    try clear p6
    try clear c7
    try clear c8
    try clear c16
    try clear c16b0
    try clear c16b1
    try clear c17
    try clear c17b0
    try clear c17b1
    try clear c18
    try clear c18b0
    try clear c18b1
    try clear c19
    try clear c19b0
    try clear c19b1
    try clear c20
    try clear c20b0
    try clear c20b1
    try clear c21
    try clear c21b0
    try clear c21b1
    try clear c22
    try clear c22b0
    try clear c22b1
    try clear c23
    try clear c23b0
    try clear c23b1
    try clear c24
    try clear c24b0
    try clear c24b1
    obtain ⟨kq, x138_14, rfl, HA, HJ14, ⟨mc14, rfl⟩⟩ := hcut
    cases kq with
    | zero => exact absurd HA.out (by simp [deadboltlaw01_WordRound.j0])
    | succ kj14 =>
      have H := HA.out
      clear HA
      simp only [deadboltlaw01_WordRound.j0] at H
      by_cases c25 : x138_14 = true
      · subst c25
        have H1 : (some false) = some r := by rw [if_pos rfl] at H; exact H
        clear H
        have H := H1
        clear H1
        obtain rfl := Option.some.inj H
        go_wp2
        go_ret
        exact ⟨by first | rfl | (simp; done) | (simp [*]; done), by repeat (first | exact Drawn0.refl _ | apply Drawn0.step)⟩
      · replace c25 := Bool.eq_false_iff.mpr c25
        subst c25
        have H1 : ((deadboltlaw01_alive.f).bind fun t127 => (if t127 = true then (if t107 = t109 then (if t111 = t115 then (if t119 = t117 then (if t121 = t107 then (if t123 = 0 then (if t125 = t117 then ((word_Fits.f (Int.tmod (wrap64 ((Int.tmod a0 3) + 3)) 3) t117).bind fun t128 => (if t128 = true then ((word_Fits.f (Int.tmod (wrap64 ((Int.tmod a0 3) + 3)) 3) t111).bind fun t129 => (some t129)) else (some false))) else (some false)) else (some false)) else (some false)) else (some false)) else (some false)) else (some false)) else (some false))) = some r := by rw [if_neg (show ¬ (false = true) by decide)] at H; exact H
        clear H
        have H := H1
        clear H1
        replace H := Option.bind_eq_some_iff.mp H
        obtain ⟨t127, A260, H⟩ := H
        replace H : (if t127 = true then (if t107 = t109 then (if t111 = t115 then (if t119 = t117 then (if t121 = t107 then (if t123 = 0 then (if t125 = t117 then ((word_Fits.f (Int.tmod (wrap64 ((Int.tmod a0 3) + 3)) 3) t117).bind fun t128 => (if t128 = true then ((word_Fits.f (Int.tmod (wrap64 ((Int.tmod a0 3) + 3)) 3) t111).bind fun t129 => (some t129)) else (some false))) else (some false)) else (some false)) else (some false)) else (some false)) else (some false)) else (some false)) else (some false)) = some r := H
        have A26 := Aside0.mk A260
        clear A260
        by_cases c27 : t127 = true
        · subst c27
          have H1 : (if t107 = t109 then (if t111 = t115 then (if t119 = t117 then (if t121 = t107 then (if t123 = 0 then (if t125 = t117 then ((word_Fits.f (Int.tmod (wrap64 ((Int.tmod a0 3) + 3)) 3) t117).bind fun t128 => (if t128 = true then ((word_Fits.f (Int.tmod (wrap64 ((Int.tmod a0 3) + 3)) 3) t111).bind fun t129 => (some t129)) else (some false))) else (some false)) else (some false)) else (some false)) else (some false)) else (some false)) else (some false)) = some r := by rw [if_pos rfl] at H; exact H
          clear H
          have H := H1
          clear H1
          by_cases c28 : t107 = t109
          · rw [if_pos c28] at H
            have c28b0 : (t107 == t109) = true := beq_iff_eq.mpr c28
            have c28b1 : (t107 != t109) = false := bne_eq_false_iff_eq.mpr c28
            clear c28
            by_cases c29 : t111 = t115
            · rw [if_pos c29] at H
              have c29b0 : (t111 == t115) = true := beq_iff_eq.mpr c29
              have c29b1 : (t111 != t115) = false := bne_eq_false_iff_eq.mpr c29
              clear c29
              by_cases c30 : t119 = t117
              · rw [if_pos c30] at H
                have c30b0 : (t119 == t117) = true := beq_iff_eq.mpr c30
                have c30b1 : (t119 != t117) = false := bne_eq_false_iff_eq.mpr c30
                clear c30
                by_cases c31 : t121 = t107
                · rw [if_pos c31] at H
                  have c31b0 : (t121 == t107) = true := beq_iff_eq.mpr c31
                  have c31b1 : (t121 != t107) = false := bne_eq_false_iff_eq.mpr c31
                  clear c31
                  by_cases c32 : t123 = 0
                  · rw [if_pos c32] at H
                    have c32b0 : (t123 == 0) = true := beq_iff_eq.mpr c32
                    have c32b1 : (t123 != 0) = false := bne_eq_false_iff_eq.mpr c32
                    clear c32
                    by_cases c33 : t125 = t117
                    · rw [if_pos c33] at H
                      have c33b0 : (t125 == t117) = true := beq_iff_eq.mpr c33
                      have c33b1 : (t125 != t117) = false := bne_eq_false_iff_eq.mpr c33
                      clear c33
                      replace H := Option.bind_eq_some_iff.mp H
                      obtain ⟨t128, A340, H⟩ := H
                      replace H : (if t128 = true then ((word_Fits.f (Int.tmod (wrap64 ((Int.tmod a0 3) + 3)) 3) t111).bind fun t129 => (some t129)) else (some false)) = some r := H
                      have A34 := Aside0.mk A340
                      clear A340
                      by_cases c35 : t128 = true
                      · subst c35
                        have H1 : ((word_Fits.f (Int.tmod (wrap64 ((Int.tmod a0 3) + 3)) 3) t111).bind fun t129 => (some t129)) = some r := by rw [if_pos rfl] at H; exact H
                        clear H
                        have H := H1
                        clear H1
                        replace H := Option.bind_eq_some_iff.mp H
                        obtain ⟨t129, A360, H⟩ := H
                        replace H : (some t129) = some r := H
                        have A36 := Aside0.mk A360
                        clear A360
                        obtain rfl := Option.some.inj H
                        go_wp2_with (first | ((with_reducible refine gate_callee (f := 9) rfl ?_); refine goesL_ (some 139) rfl rfl Try.func9 (by kernel_rfl) rfl #[] rfl (by (try simp only [List.map_toArray, List.map_cons, List.map_nil]); first | done | rfl | (simp only [List.length_drop, List.length_take]; rfl)) ?_; (with_reducible refine (deadboltlaw01_alive.calls  true _ A26.out).mono ?_); rintro e w' ⟨rfl, ⟨nd, rfl⟩⟩; refine ⟨_, rfl, ?_⟩) | (go_at_call 10; (with_reducible refine (word_Fits.calls (Int.tmod (wrap64 ((Int.tmod a0 3) + 3)) 3) t117 true _ A34.out).mono ?_); rintro e w' ⟨rfl, ⟨nd, rfl⟩⟩) | (go_at_call 10; (with_reducible refine (word_Fits.calls (Int.tmod (wrap64 ((Int.tmod a0 3) + 3)) 3) t111 t129 _ A36.out).mono ?_); rintro e w' ⟨rfl, ⟨nd, rfl⟩⟩))
                        go_ret
                        exact ⟨by first | rfl | (simp; done) | (simp [*]; done), by repeat (first | exact Drawn0.refl _ | apply Drawn0.step)⟩
                      · replace c35 := Bool.eq_false_iff.mpr c35
                        subst c35
                        have H1 : (some false) = some r := by rw [if_neg (show ¬ (false = true) by decide)] at H; exact H
                        clear H
                        have H := H1
                        clear H1
                        obtain rfl := Option.some.inj H
                        go_wp2_with (first | ((with_reducible refine gate_callee (f := 9) rfl ?_); refine goesL_ (some 139) rfl rfl Try.func9 (by kernel_rfl) rfl #[] rfl (by (try simp only [List.map_toArray, List.map_cons, List.map_nil]); first | done | rfl | (simp only [List.length_drop, List.length_take]; rfl)) ?_; (with_reducible refine (deadboltlaw01_alive.calls  true _ A26.out).mono ?_); rintro e w' ⟨rfl, ⟨nd, rfl⟩⟩; refine ⟨_, rfl, ?_⟩) | (go_at_call 10; (with_reducible refine (word_Fits.calls (Int.tmod (wrap64 ((Int.tmod a0 3) + 3)) 3) t117 false _ A34.out).mono ?_); rintro e w' ⟨rfl, ⟨nd, rfl⟩⟩))
                        go_ret
                        exact ⟨by first | rfl | (simp; done) | (simp [*]; done), by repeat (first | exact Drawn0.refl _ | apply Drawn0.step)⟩
                    · rw [if_neg c33] at H
                      have c33b0 : (t125 == t117) = false := beq_eq_false_iff_ne.mpr c33
                      have c33b1 : (t125 != t117) = true := bne_iff_ne.mpr c33
                      obtain rfl := Option.some.inj H
                      go_wp2_with (first | ((with_reducible refine gate_callee (f := 9) rfl ?_); refine goesL_ (some 139) rfl rfl Try.func9 (by kernel_rfl) rfl #[] rfl (by (try simp only [List.map_toArray, List.map_cons, List.map_nil]); first | done | rfl | (simp only [List.length_drop, List.length_take]; rfl)) ?_; (with_reducible refine (deadboltlaw01_alive.calls  true _ A26.out).mono ?_); rintro e w' ⟨rfl, ⟨nd, rfl⟩⟩; refine ⟨_, rfl, ?_⟩))
                      go_ret
                      exact ⟨by first | rfl | (simp; done) | (simp [*]; done), by repeat (first | exact Drawn0.refl _ | apply Drawn0.step)⟩
                  · rw [if_neg c32] at H
                    have c32b0 : (t123 == 0) = false := beq_eq_false_iff_ne.mpr c32
                    have c32b1 : (t123 != 0) = true := bne_iff_ne.mpr c32
                    obtain rfl := Option.some.inj H
                    go_wp2_with (first | ((with_reducible refine gate_callee (f := 9) rfl ?_); refine goesL_ (some 139) rfl rfl Try.func9 (by kernel_rfl) rfl #[] rfl (by (try simp only [List.map_toArray, List.map_cons, List.map_nil]); first | done | rfl | (simp only [List.length_drop, List.length_take]; rfl)) ?_; (with_reducible refine (deadboltlaw01_alive.calls  true _ A26.out).mono ?_); rintro e w' ⟨rfl, ⟨nd, rfl⟩⟩; refine ⟨_, rfl, ?_⟩))
                    go_ret
                    exact ⟨by first | rfl | (simp; done) | (simp [*]; done), by repeat (first | exact Drawn0.refl _ | apply Drawn0.step)⟩
                · rw [if_neg c31] at H
                  have c31b0 : (t121 == t107) = false := beq_eq_false_iff_ne.mpr c31
                  have c31b1 : (t121 != t107) = true := bne_iff_ne.mpr c31
                  obtain rfl := Option.some.inj H
                  go_wp2_with (first | ((with_reducible refine gate_callee (f := 9) rfl ?_); refine goesL_ (some 139) rfl rfl Try.func9 (by kernel_rfl) rfl #[] rfl (by (try simp only [List.map_toArray, List.map_cons, List.map_nil]); first | done | rfl | (simp only [List.length_drop, List.length_take]; rfl)) ?_; (with_reducible refine (deadboltlaw01_alive.calls  true _ A26.out).mono ?_); rintro e w' ⟨rfl, ⟨nd, rfl⟩⟩; refine ⟨_, rfl, ?_⟩))
                  go_ret
                  exact ⟨by first | rfl | (simp; done) | (simp [*]; done), by repeat (first | exact Drawn0.refl _ | apply Drawn0.step)⟩
              · rw [if_neg c30] at H
                have c30b0 : (t119 == t117) = false := beq_eq_false_iff_ne.mpr c30
                have c30b1 : (t119 != t117) = true := bne_iff_ne.mpr c30
                obtain rfl := Option.some.inj H
                go_wp2_with (first | ((with_reducible refine gate_callee (f := 9) rfl ?_); refine goesL_ (some 139) rfl rfl Try.func9 (by kernel_rfl) rfl #[] rfl (by (try simp only [List.map_toArray, List.map_cons, List.map_nil]); first | done | rfl | (simp only [List.length_drop, List.length_take]; rfl)) ?_; (with_reducible refine (deadboltlaw01_alive.calls  true _ A26.out).mono ?_); rintro e w' ⟨rfl, ⟨nd, rfl⟩⟩; refine ⟨_, rfl, ?_⟩))
                go_ret
                exact ⟨by first | rfl | (simp; done) | (simp [*]; done), by repeat (first | exact Drawn0.refl _ | apply Drawn0.step)⟩
            · rw [if_neg c29] at H
              have c29b0 : (t111 == t115) = false := beq_eq_false_iff_ne.mpr c29
              have c29b1 : (t111 != t115) = true := bne_iff_ne.mpr c29
              obtain rfl := Option.some.inj H
              go_wp2_with (first | ((with_reducible refine gate_callee (f := 9) rfl ?_); refine goesL_ (some 139) rfl rfl Try.func9 (by kernel_rfl) rfl #[] rfl (by (try simp only [List.map_toArray, List.map_cons, List.map_nil]); first | done | rfl | (simp only [List.length_drop, List.length_take]; rfl)) ?_; (with_reducible refine (deadboltlaw01_alive.calls  true _ A26.out).mono ?_); rintro e w' ⟨rfl, ⟨nd, rfl⟩⟩; refine ⟨_, rfl, ?_⟩))
              go_ret
              exact ⟨by first | rfl | (simp; done) | (simp [*]; done), by repeat (first | exact Drawn0.refl _ | apply Drawn0.step)⟩
          · rw [if_neg c28] at H
            have c28b0 : (t107 == t109) = false := beq_eq_false_iff_ne.mpr c28
            have c28b1 : (t107 != t109) = true := bne_iff_ne.mpr c28
            obtain rfl := Option.some.inj H
            go_wp2_with (first | ((with_reducible refine gate_callee (f := 9) rfl ?_); refine goesL_ (some 139) rfl rfl Try.func9 (by kernel_rfl) rfl #[] rfl (by (try simp only [List.map_toArray, List.map_cons, List.map_nil]); first | done | rfl | (simp only [List.length_drop, List.length_take]; rfl)) ?_; (with_reducible refine (deadboltlaw01_alive.calls  true _ A26.out).mono ?_); rintro e w' ⟨rfl, ⟨nd, rfl⟩⟩; refine ⟨_, rfl, ?_⟩))
            go_ret
            exact ⟨by first | rfl | (simp; done) | (simp [*]; done), by repeat (first | exact Drawn0.refl _ | apply Drawn0.step)⟩
        · replace c27 := Bool.eq_false_iff.mpr c27
          subst c27
          have H1 : (some false) = some r := by rw [if_neg (show ¬ (false = true) by decide)] at H; exact H
          clear H
          have H := H1
          clear H1
          obtain rfl := Option.some.inj H
          go_wp2_with (first | ((with_reducible refine gate_callee (f := 9) rfl ?_); refine goesL_ (some 139) rfl rfl Try.func9 (by kernel_rfl) rfl #[] rfl (by (try simp only [List.map_toArray, List.map_cons, List.map_nil]); first | done | rfl | (simp only [List.length_drop, List.length_take]; rfl)) ?_; (with_reducible refine (deadboltlaw01_alive.calls  false _ A26.out).mono ?_); rintro e w' ⟨rfl, ⟨nd, rfl⟩⟩; refine ⟨_, rfl, ?_⟩))
          go_ret
          exact ⟨by first | rfl | (simp; done) | (simp [*]; done), by repeat (first | exact Drawn0.refl _ | apply Drawn0.step)⟩

/-- THE ONE PURE STATEMENT of deadboltlaw01_WordRound: yours. -/
def deadboltlaw01_WordRound.Pure : Prop := ∀ (a0 : Int) (a1 : Int) (a2 : Int) (a3 : Int), (Lit.int .i64 a0).wf = true → (Lit.int .i64 a1).wf = true → (Lit.int .i64 a2).wf = true → (Lit.int .i64 a3).wf = true → ∃ k, deadboltlaw01_WordRound.f k a0 a1 a2 a3 = some true
theorem deadboltlaw01_WordRound.walk (P : deadboltlaw01_WordRound.Pure) (a0 : Int) (a1 : Int) (a2 : Int) (a3 : Int) (w : World) (w0 : (Lit.int .i64 a0).wf = true) (w1 : (Lit.int .i64 a1).wf = true) (w2 : (Lit.int .i64 a2).wf = true) (w3 : (Lit.int .i64 a3).wf = true) :
    Calls Try.prog 3 #[.int .i64 a0, .int .i64 a1, .int .i64 a2, .int .i64 a3] w fun e w' => e = .returned (.bool true) ∧ Below w.heap.size w w' := by
  obtain ⟨k, h⟩ := P a0 a1 a2 a3 w0 w1 w2 w3
  refine (deadboltlaw01_WordRound.calls k a0 a1 a2 a3 true w h).mono ?_
  rintro e w' ⟨rfl, hd⟩
  exact ⟨rfl, hd.below⟩

end Go.Proofs.Ytdflcfdpkakboaa.PWordRound
