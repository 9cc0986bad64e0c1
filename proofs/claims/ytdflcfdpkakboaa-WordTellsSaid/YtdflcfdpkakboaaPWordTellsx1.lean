/- The functions that a law reaches, as Lean functions, and for each a proof that the call hands back just what its Lean function says; no conditions beyond each statement. Written by a program of this session (a changed copy of the print). -/
import Derived.Test.YtdflcfdpkakboaaPWordTellsx0
namespace Go.Proofs.Ytdflcfdpkakboaa.PWordTells
open Go.Proofs.Ytdflcfdpkakboaa.Hand
open Go.RowKit Go.Proofs.YtdflcfdpkakboaaW.PrintWords Go.Proofs.YtdflcfdpkakboaaW.PrintLast Go.Proofs.YtdflcfdpkakboaaW.PrintMore
attribute [local go_sem] max2_int min2_int max_two min_two max_three min_three max_four min_four   -- for this text's walks alone
set_option linter.unusedVariables false
set_option linter.unusedSimpArgs false


/-! ### word_Wrap: function 8 (by hand) -/


/-! ### word_Add: function 7 -/
def word_Add.f (a0 : Int) (a1 : Int) (a2 : Int) : Option (Int × Int) := (word_Wrap.f a0 (wrap64 (a1 + a2))).bind fun bt101 => (some (bt101.1, bt101.2))
set_option maxHeartbeats 8000000 in
set_option maxRecDepth 100000 in
theorem word_Add.calls (a0 : Int) (a1 : Int) (a2 : Int) (r1 : Int) (r2 : Int) (w : World) (h : word_Add.f a0 a1 a2 = some (r1, r2)) :
    Calls Try.prog 7 #[.int .i64 a0, .int .i64 a1, .int .i64 a2] w fun e w' => e = .returned (.tuple #[.int .i64 r1, .int .i64 r2]) ∧ Drawn0 w w' := by
  have H : ((word_Wrap.f a0 (wrap64 (a1 + a2))).bind fun bt101 => (some (bt101.1, bt101.2))) = some (r1, r2) := h
  clear h
  replace H := Option.bind_eq_some_iff.mp H
  obtain ⟨⟨t101, t102⟩, A40, H⟩ := H
  replace H : (some (t101, t102)) = some (r1, r2) := H
  have A4 := Aside0.mk A40
  clear A40
  simp only [Option.some.injEq, Prod.mk.injEq] at H
  obtain ⟨rfl, rfl⟩ := H
  go_enter Try.func7, Try.ntmps7
  go_wp2_with (first | ((with_reducible refine gate_callee (f := 8) rfl ?_); refine goesL_ (some 12) rfl rfl Try.func8 (by kernel_rfl) rfl #[.int .i64 a0, .int .i64 (wrap64 (a1 + a2))] rfl (by (try simp only [List.map_toArray, List.map_cons, List.map_nil]); first | done | rfl | (simp only [List.length_drop, List.length_take]; rfl)) ?_; (with_reducible refine (word_Wrap.calls a0 (wrap64 (a1 + a2)) t101 t102 _ A4.out).mono ?_); rintro e w' ⟨rfl, ⟨nd, rfl⟩⟩; refine ⟨_, rfl, ?_⟩))
  go_ret2
  exact ⟨by first | rfl | (simp; done) | (simp [*]; done), by repeat (first | exact Drawn0.refl _ | apply Drawn0.step)⟩

/-! ### deadboltlaw01_alive: function 9 -/
def deadboltlaw01_alive.f  : Option (Bool) := (word_Add.f 0 2147483647 1).bind fun bt103 => (if bt103.2 = 0 then (some (bt103.1 == (-2147483648))) else (some false))
set_option maxHeartbeats 8000000 in
set_option maxRecDepth 100000 in
theorem deadboltlaw01_alive.calls  (r : Bool) (w : World) (h : deadboltlaw01_alive.f  = some r) :
    Calls Try.prog 9 #[] w fun e w' => e = .returned (.bool r) ∧ Drawn0 w w' := by
  have H : ((word_Add.f 0 2147483647 1).bind fun bt103 => (if bt103.2 = 0 then (some (bt103.1 == (-2147483648))) else (some false))) = some r := h
  clear h
  replace H := Option.bind_eq_some_iff.mp H
  obtain ⟨⟨t103, t104⟩, A10, H⟩ := H
  replace H : (if t104 = 0 then (some (t103 == (-2147483648))) else (some false)) = some r := H
  have A1 := Aside0.mk A10
  clear A10
  by_cases c2 : t104 = 0
  · rw [if_pos c2] at H
    have c2b0 : (t104 == 0) = true := beq_iff_eq.mpr c2
    have c2b1 : (t104 != 0) = false := bne_eq_false_iff_eq.mpr c2
    clear c2
    obtain rfl := Option.some.inj H
    go_enter Try.func9, Try.ntmps9
    go_wp2_with (first | ((with_reducible refine gate_callee (f := 7) rfl ?_); refine goesL_ (some 4) rfl rfl Try.func7 (by kernel_rfl) rfl #[.int .i64 0, .int .i64 2147483647, .int .i64 1] rfl (by (try simp only [List.map_toArray, List.map_cons, List.map_nil]); first | done | rfl | (simp only [List.length_drop, List.length_take]; rfl)) ?_; (with_reducible refine (word_Add.calls 0 2147483647 1 t103 t104 _ A1.out).mono ?_); rintro e w' ⟨rfl, ⟨nd, rfl⟩⟩; refine ⟨_, rfl, ?_⟩))
    go_ret
    exact ⟨by first | rfl | (simp; done) | (simp [*]; done), by repeat (first | exact Drawn0.refl _ | apply Drawn0.step)⟩
  · rw [if_neg c2] at H
    have c2b0 : (t104 == 0) = false := beq_eq_false_iff_ne.mpr c2
    have c2b1 : (t104 != 0) = true := bne_iff_ne.mpr c2
    obtain rfl := Option.some.inj H
    go_enter Try.func9, Try.ntmps9
    go_wp2_with (first | ((with_reducible refine gate_callee (f := 7) rfl ?_); refine goesL_ (some 4) rfl rfl Try.func7 (by kernel_rfl) rfl #[.int .i64 0, .int .i64 2147483647, .int .i64 1] rfl (by (try simp only [List.map_toArray, List.map_cons, List.map_nil]); first | done | rfl | (simp only [List.length_drop, List.length_take]; rfl)) ?_; (with_reducible refine (word_Add.calls 0 2147483647 1 t103 t104 _ A1.out).mono ?_); rintro e w' ⟨rfl, ⟨nd, rfl⟩⟩; refine ⟨_, rfl, ?_⟩))
    go_ret
    exact ⟨by first | rfl | (simp; done) | (simp [*]; done), by repeat (first | exact Drawn0.refl _ | apply Drawn0.step)⟩


/-! ### word_Fits: function 10 (by hand) -/


-- NOT PRINTED: function 20 (abi_NoEscape)

-- NOT PRINTED: function 19 (strings_Builder_copyCheck)

-- NOT PRINTED: function 17 (strings_Builder_WriteByte)

-- NOT PRINTED: function 18 (strings_Builder_String)


/-! ### word_Bits: function 11 (by hand) -/


/-! ### deadboltref01_Kind: function 14 -/
def deadboltref01_Kind.f (a0 : Int) : Option (Bool) := if a0 ≥ 0 then (some (decide (a0 ≤ 2))) else (some false)
set_option maxHeartbeats 8000000 in
set_option maxRecDepth 100000 in
theorem deadboltref01_Kind.calls (a0 : Int) (r : Bool) (w : World) (h : deadboltref01_Kind.f a0 = some r) :
    Calls Try.prog 14 #[.int .i64 a0] w fun e w' => e = .returned (.bool r) ∧ Drawn0 w w' := by
  have H : (if a0 ≥ 0 then (some (decide (a0 ≤ 2))) else (some false)) = some r := h
  clear h
  by_cases c2 : a0 ≥ 0
  · rw [if_pos c2] at H
    have c2b0 : decide (0 ≤ a0) = true := decide_eq_true c2
    clear c2
    obtain rfl := Option.some.inj H
    go_enter Try.func14, Try.ntmps14
    go_wp2
    go_ret
    exact ⟨by first | rfl | (simp; done) | (simp [*]; done), by repeat (first | exact Drawn0.refl _ | apply Drawn0.step)⟩
  · rw [if_neg c2] at H
    have c2b0 : decide (0 ≤ a0) = false := decide_eq_false c2
    clear c2
    obtain rfl := Option.some.inj H
    go_enter Try.func14, Try.ntmps14
    go_wp2
    go_ret
    exact ⟨by first | rfl | (simp; done) | (simp [*]; done), by repeat (first | exact Drawn0.refl _ | apply Drawn0.step)⟩

/-! ### deadboltref01_Wrap: function 15 -/
def deadboltref01_Wrap.f (a0 : Int) (a1 : Int) : Option (Int) := if a0 = 2 then (some a1) else (if a0 = 0 then (if (Int.tmod (wrap64 ((Int.tmod a1 4294967296) + 4294967296)) 4294967296) ≥ 2147483648 then (some (wrap64 ((Int.tmod (wrap64 ((Int.tmod a1 4294967296) + 4294967296)) 4294967296) - 4294967296))) else (some (Int.tmod (wrap64 ((Int.tmod a1 4294967296) + 4294967296)) 4294967296))) else (some (Int.tmod (wrap64 ((Int.tmod a1 4294967296) + 4294967296)) 4294967296)))
set_option maxHeartbeats 8000000 in
set_option maxRecDepth 100000 in
theorem deadboltref01_Wrap.calls (a0 : Int) (a1 : Int) (r : Int) (w : World) (h : deadboltref01_Wrap.f a0 a1 = some r) :
    Calls Try.prog 15 #[.int .i64 a0, .int .i64 a1] w fun e w' => e = .returned (.int .i64 r) ∧ Drawn0 w w' := by
  have H : (if a0 = 2 then (some a1) else (if a0 = 0 then (if (Int.tmod (wrap64 ((Int.tmod a1 4294967296) + 4294967296)) 4294967296) ≥ 2147483648 then (some (wrap64 ((Int.tmod (wrap64 ((Int.tmod a1 4294967296) + 4294967296)) 4294967296) - 4294967296))) else (some (Int.tmod (wrap64 ((Int.tmod a1 4294967296) + 4294967296)) 4294967296))) else (some (Int.tmod (wrap64 ((Int.tmod a1 4294967296) + 4294967296)) 4294967296)))) = some r := h
  clear h
  by_cases c3 : a0 = 2
  · rw [if_pos c3] at H
    have c3b0 : (a0 == 2) = true := beq_iff_eq.mpr c3
    have c3b1 : (a0 != 2) = false := bne_eq_false_iff_eq.mpr c3
    clear c3
    obtain rfl := Option.some.inj H
    go_enter Try.func15, Try.ntmps15
    go_wp2
    go_ret
    exact ⟨by first | rfl | (simp; done) | (simp [*]; done), by repeat (first | exact Drawn0.refl _ | apply Drawn0.step)⟩
  · rw [if_neg c3] at H
    have c3b0 : (a0 == 2) = false := beq_eq_false_iff_ne.mpr c3
    have c3b1 : (a0 != 2) = true := bne_iff_ne.mpr c3
    by_cases c4 : a0 = 0
    · rw [if_pos c4] at H
      have c4b0 : (a0 == 0) = true := beq_iff_eq.mpr c4
      have c4b1 : (a0 != 0) = false := bne_eq_false_iff_eq.mpr c4
      clear c4
      by_cases c5 : (Int.tmod (wrap64 ((Int.tmod a1 4294967296) + 4294967296)) 4294967296) ≥ 2147483648
      · rw [if_pos c5] at H
        have c5b0 : decide (2147483648 ≤ (Int.tmod (wrap64 ((Int.tmod a1 4294967296) + 4294967296)) 4294967296)) = true := decide_eq_true c5
        clear c5
        obtain rfl := Option.some.inj H
        go_enter Try.func15, Try.ntmps15
        go_wp2
        go_ret
        exact ⟨by first | rfl | (simp; done) | (simp [*]; done), by repeat (first | exact Drawn0.refl _ | apply Drawn0.step)⟩
      · rw [if_neg c5] at H
        have c5b0 : decide (2147483648 ≤ (Int.tmod (wrap64 ((Int.tmod a1 4294967296) + 4294967296)) 4294967296)) = false := decide_eq_false c5
        clear c5
        obtain rfl := Option.some.inj H
        go_enter Try.func15, Try.ntmps15
        go_wp2
        go_ret
        exact ⟨by first | rfl | (simp; done) | (simp [*]; done), by repeat (first | exact Drawn0.refl _ | apply Drawn0.step)⟩
    · rw [if_neg c4] at H
      have c4b0 : (a0 == 0) = false := beq_eq_false_iff_ne.mpr c4
      have c4b1 : (a0 != 0) = true := bne_iff_ne.mpr c4
      obtain rfl := Option.some.inj H
      go_enter Try.func15, Try.ntmps15
      go_wp2
      go_ret
      exact ⟨by first | rfl | (simp; done) | (simp [*]; done), by repeat (first | exact Drawn0.refl _ | apply Drawn0.step)⟩

/-! ### deadboltref01_Fits: function 12 -/
def deadboltref01_Fits.f (a0 : Int) (a1 : Int) : Option (Bool) := (deadboltref01_Kind.f a0).bind fun t105 => (if t105 = true then ((deadboltref01_Wrap.f a0 a1).bind fun t106 => (some (t106 == a1))) else (some false))
set_option maxHeartbeats 8000000 in
set_option maxRecDepth 100000 in
theorem deadboltref01_Fits.calls (a0 : Int) (a1 : Int) (r : Bool) (w : World) (h : deadboltref01_Fits.f a0 a1 = some r) :
    Calls Try.prog 12 #[.int .i64 a0, .int .i64 a1] w fun e w' => e = .returned (.bool r) ∧ Drawn0 w w' := by
  have H : ((deadboltref01_Kind.f a0).bind fun t105 => (if t105 = true then ((deadboltref01_Wrap.f a0 a1).bind fun t106 => (some (t106 == a1))) else (some false))) = some r := h
  clear h
  replace H := Option.bind_eq_some_iff.mp H
  obtain ⟨t105, A30, H⟩ := H
  replace H : (if t105 = true then ((deadboltref01_Wrap.f a0 a1).bind fun t106 => (some (t106 == a1))) else (some false)) = some r := H
  have A3 := Aside0.mk A30
  clear A30
  by_cases c4 : t105 = true
  · subst c4
    have H1 : ((deadboltref01_Wrap.f a0 a1).bind fun t106 => (some (t106 == a1))) = some r := by rw [if_pos rfl] at H; exact H
    clear H
    have H := H1
    clear H1
    replace H := Option.bind_eq_some_iff.mp H
    obtain ⟨t106, A50, H⟩ := H
    replace H : (some (t106 == a1)) = some r := H
    have A5 := Aside0.mk A50
    clear A50
    obtain rfl := Option.some.inj H
    go_enter Try.func12, Try.ntmps12
    go_wp2_with (first | ((with_reducible refine gate_callee (f := 14) rfl ?_); refine goesL_ (some 6) rfl rfl Try.func14 (by kernel_rfl) rfl #[.int .i64 a0] rfl (by (try simp only [List.map_toArray, List.map_cons, List.map_nil]); first | done | rfl | (simp only [List.length_drop, List.length_take]; rfl)) ?_; (with_reducible refine (deadboltref01_Kind.calls a0 true _ A3.out).mono ?_); rintro e w' ⟨rfl, ⟨nd, rfl⟩⟩; refine ⟨_, rfl, ?_⟩) | (go_at_call 15; (with_reducible refine (deadboltref01_Wrap.calls a0 a1 t106 _ A5.out).mono ?_); rintro e w' ⟨rfl, ⟨nd, rfl⟩⟩))
    go_ret
    exact ⟨by first | rfl | (simp; done) | (simp [*]; done), by repeat (first | exact Drawn0.refl _ | apply Drawn0.step)⟩
  · replace c4 := Bool.eq_false_iff.mpr c4
    subst c4
    have H1 : (some false) = some r := by rw [if_neg (show ¬ (false = true) by decide)] at H; exact H
    clear H
    have H := H1
    clear H1
    obtain rfl := Option.some.inj H
    go_enter Try.func12, Try.ntmps12
    go_wp2_with (first | ((with_reducible refine gate_callee (f := 14) rfl ?_); refine goesL_ (some 6) rfl rfl Try.func14 (by kernel_rfl) rfl #[.int .i64 a0] rfl (by (try simp only [List.map_toArray, List.map_cons, List.map_nil]); first | done | rfl | (simp only [List.length_drop, List.length_take]; rfl)) ?_; (with_reducible refine (deadboltref01_Kind.calls a0 false _ A3.out).mono ?_); rintro e w' ⟨rfl, ⟨nd, rfl⟩⟩; refine ⟨_, rfl, ?_⟩))
    go_ret
    exact ⟨by first | rfl | (simp; done) | (simp [*]; done), by repeat (first | exact Drawn0.refl _ | apply Drawn0.step)⟩

/-! ### deadboltref01_Bits: function 13 -/
mutual
def deadboltref01_Bits.j0 : Nat → Int → Int → Option (ByteArray)
  | 0, _, _ => none
  | k + 1, x1, x5 => deadboltref01_Bits.l0 k x5 (⟨#[]⟩ : ByteArray) (IntKind.u64.wrap (x1)) 0
def deadboltref01_Bits.l0 : Nat → Int → ByteArray → Int → Int → Option (ByteArray)
  | 0, _, _, _, _ => none
  | k + 1, x5, x6, x7, x8 => if x8 < x5 then (if (Int.tmod x7 2) = 1 then (if 1 + x6.size ≤ 9223372036854775807 then (deadboltref01_Bits.l0 k x5 ((⟨#[49]⟩ : ByteArray) ++ x6) (IntKind.u64.wrap (Int.tdiv x7 2)) (wrap64 (x8 + 1))) else (none)) else (if 1 + x6.size ≤ 9223372036854775807 then (deadboltref01_Bits.l0 k x5 ((⟨#[48]⟩ : ByteArray) ++ x6) (IntKind.u64.wrap (Int.tdiv x7 2)) (wrap64 (x8 + 1))) else (none))) else (some x6)
end
def deadboltref01_Bits.f (k : Nat) (a0 : Int) (a1 : Int) : Option (ByteArray) := if a0 = 2 then (deadboltref01_Bits.j0 k a1 64) else (deadboltref01_Bits.j0 k a1 32)
theorem deadboltref01_Bits.mono_l : ∀ k, (∀ y0 y1, LeO (deadboltref01_Bits.j0 k y0 y1) (deadboltref01_Bits.j0 (k + 1) y0 y1)) ∧ (∀ y0 y1 y2 y3, LeO (deadboltref01_Bits.l0 k y0 y1 y2 y3) (deadboltref01_Bits.l0 (k + 1) y0 y1 y2 y3))
  | 0 => ⟨fun _ _ r h => by simp [deadboltref01_Bits.j0] at h, fun _ _ _ _ r h => by simp [deadboltref01_Bits.l0] at h⟩
  | k + 1 => by
    obtain ⟨ih0, ih1⟩ := deadboltref01_Bits.mono_l k
    refine ⟨?_, ?_⟩
    · intro y0 y1
      unfold deadboltref01_Bits.j0
      repeat' first
      | (with_reducible exact ih0 _ _)
      | (with_reducible exact ih1 _ _ _ _)
      | (with_reducible exact LeO.refl _)
      | (with_reducible exact LeO.none _)
      | (with_reducible refine LeO.ite ?_ ?_)
      | (with_reducible refine LeO.bind ?_ (fun _ => ?_))
      | exact ih0 _ _
      | exact ih1 _ _ _ _
      | exact LeO.none _
      | refine LeO.ite ?_ ?_
      | refine LeO.bind ?_ (fun _ => ?_)
    · intro y0 y1 y2 y3
      unfold deadboltref01_Bits.l0
      repeat' first
      | (with_reducible exact ih0 _ _)
      | (with_reducible exact ih1 _ _ _ _)
      | (with_reducible exact LeO.refl _)
      | (with_reducible exact LeO.none _)
      | (with_reducible refine LeO.ite ?_ ?_)
      | (with_reducible refine LeO.bind ?_ (fun _ => ?_))
      | exact ih0 _ _
      | exact ih1 _ _ _ _
      | exact LeO.none _
      | refine LeO.ite ?_ ?_
      | refine LeO.bind ?_ (fun _ => ?_)
theorem deadboltref01_Bits.mono : ∀ a0 a1 k, LeO (deadboltref01_Bits.f k a0 a1) (deadboltref01_Bits.f (k + 1) a0 a1) := by
  intro a0 a1 k
  obtain ⟨ih0, ih1⟩ := deadboltref01_Bits.mono_l k
  unfold deadboltref01_Bits.f
  repeat' first
      | (with_reducible exact ih0 _ _)
      | (with_reducible exact ih1 _ _ _ _)
      | (with_reducible exact LeO.refl _)
      | (with_reducible exact LeO.none _)
      | (with_reducible refine LeO.ite ?_ ?_)
      | (with_reducible refine LeO.bind ?_ (fun _ => ?_))
      | exact ih0 _ _
      | exact ih1 _ _ _ _
      | exact LeO.none _
      | refine LeO.ite ?_ ?_
      | refine LeO.bind ?_ (fun _ => ?_)
set_option maxHeartbeats 8000000 in
set_option maxRecDepth 100000 in
theorem deadboltref01_Bits.calls (k : Nat) (a0 : Int) (a1 : Int) (r : ByteArray) (w : World) (h : deadboltref01_Bits.f k a0 a1 = some r) :
    Calls Try.prog 13 #[.int .i64 a0, .int .i64 a1] w fun e w' => e = .returned (.string r) ∧ Drawn0 w w' := by
  have H : (if a0 = 2 then (deadboltref01_Bits.j0 k a1 64) else (deadboltref01_Bits.j0 k a1 32)) = some r := h
  clear h
  have HC3 := Aside0.mk H
  clear H
  go_enter Try.func13, Try.ntmps13
  go_upto_if 11 with (fail)
  go_cut [5] (fun v5 wc => ∃ (kq : Nat) (x5_2 : Int), v5 = .int .i64 x5_2 ∧ Aside0 (deadboltref01_Bits.j0 kq a1 x5_2 = some r) ∧ Aside0 (kq ≤ k) ∧ Drawn0 w wc)
  case first =>
    have H := HC3.out
    clear HC3
    by_cases c4 : a0 = 2
    · rw [if_pos c4] at H
      have c4b0 : (a0 == 2) = true := beq_iff_eq.mpr c4
      have c4b1 : (a0 != 2) = false := bne_eq_false_iff_eq.mpr c4
      clear c4
      (first | rw [c4b0] | (simp only [i64_w, i32_w]; rw [c4b0]) | skip)
      have H' := Aside0.mk H
      clear H
      go_wp2
      go_meet
      case rel => exact ⟨_, (64), (by first | rfl | (simp; done) | (simp [*]; done)), H', ⟨by first | omega | exact Nat.le_refl _⟩, by repeat (first | exact Drawn0.refl _ | apply Drawn0.step)⟩
    · rw [if_neg c4] at H
      have c4b0 : (a0 == 2) = false := beq_eq_false_iff_ne.mpr c4
      have c4b1 : (a0 != 2) = true := bne_iff_ne.mpr c4
      (first | rw [c4b0] | (simp only [i64_w, i32_w]; rw [c4b0]) | skip)
      have H' := Aside0.mk H
      clear H
      go_wp2
      go_meet
      case rel => exact ⟨_, (32), (by first | rfl | (simp; done) | (simp [*]; done)), H', ⟨by first | omega | exact Nat.le_refl _⟩, by repeat (first | exact Drawn0.refl _ | apply Drawn0.step)⟩
  case rest =>
    clear HC3
    try clear c1
    try clear p2
    try clear c4
    try clear c4b0
    try clear c4b1
    obtain ⟨kq, x5_2, rfl, HA, HJ2, ⟨mc2, rfl⟩⟩ := hcut
    cases kq with
    | zero => exact absurd HA.out (by simp [deadboltref01_Bits.j0])
    | succ kj2 =>
      have H := HA.out
      clear HA
      simp only [deadboltref01_Bits.j0] at H
      have H' := Aside0.mk H
      clear H
      go_wp2
      go_loopg [6, 7, 8] kj2 (fun kq v6 v7 v8 w' => ∃ (x6_2 : ByteArray) (x7_2 : Int) (x8_2 : Int), v6 = .string x6_2 ∧ v7 = .int .u64 x7_2 ∧ v8 = .int .i64 x8_2 ∧ Aside0 (deadboltref01_Bits.l0 kq x5_2 x6_2 x7_2 x8_2 = some r) ∧ Aside0 (kq ≤ kj2) ∧ Drawn0 w w')
      case atStart => exact ⟨((⟨#[]⟩ : ByteArray)), (IntKind.u64.wrap (a1)), (0), (by first | rfl | (simp; done) | (simp [*]; done)), (by first | rfl | (simp; done) | (simp [*]; done)), (by first | rfl | (simp; done) | (simp [*]; done)), H', ⟨Nat.le_refl _⟩, by repeat (first | exact Drawn0.refl _ | apply Drawn0.step)⟩
      case round =>
        clear H'
        try clear c1
        try clear c2
        try clear p2
        try clear c4
        try clear c4b0
        try clear c4b1
        try clear p2
        obtain ⟨x6_2, x7_2, x8_2, rfl, rfl, rfl, HA, HK2, ⟨m2, rfl⟩⟩ := hrel
        cases gk with
        | zero => exact absurd HA.out (by simp [deadboltref01_Bits.l0])
        | succ k2 =>
          have H := HA.out
          clear HA
          simp only [deadboltref01_Bits.l0] at H
          by_cases c5 : x8_2 < x5_2
          · rw [if_pos c5] at H
            have c5b0 : decide (x8_2 < x5_2) = true := decide_eq_true c5
            clear c5
            by_cases c6 : (Int.tmod x7_2 2) = 1
            · rw [if_pos c6] at H
              have c6b0 : ((Int.tmod x7_2 2) == 1) = true := beq_iff_eq.mpr c6
              have c6b1 : ((Int.tmod x7_2 2) != 1) = false := bne_eq_false_iff_eq.mpr c6
              clear c6
              by_cases c7 : 1 + x6_2.size ≤ 9223372036854775807
              · rw [if_pos c7] at H
                have c7b0 := eq_true c7
                have c7b1 : decide (1 + x6_2.size ≤ 9223372036854775807) = true := decide_eq_true c7
                try have c7b2 : (9223372036854775807 < 1 + x6_2.size) = False := eq_false (Nat.not_lt.2 c7)
                have H' := Aside0.mk H
                clear H
                go_wp2
                go_roundg k2
                case measure => have := HJ2.out; have := HK2.out; omega
                case rel => exact ⟨((⟨#[49]⟩ : ByteArray) ++ x6_2), (IntKind.u64.wrap (Int.tdiv x7_2 2)), (wrap64 (x8_2 + 1)), (by first | rfl | (simp; done) | (simp [*]; done)), (by first | rfl | (simp; done) | (simp [*]; done)), (by first | rfl | (simp; done) | (simp [*]; done)), H', ⟨by have := HJ2.out; have := HK2.out; omega⟩, by repeat (first | exact Drawn0.refl _ | apply Drawn0.step)⟩
              · rw [if_neg c7] at H
                exact absurd H (by simp)
            · rw [if_neg c6] at H
              have c6b0 : ((Int.tmod x7_2 2) == 1) = false := beq_eq_false_iff_ne.mpr c6
              have c6b1 : ((Int.tmod x7_2 2) != 1) = true := bne_iff_ne.mpr c6
              by_cases c8 : 1 + x6_2.size ≤ 9223372036854775807
              · rw [if_pos c8] at H
                have c8b0 := eq_true c8
                have c8b1 : decide (1 + x6_2.size ≤ 9223372036854775807) = true := decide_eq_true c8
                try have c8b2 : (9223372036854775807 < 1 + x6_2.size) = False := eq_false (Nat.not_lt.2 c8)
                have H' := Aside0.mk H
                clear H
                go_wp2
                go_roundg k2
                case measure => have := HJ2.out; have := HK2.out; omega
                case rel => exact ⟨((⟨#[48]⟩ : ByteArray) ++ x6_2), (IntKind.u64.wrap (Int.tdiv x7_2 2)), (wrap64 (x8_2 + 1)), (by first | rfl | (simp; done) | (simp [*]; done)), (by first | rfl | (simp; done) | (simp [*]; done)), (by first | rfl | (simp; done) | (simp [*]; done)), H', ⟨by have := HJ2.out; have := HK2.out; omega⟩, by repeat (first | exact Drawn0.refl _ | apply Drawn0.step)⟩
              · rw [if_neg c8] at H
                exact absurd H (by simp)
          · rw [if_neg c5] at H
            have c5b0 : decide (x8_2 < x5_2) = false := decide_eq_false c5
            clear c5
            obtain rfl := Option.some.inj H
            go_wp2
            go_ret
            exact ⟨by first | rfl | (simp; done) | (simp [*]; done), by repeat (first | exact Drawn0.refl _ | apply Drawn0.step)⟩

/-! ### deadboltref01_Add: function 16 -/
def deadboltref01_Add.f (a0 : Int) (a1 : Int) (a2 : Int) : Option (Int) := if a0 = 2 then (some (wrap64 (IntKind.u64.wrap ((IntKind.u64.wrap (a1)) + (IntKind.u64.wrap (a2)))))) else ((deadboltref01_Wrap.f a0 a1).bind fun t107 => ((deadboltref01_Wrap.f a0 a2).bind fun t108 => ((deadboltref01_Wrap.f a0 (wrap64 (t107 + t108))).bind fun t109 => (some t109))))
set_option maxHeartbeats 8000000 in
set_option maxRecDepth 100000 in
theorem deadboltref01_Add.calls (a0 : Int) (a1 : Int) (a2 : Int) (r : Int) (w : World) (h : deadboltref01_Add.f a0 a1 a2 = some r) :
    Calls Try.prog 16 #[.int .i64 a0, .int .i64 a1, .int .i64 a2] w fun e w' => e = .returned (.int .i64 r) ∧ Drawn0 w w' := by
  have H : (if a0 = 2 then (some (wrap64 (IntKind.u64.wrap ((IntKind.u64.wrap (a1)) + (IntKind.u64.wrap (a2)))))) else ((deadboltref01_Wrap.f a0 a1).bind fun t107 => ((deadboltref01_Wrap.f a0 a2).bind fun t108 => ((deadboltref01_Wrap.f a0 (wrap64 (t107 + t108))).bind fun t109 => (some t109))))) = some r := h
  clear h
  by_cases c4 : a0 = 2
  · rw [if_pos c4] at H
    have c4b0 : (a0 == 2) = true := beq_iff_eq.mpr c4
    have c4b1 : (a0 != 2) = false := bne_eq_false_iff_eq.mpr c4
    clear c4
    obtain rfl := Option.some.inj H
    go_enter Try.func16, Try.ntmps16
    go_wp2
    go_ret
    exact ⟨by first | rfl | (simp; done) | (simp [*]; done), by repeat (first | exact Drawn0.refl _ | apply Drawn0.step)⟩
  · rw [if_neg c4] at H
    have c4b0 : (a0 == 2) = false := beq_eq_false_iff_ne.mpr c4
    have c4b1 : (a0 != 2) = true := bne_iff_ne.mpr c4
    replace H := Option.bind_eq_some_iff.mp H
    obtain ⟨t107, A50, H⟩ := H
    replace H : ((deadboltref01_Wrap.f a0 a2).bind fun t108 => ((deadboltref01_Wrap.f a0 (wrap64 (t107 + t108))).bind fun t109 => (some t109))) = some r := H
    have A5 := Aside0.mk A50
    clear A50
    replace H := Option.bind_eq_some_iff.mp H
    obtain ⟨t108, A60, H⟩ := H
    replace H : ((deadboltref01_Wrap.f a0 (wrap64 (t107 + t108))).bind fun t109 => (some t109)) = some r := H
    have A6 := Aside0.mk A60
    clear A60
    replace H := Option.bind_eq_some_iff.mp H
    obtain ⟨t109, A70, H⟩ := H
    replace H : (some t109) = some r := H
    have A7 := Aside0.mk A70
    clear A70
    obtain rfl := Option.some.inj H
    go_enter Try.func16, Try.ntmps16
    go_wp2_with (first | ((with_reducible refine gate_callee (f := 15) rfl ?_); refine goesL_ (some 18) rfl rfl Try.func15 (by kernel_rfl) rfl #[.int .i64 a0, .int .i64 a1] rfl (by (try simp only [List.map_toArray, List.map_cons, List.map_nil]); first | done | rfl | (simp only [List.length_drop, List.length_take]; rfl)) ?_; (with_reducible refine (deadboltref01_Wrap.calls a0 a1 t107 _ A5.out).mono ?_); rintro e w' ⟨rfl, ⟨nd, rfl⟩⟩; refine ⟨_, rfl, ?_⟩) | ((with_reducible refine gate_callee (f := 15) rfl ?_); refine goesL_ (some 21) rfl rfl Try.func15 (by kernel_rfl) rfl #[.int .i64 a0, .int .i64 a2] rfl (by (try simp only [List.map_toArray, List.map_cons, List.map_nil]); first | done | rfl | (simp only [List.length_drop, List.length_take]; rfl)) ?_; (with_reducible refine (deadboltref01_Wrap.calls a0 a2 t108 _ A6.out).mono ?_); rintro e w' ⟨rfl, ⟨nd, rfl⟩⟩; refine ⟨_, rfl, ?_⟩) | ((with_reducible refine gate_callee (f := 15) rfl ?_); refine goesL_ (some 23) rfl rfl Try.func15 (by kernel_rfl) rfl #[.int .i64 a0, .int .i64 (wrap64 (t107 + t108))] rfl (by (try simp only [List.map_toArray, List.map_cons, List.map_nil]); first | done | rfl | (simp only [List.length_drop, List.length_take]; rfl)) ?_; (with_reducible refine (deadboltref01_Wrap.calls a0 (wrap64 (t107 + t108)) t109 _ A7.out).mono ?_); rintro e w' ⟨rfl, ⟨nd, rfl⟩⟩; refine ⟨_, rfl, ?_⟩))
    go_ret
    exact ⟨by first | rfl | (simp; done) | (simp [*]; done), by repeat (first | exact Drawn0.refl _ | apply Drawn0.step)⟩

/-! ### deadboltlaw01_WordTells: function 5 -/
mutual
def deadboltlaw01_WordTells.j0 : Nat → Int → Int → Int → Int → Int → Int → Int → ByteArray → Int → Bool → Option (Bool)
  | 0, _, _, _, _, _, _, _, _, _, _ => none
  | k + 1, x0, x1, x2, x7, x8, x9, x10, x11, x12, x42 => if x42 = true then (some false) else ((deadboltref01_Fits.f x0 x1).bind fun t119 => (if t119 = true then (if x12 = 0 then ((deadboltref01_Bits.f k x0 x1).bind fun t120 => (if x11.toList = t120.toList then (deadboltlaw01_WordTells.j1 k x0 x1 x2 x7 x8 x9 x10) else (some false))) else (some false)) else (if x12 = 1 then (if x11.toList = ([] : List UInt8) then (deadboltlaw01_WordTells.j1 k x0 x1 x2 x7 x8 x9 x10) else (some false)) else (some false))))
def deadboltlaw01_WordTells.j1 : Nat → Int → Int → Int → Int → Int → Int → Int → Option (Bool)
  | 0, _, _, _, _, _, _, _ => none
  | k + 1, x0, x1, x2, x7, x8, x9, x10 => (deadboltref01_Kind.f x0).bind fun t121 => (if t121 = true then (if x8 = 0 then (if x10 = 0 then ((deadboltref01_Wrap.f x0 x1).bind fun t122 => (if x7 = t122 then ((deadboltref01_Add.f x0 x1 x2).bind fun t123 => (some (x9 == t123))) else (some false))) else (some false)) else (some false)) else (if x8 = 1 then (if x10 = 1 then (if x7 = 0 then (some (x9 == 0)) else (some false)) else (some false)) else (some false)))
end
def deadboltlaw01_WordTells.f (k : Nat) (a0 : Int) (a1 : Int) (a2 : Int) : Option (Bool) := (word_Wrap.f a0 a1).bind fun bt110 => ((word_Add.f a0 a1 a2).bind fun bt112 => ((word_Bits.f a0 a1).bind fun bt114 => ((word_Fits.f a0 a1).bind fun t116 => ((deadboltref01_Fits.f a0 a1).bind fun t117 => (if (t116 != t117) = true then (deadboltlaw01_WordTells.j0 k a0 a1 a2 bt110.1 bt110.2 bt112.1 bt112.2 bt114.1 bt114.2 true) else ((deadboltlaw01_alive.f).bind fun t118 => (deadboltlaw01_WordTells.j0 k a0 a1 a2 bt110.1 bt110.2 bt112.1 bt112.2 bt114.1 bt114.2 (!t118))))))))
theorem deadboltlaw01_WordTells.mono_l : ∀ k, (∀ y0 y1 y2 y3 y4 y5 y6 y7 y8 y9, LeO (deadboltlaw01_WordTells.j0 k y0 y1 y2 y3 y4 y5 y6 y7 y8 y9) (deadboltlaw01_WordTells.j0 (k + 1) y0 y1 y2 y3 y4 y5 y6 y7 y8 y9)) ∧ (∀ y0 y1 y2 y3 y4 y5 y6, LeO (deadboltlaw01_WordTells.j1 k y0 y1 y2 y3 y4 y5 y6) (deadboltlaw01_WordTells.j1 (k + 1) y0 y1 y2 y3 y4 y5 y6))
  | 0 => ⟨fun _ _ _ _ _ _ _ _ _ _ r h => by simp [deadboltlaw01_WordTells.j0] at h, fun _ _ _ _ _ _ _ r h => by simp [deadboltlaw01_WordTells.j1] at h⟩
  | k + 1 => by
    obtain ⟨ih0, ih1⟩ := deadboltlaw01_WordTells.mono_l k
    refine ⟨?_, ?_⟩
    · intro y0 y1 y2 y3 y4 y5 y6 y7 y8 y9
      unfold deadboltlaw01_WordTells.j0
      repeat' first
      | (with_reducible exact ih0 _ _ _ _ _ _ _ _ _ _)
      | (with_reducible exact ih1 _ _ _ _ _ _ _)
      | (with_reducible exact deadboltref01_Bits.mono _ _ _)
      | (with_reducible exact LeO.refl _)
      | (with_reducible exact LeO.none _)
      | (with_reducible refine LeO.ite ?_ ?_)
      | (with_reducible refine LeO.bind ?_ (fun _ => ?_))
      | exact ih0 _ _ _ _ _ _ _ _ _ _
      | exact ih1 _ _ _ _ _ _ _
      | exact deadboltref01_Bits.mono _ _ _
      | exact LeO.none _
      | refine LeO.ite ?_ ?_
      | refine LeO.bind ?_ (fun _ => ?_)
    · intro y0 y1 y2 y3 y4 y5 y6
      unfold deadboltlaw01_WordTells.j1
      repeat' first
      | (with_reducible exact ih0 _ _ _ _ _ _ _ _ _ _)
      | (with_reducible exact ih1 _ _ _ _ _ _ _)
      | (with_reducible exact deadboltref01_Bits.mono _ _ _)
      | (with_reducible exact LeO.refl _)
      | (with_reducible exact LeO.none _)
      | (with_reducible refine LeO.ite ?_ ?_)
      | (with_reducible refine LeO.bind ?_ (fun _ => ?_))
      | exact ih0 _ _ _ _ _ _ _ _ _ _
      | exact ih1 _ _ _ _ _ _ _
      | exact deadboltref01_Bits.mono _ _ _
      | exact LeO.none _
      | refine LeO.ite ?_ ?_
      | refine LeO.bind ?_ (fun _ => ?_)
theorem deadboltlaw01_WordTells.mono : ∀ a0 a1 a2 k, LeO (deadboltlaw01_WordTells.f k a0 a1 a2) (deadboltlaw01_WordTells.f (k + 1) a0 a1 a2) := by
  intro a0 a1 a2 k
  obtain ⟨ih0, ih1⟩ := deadboltlaw01_WordTells.mono_l k
  unfold deadboltlaw01_WordTells.f
  repeat' first
      | (with_reducible exact ih0 _ _ _ _ _ _ _ _ _ _)
      | (with_reducible exact ih1 _ _ _ _ _ _ _)
      | (with_reducible exact deadboltref01_Bits.mono _ _ _)
      | (with_reducible exact LeO.refl _)
      | (with_reducible exact LeO.none _)
      | (with_reducible refine LeO.ite ?_ ?_)
      | (with_reducible refine LeO.bind ?_ (fun _ => ?_))
      | exact ih0 _ _ _ _ _ _ _ _ _ _
      | exact ih1 _ _ _ _ _ _ _
      | exact deadboltref01_Bits.mono _ _ _
      | exact LeO.none _
      | refine LeO.ite ?_ ?_
      | refine LeO.bind ?_ (fun _ => ?_)
set_option maxHeartbeats 8000000 in
set_option maxRecDepth 100000 in
theorem deadboltlaw01_WordTells.calls (k : Nat) (a0 : Int) (a1 : Int) (a2 : Int) (r : Bool) (w : World) (h : deadboltlaw01_WordTells.f k a0 a1 a2 = some r) :
    Calls Try.prog 5 #[.int .i64 a0, .int .i64 a1, .int .i64 a2] w fun e w' => e = .returned (.bool r) ∧ Below w.heap.size w w' := by
  have HB := Aside0.mk (Below.refl w.heap.size w)
  have H : ((word_Wrap.f a0 a1).bind fun bt110 => ((word_Add.f a0 a1 a2).bind fun bt112 => ((word_Bits.f a0 a1).bind fun bt114 => ((word_Fits.f a0 a1).bind fun t116 => ((deadboltref01_Fits.f a0 a1).bind fun t117 => (if (t116 != t117) = true then (deadboltlaw01_WordTells.j0 k a0 a1 a2 bt110.1 bt110.2 bt112.1 bt112.2 bt114.1 bt114.2 true) else ((deadboltlaw01_alive.f).bind fun t118 => (deadboltlaw01_WordTells.j0 k a0 a1 a2 bt110.1 bt110.2 bt112.1 bt112.2 bt114.1 bt114.2 (!t118))))))))) = some r := h
  clear h
  replace H := Option.bind_eq_some_iff.mp H
  obtain ⟨⟨t110, t111⟩, A40, H⟩ := H
  replace H : ((word_Add.f a0 a1 a2).bind fun bt112 => ((word_Bits.f a0 a1).bind fun bt114 => ((word_Fits.f a0 a1).bind fun t116 => ((deadboltref01_Fits.f a0 a1).bind fun t117 => (if (t116 != t117) = true then (deadboltlaw01_WordTells.j0 k a0 a1 a2 t110 t111 bt112.1 bt112.2 bt114.1 bt114.2 true) else ((deadboltlaw01_alive.f).bind fun t118 => (deadboltlaw01_WordTells.j0 k a0 a1 a2 t110 t111 bt112.1 bt112.2 bt114.1 bt114.2 (!t118)))))))) = some r := H
  have A4 := Aside0.mk A40
  clear A40
  replace H := Option.bind_eq_some_iff.mp H
  obtain ⟨⟨t112, t113⟩, A50, H⟩ := H
  replace H : ((word_Bits.f a0 a1).bind fun bt114 => ((word_Fits.f a0 a1).bind fun t116 => ((deadboltref01_Fits.f a0 a1).bind fun t117 => (if (t116 != t117) = true then (deadboltlaw01_WordTells.j0 k a0 a1 a2 t110 t111 t112 t113 bt114.1 bt114.2 true) else ((deadboltlaw01_alive.f).bind fun t118 => (deadboltlaw01_WordTells.j0 k a0 a1 a2 t110 t111 t112 t113 bt114.1 bt114.2 (!t118))))))) = some r := H
  have A5 := Aside0.mk A50
  clear A50
  replace H := Option.bind_eq_some_iff.mp H
  obtain ⟨⟨t114, t115⟩, A60, H⟩ := H
  replace H : ((word_Fits.f a0 a1).bind fun t116 => ((deadboltref01_Fits.f a0 a1).bind fun t117 => (if (t116 != t117) = true then (deadboltlaw01_WordTells.j0 k a0 a1 a2 t110 t111 t112 t113 t114 t115 true) else ((deadboltlaw01_alive.f).bind fun t118 => (deadboltlaw01_WordTells.j0 k a0 a1 a2 t110 t111 t112 t113 t114 t115 (!t118)))))) = some r := H
  have A6 := Aside0.mk A60
  clear A60
  have HC7 := Aside0.mk H
  clear H
  go_enter Try.func5, Try.ntmps5
  go_upto_region 4 with (first | ((with_reducible refine gate_callee (f := 8) rfl ?_); refine goesL_ (some 16) rfl rfl Try.func8 (by kernel_rfl) rfl #[.int .i64 a0, .int .i64 a1] rfl (by (try simp only [List.map_toArray, List.map_cons, List.map_nil]); first | done | rfl | (simp only [List.length_drop, List.length_take]; rfl)) ?_; (with_reducible refine (word_Wrap.calls a0 a1 t110 t111 _ A4.out).mono ?_); rintro e w' ⟨rfl, ⟨nd, rfl⟩⟩; refine ⟨_, rfl, ?_⟩) | ((with_reducible refine gate_callee (f := 7) rfl ?_); refine goesL_ (some 23) rfl rfl Try.func7 (by kernel_rfl) rfl #[.int .i64 a0, .int .i64 a1, .int .i64 a2] rfl (by (try simp only [List.map_toArray, List.map_cons, List.map_nil]); first | done | rfl | (simp only [List.length_drop, List.length_take]; rfl)) ?_; (with_reducible refine (word_Add.calls a0 a1 a2 t112 t113 _ A5.out).mono ?_); rintro e w' ⟨rfl, ⟨nd, rfl⟩⟩; refine ⟨_, rfl, ?_⟩) | ((with_reducible refine gate_callee (f := 11) rfl ?_); refine goesL_ (some 29) rfl rfl Try.func11 (by kernel_rfl) rfl #[.int .i64 a0, .int .i64 a1] rfl (by (try simp only [List.map_toArray, List.map_cons, List.map_nil]); first | done | rfl | (simp only [List.length_drop, List.length_take]; rfl)) ?_; (with_reducible refine (word_Bits.calls a0 a1 t114 t115 _ A6.out).mono ?_); rintro e w8 ⟨rfl, hb⟩; refine ⟨_, rfl, ?_⟩; have n0_ := Aside0.mk (below_step (by repeat (first | (with_reducible first | exact HB.out | apply below_alloc | apply pw_below_drewN | apply below_drew1) | exact HB.out)) hb); clear HB; have HB := n0_; clear n0_; (try clear hb); (try clear hb2); (try clear hk); (try clear hi)))
  (try simp only [Act.put, List.setIfInBounds_toArray, List.set_cons_zero, List.set_cons_succ])
  go_cut [42] (fun v42 wc => ∃ (kq : Nat) (x42_6 : Bool), v42 = .bool x42_6 ∧ Aside0 (deadboltlaw01_WordTells.j0 kq a0 a1 a2 t110 t111 t112 t113 t114 t115 x42_6 = some r) ∧ Aside0 (kq ≤ k) ∧ Aside0 (Below w.heap.size w wc))
  case first =>
    have H := HC7.out
    clear HC7
    replace H := Option.bind_eq_some_iff.mp H
    obtain ⟨t116, A90, H⟩ := H
    replace H : ((deadboltref01_Fits.f a0 a1).bind fun t117 => (if (t116 != t117) = true then (deadboltlaw01_WordTells.j0 k a0 a1 a2 t110 t111 t112 t113 t114 t115 true) else ((deadboltlaw01_alive.f).bind fun t118 => (deadboltlaw01_WordTells.j0 k a0 a1 a2 t110 t111 t112 t113 t114 t115 (!t118))))) = some r := H
    have A9 := Aside0.mk A90
    clear A90
    replace H := Option.bind_eq_some_iff.mp H
    obtain ⟨t117, A100, H⟩ := H
    replace H : (if (t116 != t117) = true then (deadboltlaw01_WordTells.j0 k a0 a1 a2 t110 t111 t112 t113 t114 t115 true) else ((deadboltlaw01_alive.f).bind fun t118 => (deadboltlaw01_WordTells.j0 k a0 a1 a2 t110 t111 t112 t113 t114 t115 (!t118)))) = some r := H
    have A10 := Aside0.mk A100
    clear A100
    by_cases c11 : (t116 != t117) = true
    · rw [if_pos c11] at H
      have c11b0 : (t116 != t117) = true := c11
      (try (have c11b1 : decide (t116 = t117) = false := by simpa using c11))
      (try (have c11b2 : (t116 == t117) = false := by simpa using c11))
      (try (have c11b3 : ¬ (t116 = t117) := by simpa using c11))
      clear c11
      (first | rw [c11b0] | (simp only [i64_w, i32_w]; rw [c11b0]) | skip)
      have H' := Aside0.mk H
      clear H
      go_wp2_with (first | ((with_reducible refine gate_callee (f := 10) rfl ?_); refine goesL_ (some 34) rfl rfl Try.func10 (by kernel_rfl) rfl #[.int .i64 a0, .int .i64 a1] rfl (by (try simp only [List.map_toArray, List.map_cons, List.map_nil]); first | done | rfl | (simp only [List.length_drop, List.length_take]; rfl)) ?_; (with_reducible refine (word_Fits.calls a0 a1 t116 _ A9.out).mono ?_); rintro e w' ⟨rfl, ⟨nd, rfl⟩⟩; refine ⟨_, rfl, ?_⟩) | ((with_reducible refine gate_callee (f := 12) rfl ?_); refine goesL_ (some 37) rfl rfl Try.func12 (by kernel_rfl) rfl #[.int .i64 a0, .int .i64 a1] rfl (by (try simp only [List.map_toArray, List.map_cons, List.map_nil]); first | done | rfl | (simp only [List.length_drop, List.length_take]; rfl)) ?_; (with_reducible refine (deadboltref01_Fits.calls a0 a1 t117 _ A10.out).mono ?_); rintro e w' ⟨rfl, ⟨nd, rfl⟩⟩; refine ⟨_, rfl, ?_⟩))
      go_meet
      case rel => exact ⟨_, (true), (by first | rfl | (simp; done) | (simp [*]; done)), H', ⟨by first | omega | exact Nat.le_refl _⟩, ⟨by repeat (first | (with_reducible first | exact HB.out | apply below_alloc | apply pw_below_drewN | apply below_drew1) | exact HB.out)⟩⟩
    · rw [if_neg c11] at H
      have c11b0 : (t116 != t117) = false := by simpa using c11
      (try (have c11b1 : decide (t116 = t117) = true := by simpa using c11))
      (try (have c11b2 : (t116 == t117) = true := by simpa using c11))
      clear c11
      (first | rw [c11b0] | (simp only [i64_w, i32_w]; rw [c11b0]) | skip)
      replace H := Option.bind_eq_some_iff.mp H
      obtain ⟨t118, A120, H⟩ := H
      replace H : (deadboltlaw01_WordTells.j0 k a0 a1 a2 t110 t111 t112 t113 t114 t115 (!t118)) = some r := H
      have A12 := Aside0.mk A120
      clear A120
      have H' := Aside0.mk H
      clear H
      go_wp2_with (first | ((with_reducible refine gate_callee (f := 10) rfl ?_); refine goesL_ (some 34) rfl rfl Try.func10 (by kernel_rfl) rfl #[.int .i64 a0, .int .i64 a1] rfl (by (try simp only [List.map_toArray, List.map_cons, List.map_nil]); first | done | rfl | (simp only [List.length_drop, List.length_take]; rfl)) ?_; (with_reducible refine (word_Fits.calls a0 a1 t116 _ A9.out).mono ?_); rintro e w' ⟨rfl, ⟨nd, rfl⟩⟩; refine ⟨_, rfl, ?_⟩) | ((with_reducible refine gate_callee (f := 12) rfl ?_); refine goesL_ (some 37) rfl rfl Try.func12 (by kernel_rfl) rfl #[.int .i64 a0, .int .i64 a1] rfl (by (try simp only [List.map_toArray, List.map_cons, List.map_nil]); first | done | rfl | (simp only [List.length_drop, List.length_take]; rfl)) ?_; (with_reducible refine (deadboltref01_Fits.calls a0 a1 t117 _ A10.out).mono ?_); rintro e w' ⟨rfl, ⟨nd, rfl⟩⟩; refine ⟨_, rfl, ?_⟩) | (go_at_call 9; (with_reducible refine (deadboltlaw01_alive.calls  t118 _ A12.out).mono ?_); rintro e w' ⟨rfl, ⟨nd, rfl⟩⟩))
      go_meet
      case rel => exact ⟨_, (!t118), (by first | rfl | (simp; done) | (simp [*]; done)), H', ⟨by first | omega | exact Nat.le_refl _⟩, ⟨by repeat (first | (with_reducible first | exact HB.out | apply below_alloc | apply pw_below_drewN | apply below_drew1) | exact HB.out)⟩⟩
  case rest =>
    clear HC7
    try clear c1
    try clear p2
    try clear c5
    try clear c7
    try clear c8
    try clear c10
    try clear c11
    try clear c11b0
    try clear c11b1
    try clear c11b2
    try clear c12
    obtain ⟨kq, x42_6, rfl, HA, HJ6, HB⟩ := hcut
    cases kq with
    | zero => exact absurd HA.out (by simp [deadboltlaw01_WordTells.j0])
    | succ kj6 =>
      have H := HA.out
      clear HA
      simp only [deadboltlaw01_WordTells.j0] at H
      by_cases c13 : x42_6 = true
      · subst c13
        have H1 : (some false) = some r := by rw [if_pos rfl] at H; exact H
        clear H
        have H := H1
        clear H1
        obtain rfl := Option.some.inj H
        go_wp2
        go_ret
        exact ⟨by first | rfl | (simp [errW_none, errW_some] <;> rfl) | (simp [*, errW_none, errW_some] <;> rfl), by repeat (first | (with_reducible first | exact HB.out | apply below_alloc | apply pw_below_drewN | apply below_drew1) | exact HB.out)⟩
      · replace c13 := Bool.eq_false_iff.mpr c13
        subst c13
        have H1 : ((deadboltref01_Fits.f a0 a1).bind fun t119 => (if t119 = true then (if t115 = 0 then ((deadboltref01_Bits.f kj6 a0 a1).bind fun t120 => (if t114.toList = t120.toList then (deadboltlaw01_WordTells.j1 kj6 a0 a1 a2 t110 t111 t112 t113) else (some false))) else (some false)) else (if t115 = 1 then (if t114.toList = ([] : List UInt8) then (deadboltlaw01_WordTells.j1 kj6 a0 a1 a2 t110 t111 t112 t113) else (some false)) else (some false)))) = some r := by rw [if_neg (show ¬ (false = true) by decide)] at H; exact H
        clear H
        have H := H1
        clear H1
        replace H := Option.bind_eq_some_iff.mp H
        obtain ⟨t119, A140, H⟩ := H
        replace H : (if t119 = true then (if t115 = 0 then ((deadboltref01_Bits.f kj6 a0 a1).bind fun t120 => (if t114.toList = t120.toList then (deadboltlaw01_WordTells.j1 kj6 a0 a1 a2 t110 t111 t112 t113) else (some false))) else (some false)) else (if t115 = 1 then (if t114.toList = ([] : List UInt8) then (deadboltlaw01_WordTells.j1 kj6 a0 a1 a2 t110 t111 t112 t113) else (some false)) else (some false))) = some r := H
        have A14 := Aside0.mk A140
        clear A140
        have HC15 := Aside0.mk H
        clear H
        go_upto_if 46 with (first | ((with_reducible refine gate_callee (f := 12) rfl ?_); refine goesL_ (some 45) rfl rfl Try.func12 (by kernel_rfl) rfl #[.int .i64 a0, .int .i64 a1] rfl (by (try simp only [List.map_toArray, List.map_cons, List.map_nil]); first | done | rfl | (simp only [List.length_drop, List.length_take]; rfl)) ?_; (with_reducible refine (deadboltref01_Fits.calls a0 a1 t119 _ A14.out).mono ?_); rintro e w' ⟨rfl, ⟨nd, rfl⟩⟩; refine ⟨_, rfl, ?_⟩))
        (try simp only [Act.put, List.setIfInBounds_toArray, List.set_cons_zero, List.set_cons_succ])
        go_cut [] (fun wc => ∃ (kq : Nat), Aside0 (deadboltlaw01_WordTells.j1 kq a0 a1 a2 t110 t111 t112 t113 = some r) ∧ Aside0 (kq ≤ kj6) ∧ Aside0 (Below w.heap.size w wc))
        case first =>
          have H := HC15.out
          clear HC15
          by_cases c16 : t119 = true
          · subst c16
            have H1 : (if t115 = 0 then ((deadboltref01_Bits.f kj6 a0 a1).bind fun t120 => (if t114.toList = t120.toList then (deadboltlaw01_WordTells.j1 kj6 a0 a1 a2 t110 t111 t112 t113) else (some false))) else (some false)) = some r := by rw [if_pos rfl] at H; exact H
            clear H
            have H := H1
            clear H1
            by_cases c17 : t115 = 0
            · rw [if_pos c17] at H
              have c17b0 : (t115 == 0) = true := beq_iff_eq.mpr c17
              have c17b1 : (t115 != 0) = false := bne_eq_false_iff_eq.mpr c17
              clear c17
              (first | rw [c17b0] | (simp only [i64_w, i32_w]; rw [c17b0]) | skip)
              replace H := Option.bind_eq_some_iff.mp H
              obtain ⟨t120, A180, H⟩ := H
              replace H : (if t114.toList = t120.toList then (deadboltlaw01_WordTells.j1 kj6 a0 a1 a2 t110 t111 t112 t113) else (some false)) = some r := H
              have A18 := Aside0.mk A180
              clear A180
              by_cases c19 : t114.toList = t120.toList
              · rw [if_pos c19] at H
                have c19b0 : (t114.toList == t120.toList) = true := beq_iff_eq.mpr c19
                have c19b1 : (t114.toList != t120.toList) = false := bne_eq_false_iff_eq.mpr c19
                clear c19
                have H' := Aside0.mk H
                clear H
                go_wp2_with (first | (go_at_call 13; (with_reducible refine (deadboltref01_Bits.calls kj6 a0 a1 t120 _ A18.out).mono ?_); rintro e w' ⟨rfl, ⟨nd, rfl⟩⟩))
                go_meet
                case rel => exact ⟨_, H', ⟨by have := HJ6.out; first | omega | exact Nat.le_refl _⟩, ⟨by repeat (first | (with_reducible first | exact HB.out | apply below_alloc | apply pw_below_drewN | apply below_drew1) | exact HB.out)⟩⟩
              · rw [if_neg c19] at H
                have c19b0 : (t114.toList == t120.toList) = false := beq_eq_false_iff_ne.mpr c19
                have c19b1 : (t114.toList != t120.toList) = true := bne_iff_ne.mpr c19
                obtain rfl := Option.some.inj H
                go_wp2_with (first | (go_at_call 13; (with_reducible refine (deadboltref01_Bits.calls kj6 a0 a1 t120 _ A18.out).mono ?_); rintro e w' ⟨rfl, ⟨nd, rfl⟩⟩))
                go_ret
                exact ⟨by first | rfl | (simp [errW_none, errW_some] <;> rfl) | (simp [*, errW_none, errW_some] <;> rfl), by repeat (first | (with_reducible first | exact HB.out | apply below_alloc | apply pw_below_drewN | apply below_drew1) | exact HB.out)⟩
            · rw [if_neg c17] at H
              have c17b0 : (t115 == 0) = false := beq_eq_false_iff_ne.mpr c17
              have c17b1 : (t115 != 0) = true := bne_iff_ne.mpr c17
              (first | rw [c17b0] | (simp only [i64_w, i32_w]; rw [c17b0]) | skip)
              obtain rfl := Option.some.inj H
              go_wp2
              go_ret
              exact ⟨by first | rfl | (simp [errW_none, errW_some] <;> rfl) | (simp [*, errW_none, errW_some] <;> rfl), by repeat (first | (with_reducible first | exact HB.out | apply below_alloc | apply pw_below_drewN | apply below_drew1) | exact HB.out)⟩
          · replace c16 := Bool.eq_false_iff.mpr c16
            subst c16
            have H1 : (if t115 = 1 then (if t114.toList = ([] : List UInt8) then (deadboltlaw01_WordTells.j1 kj6 a0 a1 a2 t110 t111 t112 t113) else (some false)) else (some false)) = some r := by rw [if_neg (show ¬ (false = true) by decide)] at H; exact H
            clear H
            have H := H1
            clear H1
            by_cases c20 : t115 = 1
            · rw [if_pos c20] at H
              have c20b0 : (t115 == 1) = true := beq_iff_eq.mpr c20
              have c20b1 : (t115 != 1) = false := bne_eq_false_iff_eq.mpr c20
              clear c20
              by_cases c21 : t114.toList = ([] : List UInt8)
              · rw [if_pos c21] at H
                have c21b0 : (t114.toList == ([] : List UInt8)) = true := beq_iff_eq.mpr c21
                have c21b1 : (t114.toList != ([] : List UInt8)) = false := bne_eq_false_iff_eq.mpr c21
                clear c21
                have H' := Aside0.mk H
                clear H
                go_wp2
                go_meet
                case rel => exact ⟨_, H', ⟨by have := HJ6.out; first | omega | exact Nat.le_refl _⟩, ⟨by repeat (first | (with_reducible first | exact HB.out | apply below_alloc | apply pw_below_drewN | apply below_drew1) | exact HB.out)⟩⟩
              · rw [if_neg c21] at H
                have c21b0 : (t114.toList == ([] : List UInt8)) = false := beq_eq_false_iff_ne.mpr c21
                have c21b1 : (t114.toList != ([] : List UInt8)) = true := bne_iff_ne.mpr c21
                obtain rfl := Option.some.inj H
                go_wp2
                go_ret
                exact ⟨by first | rfl | (simp [errW_none, errW_some] <;> rfl) | (simp [*, errW_none, errW_some] <;> rfl), by repeat (first | (with_reducible first | exact HB.out | apply below_alloc | apply pw_below_drewN | apply below_drew1) | exact HB.out)⟩
            · rw [if_neg c20] at H
              have c20b0 : (t115 == 1) = false := beq_eq_false_iff_ne.mpr c20
              have c20b1 : (t115 != 1) = true := bne_iff_ne.mpr c20
              obtain rfl := Option.some.inj H
              go_wp2
              go_ret
              exact ⟨by first | rfl | (simp [errW_none, errW_some] <;> rfl) | (simp [*, errW_none, errW_some] <;> rfl), by repeat (first | (with_reducible first | exact HB.out | apply below_alloc | apply pw_below_drewN | apply below_drew1) | exact HB.out)⟩
        case rest =>
          clear HC15
          try clear c1
          try clear c2
          try clear p2
          try clear c5
          try clear c7
          try clear c8
          try clear c10
          try clear c11
          try clear c11b0
          try clear c11b1
          try clear c11b2
          try clear c12
          try clear c13
          try clear c16
          try clear c17
          try clear c17b0
          try clear c17b1
          try clear c19
          try clear c19b0
          try clear c19b1
          try clear c20
          try clear c20b0
          try clear c20b1
          try clear c21
          try clear c21b0
          try clear c21b1
          try clear p2
          obtain ⟨kq, HA, HJ14, HB⟩ := hcut
          cases kq with
          | zero => exact absurd HA.out (by simp [deadboltlaw01_WordTells.j1])
          | succ kj14 =>
            have H := HA.out
            clear HA
            simp only [deadboltlaw01_WordTells.j1] at H
            replace H := Option.bind_eq_some_iff.mp H
            obtain ⟨t121, A220, H⟩ := H
            replace H : (if t121 = true then (if t111 = 0 then (if t113 = 0 then ((deadboltref01_Wrap.f a0 a1).bind fun t122 => (if t110 = t122 then ((deadboltref01_Add.f a0 a1 a2).bind fun t123 => (some (t112 == t123))) else (some false))) else (some false)) else (some false)) else (if t111 = 1 then (if t113 = 1 then (if t110 = 0 then (some (t112 == 0)) else (some false)) else (some false)) else (some false))) = some r := H
            have A22 := Aside0.mk A220
            clear A220
            by_cases c23 : t121 = true
            · subst c23
              have H1 : (if t111 = 0 then (if t113 = 0 then ((deadboltref01_Wrap.f a0 a1).bind fun t122 => (if t110 = t122 then ((deadboltref01_Add.f a0 a1 a2).bind fun t123 => (some (t112 == t123))) else (some false))) else (some false)) else (some false)) = some r := by rw [if_pos rfl] at H; exact H
              clear H
              have H := H1
              clear H1
              by_cases c24 : t111 = 0
              · rw [if_pos c24] at H
                have c24b0 : (t111 == 0) = true := beq_iff_eq.mpr c24
                have c24b1 : (t111 != 0) = false := bne_eq_false_iff_eq.mpr c24
                clear c24
                by_cases c25 : t113 = 0
                · rw [if_pos c25] at H
                  have c25b0 : (t113 == 0) = true := beq_iff_eq.mpr c25
                  have c25b1 : (t113 != 0) = false := bne_eq_false_iff_eq.mpr c25
                  clear c25
                  replace H := Option.bind_eq_some_iff.mp H
                  obtain ⟨t122, A260, H⟩ := H
                  replace H : (if t110 = t122 then ((deadboltref01_Add.f a0 a1 a2).bind fun t123 => (some (t112 == t123))) else (some false)) = some r := H
                  have A26 := Aside0.mk A260
                  clear A260
                  by_cases c27 : t110 = t122
                  · rw [if_pos c27] at H
                    have c27b0 : (t110 == t122) = true := beq_iff_eq.mpr c27
                    have c27b1 : (t110 != t122) = false := bne_eq_false_iff_eq.mpr c27
                    clear c27
                    replace H := Option.bind_eq_some_iff.mp H
                    obtain ⟨t123, A280, H⟩ := H
                    replace H : (some (t112 == t123)) = some r := H
                    have A28 := Aside0.mk A280
                    clear A280
                    obtain rfl := Option.some.inj H
                    go_wp2_with (first | ((with_reducible refine gate_callee (f := 14) rfl ?_); refine goesL_ (some 63) rfl rfl Try.func14 (by kernel_rfl) rfl #[.int .i64 a0] rfl (by (try simp only [List.map_toArray, List.map_cons, List.map_nil]); first | done | rfl | (simp only [List.length_drop, List.length_take]; rfl)) ?_; (with_reducible refine (deadboltref01_Kind.calls a0 true _ A22.out).mono ?_); rintro e w' ⟨rfl, ⟨nd, rfl⟩⟩; refine ⟨_, rfl, ?_⟩) | (go_at_call 15; (with_reducible refine (deadboltref01_Wrap.calls a0 a1 t122 _ A26.out).mono ?_); rintro e w' ⟨rfl, ⟨nd, rfl⟩⟩) | (go_at_call 16; (with_reducible refine (deadboltref01_Add.calls a0 a1 a2 t123 _ A28.out).mono ?_); rintro e w' ⟨rfl, ⟨nd, rfl⟩⟩))
                    go_ret
                    exact ⟨by first | rfl | (simp [errW_none, errW_some] <;> rfl) | (simp [*, errW_none, errW_some] <;> rfl), by repeat (first | (with_reducible first | exact HB.out | apply below_alloc | apply pw_below_drewN | apply below_drew1) | exact HB.out)⟩
                  · rw [if_neg c27] at H
                    have c27b0 : (t110 == t122) = false := beq_eq_false_iff_ne.mpr c27
                    have c27b1 : (t110 != t122) = true := bne_iff_ne.mpr c27
                    obtain rfl := Option.some.inj H
                    go_wp2_with (first | ((with_reducible refine gate_callee (f := 14) rfl ?_); refine goesL_ (some 63) rfl rfl Try.func14 (by kernel_rfl) rfl #[.int .i64 a0] rfl (by (try simp only [List.map_toArray, List.map_cons, List.map_nil]); first | done | rfl | (simp only [List.length_drop, List.length_take]; rfl)) ?_; (with_reducible refine (deadboltref01_Kind.calls a0 true _ A22.out).mono ?_); rintro e w' ⟨rfl, ⟨nd, rfl⟩⟩; refine ⟨_, rfl, ?_⟩) | (go_at_call 15; (with_reducible refine (deadboltref01_Wrap.calls a0 a1 t122 _ A26.out).mono ?_); rintro e w' ⟨rfl, ⟨nd, rfl⟩⟩))
                    go_ret
                    exact ⟨by first | rfl | (simp [errW_none, errW_some] <;> rfl) | (simp [*, errW_none, errW_some] <;> rfl), by repeat (first | (with_reducible first | exact HB.out | apply below_alloc | apply pw_below_drewN | apply below_drew1) | exact HB.out)⟩
                · rw [if_neg c25] at H
                  have c25b0 : (t113 == 0) = false := beq_eq_false_iff_ne.mpr c25
                  have c25b1 : (t113 != 0) = true := bne_iff_ne.mpr c25
                  obtain rfl := Option.some.inj H
                  go_wp2_with (first | ((with_reducible refine gate_callee (f := 14) rfl ?_); refine goesL_ (some 63) rfl rfl Try.func14 (by kernel_rfl) rfl #[.int .i64 a0] rfl (by (try simp only [List.map_toArray, List.map_cons, List.map_nil]); first | done | rfl | (simp only [List.length_drop, List.length_take]; rfl)) ?_; (with_reducible refine (deadboltref01_Kind.calls a0 true _ A22.out).mono ?_); rintro e w' ⟨rfl, ⟨nd, rfl⟩⟩; refine ⟨_, rfl, ?_⟩))
                  go_ret
                  exact ⟨by first | rfl | (simp [errW_none, errW_some] <;> rfl) | (simp [*, errW_none, errW_some] <;> rfl), by repeat (first | (with_reducible first | exact HB.out | apply below_alloc | apply pw_below_drewN | apply below_drew1) | exact HB.out)⟩
              · rw [if_neg c24] at H
                have c24b0 : (t111 == 0) = false := beq_eq_false_iff_ne.mpr c24
                have c24b1 : (t111 != 0) = true := bne_iff_ne.mpr c24
                obtain rfl := Option.some.inj H
                go_wp2_with (first | ((with_reducible refine gate_callee (f := 14) rfl ?_); refine goesL_ (some 63) rfl rfl Try.func14 (by kernel_rfl) rfl #[.int .i64 a0] rfl (by (try simp only [List.map_toArray, List.map_cons, List.map_nil]); first | done | rfl | (simp only [List.length_drop, List.length_take]; rfl)) ?_; (with_reducible refine (deadboltref01_Kind.calls a0 true _ A22.out).mono ?_); rintro e w' ⟨rfl, ⟨nd, rfl⟩⟩; refine ⟨_, rfl, ?_⟩))
                go_ret
                exact ⟨by first | rfl | (simp [errW_none, errW_some] <;> rfl) | (simp [*, errW_none, errW_some] <;> rfl), by repeat (first | (with_reducible first | exact HB.out | apply below_alloc | apply pw_below_drewN | apply below_drew1) | exact HB.out)⟩
            · replace c23 := Bool.eq_false_iff.mpr c23
              subst c23
              have H1 : (if t111 = 1 then (if t113 = 1 then (if t110 = 0 then (some (t112 == 0)) else (some false)) else (some false)) else (some false)) = some r := by rw [if_neg (show ¬ (false = true) by decide)] at H; exact H
              clear H
              have H := H1
              clear H1
              by_cases c29 : t111 = 1
              · rw [if_pos c29] at H
                have c29b0 : (t111 == 1) = true := beq_iff_eq.mpr c29
                have c29b1 : (t111 != 1) = false := bne_eq_false_iff_eq.mpr c29
                clear c29
                by_cases c30 : t113 = 1
                · rw [if_pos c30] at H
                  have c30b0 : (t113 == 1) = true := beq_iff_eq.mpr c30
                  have c30b1 : (t113 != 1) = false := bne_eq_false_iff_eq.mpr c30
                  clear c30
                  by_cases c31 : t110 = 0
                  · rw [if_pos c31] at H
                    have c31b0 : (t110 == 0) = true := beq_iff_eq.mpr c31
                    have c31b1 : (t110 != 0) = false := bne_eq_false_iff_eq.mpr c31
                    clear c31
                    obtain rfl := Option.some.inj H
                    go_wp2_with (first | ((with_reducible refine gate_callee (f := 14) rfl ?_); refine goesL_ (some 63) rfl rfl Try.func14 (by kernel_rfl) rfl #[.int .i64 a0] rfl (by (try simp only [List.map_toArray, List.map_cons, List.map_nil]); first | done | rfl | (simp only [List.length_drop, List.length_take]; rfl)) ?_; (with_reducible refine (deadboltref01_Kind.calls a0 false _ A22.out).mono ?_); rintro e w' ⟨rfl, ⟨nd, rfl⟩⟩; refine ⟨_, rfl, ?_⟩))
                    go_ret
                    exact ⟨by first | rfl | (simp [errW_none, errW_some] <;> rfl) | (simp [*, errW_none, errW_some] <;> rfl), by repeat (first | (with_reducible first | exact HB.out | apply below_alloc | apply pw_below_drewN | apply below_drew1) | exact HB.out)⟩
                  · rw [if_neg c31] at H
                    have c31b0 : (t110 == 0) = false := beq_eq_false_iff_ne.mpr c31
                    have c31b1 : (t110 != 0) = true := bne_iff_ne.mpr c31
                    obtain rfl := Option.some.inj H
                    go_wp2_with (first | ((with_reducible refine gate_callee (f := 14) rfl ?_); refine goesL_ (some 63) rfl rfl Try.func14 (by kernel_rfl) rfl #[.int .i64 a0] rfl (by (try simp only [List.map_toArray, List.map_cons, List.map_nil]); first | done | rfl | (simp only [List.length_drop, List.length_take]; rfl)) ?_; (with_reducible refine (deadboltref01_Kind.calls a0 false _ A22.out).mono ?_); rintro e w' ⟨rfl, ⟨nd, rfl⟩⟩; refine ⟨_, rfl, ?_⟩))
                    go_ret
                    exact ⟨by first | rfl | (simp [errW_none, errW_some] <;> rfl) | (simp [*, errW_none, errW_some] <;> rfl), by repeat (first | (with_reducible first | exact HB.out | apply below_alloc | apply pw_below_drewN | apply below_drew1) | exact HB.out)⟩
                · rw [if_neg c30] at H
                  have c30b0 : (t113 == 1) = false := beq_eq_false_iff_ne.mpr c30
                  have c30b1 : (t113 != 1) = true := bne_iff_ne.mpr c30
                  obtain rfl := Option.some.inj H
                  go_wp2_with (first | ((with_reducible refine gate_callee (f := 14) rfl ?_); refine goesL_ (some 63) rfl rfl Try.func14 (by kernel_rfl) rfl #[.int .i64 a0] rfl (by (try simp only [List.map_toArray, List.map_cons, List.map_nil]); first | done | rfl | (simp only [List.length_drop, List.length_take]; rfl)) ?_; (with_reducible refine (deadboltref01_Kind.calls a0 false _ A22.out).mono ?_); rintro e w' ⟨rfl, ⟨nd, rfl⟩⟩; refine ⟨_, rfl, ?_⟩))
                  go_ret
                  exact ⟨by first | rfl | (simp [errW_none, errW_some] <;> rfl) | (simp [*, errW_none, errW_some] <;> rfl), by repeat (first | (with_reducible first | exact HB.out | apply below_alloc | apply pw_below_drewN | apply below_drew1) | exact HB.out)⟩
              · rw [if_neg c29] at H
                have c29b0 : (t111 == 1) = false := beq_eq_false_iff_ne.mpr c29
                have c29b1 : (t111 != 1) = true := bne_iff_ne.mpr c29
                obtain rfl := Option.some.inj H
                go_wp2_with (first | ((with_reducible refine gate_callee (f := 14) rfl ?_); refine goesL_ (some 63) rfl rfl Try.func14 (by kernel_rfl) rfl #[.int .i64 a0] rfl (by (try simp only [List.map_toArray, List.map_cons, List.map_nil]); first | done | rfl | (simp only [List.length_drop, List.length_take]; rfl)) ?_; (with_reducible refine (deadboltref01_Kind.calls a0 false _ A22.out).mono ?_); rintro e w' ⟨rfl, ⟨nd, rfl⟩⟩; refine ⟨_, rfl, ?_⟩))
                go_ret
                exact ⟨by first | rfl | (simp [errW_none, errW_some] <;> rfl) | (simp [*, errW_none, errW_some] <;> rfl), by repeat (first | (with_reducible first | exact HB.out | apply below_alloc | apply pw_below_drewN | apply below_drew1) | exact HB.out)⟩

/-- THE ONE PURE STATEMENT of deadboltlaw01_WordTells: yours. -/
def deadboltlaw01_WordTells.Pure : Prop := ∀ (a0 : Int) (a1 : Int) (a2 : Int), (Lit.int .i64 a0).wf = true → (Lit.int .i64 a1).wf = true → (Lit.int .i64 a2).wf = true → ∃ k, deadboltlaw01_WordTells.f k a0 a1 a2 = some true
theorem deadboltlaw01_WordTells.walk (P : deadboltlaw01_WordTells.Pure) (a0 : Int) (a1 : Int) (a2 : Int) (w : World) (w0 : (Lit.int .i64 a0).wf = true) (w1 : (Lit.int .i64 a1).wf = true) (w2 : (Lit.int .i64 a2).wf = true) :
    Calls Try.prog 5 #[.int .i64 a0, .int .i64 a1, .int .i64 a2] w fun e w' => e = .returned (.bool true) ∧ Below w.heap.size w w' := by
  obtain ⟨k, h⟩ := P a0 a1 a2 w0 w1 w2
  refine (deadboltlaw01_WordTells.calls k a0 a1 a2 true w h).mono ?_
  rintro e w' ⟨rfl, hd⟩
  exact ⟨rfl, hd⟩

end Go.Proofs.Ytdflcfdpkakboaa.PWordTells
