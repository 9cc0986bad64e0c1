/- The functions that a law reaches, as Lean functions, and for each a proof that the call hands back just what its Lean function says; no conditions beyond each statement. Written by a program of this session (a changed copy of the print). -/
import Derived.Test.YtiejbkplnbefkaaDoorPFlagsApartx0
import Derived.Test.YtiejbkplnbefkaaDoorPFlagsApartx1
namespace Go.Proofs.YtiejbkplnbefkaaDoor.PFlagsApart
open Go.Proofs.YtiejbkplnbefkaaDoor.Hand
open Go.RowKit Go.Proofs.YtiejbkplnbefkaaDoorW.PrintWords Go.Proofs.YtiejbkplnbefkaaDoorW.PrintLast Go.Proofs.YtiejbkplnbefkaaDoorW.PrintMore
attribute [local go_sem] max2_int min2_int max_two min_two max_three min_three max_four min_four   -- for this text's walks alone
set_option linter.unusedVariables false
set_option linter.unusedSimpArgs false

attribute [local go_sem high] eqA23
/-! ### flags_isWord: function 20 -/
def flags_isWord.f (a0 : Int) : Option (Bool) := if a0 ≥ 0 then (some (decide ((a0 / 8) ≤ 268435455))) else (some false)
set_option maxHeartbeats 8000000 in
set_option maxRecDepth 100000 in
theorem flags_isWord.calls (a0 : Int) (r : Bool) (w : World) (h : flags_isWord.f a0 = some r) :
    Calls Tryd.prog 20 #[.int .i64 a0] w fun e w' => e = .returned (.bool r) ∧ Drawn0 w w' := by
  have H : (if a0 ≥ 0 then (some (decide ((a0 / 8) ≤ 268435455))) else (some false)) = some r := h
  clear h
  by_cases c2 : a0 ≥ 0
  · rw [if_pos c2] at H
    have c2b0 : decide (0 ≤ a0) = true := decide_eq_true c2
    clear c2
    obtain rfl := Option.some.inj H
    go_enter Tryd.func20, Tryd.ntmps20
    go_wp2
    go_ret
    exact ⟨by first | rfl | (simp; done) | (simp [*]; done), by repeat (first | exact Drawn0.refl _ | apply Drawn0.step)⟩
  · rw [if_neg c2] at H
    have c2b0 : decide (0 ≤ a0) = false := decide_eq_false c2
    clear c2
    obtain rfl := Option.some.inj H
    go_enter Tryd.func20, Tryd.ntmps20
    go_wp2
    go_ret
    exact ⟨by first | rfl | (simp; done) | (simp [*]; done), by repeat (first | exact Drawn0.refl _ | apply Drawn0.step)⟩


/-! ### flags_Unpack: function 7 (by hand) -/


-- NOT PRINTED: function 36 (strconv_small)

-- NOT PRINTED: function 43 (strconv_log10Pow2)

-- NOT PRINTED: function 44 (bits_Len64)

-- NOT PRINTED: function 45 (strconv_bool2_int)

-- NOT PRINTED: function 37 (strconv_numDigits)

-- NOT PRINTED: function 38 (strconv_formatBase10)

-- NOT PRINTED: function 46 (strconv_isPowerOfTwo)

-- NOT PRINTED: function 50 (bits_TrailingZeros32)

-- NOT PRINTED: function 51 (bits_TrailingZeros64)

-- NOT PRINTED: function 47 (bits_TrailingZeros)

-- NOT PRINTED: function 39 (strconv_formatBits)

-- NOT PRINTED: function 30 (strconv_FormatInt)

-- NOT PRINTED: function 27 (strconv_Itoa_27)

-- NOT PRINTED: function 22 (strconv_Itoa_22)


/-! ### flags_Text: function 8 (by hand) -/



/-! ### flags_Pack: function 9 (by hand) -/


/-! ### deadboltlaw03_alive: function 10 -/
def deadboltlaw03_alive.f  : Option (Bool) := (flags_Text.f 29).bind fun bt101 => (if bt101.2 = 0 then (some (bt101.1.toList == ([76, 45, 83, 51] : List UInt8))) else (some false))
set_option maxHeartbeats 8000000 in
set_option maxRecDepth 100000 in
theorem deadboltlaw03_alive.calls  (r : Bool) (w : World) (h : deadboltlaw03_alive.f  = some r) (hT : Tabs w) :
    Calls Tryd.prog 10 #[] w fun e w' => e = .returned (.bool r) ∧ Below w.heap.size w w' := by
  have HT := Aside0.mk hT
  clear hT
  have HB := Aside0.mk (Below.refl w.heap.size w)
  have H : ((flags_Text.f 29).bind fun bt101 => (if bt101.2 = 0 then (some (bt101.1.toList == ([76, 45, 83, 51] : List UInt8))) else (some false))) = some r := h
  clear h
  replace H := Option.bind_eq_some_iff.mp H
  obtain ⟨⟨t101, t102⟩, A10, H⟩ := H
  replace H : (if t102 = 0 then (some (t101.toList == ([76, 45, 83, 51] : List UInt8))) else (some false)) = some r := H
  have A1 := Aside0.mk A10
  clear A10
  by_cases c2 : t102 = 0
  · rw [if_pos c2] at H
    have c2b0 : (t102 == 0) = true := beq_iff_eq.mpr c2
    have c2b1 : (t102 != 0) = false := bne_eq_false_iff_eq.mpr c2
    clear c2
    obtain rfl := Option.some.inj H
    go_enter Tryd.func10, Tryd.ntmps10
    go_wp2_with (first | ((with_reducible refine gate_callee (f := 8) rfl ?_); refine goesL_ (some 4) rfl rfl Tryd.func8 (by kernel_rfl) rfl #[.int .i64 29] rfl (by (try simp only [List.map_toArray, List.map_cons, List.map_nil]); first | done | rfl | (simp only [List.length_drop, List.length_take]; rfl)) ?_; (with_reducible refine (flags_Text.calls 29 t101 t102 _ A1.out (by first | exact HT.out | (with_reducible refine Tabs.below HT.out ?_; repeat (first | (with_reducible first | exact HB.out | apply below_alloc | apply pw_below_drewN | apply below_drew1 | refine below_set ?_ (Aside0.out (by assumption))) | exact HB.out)) | (exact Tabs.below HT.out (by repeat (first | exact HB.out | exact Below.refl _ _ | apply below_alloc | apply pw_below_drewN | apply below_drew1 | refine below_set ?_ (Aside0.out (by assumption))))))).mono ?_); rintro e w3 ⟨rfl, hb⟩; refine ⟨_, rfl, ?_⟩; have n0_ := Aside0.mk (below_step (by repeat (first | (with_reducible first | exact HB.out | apply below_alloc | apply pw_below_drewN | apply below_drew1) | exact HB.out)) hb); clear HB; have HB := n0_; clear n0_; (try clear hb); (try clear hb2); (try clear hk); (try clear hi)))
    go_ret
    exact ⟨by first | rfl | (simp [errW_none, errW_some] <;> rfl) | (simp [*, errW_none, errW_some] <;> rfl), by repeat (first | (with_reducible first | exact HB.out | apply below_alloc | apply pw_below_drewN | apply below_drew1) | exact HB.out)⟩
  · rw [if_neg c2] at H
    have c2b0 : (t102 == 0) = false := beq_eq_false_iff_ne.mpr c2
    have c2b1 : (t102 != 0) = true := bne_iff_ne.mpr c2
    obtain rfl := Option.some.inj H
    go_enter Tryd.func10, Tryd.ntmps10
    go_wp2_with (first | ((with_reducible refine gate_callee (f := 8) rfl ?_); refine goesL_ (some 4) rfl rfl Tryd.func8 (by kernel_rfl) rfl #[.int .i64 29] rfl (by (try simp only [List.map_toArray, List.map_cons, List.map_nil]); first | done | rfl | (simp only [List.length_drop, List.length_take]; rfl)) ?_; (with_reducible refine (flags_Text.calls 29 t101 t102 _ A1.out (by first | exact HT.out | (with_reducible refine Tabs.below HT.out ?_; repeat (first | (with_reducible first | exact HB.out | apply below_alloc | apply pw_below_drewN | apply below_drew1 | refine below_set ?_ (Aside0.out (by assumption))) | exact HB.out)) | (exact Tabs.below HT.out (by repeat (first | exact HB.out | exact Below.refl _ _ | apply below_alloc | apply pw_below_drewN | apply below_drew1 | refine below_set ?_ (Aside0.out (by assumption))))))).mono ?_); rintro e w4 ⟨rfl, hb⟩; refine ⟨_, rfl, ?_⟩; have n0_ := Aside0.mk (below_step (by repeat (first | (with_reducible first | exact HB.out | apply below_alloc | apply pw_below_drewN | apply below_drew1) | exact HB.out)) hb); clear HB; have HB := n0_; clear n0_; (try clear hb); (try clear hb2); (try clear hk); (try clear hi)))
    go_ret
    exact ⟨by first | rfl | (simp [errW_none, errW_some] <;> rfl) | (simp [*, errW_none, errW_some] <;> rfl), by repeat (first | (with_reducible first | exact HB.out | apply below_alloc | apply pw_below_drewN | apply below_drew1) | exact HB.out)⟩

/-! ### deadboltlaw03_FlagsApart: function 3 -/
def deadboltlaw03_FlagsApart.j0 : Nat → Bool → Bool → Bool → Bool → Int → Bool → Bool → Bool → Int → Option (Bool)
  | 0, _, _, _, _, _, _, _, _, _ => none
  | k + 1, x72, x104000, x104001, x104002, x104003, x105000, x105001, x105002, x105003 => if x72 = true then (some false) else ((flags_Pack.f x104000 x104001 x104002 x104003).bind fun bt121 => ((flags_Pack.f x105000 x105001 x105002 x105003).bind fun bt123 => ((deadboltlaw03_alive.f).bind fun t125 => (if t125 = true then (if bt121.2 = 0 then (if bt123.2 = 0 then (some ((bt121.1 == bt123.1) == (x104000 == x105000 && (x104001 == x105001 && (x104002 == x105002 && (x104003 == x105003)))))) else (some true)) else (some true)) else (some false)))))
def deadboltlaw03_FlagsApart.f (k : Nat) (a0 : Int) (a1 : Int) (a2_0 : Bool) (a2_1 : Bool) (a2_2 : Bool) (a2_3 : Int) (a3_0 : Bool) (a3_1 : Bool) (a3_2 : Bool) (a3_3 : Int) : Option (Bool) := (flags_Unpack.f a0).bind fun bt105 => ((flags_Unpack.f a1).bind fun bt111 => ((flags_Text.f a0).bind fun bt117 => ((flags_Text.f a1).bind fun bt119 => (if bt105.2.2.2.2 = 0 then (if bt111.2.2.2.2 = 0 then (if bt117.2 = 0 then (if bt119.2 = 0 then (if ((bt105.1 == bt111.1 && (bt105.2.1 == bt111.2.1 && (bt105.2.2.1 == bt111.2.2.1 && (bt105.2.2.2.1 == bt111.2.2.2.1)))) != (a0 == a1)) = true then (deadboltlaw03_FlagsApart.j0 k true a2_0 a2_1 a2_2 a2_3 a3_0 a3_1 a3_2 a3_3) else (deadboltlaw03_FlagsApart.j0 k ((bt117.1.toList == bt119.1.toList) != (a0 == a1)) a2_0 a2_1 a2_2 a2_3 a3_0 a3_1 a3_2 a3_3)) else (deadboltlaw03_FlagsApart.j0 k true a2_0 a2_1 a2_2 a2_3 a3_0 a3_1 a3_2 a3_3)) else (deadboltlaw03_FlagsApart.j0 k true a2_0 a2_1 a2_2 a2_3 a3_0 a3_1 a3_2 a3_3)) else (deadboltlaw03_FlagsApart.j0 k false a2_0 a2_1 a2_2 a2_3 a3_0 a3_1 a3_2 a3_3)) else (deadboltlaw03_FlagsApart.j0 k false a2_0 a2_1 a2_2 a2_3 a3_0 a3_1 a3_2 a3_3)))))
theorem deadboltlaw03_FlagsApart.mono_l : ∀ k, (∀ y0 y1 y2 y3 y4 y5 y6 y7 y8, LeO (deadboltlaw03_FlagsApart.j0 k y0 y1 y2 y3 y4 y5 y6 y7 y8) (deadboltlaw03_FlagsApart.j0 (k + 1) y0 y1 y2 y3 y4 y5 y6 y7 y8))
  | 0 => fun _ _ _ _ _ _ _ _ _ r h => by simp [deadboltlaw03_FlagsApart.j0] at h
  | k + 1 => by
    have ih0 := deadboltlaw03_FlagsApart.mono_l k
    · intro y0 y1 y2 y3 y4 y5 y6 y7 y8
      unfold deadboltlaw03_FlagsApart.j0
      repeat' first
      | (with_reducible exact ih0 _ _ _ _ _ _ _ _ _)
      | (with_reducible exact LeO.refl _)
      | (with_reducible exact LeO.none _)
      | (with_reducible refine LeO.ite ?_ ?_)
      | (with_reducible refine LeO.bind ?_ (fun _ => ?_))
      | exact ih0 _ _ _ _ _ _ _ _ _
      | exact LeO.none _
      | refine LeO.ite ?_ ?_
      | refine LeO.bind ?_ (fun _ => ?_)
theorem deadboltlaw03_FlagsApart.mono : ∀ a0 a1 a2 a3 a4 a5 a6 a7 a8 a9 k, LeO (deadboltlaw03_FlagsApart.f k a0 a1 a2 a3 a4 a5 a6 a7 a8 a9) (deadboltlaw03_FlagsApart.f (k + 1) a0 a1 a2 a3 a4 a5 a6 a7 a8 a9) := by
  intro a0 a1 a2 a3 a4 a5 a6 a7 a8 a9 k
  have ih0 := deadboltlaw03_FlagsApart.mono_l k
  unfold deadboltlaw03_FlagsApart.f
  repeat' first
      | (with_reducible exact ih0 _ _ _ _ _ _ _ _ _)
      | (with_reducible exact LeO.refl _)
      | (with_reducible exact LeO.none _)
      | (with_reducible refine LeO.ite ?_ ?_)
      | (with_reducible refine LeO.bind ?_ (fun _ => ?_))
      | exact ih0 _ _ _ _ _ _ _ _ _
      | exact LeO.none _
      | refine LeO.ite ?_ ?_
      | refine LeO.bind ?_ (fun _ => ?_)
set_option maxHeartbeats 8000000 in
set_option maxRecDepth 100000 in
theorem deadboltlaw03_FlagsApart.calls (k : Nat) (a0 : Int) (a1 : Int) (a2_0 : Bool) (a2_1 : Bool) (a2_2 : Bool) (a2_3 : Int) (a3_0 : Bool) (a3_1 : Bool) (a3_2 : Bool) (a3_3 : Int) (r : Bool) (w : World) (h : deadboltlaw03_FlagsApart.f k a0 a1 a2_0 a2_1 a2_2 a2_3 a3_0 a3_1 a3_2 a3_3 = some r) (hT : Tabs w) :
    Calls Tryd.prog 3 #[.int .i64 a0, .int .i64 a1, .agg #[.bool a2_0, .bool a2_1, .bool a2_2, .int .i64 a2_3], .agg #[.bool a3_0, .bool a3_1, .bool a3_2, .int .i64 a3_3]] w fun e w' => e = .returned (.bool r) ∧ Below w.heap.size w w' := by
  have HT := Aside0.mk hT
  clear hT
  have hu23 := Tryd.underlying23
  have HB := Aside0.mk (Below.refl w.heap.size w)
  have H : ((flags_Unpack.f a0).bind fun bt105 => ((flags_Unpack.f a1).bind fun bt111 => ((flags_Text.f a0).bind fun bt117 => ((flags_Text.f a1).bind fun bt119 => (if bt105.2.2.2.2 = 0 then (if bt111.2.2.2.2 = 0 then (if bt117.2 = 0 then (if bt119.2 = 0 then (if ((bt105.1 == bt111.1 && (bt105.2.1 == bt111.2.1 && (bt105.2.2.1 == bt111.2.2.1 && (bt105.2.2.2.1 == bt111.2.2.2.1)))) != (a0 == a1)) = true then (deadboltlaw03_FlagsApart.j0 k true a2_0 a2_1 a2_2 a2_3 a3_0 a3_1 a3_2 a3_3) else (deadboltlaw03_FlagsApart.j0 k ((bt117.1.toList == bt119.1.toList) != (a0 == a1)) a2_0 a2_1 a2_2 a2_3 a3_0 a3_1 a3_2 a3_3)) else (deadboltlaw03_FlagsApart.j0 k true a2_0 a2_1 a2_2 a2_3 a3_0 a3_1 a3_2 a3_3)) else (deadboltlaw03_FlagsApart.j0 k true a2_0 a2_1 a2_2 a2_3 a3_0 a3_1 a3_2 a3_3)) else (deadboltlaw03_FlagsApart.j0 k false a2_0 a2_1 a2_2 a2_3 a3_0 a3_1 a3_2 a3_3)) else (deadboltlaw03_FlagsApart.j0 k false a2_0 a2_1 a2_2 a2_3 a3_0 a3_1 a3_2 a3_3)))))) = some r := h
  clear h
  replace H := Option.bind_eq_some_iff.mp H
  obtain ⟨⟨t105, t106, t107, t108, t109⟩, A50, H⟩ := H
  replace H : ((flags_Unpack.f a1).bind fun bt111 => ((flags_Text.f a0).bind fun bt117 => ((flags_Text.f a1).bind fun bt119 => (if t109 = 0 then (if bt111.2.2.2.2 = 0 then (if bt117.2 = 0 then (if bt119.2 = 0 then (if ((t105 == bt111.1 && (t106 == bt111.2.1 && (t107 == bt111.2.2.1 && (t108 == bt111.2.2.2.1)))) != (a0 == a1)) = true then (deadboltlaw03_FlagsApart.j0 k true a2_0 a2_1 a2_2 a2_3 a3_0 a3_1 a3_2 a3_3) else (deadboltlaw03_FlagsApart.j0 k ((bt117.1.toList == bt119.1.toList) != (a0 == a1)) a2_0 a2_1 a2_2 a2_3 a3_0 a3_1 a3_2 a3_3)) else (deadboltlaw03_FlagsApart.j0 k true a2_0 a2_1 a2_2 a2_3 a3_0 a3_1 a3_2 a3_3)) else (deadboltlaw03_FlagsApart.j0 k true a2_0 a2_1 a2_2 a2_3 a3_0 a3_1 a3_2 a3_3)) else (deadboltlaw03_FlagsApart.j0 k false a2_0 a2_1 a2_2 a2_3 a3_0 a3_1 a3_2 a3_3)) else (deadboltlaw03_FlagsApart.j0 k false a2_0 a2_1 a2_2 a2_3 a3_0 a3_1 a3_2 a3_3))))) = some r := H
  have A5 := Aside0.mk A50
  clear A50
  replace H := Option.bind_eq_some_iff.mp H
  obtain ⟨⟨t111, t112, t113, t114, t115⟩, A60, H⟩ := H
  replace H : ((flags_Text.f a0).bind fun bt117 => ((flags_Text.f a1).bind fun bt119 => (if t109 = 0 then (if t115 = 0 then (if bt117.2 = 0 then (if bt119.2 = 0 then (if ((t105 == t111 && (t106 == t112 && (t107 == t113 && (t108 == t114)))) != (a0 == a1)) = true then (deadboltlaw03_FlagsApart.j0 k true a2_0 a2_1 a2_2 a2_3 a3_0 a3_1 a3_2 a3_3) else (deadboltlaw03_FlagsApart.j0 k ((bt117.1.toList == bt119.1.toList) != (a0 == a1)) a2_0 a2_1 a2_2 a2_3 a3_0 a3_1 a3_2 a3_3)) else (deadboltlaw03_FlagsApart.j0 k true a2_0 a2_1 a2_2 a2_3 a3_0 a3_1 a3_2 a3_3)) else (deadboltlaw03_FlagsApart.j0 k true a2_0 a2_1 a2_2 a2_3 a3_0 a3_1 a3_2 a3_3)) else (deadboltlaw03_FlagsApart.j0 k false a2_0 a2_1 a2_2 a2_3 a3_0 a3_1 a3_2 a3_3)) else (deadboltlaw03_FlagsApart.j0 k false a2_0 a2_1 a2_2 a2_3 a3_0 a3_1 a3_2 a3_3)))) = some r := H
  have A6 := Aside0.mk A60
  clear A60
  replace H := Option.bind_eq_some_iff.mp H
  obtain ⟨⟨t117, t118⟩, A70, H⟩ := H
  replace H : ((flags_Text.f a1).bind fun bt119 => (if t109 = 0 then (if t115 = 0 then (if t118 = 0 then (if bt119.2 = 0 then (if ((t105 == t111 && (t106 == t112 && (t107 == t113 && (t108 == t114)))) != (a0 == a1)) = true then (deadboltlaw03_FlagsApart.j0 k true a2_0 a2_1 a2_2 a2_3 a3_0 a3_1 a3_2 a3_3) else (deadboltlaw03_FlagsApart.j0 k ((t117.toList == bt119.1.toList) != (a0 == a1)) a2_0 a2_1 a2_2 a2_3 a3_0 a3_1 a3_2 a3_3)) else (deadboltlaw03_FlagsApart.j0 k true a2_0 a2_1 a2_2 a2_3 a3_0 a3_1 a3_2 a3_3)) else (deadboltlaw03_FlagsApart.j0 k true a2_0 a2_1 a2_2 a2_3 a3_0 a3_1 a3_2 a3_3)) else (deadboltlaw03_FlagsApart.j0 k false a2_0 a2_1 a2_2 a2_3 a3_0 a3_1 a3_2 a3_3)) else (deadboltlaw03_FlagsApart.j0 k false a2_0 a2_1 a2_2 a2_3 a3_0 a3_1 a3_2 a3_3))) = some r := H
  have A7 := Aside0.mk A70
  clear A70
  replace H := Option.bind_eq_some_iff.mp H
  obtain ⟨⟨t119, t120⟩, A80, H⟩ := H
  replace H : (if t109 = 0 then (if t115 = 0 then (if t118 = 0 then (if t120 = 0 then (if ((t105 == t111 && (t106 == t112 && (t107 == t113 && (t108 == t114)))) != (a0 == a1)) = true then (deadboltlaw03_FlagsApart.j0 k true a2_0 a2_1 a2_2 a2_3 a3_0 a3_1 a3_2 a3_3) else (deadboltlaw03_FlagsApart.j0 k ((t117.toList == t119.toList) != (a0 == a1)) a2_0 a2_1 a2_2 a2_3 a3_0 a3_1 a3_2 a3_3)) else (deadboltlaw03_FlagsApart.j0 k true a2_0 a2_1 a2_2 a2_3 a3_0 a3_1 a3_2 a3_3)) else (deadboltlaw03_FlagsApart.j0 k true a2_0 a2_1 a2_2 a2_3 a3_0 a3_1 a3_2 a3_3)) else (deadboltlaw03_FlagsApart.j0 k false a2_0 a2_1 a2_2 a2_3 a3_0 a3_1 a3_2 a3_3)) else (deadboltlaw03_FlagsApart.j0 k false a2_0 a2_1 a2_2 a2_3 a3_0 a3_1 a3_2 a3_3)) = some r := H
  have A8 := Aside0.mk A80
  clear A80
  have HC9 := Aside0.mk H
  clear H
  go_enter Tryd.func3, Tryd.ntmps3
  go_upto_region 5 with (first | ((with_reducible refine gate_dst (N := 6) rfl ?_); refine box_event ?hg (N := 6) ?hd (cs := #[.bool a2_0, .bool a2_1, .bool a2_2, .int .i64 a2_3]) (t := 23) ?hr ?_; (case hd => rfl); (case hg => rfl); (case hr => first | (go_simp; done) | (go_simp; rfl)); intro gb103 hg w10 hbox hb; have n0_ := Aside0.mk (below_step (by repeat (first | (with_reducible first | exact HB.out | apply below_alloc | apply pw_below_drewN | apply below_drew1) | exact HB.out)) hb); have n1_ := Aside0.mk (hbox); have n2_ := Aside0.mk ((by rw [hg]; exact (below_size (by repeat (first | (with_reducible first | exact HB.out | apply below_alloc | apply pw_below_drewN | apply below_drew1) | exact HB.out))) : w.heap.size ≤ gb103)); have n3_ := Aside0.mk ((by rw [hg]; exact (below_size (by repeat (first | (with_reducible first | exact HB.out | apply below_alloc | apply pw_below_drewN | apply below_drew1) | exact HB.out))) : w.heap.size ≤ gb103)); clear HB; have HB := n0_; have BK103 := n1_; have GW103 := n2_; have GE103 := n3_; clear n0_ n1_ n2_ n3_; clear hb hbox hg) | ((with_reducible refine gate_dst (N := 7) rfl ?_); refine box_event ?hg (N := 7) ?hd (cs := #[.bool a3_0, .bool a3_1, .bool a3_2, .int .i64 a3_3]) (t := 23) ?hr ?_; (case hd => rfl); (case hg => rfl); (case hr => first | (go_simp; done) | (go_simp; rfl)); intro gb104 hg w11 hbox hb; have n0_ := Aside0.mk (blk_below (g := gb103) (o := .cells #[.bool a2_0, .bool a2_1, .bool a2_2, .int .i64 a2_3] 23 (0, 0)) (by (with_reducible repeat (first | refine blk_drewN ?_ _ | refine blk_drew ?_ | refine blk_alloc ?_ _)); exact BK103.out) hb); have n1_ := Aside0.mk (below_step (by repeat (first | (with_reducible first | exact HB.out | apply below_alloc | apply pw_below_drewN | apply below_drew1 | refine below_set ?_ GE103.out) | exact HB.out)) hb); have n2_ := Aside0.mk (hbox); have n3_ := Aside0.mk ((by rw [hg]; exact (below_size (by repeat (first | (with_reducible first | exact HB.out | apply below_alloc | apply pw_below_drewN | apply below_drew1 | refine below_set ?_ GE103.out) | exact HB.out))) : w.heap.size ≤ gb104)); have n4_ := Aside0.mk ((by rw [hg]; exact (below_size (by repeat (first | (with_reducible first | exact HB.out | apply below_alloc | apply pw_below_drewN | apply below_drew1 | refine below_set ?_ GE103.out) | exact HB.out))) : w.heap.size ≤ gb104)); have n5_ := Aside0.mk ((by rw [hg]; exact Nat.ne_of_lt (blk_lt (g := gb103) (o := .cells #[.bool a2_0, .bool a2_1, .bool a2_2, .int .i64 a2_3] 23 (0, 0)) (by (with_reducible repeat (first | refine blk_drewN ?_ _ | refine blk_drew ?_ | refine blk_alloc ?_ _)); exact BK103.out)) : gb103 ≠ gb104)); have n6_ := Aside0.mk ((by rw [hg]; exact Nat.ne_of_gt (blk_lt (g := gb103) (o := .cells #[.bool a2_0, .bool a2_1, .bool a2_2, .int .i64 a2_3] 23 (0, 0)) (by (with_reducible repeat (first | refine blk_drewN ?_ _ | refine blk_drew ?_ | refine blk_alloc ?_ _)); exact BK103.out)) : gb104 ≠ gb103)); clear BK103; clear HB; have BK103 := n0_; have HB := n1_; have BK104 := n2_; have GW104 := n3_; have GE104 := n4_; have NB103_104 := n5_; have NB104_103 := n6_; clear n0_ n1_ n2_ n3_ n4_ n5_ n6_; clear hb hbox hg) | ((with_reducible refine gate_callee (f := 7) rfl ?_); refine goesL_ (some 23) rfl rfl Tryd.func7 (by kernel_rfl) rfl #[.int .i64 a0] rfl (by (try simp only [List.map_toArray, List.map_cons, List.map_nil]); first | done | rfl | (simp only [List.length_drop, List.length_take]; rfl)) ?_; (with_reducible refine (flags_Unpack.calls a0 t105 t106 t107 t108 t109 _ A5.out).mono ?_); rintro e w12 ⟨rfl, hb⟩; refine ⟨_, rfl, ?_⟩; have n0_ := Aside0.mk (blk_below (g := gb103) (o := .cells #[.bool a2_0, .bool a2_1, .bool a2_2, .int .i64 a2_3] 23 (0, 0)) (by (with_reducible repeat (first | refine blk_drewN ?_ _ | refine blk_drew ?_ | refine blk_alloc ?_ _)); exact BK103.out) hb); have n1_ := Aside0.mk (blk_below (g := gb104) (o := .cells #[.bool a3_0, .bool a3_1, .bool a3_2, .int .i64 a3_3] 23 (0, 0)) (by (with_reducible repeat (first | refine blk_drewN ?_ _ | refine blk_drew ?_ | refine blk_alloc ?_ _)); exact BK104.out) hb); have n2_ := Aside0.mk (below_step (by repeat (first | (with_reducible first | exact HB.out | apply below_alloc | apply pw_below_drewN | apply below_drew1 | refine below_set ?_ GE103.out | refine below_set ?_ GE104.out) | exact HB.out)) hb); clear BK103; clear BK104; clear HB; have BK103 := n0_; have BK104 := n1_; have HB := n2_; clear n0_ n1_ n2_; (try clear hb); (try clear hb2); (try clear hk); (try clear hi)) | ((with_reducible refine gate_dst (N := 9) rfl ?_); refine box_event ?hg (N := 9) ?hd (cs := #[.bool false, .bool false, .bool false, .int .i64 0]) (t := 23) ?hr ?_; (case hd => rfl); (case hg => rfl); (case hr => first | (go_simp; done) | (go_simp; rfl)); intro gb110 hg w13 hbox hb; have n0_ := Aside0.mk (blk_below (g := gb103) (o := .cells #[.bool a2_0, .bool a2_1, .bool a2_2, .int .i64 a2_3] 23 (0, 0)) (by (with_reducible repeat (first | refine blk_drewN ?_ _ | refine blk_drew ?_ | refine blk_alloc ?_ _)); exact BK103.out) hb); have n1_ := Aside0.mk (blk_below (g := gb104) (o := .cells #[.bool a3_0, .bool a3_1, .bool a3_2, .int .i64 a3_3] 23 (0, 0)) (by (with_reducible repeat (first | refine blk_drewN ?_ _ | refine blk_drew ?_ | refine blk_alloc ?_ _)); exact BK104.out) hb); have n2_ := Aside0.mk (below_step (by repeat (first | (with_reducible first | exact HB.out | apply below_alloc | apply pw_below_drewN | apply below_drew1 | refine below_set ?_ GE103.out | refine below_set ?_ GE104.out) | exact HB.out)) hb); have n3_ := Aside0.mk (hbox); have n4_ := Aside0.mk ((by rw [hg]; exact (below_size (by repeat (first | (with_reducible first | exact HB.out | apply below_alloc | apply pw_below_drewN | apply below_drew1 | refine below_set ?_ GE103.out | refine below_set ?_ GE104.out) | exact HB.out))) : w.heap.size ≤ gb110)); have n5_ := Aside0.mk ((by rw [hg]; exact (below_size (by repeat (first | (with_reducible first | exact HB.out | apply below_alloc | apply pw_below_drewN | apply below_drew1 | refine below_set ?_ GE103.out | refine below_set ?_ GE104.out) | exact HB.out))) : w.heap.size ≤ gb110)); have n6_ := Aside0.mk ((by rw [hg]; exact Nat.ne_of_lt (blk_lt (g := gb103) (o := .cells #[.bool a2_0, .bool a2_1, .bool a2_2, .int .i64 a2_3] 23 (0, 0)) (by (with_reducible repeat (first | refine blk_drewN ?_ _ | refine blk_drew ?_ | refine blk_alloc ?_ _)); exact BK103.out)) : gb103 ≠ gb110)); have n7_ := Aside0.mk ((by rw [hg]; exact Nat.ne_of_gt (blk_lt (g := gb103) (o := .cells #[.bool a2_0, .bool a2_1, .bool a2_2, .int .i64 a2_3] 23 (0, 0)) (by (with_reducible repeat (first | refine blk_drewN ?_ _ | refine blk_drew ?_ | refine blk_alloc ?_ _)); exact BK103.out)) : gb110 ≠ gb103)); have n8_ := Aside0.mk ((by rw [hg]; exact Nat.ne_of_lt (blk_lt (g := gb104) (o := .cells #[.bool a3_0, .bool a3_1, .bool a3_2, .int .i64 a3_3] 23 (0, 0)) (by (with_reducible repeat (first | refine blk_drewN ?_ _ | refine blk_drew ?_ | refine blk_alloc ?_ _)); exact BK104.out)) : gb104 ≠ gb110)); have n9_ := Aside0.mk ((by rw [hg]; exact Nat.ne_of_gt (blk_lt (g := gb104) (o := .cells #[.bool a3_0, .bool a3_1, .bool a3_2, .int .i64 a3_3] 23 (0, 0)) (by (with_reducible repeat (first | refine blk_drewN ?_ _ | refine blk_drew ?_ | refine blk_alloc ?_ _)); exact BK104.out)) : gb110 ≠ gb104)); clear BK103; clear BK104; clear HB; have BK103 := n0_; have BK104 := n1_; have HB := n2_; have BK110 := n3_; have GW110 := n4_; have GE110 := n5_; have NB103_110 := n6_; have NB110_103 := n7_; have NB104_110 := n8_; have NB110_104 := n9_; clear n0_ n1_ n2_ n3_ n4_ n5_ n6_ n7_ n8_ n9_; clear hb hbox hg; have hnb14 := NB110_103.out; have hnc14 := NB103_110.out; have hnb15 := NB110_104.out; have hnc15 := NB104_110.out; have hcz16_0 : w13.cell? ⟨gb110, 0, none⟩ = some (.bool false) := (blk_cell BK110.out 0).trans rfl; have hcz16_1 : w13.cell? ⟨gb110, 1, none⟩ = some (.bool false) := (blk_cell BK110.out 1).trans rfl; have hcz16_2 : w13.cell? ⟨gb110, 2, none⟩ = some (.bool false) := (blk_cell BK110.out 2).trans rfl; have hcz16_3 : w13.cell? ⟨gb110, 3, none⟩ = some (.int .i64 0) := (blk_cell BK110.out 3).trans rfl; have hfz16_0 := blk_frozen BK110.out 0; have hfz16_1 := blk_frozen BK110.out 1; have hfz16_2 := blk_frozen BK110.out 2; have hfz16_3 := blk_frozen BK110.out 3) | ((with_reducible refine gate_callee (f := 7) rfl ?_); refine goesL_ (some 28) rfl rfl Tryd.func7 (by kernel_rfl) rfl #[.int .i64 a1] rfl (by (try simp only [List.map_toArray, List.map_cons, List.map_nil]); first | done | rfl | (simp only [List.length_drop, List.length_take]; rfl)) ?_; (with_reducible refine (flags_Unpack.calls a1 t111 t112 t113 t114 t115 _ A6.out).mono ?_); rintro e w17 ⟨rfl, hb⟩; refine ⟨_, rfl, ?_⟩; have n0_ := Aside0.mk (blk_below (g := gb103) (o := .cells #[.bool a2_0, .bool a2_1, .bool a2_2, .int .i64 a2_3] 23 (0, 0)) (by (with_reducible repeat (first | refine blk_drewN ?_ _ | refine blk_drew ?_ | refine blk_alloc ?_ _)); refine blk_far ?_ NB103_110.out _; (with_reducible repeat (first | refine blk_drewN ?_ _ | refine blk_drew ?_ | refine blk_alloc ?_ _)); refine blk_far ?_ NB103_110.out _; (with_reducible repeat (first | refine blk_drewN ?_ _ | refine blk_drew ?_ | refine blk_alloc ?_ _)); refine blk_far ?_ NB103_110.out _; (with_reducible repeat (first | refine blk_drewN ?_ _ | refine blk_drew ?_ | refine blk_alloc ?_ _)); refine blk_far ?_ NB103_110.out _; (with_reducible repeat (first | refine blk_drewN ?_ _ | refine blk_drew ?_ | refine blk_alloc ?_ _)); exact BK103.out) hb); have n1_ := Aside0.mk (blk_below (g := gb104) (o := .cells #[.bool a3_0, .bool a3_1, .bool a3_2, .int .i64 a3_3] 23 (0, 0)) (by (with_reducible repeat (first | refine blk_drewN ?_ _ | refine blk_drew ?_ | refine blk_alloc ?_ _)); refine blk_far ?_ NB104_110.out _; (with_reducible repeat (first | refine blk_drewN ?_ _ | refine blk_drew ?_ | refine blk_alloc ?_ _)); refine blk_far ?_ NB104_110.out _; (with_reducible repeat (first | refine blk_drewN ?_ _ | refine blk_drew ?_ | refine blk_alloc ?_ _)); refine blk_far ?_ NB104_110.out _; (with_reducible repeat (first | refine blk_drewN ?_ _ | refine blk_drew ?_ | refine blk_alloc ?_ _)); refine blk_far ?_ NB104_110.out _; (with_reducible repeat (first | refine blk_drewN ?_ _ | refine blk_drew ?_ | refine blk_alloc ?_ _)); exact BK104.out) hb); have n2_ := Aside0.mk (blk_below (g := gb110) (o := .cells #[.bool t105, .bool t106, .bool t107, .int .i64 t108] 23 (0, 0)) (by (with_reducible repeat (first | refine blk_drewN ?_ _ | refine blk_drew ?_ | refine blk_alloc ?_ _)); refine blk_put (cs := #[.bool t105, .bool t106, .bool t107, .int .i64 0]) ?_ 3 _ rfl; (with_reducible repeat (first | refine blk_drewN ?_ _ | refine blk_drew ?_ | refine blk_alloc ?_ _)); refine blk_put (cs := #[.bool t105, .bool t106, .bool false, .int .i64 0]) ?_ 2 _ rfl; (with_reducible repeat (first | refine blk_drewN ?_ _ | refine blk_drew ?_ | refine blk_alloc ?_ _)); refine blk_put (cs := #[.bool t105, .bool false, .bool false, .int .i64 0]) ?_ 1 _ rfl; (with_reducible repeat (first | refine blk_drewN ?_ _ | refine blk_drew ?_ | refine blk_alloc ?_ _)); refine blk_put (cs := #[.bool false, .bool false, .bool false, .int .i64 0]) ?_ 0 _ rfl; (with_reducible repeat (first | refine blk_drewN ?_ _ | refine blk_drew ?_ | refine blk_alloc ?_ _)); exact BK110.out) hb); have n3_ := Aside0.mk (below_step (by repeat (first | (with_reducible first | exact HB.out | apply below_alloc | apply pw_below_drewN | apply below_drew1 | refine below_set ?_ GE103.out | refine below_set ?_ GE104.out | refine below_set ?_ GE110.out) | exact HB.out)) hb); clear BK103; clear BK104; clear BK110; clear HB; have BK103 := n0_; have BK104 := n1_; have BK110 := n2_; have HB := n3_; clear n0_ n1_ n2_ n3_; (try clear hb); (try clear hb2); (try clear hk); (try clear hi)) | ((with_reducible refine gate_dst (N := 11) rfl ?_); refine box_event ?hg (N := 11) ?hd (cs := #[.bool false, .bool false, .bool false, .int .i64 0]) (t := 23) ?hr ?_; (case hd => rfl); (case hg => rfl); (case hr => first | (go_simp; done) | (go_simp; rfl)); intro gb116 hg w18 hbox hb; have n0_ := Aside0.mk (blk_below (g := gb103) (o := .cells #[.bool a2_0, .bool a2_1, .bool a2_2, .int .i64 a2_3] 23 (0, 0)) (by (with_reducible repeat (first | refine blk_drewN ?_ _ | refine blk_drew ?_ | refine blk_alloc ?_ _)); exact BK103.out) hb); have n1_ := Aside0.mk (blk_below (g := gb104) (o := .cells #[.bool a3_0, .bool a3_1, .bool a3_2, .int .i64 a3_3] 23 (0, 0)) (by (with_reducible repeat (first | refine blk_drewN ?_ _ | refine blk_drew ?_ | refine blk_alloc ?_ _)); exact BK104.out) hb); have n2_ := Aside0.mk (blk_below (g := gb110) (o := .cells #[.bool t105, .bool t106, .bool t107, .int .i64 t108] 23 (0, 0)) (by (with_reducible repeat (first | refine blk_drewN ?_ _ | refine blk_drew ?_ | refine blk_alloc ?_ _)); exact BK110.out) hb); have n3_ := Aside0.mk (below_step (by repeat (first | (with_reducible first | exact HB.out | apply below_alloc | apply pw_below_drewN | apply below_drew1 | refine below_set ?_ GE103.out | refine below_set ?_ GE104.out | refine below_set ?_ GE110.out) | exact HB.out)) hb); have n4_ := Aside0.mk (hbox); have n5_ := Aside0.mk ((by rw [hg]; exact (below_size (by repeat (first | (with_reducible first | exact HB.out | apply below_alloc | apply pw_below_drewN | apply below_drew1 | refine below_set ?_ GE103.out | refine below_set ?_ GE104.out | refine below_set ?_ GE110.out) | exact HB.out))) : w.heap.size ≤ gb116)); have n6_ := Aside0.mk ((by rw [hg]; exact (below_size (by repeat (first | (with_reducible first | exact HB.out | apply below_alloc | apply pw_below_drewN | apply below_drew1 | refine below_set ?_ GE103.out | refine below_set ?_ GE104.out | refine below_set ?_ GE110.out) | exact HB.out))) : w.heap.size ≤ gb116)); have n7_ := Aside0.mk ((by rw [hg]; exact Nat.ne_of_lt (blk_lt (g := gb103) (o := .cells #[.bool a2_0, .bool a2_1, .bool a2_2, .int .i64 a2_3] 23 (0, 0)) (by (with_reducible repeat (first | refine blk_drewN ?_ _ | refine blk_drew ?_ | refine blk_alloc ?_ _)); exact BK103.out)) : gb103 ≠ gb116)); have n8_ := Aside0.mk ((by rw [hg]; exact Nat.ne_of_gt (blk_lt (g := gb103) (o := .cells #[.bool a2_0, .bool a2_1, .bool a2_2, .int .i64 a2_3] 23 (0, 0)) (by (with_reducible repeat (first | refine blk_drewN ?_ _ | refine blk_drew ?_ | refine blk_alloc ?_ _)); exact BK103.out)) : gb116 ≠ gb103)); have n9_ := Aside0.mk ((by rw [hg]; exact Nat.ne_of_lt (blk_lt (g := gb104) (o := .cells #[.bool a3_0, .bool a3_1, .bool a3_2, .int .i64 a3_3] 23 (0, 0)) (by (with_reducible repeat (first | refine blk_drewN ?_ _ | refine blk_drew ?_ | refine blk_alloc ?_ _)); exact BK104.out)) : gb104 ≠ gb116)); have n10_ := Aside0.mk ((by rw [hg]; exact Nat.ne_of_gt (blk_lt (g := gb104) (o := .cells #[.bool a3_0, .bool a3_1, .bool a3_2, .int .i64 a3_3] 23 (0, 0)) (by (with_reducible repeat (first | refine blk_drewN ?_ _ | refine blk_drew ?_ | refine blk_alloc ?_ _)); exact BK104.out)) : gb116 ≠ gb104)); have n11_ := Aside0.mk ((by rw [hg]; exact Nat.ne_of_lt (blk_lt (g := gb110) (o := .cells #[.bool t105, .bool t106, .bool t107, .int .i64 t108] 23 (0, 0)) (by (with_reducible repeat (first | refine blk_drewN ?_ _ | refine blk_drew ?_ | refine blk_alloc ?_ _)); exact BK110.out)) : gb110 ≠ gb116)); have n12_ := Aside0.mk ((by rw [hg]; exact Nat.ne_of_gt (blk_lt (g := gb110) (o := .cells #[.bool t105, .bool t106, .bool t107, .int .i64 t108] 23 (0, 0)) (by (with_reducible repeat (first | refine blk_drewN ?_ _ | refine blk_drew ?_ | refine blk_alloc ?_ _)); exact BK110.out)) : gb116 ≠ gb110)); clear BK103; clear BK104; clear BK110; clear HB; have BK103 := n0_; have BK104 := n1_; have BK110 := n2_; have HB := n3_; have BK116 := n4_; have GW116 := n5_; have GE116 := n6_; have NB103_116 := n7_; have NB116_103 := n8_; have NB104_116 := n9_; have NB116_104 := n10_; have NB110_116 := n11_; have NB116_110 := n12_; clear n0_ n1_ n2_ n3_ n4_ n5_ n6_ n7_ n8_ n9_ n10_ n11_ n12_; clear hb hbox hg; have hnb19 := NB116_103.out; have hnc19 := NB103_116.out; have hnb20 := NB116_104.out; have hnc20 := NB104_116.out; have hnb21 := NB116_110.out; have hnc21 := NB110_116.out; have hcz22_0 : w18.cell? ⟨gb116, 0, none⟩ = some (.bool false) := (blk_cell BK116.out 0).trans rfl; have hcz22_1 : w18.cell? ⟨gb116, 1, none⟩ = some (.bool false) := (blk_cell BK116.out 1).trans rfl; have hcz22_2 : w18.cell? ⟨gb116, 2, none⟩ = some (.bool false) := (blk_cell BK116.out 2).trans rfl; have hcz22_3 : w18.cell? ⟨gb116, 3, none⟩ = some (.int .i64 0) := (blk_cell BK116.out 3).trans rfl; have hfz22_0 := blk_frozen BK116.out 0; have hfz22_1 := blk_frozen BK116.out 1; have hfz22_2 := blk_frozen BK116.out 2; have hfz22_3 := blk_frozen BK116.out 3) | ((with_reducible refine gate_callee (f := 8) rfl ?_); refine goesL_ (some 33) rfl rfl Tryd.func8 (by kernel_rfl) rfl #[.int .i64 a0] rfl (by (try simp only [List.map_toArray, List.map_cons, List.map_nil]); first | done | rfl | (simp only [List.length_drop, List.length_take]; rfl)) ?_; (with_reducible refine (flags_Text.calls a0 t117 t118 _ A7.out (by first | exact HT.out | (with_reducible refine Tabs.below HT.out ?_; repeat (first | (with_reducible first | exact HB.out | apply below_alloc | apply pw_below_drewN | apply below_drew1 | refine below_set ?_ (Aside0.out (by assumption))) | exact HB.out)) | (exact Tabs.below HT.out (by repeat (first | exact HB.out | exact Below.refl _ _ | apply below_alloc | apply pw_below_drewN | apply below_drew1 | refine below_set ?_ (Aside0.out (by assumption))))))).mono ?_); rintro e w23 ⟨rfl, hb⟩; refine ⟨_, rfl, ?_⟩; have n0_ := Aside0.mk (blk_below (g := gb103) (o := .cells #[.bool a2_0, .bool a2_1, .bool a2_2, .int .i64 a2_3] 23 (0, 0)) (by (with_reducible repeat (first | refine blk_drewN ?_ _ | refine blk_drew ?_ | refine blk_alloc ?_ _)); refine blk_far ?_ NB103_116.out _; (with_reducible repeat (first | refine blk_drewN ?_ _ | refine blk_drew ?_ | refine blk_alloc ?_ _)); refine blk_far ?_ NB103_116.out _; (with_reducible repeat (first | refine blk_drewN ?_ _ | refine blk_drew ?_ | refine blk_alloc ?_ _)); refine blk_far ?_ NB103_116.out _; (with_reducible repeat (first | refine blk_drewN ?_ _ | refine blk_drew ?_ | refine blk_alloc ?_ _)); refine blk_far ?_ NB103_116.out _; (with_reducible repeat (first | refine blk_drewN ?_ _ | refine blk_drew ?_ | refine blk_alloc ?_ _)); exact BK103.out) hb); have n1_ := Aside0.mk (blk_below (g := gb104) (o := .cells #[.bool a3_0, .bool a3_1, .bool a3_2, .int .i64 a3_3] 23 (0, 0)) (by (with_reducible repeat (first | refine blk_drewN ?_ _ | refine blk_drew ?_ | refine blk_alloc ?_ _)); refine blk_far ?_ NB104_116.out _; (with_reducible repeat (first | refine blk_drewN ?_ _ | refine blk_drew ?_ | refine blk_alloc ?_ _)); refine blk_far ?_ NB104_116.out _; (with_reducible repeat (first | refine blk_drewN ?_ _ | refine blk_drew ?_ | refine blk_alloc ?_ _)); refine blk_far ?_ NB104_116.out _; (with_reducible repeat (first | refine blk_drewN ?_ _ | refine blk_drew ?_ | refine blk_alloc ?_ _)); refine blk_far ?_ NB104_116.out _; (with_reducible repeat (first | refine blk_drewN ?_ _ | refine blk_drew ?_ | refine blk_alloc ?_ _)); exact BK104.out) hb); have n2_ := Aside0.mk (blk_below (g := gb110) (o := .cells #[.bool t105, .bool t106, .bool t107, .int .i64 t108] 23 (0, 0)) (by (with_reducible repeat (first | refine blk_drewN ?_ _ | refine blk_drew ?_ | refine blk_alloc ?_ _)); refine blk_far ?_ NB110_116.out _; (with_reducible repeat (first | refine blk_drewN ?_ _ | refine blk_drew ?_ | refine blk_alloc ?_ _)); refine blk_far ?_ NB110_116.out _; (with_reducible repeat (first | refine blk_drewN ?_ _ | refine blk_drew ?_ | refine blk_alloc ?_ _)); refine blk_far ?_ NB110_116.out _; (with_reducible repeat (first | refine blk_drewN ?_ _ | refine blk_drew ?_ | refine blk_alloc ?_ _)); refine blk_far ?_ NB110_116.out _; (with_reducible repeat (first | refine blk_drewN ?_ _ | refine blk_drew ?_ | refine blk_alloc ?_ _)); exact BK110.out) hb); have n3_ := Aside0.mk (blk_below (g := gb116) (o := .cells #[.bool t111, .bool t112, .bool t113, .int .i64 t114] 23 (0, 0)) (by (with_reducible repeat (first | refine blk_drewN ?_ _ | refine blk_drew ?_ | refine blk_alloc ?_ _)); refine blk_put (cs := #[.bool t111, .bool t112, .bool t113, .int .i64 0]) ?_ 3 _ rfl; (with_reducible repeat (first | refine blk_drewN ?_ _ | refine blk_drew ?_ | refine blk_alloc ?_ _)); refine blk_put (cs := #[.bool t111, .bool t112, .bool false, .int .i64 0]) ?_ 2 _ rfl; (with_reducible repeat (first | refine blk_drewN ?_ _ | refine blk_drew ?_ | refine blk_alloc ?_ _)); refine blk_put (cs := #[.bool t111, .bool false, .bool false, .int .i64 0]) ?_ 1 _ rfl; (with_reducible repeat (first | refine blk_drewN ?_ _ | refine blk_drew ?_ | refine blk_alloc ?_ _)); refine blk_put (cs := #[.bool false, .bool false, .bool false, .int .i64 0]) ?_ 0 _ rfl; (with_reducible repeat (first | refine blk_drewN ?_ _ | refine blk_drew ?_ | refine blk_alloc ?_ _)); exact BK116.out) hb); have n4_ := Aside0.mk (below_step (by repeat (first | (with_reducible first | exact HB.out | apply below_alloc | apply pw_below_drewN | apply below_drew1 | refine below_set ?_ GE103.out | refine below_set ?_ GE104.out | refine below_set ?_ GE110.out | refine below_set ?_ GE116.out) | exact HB.out)) hb); clear BK103; clear BK104; clear BK110; clear BK116; clear HB; have BK103 := n0_; have BK104 := n1_; have BK110 := n2_; have BK116 := n3_; have HB := n4_; clear n0_ n1_ n2_ n3_ n4_; (try clear hb); (try clear hb2); (try clear hk); (try clear hi)) | ((with_reducible refine gate_callee (f := 8) rfl ?_); refine goesL_ (some 38) rfl rfl Tryd.func8 (by kernel_rfl) rfl #[.int .i64 a1] rfl (by (try simp only [List.map_toArray, List.map_cons, List.map_nil]); first | done | rfl | (simp only [List.length_drop, List.length_take]; rfl)) ?_; (with_reducible refine (flags_Text.calls a1 t119 t120 _ A8.out (by first | exact HT.out | (with_reducible refine Tabs.below HT.out ?_; repeat (first | (with_reducible first | exact HB.out | apply below_alloc | apply pw_below_drewN | apply below_drew1 | refine below_set ?_ (Aside0.out (by assumption))) | exact HB.out)) | (exact Tabs.below HT.out (by repeat (first | exact HB.out | exact Below.refl _ _ | apply below_alloc | apply pw_below_drewN | apply below_drew1 | refine below_set ?_ (Aside0.out (by assumption))))))).mono ?_); rintro e w24 ⟨rfl, hb⟩; refine ⟨_, rfl, ?_⟩; have n0_ := Aside0.mk (blk_below (g := gb103) (o := .cells #[.bool a2_0, .bool a2_1, .bool a2_2, .int .i64 a2_3] 23 (0, 0)) (by (with_reducible repeat (first | refine blk_drewN ?_ _ | refine blk_drew ?_ | refine blk_alloc ?_ _)); exact BK103.out) hb); have n1_ := Aside0.mk (blk_below (g := gb104) (o := .cells #[.bool a3_0, .bool a3_1, .bool a3_2, .int .i64 a3_3] 23 (0, 0)) (by (with_reducible repeat (first | refine blk_drewN ?_ _ | refine blk_drew ?_ | refine blk_alloc ?_ _)); exact BK104.out) hb); have n2_ := Aside0.mk (blk_below (g := gb110) (o := .cells #[.bool t105, .bool t106, .bool t107, .int .i64 t108] 23 (0, 0)) (by (with_reducible repeat (first | refine blk_drewN ?_ _ | refine blk_drew ?_ | refine blk_alloc ?_ _)); exact BK110.out) hb); have n3_ := Aside0.mk (blk_below (g := gb116) (o := .cells #[.bool t111, .bool t112, .bool t113, .int .i64 t114] 23 (0, 0)) (by (with_reducible repeat (first | refine blk_drewN ?_ _ | refine blk_drew ?_ | refine blk_alloc ?_ _)); exact BK116.out) hb); have n4_ := Aside0.mk (below_step (by repeat (first | (with_reducible first | exact HB.out | apply below_alloc | apply pw_below_drewN | apply below_drew1 | refine below_set ?_ GE103.out | refine below_set ?_ GE104.out | refine below_set ?_ GE110.out | refine below_set ?_ GE116.out) | exact HB.out)) hb); clear BK103; clear BK104; clear BK110; clear BK116; clear HB; have BK103 := n0_; have BK104 := n1_; have BK110 := n2_; have BK116 := n3_; have HB := n4_; clear n0_ n1_ n2_ n3_ n4_; (try clear hb); (try clear hb2); (try clear hk); (try clear hi)))
  (try simp only [Act.put, List.setIfInBounds_toArray, List.set_cons_zero, List.set_cons_succ])
  go_cut [72] (fun v72 wc => ∃ (kq : Nat) (x72_8 : Bool), v72 = .bool x72_8 ∧ Aside0 (deadboltlaw03_FlagsApart.j0 kq x72_8 a2_0 a2_1 a2_2 a2_3 a3_0 a3_1 a3_2 a3_3 = some r) ∧ Aside0 (kq ≤ k) ∧ Aside0 (wc.heap[gb103]? = some (.cells #[.bool a2_0, .bool a2_1, .bool a2_2, .int .i64 a2_3] 23 (0, 0))) ∧ Aside0 (wc.heap[gb104]? = some (.cells #[.bool a3_0, .bool a3_1, .bool a3_2, .int .i64 a3_3] 23 (0, 0))) ∧ Aside0 (wc.heap[gb110]? = some (.cells #[.bool t105, .bool t106, .bool t107, .int .i64 t108] 23 (0, 0))) ∧ Aside0 (wc.heap[gb116]? = some (.cells #[.bool t111, .bool t112, .bool t113, .int .i64 t114] 23 (0, 0))) ∧ Aside0 (Below w.heap.size w wc))
  case first =>
    have H := HC9.out
    clear HC9
    by_cases c25 : t109 = 0
    · rw [if_pos c25] at H
      have c25b0 : (t109 == 0) = true := beq_iff_eq.mpr c25
      have c25b1 : (t109 != 0) = false := bne_eq_false_iff_eq.mpr c25
      clear c25
      (first | rw [c25b0] | (simp only [i64_w, i32_w]; rw [c25b0]) | skip)
      by_cases c26 : t115 = 0
      · rw [if_pos c26] at H
        have c26b0 : (t115 == 0) = true := beq_iff_eq.mpr c26
        have c26b1 : (t115 != 0) = false := bne_eq_false_iff_eq.mpr c26
        clear c26
        by_cases c27 : t118 = 0
        · rw [if_pos c27] at H
          have c27b0 : (t118 == 0) = true := beq_iff_eq.mpr c27
          have c27b1 : (t118 != 0) = false := bne_eq_false_iff_eq.mpr c27
          clear c27
          by_cases c28 : t120 = 0
          · rw [if_pos c28] at H
            have c28b0 : (t120 == 0) = true := beq_iff_eq.mpr c28
            have c28b1 : (t120 != 0) = false := bne_eq_false_iff_eq.mpr c28
            clear c28
            by_cases c29 : ((t105 == t111 && (t106 == t112 && (t107 == t113 && (t108 == t114)))) != (a0 == a1)) = true
            · rw [if_pos c29] at H
              have c29b0 : ((t105 == t111 && (t106 == t112 && (t107 == t113 && (t108 == t114)))) != (a0 == a1)) = true := c29
              (try (have c29b1 : decide ((t105 == t111 && (t106 == t112 && (t107 == t113 && (t108 == t114)))) = (a0 == a1)) = false := by simpa using c29))
              (try (have c29b2 : ((t105 == t111 && (t106 == t112 && (t107 == t113 && (t108 == t114)))) == (a0 == a1)) = false := by simpa using c29))
              (try (have c29b3 : ¬ ((t105 == t111 && (t106 == t112 && (t107 == t113 && (t108 == t114)))) = (a0 == a1)) := by simpa using c29))
              clear c29
              have H' := Aside0.mk H
              clear H
              have hnb30 := NB110_103.out
              have hnc30 := NB103_110.out
              have hnb31 := NB110_104.out
              have hnc31 := NB104_110.out
              have hnb32 := NB110_116.out
              have hnc32 := NB116_110.out
              have hcz33_0 : w24.cell? ⟨gb110, 0, none⟩ = some (.bool t105) := (blk_cell BK110.out 0).trans rfl
              have hcz33_1 : w24.cell? ⟨gb110, 1, none⟩ = some (.bool t106) := (blk_cell BK110.out 1).trans rfl
              have hcz33_2 : w24.cell? ⟨gb110, 2, none⟩ = some (.bool t107) := (blk_cell BK110.out 2).trans rfl
              have hcz33_3 : w24.cell? ⟨gb110, 3, none⟩ = some (.int .i64 t108) := (blk_cell BK110.out 3).trans rfl
              have hfz33_0 := blk_frozen BK110.out 0
              have hfz33_1 := blk_frozen BK110.out 1
              have hfz33_2 := blk_frozen BK110.out 2
              have hfz33_3 := blk_frozen BK110.out 3
              have hnb34 := NB116_103.out
              have hnc34 := NB103_116.out
              have hnb35 := NB116_104.out
              have hnc35 := NB104_116.out
              have hcz36_0 : w24.cell? ⟨gb116, 0, none⟩ = some (.bool t111) := (blk_cell BK116.out 0).trans rfl
              have hcz36_1 : w24.cell? ⟨gb116, 1, none⟩ = some (.bool t112) := (blk_cell BK116.out 1).trans rfl
              have hcz36_2 : w24.cell? ⟨gb116, 2, none⟩ = some (.bool t113) := (blk_cell BK116.out 2).trans rfl
              have hcz36_3 : w24.cell? ⟨gb116, 3, none⟩ = some (.int .i64 t114) := (blk_cell BK116.out 3).trans rfl
              have hfz36_0 := blk_frozen BK116.out 0
              have hfz36_1 := blk_frozen BK116.out 1
              have hfz36_2 := blk_frozen BK116.out 2
              have hfz36_3 := blk_frozen BK116.out 3
              go_wp2
              go_meet
              case rel => exact ⟨_, (true), (by first | rfl | (simp; done) | (simp [*]; done)), H', ⟨by first | omega | exact Nat.le_refl _⟩, ⟨by (with_reducible repeat (first | refine blk_drewN ?_ _ | refine blk_drew ?_ | refine blk_alloc ?_ _)); exact BK103.out⟩, ⟨by (with_reducible repeat (first | refine blk_drewN ?_ _ | refine blk_drew ?_ | refine blk_alloc ?_ _)); exact BK104.out⟩, ⟨by (with_reducible repeat (first | refine blk_drewN ?_ _ | refine blk_drew ?_ | refine blk_alloc ?_ _)); exact BK110.out⟩, ⟨by (with_reducible repeat (first | refine blk_drewN ?_ _ | refine blk_drew ?_ | refine blk_alloc ?_ _)); exact BK116.out⟩, ⟨by repeat (first | (with_reducible first | exact HB.out | apply below_alloc | apply pw_below_drewN | apply below_drew1 | refine below_set ?_ GE103.out | refine below_set ?_ GE104.out | refine below_set ?_ GE110.out | refine below_set ?_ GE116.out) | exact HB.out)⟩⟩
            · rw [if_neg c29] at H
              have c29b0 : ((t105 == t111 && (t106 == t112 && (t107 == t113 && (t108 == t114)))) != (a0 == a1)) = false := by simpa using c29
              (try (have c29b1 : decide ((t105 == t111 && (t106 == t112 && (t107 == t113 && (t108 == t114)))) = (a0 == a1)) = true := by simpa using c29))
              (try (have c29b2 : ((t105 == t111 && (t106 == t112 && (t107 == t113 && (t108 == t114)))) == (a0 == a1)) = true := by simpa using c29))
              clear c29
              have H' := Aside0.mk H
              clear H
              have hnb37 := NB110_103.out
              have hnc37 := NB103_110.out
              have hnb38 := NB110_104.out
              have hnc38 := NB104_110.out
              have hnb39 := NB110_116.out
              have hnc39 := NB116_110.out
              have hcz40_0 : w24.cell? ⟨gb110, 0, none⟩ = some (.bool t105) := (blk_cell BK110.out 0).trans rfl
              have hcz40_1 : w24.cell? ⟨gb110, 1, none⟩ = some (.bool t106) := (blk_cell BK110.out 1).trans rfl
              have hcz40_2 : w24.cell? ⟨gb110, 2, none⟩ = some (.bool t107) := (blk_cell BK110.out 2).trans rfl
              have hcz40_3 : w24.cell? ⟨gb110, 3, none⟩ = some (.int .i64 t108) := (blk_cell BK110.out 3).trans rfl
              have hfz40_0 := blk_frozen BK110.out 0
              have hfz40_1 := blk_frozen BK110.out 1
              have hfz40_2 := blk_frozen BK110.out 2
              have hfz40_3 := blk_frozen BK110.out 3
              have hnb41 := NB116_103.out
              have hnc41 := NB103_116.out
              have hnb42 := NB116_104.out
              have hnc42 := NB104_116.out
              have hcz43_0 : w24.cell? ⟨gb116, 0, none⟩ = some (.bool t111) := (blk_cell BK116.out 0).trans rfl
              have hcz43_1 : w24.cell? ⟨gb116, 1, none⟩ = some (.bool t112) := (blk_cell BK116.out 1).trans rfl
              have hcz43_2 : w24.cell? ⟨gb116, 2, none⟩ = some (.bool t113) := (blk_cell BK116.out 2).trans rfl
              have hcz43_3 : w24.cell? ⟨gb116, 3, none⟩ = some (.int .i64 t114) := (blk_cell BK116.out 3).trans rfl
              have hfz43_0 := blk_frozen BK116.out 0
              have hfz43_1 := blk_frozen BK116.out 1
              have hfz43_2 := blk_frozen BK116.out 2
              have hfz43_3 := blk_frozen BK116.out 3
              go_wp2
              go_meet
              case rel => exact ⟨_, (((t117.toList == t119.toList) != (a0 == a1))), (by first | rfl | (simp; done) | (simp [*]; done)), H', ⟨by first | omega | exact Nat.le_refl _⟩, ⟨by (with_reducible repeat (first | refine blk_drewN ?_ _ | refine blk_drew ?_ | refine blk_alloc ?_ _)); exact BK103.out⟩, ⟨by (with_reducible repeat (first | refine blk_drewN ?_ _ | refine blk_drew ?_ | refine blk_alloc ?_ _)); exact BK104.out⟩, ⟨by (with_reducible repeat (first | refine blk_drewN ?_ _ | refine blk_drew ?_ | refine blk_alloc ?_ _)); exact BK110.out⟩, ⟨by (with_reducible repeat (first | refine blk_drewN ?_ _ | refine blk_drew ?_ | refine blk_alloc ?_ _)); exact BK116.out⟩, ⟨by repeat (first | (with_reducible first | exact HB.out | apply below_alloc | apply pw_below_drewN | apply below_drew1 | refine below_set ?_ GE103.out | refine below_set ?_ GE104.out | refine below_set ?_ GE110.out | refine below_set ?_ GE116.out) | exact HB.out)⟩⟩
          · rw [if_neg c28] at H
            have c28b0 : (t120 == 0) = false := beq_eq_false_iff_ne.mpr c28
            have c28b1 : (t120 != 0) = true := bne_iff_ne.mpr c28
            have H' := Aside0.mk H
            clear H
            go_wp2
            go_meet
            case rel => exact ⟨_, (true), (by first | rfl | (simp; done) | (simp [*]; done)), H', ⟨by first | omega | exact Nat.le_refl _⟩, ⟨by (with_reducible repeat (first | refine blk_drewN ?_ _ | refine blk_drew ?_ | refine blk_alloc ?_ _)); exact BK103.out⟩, ⟨by (with_reducible repeat (first | refine blk_drewN ?_ _ | refine blk_drew ?_ | refine blk_alloc ?_ _)); exact BK104.out⟩, ⟨by (with_reducible repeat (first | refine blk_drewN ?_ _ | refine blk_drew ?_ | refine blk_alloc ?_ _)); exact BK110.out⟩, ⟨by (with_reducible repeat (first | refine blk_drewN ?_ _ | refine blk_drew ?_ | refine blk_alloc ?_ _)); exact BK116.out⟩, ⟨by repeat (first | (with_reducible first | exact HB.out | apply below_alloc | apply pw_below_drewN | apply below_drew1 | refine below_set ?_ GE103.out | refine below_set ?_ GE104.out | refine below_set ?_ GE110.out | refine below_set ?_ GE116.out) | exact HB.out)⟩⟩
        · rw [if_neg c27] at H
          have c27b0 : (t118 == 0) = false := beq_eq_false_iff_ne.mpr c27
          have c27b1 : (t118 != 0) = true := bne_iff_ne.mpr c27
          have H' := Aside0.mk H
          clear H
          go_wp2
          go_meet
          case rel => exact ⟨_, (true), (by first | rfl | (simp; done) | (simp [*]; done)), H', ⟨by first | omega | exact Nat.le_refl _⟩, ⟨by (with_reducible repeat (first | refine blk_drewN ?_ _ | refine blk_drew ?_ | refine blk_alloc ?_ _)); exact BK103.out⟩, ⟨by (with_reducible repeat (first | refine blk_drewN ?_ _ | refine blk_drew ?_ | refine blk_alloc ?_ _)); exact BK104.out⟩, ⟨by (with_reducible repeat (first | refine blk_drewN ?_ _ | refine blk_drew ?_ | refine blk_alloc ?_ _)); exact BK110.out⟩, ⟨by (with_reducible repeat (first | refine blk_drewN ?_ _ | refine blk_drew ?_ | refine blk_alloc ?_ _)); exact BK116.out⟩, ⟨by repeat (first | (with_reducible first | exact HB.out | apply below_alloc | apply pw_below_drewN | apply below_drew1 | refine below_set ?_ GE103.out | refine below_set ?_ GE104.out | refine below_set ?_ GE110.out | refine below_set ?_ GE116.out) | exact HB.out)⟩⟩
      · rw [if_neg c26] at H
        have c26b0 : (t115 == 0) = false := beq_eq_false_iff_ne.mpr c26
        have c26b1 : (t115 != 0) = true := bne_iff_ne.mpr c26
        have H' := Aside0.mk H
        clear H
        go_wp2
        go_meet
        case rel => exact ⟨_, (false), (by first | rfl | (simp; done) | (simp [*]; done)), H', ⟨by first | omega | exact Nat.le_refl _⟩, ⟨by (with_reducible repeat (first | refine blk_drewN ?_ _ | refine blk_drew ?_ | refine blk_alloc ?_ _)); exact BK103.out⟩, ⟨by (with_reducible repeat (first | refine blk_drewN ?_ _ | refine blk_drew ?_ | refine blk_alloc ?_ _)); exact BK104.out⟩, ⟨by (with_reducible repeat (first | refine blk_drewN ?_ _ | refine blk_drew ?_ | refine blk_alloc ?_ _)); exact BK110.out⟩, ⟨by (with_reducible repeat (first | refine blk_drewN ?_ _ | refine blk_drew ?_ | refine blk_alloc ?_ _)); exact BK116.out⟩, ⟨by repeat (first | (with_reducible first | exact HB.out | apply below_alloc | apply pw_below_drewN | apply below_drew1 | refine below_set ?_ GE103.out | refine below_set ?_ GE104.out | refine below_set ?_ GE110.out | refine below_set ?_ GE116.out) | exact HB.out)⟩⟩
    · rw [if_neg c25] at H
      have c25b0 : (t109 == 0) = false := beq_eq_false_iff_ne.mpr c25
      have c25b1 : (t109 != 0) = true := bne_iff_ne.mpr c25
      (first | rw [c25b0] | (simp only [i64_w, i32_w]; rw [c25b0]) | skip)
      have H' := Aside0.mk H
      clear H
      go_wp2
      go_meet
      case rel => exact ⟨_, (false), (by first | rfl | (simp; done) | (simp [*]; done)), H', ⟨by first | omega | exact Nat.le_refl _⟩, ⟨by (with_reducible repeat (first | refine blk_drewN ?_ _ | refine blk_drew ?_ | refine blk_alloc ?_ _)); exact BK103.out⟩, ⟨by (with_reducible repeat (first | refine blk_drewN ?_ _ | refine blk_drew ?_ | refine blk_alloc ?_ _)); exact BK104.out⟩, ⟨by (with_reducible repeat (first | refine blk_drewN ?_ _ | refine blk_drew ?_ | refine blk_alloc ?_ _)); exact BK110.out⟩, ⟨by (with_reducible repeat (first | refine blk_drewN ?_ _ | refine blk_drew ?_ | refine blk_alloc ?_ _)); exact BK116.out⟩, ⟨by repeat (first | (with_reducible first | exact HB.out | apply below_alloc | apply pw_below_drewN | apply below_drew1 | refine below_set ?_ GE103.out | refine below_set ?_ GE104.out | refine below_set ?_ GE110.out | refine below_set ?_ GE116.out) | exact HB.out)⟩⟩
  case rest =>
    clear HC9
    try clear c1
    try clear c2
    try clear p2
    try clear c3
    try clear c4
    try clear c7
    try clear c8
    try clear c14
    try clear c15
    try clear c19
    try clear c20
    try clear c21
    try clear c25
    try clear c25b0
    try clear c25b1
    try clear c26
    try clear c26b0
    try clear c26b1
    try clear c27
    try clear c27b0
    try clear c27b1
    try clear c28
    try clear c28b0
    try clear c28b1
    try clear c29
    try clear c29b0
    try clear c29b1
    try clear c29b2
    try clear c30
    try clear c31
    try clear c32
    try clear c34
    try clear c35
    try clear c37
    try clear c38
    try clear c39
    try clear c41
    try clear c42
    try clear hcz16_0
    try clear hcz16_1
    try clear hcz16_2
    try clear hcz16_3
    try clear hcz22_0
    try clear hcz22_1
    try clear hcz22_2
    try clear hcz22_3
    try clear hcz33_0
    try clear hcz33_1
    try clear hcz33_2
    try clear hcz33_3
    try clear hcz36_0
    try clear hcz36_1
    try clear hcz36_2
    try clear hcz36_3
    try clear hcz40_0
    try clear hcz40_1
    try clear hcz40_2
    try clear hcz40_3
    try clear hcz43_0
    try clear hcz43_1
    try clear hcz43_2
    try clear hcz43_3
    try clear hfz16_0
    try clear hfz16_1
    try clear hfz16_2
    try clear hfz16_3
    try clear hfz22_0
    try clear hfz22_1
    try clear hfz22_2
    try clear hfz22_3
    try clear hfz33_0
    try clear hfz33_1
    try clear hfz33_2
    try clear hfz33_3
    try clear hfz36_0
    try clear hfz36_1
    try clear hfz36_2
    try clear hfz36_3
    try clear hfz40_0
    try clear hfz40_1
    try clear hfz40_2
    try clear hfz40_3
    try clear hfz43_0
    try clear hfz43_1
    try clear hfz43_2
    try clear hfz43_3
    obtain ⟨kq, x72_8, rfl, HA, HJ8, BK103, BK104, BK110, BK116, HB⟩ := hcut
    cases kq with
    | zero => exact absurd HA.out (by simp [deadboltlaw03_FlagsApart.j0])
    | succ kj8 =>
      have H := HA.out
      clear HA
      simp only [deadboltlaw03_FlagsApart.j0] at H
      by_cases c44 : x72_8 = true
      · subst c44
        have H1 : (some false) = some r := by rw [if_pos rfl] at H; exact H
        clear H
        have H := H1
        clear H1
        obtain rfl := Option.some.inj H
        go_wp2
        go_ret
        exact ⟨by first | rfl | (simp [errW_none, errW_some] <;> rfl) | (simp [*, errW_none, errW_some] <;> rfl), by repeat (first | (with_reducible first | exact HB.out | apply below_alloc | apply pw_below_drewN | apply below_drew1 | refine below_set ?_ GE103.out | refine below_set ?_ GE104.out | refine below_set ?_ GE110.out | refine below_set ?_ GE116.out) | exact HB.out)⟩
      · replace c44 := Bool.eq_false_iff.mpr c44
        subst c44
        have H1 : ((flags_Pack.f a2_0 a2_1 a2_2 a2_3).bind fun bt121 => ((flags_Pack.f a3_0 a3_1 a3_2 a3_3).bind fun bt123 => ((deadboltlaw03_alive.f).bind fun t125 => (if t125 = true then (if bt121.2 = 0 then (if bt123.2 = 0 then (some ((bt121.1 == bt123.1) == (a2_0 == a3_0 && (a2_1 == a3_1 && (a2_2 == a3_2 && (a2_3 == a3_3)))))) else (some true)) else (some true)) else (some false))))) = some r := by rw [if_neg (show ¬ (false = true) by decide)] at H; exact H
        clear H
        have H := H1
        clear H1
        replace H := Option.bind_eq_some_iff.mp H
        obtain ⟨⟨t121, t122⟩, A450, H⟩ := H
        replace H : ((flags_Pack.f a3_0 a3_1 a3_2 a3_3).bind fun bt123 => ((deadboltlaw03_alive.f).bind fun t125 => (if t125 = true then (if t122 = 0 then (if bt123.2 = 0 then (some ((t121 == bt123.1) == (a2_0 == a3_0 && (a2_1 == a3_1 && (a2_2 == a3_2 && (a2_3 == a3_3)))))) else (some true)) else (some true)) else (some false)))) = some r := H
        have A45 := Aside0.mk A450
        clear A450
        replace H := Option.bind_eq_some_iff.mp H
        obtain ⟨⟨t123, t124⟩, A460, H⟩ := H
        replace H : ((deadboltlaw03_alive.f).bind fun t125 => (if t125 = true then (if t122 = 0 then (if t124 = 0 then (some ((t121 == t123) == (a2_0 == a3_0 && (a2_1 == a3_1 && (a2_2 == a3_2 && (a2_3 == a3_3)))))) else (some true)) else (some true)) else (some false))) = some r := H
        have A46 := Aside0.mk A460
        clear A460
        replace H := Option.bind_eq_some_iff.mp H
        obtain ⟨t125, A470, H⟩ := H
        replace H : (if t125 = true then (if t122 = 0 then (if t124 = 0 then (some ((t121 == t123) == (a2_0 == a3_0 && (a2_1 == a3_1 && (a2_2 == a3_2 && (a2_3 == a3_3)))))) else (some true)) else (some true)) else (some false)) = some r := H
        have A47 := Aside0.mk A470
        clear A470
        by_cases c48 : t125 = true
        · subst c48
          have H1 : (if t122 = 0 then (if t124 = 0 then (some ((t121 == t123) == (a2_0 == a3_0 && (a2_1 == a3_1 && (a2_2 == a3_2 && (a2_3 == a3_3)))))) else (some true)) else (some true)) = some r := by rw [if_pos rfl] at H; exact H
          clear H
          have H := H1
          clear H1
          by_cases c49 : t122 = 0
          · rw [if_pos c49] at H
            have c49b0 : (t122 == 0) = true := beq_iff_eq.mpr c49
            have c49b1 : (t122 != 0) = false := bne_eq_false_iff_eq.mpr c49
            clear c49
            by_cases c50 : t124 = 0
            · rw [if_pos c50] at H
              have c50b0 : (t124 == 0) = true := beq_iff_eq.mpr c50
              have c50b1 : (t124 != 0) = false := bne_eq_false_iff_eq.mpr c50
              clear c50
              obtain rfl := Option.some.inj H
              have hnb51 := NB103_104.out
              have hnc51 := NB104_103.out
              have hnb52 := NB103_110.out
              have hnc52 := NB110_103.out
              have hnb53 := NB103_116.out
              have hnc53 := NB116_103.out
              have hcz54_0 : wc.cell? ⟨gb103, 0, none⟩ = some (.bool a2_0) := (blk_cell BK103.out 0).trans rfl
              have hcz54_1 : wc.cell? ⟨gb103, 1, none⟩ = some (.bool a2_1) := (blk_cell BK103.out 1).trans rfl
              have hcz54_2 : wc.cell? ⟨gb103, 2, none⟩ = some (.bool a2_2) := (blk_cell BK103.out 2).trans rfl
              have hcz54_3 : wc.cell? ⟨gb103, 3, none⟩ = some (.int .i64 a2_3) := (blk_cell BK103.out 3).trans rfl
              have hfz54_0 := blk_frozen BK103.out 0
              have hfz54_1 := blk_frozen BK103.out 1
              have hfz54_2 := blk_frozen BK103.out 2
              have hfz54_3 := blk_frozen BK103.out 3
              go_wp2_with (first | ((with_reducible refine gate_callee (f := 9) rfl ?_); refine goesL_ (some 75) rfl rfl Tryd.func9 (by kernel_rfl) rfl #[.agg #[.bool a2_0, .bool a2_1, .bool a2_2, .int .i64 a2_3]] rfl (by (try simp only [List.map_toArray, List.map_cons, List.map_nil]); first | done | rfl | (simp only [List.length_drop, List.length_take]; rfl)) ?_; (with_reducible refine (flags_Pack.calls a2_0 a2_1 a2_2 a2_3 t121 t122 _ A45.out).mono ?_); rintro e w55 ⟨rfl, hb⟩; refine ⟨_, rfl, ?_⟩; have n0_ := Aside0.mk (blk_below (g := gb103) (o := .cells #[.bool a2_0, .bool a2_1, .bool a2_2, .int .i64 a2_3] 23 (0, 0)) (by (with_reducible repeat (first | refine blk_drewN ?_ _ | refine blk_drew ?_ | refine blk_alloc ?_ _)); exact BK103.out) hb); have n1_ := Aside0.mk (blk_below (g := gb104) (o := .cells #[.bool a3_0, .bool a3_1, .bool a3_2, .int .i64 a3_3] 23 (0, 0)) (by (with_reducible repeat (first | refine blk_drewN ?_ _ | refine blk_drew ?_ | refine blk_alloc ?_ _)); exact BK104.out) hb); have n2_ := Aside0.mk (blk_below (g := gb110) (o := .cells #[.bool t105, .bool t106, .bool t107, .int .i64 t108] 23 (0, 0)) (by (with_reducible repeat (first | refine blk_drewN ?_ _ | refine blk_drew ?_ | refine blk_alloc ?_ _)); exact BK110.out) hb); have n3_ := Aside0.mk (blk_below (g := gb116) (o := .cells #[.bool t111, .bool t112, .bool t113, .int .i64 t114] 23 (0, 0)) (by (with_reducible repeat (first | refine blk_drewN ?_ _ | refine blk_drew ?_ | refine blk_alloc ?_ _)); exact BK116.out) hb); have n4_ := Aside0.mk (below_step (by repeat (first | (with_reducible first | exact HB.out | apply below_alloc | apply pw_below_drewN | apply below_drew1 | refine below_set ?_ GE103.out | refine below_set ?_ GE104.out | refine below_set ?_ GE110.out | refine below_set ?_ GE116.out) | exact HB.out)) hb); clear BK103; clear BK104; clear BK110; clear BK116; clear HB; have BK103 := n0_; have BK104 := n1_; have BK110 := n2_; have BK116 := n3_; have HB := n4_; clear n0_ n1_ n2_ n3_ n4_; (try clear hb); (try clear hb2); (try clear hk); (try clear hi); have hnb56 := NB104_110.out; have hnc56 := NB110_104.out; have hnb57 := NB104_116.out; have hnc57 := NB116_104.out; have hcz58_0 : w55.cell? ⟨gb104, 0, none⟩ = some (.bool a3_0) := (blk_cell BK104.out 0).trans rfl; have hcz58_1 : w55.cell? ⟨gb104, 1, none⟩ = some (.bool a3_1) := (blk_cell BK104.out 1).trans rfl; have hcz58_2 : w55.cell? ⟨gb104, 2, none⟩ = some (.bool a3_2) := (blk_cell BK104.out 2).trans rfl; have hcz58_3 : w55.cell? ⟨gb104, 3, none⟩ = some (.int .i64 a3_3) := (blk_cell BK104.out 3).trans rfl; have hfz58_0 := blk_frozen BK104.out 0; have hfz58_1 := blk_frozen BK104.out 1; have hfz58_2 := blk_frozen BK104.out 2; have hfz58_3 := blk_frozen BK104.out 3) | ((with_reducible refine gate_callee (f := 9) rfl ?_); refine goesL_ (some 80) rfl rfl Tryd.func9 (by kernel_rfl) rfl #[.agg #[.bool a3_0, .bool a3_1, .bool a3_2, .int .i64 a3_3]] rfl (by (try simp only [List.map_toArray, List.map_cons, List.map_nil]); first | done | rfl | (simp only [List.length_drop, List.length_take]; rfl)) ?_; (with_reducible refine (flags_Pack.calls a3_0 a3_1 a3_2 a3_3 t123 t124 _ A46.out).mono ?_); rintro e w59 ⟨rfl, hb⟩; refine ⟨_, rfl, ?_⟩; have n0_ := Aside0.mk (blk_below (g := gb103) (o := .cells #[.bool a2_0, .bool a2_1, .bool a2_2, .int .i64 a2_3] 23 (0, 0)) (by (with_reducible repeat (first | refine blk_drewN ?_ _ | refine blk_drew ?_ | refine blk_alloc ?_ _)); exact BK103.out) hb); have n1_ := Aside0.mk (blk_below (g := gb104) (o := .cells #[.bool a3_0, .bool a3_1, .bool a3_2, .int .i64 a3_3] 23 (0, 0)) (by (with_reducible repeat (first | refine blk_drewN ?_ _ | refine blk_drew ?_ | refine blk_alloc ?_ _)); exact BK104.out) hb); have n2_ := Aside0.mk (blk_below (g := gb110) (o := .cells #[.bool t105, .bool t106, .bool t107, .int .i64 t108] 23 (0, 0)) (by (with_reducible repeat (first | refine blk_drewN ?_ _ | refine blk_drew ?_ | refine blk_alloc ?_ _)); exact BK110.out) hb); have n3_ := Aside0.mk (blk_below (g := gb116) (o := .cells #[.bool t111, .bool t112, .bool t113, .int .i64 t114] 23 (0, 0)) (by (with_reducible repeat (first | refine blk_drewN ?_ _ | refine blk_drew ?_ | refine blk_alloc ?_ _)); exact BK116.out) hb); have n4_ := Aside0.mk (below_step (by repeat (first | (with_reducible first | exact HB.out | apply below_alloc | apply pw_below_drewN | apply below_drew1 | refine below_set ?_ GE103.out | refine below_set ?_ GE104.out | refine below_set ?_ GE110.out | refine below_set ?_ GE116.out) | exact HB.out)) hb); clear BK103; clear BK104; clear BK110; clear BK116; clear HB; have BK103 := n0_; have BK104 := n1_; have BK110 := n2_; have BK116 := n3_; have HB := n4_; clear n0_ n1_ n2_ n3_ n4_; (try clear hb); (try clear hb2); (try clear hk); (try clear hi)) | ((with_reducible refine gate_callee (f := 10) rfl ?_); refine goesL_ (some 83) rfl rfl Tryd.func10 (by kernel_rfl) rfl #[] rfl (by (try simp only [List.map_toArray, List.map_cons, List.map_nil]); first | done | rfl | (simp only [List.length_drop, List.length_take]; rfl)) ?_; (with_reducible refine (deadboltlaw03_alive.calls  true _ A47.out (by first | exact HT.out | (with_reducible refine Tabs.below HT.out ?_; repeat (first | (with_reducible first | exact HB.out | apply below_alloc | apply pw_below_drewN | apply below_drew1 | refine below_set ?_ (Aside0.out (by assumption))) | exact HB.out)) | (exact Tabs.below HT.out (by repeat (first | exact HB.out | exact Below.refl _ _ | apply below_alloc | apply pw_below_drewN | apply below_drew1 | refine below_set ?_ (Aside0.out (by assumption))))))).mono ?_); rintro e w60 ⟨rfl, hb⟩; refine ⟨_, rfl, ?_⟩; have n0_ := Aside0.mk (blk_below (g := gb103) (o := .cells #[.bool a2_0, .bool a2_1, .bool a2_2, .int .i64 a2_3] 23 (0, 0)) (by (with_reducible repeat (first | refine blk_drewN ?_ _ | refine blk_drew ?_ | refine blk_alloc ?_ _)); exact BK103.out) hb); have n1_ := Aside0.mk (blk_below (g := gb104) (o := .cells #[.bool a3_0, .bool a3_1, .bool a3_2, .int .i64 a3_3] 23 (0, 0)) (by (with_reducible repeat (first | refine blk_drewN ?_ _ | refine blk_drew ?_ | refine blk_alloc ?_ _)); exact BK104.out) hb); have n2_ := Aside0.mk (blk_below (g := gb110) (o := .cells #[.bool t105, .bool t106, .bool t107, .int .i64 t108] 23 (0, 0)) (by (with_reducible repeat (first | refine blk_drewN ?_ _ | refine blk_drew ?_ | refine blk_alloc ?_ _)); exact BK110.out) hb); have n3_ := Aside0.mk (blk_below (g := gb116) (o := .cells #[.bool t111, .bool t112, .bool t113, .int .i64 t114] 23 (0, 0)) (by (with_reducible repeat (first | refine blk_drewN ?_ _ | refine blk_drew ?_ | refine blk_alloc ?_ _)); exact BK116.out) hb); have n4_ := Aside0.mk (below_step (by repeat (first | (with_reducible first | exact HB.out | apply below_alloc | apply pw_below_drewN | apply below_drew1 | refine below_set ?_ GE103.out | refine below_set ?_ GE104.out | refine below_set ?_ GE110.out | refine below_set ?_ GE116.out) | exact HB.out)) hb); clear BK103; clear BK104; clear BK110; clear BK116; clear HB; have BK103 := n0_; have BK104 := n1_; have BK110 := n2_; have BK116 := n3_; have HB := n4_; clear n0_ n1_ n2_ n3_ n4_; (try clear hb); (try clear hb2); (try clear hk); (try clear hi); have hcz61_0 : w60.cell? ⟨gb103, 0, none⟩ = some (.bool a2_0) := (blk_cell BK103.out 0).trans rfl; have hcz61_1 : w60.cell? ⟨gb103, 1, none⟩ = some (.bool a2_1) := (blk_cell BK103.out 1).trans rfl; have hcz61_2 : w60.cell? ⟨gb103, 2, none⟩ = some (.bool a2_2) := (blk_cell BK103.out 2).trans rfl; have hcz61_3 : w60.cell? ⟨gb103, 3, none⟩ = some (.int .i64 a2_3) := (blk_cell BK103.out 3).trans rfl; have hfz61_0 := blk_frozen BK103.out 0; have hfz61_1 := blk_frozen BK103.out 1; have hfz61_2 := blk_frozen BK103.out 2; have hfz61_3 := blk_frozen BK103.out 3; have hcz62_0 : w60.cell? ⟨gb104, 0, none⟩ = some (.bool a3_0) := (blk_cell BK104.out 0).trans rfl; have hcz62_1 : w60.cell? ⟨gb104, 1, none⟩ = some (.bool a3_1) := (blk_cell BK104.out 1).trans rfl; have hcz62_2 : w60.cell? ⟨gb104, 2, none⟩ = some (.bool a3_2) := (blk_cell BK104.out 2).trans rfl; have hcz62_3 : w60.cell? ⟨gb104, 3, none⟩ = some (.int .i64 a3_3) := (blk_cell BK104.out 3).trans rfl; have hfz62_0 := blk_frozen BK104.out 0; have hfz62_1 := blk_frozen BK104.out 1; have hfz62_2 := blk_frozen BK104.out 2; have hfz62_3 := blk_frozen BK104.out 3))
              go_ret
              exact ⟨by first | rfl | (simp [errW_none, errW_some] <;> rfl) | (simp [*, errW_none, errW_some] <;> rfl), by repeat (first | (with_reducible first | exact HB.out | apply below_alloc | apply pw_below_drewN | apply below_drew1 | refine below_set ?_ GE103.out | refine below_set ?_ GE104.out | refine below_set ?_ GE110.out | refine below_set ?_ GE116.out) | exact HB.out)⟩
            · rw [if_neg c50] at H
              have c50b0 : (t124 == 0) = false := beq_eq_false_iff_ne.mpr c50
              have c50b1 : (t124 != 0) = true := bne_iff_ne.mpr c50
              obtain rfl := Option.some.inj H
              have hnb63 := NB103_104.out
              have hnc63 := NB104_103.out
              have hnb64 := NB103_110.out
              have hnc64 := NB110_103.out
              have hnb65 := NB103_116.out
              have hnc65 := NB116_103.out
              have hcz66_0 : wc.cell? ⟨gb103, 0, none⟩ = some (.bool a2_0) := (blk_cell BK103.out 0).trans rfl
              have hcz66_1 : wc.cell? ⟨gb103, 1, none⟩ = some (.bool a2_1) := (blk_cell BK103.out 1).trans rfl
              have hcz66_2 : wc.cell? ⟨gb103, 2, none⟩ = some (.bool a2_2) := (blk_cell BK103.out 2).trans rfl
              have hcz66_3 : wc.cell? ⟨gb103, 3, none⟩ = some (.int .i64 a2_3) := (blk_cell BK103.out 3).trans rfl
              have hfz66_0 := blk_frozen BK103.out 0
              have hfz66_1 := blk_frozen BK103.out 1
              have hfz66_2 := blk_frozen BK103.out 2
              have hfz66_3 := blk_frozen BK103.out 3
              go_wp2_with (first | ((with_reducible refine gate_callee (f := 9) rfl ?_); refine goesL_ (some 75) rfl rfl Tryd.func9 (by kernel_rfl) rfl #[.agg #[.bool a2_0, .bool a2_1, .bool a2_2, .int .i64 a2_3]] rfl (by (try simp only [List.map_toArray, List.map_cons, List.map_nil]); first | done | rfl | (simp only [List.length_drop, List.length_take]; rfl)) ?_; (with_reducible refine (flags_Pack.calls a2_0 a2_1 a2_2 a2_3 t121 t122 _ A45.out).mono ?_); rintro e w67 ⟨rfl, hb⟩; refine ⟨_, rfl, ?_⟩; have n0_ := Aside0.mk (blk_below (g := gb103) (o := .cells #[.bool a2_0, .bool a2_1, .bool a2_2, .int .i64 a2_3] 23 (0, 0)) (by (with_reducible repeat (first | refine blk_drewN ?_ _ | refine blk_drew ?_ | refine blk_alloc ?_ _)); exact BK103.out) hb); have n1_ := Aside0.mk (blk_below (g := gb104) (o := .cells #[.bool a3_0, .bool a3_1, .bool a3_2, .int .i64 a3_3] 23 (0, 0)) (by (with_reducible repeat (first | refine blk_drewN ?_ _ | refine blk_drew ?_ | refine blk_alloc ?_ _)); exact BK104.out) hb); have n2_ := Aside0.mk (blk_below (g := gb110) (o := .cells #[.bool t105, .bool t106, .bool t107, .int .i64 t108] 23 (0, 0)) (by (with_reducible repeat (first | refine blk_drewN ?_ _ | refine blk_drew ?_ | refine blk_alloc ?_ _)); exact BK110.out) hb); have n3_ := Aside0.mk (blk_below (g := gb116) (o := .cells #[.bool t111, .bool t112, .bool t113, .int .i64 t114] 23 (0, 0)) (by (with_reducible repeat (first | refine blk_drewN ?_ _ | refine blk_drew ?_ | refine blk_alloc ?_ _)); exact BK116.out) hb); have n4_ := Aside0.mk (below_step (by repeat (first | (with_reducible first | exact HB.out | apply below_alloc | apply pw_below_drewN | apply below_drew1 | refine below_set ?_ GE103.out | refine below_set ?_ GE104.out | refine below_set ?_ GE110.out | refine below_set ?_ GE116.out) | exact HB.out)) hb); clear BK103; clear BK104; clear BK110; clear BK116; clear HB; have BK103 := n0_; have BK104 := n1_; have BK110 := n2_; have BK116 := n3_; have HB := n4_; clear n0_ n1_ n2_ n3_ n4_; (try clear hb); (try clear hb2); (try clear hk); (try clear hi); have hnb68 := NB104_110.out; have hnc68 := NB110_104.out; have hnb69 := NB104_116.out; have hnc69 := NB116_104.out; have hcz70_0 : w67.cell? ⟨gb104, 0, none⟩ = some (.bool a3_0) := (blk_cell BK104.out 0).trans rfl; have hcz70_1 : w67.cell? ⟨gb104, 1, none⟩ = some (.bool a3_1) := (blk_cell BK104.out 1).trans rfl; have hcz70_2 : w67.cell? ⟨gb104, 2, none⟩ = some (.bool a3_2) := (blk_cell BK104.out 2).trans rfl; have hcz70_3 : w67.cell? ⟨gb104, 3, none⟩ = some (.int .i64 a3_3) := (blk_cell BK104.out 3).trans rfl; have hfz70_0 := blk_frozen BK104.out 0; have hfz70_1 := blk_frozen BK104.out 1; have hfz70_2 := blk_frozen BK104.out 2; have hfz70_3 := blk_frozen BK104.out 3) | ((with_reducible refine gate_callee (f := 9) rfl ?_); refine goesL_ (some 80) rfl rfl Tryd.func9 (by kernel_rfl) rfl #[.agg #[.bool a3_0, .bool a3_1, .bool a3_2, .int .i64 a3_3]] rfl (by (try simp only [List.map_toArray, List.map_cons, List.map_nil]); first | done | rfl | (simp only [List.length_drop, List.length_take]; rfl)) ?_; (with_reducible refine (flags_Pack.calls a3_0 a3_1 a3_2 a3_3 t123 t124 _ A46.out).mono ?_); rintro e w71 ⟨rfl, hb⟩; refine ⟨_, rfl, ?_⟩; have n0_ := Aside0.mk (blk_below (g := gb103) (o := .cells #[.bool a2_0, .bool a2_1, .bool a2_2, .int .i64 a2_3] 23 (0, 0)) (by (with_reducible repeat (first | refine blk_drewN ?_ _ | refine blk_drew ?_ | refine blk_alloc ?_ _)); exact BK103.out) hb); have n1_ := Aside0.mk (blk_below (g := gb104) (o := .cells #[.bool a3_0, .bool a3_1, .bool a3_2, .int .i64 a3_3] 23 (0, 0)) (by (with_reducible repeat (first | refine blk_drewN ?_ _ | refine blk_drew ?_ | refine blk_alloc ?_ _)); exact BK104.out) hb); have n2_ := Aside0.mk (blk_below (g := gb110) (o := .cells #[.bool t105, .bool t106, .bool t107, .int .i64 t108] 23 (0, 0)) (by (with_reducible repeat (first | refine blk_drewN ?_ _ | refine blk_drew ?_ | refine blk_alloc ?_ _)); exact BK110.out) hb); have n3_ := Aside0.mk (blk_below (g := gb116) (o := .cells #[.bool t111, .bool t112, .bool t113, .int .i64 t114] 23 (0, 0)) (by (with_reducible repeat (first | refine blk_drewN ?_ _ | refine blk_drew ?_ | refine blk_alloc ?_ _)); exact BK116.out) hb); have n4_ := Aside0.mk (below_step (by repeat (first | (with_reducible first | exact HB.out | apply below_alloc | apply pw_below_drewN | apply below_drew1 | refine below_set ?_ GE103.out | refine below_set ?_ GE104.out | refine below_set ?_ GE110.out | refine below_set ?_ GE116.out) | exact HB.out)) hb); clear BK103; clear BK104; clear BK110; clear BK116; clear HB; have BK103 := n0_; have BK104 := n1_; have BK110 := n2_; have BK116 := n3_; have HB := n4_; clear n0_ n1_ n2_ n3_ n4_; (try clear hb); (try clear hb2); (try clear hk); (try clear hi)) | ((with_reducible refine gate_callee (f := 10) rfl ?_); refine goesL_ (some 83) rfl rfl Tryd.func10 (by kernel_rfl) rfl #[] rfl (by (try simp only [List.map_toArray, List.map_cons, List.map_nil]); first | done | rfl | (simp only [List.length_drop, List.length_take]; rfl)) ?_; (with_reducible refine (deadboltlaw03_alive.calls  true _ A47.out (by first | exact HT.out | (with_reducible refine Tabs.below HT.out ?_; repeat (first | (with_reducible first | exact HB.out | apply below_alloc | apply pw_below_drewN | apply below_drew1 | refine below_set ?_ (Aside0.out (by assumption))) | exact HB.out)) | (exact Tabs.below HT.out (by repeat (first | exact HB.out | exact Below.refl _ _ | apply below_alloc | apply pw_below_drewN | apply below_drew1 | refine below_set ?_ (Aside0.out (by assumption))))))).mono ?_); rintro e w72 ⟨rfl, hb⟩; refine ⟨_, rfl, ?_⟩; have n0_ := Aside0.mk (blk_below (g := gb103) (o := .cells #[.bool a2_0, .bool a2_1, .bool a2_2, .int .i64 a2_3] 23 (0, 0)) (by (with_reducible repeat (first | refine blk_drewN ?_ _ | refine blk_drew ?_ | refine blk_alloc ?_ _)); exact BK103.out) hb); have n1_ := Aside0.mk (blk_below (g := gb104) (o := .cells #[.bool a3_0, .bool a3_1, .bool a3_2, .int .i64 a3_3] 23 (0, 0)) (by (with_reducible repeat (first | refine blk_drewN ?_ _ | refine blk_drew ?_ | refine blk_alloc ?_ _)); exact BK104.out) hb); have n2_ := Aside0.mk (blk_below (g := gb110) (o := .cells #[.bool t105, .bool t106, .bool t107, .int .i64 t108] 23 (0, 0)) (by (with_reducible repeat (first | refine blk_drewN ?_ _ | refine blk_drew ?_ | refine blk_alloc ?_ _)); exact BK110.out) hb); have n3_ := Aside0.mk (blk_below (g := gb116) (o := .cells #[.bool t111, .bool t112, .bool t113, .int .i64 t114] 23 (0, 0)) (by (with_reducible repeat (first | refine blk_drewN ?_ _ | refine blk_drew ?_ | refine blk_alloc ?_ _)); exact BK116.out) hb); have n4_ := Aside0.mk (below_step (by repeat (first | (with_reducible first | exact HB.out | apply below_alloc | apply pw_below_drewN | apply below_drew1 | refine below_set ?_ GE103.out | refine below_set ?_ GE104.out | refine below_set ?_ GE110.out | refine below_set ?_ GE116.out) | exact HB.out)) hb); clear BK103; clear BK104; clear BK110; clear BK116; clear HB; have BK103 := n0_; have BK104 := n1_; have BK110 := n2_; have BK116 := n3_; have HB := n4_; clear n0_ n1_ n2_ n3_ n4_; (try clear hb); (try clear hb2); (try clear hk); (try clear hi)))
              go_ret
              exact ⟨by first | rfl | (simp [errW_none, errW_some] <;> rfl) | (simp [*, errW_none, errW_some] <;> rfl), by repeat (first | (with_reducible first | exact HB.out | apply below_alloc | apply pw_below_drewN | apply below_drew1 | refine below_set ?_ GE103.out | refine below_set ?_ GE104.out | refine below_set ?_ GE110.out | refine below_set ?_ GE116.out) | exact HB.out)⟩
          · rw [if_neg c49] at H
            have c49b0 : (t122 == 0) = false := beq_eq_false_iff_ne.mpr c49
            have c49b1 : (t122 != 0) = true := bne_iff_ne.mpr c49
            obtain rfl := Option.some.inj H
            have hnb73 := NB103_104.out
            have hnc73 := NB104_103.out
            have hnb74 := NB103_110.out
            have hnc74 := NB110_103.out
            have hnb75 := NB103_116.out
            have hnc75 := NB116_103.out
            have hcz76_0 : wc.cell? ⟨gb103, 0, none⟩ = some (.bool a2_0) := (blk_cell BK103.out 0).trans rfl
            have hcz76_1 : wc.cell? ⟨gb103, 1, none⟩ = some (.bool a2_1) := (blk_cell BK103.out 1).trans rfl
            have hcz76_2 : wc.cell? ⟨gb103, 2, none⟩ = some (.bool a2_2) := (blk_cell BK103.out 2).trans rfl
            have hcz76_3 : wc.cell? ⟨gb103, 3, none⟩ = some (.int .i64 a2_3) := (blk_cell BK103.out 3).trans rfl
            have hfz76_0 := blk_frozen BK103.out 0
            have hfz76_1 := blk_frozen BK103.out 1
            have hfz76_2 := blk_frozen BK103.out 2
            have hfz76_3 := blk_frozen BK103.out 3
            go_wp2_with (first | ((with_reducible refine gate_callee (f := 9) rfl ?_); refine goesL_ (some 75) rfl rfl Tryd.func9 (by kernel_rfl) rfl #[.agg #[.bool a2_0, .bool a2_1, .bool a2_2, .int .i64 a2_3]] rfl (by (try simp only [List.map_toArray, List.map_cons, List.map_nil]); first | done | rfl | (simp only [List.length_drop, List.length_take]; rfl)) ?_; (with_reducible refine (flags_Pack.calls a2_0 a2_1 a2_2 a2_3 t121 t122 _ A45.out).mono ?_); rintro e w77 ⟨rfl, hb⟩; refine ⟨_, rfl, ?_⟩; have n0_ := Aside0.mk (blk_below (g := gb103) (o := .cells #[.bool a2_0, .bool a2_1, .bool a2_2, .int .i64 a2_3] 23 (0, 0)) (by (with_reducible repeat (first | refine blk_drewN ?_ _ | refine blk_drew ?_ | refine blk_alloc ?_ _)); exact BK103.out) hb); have n1_ := Aside0.mk (blk_below (g := gb104) (o := .cells #[.bool a3_0, .bool a3_1, .bool a3_2, .int .i64 a3_3] 23 (0, 0)) (by (with_reducible repeat (first | refine blk_drewN ?_ _ | refine blk_drew ?_ | refine blk_alloc ?_ _)); exact BK104.out) hb); have n2_ := Aside0.mk (blk_below (g := gb110) (o := .cells #[.bool t105, .bool t106, .bool t107, .int .i64 t108] 23 (0, 0)) (by (with_reducible repeat (first | refine blk_drewN ?_ _ | refine blk_drew ?_ | refine blk_alloc ?_ _)); exact BK110.out) hb); have n3_ := Aside0.mk (blk_below (g := gb116) (o := .cells #[.bool t111, .bool t112, .bool t113, .int .i64 t114] 23 (0, 0)) (by (with_reducible repeat (first | refine blk_drewN ?_ _ | refine blk_drew ?_ | refine blk_alloc ?_ _)); exact BK116.out) hb); have n4_ := Aside0.mk (below_step (by repeat (first | (with_reducible first | exact HB.out | apply below_alloc | apply pw_below_drewN | apply below_drew1 | refine below_set ?_ GE103.out | refine below_set ?_ GE104.out | refine below_set ?_ GE110.out | refine below_set ?_ GE116.out) | exact HB.out)) hb); clear BK103; clear BK104; clear BK110; clear BK116; clear HB; have BK103 := n0_; have BK104 := n1_; have BK110 := n2_; have BK116 := n3_; have HB := n4_; clear n0_ n1_ n2_ n3_ n4_; (try clear hb); (try clear hb2); (try clear hk); (try clear hi); have hnb78 := NB104_110.out; have hnc78 := NB110_104.out; have hnb79 := NB104_116.out; have hnc79 := NB116_104.out; have hcz80_0 : w77.cell? ⟨gb104, 0, none⟩ = some (.bool a3_0) := (blk_cell BK104.out 0).trans rfl; have hcz80_1 : w77.cell? ⟨gb104, 1, none⟩ = some (.bool a3_1) := (blk_cell BK104.out 1).trans rfl; have hcz80_2 : w77.cell? ⟨gb104, 2, none⟩ = some (.bool a3_2) := (blk_cell BK104.out 2).trans rfl; have hcz80_3 : w77.cell? ⟨gb104, 3, none⟩ = some (.int .i64 a3_3) := (blk_cell BK104.out 3).trans rfl; have hfz80_0 := blk_frozen BK104.out 0; have hfz80_1 := blk_frozen BK104.out 1; have hfz80_2 := blk_frozen BK104.out 2; have hfz80_3 := blk_frozen BK104.out 3) | ((with_reducible refine gate_callee (f := 9) rfl ?_); refine goesL_ (some 80) rfl rfl Tryd.func9 (by kernel_rfl) rfl #[.agg #[.bool a3_0, .bool a3_1, .bool a3_2, .int .i64 a3_3]] rfl (by (try simp only [List.map_toArray, List.map_cons, List.map_nil]); first | done | rfl | (simp only [List.length_drop, List.length_take]; rfl)) ?_; (with_reducible refine (flags_Pack.calls a3_0 a3_1 a3_2 a3_3 t123 t124 _ A46.out).mono ?_); rintro e w81 ⟨rfl, hb⟩; refine ⟨_, rfl, ?_⟩; have n0_ := Aside0.mk (blk_below (g := gb103) (o := .cells #[.bool a2_0, .bool a2_1, .bool a2_2, .int .i64 a2_3] 23 (0, 0)) (by (with_reducible repeat (first | refine blk_drewN ?_ _ | refine blk_drew ?_ | refine blk_alloc ?_ _)); exact BK103.out) hb); have n1_ := Aside0.mk (blk_below (g := gb104) (o := .cells #[.bool a3_0, .bool a3_1, .bool a3_2, .int .i64 a3_3] 23 (0, 0)) (by (with_reducible repeat (first | refine blk_drewN ?_ _ | refine blk_drew ?_ | refine blk_alloc ?_ _)); exact BK104.out) hb); have n2_ := Aside0.mk (blk_below (g := gb110) (o := .cells #[.bool t105, .bool t106, .bool t107, .int .i64 t108] 23 (0, 0)) (by (with_reducible repeat (first | refine blk_drewN ?_ _ | refine blk_drew ?_ | refine blk_alloc ?_ _)); exact BK110.out) hb); have n3_ := Aside0.mk (blk_below (g := gb116) (o := .cells #[.bool t111, .bool t112, .bool t113, .int .i64 t114] 23 (0, 0)) (by (with_reducible repeat (first | refine blk_drewN ?_ _ | refine blk_drew ?_ | refine blk_alloc ?_ _)); exact BK116.out) hb); have n4_ := Aside0.mk (below_step (by repeat (first | (with_reducible first | exact HB.out | apply below_alloc | apply pw_below_drewN | apply below_drew1 | refine below_set ?_ GE103.out | refine below_set ?_ GE104.out | refine below_set ?_ GE110.out | refine below_set ?_ GE116.out) | exact HB.out)) hb); clear BK103; clear BK104; clear BK110; clear BK116; clear HB; have BK103 := n0_; have BK104 := n1_; have BK110 := n2_; have BK116 := n3_; have HB := n4_; clear n0_ n1_ n2_ n3_ n4_; (try clear hb); (try clear hb2); (try clear hk); (try clear hi)) | ((with_reducible refine gate_callee (f := 10) rfl ?_); refine goesL_ (some 83) rfl rfl Tryd.func10 (by kernel_rfl) rfl #[] rfl (by (try simp only [List.map_toArray, List.map_cons, List.map_nil]); first | done | rfl | (simp only [List.length_drop, List.length_take]; rfl)) ?_; (with_reducible refine (deadboltlaw03_alive.calls  true _ A47.out (by first | exact HT.out | (with_reducible refine Tabs.below HT.out ?_; repeat (first | (with_reducible first | exact HB.out | apply below_alloc | apply pw_below_drewN | apply below_drew1 | refine below_set ?_ (Aside0.out (by assumption))) | exact HB.out)) | (exact Tabs.below HT.out (by repeat (first | exact HB.out | exact Below.refl _ _ | apply below_alloc | apply pw_below_drewN | apply below_drew1 | refine below_set ?_ (Aside0.out (by assumption))))))).mono ?_); rintro e w82 ⟨rfl, hb⟩; refine ⟨_, rfl, ?_⟩; have n0_ := Aside0.mk (blk_below (g := gb103) (o := .cells #[.bool a2_0, .bool a2_1, .bool a2_2, .int .i64 a2_3] 23 (0, 0)) (by (with_reducible repeat (first | refine blk_drewN ?_ _ | refine blk_drew ?_ | refine blk_alloc ?_ _)); exact BK103.out) hb); have n1_ := Aside0.mk (blk_below (g := gb104) (o := .cells #[.bool a3_0, .bool a3_1, .bool a3_2, .int .i64 a3_3] 23 (0, 0)) (by (with_reducible repeat (first | refine blk_drewN ?_ _ | refine blk_drew ?_ | refine blk_alloc ?_ _)); exact BK104.out) hb); have n2_ := Aside0.mk (blk_below (g := gb110) (o := .cells #[.bool t105, .bool t106, .bool t107, .int .i64 t108] 23 (0, 0)) (by (with_reducible repeat (first | refine blk_drewN ?_ _ | refine blk_drew ?_ | refine blk_alloc ?_ _)); exact BK110.out) hb); have n3_ := Aside0.mk (blk_below (g := gb116) (o := .cells #[.bool t111, .bool t112, .bool t113, .int .i64 t114] 23 (0, 0)) (by (with_reducible repeat (first | refine blk_drewN ?_ _ | refine blk_drew ?_ | refine blk_alloc ?_ _)); exact BK116.out) hb); have n4_ := Aside0.mk (below_step (by repeat (first | (with_reducible first | exact HB.out | apply below_alloc | apply pw_below_drewN | apply below_drew1 | refine below_set ?_ GE103.out | refine below_set ?_ GE104.out | refine below_set ?_ GE110.out | refine below_set ?_ GE116.out) | exact HB.out)) hb); clear BK103; clear BK104; clear BK110; clear BK116; clear HB; have BK103 := n0_; have BK104 := n1_; have BK110 := n2_; have BK116 := n3_; have HB := n4_; clear n0_ n1_ n2_ n3_ n4_; (try clear hb); (try clear hb2); (try clear hk); (try clear hi)))
            go_ret
            exact ⟨by first | rfl | (simp [errW_none, errW_some] <;> rfl) | (simp [*, errW_none, errW_some] <;> rfl), by repeat (first | (with_reducible first | exact HB.out | apply below_alloc | apply pw_below_drewN | apply below_drew1 | refine below_set ?_ GE103.out | refine below_set ?_ GE104.out | refine below_set ?_ GE110.out | refine below_set ?_ GE116.out) | exact HB.out)⟩
        · replace c48 := Bool.eq_false_iff.mpr c48
          subst c48
          have H1 : (some false) = some r := by rw [if_neg (show ¬ (false = true) by decide)] at H; exact H
          clear H
          have H := H1
          clear H1
          obtain rfl := Option.some.inj H
          have hnb83 := NB103_104.out
          have hnc83 := NB104_103.out
          have hnb84 := NB103_110.out
          have hnc84 := NB110_103.out
          have hnb85 := NB103_116.out
          have hnc85 := NB116_103.out
          have hcz86_0 : wc.cell? ⟨gb103, 0, none⟩ = some (.bool a2_0) := (blk_cell BK103.out 0).trans rfl
          have hcz86_1 : wc.cell? ⟨gb103, 1, none⟩ = some (.bool a2_1) := (blk_cell BK103.out 1).trans rfl
          have hcz86_2 : wc.cell? ⟨gb103, 2, none⟩ = some (.bool a2_2) := (blk_cell BK103.out 2).trans rfl
          have hcz86_3 : wc.cell? ⟨gb103, 3, none⟩ = some (.int .i64 a2_3) := (blk_cell BK103.out 3).trans rfl
          have hfz86_0 := blk_frozen BK103.out 0
          have hfz86_1 := blk_frozen BK103.out 1
          have hfz86_2 := blk_frozen BK103.out 2
          have hfz86_3 := blk_frozen BK103.out 3
          go_wp2_with (first | ((with_reducible refine gate_callee (f := 9) rfl ?_); refine goesL_ (some 75) rfl rfl Tryd.func9 (by kernel_rfl) rfl #[.agg #[.bool a2_0, .bool a2_1, .bool a2_2, .int .i64 a2_3]] rfl (by (try simp only [List.map_toArray, List.map_cons, List.map_nil]); first | done | rfl | (simp only [List.length_drop, List.length_take]; rfl)) ?_; (with_reducible refine (flags_Pack.calls a2_0 a2_1 a2_2 a2_3 t121 t122 _ A45.out).mono ?_); rintro e w87 ⟨rfl, hb⟩; refine ⟨_, rfl, ?_⟩; have n0_ := Aside0.mk (blk_below (g := gb103) (o := .cells #[.bool a2_0, .bool a2_1, .bool a2_2, .int .i64 a2_3] 23 (0, 0)) (by (with_reducible repeat (first | refine blk_drewN ?_ _ | refine blk_drew ?_ | refine blk_alloc ?_ _)); exact BK103.out) hb); have n1_ := Aside0.mk (blk_below (g := gb104) (o := .cells #[.bool a3_0, .bool a3_1, .bool a3_2, .int .i64 a3_3] 23 (0, 0)) (by (with_reducible repeat (first | refine blk_drewN ?_ _ | refine blk_drew ?_ | refine blk_alloc ?_ _)); exact BK104.out) hb); have n2_ := Aside0.mk (blk_below (g := gb110) (o := .cells #[.bool t105, .bool t106, .bool t107, .int .i64 t108] 23 (0, 0)) (by (with_reducible repeat (first | refine blk_drewN ?_ _ | refine blk_drew ?_ | refine blk_alloc ?_ _)); exact BK110.out) hb); have n3_ := Aside0.mk (blk_below (g := gb116) (o := .cells #[.bool t111, .bool t112, .bool t113, .int .i64 t114] 23 (0, 0)) (by (with_reducible repeat (first | refine blk_drewN ?_ _ | refine blk_drew ?_ | refine blk_alloc ?_ _)); exact BK116.out) hb); have n4_ := Aside0.mk (below_step (by repeat (first | (with_reducible first | exact HB.out | apply below_alloc | apply pw_below_drewN | apply below_drew1 | refine below_set ?_ GE103.out | refine below_set ?_ GE104.out | refine below_set ?_ GE110.out | refine below_set ?_ GE116.out) | exact HB.out)) hb); clear BK103; clear BK104; clear BK110; clear BK116; clear HB; have BK103 := n0_; have BK104 := n1_; have BK110 := n2_; have BK116 := n3_; have HB := n4_; clear n0_ n1_ n2_ n3_ n4_; (try clear hb); (try clear hb2); (try clear hk); (try clear hi); have hnb88 := NB104_110.out; have hnc88 := NB110_104.out; have hnb89 := NB104_116.out; have hnc89 := NB116_104.out; have hcz90_0 : w87.cell? ⟨gb104, 0, none⟩ = some (.bool a3_0) := (blk_cell BK104.out 0).trans rfl; have hcz90_1 : w87.cell? ⟨gb104, 1, none⟩ = some (.bool a3_1) := (blk_cell BK104.out 1).trans rfl; have hcz90_2 : w87.cell? ⟨gb104, 2, none⟩ = some (.bool a3_2) := (blk_cell BK104.out 2).trans rfl; have hcz90_3 : w87.cell? ⟨gb104, 3, none⟩ = some (.int .i64 a3_3) := (blk_cell BK104.out 3).trans rfl; have hfz90_0 := blk_frozen BK104.out 0; have hfz90_1 := blk_frozen BK104.out 1; have hfz90_2 := blk_frozen BK104.out 2; have hfz90_3 := blk_frozen BK104.out 3) | ((with_reducible refine gate_callee (f := 9) rfl ?_); refine goesL_ (some 80) rfl rfl Tryd.func9 (by kernel_rfl) rfl #[.agg #[.bool a3_0, .bool a3_1, .bool a3_2, .int .i64 a3_3]] rfl (by (try simp only [List.map_toArray, List.map_cons, List.map_nil]); first | done | rfl | (simp only [List.length_drop, List.length_take]; rfl)) ?_; (with_reducible refine (flags_Pack.calls a3_0 a3_1 a3_2 a3_3 t123 t124 _ A46.out).mono ?_); rintro e w91 ⟨rfl, hb⟩; refine ⟨_, rfl, ?_⟩; have n0_ := Aside0.mk (blk_below (g := gb103) (o := .cells #[.bool a2_0, .bool a2_1, .bool a2_2, .int .i64 a2_3] 23 (0, 0)) (by (with_reducible repeat (first | refine blk_drewN ?_ _ | refine blk_drew ?_ | refine blk_alloc ?_ _)); exact BK103.out) hb); have n1_ := Aside0.mk (blk_below (g := gb104) (o := .cells #[.bool a3_0, .bool a3_1, .bool a3_2, .int .i64 a3_3] 23 (0, 0)) (by (with_reducible repeat (first | refine blk_drewN ?_ _ | refine blk_drew ?_ | refine blk_alloc ?_ _)); exact BK104.out) hb); have n2_ := Aside0.mk (blk_below (g := gb110) (o := .cells #[.bool t105, .bool t106, .bool t107, .int .i64 t108] 23 (0, 0)) (by (with_reducible repeat (first | refine blk_drewN ?_ _ | refine blk_drew ?_ | refine blk_alloc ?_ _)); exact BK110.out) hb); have n3_ := Aside0.mk (blk_below (g := gb116) (o := .cells #[.bool t111, .bool t112, .bool t113, .int .i64 t114] 23 (0, 0)) (by (with_reducible repeat (first | refine blk_drewN ?_ _ | refine blk_drew ?_ | refine blk_alloc ?_ _)); exact BK116.out) hb); have n4_ := Aside0.mk (below_step (by repeat (first | (with_reducible first | exact HB.out | apply below_alloc | apply pw_below_drewN | apply below_drew1 | refine below_set ?_ GE103.out | refine below_set ?_ GE104.out | refine below_set ?_ GE110.out | refine below_set ?_ GE116.out) | exact HB.out)) hb); clear BK103; clear BK104; clear BK110; clear BK116; clear HB; have BK103 := n0_; have BK104 := n1_; have BK110 := n2_; have BK116 := n3_; have HB := n4_; clear n0_ n1_ n2_ n3_ n4_; (try clear hb); (try clear hb2); (try clear hk); (try clear hi)) | ((with_reducible refine gate_callee (f := 10) rfl ?_); refine goesL_ (some 83) rfl rfl Tryd.func10 (by kernel_rfl) rfl #[] rfl (by (try simp only [List.map_toArray, List.map_cons, List.map_nil]); first | done | rfl | (simp only [List.length_drop, List.length_take]; rfl)) ?_; (with_reducible refine (deadboltlaw03_alive.calls  false _ A47.out (by first | exact HT.out | (with_reducible refine Tabs.below HT.out ?_; repeat (first | (with_reducible first | exact HB.out | apply below_alloc | apply pw_below_drewN | apply below_drew1 | refine below_set ?_ (Aside0.out (by assumption))) | exact HB.out)) | (exact Tabs.below HT.out (by repeat (first | exact HB.out | exact Below.refl _ _ | apply below_alloc | apply pw_below_drewN | apply below_drew1 | refine below_set ?_ (Aside0.out (by assumption))))))).mono ?_); rintro e w92 ⟨rfl, hb⟩; refine ⟨_, rfl, ?_⟩; have n0_ := Aside0.mk (blk_below (g := gb103) (o := .cells #[.bool a2_0, .bool a2_1, .bool a2_2, .int .i64 a2_3] 23 (0, 0)) (by (with_reducible repeat (first | refine blk_drewN ?_ _ | refine blk_drew ?_ | refine blk_alloc ?_ _)); exact BK103.out) hb); have n1_ := Aside0.mk (blk_below (g := gb104) (o := .cells #[.bool a3_0, .bool a3_1, .bool a3_2, .int .i64 a3_3] 23 (0, 0)) (by (with_reducible repeat (first | refine blk_drewN ?_ _ | refine blk_drew ?_ | refine blk_alloc ?_ _)); exact BK104.out) hb); have n2_ := Aside0.mk (blk_below (g := gb110) (o := .cells #[.bool t105, .bool t106, .bool t107, .int .i64 t108] 23 (0, 0)) (by (with_reducible repeat (first | refine blk_drewN ?_ _ | refine blk_drew ?_ | refine blk_alloc ?_ _)); exact BK110.out) hb); have n3_ := Aside0.mk (blk_below (g := gb116) (o := .cells #[.bool t111, .bool t112, .bool t113, .int .i64 t114] 23 (0, 0)) (by (with_reducible repeat (first | refine blk_drewN ?_ _ | refine blk_drew ?_ | refine blk_alloc ?_ _)); exact BK116.out) hb); have n4_ := Aside0.mk (below_step (by repeat (first | (with_reducible first | exact HB.out | apply below_alloc | apply pw_below_drewN | apply below_drew1 | refine below_set ?_ GE103.out | refine below_set ?_ GE104.out | refine below_set ?_ GE110.out | refine below_set ?_ GE116.out) | exact HB.out)) hb); clear BK103; clear BK104; clear BK110; clear BK116; clear HB; have BK103 := n0_; have BK104 := n1_; have BK110 := n2_; have BK116 := n3_; have HB := n4_; clear n0_ n1_ n2_ n3_ n4_; (try clear hb); (try clear hb2); (try clear hk); (try clear hi)))
          go_ret
          exact ⟨by first | rfl | (simp [errW_none, errW_some] <;> rfl) | (simp [*, errW_none, errW_some] <;> rfl), by repeat (first | (with_reducible first | exact HB.out | apply below_alloc | apply pw_below_drewN | apply below_drew1 | refine below_set ?_ GE103.out | refine below_set ?_ GE104.out | refine below_set ?_ GE110.out | refine below_set ?_ GE116.out) | exact HB.out)⟩

end Go.Proofs.YtiejbkplnbefkaaDoor.PFlagsApart
