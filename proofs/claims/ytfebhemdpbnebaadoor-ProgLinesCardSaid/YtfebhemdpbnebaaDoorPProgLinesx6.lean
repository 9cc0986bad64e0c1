/- The functions that a law reaches, as Lean functions, and for each a proof that the call hands back just what its Lean function says; no conditions beyond each statement. Written by a program of this session (a changed copy of the print). -/
import Derived.Test.YtfebhemdpbnebaaDoorPProgLinesx0
import Derived.Test.YtfebhemdpbnebaaDoorPProgLinesx1
import Derived.Test.YtfebhemdpbnebaaDoorPProgLinesx5
namespace Go.Proofs.YtfebhemdpbnebaaDoor.PProgLines
open Go.Proofs.YtfebhemdpbnebaaDoor.Hand
open Go.RowKit Go.Proofs.YtfebhemdpbnebaaDoorW.PrintWords Go.Proofs.YtfebhemdpbnebaaDoorW.PrintLast Go.Proofs.YtfebhemdpbnebaaDoorW.PrintMore
attribute [local go_sem] max2_int min2_int max_two min_two max_three min_three max_four min_four   -- for this text's walks alone
set_option linter.unusedVariables false
set_option linter.unusedSimpArgs false

attribute [local go_sem high] eqA32
/-! ### deadboltlaw12_alive: function 10 -/
def deadboltlaw12_alive.f (k : Nat)  : Option (Bool) := (prog_Parse.f k (⟨#[108, 111, 99, 107, 32, 48, 59, 32, 119, 111, 114, 107, 32, 53, 59, 32, 117, 110, 108, 111, 99, 107, 32, 48]⟩ : ByteArray)).bind fun bt180 => (if bt180.2.2 = 0 then (if bt180.2.1 = 0 then (if (bt180.1.length : Int) = 1 then (if 0 < (bt180.1.length : Int) then (if ((rd_L4 bt180.1 0).length : Int) = 3 then (if 1 < ((rd_L4 bt180.1 0).length : Int) then (if (((rd_T32 (rd_L4 bt180.1 0) 1).f0) == 3 && (((rd_T32 (rd_L4 bt180.1 0) 1).f1) == 5)) = true then ((prog_Tidy.f k (rd_L4 bt180.1 0)).bind fun t189 => (some t189)) else (some false)) else (none)) else (some false)) else (none)) else (some false)) else (some false)) else (some false))
theorem deadboltlaw12_alive.mono : ∀ k, LeO (deadboltlaw12_alive.f k ) (deadboltlaw12_alive.f (k + 1) ) := by
  intro  k
  unfold deadboltlaw12_alive.f
  repeat' first
      | (with_reducible exact prog_Parse.mono _ _)
      | (with_reducible exact prog_Tidy.mono _ _)
      | (with_reducible exact LeO.refl _)
      | (with_reducible exact LeO.none _)
      | (with_reducible refine LeO.ite ?_ ?_)
      | (with_reducible refine LeO.bind ?_ (fun _ => ?_))
      | exact prog_Parse.mono _ _
      | exact prog_Tidy.mono _ _
      | exact LeO.none _
      | refine LeO.ite ?_ ?_
      | refine LeO.bind ?_ (fun _ => ?_)
set_option maxHeartbeats 8000000 in
set_option maxRecDepth 100000 in
theorem deadboltlaw12_alive.calls (k : Nat)  (r : Bool) (w : World) (h : deadboltlaw12_alive.f k  = some r) (hT : Laid w) :
    Calls Tryd.prog 10 #[] w fun e w' => e = .returned (.bool r) ∧ Below w.heap.size w w' := by
  have HT := Aside0.mk hT
  clear hT
  have hu32 := Tryd.underlying32
  have HB := Aside0.mk (Below.refl w.heap.size w)
  have H : ((prog_Parse.f k (⟨#[108, 111, 99, 107, 32, 48, 59, 32, 119, 111, 114, 107, 32, 53, 59, 32, 117, 110, 108, 111, 99, 107, 32, 48]⟩ : ByteArray)).bind fun bt180 => (if bt180.2.2 = 0 then (if bt180.2.1 = 0 then (if (bt180.1.length : Int) = 1 then (if 0 < (bt180.1.length : Int) then (if ((rd_L4 bt180.1 0).length : Int) = 3 then (if 1 < ((rd_L4 bt180.1 0).length : Int) then (if (((rd_T32 (rd_L4 bt180.1 0) 1).f0) == 3 && (((rd_T32 (rd_L4 bt180.1 0) 1).f1) == 5)) = true then ((prog_Tidy.f k (rd_L4 bt180.1 0)).bind fun t189 => (some t189)) else (some false)) else (none)) else (some false)) else (none)) else (some false)) else (some false)) else (some false))) = some r := h
  clear h
  replace H := Option.bind_eq_some_iff.mp H
  obtain ⟨⟨t180, t181, t182⟩, A10, H⟩ := H
  replace H : (if t182 = 0 then (if t181 = 0 then (if (t180.length : Int) = 1 then (if 0 < (t180.length : Int) then (if ((rd_L4 t180 0).length : Int) = 3 then (if 1 < ((rd_L4 t180 0).length : Int) then (if (((rd_T32 (rd_L4 t180 0) 1).f0) == 3 && (((rd_T32 (rd_L4 t180 0) 1).f1) == 5)) = true then ((prog_Tidy.f k (rd_L4 t180 0)).bind fun t189 => (some t189)) else (some false)) else (none)) else (some false)) else (none)) else (some false)) else (some false)) else (some false)) = some r := H
  have A1 := Aside0.mk A10
  clear A10
  by_cases c2 : t182 = 0
  · rw [if_pos c2] at H
    have c2b0 : (t182 == 0) = true := beq_iff_eq.mpr c2
    have c2b1 : (t182 != 0) = false := bne_eq_false_iff_eq.mpr c2
    clear c2
    by_cases c3 : t181 = 0
    · rw [if_pos c3] at H
      have c3b0 : (t181 == 0) = true := beq_iff_eq.mpr c3
      have c3b1 : (t181 != 0) = false := bne_eq_false_iff_eq.mpr c3
      clear c3
      by_cases c4 : (t180.length : Int) = 1
      · rw [if_pos c4] at H
        have c4b0 : ((t180.length : Int) == 1) = true := beq_iff_eq.mpr c4
        have c4b1 : ((t180.length : Int) != 1) = false := bne_eq_false_iff_eq.mpr c4
        clear c4
        by_cases c5 : 0 < (t180.length : Int)
        · rw [if_pos c5] at H
          have c5b0 : decide (0 < (t180.length : Int)) = true := decide_eq_true c5
          have c5b1 : decide (0 < t180.length) = true := decide_eq_true (by omega)
          clear c5
          by_cases c6 : ((rd_L4 t180 0).length : Int) = 3
          · rw [if_pos c6] at H
            have c6b0 : (((rd_L4 t180 0).length : Int) == 3) = true := beq_iff_eq.mpr c6
            have c6b1 : (((rd_L4 t180 0).length : Int) != 3) = false := bne_eq_false_iff_eq.mpr c6
            clear c6
            by_cases c7 : 1 < ((rd_L4 t180 0).length : Int)
            · rw [if_pos c7] at H
              have c7b0 : decide (1 < ((rd_L4 t180 0).length : Int)) = true := decide_eq_true c7
              have c7b1 : decide (1 < (rd_L4 t180 0).length) = true := decide_eq_true (by omega)
              clear c7
              by_cases c8 : (((rd_T32 (rd_L4 t180 0) 1).f0) == 3 && (((rd_T32 (rd_L4 t180 0) 1).f1) == 5)) = true
              · rw [if_pos c8] at H
                have c8b0 : (((rd_T32 (rd_L4 t180 0) 1).f0) == 3 && (((rd_T32 (rd_L4 t180 0) 1).f1) == 5)) = true := c8
                (try (have c8b1 : decide (((rd_T32 (rd_L4 t180 0) 1).f0) = 3 && (((rd_T32 (rd_L4 t180 0) 1).f1) == 5)) = true := by simpa using c8))
                (try (have c8b2 : (((rd_T32 (rd_L4 t180 0) 1).f0) == 3 && (((rd_T32 (rd_L4 t180 0) 1).f1) == 5)) = true := by simpa using c8))
                clear c8
                replace H := Option.bind_eq_some_iff.mp H
                obtain ⟨t189, A90, H⟩ := H
                replace H : (some t189) = some r := H
                have A9 := Aside0.mk A90
                clear A90
                obtain rfl := Option.some.inj H
                go_enter Tryd.func10, Tryd.ntmps10
                go_wp2_with (first | ((with_reducible refine gate_callee (f := 8) rfl ?_); refine goesL_ (some 5) rfl rfl Tryd.func8 (by kernel_rfl) rfl #[.string (⟨#[108, 111, 99, 107, 32, 48, 59, 32, 119, 111, 114, 107, 32, 53, 59, 32, 117, 110, 108, 111, 99, 107, 32, 48]⟩ : ByteArray)] rfl (by (try simp only [List.map_toArray, List.map_cons, List.map_nil]); first | done | rfl | (simp only [List.length_drop, List.length_take]; rfl)) ?_; (with_reducible refine (prog_Parse.calls k (⟨#[108, 111, 99, 107, 32, 48, 59, 32, 119, 111, 114, 107, 32, 53, 59, 32, 117, 110, 108, 111, 99, 107, 32, 48]⟩ : ByteArray) t180 t181 t182 _ A1.out (by first | exact HT.out | (with_reducible refine Laid.below HT.out ?_; repeat (first | (with_reducible first | exact HB.out | apply below_alloc | apply pw_below_drewN | apply below_drew1 | refine below_set ?_ (Aside0.out (by assumption))) | exact HB.out)) | (exact Laid.below HT.out (by repeat (first | exact HB.out | exact Below.refl _ _ | apply below_alloc | apply pw_below_drewN | apply below_drew1 | refine below_set ?_ (Aside0.out (by assumption))))))).mono ?_); rintro e w10 ⟨v183, rfl, ho0, hb⟩; refine ⟨_, rfl, ?_⟩; have n0_ := Aside0.mk (Kd.S_lower ho0 (below_size (by repeat (first | (with_reducible first | exact HB.out | apply below_alloc | apply pw_below_drewN | apply below_drew1) | exact HB.out)))); have n1_ := Aside0.mk (below_step (by repeat (first | (with_reducible first | exact HB.out | apply below_alloc | apply pw_below_drewN | apply below_drew1) | exact HB.out)) hb); clear HB; have HO184 := n0_; have HB := n1_; clear n0_ n1_; (try clear hb); (try clear hb2); (try clear hk); (try clear hi); (try clear ho0); obtain ⟨Ao11, co11, eo11⟩ := Kd.S_slice HO184.out; subst eo11; have p185 : 0 ≤ (0 : Int) := (by omega); have q185 : 0 < (t180.length : Int) := of_decide_eq_true (by first | (with_reducible assumption) | assumption); obtain ⟨ad185, A185_0, c185_0, e185, hx185_0, hl185_0, hi185_0⟩ := at_L4 (Kd.S_reads' HO184.out).2.2 0 p185 q185; cases e185; obtain ⟨ce185, hce185, hMe185, hcc185⟩ := Kd.S_get HO184.out [] 0 p185 (by first | exact q185 | exact of_decide_eq_true (by first | (with_reducible assumption) | assumption) | (have e_ := (Kd.S_reads' HO184.out).1; omega)); obtain ⟨ve185_0, rfl, ge185_0⟩ := hMe185; have hv185_0 := hcc185 0 _ rfl; rw [Nat.add_zero, show ((Kd.slice 32 k32)).sz = 1 from rfl, Nat.mul_one] at hv185_0; replace hv185_0 := Option.some.inj (hv185_0.symm.trans hx185_0); rw [hv185_0] at ge185_0; have HL185_0 := Aside0.mk (show Kd.R k32 32 _ _ _ _ (rd_L4 t180 0) from ge185_0); clear hv185_0 ge185_0; clear hcc185 hce185; have qi185 : (0 < t180.length) = True := eq_true (by omega); (try rw [show ((0 : Int)).toNat = 0 from rfl] at hx185_0); (try rw [Addr.add_zero'] at hx185_0); have HR185_0 := Aside0.mk hi185_0; have HC185_0 := Aside0.mk hl185_0; clear hi185_0 hl185_0; replace p185 := eq_true p185; replace q185 := eq_true q185; have p186 : 0 ≤ (0 : Int) := (by omega); have q186 : 0 < (t180.length : Int) := of_decide_eq_true (by first | (with_reducible assumption) | assumption); obtain ⟨ad186, A186_0, c186_0, e186, hx186_0, hl186_0, hi186_0⟩ := at_L4 (Kd.S_reads' HO184.out).2.2 0 p186 q186; obtain rfl : ad185 = ad186 := (by injection e186); obtain ⟨ce186, hce186, hMe186, hcc186⟩ := Kd.S_get HO184.out [] 0 p186 (by first | exact q186 | exact of_decide_eq_true (by first | (with_reducible assumption) | assumption) | (have e_ := (Kd.S_reads' HO184.out).1; omega)); obtain ⟨ve186_0, rfl, ge186_0⟩ := hMe186; have hv186_0 := hcc186 0 _ rfl; rw [Nat.add_zero, show ((Kd.slice 32 k32)).sz = 1 from rfl, Nat.mul_one] at hv186_0; replace hv186_0 := Option.some.inj (hv186_0.symm.trans hx186_0); rw [hv186_0] at ge186_0; have HL186_0 := Aside0.mk (show Kd.R k32 32 _ _ _ _ (rd_L4 t180 0) from ge186_0); clear hv186_0 ge186_0; clear hcc186 hce186; have qi186 : (0 < t180.length) = True := eq_true (by omega); (try rw [show ((0 : Int)).toNat = 0 from rfl] at hx186_0); (try rw [Addr.add_zero'] at hx186_0); have HR186_0 := Aside0.mk hi186_0; have HC186_0 := Aside0.mk hl186_0; clear hi186_0 hl186_0; replace p186 := eq_true p186; replace q186 := eq_true q186; have ea_ := Option.some.inj (hx185_0.symm.trans hx186_0); injection ea_ with ea_ en_ ec_; subst ea_; subst ec_; clear en_; have p187 : 0 ≤ (1 : Int) := (by omega); have q187 : 1 < ((rd_L4 t180 0).length : Int) := of_decide_eq_true (by first | (with_reducible assumption) | assumption); obtain ⟨ad187, e187, hx187_0, hx187_1⟩ := at_T32 (by repeat (first | (with_reducible exact HR186_0.out) | (with_reducible refine Kd.C_alloc ?_ _) | (with_reducible refine Kd.C_drewN ?_ _) | (with_reducible refine Kd.C_drew ?_) | exact HR186_0.out)) 1 p187 q187; cases e187; (try simp only [show (1 : Int).toNat = 1 from rfl, Nat.reduceMul, Nat.reduceEqDiff, Go.Addr.add, ↓reduceIte] at hx187_0); (try simp only [show (1 : Int).toNat = 1 from rfl, Nat.reduceMul, Nat.reduceEqDiff, Go.Addr.add, ↓reduceIte] at hx187_1); have qi187 : (1 < (rd_L4 t180 0).length) = True := eq_true (by omega); (try rw [show ((1 : Int)).toNat = 1 from rfl] at hx187_0); (try rw [show 1 * 2 = 2 from rfl] at hx187_0); (try rw [show ((1 : Int)).toNat = 1 from rfl] at hx187_1); (try rw [show 1 * 2 = 2 from rfl] at hx187_1); replace p187 := eq_true p187; replace q187 := eq_true q187; have p188 : 0 ≤ (0 : Int) := (by omega); have q188 : 0 < (t180.length : Int) := of_decide_eq_true (by first | (with_reducible assumption) | assumption); obtain ⟨ad188, A188_0, c188_0, e188, hx188_0, hl188_0, hi188_0⟩ := at_L4 (Kd.S_reads' HO184.out).2.2 0 p188 q188; obtain rfl : ad185 = ad188 := (by injection e188); obtain ⟨ce188, hce188, hMe188, hcc188⟩ := Kd.S_get HO184.out [] 0 p188 (by first | exact q188 | exact of_decide_eq_true (by first | (with_reducible assumption) | assumption) | (have e_ := (Kd.S_reads' HO184.out).1; omega)); obtain ⟨ve188_0, rfl, ge188_0⟩ := hMe188; have hv188_0 := hcc188 0 _ rfl; rw [Nat.add_zero, show ((Kd.slice 32 k32)).sz = 1 from rfl, Nat.mul_one] at hv188_0; replace hv188_0 := Option.some.inj (hv188_0.symm.trans hx188_0); rw [hv188_0] at ge188_0; have HL188_0 := Aside0.mk (show Kd.R k32 32 _ _ _ _ (rd_L4 t180 0) from ge188_0); clear hv188_0 ge188_0; clear hcc188 hce188; have qi188 : (0 < t180.length) = True := eq_true (by omega); (try rw [show ((0 : Int)).toNat = 0 from rfl] at hx188_0); (try rw [Addr.add_zero'] at hx188_0); have HR188_0 := Aside0.mk hi188_0; have HC188_0 := Aside0.mk hl188_0; clear hi188_0 hl188_0; replace p188 := eq_true p188; replace q188 := eq_true q188; have ea_ := Option.some.inj (hx185_0.symm.trans hx188_0); injection ea_ with ea_ en_ ec_; subst ea_; subst ec_; clear en_) | (go_at_call 12; (with_reducible refine (prog_Tidy.calls k _ _ (rd_L4 t180 0) t189 _ ?side1 ?side2 A9.out).mono ?_); (case side1 => repeat (first | exact (by repeat (first | (with_reducible exact HR188_0.out) | (with_reducible refine Kd.C_alloc ?_ _) | (with_reducible refine Kd.C_drewN ?_ _) | (with_reducible refine Kd.C_drew ?_) | exact HR188_0.out)) | (with_reducible refine Kd.C_alloc ?_ _) | (with_reducible refine Kd.C_drewN ?_ _) | (with_reducible refine Kd.C_drew ?_))); (case side2 => exact HC188_0.out); rintro e w12 ⟨rfl, hb⟩; have n0_ := Aside0.mk (Kd.S_below (by (with_reducible repeat (first | apply Kd.S_alloc | apply Kd.S_drewN | apply Kd.S_drew)); exact HO184.out) hb); have n1_ := Aside0.mk (Kd.R_below (by (with_reducible repeat (first | apply Kd.R_alloc | apply Kd.R_drewN | apply Kd.R_drew)); exact HL185_0.out) hb); have n2_ := Aside0.mk (Kd.R_below (by (with_reducible repeat (first | apply Kd.R_alloc | apply Kd.R_drewN | apply Kd.R_drew)); exact HL186_0.out) hb); have n3_ := Aside0.mk (Kd.R_below (by (with_reducible repeat (first | apply Kd.R_alloc | apply Kd.R_drewN | apply Kd.R_drew)); exact HL188_0.out) hb); have n4_ := Aside0.mk (Kd.C_below (by repeat (first | (with_reducible exact HR185_0.out) | (with_reducible refine Kd.C_alloc ?_ _) | (with_reducible refine Kd.C_drewN ?_ _) | (with_reducible refine Kd.C_drew ?_) | exact HR185_0.out)) hb); have n5_ := Aside0.mk (Kd.C_below (by repeat (first | (with_reducible exact HR186_0.out) | (with_reducible refine Kd.C_alloc ?_ _) | (with_reducible refine Kd.C_drewN ?_ _) | (with_reducible refine Kd.C_drew ?_) | exact HR186_0.out)) hb); have n6_ := Aside0.mk (Kd.C_below (by repeat (first | (with_reducible exact HR188_0.out) | (with_reducible refine Kd.C_alloc ?_ _) | (with_reducible refine Kd.C_drewN ?_ _) | (with_reducible refine Kd.C_drew ?_) | exact HR188_0.out)) hb); have n7_ := Aside0.mk (below_step (by repeat (first | (with_reducible first | exact HB.out | apply below_alloc | apply pw_below_drewN | apply below_drew1) | exact HB.out)) hb); clear HO184; clear HL185_0; clear HL186_0; clear HL188_0; clear HR185_0; clear HR186_0; clear HR188_0; clear HB; have HO184 := n0_; have HL185_0 := n1_; have HL186_0 := n2_; have HL188_0 := n3_; have HR185_0 := n4_; have HR186_0 := n5_; have HR188_0 := n6_; have HB := n7_; clear n0_ n1_ n2_ n3_ n4_ n5_ n6_ n7_; (try clear hb); (try clear hb2); (try clear hk); (try clear hi)))
                go_ret
                exact ⟨by first | rfl | (simp [errW_none, errW_some] <;> rfl) | (simp [*, errW_none, errW_some] <;> rfl), by repeat (first | (with_reducible first | exact HB.out | apply below_alloc | apply pw_below_drewN | apply below_drew1) | exact HB.out)⟩
              · rw [if_neg c8] at H
                have c8b0 : (((rd_T32 (rd_L4 t180 0) 1).f0) == 3 && (((rd_T32 (rd_L4 t180 0) 1).f1) == 5)) = false := by simpa using c8
                (try (have c8b1 : decide (((rd_T32 (rd_L4 t180 0) 1).f0) = 3 && (((rd_T32 (rd_L4 t180 0) 1).f1) == 5)) = false := by simpa using c8))
                (try (have c8b2 : (((rd_T32 (rd_L4 t180 0) 1).f0) == 3 && (((rd_T32 (rd_L4 t180 0) 1).f1) == 5)) = false := by simpa using c8))
                (try (have c8b3 : ¬ (((rd_T32 (rd_L4 t180 0) 1).f0) = 3 && (((rd_T32 (rd_L4 t180 0) 1).f1) == 5)) := by simpa using c8))
                clear c8
                obtain rfl := Option.some.inj H
                go_enter Tryd.func10, Tryd.ntmps10
                go_wp2_with (first | ((with_reducible refine gate_callee (f := 8) rfl ?_); refine goesL_ (some 5) rfl rfl Tryd.func8 (by kernel_rfl) rfl #[.string (⟨#[108, 111, 99, 107, 32, 48, 59, 32, 119, 111, 114, 107, 32, 53, 59, 32, 117, 110, 108, 111, 99, 107, 32, 48]⟩ : ByteArray)] rfl (by (try simp only [List.map_toArray, List.map_cons, List.map_nil]); first | done | rfl | (simp only [List.length_drop, List.length_take]; rfl)) ?_; (with_reducible refine (prog_Parse.calls k (⟨#[108, 111, 99, 107, 32, 48, 59, 32, 119, 111, 114, 107, 32, 53, 59, 32, 117, 110, 108, 111, 99, 107, 32, 48]⟩ : ByteArray) t180 t181 t182 _ A1.out (by first | exact HT.out | (with_reducible refine Laid.below HT.out ?_; repeat (first | (with_reducible first | exact HB.out | apply below_alloc | apply pw_below_drewN | apply below_drew1 | refine below_set ?_ (Aside0.out (by assumption))) | exact HB.out)) | (exact Laid.below HT.out (by repeat (first | exact HB.out | exact Below.refl _ _ | apply below_alloc | apply pw_below_drewN | apply below_drew1 | refine below_set ?_ (Aside0.out (by assumption))))))).mono ?_); rintro e w13 ⟨v183, rfl, ho0, hb⟩; refine ⟨_, rfl, ?_⟩; have n0_ := Aside0.mk (Kd.S_lower ho0 (below_size (by repeat (first | (with_reducible first | exact HB.out | apply below_alloc | apply pw_below_drewN | apply below_drew1) | exact HB.out)))); have n1_ := Aside0.mk (below_step (by repeat (first | (with_reducible first | exact HB.out | apply below_alloc | apply pw_below_drewN | apply below_drew1) | exact HB.out)) hb); clear HB; have HO184 := n0_; have HB := n1_; clear n0_ n1_; (try clear hb); (try clear hb2); (try clear hk); (try clear hi); (try clear ho0); obtain ⟨Ao14, co14, eo14⟩ := Kd.S_slice HO184.out; subst eo14; have p185 : 0 ≤ (0 : Int) := (by omega); have q185 : 0 < (t180.length : Int) := of_decide_eq_true (by first | (with_reducible assumption) | assumption); obtain ⟨ad185, A185_0, c185_0, e185, hx185_0, hl185_0, hi185_0⟩ := at_L4 (Kd.S_reads' HO184.out).2.2 0 p185 q185; cases e185; obtain ⟨ce185, hce185, hMe185, hcc185⟩ := Kd.S_get HO184.out [] 0 p185 (by first | exact q185 | exact of_decide_eq_true (by first | (with_reducible assumption) | assumption) | (have e_ := (Kd.S_reads' HO184.out).1; omega)); obtain ⟨ve185_0, rfl, ge185_0⟩ := hMe185; have hv185_0 := hcc185 0 _ rfl; rw [Nat.add_zero, show ((Kd.slice 32 k32)).sz = 1 from rfl, Nat.mul_one] at hv185_0; replace hv185_0 := Option.some.inj (hv185_0.symm.trans hx185_0); rw [hv185_0] at ge185_0; have HL185_0 := Aside0.mk (show Kd.R k32 32 _ _ _ _ (rd_L4 t180 0) from ge185_0); clear hv185_0 ge185_0; clear hcc185 hce185; have qi185 : (0 < t180.length) = True := eq_true (by omega); (try rw [show ((0 : Int)).toNat = 0 from rfl] at hx185_0); (try rw [Addr.add_zero'] at hx185_0); have HR185_0 := Aside0.mk hi185_0; have HC185_0 := Aside0.mk hl185_0; clear hi185_0 hl185_0; replace p185 := eq_true p185; replace q185 := eq_true q185; have p186 : 0 ≤ (0 : Int) := (by omega); have q186 : 0 < (t180.length : Int) := of_decide_eq_true (by first | (with_reducible assumption) | assumption); obtain ⟨ad186, A186_0, c186_0, e186, hx186_0, hl186_0, hi186_0⟩ := at_L4 (Kd.S_reads' HO184.out).2.2 0 p186 q186; obtain rfl : ad185 = ad186 := (by injection e186); obtain ⟨ce186, hce186, hMe186, hcc186⟩ := Kd.S_get HO184.out [] 0 p186 (by first | exact q186 | exact of_decide_eq_true (by first | (with_reducible assumption) | assumption) | (have e_ := (Kd.S_reads' HO184.out).1; omega)); obtain ⟨ve186_0, rfl, ge186_0⟩ := hMe186; have hv186_0 := hcc186 0 _ rfl; rw [Nat.add_zero, show ((Kd.slice 32 k32)).sz = 1 from rfl, Nat.mul_one] at hv186_0; replace hv186_0 := Option.some.inj (hv186_0.symm.trans hx186_0); rw [hv186_0] at ge186_0; have HL186_0 := Aside0.mk (show Kd.R k32 32 _ _ _ _ (rd_L4 t180 0) from ge186_0); clear hv186_0 ge186_0; clear hcc186 hce186; have qi186 : (0 < t180.length) = True := eq_true (by omega); (try rw [show ((0 : Int)).toNat = 0 from rfl] at hx186_0); (try rw [Addr.add_zero'] at hx186_0); have HR186_0 := Aside0.mk hi186_0; have HC186_0 := Aside0.mk hl186_0; clear hi186_0 hl186_0; replace p186 := eq_true p186; replace q186 := eq_true q186; have ea_ := Option.some.inj (hx185_0.symm.trans hx186_0); injection ea_ with ea_ en_ ec_; subst ea_; subst ec_; clear en_; have p187 : 0 ≤ (1 : Int) := (by omega); have q187 : 1 < ((rd_L4 t180 0).length : Int) := of_decide_eq_true (by first | (with_reducible assumption) | assumption); obtain ⟨ad187, e187, hx187_0, hx187_1⟩ := at_T32 (by repeat (first | (with_reducible exact HR186_0.out) | (with_reducible refine Kd.C_alloc ?_ _) | (with_reducible refine Kd.C_drewN ?_ _) | (with_reducible refine Kd.C_drew ?_) | exact HR186_0.out)) 1 p187 q187; cases e187; (try simp only [show (1 : Int).toNat = 1 from rfl, Nat.reduceMul, Nat.reduceEqDiff, Go.Addr.add, ↓reduceIte] at hx187_0); (try simp only [show (1 : Int).toNat = 1 from rfl, Nat.reduceMul, Nat.reduceEqDiff, Go.Addr.add, ↓reduceIte] at hx187_1); have qi187 : (1 < (rd_L4 t180 0).length) = True := eq_true (by omega); (try rw [show ((1 : Int)).toNat = 1 from rfl] at hx187_0); (try rw [show 1 * 2 = 2 from rfl] at hx187_0); (try rw [show ((1 : Int)).toNat = 1 from rfl] at hx187_1); (try rw [show 1 * 2 = 2 from rfl] at hx187_1); replace p187 := eq_true p187; replace q187 := eq_true q187))
                go_ret
                exact ⟨by first | rfl | (simp [errW_none, errW_some] <;> rfl) | (simp [*, errW_none, errW_some] <;> rfl), by repeat (first | (with_reducible first | exact HB.out | apply below_alloc | apply pw_below_drewN | apply below_drew1) | exact HB.out)⟩
            · rw [if_neg c7] at H
              exact absurd H (by simp)
          · rw [if_neg c6] at H
            have c6b0 : (((rd_L4 t180 0).length : Int) == 3) = false := beq_eq_false_iff_ne.mpr c6
            have c6b1 : (((rd_L4 t180 0).length : Int) != 3) = true := bne_iff_ne.mpr c6
            obtain rfl := Option.some.inj H
            go_enter Tryd.func10, Tryd.ntmps10
            go_wp2_with (first | ((with_reducible refine gate_callee (f := 8) rfl ?_); refine goesL_ (some 5) rfl rfl Tryd.func8 (by kernel_rfl) rfl #[.string (⟨#[108, 111, 99, 107, 32, 48, 59, 32, 119, 111, 114, 107, 32, 53, 59, 32, 117, 110, 108, 111, 99, 107, 32, 48]⟩ : ByteArray)] rfl (by (try simp only [List.map_toArray, List.map_cons, List.map_nil]); first | done | rfl | (simp only [List.length_drop, List.length_take]; rfl)) ?_; (with_reducible refine (prog_Parse.calls k (⟨#[108, 111, 99, 107, 32, 48, 59, 32, 119, 111, 114, 107, 32, 53, 59, 32, 117, 110, 108, 111, 99, 107, 32, 48]⟩ : ByteArray) t180 t181 t182 _ A1.out (by first | exact HT.out | (with_reducible refine Laid.below HT.out ?_; repeat (first | (with_reducible first | exact HB.out | apply below_alloc | apply pw_below_drewN | apply below_drew1 | refine below_set ?_ (Aside0.out (by assumption))) | exact HB.out)) | (exact Laid.below HT.out (by repeat (first | exact HB.out | exact Below.refl _ _ | apply below_alloc | apply pw_below_drewN | apply below_drew1 | refine below_set ?_ (Aside0.out (by assumption))))))).mono ?_); rintro e w15 ⟨v183, rfl, ho0, hb⟩; refine ⟨_, rfl, ?_⟩; have n0_ := Aside0.mk (Kd.S_lower ho0 (below_size (by repeat (first | (with_reducible first | exact HB.out | apply below_alloc | apply pw_below_drewN | apply below_drew1) | exact HB.out)))); have n1_ := Aside0.mk (below_step (by repeat (first | (with_reducible first | exact HB.out | apply below_alloc | apply pw_below_drewN | apply below_drew1) | exact HB.out)) hb); clear HB; have HO184 := n0_; have HB := n1_; clear n0_ n1_; (try clear hb); (try clear hb2); (try clear hk); (try clear hi); (try clear ho0); obtain ⟨Ao16, co16, eo16⟩ := Kd.S_slice HO184.out; subst eo16; have p185 : 0 ≤ (0 : Int) := (by omega); have q185 : 0 < (t180.length : Int) := of_decide_eq_true (by first | (with_reducible assumption) | assumption); obtain ⟨ad185, A185_0, c185_0, e185, hx185_0, hl185_0, hi185_0⟩ := at_L4 (Kd.S_reads' HO184.out).2.2 0 p185 q185; cases e185; obtain ⟨ce185, hce185, hMe185, hcc185⟩ := Kd.S_get HO184.out [] 0 p185 (by first | exact q185 | exact of_decide_eq_true (by first | (with_reducible assumption) | assumption) | (have e_ := (Kd.S_reads' HO184.out).1; omega)); obtain ⟨ve185_0, rfl, ge185_0⟩ := hMe185; have hv185_0 := hcc185 0 _ rfl; rw [Nat.add_zero, show ((Kd.slice 32 k32)).sz = 1 from rfl, Nat.mul_one] at hv185_0; replace hv185_0 := Option.some.inj (hv185_0.symm.trans hx185_0); rw [hv185_0] at ge185_0; have HL185_0 := Aside0.mk (show Kd.R k32 32 _ _ _ _ (rd_L4 t180 0) from ge185_0); clear hv185_0 ge185_0; clear hcc185 hce185; have qi185 : (0 < t180.length) = True := eq_true (by omega); (try rw [show ((0 : Int)).toNat = 0 from rfl] at hx185_0); (try rw [Addr.add_zero'] at hx185_0); have HR185_0 := Aside0.mk hi185_0; have HC185_0 := Aside0.mk hl185_0; clear hi185_0 hl185_0; replace p185 := eq_true p185; replace q185 := eq_true q185))
            go_ret
            exact ⟨by first | rfl | (simp [errW_none, errW_some] <;> rfl) | (simp [*, errW_none, errW_some] <;> rfl), by repeat (first | (with_reducible first | exact HB.out | apply below_alloc | apply pw_below_drewN | apply below_drew1) | exact HB.out)⟩
        · rw [if_neg c5] at H
          exact absurd H (by simp)
      · rw [if_neg c4] at H
        have c4b0 : ((t180.length : Int) == 1) = false := beq_eq_false_iff_ne.mpr c4
        have c4b1 : ((t180.length : Int) != 1) = true := bne_iff_ne.mpr c4
        obtain rfl := Option.some.inj H
        go_enter Tryd.func10, Tryd.ntmps10
        go_wp2_with (first | ((with_reducible refine gate_callee (f := 8) rfl ?_); refine goesL_ (some 5) rfl rfl Tryd.func8 (by kernel_rfl) rfl #[.string (⟨#[108, 111, 99, 107, 32, 48, 59, 32, 119, 111, 114, 107, 32, 53, 59, 32, 117, 110, 108, 111, 99, 107, 32, 48]⟩ : ByteArray)] rfl (by (try simp only [List.map_toArray, List.map_cons, List.map_nil]); first | done | rfl | (simp only [List.length_drop, List.length_take]; rfl)) ?_; (with_reducible refine (prog_Parse.calls k (⟨#[108, 111, 99, 107, 32, 48, 59, 32, 119, 111, 114, 107, 32, 53, 59, 32, 117, 110, 108, 111, 99, 107, 32, 48]⟩ : ByteArray) t180 t181 t182 _ A1.out (by first | exact HT.out | (with_reducible refine Laid.below HT.out ?_; repeat (first | (with_reducible first | exact HB.out | apply below_alloc | apply pw_below_drewN | apply below_drew1 | refine below_set ?_ (Aside0.out (by assumption))) | exact HB.out)) | (exact Laid.below HT.out (by repeat (first | exact HB.out | exact Below.refl _ _ | apply below_alloc | apply pw_below_drewN | apply below_drew1 | refine below_set ?_ (Aside0.out (by assumption))))))).mono ?_); rintro e w17 ⟨v183, rfl, ho0, hb⟩; refine ⟨_, rfl, ?_⟩; have n0_ := Aside0.mk (Kd.S_lower ho0 (below_size (by repeat (first | (with_reducible first | exact HB.out | apply below_alloc | apply pw_below_drewN | apply below_drew1) | exact HB.out)))); have n1_ := Aside0.mk (below_step (by repeat (first | (with_reducible first | exact HB.out | apply below_alloc | apply pw_below_drewN | apply below_drew1) | exact HB.out)) hb); clear HB; have HO184 := n0_; have HB := n1_; clear n0_ n1_; (try clear hb); (try clear hb2); (try clear hk); (try clear hi); (try clear ho0); obtain ⟨Ao18, co18, eo18⟩ := Kd.S_slice HO184.out; subst eo18))
        go_ret
        exact ⟨by first | rfl | (simp [errW_none, errW_some] <;> rfl) | (simp [*, errW_none, errW_some] <;> rfl), by repeat (first | (with_reducible first | exact HB.out | apply below_alloc | apply pw_below_drewN | apply below_drew1) | exact HB.out)⟩
    · rw [if_neg c3] at H
      have c3b0 : (t181 == 0) = false := beq_eq_false_iff_ne.mpr c3
      have c3b1 : (t181 != 0) = true := bne_iff_ne.mpr c3
      obtain rfl := Option.some.inj H
      go_enter Tryd.func10, Tryd.ntmps10
      go_wp2_with (first | ((with_reducible refine gate_callee (f := 8) rfl ?_); refine goesL_ (some 5) rfl rfl Tryd.func8 (by kernel_rfl) rfl #[.string (⟨#[108, 111, 99, 107, 32, 48, 59, 32, 119, 111, 114, 107, 32, 53, 59, 32, 117, 110, 108, 111, 99, 107, 32, 48]⟩ : ByteArray)] rfl (by (try simp only [List.map_toArray, List.map_cons, List.map_nil]); first | done | rfl | (simp only [List.length_drop, List.length_take]; rfl)) ?_; (with_reducible refine (prog_Parse.calls k (⟨#[108, 111, 99, 107, 32, 48, 59, 32, 119, 111, 114, 107, 32, 53, 59, 32, 117, 110, 108, 111, 99, 107, 32, 48]⟩ : ByteArray) t180 t181 t182 _ A1.out (by first | exact HT.out | (with_reducible refine Laid.below HT.out ?_; repeat (first | (with_reducible first | exact HB.out | apply below_alloc | apply pw_below_drewN | apply below_drew1 | refine below_set ?_ (Aside0.out (by assumption))) | exact HB.out)) | (exact Laid.below HT.out (by repeat (first | exact HB.out | exact Below.refl _ _ | apply below_alloc | apply pw_below_drewN | apply below_drew1 | refine below_set ?_ (Aside0.out (by assumption))))))).mono ?_); rintro e w19 ⟨v183, rfl, ho0, hb⟩; refine ⟨_, rfl, ?_⟩; have n0_ := Aside0.mk (Kd.S_lower ho0 (below_size (by repeat (first | (with_reducible first | exact HB.out | apply below_alloc | apply pw_below_drewN | apply below_drew1) | exact HB.out)))); have n1_ := Aside0.mk (below_step (by repeat (first | (with_reducible first | exact HB.out | apply below_alloc | apply pw_below_drewN | apply below_drew1) | exact HB.out)) hb); clear HB; have HO184 := n0_; have HB := n1_; clear n0_ n1_; (try clear hb); (try clear hb2); (try clear hk); (try clear hi); (try clear ho0)))
      go_ret
      exact ⟨by first | rfl | (simp [errW_none, errW_some] <;> rfl) | (simp [*, errW_none, errW_some] <;> rfl), by repeat (first | (with_reducible first | exact HB.out | apply below_alloc | apply pw_below_drewN | apply below_drew1) | exact HB.out)⟩
  · rw [if_neg c2] at H
    have c2b0 : (t182 == 0) = false := beq_eq_false_iff_ne.mpr c2
    have c2b1 : (t182 != 0) = true := bne_iff_ne.mpr c2
    obtain rfl := Option.some.inj H
    go_enter Tryd.func10, Tryd.ntmps10
    go_wp2_with (first | ((with_reducible refine gate_callee (f := 8) rfl ?_); refine goesL_ (some 5) rfl rfl Tryd.func8 (by kernel_rfl) rfl #[.string (⟨#[108, 111, 99, 107, 32, 48, 59, 32, 119, 111, 114, 107, 32, 53, 59, 32, 117, 110, 108, 111, 99, 107, 32, 48]⟩ : ByteArray)] rfl (by (try simp only [List.map_toArray, List.map_cons, List.map_nil]); first | done | rfl | (simp only [List.length_drop, List.length_take]; rfl)) ?_; (with_reducible refine (prog_Parse.calls k (⟨#[108, 111, 99, 107, 32, 48, 59, 32, 119, 111, 114, 107, 32, 53, 59, 32, 117, 110, 108, 111, 99, 107, 32, 48]⟩ : ByteArray) t180 t181 t182 _ A1.out (by first | exact HT.out | (with_reducible refine Laid.below HT.out ?_; repeat (first | (with_reducible first | exact HB.out | apply below_alloc | apply pw_below_drewN | apply below_drew1 | refine below_set ?_ (Aside0.out (by assumption))) | exact HB.out)) | (exact Laid.below HT.out (by repeat (first | exact HB.out | exact Below.refl _ _ | apply below_alloc | apply pw_below_drewN | apply below_drew1 | refine below_set ?_ (Aside0.out (by assumption))))))).mono ?_); rintro e w20 ⟨v183, rfl, ho0, hb⟩; refine ⟨_, rfl, ?_⟩; have n0_ := Aside0.mk (Kd.S_lower ho0 (below_size (by repeat (first | (with_reducible first | exact HB.out | apply below_alloc | apply pw_below_drewN | apply below_drew1) | exact HB.out)))); have n1_ := Aside0.mk (below_step (by repeat (first | (with_reducible first | exact HB.out | apply below_alloc | apply pw_below_drewN | apply below_drew1) | exact HB.out)) hb); clear HB; have HO184 := n0_; have HB := n1_; clear n0_ n1_; (try clear hb); (try clear hb2); (try clear hk); (try clear hi); (try clear ho0)))
    go_ret
    exact ⟨by first | rfl | (simp [errW_none, errW_some] <;> rfl) | (simp [*, errW_none, errW_some] <;> rfl), by repeat (first | (with_reducible first | exact HB.out | apply below_alloc | apply pw_below_drewN | apply below_drew1) | exact HB.out)⟩

/-! ### deadboltref12_Acts: function 19 -/
def deadboltref12_Acts.l0 : Nat → List (S32) → List (S32) → Int → Int → Option (Bool)
  | 0, _, _, _, _ => none
  | k + 1, x0, x1, x12, x13 => if x13 < x12 then (if 0 ≤ x13 then (if x13 < (x0.length : Int) then (if x13 < (x1.length : Int) then (if (!(((rd_T32 x0 x13).f0) == ((rd_T32 x1 x13).f0)) || (!(((rd_T32 x0 x13).f1) == ((rd_T32 x1 x13).f1)))) = true then (some false) else (deadboltref12_Acts.l0 k x0 x1 x12 (wrap64 (x13 + 1)))) else (none)) else (none)) else (none)) else (some true)
def deadboltref12_Acts.f (k : Nat) (l0 : List (S32)) (l1 : List (S32)) : Option (Bool) := if (l0.length : Int) = (l1.length : Int) then (deadboltref12_Acts.l0 k l0 l1 (l0.length : Int) 0) else (some false)
theorem deadboltref12_Acts.mono_l : ∀ k, (∀ y0 y1 y2 y3, LeO (deadboltref12_Acts.l0 k y0 y1 y2 y3) (deadboltref12_Acts.l0 (k + 1) y0 y1 y2 y3))
  | 0 => fun _ _ _ _ r h => by simp [deadboltref12_Acts.l0] at h
  | k + 1 => by
    have ih0 := deadboltref12_Acts.mono_l k
    · intro y0 y1 y2 y3
      unfold deadboltref12_Acts.l0
      repeat' first
      | (with_reducible exact ih0 _ _ _ _)
      | (with_reducible exact LeO.refl _)
      | (with_reducible exact LeO.none _)
      | (with_reducible refine LeO.ite ?_ ?_)
      | (with_reducible refine LeO.bind ?_ (fun _ => ?_))
      | exact ih0 _ _ _ _
      | exact LeO.none _
      | refine LeO.ite ?_ ?_
      | refine LeO.bind ?_ (fun _ => ?_)
theorem deadboltref12_Acts.mono : ∀ a0 a1 k, LeO (deadboltref12_Acts.f k a0 a1) (deadboltref12_Acts.f (k + 1) a0 a1) := by
  intro a0 a1 k
  have ih0 := deadboltref12_Acts.mono_l k
  unfold deadboltref12_Acts.f
  repeat' first
      | (with_reducible exact ih0 _ _ _ _)
      | (with_reducible exact LeO.refl _)
      | (with_reducible exact LeO.none _)
      | (with_reducible refine LeO.ite ?_ ?_)
      | (with_reducible refine LeO.bind ?_ (fun _ => ?_))
      | exact ih0 _ _ _ _
      | exact LeO.none _
      | refine LeO.ite ?_ ?_
      | refine LeO.bind ?_ (fun _ => ?_)
set_option maxHeartbeats 8000000 in
set_option maxRecDepth 100000 in
theorem deadboltref12_Acts.calls (k : Nat) (A0 : Option Addr) (c0 : Nat) (l0 : List (S32)) (A1 : Option Addr) (c1 : Nat) (l1 : List (S32)) (r : Bool) (w : World) (hr0 : Kd.C k32 w A0 l0.length l0) (hc0 : l0.length ≤ c0) (hr1 : Kd.C k32 w A1 l1.length l1) (hc1 : l1.length ≤ c1) (h : deadboltref12_Acts.f k l0 l1 = some r) :
    Calls Tryd.prog 19 #[.slice A0 l0.length c0, .slice A1 l1.length c1] w fun e w' => e = .returned (.bool r) ∧ Drawn0 w w' := by
  have hu32 := Tryd.underlying32
  have HR0 := Aside0.mk hr0
  have HC0 := Aside0.mk hc0
  clear hr0 hc0
  have HR1 := Aside0.mk hr1
  have HC1 := Aside0.mk hc1
  clear hr1 hc1
  have H : (if (l0.length : Int) = (l1.length : Int) then (deadboltref12_Acts.l0 k l0 l1 (l0.length : Int) 0) else (some false)) = some r := h
  clear h
  by_cases c3 : (l0.length : Int) = (l1.length : Int)
  · rw [if_pos c3] at H
    have c3b0 : ((l0.length : Int) == (l1.length : Int)) = true := beq_iff_eq.mpr c3
    have c3b1 : ((l0.length : Int) != (l1.length : Int)) = false := bne_eq_false_iff_eq.mpr c3
    have c3b2 : (l0.length == l1.length) = true := by first | simpa using c3 | (simp at c3 ⊢; omega)
    clear c3
    have H' := Aside0.mk H
    clear H
    go_enter Tryd.func19, Tryd.ntmps19
    go_wp2
    repeat (go_quiet (fail); try go_wp2)
    go_loopg [13] k (fun kq v13 w' => ∃ (x13_1 : Int), v13 = .int .i64 x13_1 ∧ Aside0 (deadboltref12_Acts.l0 kq l0 l1 (l0.length : Int) x13_1 = some r) ∧ Aside0 (kq ≤ k) ∧ Drawn0 w w')
    case atStart => exact ⟨(0), (by first | rfl | (simp; done) | (simp [*]; done)), H', ⟨Nat.le_refl _⟩, by repeat (first | exact Drawn0.refl _ | apply Drawn0.step)⟩
    case round =>
      clear H'
      try clear c1
      try clear p2
      try clear c3
      try clear c3b0
      try clear c3b1
      try clear c3b2
      obtain ⟨x13_1, rfl, HA, HK1, ⟨m1, rfl⟩⟩ := hrel
      cases gk with
      | zero => exact absurd HA.out (by simp [deadboltref12_Acts.l0])
      | succ k1 =>
        have H := HA.out
        clear HA
        simp only [deadboltref12_Acts.l0] at H
        by_cases c4 : x13_1 < (l0.length : Int)
        · rw [if_pos c4] at H
          have c4b0 : decide (x13_1 < (l0.length : Int)) = true := decide_eq_true c4
          clear c4
          by_cases c5 : 0 ≤ x13_1
          · rw [if_pos c5] at H
            have c5b0 : decide (0 ≤ x13_1) = true := decide_eq_true c5
            clear c5
            by_cases c6 : x13_1 < (l0.length : Int)
            · rw [if_pos c6] at H
              have c6b0 : decide (x13_1 < (l0.length : Int)) = true := decide_eq_true c6
              clear c6
              by_cases c7 : x13_1 < (l1.length : Int)
              · rw [if_pos c7] at H
                have c7b0 : decide (x13_1 < (l1.length : Int)) = true := decide_eq_true c7
                clear c7
                by_cases c8 : (!(((rd_T32 l0 x13_1).f0) == ((rd_T32 l1 x13_1).f0)) || (!(((rd_T32 l0 x13_1).f1) == ((rd_T32 l1 x13_1).f1)))) = true
                · rw [if_pos c8] at H
                  have c8b0 : (!(((rd_T32 l0 x13_1).f0) == ((rd_T32 l1 x13_1).f0)) || (!(((rd_T32 l0 x13_1).f1) == ((rd_T32 l1 x13_1).f1)))) = true := c8
                  clear c8
                  obtain rfl := Option.some.inj H
                  have p190 : 0 ≤ (x13_1 : Int) := of_decide_eq_true (by first | (with_reducible assumption) | assumption)
                  have q190 : x13_1 < (l0.length : Int) := of_decide_eq_true (by first | (with_reducible assumption) | assumption)
                  obtain ⟨ad190, e190, hx190_0, hx190_1⟩ := at_T32 HR0.out x13_1 p190 q190
                  cases e190
                  replace p190 := eq_true p190
                  replace q190 := eq_true q190
                  have p191 : 0 ≤ (x13_1 : Int) := of_decide_eq_true (by first | (with_reducible assumption) | assumption)
                  have q191 : x13_1 < (l1.length : Int) := of_decide_eq_true (by first | (with_reducible assumption) | assumption)
                  obtain ⟨ad191, e191, hx191_0, hx191_1⟩ := at_T32 HR1.out x13_1 p191 q191
                  cases e191
                  replace p191 := eq_true p191
                  replace q191 := eq_true q191
                  go_wp2
                  repeat (go_quiet (fail); try go_wp2)
                  go_ret
                  exact ⟨by first | rfl | (simp; done) | (simp [*]; done), by repeat (first | exact Drawn0.refl _ | apply Drawn0.step)⟩
                · rw [if_neg c8] at H
                  have c8b0 : (!(((rd_T32 l0 x13_1).f0) == ((rd_T32 l1 x13_1).f0)) || (!(((rd_T32 l0 x13_1).f1) == ((rd_T32 l1 x13_1).f1)))) = false := by simpa using c8
                  clear c8
                  have H' := Aside0.mk H
                  clear H
                  have p190 : 0 ≤ (x13_1 : Int) := of_decide_eq_true (by first | (with_reducible assumption) | assumption)
                  have q190 : x13_1 < (l0.length : Int) := of_decide_eq_true (by first | (with_reducible assumption) | assumption)
                  obtain ⟨ad190, e190, hx190_0, hx190_1⟩ := at_T32 HR0.out x13_1 p190 q190
                  cases e190
                  replace p190 := eq_true p190
                  replace q190 := eq_true q190
                  have p191 : 0 ≤ (x13_1 : Int) := of_decide_eq_true (by first | (with_reducible assumption) | assumption)
                  have q191 : x13_1 < (l1.length : Int) := of_decide_eq_true (by first | (with_reducible assumption) | assumption)
                  obtain ⟨ad191, e191, hx191_0, hx191_1⟩ := at_T32 HR1.out x13_1 p191 q191
                  cases e191
                  replace p191 := eq_true p191
                  replace q191 := eq_true q191
                  go_wp2
                  repeat (go_quiet (fail); try go_wp2)
                  go_roundg k1
                  case measure => have := HK1.out; omega
                  case rel => exact ⟨(wrap64 (x13_1 + 1)), (by first | rfl | (simp; done) | (simp [*]; done)), H', ⟨by have := HK1.out; omega⟩, by repeat (first | exact Drawn0.refl _ | apply Drawn0.step)⟩
              · rw [if_neg c7] at H
                exact absurd H (by simp)
            · rw [if_neg c6] at H
              exact absurd H (by simp)
          · rw [if_neg c5] at H
            exact absurd H (by simp)
        · rw [if_neg c4] at H
          have c4b0 : decide (x13_1 < (l0.length : Int)) = false := decide_eq_false c4
          clear c4
          obtain rfl := Option.some.inj H
          go_wp2
          repeat (go_quiet (fail); try go_wp2)
          go_ret
          exact ⟨by first | rfl | (simp; done) | (simp [*]; done), by repeat (first | exact Drawn0.refl _ | apply Drawn0.step)⟩
  · rw [if_neg c3] at H
    have c3b0 : ((l0.length : Int) == (l1.length : Int)) = false := beq_eq_false_iff_ne.mpr c3
    have c3b1 : ((l0.length : Int) != (l1.length : Int)) = true := bne_iff_ne.mpr c3
    have c3b2 : (l0.length == l1.length) = false := by first | simpa using c3 | (simp at c3 ⊢; omega)
    obtain rfl := Option.some.inj H
    go_enter Tryd.func19, Tryd.ntmps19
    go_wp2
    repeat (go_quiet (fail); try go_wp2)
    go_ret
    exact ⟨by first | rfl | (simp; done) | (simp [*]; done), by repeat (first | exact Drawn0.refl _ | apply Drawn0.step)⟩

/-! ### deadboltref12_Same: function 11 -/
def deadboltref12_Same.l0 : Nat → List (List (S32)) → List (List (S32)) → Int → Int → Option (Bool)
  | 0, _, _, _, _ => none
  | k + 1, x0, x1, x12, x13 => if x13 < x12 then (if 0 ≤ x13 then (if x13 < (x0.length : Int) then (if x13 < (x1.length : Int) then ((deadboltref12_Acts.f k (rd_L4 x0 x13) (rd_L4 x1 x13)).bind fun t194 => (if t194 = true then (deadboltref12_Same.l0 k x0 x1 x12 (wrap64 (x13 + 1))) else (some false))) else (none)) else (none)) else (none)) else (some true)
def deadboltref12_Same.f (k : Nat) (l0 : List (List (S32))) (l1 : List (List (S32))) : Option (Bool) := if (l0.length : Int) = (l1.length : Int) then (deadboltref12_Same.l0 k l0 l1 (l0.length : Int) 0) else (some false)
theorem deadboltref12_Same.mono_l : ∀ k, (∀ y0 y1 y2 y3, LeO (deadboltref12_Same.l0 k y0 y1 y2 y3) (deadboltref12_Same.l0 (k + 1) y0 y1 y2 y3))
  | 0 => fun _ _ _ _ r h => by simp [deadboltref12_Same.l0] at h
  | k + 1 => by
    have ih0 := deadboltref12_Same.mono_l k
    · intro y0 y1 y2 y3
      unfold deadboltref12_Same.l0
      repeat' first
      | (with_reducible exact ih0 _ _ _ _)
      | (with_reducible exact deadboltref12_Acts.mono _ _ _)
      | (with_reducible exact LeO.refl _)
      | (with_reducible exact LeO.none _)
      | (with_reducible refine LeO.ite ?_ ?_)
      | (with_reducible refine LeO.bind ?_ (fun _ => ?_))
      | exact ih0 _ _ _ _
      | exact deadboltref12_Acts.mono _ _ _
      | exact LeO.none _
      | refine LeO.ite ?_ ?_
      | refine LeO.bind ?_ (fun _ => ?_)
theorem deadboltref12_Same.mono : ∀ a0 a1 k, LeO (deadboltref12_Same.f k a0 a1) (deadboltref12_Same.f (k + 1) a0 a1) := by
  intro a0 a1 k
  have ih0 := deadboltref12_Same.mono_l k
  unfold deadboltref12_Same.f
  repeat' first
      | (with_reducible exact ih0 _ _ _ _)
      | (with_reducible exact deadboltref12_Acts.mono _ _ _)
      | (with_reducible exact LeO.refl _)
      | (with_reducible exact LeO.none _)
      | (with_reducible refine LeO.ite ?_ ?_)
      | (with_reducible refine LeO.bind ?_ (fun _ => ?_))
      | exact ih0 _ _ _ _
      | exact deadboltref12_Acts.mono _ _ _
      | exact LeO.none _
      | refine LeO.ite ?_ ?_
      | refine LeO.bind ?_ (fun _ => ?_)
set_option maxHeartbeats 8000000 in
set_option maxRecDepth 100000 in
theorem deadboltref12_Same.calls (k : Nat) (A0 : Option Addr) (c0 : Nat) (l0 : List (List (S32))) (A1 : Option Addr) (c1 : Nat) (l1 : List (List (S32))) (r : Bool) (w : World) (hr0 : Kd.C (Kd.slice 32 k32) w A0 l0.length l0) (hc0 : l0.length ≤ c0) (hr1 : Kd.C (Kd.slice 32 k32) w A1 l1.length l1) (hc1 : l1.length ≤ c1) (h : deadboltref12_Same.f k l0 l1 = some r) :
    Calls Tryd.prog 11 #[.slice A0 l0.length c0, .slice A1 l1.length c1] w fun e w' => e = .returned (.bool r) ∧ Drawn0 w w' := by
  have HR0 := Aside0.mk hr0
  have HC0 := Aside0.mk hc0
  clear hr0 hc0
  have HR1 := Aside0.mk hr1
  have HC1 := Aside0.mk hc1
  clear hr1 hc1
  have H : (if (l0.length : Int) = (l1.length : Int) then (deadboltref12_Same.l0 k l0 l1 (l0.length : Int) 0) else (some false)) = some r := h
  clear h
  by_cases c3 : (l0.length : Int) = (l1.length : Int)
  · rw [if_pos c3] at H
    have c3b0 : ((l0.length : Int) == (l1.length : Int)) = true := beq_iff_eq.mpr c3
    have c3b1 : ((l0.length : Int) != (l1.length : Int)) = false := bne_eq_false_iff_eq.mpr c3
    have c3b2 : (l0.length == l1.length) = true := by first | simpa using c3 | (simp at c3 ⊢; omega)
    clear c3
    have H' := Aside0.mk H
    clear H
    go_enter Tryd.func11, Tryd.ntmps11
    go_wp2
    repeat (go_quiet (fail); try go_wp2)
    go_loopg [13] k (fun kq v13 w' => ∃ (x13_1 : Int), v13 = .int .i64 x13_1 ∧ Aside0 (deadboltref12_Same.l0 kq l0 l1 (l0.length : Int) x13_1 = some r) ∧ Aside0 (kq ≤ k) ∧ Drawn0 w w')
    case atStart => exact ⟨(0), (by first | rfl | (simp; done) | (simp [*]; done)), H', ⟨Nat.le_refl _⟩, by repeat (first | exact Drawn0.refl _ | apply Drawn0.step)⟩
    case round =>
      clear H'
      try clear c1
      try clear p2
      try clear c3
      try clear c3b0
      try clear c3b1
      try clear c3b2
      obtain ⟨x13_1, rfl, HA, HK1, ⟨m1, rfl⟩⟩ := hrel
      cases gk with
      | zero => exact absurd HA.out (by simp [deadboltref12_Same.l0])
      | succ k1 =>
        have H := HA.out
        clear HA
        simp only [deadboltref12_Same.l0] at H
        by_cases c4 : x13_1 < (l0.length : Int)
        · rw [if_pos c4] at H
          have c4b0 : decide (x13_1 < (l0.length : Int)) = true := decide_eq_true c4
          clear c4
          by_cases c5 : 0 ≤ x13_1
          · rw [if_pos c5] at H
            have c5b0 : decide (0 ≤ x13_1) = true := decide_eq_true c5
            clear c5
            by_cases c6 : x13_1 < (l0.length : Int)
            · rw [if_pos c6] at H
              have c6b0 : decide (x13_1 < (l0.length : Int)) = true := decide_eq_true c6
              clear c6
              by_cases c7 : x13_1 < (l1.length : Int)
              · rw [if_pos c7] at H
                have c7b0 : decide (x13_1 < (l1.length : Int)) = true := decide_eq_true c7
                clear c7
                replace H := Option.bind_eq_some_iff.mp H
                obtain ⟨t194, A80, H⟩ := H
                replace H : (if t194 = true then (deadboltref12_Same.l0 k1 l0 l1 (l0.length : Int) (wrap64 (x13_1 + 1))) else (some false)) = some r := H
                have A8 := Aside0.mk A80
                clear A80
                by_cases c9 : t194 = true
                · subst c9
                  have H1 : (deadboltref12_Same.l0 k1 l0 l1 (l0.length : Int) (wrap64 (x13_1 + 1))) = some r := by rw [if_pos rfl] at H; exact H
                  clear H
                  have H := H1
                  clear H1
                  have H' := Aside0.mk H
                  clear H
                  have p192 : 0 ≤ (x13_1 : Int) := of_decide_eq_true (by first | (with_reducible assumption) | assumption)
                  have q192 : x13_1 < (l0.length : Int) := of_decide_eq_true (by first | (with_reducible assumption) | assumption)
                  obtain ⟨ad192, A192_0, c192_0, e192, hx192_0, hl192_0, hi192_0⟩ := at_L4 HR0.out x13_1 p192 q192
                  cases e192
                  have HR192_0 := Aside0.mk hi192_0
                  have HC192_0 := Aside0.mk hl192_0
                  clear hi192_0 hl192_0
                  replace p192 := eq_true p192
                  replace q192 := eq_true q192
                  have p193 : 0 ≤ (x13_1 : Int) := of_decide_eq_true (by first | (with_reducible assumption) | assumption)
                  have q193 : x13_1 < (l1.length : Int) := of_decide_eq_true (by first | (with_reducible assumption) | assumption)
                  obtain ⟨ad193, A193_0, c193_0, e193, hx193_0, hl193_0, hi193_0⟩ := at_L4 HR1.out x13_1 p193 q193
                  cases e193
                  have HR193_0 := Aside0.mk hi193_0
                  have HC193_0 := Aside0.mk hl193_0
                  clear hi193_0 hl193_0
                  replace p193 := eq_true p193
                  replace q193 := eq_true q193
                  go_wp2_with (first | (go_at_call 19; (with_reducible refine (deadboltref12_Acts.calls k1 _ _ (rd_L4 l0 x13_1) _ _ (rd_L4 l1 x13_1) true _ ?side1 ?side2 ?side3 ?side4 A8.out).mono ?_); (case side1 => repeat (first | exact HR192_0.out | (with_reducible refine Kd.C_alloc ?_ _) | (with_reducible refine Kd.C_drewN ?_ _) | (with_reducible refine Kd.C_drew ?_))); (case side2 => exact HC192_0.out); (case side3 => repeat (first | exact HR193_0.out | (with_reducible refine Kd.C_alloc ?_ _) | (with_reducible refine Kd.C_drewN ?_ _) | (with_reducible refine Kd.C_drew ?_))); (case side4 => exact HC193_0.out); rintro e w' ⟨rfl, ⟨nd, rfl⟩⟩; (try first | exact ⟨rfl, _, World.drewN_drewN _ _ _⟩ | exact ⟨rfl, _, Eq.trans (World.drewN_drewN _ _ _) (congrArg (World.drewN _) (Nat.add_assoc _ _ _))⟩)))
                  repeat (go_quiet (first | (go_at_call 19; (with_reducible refine (deadboltref12_Acts.calls k1 _ _ (rd_L4 l0 x13_1) _ _ (rd_L4 l1 x13_1) true _ ?side1 ?side2 ?side3 ?side4 A8.out).mono ?_); (case side1 => repeat (first | exact HR192_0.out | (with_reducible refine Kd.C_alloc ?_ _) | (with_reducible refine Kd.C_drewN ?_ _) | (with_reducible refine Kd.C_drew ?_))); (case side2 => exact HC192_0.out); (case side3 => repeat (first | exact HR193_0.out | (with_reducible refine Kd.C_alloc ?_ _) | (with_reducible refine Kd.C_drewN ?_ _) | (with_reducible refine Kd.C_drew ?_))); (case side4 => exact HC193_0.out); rintro e w' ⟨rfl, ⟨nd, rfl⟩⟩; (try first | exact ⟨rfl, _, World.drewN_drewN _ _ _⟩ | exact ⟨rfl, _, Eq.trans (World.drewN_drewN _ _ _) (congrArg (World.drewN _) (Nat.add_assoc _ _ _))⟩))); try go_wp2_with (first | (go_at_call 19; (with_reducible refine (deadboltref12_Acts.calls k1 _ _ (rd_L4 l0 x13_1) _ _ (rd_L4 l1 x13_1) true _ ?side1 ?side2 ?side3 ?side4 A8.out).mono ?_); (case side1 => repeat (first | exact HR192_0.out | (with_reducible refine Kd.C_alloc ?_ _) | (with_reducible refine Kd.C_drewN ?_ _) | (with_reducible refine Kd.C_drew ?_))); (case side2 => exact HC192_0.out); (case side3 => repeat (first | exact HR193_0.out | (with_reducible refine Kd.C_alloc ?_ _) | (with_reducible refine Kd.C_drewN ?_ _) | (with_reducible refine Kd.C_drew ?_))); (case side4 => exact HC193_0.out); rintro e w' ⟨rfl, ⟨nd, rfl⟩⟩; (try first | exact ⟨rfl, _, World.drewN_drewN _ _ _⟩ | exact ⟨rfl, _, Eq.trans (World.drewN_drewN _ _ _) (congrArg (World.drewN _) (Nat.add_assoc _ _ _))⟩))))
                  go_roundg k1
                  case measure => have := HK1.out; omega
                  case rel => exact ⟨(wrap64 (x13_1 + 1)), (by first | rfl | (simp; done) | (simp [*]; done)), H', ⟨by have := HK1.out; omega⟩, by repeat (first | exact Drawn0.refl _ | apply Drawn0.step)⟩
                · replace c9 := Bool.eq_false_iff.mpr c9
                  subst c9
                  have H1 : (some false) = some r := by rw [if_neg (show ¬ (false = true) by decide)] at H; exact H
                  clear H
                  have H := H1
                  clear H1
                  obtain rfl := Option.some.inj H
                  have p192 : 0 ≤ (x13_1 : Int) := of_decide_eq_true (by first | (with_reducible assumption) | assumption)
                  have q192 : x13_1 < (l0.length : Int) := of_decide_eq_true (by first | (with_reducible assumption) | assumption)
                  obtain ⟨ad192, A192_0, c192_0, e192, hx192_0, hl192_0, hi192_0⟩ := at_L4 HR0.out x13_1 p192 q192
                  cases e192
                  have HR192_0 := Aside0.mk hi192_0
                  have HC192_0 := Aside0.mk hl192_0
                  clear hi192_0 hl192_0
                  replace p192 := eq_true p192
                  replace q192 := eq_true q192
                  have p193 : 0 ≤ (x13_1 : Int) := of_decide_eq_true (by first | (with_reducible assumption) | assumption)
                  have q193 : x13_1 < (l1.length : Int) := of_decide_eq_true (by first | (with_reducible assumption) | assumption)
                  obtain ⟨ad193, A193_0, c193_0, e193, hx193_0, hl193_0, hi193_0⟩ := at_L4 HR1.out x13_1 p193 q193
                  cases e193
                  have HR193_0 := Aside0.mk hi193_0
                  have HC193_0 := Aside0.mk hl193_0
                  clear hi193_0 hl193_0
                  replace p193 := eq_true p193
                  replace q193 := eq_true q193
                  go_wp2_with (first | (go_at_call 19; (with_reducible refine (deadboltref12_Acts.calls k1 _ _ (rd_L4 l0 x13_1) _ _ (rd_L4 l1 x13_1) false _ ?side1 ?side2 ?side3 ?side4 A8.out).mono ?_); (case side1 => repeat (first | exact HR192_0.out | (with_reducible refine Kd.C_alloc ?_ _) | (with_reducible refine Kd.C_drewN ?_ _) | (with_reducible refine Kd.C_drew ?_))); (case side2 => exact HC192_0.out); (case side3 => repeat (first | exact HR193_0.out | (with_reducible refine Kd.C_alloc ?_ _) | (with_reducible refine Kd.C_drewN ?_ _) | (with_reducible refine Kd.C_drew ?_))); (case side4 => exact HC193_0.out); rintro e w' ⟨rfl, ⟨nd, rfl⟩⟩; (try first | exact ⟨rfl, _, World.drewN_drewN _ _ _⟩ | exact ⟨rfl, _, Eq.trans (World.drewN_drewN _ _ _) (congrArg (World.drewN _) (Nat.add_assoc _ _ _))⟩)))
                  repeat (go_quiet (first | (go_at_call 19; (with_reducible refine (deadboltref12_Acts.calls k1 _ _ (rd_L4 l0 x13_1) _ _ (rd_L4 l1 x13_1) false _ ?side1 ?side2 ?side3 ?side4 A8.out).mono ?_); (case side1 => repeat (first | exact HR192_0.out | (with_reducible refine Kd.C_alloc ?_ _) | (with_reducible refine Kd.C_drewN ?_ _) | (with_reducible refine Kd.C_drew ?_))); (case side2 => exact HC192_0.out); (case side3 => repeat (first | exact HR193_0.out | (with_reducible refine Kd.C_alloc ?_ _) | (with_reducible refine Kd.C_drewN ?_ _) | (with_reducible refine Kd.C_drew ?_))); (case side4 => exact HC193_0.out); rintro e w' ⟨rfl, ⟨nd, rfl⟩⟩; (try first | exact ⟨rfl, _, World.drewN_drewN _ _ _⟩ | exact ⟨rfl, _, Eq.trans (World.drewN_drewN _ _ _) (congrArg (World.drewN _) (Nat.add_assoc _ _ _))⟩))); try go_wp2_with (first | (go_at_call 19; (with_reducible refine (deadboltref12_Acts.calls k1 _ _ (rd_L4 l0 x13_1) _ _ (rd_L4 l1 x13_1) false _ ?side1 ?side2 ?side3 ?side4 A8.out).mono ?_); (case side1 => repeat (first | exact HR192_0.out | (with_reducible refine Kd.C_alloc ?_ _) | (with_reducible refine Kd.C_drewN ?_ _) | (with_reducible refine Kd.C_drew ?_))); (case side2 => exact HC192_0.out); (case side3 => repeat (first | exact HR193_0.out | (with_reducible refine Kd.C_alloc ?_ _) | (with_reducible refine Kd.C_drewN ?_ _) | (with_reducible refine Kd.C_drew ?_))); (case side4 => exact HC193_0.out); rintro e w' ⟨rfl, ⟨nd, rfl⟩⟩; (try first | exact ⟨rfl, _, World.drewN_drewN _ _ _⟩ | exact ⟨rfl, _, Eq.trans (World.drewN_drewN _ _ _) (congrArg (World.drewN _) (Nat.add_assoc _ _ _))⟩))))
                  go_ret
                  exact ⟨by first | rfl | (simp; done) | (simp [*]; done), by repeat (first | exact Drawn0.refl _ | apply Drawn0.step)⟩
              · rw [if_neg c7] at H
                exact absurd H (by simp)
            · rw [if_neg c6] at H
              exact absurd H (by simp)
          · rw [if_neg c5] at H
            exact absurd H (by simp)
        · rw [if_neg c4] at H
          have c4b0 : decide (x13_1 < (l0.length : Int)) = false := decide_eq_false c4
          clear c4
          obtain rfl := Option.some.inj H
          go_wp2
          repeat (go_quiet (fail); try go_wp2)
          go_ret
          exact ⟨by first | rfl | (simp; done) | (simp [*]; done), by repeat (first | exact Drawn0.refl _ | apply Drawn0.step)⟩
  · rw [if_neg c3] at H
    have c3b0 : ((l0.length : Int) == (l1.length : Int)) = false := beq_eq_false_iff_ne.mpr c3
    have c3b1 : ((l0.length : Int) != (l1.length : Int)) = true := bne_iff_ne.mpr c3
    have c3b2 : (l0.length == l1.length) = false := by first | simpa using c3 | (simp at c3 ⊢; omega)
    obtain rfl := Option.some.inj H
    go_enter Tryd.func11, Tryd.ntmps11
    go_wp2
    repeat (go_quiet (fail); try go_wp2)
    go_ret
    exact ⟨by first | rfl | (simp; done) | (simp [*]; done), by repeat (first | exact Drawn0.refl _ | apply Drawn0.step)⟩

/-! ### deadboltlaw12_few: function 13 -/
def deadboltlaw12_few.l0 : Nat → List (List (S32)) → List (List (S32)) → Int → Int → Option ((List (List (S32))))
  | 0, _, _, _, _ => none
  | k + 1, x3, x10, x11, x12 => if x12 < x11 then (if 0 ≤ x12 then (if x12 < (x10.length : Int) then (if 0 ≤ (mn ((rd_L4 x10 x12).length : Int) 70) then (if (mn ((rd_L4 x10 x12).length : Int) 70) ≤ ((rd_L4 x10 x12).length : Int) then (if x3.length < 5864062014805 then (deadboltlaw12_few.l0 k (x3 ++ [((rd_L4 x10 x12).take ((mn ((rd_L4 x10 x12).length : Int) 70) : Int).toNat)]) x10 x11 (wrap64 (x12 + 1))) else (none)) else (none)) else (none)) else (none)) else (none)) else (some x3)
def deadboltlaw12_few.f (k : Nat) (l0 : List (List (S32))) : Option ((List (List (S32)))) := if 0 ≤ (mn (l0.length : Int) 10) then (if (mn (l0.length : Int) 10) ≤ (l0.length : Int) then ((some (l0.take ((mn (l0.length : Int) 10) : Int).toNat : List (List (S32)))).bind fun y195 => (deadboltlaw12_few.l0 k ([] : List (List (S32))) y195 (y195.length : Int) 0)) else (none)) else (none)
theorem deadboltlaw12_few.mono_l : ∀ k, (∀ y0 y1 y2 y3, LeO (deadboltlaw12_few.l0 k y0 y1 y2 y3) (deadboltlaw12_few.l0 (k + 1) y0 y1 y2 y3))
  | 0 => fun _ _ _ _ r h => by simp [deadboltlaw12_few.l0] at h
  | k + 1 => by
    have ih0 := deadboltlaw12_few.mono_l k
    · intro y0 y1 y2 y3
      unfold deadboltlaw12_few.l0
      repeat' first
      | (with_reducible exact ih0 _ _ _ _)
      | (with_reducible exact LeO.refl _)
      | (with_reducible exact LeO.none _)
      | (with_reducible refine LeO.ite ?_ ?_)
      | (with_reducible refine LeO.bind ?_ (fun _ => ?_))
      | exact ih0 _ _ _ _
      | exact LeO.none _
      | refine LeO.ite ?_ ?_
      | refine LeO.bind ?_ (fun _ => ?_)
theorem deadboltlaw12_few.mono : ∀ a0 k, LeO (deadboltlaw12_few.f k a0) (deadboltlaw12_few.f (k + 1) a0) := by
  intro a0 k
  have ih0 := deadboltlaw12_few.mono_l k
  unfold deadboltlaw12_few.f
  repeat' first
      | (with_reducible exact ih0 _ _ _ _)
      | (with_reducible exact LeO.refl _)
      | (with_reducible exact LeO.none _)
      | (with_reducible refine LeO.ite ?_ ?_)
      | (with_reducible refine LeO.bind ?_ (fun _ => ?_))
      | exact ih0 _ _ _ _
      | exact LeO.none _
      | refine LeO.ite ?_ ?_
      | refine LeO.bind ?_ (fun _ => ?_)
set_option maxHeartbeats 8000000 in
set_option maxRecDepth 100000 in
theorem deadboltlaw12_few.calls (k : Nat) (P0_ : Nat → Prop) (A0 : Option Addr) (c0 : Nat) (l0 : List (List (S32))) (r : List (List (S32))) (w : World) (hs0 : Kd.V (Kd.slice 32 k32) 29 w w.heap.size (fun k_ => P0_ k_) (.slice A0 l0.length c0) l0) (h : deadboltlaw12_few.f k l0 = some r) :
    Calls Tryd.prog 13 #[.slice A0 l0.length c0] w fun e w' => ∃ v0_ : Value, e = .returned (v0_) ∧ Kd.N (Kd.slice 32 k32) 29 w' w.heap.size (fun k_ => (P0_ k_ ∨ w.heap.size ≤ k_)) v0_ r ∧ Below w.heap.size w w' := by
  have HO0 := Aside0.mk (show Kd.V (Kd.slice 32 k32) 29 w w.heap.size (fun k_ => (P0_ k_ ∨ w.heap.size ≤ k_)) (.slice A0 l0.length c0) l0 from Kd.V_mono hs0 (fun k_ hk => .inl hk))
  have HB := Aside0.mk (Below.refl w.heap.size w)
  have H : (if 0 ≤ (mn (l0.length : Int) 10) then (if (mn (l0.length : Int) 10) ≤ (l0.length : Int) then ((some (l0.take ((mn (l0.length : Int) 10) : Int).toNat : List (List (S32)))).bind fun y195 => (deadboltlaw12_few.l0 k ([] : List (List (S32))) y195 (y195.length : Int) 0)) else (none)) else (none)) = some r := h
  clear h
  obtain ⟨ji2, hji2⟩ : ∃ j_ : Int, (mn (l0.length : Int) 10) = j_ := ⟨_, rfl⟩
  replace H : (if 0 ≤ (ji2) then (if (ji2) ≤ (l0.length : Int) then ((some (l0.take ((ji2) : Int).toNat : List (List (S32)))).bind fun y195 => (deadboltlaw12_few.l0 k ([] : List (List (S32))) y195 (y195.length : Int) 0)) else (none)) else (none)) = some r := by first | (rw [hji2] at H; exact H) | (simp only [hji2] at H ⊢; exact H)
  (try (have hji2h : ji2 ≤ 10 := by (rw [← hji2]; unfold mn; (repeat' split) <;> omega)))
  (try (have hji2g : ji2 ≤ 64 := by omega))
  (try (have hji2l : 0 ≤ ji2 := by (rw [← hji2]; unfold mn; (repeat' split) <;> omega)))
  (try (have hji2m : 0 ≤ ji2 := by omega))
  have hji2_ : (if 10 < (l0.length : Int) then 10 else (l0.length : Int)) = ji2 := hji2
  by_cases c3 : 0 ≤ (ji2)
  · rw [if_pos c3] at H
    have c3b0 := eq_true c3
    have c3b1 : decide (0 ≤ (ji2)) = true := decide_eq_true c3
    clear c3
    by_cases c4 : (ji2) ≤ (l0.length : Int)
    · rw [if_pos c4] at H
      have c4b0 := eq_true c4
      have c4b1 : decide ((ji2) ≤ (l0.length : Int)) = true := decide_eq_true c4
      clear c4
      obtain ⟨y195, hy195⟩ : ∃ y_ : List (List (S32)), y_ = (l0.take ((ji2) : Int).toNat) := ⟨_, rfl⟩
      replace H : (deadboltlaw12_few.l0 k ([] : List (List (S32))) y195 (y195.length : Int) 0) = some r := by first | (rw [hy195]; with_reducible exact H) | (have H2_ := (Option.bind_some _ _).symm.trans H; rw [hy195]; with_reducible exact H2_) | (have H2_ := (Option.bind_some _ _).symm.trans H; with_reducible exact H2_) | with_reducible exact H | (rw [hy195]; exact H) | exact H
      have Ny195 := Aside0.mk hy195
      clear hy195
      have H' := Aside0.mk H
      clear H
      have q5 : ((ji2) : Int) ≤ ((l0.length : Int) : Int) := of_decide_eq_true (by first | (with_reducible assumption) | assumption)
      obtain ⟨i05, hi05, _, hsz5, _⟩ := info_parts info29
      have hroom5 : l0.length ≤ c0 := (Kd.V_reads' HO0.out).2.1
      have hC5 : Kd.F (Kd.slice 32 k32) _ _ A0 l0.length l0 := (Kd.V_at (base := w.heap.size) HO0.out).2.2
      have hcut5 := cut_to (P := Tryd.prog) 22 29 .i64 Tryd.underlying22 hi05 A0 l0.length c0 (ji2) (of_decide_eq_true (by first | (with_reducible assumption) | assumption)) q5 hroom5
      have hr5 := Kd.F_take (m := ((ji2) : Int).toNat) hC5 (by omega)
      have hy5 : y195.length = ((ji2) : Int).toNat := (by rw [Ny195.out, List.length_take]; omega)
      rw [← Ny195.out] at hr5
      rw [← hy5] at hcut5
      have HO199 := Aside0.mk (show Kd.V (Kd.slice 32 k32) 29 _ w.heap.size _ (.slice A0 y195.length c0) y195 from Kd.V_mk (by omega) hr5)
      have HC199 := Aside0.mk (show y195.length ≤ c0 from by omega)
      clear hr5 hC5 hroom5 hi05 hsz5
      have KY5 := Aside0.mk hy5
      clear hy5
      replace q5 := eq_true q5
      go_enter Tryd.func13, Tryd.ntmps13
      go_wp2
      go_loopg [3, 12] k (fun kq v3 v12 w' => ∃ (x3_1 : List (List (S32))) (x12_1 : Int), v12 = .int .i64 x12_1 ∧ Aside0 (deadboltlaw12_few.l0 kq x3_1 y195 (y195.length : Int) x12_1 = some r) ∧ Aside0 (kq ≤ k) ∧ Aside0 (Kd.N (Kd.slice 32 k32) 29 w' w.heap.size (fun k_ => (P0_ k_ ∨ w.heap.size ≤ k_)) v3 x3_1) ∧ Aside0 (Kd.V (Kd.slice 32 k32) 29 w' w.heap.size (fun k_ => (P0_ k_ ∨ w.heap.size ≤ k_) ∧ some k_ ≠ (v3 : Value).ownBlock) (.slice A0 y195.length c0) y195) ∧ Aside0 (Below w.heap.size w w'))
      case atStart => exact ⟨(([] : List (List (S32)))), (0), (by first | rfl | (simp; done) | (simp [*]; done)), H', ⟨Nat.le_refl _⟩, ⟨by first | exact Kd.S_nil _ _ _ _ _ | exact Kd.N_nil _ _ _ _ _ | exact Kd.V_nil _ _ _ _ _ | exact Kd.Q_nil _ _ _ _ _ | exact Kd.R_nil _ _ _ _ _⟩, ⟨by (with_reducible repeat (first | apply Kd.V_alloc | apply Kd.V_drewN | apply Kd.V_drew)); exact Kd.V_mono HO199.out (fun _ hk => ⟨hk, (by simp [Value.ownBlock])⟩)⟩, ⟨by repeat (first | (with_reducible first | exact HB.out | apply below_alloc | apply pw_below_drewN | apply below_drew1) | exact HB.out)⟩⟩
      case round =>
        clear H'
        try clear c1
        try clear p2
        try clear c3
        try clear c3b0
        try clear c3b1
        try clear c4
        try clear c4b0
        try clear c4b1
        try clear q5
        try clear q5
        obtain ⟨x3_1, x12_1, rfl, HA, HK1, HO_3, HO_10, HB⟩ := hrel
        cases gk with
        | zero => exact absurd HA.out (by simp [deadboltlaw12_few.l0])
        | succ k1 =>
          have H := HA.out
          clear HA
          simp only [deadboltlaw12_few.l0] at H
          by_cases c6 : x12_1 < (y195.length : Int)
          · rw [if_pos c6] at H
            have c6b0 : decide (x12_1 < (y195.length : Int)) = true := decide_eq_true c6
            clear c6
            by_cases c7 : 0 ≤ x12_1
            · rw [if_pos c7] at H
              have c7b0 : decide (0 ≤ x12_1) = true := decide_eq_true c7
              clear c7
              by_cases c8 : x12_1 < (y195.length : Int)
              · rw [if_pos c8] at H
                have c8b0 : decide (x12_1 < (y195.length : Int)) = true := decide_eq_true c8
                clear c8
                obtain ⟨ji9, hji9⟩ : ∃ j_ : Int, (mn ((rd_L4 y195 x12_1).length : Int) 70) = j_ := ⟨_, rfl⟩
                replace H : (if 0 ≤ (ji9) then (if (ji9) ≤ ((rd_L4 y195 x12_1).length : Int) then (if x3_1.length < 5864062014805 then (deadboltlaw12_few.l0 k1 (x3_1 ++ [((rd_L4 y195 x12_1).take ((ji9) : Int).toNat)]) y195 (y195.length : Int) (wrap64 (x12_1 + 1))) else (none)) else (none)) else (none)) = some r := by first | (rw [hji9] at H; exact H) | (simp only [hji9] at H ⊢; exact H)
                have hji9_ : (if 70 < ((rd_L4 y195 x12_1).length : Int) then 70 else ((rd_L4 y195 x12_1).length : Int)) = ji9 := hji9
                by_cases c10 : 0 ≤ (ji9)
                · rw [if_pos c10] at H
                  have c10b0 := eq_true c10
                  have c10b1 : decide (0 ≤ (ji9)) = true := decide_eq_true c10
                  clear c10
                  by_cases c11 : (ji9) ≤ ((rd_L4 y195 x12_1).length : Int)
                  · rw [if_pos c11] at H
                    have c11b0 := eq_true c11
                    have c11b1 : decide ((ji9) ≤ ((rd_L4 y195 x12_1).length : Int)) = true := decide_eq_true c11
                    clear c11
                    obtain ⟨y201, hy201⟩ : ∃ y_ : List (S32), y_ = ((rd_L4 y195 x12_1).take ((ji9) : Int).toNat) := ⟨_, rfl⟩
                    replace H : (if x3_1.length < 5864062014805 then (deadboltlaw12_few.l0 k1 (x3_1 ++ [y201]) y195 (y195.length : Int) (wrap64 (x12_1 + 1))) else (none)) = some r := by first | (rw [hy201]; with_reducible exact H) | (have H2_ := (Option.bind_some _ _).symm.trans H; rw [hy201]; with_reducible exact H2_) | (have H2_ := (Option.bind_some _ _).symm.trans H; with_reducible exact H2_) | with_reducible exact H | (rw [hy201]; exact H) | exact H
                    have Ny201 := Aside0.mk hy201
                    clear hy201
                    by_cases c12 : x3_1.length < 5864062014805
                    · rw [if_pos c12] at H
                      have LMc12 := Aside0.mk c12
                      clear c12
                      obtain ⟨y206, hy206⟩ : ∃ y_ : List (List (S32)), y_ = (x3_1 ++ [y201]) := ⟨_, rfl⟩
                      replace H : (deadboltlaw12_few.l0 k1 y206 y195 (y195.length : Int) (wrap64 (x12_1 + 1))) = some r := by first | (rw [hy206]; with_reducible exact H) | (have H2_ := (Option.bind_some _ _).symm.trans H; rw [hy206]; with_reducible exact H2_) | (have H2_ := (Option.bind_some _ _).symm.trans H; with_reducible exact H2_) | with_reducible exact H | (rw [hy206]; exact H) | exact H
                      have Ny206 := Aside0.mk hy206
                      clear hy206
                      have H' := Aside0.mk H
                      clear H
                      have p200 : 0 ≤ (x12_1 : Int) := of_decide_eq_true (by first | (with_reducible assumption) | assumption)
                      have q200 : x12_1 < (y195.length : Int) := of_decide_eq_true (by first | (with_reducible assumption) | assumption)
                      obtain ⟨ad200, A200_0, c200_0, e200, hx200_0, hl200_0, hi200_0⟩ := at_L4 (Kd.V_reads' HO_10.out).2.2 x12_1 p200 q200
                      cases e200
                      obtain ⟨ce200, hce200, hMe200, hcc200⟩ := Kd.V_get HO_10.out [] x12_1 p200 (by first | exact q200 | exact of_decide_eq_true (by first | (with_reducible assumption) | assumption) | (have e_ := (Kd.V_reads' HO_10.out).1; omega))
                      obtain ⟨ua200_0, uc200_0, rfl, ul200_0, ge200_0⟩ := Kd.FK_slice_open hMe200
                      have hv200_0 := hcc200 0 _ rfl
                      rw [Nat.add_zero, show ((Kd.slice 32 k32)).sz = 1 from rfl, Nat.mul_one] at hv200_0
                      replace hv200_0 := Option.some.inj (hv200_0.symm.trans hx200_0)
                      injection hv200_0 with hva_ hvn_ hvc_
                      rw [hva_] at ge200_0
                      rw [hvc_] at ul200_0
                      have HL200_0 := Aside0.mk (show Kd.V k32 32 _ w.heap.size _ _ (rd_L4 y195 x12_1) from Kd.V_mk ul200_0 ge200_0)
                      clear hva_ hvn_ hvc_ ge200_0 ul200_0
                      clear hcc200 hce200
                      have HR200_0 := Aside0.mk hi200_0
                      have HC200_0 := Aside0.mk hl200_0
                      clear hi200_0 hl200_0
                      replace p200 := eq_true p200
                      replace q200 := eq_true q200
                      have q13 : ((ji9) : Int) ≤ (((rd_L4 y195 x12_1).length : Int) : Int) := of_decide_eq_true (by first | (with_reducible assumption) | assumption)
                      obtain ⟨i013, hi013, _, hsz13, _⟩ := info_parts info32
                      have hroom13 : (rd_L4 y195 x12_1).length ≤ c200_0 := HC200_0.out
                      have hC13 : Kd.F k32 _ _ A200_0 (rd_L4 y195 x12_1).length (rd_L4 y195 x12_1) := (Kd.V_at (base := w.heap.size) HL200_0.out).2.2
                      have hcut13 := cut_to (P := Tryd.prog) 29 32 .i64 Tryd.underlying29 hi013 A200_0 (rd_L4 y195 x12_1).length c200_0 (ji9) (of_decide_eq_true (by first | (with_reducible assumption) | assumption)) q13 hroom13
                      have hr13 := Kd.F_take (m := ((ji9) : Int).toNat) hC13 (by omega)
                      have hy13 : y201.length = ((ji9) : Int).toNat := (by rw [Ny201.out, List.length_take]; omega)
                      rw [← Ny201.out] at hr13
                      rw [← hy13] at hcut13
                      have HO205 := Aside0.mk (show Kd.V k32 32 _ w.heap.size _ (.slice A200_0 y201.length c200_0) y201 from Kd.V_mk (by omega) hr13)
                      have HC205 := Aside0.mk (show y201.length ≤ c200_0 from by omega)
                      clear hr13 hC13 hroom13 hi013 hsz13
                      have KY13 := Aside0.mk hy13
                      clear hy13
                      replace q13 := eq_true q13
                      go_wp2_with (first | ((with_reducible refine gate_builtin (b := .append) (xs := #[.tmp 16, .tmp 22]) rfl ?_); at_builtin; refine Kd.N_append (Kd.slice 32 k32) (w0 := w) w.heap.size rfl (.tmp 16) (.tmp 22) 22 29 (.slice none 0 0) 24 rfl Tryd.underlying22 info29 rfl (by decide) (by omega) u3 x3_1 y201 [.slice A200_0 y201.length c200_0] (fun k_ => (P0_ k_ ∨ w.heap.size ≤ k_)) (fun k_ => ((fun k_ => (P0_ k_ ∨ w.heap.size ≤ k_))) k_ ∧ some k_ ≠ (u3 : Value).ownBlock) rfl rfl ?aP (fun _ hk => hk) ?aF ?aO ?aB ?aS ?aL ?_; (case aP => exact (Kd.FK_slice_mk (Kd.V_reads' (Kd.V_mono (ok' := (fun k_ => ((fun k_ => (P0_ k_ ∨ w.heap.size ≤ k_))) k_ ∧ some k_ ≠ (u3 : Value).ownBlock)) (HO205.out) (fun k_ hk => ⟨hk.1, hk.2⟩))).2.1 (Kd.V_F (Kd.V_mono (ok' := (fun k_ => ((fun k_ => (P0_ k_ ∨ w.heap.size ≤ k_))) k_ ∧ some k_ ≠ (u3 : Value).ownBlock)) (HO205.out) (fun k_ hk => ⟨hk.1, hk.2⟩))))); (case aB => exact (by repeat (first | (with_reducible first | exact HB.out | apply below_alloc | apply pw_below_drewN | apply below_drew1) | exact HB.out))); (case aF => exact (fun k_ hk => (.inr (Nat.le_trans (below_size (by repeat (first | (with_reducible first | exact HB.out | apply below_alloc | apply pw_below_drewN | apply below_drew1) | exact HB.out))) hk)))); (case aO => exact (by (with_reducible repeat (first | apply Kd.N_alloc | apply Kd.N_drewN | apply Kd.N_drew)); exact HO_3.out)); (case aS => exact (below_size (by repeat (first | (with_reducible first | exact HB.out | apply below_alloc | apply pw_below_drewN | apply below_drew1) | exact HB.out)))); (case aL => have := LMc12.out; omega); intro v207 w14 ho hb hg hat; rw [← Ny206.out] at ho; have n0_ := Aside0.mk (Kd.V_afterv (ok := (fun k_ => (P0_ k_ ∨ w.heap.size ≤ k_))) (by (with_reducible repeat (first | apply Kd.V_alloc | apply Kd.V_drewN | apply Kd.V_drew)); exact HO_10.out) hg hat); have n1_ := Aside0.mk (Kd.V_afterv (ok := (fun k_ => (P0_ k_ ∨ w.heap.size ≤ k_))) (by (with_reducible repeat (first | apply Kd.V_alloc | apply Kd.V_drewN | apply Kd.V_drew)); exact HL200_0.out) hg hat); have n2_ := Aside0.mk (Kd.V_afterv (ok := (fun k_ => (P0_ k_ ∨ w.heap.size ≤ k_))) (by (with_reducible repeat (first | apply Kd.V_alloc | apply Kd.V_drewN | apply Kd.V_drew)); exact HO205.out) hg hat); have n3_ := Aside0.mk (hb); have n4_ := Aside0.mk (ho); clear HO_10; clear HL200_0; clear HO205; clear HB; clear HO_3; have HO_10 := n0_; have HL200_0 := n1_; have HO205 := n2_; have HB := n3_; have HO208 := n4_; clear n0_ n1_ n2_ n3_ n4_; clear ho hb hg hat))
                      go_roundg k1
                      case measure => have := HK1.out; omega
                      case rel => exact ⟨(y206), (wrap64 (x12_1 + 1)), (by first | rfl | (simp; done) | (simp [*]; done)), H', ⟨by have := HK1.out; omega⟩, ⟨by (with_reducible repeat (first | apply Kd.N_alloc | apply Kd.N_drewN | apply Kd.N_drew)); exact HO208.out⟩, ⟨by (with_reducible repeat (first | apply Kd.V_alloc | apply Kd.V_drewN | apply Kd.V_drew)); exact HO_10.out⟩, ⟨by repeat (first | (with_reducible first | exact HB.out | apply below_alloc | apply pw_below_drewN | apply below_drew1) | exact HB.out)⟩⟩
                    · rw [if_neg c12] at H
                      exact absurd H (by simp)
                  · rw [if_neg c11] at H
                    exact absurd H (by simp)
                · rw [if_neg c10] at H
                  exact absurd H (by simp)
              · rw [if_neg c8] at H
                exact absurd H (by simp)
            · rw [if_neg c7] at H
              exact absurd H (by simp)
          · rw [if_neg c6] at H
            have c6b0 : decide (x12_1 < (y195.length : Int)) = false := decide_eq_false c6
            clear c6
            obtain rfl := Option.some.inj H
            go_wp2
            go_ret
            exact ⟨_, by first | rfl | (simp [errW_none, errW_some] <;> rfl) | (simp only [← hji2]; first | rfl | (simp [errW_none, errW_some] <;> rfl)) | (simp [*, errW_none, errW_some] <;> rfl), by (with_reducible repeat (first | apply Kd.N_alloc | apply Kd.N_drewN | apply Kd.N_drew)); exact HO_3.out, by repeat (first | (with_reducible first | exact HB.out | apply below_alloc | apply pw_below_drewN | apply below_drew1) | exact HB.out)⟩
    · rw [if_neg c4] at H
      exact absurd H (by simp)
  · rw [if_neg c3] at H
    exact absurd H (by simp)

-- NOT PRINTED: function 47 (api_Act_47)

-- NOT PRINTED: function 34 (api_Act_34)


/-! ### prog_Right: function 16 (by hand) -/


-- NOT PRINTED: function 56 (abi_NoEscape)

-- NOT PRINTED: function 44 (strings_Builder_copyCheck)

-- NOT PRINTED: function 27 (strings_Builder_WriteString)

-- NOT PRINTED: function 29 (strings_Builder_String)

-- NOT PRINTED: function 69 (bytealg_MakeNoZero)

-- NOT PRINTED: function 57 (strings_Builder_grow)

-- NOT PRINTED: function 45 (strings_Builder_Grow)

-- NOT PRINTED: function 28 (strings_Join)


/-! ### prog_Print: function 14 (by hand) -/


end Go.Proofs.YtfebhemdpbnebaaDoor.PProgLines
