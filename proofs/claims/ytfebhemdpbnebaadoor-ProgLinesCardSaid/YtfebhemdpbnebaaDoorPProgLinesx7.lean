/- The functions that a law reaches, as Lean functions, and for each a proof that the call hands back just what its Lean function says; no conditions beyond each statement. Written by a program of this session (a changed copy of the print). -/
import Derived.Test.YtfebhemdpbnebaaDoorPProgLinesx0
import Derived.Test.YtfebhemdpbnebaaDoorPProgLinesx5
import Derived.Test.YtfebhemdpbnebaaDoorPProgLinesx6
namespace Go.Proofs.YtfebhemdpbnebaaDoor.PProgLines
open Go.Proofs.YtfebhemdpbnebaaDoor.Hand
open Go.RowKit Go.Proofs.YtfebhemdpbnebaaDoorW.PrintWords Go.Proofs.YtfebhemdpbnebaaDoorW.PrintLast Go.Proofs.YtfebhemdpbnebaaDoorW.PrintMore
attribute [local go_sem] max2_int min2_int max_two min_two max_three min_three max_four min_four   -- for this text's walks alone
set_option linter.unusedVariables false
set_option linter.unusedSimpArgs false

/-! ### deadboltlaw12_ProgLines: function 7 -/
mutual
def deadboltlaw12_ProgLines.j0 : Nat → List (List (S32)) → List (List (S32)) → ByteArray → ByteArray → Bool → Option (Bool)
  | 0, _, _, _, _, _ => none
  | k + 1, x0, x1, x5, x7, x46 => if x46 = true then ((deadboltlaw12_alive.f k).bind fun t220 => (some t220)) else (if x5.size + x7.size ≤ 9223372036854775807 then ((prog_Parse.f k (x5 ++ x7)).bind fun bt221 => (if (wrap64 ((x0.length : Int) + (x1.length : Int))) > 8 then ((deadboltlaw12_alive.f k).bind fun t226 => (if t226 = true then (if bt221.2.2 = 5 then (if bt221.2.1 = 8 then (some ((bt221.1.length : Int) == 0)) else (some false)) else (some false)) else (some false))) else (if bt221.2.2 = 0 then ((some (([] : List (List (S32))) : List (List (S32)))).bind fun y227 => (if y227.length + x0.length < 5864062014805 then ((some (y227 ++ x0 : List (List (S32)))).bind fun y230 => (if y230.length + x1.length < 5864062014805 then ((deadboltref12_Same.f k bt221.1 (y230 ++ x1)).bind fun t236 => (if t236 = true then ((deadboltlaw12_alive.f k).bind fun t237 => (deadboltlaw12_ProgLines.j1 k x0 (!t237))) else (deadboltlaw12_ProgLines.j1 k x0 true))) else (none))) else (none))) else (deadboltlaw12_ProgLines.j1 k x0 true)))) else (none))
def deadboltlaw12_ProgLines.j1 : Nat → List (List (S32)) → Bool → Option (Bool)
  | 0, _, _ => none
  | k + 1, x0, x91 => if x91 = true then (some false) else (deadboltlaw12_ProgLines.l0 k x0 (x0.length : Int) 0)
def deadboltlaw12_ProgLines.l0 : Nat → List (List (S32)) → Int → Int → Option (Bool)
  | 0, _, _, _ => none
  | k + 1, x92, x93, x94 => if x94 < x93 then (if 0 ≤ x94 then (if x94 < (x92.length : Int) then ((prog_Print.f (([rd_L4 x92 x94] : List (List (S32))))).bind fun bt242 => ((prog_Parse.f k bt242.1).bind fun bt244 => (if bt242.2 = 0 then (if bt244.2.2 = 0 then (if (bt244.1.length : Int) = 1 then (if 0 < (bt244.1.length : Int) then ((deadboltref12_Acts.f k (rd_L4 bt244.1 0) (rd_L4 x92 x94)).bind fun t250 => (if t250 = true then (deadboltlaw12_ProgLines.l0 k x92 x93 (wrap64 (x94 + 1))) else (some false))) else (none)) else (some false)) else (some false)) else (some false)))) else (none)) else (none)) else (some true)
end
def deadboltlaw12_ProgLines.f (k : Nat) (l0 : List (List (S32))) (l1 : List (List (S32))) : Option (Bool) := (deadboltlaw12_few.f k l0).bind fun t210 => ((deadboltlaw12_few.f k l1).bind fun t213 => ((prog_Print.f t210).bind fun bt216 => ((prog_Print.f t213).bind fun bt218 => (if bt216.2 = 0 then (if bt218.2 = 0 then (deadboltlaw12_ProgLines.j0 k t210 t213 bt216.1 bt218.1 (decide ((wrap64 ((bt216.1.size : Int) + (bt218.1.size : Int))) > 2000))) else (deadboltlaw12_ProgLines.j0 k t210 t213 bt216.1 bt218.1 true)) else (deadboltlaw12_ProgLines.j0 k t210 t213 bt216.1 bt218.1 true)))))
theorem deadboltlaw12_ProgLines.mono_l : ∀ k, (∀ y0 y1 y2 y3 y4, LeO (deadboltlaw12_ProgLines.j0 k y0 y1 y2 y3 y4) (deadboltlaw12_ProgLines.j0 (k + 1) y0 y1 y2 y3 y4)) ∧ (∀ y0 y1, LeO (deadboltlaw12_ProgLines.j1 k y0 y1) (deadboltlaw12_ProgLines.j1 (k + 1) y0 y1)) ∧ (∀ y0 y1 y2, LeO (deadboltlaw12_ProgLines.l0 k y0 y1 y2) (deadboltlaw12_ProgLines.l0 (k + 1) y0 y1 y2))
  | 0 => ⟨fun _ _ _ _ _ r h => by simp [deadboltlaw12_ProgLines.j0] at h, fun _ _ r h => by simp [deadboltlaw12_ProgLines.j1] at h, fun _ _ _ r h => by simp [deadboltlaw12_ProgLines.l0] at h⟩
  | k + 1 => by
    obtain ⟨ih0, ih1, ih2⟩ := deadboltlaw12_ProgLines.mono_l k
    refine ⟨?_, ?_, ?_⟩
    · intro y0 y1 y2 y3 y4
      unfold deadboltlaw12_ProgLines.j0
      repeat' first
      | (with_reducible exact ih0 _ _ _ _ _)
      | (with_reducible exact ih1 _ _)
      | (with_reducible exact ih2 _ _ _)
      | (with_reducible exact deadboltlaw12_alive.mono _)
      | (with_reducible exact deadboltlaw12_few.mono _ _)
      | (with_reducible exact deadboltref12_Acts.mono _ _ _)
      | (with_reducible exact deadboltref12_Same.mono _ _ _)
      | (with_reducible exact prog_Parse.mono _ _)
      | (with_reducible exact LeO.refl _)
      | (with_reducible exact LeO.none _)
      | (with_reducible refine LeO.ite ?_ ?_)
      | (with_reducible refine LeO.bind ?_ (fun _ => ?_))
      | exact ih0 _ _ _ _ _
      | exact ih1 _ _
      | exact ih2 _ _ _
      | exact deadboltlaw12_alive.mono _
      | exact deadboltlaw12_few.mono _ _
      | exact deadboltref12_Acts.mono _ _ _
      | exact deadboltref12_Same.mono _ _ _
      | exact prog_Parse.mono _ _
      | exact LeO.none _
      | refine LeO.ite ?_ ?_
      | refine LeO.bind ?_ (fun _ => ?_)
    · intro y0 y1
      unfold deadboltlaw12_ProgLines.j1
      repeat' first
      | (with_reducible exact ih0 _ _ _ _ _)
      | (with_reducible exact ih1 _ _)
      | (with_reducible exact ih2 _ _ _)
      | (with_reducible exact deadboltlaw12_alive.mono _)
      | (with_reducible exact deadboltlaw12_few.mono _ _)
      | (with_reducible exact deadboltref12_Acts.mono _ _ _)
      | (with_reducible exact deadboltref12_Same.mono _ _ _)
      | (with_reducible exact prog_Parse.mono _ _)
      | (with_reducible exact LeO.refl _)
      | (with_reducible exact LeO.none _)
      | (with_reducible refine LeO.ite ?_ ?_)
      | (with_reducible refine LeO.bind ?_ (fun _ => ?_))
      | exact ih0 _ _ _ _ _
      | exact ih1 _ _
      | exact ih2 _ _ _
      | exact deadboltlaw12_alive.mono _
      | exact deadboltlaw12_few.mono _ _
      | exact deadboltref12_Acts.mono _ _ _
      | exact deadboltref12_Same.mono _ _ _
      | exact prog_Parse.mono _ _
      | exact LeO.none _
      | refine LeO.ite ?_ ?_
      | refine LeO.bind ?_ (fun _ => ?_)
    · intro y0 y1 y2
      unfold deadboltlaw12_ProgLines.l0
      repeat' first
      | (with_reducible exact ih0 _ _ _ _ _)
      | (with_reducible exact ih1 _ _)
      | (with_reducible exact ih2 _ _ _)
      | (with_reducible exact deadboltlaw12_alive.mono _)
      | (with_reducible exact deadboltlaw12_few.mono _ _)
      | (with_reducible exact deadboltref12_Acts.mono _ _ _)
      | (with_reducible exact deadboltref12_Same.mono _ _ _)
      | (with_reducible exact prog_Parse.mono _ _)
      | (with_reducible exact LeO.refl _)
      | (with_reducible exact LeO.none _)
      | (with_reducible refine LeO.ite ?_ ?_)
      | (with_reducible refine LeO.bind ?_ (fun _ => ?_))
      | exact ih0 _ _ _ _ _
      | exact ih1 _ _
      | exact ih2 _ _ _
      | exact deadboltlaw12_alive.mono _
      | exact deadboltlaw12_few.mono _ _
      | exact deadboltref12_Acts.mono _ _ _
      | exact deadboltref12_Same.mono _ _ _
      | exact prog_Parse.mono _ _
      | exact LeO.none _
      | refine LeO.ite ?_ ?_
      | refine LeO.bind ?_ (fun _ => ?_)
theorem deadboltlaw12_ProgLines.mono : ∀ a0 a1 k, LeO (deadboltlaw12_ProgLines.f k a0 a1) (deadboltlaw12_ProgLines.f (k + 1) a0 a1) := by
  intro a0 a1 k
  obtain ⟨ih0, ih1, ih2⟩ := deadboltlaw12_ProgLines.mono_l k
  unfold deadboltlaw12_ProgLines.f
  repeat' first
      | (with_reducible exact ih0 _ _ _ _ _)
      | (with_reducible exact ih1 _ _)
      | (with_reducible exact ih2 _ _ _)
      | (with_reducible exact deadboltlaw12_alive.mono _)
      | (with_reducible exact deadboltlaw12_few.mono _ _)
      | (with_reducible exact deadboltref12_Acts.mono _ _ _)
      | (with_reducible exact deadboltref12_Same.mono _ _ _)
      | (with_reducible exact prog_Parse.mono _ _)
      | (with_reducible exact LeO.refl _)
      | (with_reducible exact LeO.none _)
      | (with_reducible refine LeO.ite ?_ ?_)
      | (with_reducible refine LeO.bind ?_ (fun _ => ?_))
      | exact ih0 _ _ _ _ _
      | exact ih1 _ _
      | exact ih2 _ _ _
      | exact deadboltlaw12_alive.mono _
      | exact deadboltlaw12_few.mono _ _
      | exact deadboltref12_Acts.mono _ _ _
      | exact deadboltref12_Same.mono _ _ _
      | exact prog_Parse.mono _ _
      | exact LeO.none _
      | refine LeO.ite ?_ ?_
      | refine LeO.bind ?_ (fun _ => ?_)
set_option maxHeartbeats 8000000 in
set_option maxRecDepth 100000 in
theorem deadboltlaw12_ProgLines.calls (k : Nat) (A0 : Option Addr) (c0 : Nat) (l0 : List (List (S32))) (A1 : Option Addr) (c1 : Nat) (l1 : List (List (S32))) (r : Bool) (w : World) (hr0 : Kd.C (Kd.slice 32 k32) w A0 l0.length l0) (hc0 : l0.length ≤ c0) (hr1 : Kd.C (Kd.slice 32 k32) w A1 l1.length l1) (hc1 : l1.length ≤ c1) (h : deadboltlaw12_ProgLines.f k l0 l1 = some r) (hT : Laid w) :
    Calls Tryd.prog 7 #[.slice A0 l0.length c0, .slice A1 l1.length c1] w fun e w' => e = .returned (.bool r) ∧ Below w.heap.size w w' := by
  have HT := Aside0.mk hT
  clear hT
  have HR0 := Aside0.mk hr0
  have HC0 := Aside0.mk hc0
  clear hr0 hc0
  have HR1 := Aside0.mk hr1
  have HC1 := Aside0.mk hc1
  clear hr1 hc1
  have HB := Aside0.mk (Below.refl w.heap.size w)
  have H : ((deadboltlaw12_few.f k l0).bind fun t210 => ((deadboltlaw12_few.f k l1).bind fun t213 => ((prog_Print.f t210).bind fun bt216 => ((prog_Print.f t213).bind fun bt218 => (if bt216.2 = 0 then (if bt218.2 = 0 then (deadboltlaw12_ProgLines.j0 k t210 t213 bt216.1 bt218.1 (decide ((wrap64 ((bt216.1.size : Int) + (bt218.1.size : Int))) > 2000))) else (deadboltlaw12_ProgLines.j0 k t210 t213 bt216.1 bt218.1 true)) else (deadboltlaw12_ProgLines.j0 k t210 t213 bt216.1 bt218.1 true)))))) = some r := h
  clear h
  replace H := Option.bind_eq_some_iff.mp H
  obtain ⟨t210, A30, H⟩ := H
  replace H : ((deadboltlaw12_few.f k l1).bind fun t213 => ((prog_Print.f t210).bind fun bt216 => ((prog_Print.f t213).bind fun bt218 => (if bt216.2 = 0 then (if bt218.2 = 0 then (deadboltlaw12_ProgLines.j0 k t210 t213 bt216.1 bt218.1 (decide ((wrap64 ((bt216.1.size : Int) + (bt218.1.size : Int))) > 2000))) else (deadboltlaw12_ProgLines.j0 k t210 t213 bt216.1 bt218.1 true)) else (deadboltlaw12_ProgLines.j0 k t210 t213 bt216.1 bt218.1 true))))) = some r := H
  have A3 := Aside0.mk A30
  clear A30
  replace H := Option.bind_eq_some_iff.mp H
  obtain ⟨t213, A40, H⟩ := H
  replace H : ((prog_Print.f t210).bind fun bt216 => ((prog_Print.f t213).bind fun bt218 => (if bt216.2 = 0 then (if bt218.2 = 0 then (deadboltlaw12_ProgLines.j0 k t210 t213 bt216.1 bt218.1 (decide ((wrap64 ((bt216.1.size : Int) + (bt218.1.size : Int))) > 2000))) else (deadboltlaw12_ProgLines.j0 k t210 t213 bt216.1 bt218.1 true)) else (deadboltlaw12_ProgLines.j0 k t210 t213 bt216.1 bt218.1 true)))) = some r := H
  have A4 := Aside0.mk A40
  clear A40
  replace H := Option.bind_eq_some_iff.mp H
  obtain ⟨⟨t216, t217⟩, A50, H⟩ := H
  replace H : ((prog_Print.f t213).bind fun bt218 => (if t217 = 0 then (if bt218.2 = 0 then (deadboltlaw12_ProgLines.j0 k t210 t213 t216 bt218.1 (decide ((wrap64 ((t216.size : Int) + (bt218.1.size : Int))) > 2000))) else (deadboltlaw12_ProgLines.j0 k t210 t213 t216 bt218.1 true)) else (deadboltlaw12_ProgLines.j0 k t210 t213 t216 bt218.1 true))) = some r := H
  have A5 := Aside0.mk A50
  clear A50
  replace H := Option.bind_eq_some_iff.mp H
  obtain ⟨⟨t218, t219⟩, A60, H⟩ := H
  replace H : (if t217 = 0 then (if t219 = 0 then (deadboltlaw12_ProgLines.j0 k t210 t213 t216 t218 (decide ((wrap64 ((t216.size : Int) + (t218.size : Int))) > 2000))) else (deadboltlaw12_ProgLines.j0 k t210 t213 t216 t218 true)) else (deadboltlaw12_ProgLines.j0 k t210 t213 t216 t218 true)) = some r := H
  have A6 := Aside0.mk A60
  clear A60
  have HC7 := Aside0.mk H
  clear H
  go_enter Tryd.func7, Tryd.ntmps7
  go_upto_region 4 with (first | ((with_reducible refine gate_callee (f := 13) rfl ?_); refine goesL_ (some 20) rfl rfl Tryd.func13 (by kernel_rfl) rfl #[.slice A0 l0.length c0] rfl (by (try simp only [List.map_toArray, List.map_cons, List.map_nil]); first | done | rfl | (simp only [List.length_drop, List.length_take]; rfl)) ?_; (with_reducible refine (deadboltlaw12_few.calls k (fun k_ => k_ < w.heap.size) _ _ l0 t210 _ ?side1 A3.out).mono ?_); (case side1 => exact Kd.V_mk HC0.out (Kd.F_below (Kd.C_F (Kd.heap_slice 32 k32_heap) HR0.out) (by repeat (first | (with_reducible first | exact HB.out | apply below_alloc | apply pw_below_drewN | apply below_drew1) | exact HB.out)))); rintro e w8 ⟨v211, rfl, ho0, hb⟩; refine ⟨_, rfl, ?_⟩; have n0_ := Aside0.mk (Kd.N_lower (Kd.N_mono (ok' := fun k_ => True) ho0 (fun k_ hk_ => trivial)) (below_size (by repeat (first | (with_reducible first | exact HB.out | apply below_alloc | apply pw_below_drewN | apply below_drew1) | exact HB.out)))); have n1_ := Aside0.mk (below_step (by repeat (first | (with_reducible first | exact HB.out | apply below_alloc | apply pw_below_drewN | apply below_drew1) | exact HB.out)) hb); clear HB; have HO212 := n0_; have HB := n1_; clear n0_ n1_; (try clear hb); (try clear hb2); (try clear hk); (try clear hi); (try clear ho0)) | ((with_reducible refine gate_callee (f := 13) rfl ?_); refine goesL_ (some 22) rfl rfl Tryd.func13 (by kernel_rfl) rfl #[.slice A1 l1.length c1] rfl (by (try simp only [List.map_toArray, List.map_cons, List.map_nil]); first | done | rfl | (simp only [List.length_drop, List.length_take]; rfl)) ?_; (with_reducible refine (deadboltlaw12_few.calls k (fun k_ => k_ < w.heap.size) _ _ l1 t213 _ ?side1 A4.out).mono ?_); (case side1 => exact Kd.V_mk HC1.out (Kd.F_below (Kd.C_F (Kd.heap_slice 32 k32_heap) HR1.out) (by repeat (first | (with_reducible first | exact HB.out | apply below_alloc | apply pw_below_drewN | apply below_drew1) | exact HB.out)))); rintro e w9 ⟨v214, rfl, ho0, hb⟩; refine ⟨_, rfl, ?_⟩; have n0_ := Aside0.mk (Kd.N_elder' (by (with_reducible repeat (first | apply Kd.N_alloc | apply Kd.N_drewN | apply Kd.N_drew)); exact HO212.out) (Kd.N_base ho0) hb); have n1_ := Aside0.mk (Kd.N_lower (Kd.N_mono (ok' := fun k_ => some k_ ≠ (v211 : Value).ownBlock) ho0 (fun k_ hk_ => Or.elim hk_ (fun hs_ => fun e_ => Nat.not_le.2 hs_ (Kd.N_base HO212.out k_ e_.symm)) (fun hn_ => (Kd.fresh' (Kd.N_lt (by (with_reducible repeat (first | apply Kd.N_alloc | apply Kd.N_drewN | apply Kd.N_drew)); exact HO212.out)) k_ hn_)))) (below_size (by repeat (first | (with_reducible first | exact HB.out | apply below_alloc | apply pw_below_drewN | apply below_drew1) | exact HB.out)))); have n2_ := Aside0.mk (below_step (by repeat (first | (with_reducible first | exact HB.out | apply below_alloc | apply pw_below_drewN | apply below_drew1) | exact HB.out)) hb); clear HO212; clear HB; have HO212 := n0_; have HO215 := n1_; have HB := n2_; clear n0_ n1_ n2_; (try clear hb); (try clear hb2); (try clear hk); (try clear hi); (try clear ho0); obtain ⟨Ao10, co10, eo10⟩ := Kd.N_slice HO212.out; subst eo10) | ((with_reducible refine gate_callee (f := 14) rfl ?_); refine goesL_ (some 25) rfl rfl Tryd.func14 (by kernel_rfl) rfl #[.slice Ao10 t210.length co10] rfl (by (try simp only [List.map_toArray, List.map_cons, List.map_nil]); first | done | rfl | (simp only [List.length_drop, List.length_take]; rfl)) ?_; (with_reducible refine (prog_Print.calls _ _ t210 t216 t217 _ ?side1 ?side2 A5.out (by first | exact HT.out | (with_reducible refine Laid.below HT.out ?_; repeat (first | (with_reducible first | exact HB.out | apply below_alloc | apply pw_below_drewN | apply below_drew1 | refine below_set ?_ (Aside0.out (by assumption))) | exact HB.out)) | (exact Laid.below HT.out (by repeat (first | exact HB.out | exact Below.refl _ _ | apply below_alloc | apply pw_below_drewN | apply below_drew1 | refine below_set ?_ (Aside0.out (by assumption))))))).mono ?_); (case side1 => repeat (first | exact (Kd.N_reads' HO212.out).2.2 | (with_reducible refine Kd.C_alloc ?_ _) | (with_reducible refine Kd.C_drewN ?_ _) | (with_reducible refine Kd.C_drew ?_))); (case side2 => exact (Kd.N_reads' HO212.out).2.1); rintro e w11 ⟨rfl, hb⟩; refine ⟨_, rfl, ?_⟩; have n0_ := Aside0.mk (Kd.N_below (by (with_reducible repeat (first | apply Kd.N_alloc | apply Kd.N_drewN | apply Kd.N_drew)); exact HO212.out) hb); have n1_ := Aside0.mk (Kd.N_below (by (with_reducible repeat (first | apply Kd.N_alloc | apply Kd.N_drewN | apply Kd.N_drew)); exact HO215.out) hb); have n2_ := Aside0.mk (below_step (by repeat (first | (with_reducible first | exact HB.out | apply below_alloc | apply pw_below_drewN | apply below_drew1) | exact HB.out)) hb); clear HO212; clear HO215; clear HB; have HO212 := n0_; have HO215 := n1_; have HB := n2_; clear n0_ n1_ n2_; (try clear hb); (try clear hb2); (try clear hk); (try clear hi); obtain ⟨Ao12, co12, eo12⟩ := Kd.N_slice HO215.out; subst eo12) | ((with_reducible refine gate_callee (f := 14) rfl ?_); refine goesL_ (some 30) rfl rfl Tryd.func14 (by kernel_rfl) rfl #[.slice Ao12 t213.length co12] rfl (by (try simp only [List.map_toArray, List.map_cons, List.map_nil]); first | done | rfl | (simp only [List.length_drop, List.length_take]; rfl)) ?_; (with_reducible refine (prog_Print.calls _ _ t213 t218 t219 _ ?side1 ?side2 A6.out (by first | exact HT.out | (with_reducible refine Laid.below HT.out ?_; repeat (first | (with_reducible first | exact HB.out | apply below_alloc | apply pw_below_drewN | apply below_drew1 | refine below_set ?_ (Aside0.out (by assumption))) | exact HB.out)) | (exact Laid.below HT.out (by repeat (first | exact HB.out | exact Below.refl _ _ | apply below_alloc | apply pw_below_drewN | apply below_drew1 | refine below_set ?_ (Aside0.out (by assumption))))))).mono ?_); (case side1 => repeat (first | exact (Kd.N_reads' HO215.out).2.2 | (with_reducible refine Kd.C_alloc ?_ _) | (with_reducible refine Kd.C_drewN ?_ _) | (with_reducible refine Kd.C_drew ?_))); (case side2 => exact (Kd.N_reads' HO215.out).2.1); rintro e w13 ⟨rfl, hb⟩; refine ⟨_, rfl, ?_⟩; have n0_ := Aside0.mk (Kd.N_below (by (with_reducible repeat (first | apply Kd.N_alloc | apply Kd.N_drewN | apply Kd.N_drew)); exact HO212.out) hb); have n1_ := Aside0.mk (Kd.N_below (by (with_reducible repeat (first | apply Kd.N_alloc | apply Kd.N_drewN | apply Kd.N_drew)); exact HO215.out) hb); have n2_ := Aside0.mk (below_step (by repeat (first | (with_reducible first | exact HB.out | apply below_alloc | apply pw_below_drewN | apply below_drew1) | exact HB.out)) hb); clear HO212; clear HO215; clear HB; have HO212 := n0_; have HO215 := n1_; have HB := n2_; clear n0_ n1_ n2_; (try clear hb); (try clear hb2); (try clear hk); (try clear hi)))
  (try simp only [Act.put, List.setIfInBounds_toArray, List.set_cons_zero, List.set_cons_succ])
  go_cut [46] (fun v46 wc => ∃ (kq : Nat) (x46_6 : Bool), v46 = .bool x46_6 ∧ Aside0 (deadboltlaw12_ProgLines.j0 kq t210 t213 t216 t218 x46_6 = some r) ∧ Aside0 (kq ≤ k) ∧ Aside0 (Kd.N (Kd.slice 32 k32) 29 wc w.heap.size (fun k_ => some k_ ≠ ((.slice Ao12 t213.length co12) : Value).ownBlock) (.slice Ao10 t210.length co10) t210) ∧ Aside0 (Kd.N (Kd.slice 32 k32) 29 wc w.heap.size (fun k_ => some k_ ≠ ((.slice Ao10 t210.length co10) : Value).ownBlock) (.slice Ao12 t213.length co12) t213) ∧ Aside0 (Below w.heap.size w wc))
  case first =>
    have H := HC7.out
    clear HC7
    by_cases c14 : t217 = 0
    · rw [if_pos c14] at H
      have c14b0 : (t217 == 0) = true := beq_iff_eq.mpr c14
      have c14b1 : (t217 != 0) = false := bne_eq_false_iff_eq.mpr c14
      clear c14
      (first | rw [c14b0] | (simp only [i64_w, i32_w]; rw [c14b0]) | skip)
      by_cases c15 : t219 = 0
      · rw [if_pos c15] at H
        have c15b0 : (t219 == 0) = true := beq_iff_eq.mpr c15
        have c15b1 : (t219 != 0) = false := bne_eq_false_iff_eq.mpr c15
        clear c15
        have H' := Aside0.mk H
        clear H
        go_wp2
        go_meet
        case rel => exact ⟨_, (decide ((wrap64 ((t216.size : Int) + (t218.size : Int))) > 2000)), (by first | rfl | (simp; done) | (simp [*]; done)), H', ⟨by first | omega | exact Nat.le_refl _⟩, ⟨by (with_reducible repeat (first | apply Kd.N_alloc | apply Kd.N_drewN | apply Kd.N_drew)); exact Kd.N_mono HO212.out (fun _ hk => hk.2)⟩, ⟨by (with_reducible repeat (first | apply Kd.N_alloc | apply Kd.N_drewN | apply Kd.N_drew)); exact HO215.out⟩, ⟨by repeat (first | (with_reducible first | exact HB.out | apply below_alloc | apply pw_below_drewN | apply below_drew1) | exact HB.out)⟩⟩
      · rw [if_neg c15] at H
        have c15b0 : (t219 == 0) = false := beq_eq_false_iff_ne.mpr c15
        have c15b1 : (t219 != 0) = true := bne_iff_ne.mpr c15
        have H' := Aside0.mk H
        clear H
        go_wp2
        go_meet
        case rel => exact ⟨_, (true), (by first | rfl | (simp; done) | (simp [*]; done)), H', ⟨by first | omega | exact Nat.le_refl _⟩, ⟨by (with_reducible repeat (first | apply Kd.N_alloc | apply Kd.N_drewN | apply Kd.N_drew)); exact Kd.N_mono HO212.out (fun _ hk => hk.2)⟩, ⟨by (with_reducible repeat (first | apply Kd.N_alloc | apply Kd.N_drewN | apply Kd.N_drew)); exact HO215.out⟩, ⟨by repeat (first | (with_reducible first | exact HB.out | apply below_alloc | apply pw_below_drewN | apply below_drew1) | exact HB.out)⟩⟩
    · rw [if_neg c14] at H
      have c14b0 : (t217 == 0) = false := beq_eq_false_iff_ne.mpr c14
      have c14b1 : (t217 != 0) = true := bne_iff_ne.mpr c14
      (first | rw [c14b0] | (simp only [i64_w, i32_w]; rw [c14b0]) | skip)
      have H' := Aside0.mk H
      clear H
      go_wp2
      go_meet
      case rel => exact ⟨_, (true), (by first | rfl | (simp; done) | (simp [*]; done)), H', ⟨by first | omega | exact Nat.le_refl _⟩, ⟨by (with_reducible repeat (first | apply Kd.N_alloc | apply Kd.N_drewN | apply Kd.N_drew)); exact Kd.N_mono HO212.out (fun _ hk => hk.2)⟩, ⟨by (with_reducible repeat (first | apply Kd.N_alloc | apply Kd.N_drewN | apply Kd.N_drew)); exact HO215.out⟩, ⟨by repeat (first | (with_reducible first | exact HB.out | apply below_alloc | apply pw_below_drewN | apply below_drew1) | exact HB.out)⟩⟩
  case rest =>
    clear HC7
    try clear c1
    try clear p2
    try clear p6
    try clear c7
    try clear c13
    try clear c14
    try clear c14b0
    try clear c14b1
    try clear c15
    try clear c15b0
    try clear c15b1
    obtain ⟨kq, x46_6, rfl, HA, HJ6, HO_0, HO_1, HB⟩ := hcut
    cases kq with
    | zero => exact absurd HA.out (by simp [deadboltlaw12_ProgLines.j0])
    | succ kj6 =>
      have H := HA.out
      clear HA
      simp only [deadboltlaw12_ProgLines.j0] at H
      by_cases c16 : x46_6 = true
      · subst c16
        have H1 : ((deadboltlaw12_alive.f kj6).bind fun t220 => (some t220)) = some r := by rw [if_pos rfl] at H; exact H
        clear H
        have H := H1
        clear H1
        replace H := Option.bind_eq_some_iff.mp H
        obtain ⟨t220, A170, H⟩ := H
        replace H : (some t220) = some r := H
        have A17 := Aside0.mk A170
        clear A170
        obtain rfl := Option.some.inj H
        go_wp2_with (first | ((with_reducible refine gate_callee (f := 10) rfl ?_); refine goesL_ (some 47) rfl rfl Tryd.func10 (by kernel_rfl) rfl #[] rfl (by (try simp only [List.map_toArray, List.map_cons, List.map_nil]); first | done | rfl | (simp only [List.length_drop, List.length_take]; rfl)) ?_; (with_reducible refine (deadboltlaw12_alive.calls kj6  t220 _ A17.out (by first | exact HT.out | (with_reducible refine Laid.below HT.out ?_; repeat (first | (with_reducible first | exact HB.out | apply below_alloc | apply pw_below_drewN | apply below_drew1 | refine below_set ?_ (Aside0.out (by assumption))) | exact HB.out)) | (exact Laid.below HT.out (by repeat (first | exact HB.out | exact Below.refl _ _ | apply below_alloc | apply pw_below_drewN | apply below_drew1 | refine below_set ?_ (Aside0.out (by assumption))))))).mono ?_); rintro e w18 ⟨rfl, hb⟩; refine ⟨_, rfl, ?_⟩; have n0_ := Aside0.mk (Kd.N_below (by (with_reducible repeat (first | apply Kd.N_alloc | apply Kd.N_drewN | apply Kd.N_drew)); exact HO_0.out) hb); have n1_ := Aside0.mk (Kd.N_below (by (with_reducible repeat (first | apply Kd.N_alloc | apply Kd.N_drewN | apply Kd.N_drew)); exact HO_1.out) hb); have n2_ := Aside0.mk (below_step (by repeat (first | (with_reducible first | exact HB.out | apply below_alloc | apply pw_below_drewN | apply below_drew1) | exact HB.out)) hb); clear HO_0; clear HO_1; clear HB; have HO_0 := n0_; have HO_1 := n1_; have HB := n2_; clear n0_ n1_ n2_; (try clear hb); (try clear hb2); (try clear hk); (try clear hi)))
        go_ret
        exact ⟨by first | rfl | (simp [errW_none, errW_some] <;> rfl) | (simp [*, errW_none, errW_some] <;> rfl), by repeat (first | (with_reducible first | exact HB.out | apply below_alloc | apply pw_below_drewN | apply below_drew1) | exact HB.out)⟩
      · replace c16 := Bool.eq_false_iff.mpr c16
        subst c16
        have H1 : (if t216.size + t218.size ≤ 9223372036854775807 then ((prog_Parse.f kj6 (t216 ++ t218)).bind fun bt221 => (if (wrap64 ((t210.length : Int) + (t213.length : Int))) > 8 then ((deadboltlaw12_alive.f kj6).bind fun t226 => (if t226 = true then (if bt221.2.2 = 5 then (if bt221.2.1 = 8 then (some ((bt221.1.length : Int) == 0)) else (some false)) else (some false)) else (some false))) else (if bt221.2.2 = 0 then ((some (([] : List (List (S32))) : List (List (S32)))).bind fun y227 => (if y227.length + t210.length < 5864062014805 then ((some (y227 ++ t210 : List (List (S32)))).bind fun y230 => (if y230.length + t213.length < 5864062014805 then ((deadboltref12_Same.f kj6 bt221.1 (y230 ++ t213)).bind fun t236 => (if t236 = true then ((deadboltlaw12_alive.f kj6).bind fun t237 => (deadboltlaw12_ProgLines.j1 kj6 t210 (!t237))) else (deadboltlaw12_ProgLines.j1 kj6 t210 true))) else (none))) else (none))) else (deadboltlaw12_ProgLines.j1 kj6 t210 true)))) else (none)) = some r := by rw [if_neg (show ¬ (false = true) by decide)] at H; exact H
        clear H
        have H := H1
        clear H1
        by_cases c19 : t216.size + t218.size ≤ 9223372036854775807
        · rw [if_pos c19] at H
          have c19b0 := eq_true c19
          have c19b1 : decide (t216.size + t218.size ≤ 9223372036854775807) = true := decide_eq_true c19
          try have c19b2 : (9223372036854775807 < t216.size + t218.size) = False := eq_false (Nat.not_lt.2 c19)
          replace H := Option.bind_eq_some_iff.mp H
          obtain ⟨⟨t221, t222, t223⟩, A200, H⟩ := H
          replace H : (if (wrap64 ((t210.length : Int) + (t213.length : Int))) > 8 then ((deadboltlaw12_alive.f kj6).bind fun t226 => (if t226 = true then (if t223 = 5 then (if t222 = 8 then (some ((t221.length : Int) == 0)) else (some false)) else (some false)) else (some false))) else (if t223 = 0 then ((some (([] : List (List (S32))) : List (List (S32)))).bind fun y227 => (if y227.length + t210.length < 5864062014805 then ((some (y227 ++ t210 : List (List (S32)))).bind fun y230 => (if y230.length + t213.length < 5864062014805 then ((deadboltref12_Same.f kj6 t221 (y230 ++ t213)).bind fun t236 => (if t236 = true then ((deadboltlaw12_alive.f kj6).bind fun t237 => (deadboltlaw12_ProgLines.j1 kj6 t210 (!t237))) else (deadboltlaw12_ProgLines.j1 kj6 t210 true))) else (none))) else (none))) else (deadboltlaw12_ProgLines.j1 kj6 t210 true))) = some r := H
          have A20 := Aside0.mk A200
          clear A200
          by_cases c21 : (wrap64 ((t210.length : Int) + (t213.length : Int))) > 8
          · rw [if_pos c21] at H
            have c21b0 : decide (8 < (wrap64 ((t210.length : Int) + (t213.length : Int)))) = true := decide_eq_true c21
            clear c21
            replace H := Option.bind_eq_some_iff.mp H
            obtain ⟨t226, A220, H⟩ := H
            replace H : (if t226 = true then (if t223 = 5 then (if t222 = 8 then (some ((t221.length : Int) == 0)) else (some false)) else (some false)) else (some false)) = some r := H
            have A22 := Aside0.mk A220
            clear A220
            by_cases c23 : t226 = true
            · subst c23
              have H1 : (if t223 = 5 then (if t222 = 8 then (some ((t221.length : Int) == 0)) else (some false)) else (some false)) = some r := by rw [if_pos rfl] at H; exact H
              clear H
              have H := H1
              clear H1
              by_cases c24 : t223 = 5
              · rw [if_pos c24] at H
                have c24b0 : (t223 == 5) = true := beq_iff_eq.mpr c24
                have c24b1 : (t223 != 5) = false := bne_eq_false_iff_eq.mpr c24
                clear c24
                by_cases c25 : t222 = 8
                · rw [if_pos c25] at H
                  have c25b0 : (t222 == 8) = true := beq_iff_eq.mpr c25
                  have c25b1 : (t222 != 8) = false := bne_eq_false_iff_eq.mpr c25
                  clear c25
                  obtain rfl := Option.some.inj H
                  go_wp2_with (first | ((with_reducible refine gate_callee (f := 8) rfl ?_); refine goesL_ (some 52) rfl rfl Tryd.func8 (by kernel_rfl) rfl #[.string (t216 ++ t218)] rfl (by (try simp only [List.map_toArray, List.map_cons, List.map_nil]); first | done | rfl | (simp only [List.length_drop, List.length_take]; rfl)) ?_; (with_reducible refine (prog_Parse.calls kj6 (t216 ++ t218) t221 t222 t223 _ A20.out (by first | exact HT.out | (with_reducible refine Laid.below HT.out ?_; repeat (first | (with_reducible first | exact HB.out | apply below_alloc | apply pw_below_drewN | apply below_drew1 | refine below_set ?_ (Aside0.out (by assumption))) | exact HB.out)) | (exact Laid.below HT.out (by repeat (first | exact HB.out | exact Below.refl _ _ | apply below_alloc | apply pw_below_drewN | apply below_drew1 | refine below_set ?_ (Aside0.out (by assumption))))))).mono ?_); rintro e w26 ⟨v224, rfl, ho0, hb⟩; refine ⟨_, rfl, ?_⟩; have n0_ := Aside0.mk (Kd.N_elder' (by (with_reducible repeat (first | apply Kd.N_alloc | apply Kd.N_drewN | apply Kd.N_drew)); exact HO_0.out) (Kd.N_base (Kd.S_N ho0)) hb); have n1_ := Aside0.mk (Kd.N_elder' (by (with_reducible repeat (first | apply Kd.N_alloc | apply Kd.N_drewN | apply Kd.N_drew)); exact HO_1.out) (Kd.N_base (Kd.S_N ho0)) hb); have n2_ := Aside0.mk (Kd.N_lower (Kd.N_mono (ok' := fun k_ => some k_ ≠ (.slice Ao10 t210.length co10 : Value).ownBlock ∧ some k_ ≠ (.slice Ao12 t213.length co12 : Value).ownBlock) (Kd.S_N (Kd.S_bound ho0)) (fun k_ hk_ => ⟨(Kd.fresh' (Kd.N_lt (by (with_reducible repeat (first | apply Kd.N_alloc | apply Kd.N_drewN | apply Kd.N_drew)); exact HO_0.out)) k_ hk_.2.1), (Kd.fresh' (Kd.N_lt (by (with_reducible repeat (first | apply Kd.N_alloc | apply Kd.N_drewN | apply Kd.N_drew)); exact HO_1.out)) k_ hk_.2.1)⟩)) (below_size (by repeat (first | (with_reducible first | exact HB.out | apply below_alloc | apply pw_below_drewN | apply below_drew1) | exact HB.out)))); have n3_ := Aside0.mk (below_step (by repeat (first | (with_reducible first | exact HB.out | apply below_alloc | apply pw_below_drewN | apply below_drew1) | exact HB.out)) hb); clear HO_0; clear HO_1; clear HB; have HO_0 := n0_; have HO_1 := n1_; have HO225 := n2_; have HB := n3_; clear n0_ n1_ n2_ n3_; (try clear hb); (try clear hb2); (try clear hk); (try clear hi); (try clear ho0)) | ((with_reducible refine gate_callee (f := 10) rfl ?_); refine goesL_ (some 62) rfl rfl Tryd.func10 (by kernel_rfl) rfl #[] rfl (by (try simp only [List.map_toArray, List.map_cons, List.map_nil]); first | done | rfl | (simp only [List.length_drop, List.length_take]; rfl)) ?_; (with_reducible refine (deadboltlaw12_alive.calls kj6  true _ A22.out (by first | exact HT.out | (with_reducible refine Laid.below HT.out ?_; repeat (first | (with_reducible first | exact HB.out | apply below_alloc | apply pw_below_drewN | apply below_drew1 | refine below_set ?_ (Aside0.out (by assumption))) | exact HB.out)) | (exact Laid.below HT.out (by repeat (first | exact HB.out | exact Below.refl _ _ | apply below_alloc | apply pw_below_drewN | apply below_drew1 | refine below_set ?_ (Aside0.out (by assumption))))))).mono ?_); rintro e w27 ⟨rfl, hb⟩; refine ⟨_, rfl, ?_⟩; have n0_ := Aside0.mk (Kd.N_below (by (with_reducible repeat (first | apply Kd.N_alloc | apply Kd.N_drewN | apply Kd.N_drew)); exact HO_0.out) hb); have n1_ := Aside0.mk (Kd.N_below (by (with_reducible repeat (first | apply Kd.N_alloc | apply Kd.N_drewN | apply Kd.N_drew)); exact HO_1.out) hb); have n2_ := Aside0.mk (Kd.N_below (by (with_reducible repeat (first | apply Kd.N_alloc | apply Kd.N_drewN | apply Kd.N_drew)); exact HO225.out) hb); have n3_ := Aside0.mk (below_step (by repeat (first | (with_reducible first | exact HB.out | apply below_alloc | apply pw_below_drewN | apply below_drew1) | exact HB.out)) hb); clear HO_0; clear HO_1; clear HO225; clear HB; have HO_0 := n0_; have HO_1 := n1_; have HO225 := n2_; have HB := n3_; clear n0_ n1_ n2_ n3_; (try clear hb); (try clear hb2); (try clear hk); (try clear hi); obtain ⟨Ao28, co28, eo28⟩ := Kd.N_slice HO225.out; subst eo28))
                  go_ret
                  exact ⟨by first | rfl | (simp [errW_none, errW_some] <;> rfl) | (simp [*, errW_none, errW_some] <;> rfl), by repeat (first | (with_reducible first | exact HB.out | apply below_alloc | apply pw_below_drewN | apply below_drew1) | exact HB.out)⟩
                · rw [if_neg c25] at H
                  have c25b0 : (t222 == 8) = false := beq_eq_false_iff_ne.mpr c25
                  have c25b1 : (t222 != 8) = true := bne_iff_ne.mpr c25
                  obtain rfl := Option.some.inj H
                  go_wp2_with (first | ((with_reducible refine gate_callee (f := 8) rfl ?_); refine goesL_ (some 52) rfl rfl Tryd.func8 (by kernel_rfl) rfl #[.string (t216 ++ t218)] rfl (by (try simp only [List.map_toArray, List.map_cons, List.map_nil]); first | done | rfl | (simp only [List.length_drop, List.length_take]; rfl)) ?_; (with_reducible refine (prog_Parse.calls kj6 (t216 ++ t218) t221 t222 t223 _ A20.out (by first | exact HT.out | (with_reducible refine Laid.below HT.out ?_; repeat (first | (with_reducible first | exact HB.out | apply below_alloc | apply pw_below_drewN | apply below_drew1 | refine below_set ?_ (Aside0.out (by assumption))) | exact HB.out)) | (exact Laid.below HT.out (by repeat (first | exact HB.out | exact Below.refl _ _ | apply below_alloc | apply pw_below_drewN | apply below_drew1 | refine below_set ?_ (Aside0.out (by assumption))))))).mono ?_); rintro e w29 ⟨v224, rfl, ho0, hb⟩; refine ⟨_, rfl, ?_⟩; have n0_ := Aside0.mk (Kd.N_elder' (by (with_reducible repeat (first | apply Kd.N_alloc | apply Kd.N_drewN | apply Kd.N_drew)); exact HO_0.out) (Kd.N_base (Kd.S_N ho0)) hb); have n1_ := Aside0.mk (Kd.N_elder' (by (with_reducible repeat (first | apply Kd.N_alloc | apply Kd.N_drewN | apply Kd.N_drew)); exact HO_1.out) (Kd.N_base (Kd.S_N ho0)) hb); have n2_ := Aside0.mk (Kd.N_lower (Kd.N_mono (ok' := fun k_ => some k_ ≠ (.slice Ao10 t210.length co10 : Value).ownBlock ∧ some k_ ≠ (.slice Ao12 t213.length co12 : Value).ownBlock) (Kd.S_N (Kd.S_bound ho0)) (fun k_ hk_ => ⟨(Kd.fresh' (Kd.N_lt (by (with_reducible repeat (first | apply Kd.N_alloc | apply Kd.N_drewN | apply Kd.N_drew)); exact HO_0.out)) k_ hk_.2.1), (Kd.fresh' (Kd.N_lt (by (with_reducible repeat (first | apply Kd.N_alloc | apply Kd.N_drewN | apply Kd.N_drew)); exact HO_1.out)) k_ hk_.2.1)⟩)) (below_size (by repeat (first | (with_reducible first | exact HB.out | apply below_alloc | apply pw_below_drewN | apply below_drew1) | exact HB.out)))); have n3_ := Aside0.mk (below_step (by repeat (first | (with_reducible first | exact HB.out | apply below_alloc | apply pw_below_drewN | apply below_drew1) | exact HB.out)) hb); clear HO_0; clear HO_1; clear HB; have HO_0 := n0_; have HO_1 := n1_; have HO225 := n2_; have HB := n3_; clear n0_ n1_ n2_ n3_; (try clear hb); (try clear hb2); (try clear hk); (try clear hi); (try clear ho0)) | ((with_reducible refine gate_callee (f := 10) rfl ?_); refine goesL_ (some 62) rfl rfl Tryd.func10 (by kernel_rfl) rfl #[] rfl (by (try simp only [List.map_toArray, List.map_cons, List.map_nil]); first | done | rfl | (simp only [List.length_drop, List.length_take]; rfl)) ?_; (with_reducible refine (deadboltlaw12_alive.calls kj6  true _ A22.out (by first | exact HT.out | (with_reducible refine Laid.below HT.out ?_; repeat (first | (with_reducible first | exact HB.out | apply below_alloc | apply pw_below_drewN | apply below_drew1 | refine below_set ?_ (Aside0.out (by assumption))) | exact HB.out)) | (exact Laid.below HT.out (by repeat (first | exact HB.out | exact Below.refl _ _ | apply below_alloc | apply pw_below_drewN | apply below_drew1 | refine below_set ?_ (Aside0.out (by assumption))))))).mono ?_); rintro e w30 ⟨rfl, hb⟩; refine ⟨_, rfl, ?_⟩; have n0_ := Aside0.mk (Kd.N_below (by (with_reducible repeat (first | apply Kd.N_alloc | apply Kd.N_drewN | apply Kd.N_drew)); exact HO_0.out) hb); have n1_ := Aside0.mk (Kd.N_below (by (with_reducible repeat (first | apply Kd.N_alloc | apply Kd.N_drewN | apply Kd.N_drew)); exact HO_1.out) hb); have n2_ := Aside0.mk (Kd.N_below (by (with_reducible repeat (first | apply Kd.N_alloc | apply Kd.N_drewN | apply Kd.N_drew)); exact HO225.out) hb); have n3_ := Aside0.mk (below_step (by repeat (first | (with_reducible first | exact HB.out | apply below_alloc | apply pw_below_drewN | apply below_drew1) | exact HB.out)) hb); clear HO_0; clear HO_1; clear HO225; clear HB; have HO_0 := n0_; have HO_1 := n1_; have HO225 := n2_; have HB := n3_; clear n0_ n1_ n2_ n3_; (try clear hb); (try clear hb2); (try clear hk); (try clear hi)))
                  go_ret
                  exact ⟨by first | rfl | (simp [errW_none, errW_some] <;> rfl) | (simp [*, errW_none, errW_some] <;> rfl), by repeat (first | (with_reducible first | exact HB.out | apply below_alloc | apply pw_below_drewN | apply below_drew1) | exact HB.out)⟩
              · rw [if_neg c24] at H
                have c24b0 : (t223 == 5) = false := beq_eq_false_iff_ne.mpr c24
                have c24b1 : (t223 != 5) = true := bne_iff_ne.mpr c24
                obtain rfl := Option.some.inj H
                go_wp2_with (first | ((with_reducible refine gate_callee (f := 8) rfl ?_); refine goesL_ (some 52) rfl rfl Tryd.func8 (by kernel_rfl) rfl #[.string (t216 ++ t218)] rfl (by (try simp only [List.map_toArray, List.map_cons, List.map_nil]); first | done | rfl | (simp only [List.length_drop, List.length_take]; rfl)) ?_; (with_reducible refine (prog_Parse.calls kj6 (t216 ++ t218) t221 t222 t223 _ A20.out (by first | exact HT.out | (with_reducible refine Laid.below HT.out ?_; repeat (first | (with_reducible first | exact HB.out | apply below_alloc | apply pw_below_drewN | apply below_drew1 | refine below_set ?_ (Aside0.out (by assumption))) | exact HB.out)) | (exact Laid.below HT.out (by repeat (first | exact HB.out | exact Below.refl _ _ | apply below_alloc | apply pw_below_drewN | apply below_drew1 | refine below_set ?_ (Aside0.out (by assumption))))))).mono ?_); rintro e w31 ⟨v224, rfl, ho0, hb⟩; refine ⟨_, rfl, ?_⟩; have n0_ := Aside0.mk (Kd.N_elder' (by (with_reducible repeat (first | apply Kd.N_alloc | apply Kd.N_drewN | apply Kd.N_drew)); exact HO_0.out) (Kd.N_base (Kd.S_N ho0)) hb); have n1_ := Aside0.mk (Kd.N_elder' (by (with_reducible repeat (first | apply Kd.N_alloc | apply Kd.N_drewN | apply Kd.N_drew)); exact HO_1.out) (Kd.N_base (Kd.S_N ho0)) hb); have n2_ := Aside0.mk (Kd.N_lower (Kd.N_mono (ok' := fun k_ => some k_ ≠ (.slice Ao10 t210.length co10 : Value).ownBlock ∧ some k_ ≠ (.slice Ao12 t213.length co12 : Value).ownBlock) (Kd.S_N (Kd.S_bound ho0)) (fun k_ hk_ => ⟨(Kd.fresh' (Kd.N_lt (by (with_reducible repeat (first | apply Kd.N_alloc | apply Kd.N_drewN | apply Kd.N_drew)); exact HO_0.out)) k_ hk_.2.1), (Kd.fresh' (Kd.N_lt (by (with_reducible repeat (first | apply Kd.N_alloc | apply Kd.N_drewN | apply Kd.N_drew)); exact HO_1.out)) k_ hk_.2.1)⟩)) (below_size (by repeat (first | (with_reducible first | exact HB.out | apply below_alloc | apply pw_below_drewN | apply below_drew1) | exact HB.out)))); have n3_ := Aside0.mk (below_step (by repeat (first | (with_reducible first | exact HB.out | apply below_alloc | apply pw_below_drewN | apply below_drew1) | exact HB.out)) hb); clear HO_0; clear HO_1; clear HB; have HO_0 := n0_; have HO_1 := n1_; have HO225 := n2_; have HB := n3_; clear n0_ n1_ n2_ n3_; (try clear hb); (try clear hb2); (try clear hk); (try clear hi); (try clear ho0)) | ((with_reducible refine gate_callee (f := 10) rfl ?_); refine goesL_ (some 62) rfl rfl Tryd.func10 (by kernel_rfl) rfl #[] rfl (by (try simp only [List.map_toArray, List.map_cons, List.map_nil]); first | done | rfl | (simp only [List.length_drop, List.length_take]; rfl)) ?_; (with_reducible refine (deadboltlaw12_alive.calls kj6  true _ A22.out (by first | exact HT.out | (with_reducible refine Laid.below HT.out ?_; repeat (first | (with_reducible first | exact HB.out | apply below_alloc | apply pw_below_drewN | apply below_drew1 | refine below_set ?_ (Aside0.out (by assumption))) | exact HB.out)) | (exact Laid.below HT.out (by repeat (first | exact HB.out | exact Below.refl _ _ | apply below_alloc | apply pw_below_drewN | apply below_drew1 | refine below_set ?_ (Aside0.out (by assumption))))))).mono ?_); rintro e w32 ⟨rfl, hb⟩; refine ⟨_, rfl, ?_⟩; have n0_ := Aside0.mk (Kd.N_below (by (with_reducible repeat (first | apply Kd.N_alloc | apply Kd.N_drewN | apply Kd.N_drew)); exact HO_0.out) hb); have n1_ := Aside0.mk (Kd.N_below (by (with_reducible repeat (first | apply Kd.N_alloc | apply Kd.N_drewN | apply Kd.N_drew)); exact HO_1.out) hb); have n2_ := Aside0.mk (Kd.N_below (by (with_reducible repeat (first | apply Kd.N_alloc | apply Kd.N_drewN | apply Kd.N_drew)); exact HO225.out) hb); have n3_ := Aside0.mk (below_step (by repeat (first | (with_reducible first | exact HB.out | apply below_alloc | apply pw_below_drewN | apply below_drew1) | exact HB.out)) hb); clear HO_0; clear HO_1; clear HO225; clear HB; have HO_0 := n0_; have HO_1 := n1_; have HO225 := n2_; have HB := n3_; clear n0_ n1_ n2_ n3_; (try clear hb); (try clear hb2); (try clear hk); (try clear hi)))
                go_ret
                exact ⟨by first | rfl | (simp [errW_none, errW_some] <;> rfl) | (simp [*, errW_none, errW_some] <;> rfl), by repeat (first | (with_reducible first | exact HB.out | apply below_alloc | apply pw_below_drewN | apply below_drew1) | exact HB.out)⟩
            · replace c23 := Bool.eq_false_iff.mpr c23
              subst c23
              have H1 : (some false) = some r := by rw [if_neg (show ¬ (false = true) by decide)] at H; exact H
              clear H
              have H := H1
              clear H1
              obtain rfl := Option.some.inj H
              go_wp2_with (first | ((with_reducible refine gate_callee (f := 8) rfl ?_); refine goesL_ (some 52) rfl rfl Tryd.func8 (by kernel_rfl) rfl #[.string (t216 ++ t218)] rfl (by (try simp only [List.map_toArray, List.map_cons, List.map_nil]); first | done | rfl | (simp only [List.length_drop, List.length_take]; rfl)) ?_; (with_reducible refine (prog_Parse.calls kj6 (t216 ++ t218) t221 t222 t223 _ A20.out (by first | exact HT.out | (with_reducible refine Laid.below HT.out ?_; repeat (first | (with_reducible first | exact HB.out | apply below_alloc | apply pw_below_drewN | apply below_drew1 | refine below_set ?_ (Aside0.out (by assumption))) | exact HB.out)) | (exact Laid.below HT.out (by repeat (first | exact HB.out | exact Below.refl _ _ | apply below_alloc | apply pw_below_drewN | apply below_drew1 | refine below_set ?_ (Aside0.out (by assumption))))))).mono ?_); rintro e w33 ⟨v224, rfl, ho0, hb⟩; refine ⟨_, rfl, ?_⟩; have n0_ := Aside0.mk (Kd.N_elder' (by (with_reducible repeat (first | apply Kd.N_alloc | apply Kd.N_drewN | apply Kd.N_drew)); exact HO_0.out) (Kd.N_base (Kd.S_N ho0)) hb); have n1_ := Aside0.mk (Kd.N_elder' (by (with_reducible repeat (first | apply Kd.N_alloc | apply Kd.N_drewN | apply Kd.N_drew)); exact HO_1.out) (Kd.N_base (Kd.S_N ho0)) hb); have n2_ := Aside0.mk (Kd.N_lower (Kd.N_mono (ok' := fun k_ => some k_ ≠ (.slice Ao10 t210.length co10 : Value).ownBlock ∧ some k_ ≠ (.slice Ao12 t213.length co12 : Value).ownBlock) (Kd.S_N (Kd.S_bound ho0)) (fun k_ hk_ => ⟨(Kd.fresh' (Kd.N_lt (by (with_reducible repeat (first | apply Kd.N_alloc | apply Kd.N_drewN | apply Kd.N_drew)); exact HO_0.out)) k_ hk_.2.1), (Kd.fresh' (Kd.N_lt (by (with_reducible repeat (first | apply Kd.N_alloc | apply Kd.N_drewN | apply Kd.N_drew)); exact HO_1.out)) k_ hk_.2.1)⟩)) (below_size (by repeat (first | (with_reducible first | exact HB.out | apply below_alloc | apply pw_below_drewN | apply below_drew1) | exact HB.out)))); have n3_ := Aside0.mk (below_step (by repeat (first | (with_reducible first | exact HB.out | apply below_alloc | apply pw_below_drewN | apply below_drew1) | exact HB.out)) hb); clear HO_0; clear HO_1; clear HB; have HO_0 := n0_; have HO_1 := n1_; have HO225 := n2_; have HB := n3_; clear n0_ n1_ n2_ n3_; (try clear hb); (try clear hb2); (try clear hk); (try clear hi); (try clear ho0)) | ((with_reducible refine gate_callee (f := 10) rfl ?_); refine goesL_ (some 62) rfl rfl Tryd.func10 (by kernel_rfl) rfl #[] rfl (by (try simp only [List.map_toArray, List.map_cons, List.map_nil]); first | done | rfl | (simp only [List.length_drop, List.length_take]; rfl)) ?_; (with_reducible refine (deadboltlaw12_alive.calls kj6  false _ A22.out (by first | exact HT.out | (with_reducible refine Laid.below HT.out ?_; repeat (first | (with_reducible first | exact HB.out | apply below_alloc | apply pw_below_drewN | apply below_drew1 | refine below_set ?_ (Aside0.out (by assumption))) | exact HB.out)) | (exact Laid.below HT.out (by repeat (first | exact HB.out | exact Below.refl _ _ | apply below_alloc | apply pw_below_drewN | apply below_drew1 | refine below_set ?_ (Aside0.out (by assumption))))))).mono ?_); rintro e w34 ⟨rfl, hb⟩; refine ⟨_, rfl, ?_⟩; have n0_ := Aside0.mk (Kd.N_below (by (with_reducible repeat (first | apply Kd.N_alloc | apply Kd.N_drewN | apply Kd.N_drew)); exact HO_0.out) hb); have n1_ := Aside0.mk (Kd.N_below (by (with_reducible repeat (first | apply Kd.N_alloc | apply Kd.N_drewN | apply Kd.N_drew)); exact HO_1.out) hb); have n2_ := Aside0.mk (Kd.N_below (by (with_reducible repeat (first | apply Kd.N_alloc | apply Kd.N_drewN | apply Kd.N_drew)); exact HO225.out) hb); have n3_ := Aside0.mk (below_step (by repeat (first | (with_reducible first | exact HB.out | apply below_alloc | apply pw_below_drewN | apply below_drew1) | exact HB.out)) hb); clear HO_0; clear HO_1; clear HO225; clear HB; have HO_0 := n0_; have HO_1 := n1_; have HO225 := n2_; have HB := n3_; clear n0_ n1_ n2_ n3_; (try clear hb); (try clear hb2); (try clear hk); (try clear hi)))
              go_ret
              exact ⟨by first | rfl | (simp [errW_none, errW_some] <;> rfl) | (simp [*, errW_none, errW_some] <;> rfl), by repeat (first | (with_reducible first | exact HB.out | apply below_alloc | apply pw_below_drewN | apply below_drew1) | exact HB.out)⟩
          · rw [if_neg c21] at H
            have c21b0 : decide (8 < (wrap64 ((t210.length : Int) + (t213.length : Int)))) = false := decide_eq_false c21
            clear c21
            have HC35 := Aside0.mk H
            clear H
            go_upto_region 9 with (first | ((with_reducible refine gate_callee (f := 8) rfl ?_); refine goesL_ (some 52) rfl rfl Tryd.func8 (by kernel_rfl) rfl #[.string (t216 ++ t218)] rfl (by (try simp only [List.map_toArray, List.map_cons, List.map_nil]); first | done | rfl | (simp only [List.length_drop, List.length_take]; rfl)) ?_; (with_reducible refine (prog_Parse.calls kj6 (t216 ++ t218) t221 t222 t223 _ A20.out (by first | exact HT.out | (with_reducible refine Laid.below HT.out ?_; repeat (first | (with_reducible first | exact HB.out | apply below_alloc | apply pw_below_drewN | apply below_drew1 | refine below_set ?_ (Aside0.out (by assumption))) | exact HB.out)) | (exact Laid.below HT.out (by repeat (first | exact HB.out | exact Below.refl _ _ | apply below_alloc | apply pw_below_drewN | apply below_drew1 | refine below_set ?_ (Aside0.out (by assumption))))))).mono ?_); rintro e w36 ⟨v224, rfl, ho0, hb⟩; refine ⟨_, rfl, ?_⟩; have n0_ := Aside0.mk (Kd.N_elder' (by (with_reducible repeat (first | apply Kd.N_alloc | apply Kd.N_drewN | apply Kd.N_drew)); exact HO_0.out) (Kd.N_base (Kd.S_N ho0)) hb); have n1_ := Aside0.mk (Kd.N_elder' (by (with_reducible repeat (first | apply Kd.N_alloc | apply Kd.N_drewN | apply Kd.N_drew)); exact HO_1.out) (Kd.N_base (Kd.S_N ho0)) hb); have n2_ := Aside0.mk (Kd.N_lower (Kd.N_mono (ok' := fun k_ => some k_ ≠ (.slice Ao10 t210.length co10 : Value).ownBlock ∧ some k_ ≠ (.slice Ao12 t213.length co12 : Value).ownBlock) (Kd.S_N (Kd.S_bound ho0)) (fun k_ hk_ => ⟨(Kd.fresh' (Kd.N_lt (by (with_reducible repeat (first | apply Kd.N_alloc | apply Kd.N_drewN | apply Kd.N_drew)); exact HO_0.out)) k_ hk_.2.1), (Kd.fresh' (Kd.N_lt (by (with_reducible repeat (first | apply Kd.N_alloc | apply Kd.N_drewN | apply Kd.N_drew)); exact HO_1.out)) k_ hk_.2.1)⟩)) (below_size (by repeat (first | (with_reducible first | exact HB.out | apply below_alloc | apply pw_below_drewN | apply below_drew1) | exact HB.out)))); have n3_ := Aside0.mk (below_step (by repeat (first | (with_reducible first | exact HB.out | apply below_alloc | apply pw_below_drewN | apply below_drew1) | exact HB.out)) hb); clear HO_0; clear HO_1; clear HB; have HO_0 := n0_; have HO_1 := n1_; have HO225 := n2_; have HB := n3_; clear n0_ n1_ n2_ n3_; (try clear hb); (try clear hb2); (try clear hk); (try clear hi); (try clear ho0)))
            (try simp only [Act.put, List.setIfInBounds_toArray, List.set_cons_zero, List.set_cons_succ])
            go_cut [91] (fun v91 wc => ∃ (kq : Nat) (x91_34 : Bool), v91 = .bool x91_34 ∧ Aside0 (deadboltlaw12_ProgLines.j1 kq t210 x91_34 = some r) ∧ Aside0 (kq ≤ kj6) ∧ Aside0 (Kd.N (Kd.slice 32 k32) 29 wc w.heap.size (fun _ => True) (.slice Ao10 t210.length co10) t210) ∧ Aside0 (Below w.heap.size w wc))
            case first =>
              have H := HC35.out
              clear HC35
              by_cases c37 : t223 = 0
              · rw [if_pos c37] at H
                have c37b0 : (t223 == 0) = true := beq_iff_eq.mpr c37
                have c37b1 : (t223 != 0) = false := bne_eq_false_iff_eq.mpr c37
                clear c37
                (first | rw [c37b0] | (simp only [i64_w, i32_w]; rw [c37b0]) | skip)
                obtain ⟨y227, hy227⟩ : ∃ y_ : List (List (S32)), y_ = (([] : List (List (S32)))) := ⟨_, rfl⟩
                replace H : (if y227.length + t210.length < 5864062014805 then ((some (y227 ++ t210 : List (List (S32)))).bind fun y230 => (if y230.length + t213.length < 5864062014805 then ((deadboltref12_Same.f kj6 t221 (y230 ++ t213)).bind fun t236 => (if t236 = true then ((deadboltlaw12_alive.f kj6).bind fun t237 => (deadboltlaw12_ProgLines.j1 kj6 t210 (!t237))) else (deadboltlaw12_ProgLines.j1 kj6 t210 true))) else (none))) else (none)) = some r := by first | (rw [hy227]; with_reducible exact H) | (have H2_ := (Option.bind_some _ _).symm.trans H; rw [hy227]; with_reducible exact H2_) | (have H2_ := (Option.bind_some _ _).symm.trans H; with_reducible exact H2_) | with_reducible exact H | (rw [hy227]; exact H) | exact H
                have Ny227 := Aside0.mk hy227
                clear hy227
                by_cases c38 : y227.length + t210.length < 5864062014805
                · rw [if_pos c38] at H
                  have LMc38 := Aside0.mk c38
                  clear c38
                  obtain ⟨y230, hy230⟩ : ∃ y_ : List (List (S32)), y_ = (y227 ++ t210) := ⟨_, rfl⟩
                  replace H : (if y230.length + t213.length < 5864062014805 then ((deadboltref12_Same.f kj6 t221 (y230 ++ t213)).bind fun t236 => (if t236 = true then ((deadboltlaw12_alive.f kj6).bind fun t237 => (deadboltlaw12_ProgLines.j1 kj6 t210 (!t237))) else (deadboltlaw12_ProgLines.j1 kj6 t210 true))) else (none)) = some r := by first | (rw [hy230]; with_reducible exact H) | (have H2_ := (Option.bind_some _ _).symm.trans H; rw [hy230]; with_reducible exact H2_) | (have H2_ := (Option.bind_some _ _).symm.trans H; with_reducible exact H2_) | with_reducible exact H | (rw [hy230]; exact H) | exact H
                  have Ny230 := Aside0.mk hy230
                  clear hy230
                  by_cases c39 : y230.length + t213.length < 5864062014805
                  · rw [if_pos c39] at H
                    have LMc39 := Aside0.mk c39
                    clear c39
                    obtain ⟨y233, hy233⟩ : ∃ y_ : List (List (S32)), y_ = (y230 ++ t213) := ⟨_, rfl⟩
                    replace H : ((deadboltref12_Same.f kj6 t221 y233).bind fun t236 => (if t236 = true then ((deadboltlaw12_alive.f kj6).bind fun t237 => (deadboltlaw12_ProgLines.j1 kj6 t210 (!t237))) else (deadboltlaw12_ProgLines.j1 kj6 t210 true))) = some r := by first | (rw [hy233]; with_reducible exact H) | (have H2_ := (Option.bind_some _ _).symm.trans H; rw [hy233]; with_reducible exact H2_) | (have H2_ := (Option.bind_some _ _).symm.trans H; with_reducible exact H2_) | with_reducible exact H | (rw [hy233]; exact H) | exact H
                    have Ny233 := Aside0.mk hy233
                    clear hy233
                    replace H := Option.bind_eq_some_iff.mp H
                    obtain ⟨t236, A400, H⟩ := H
                    replace H : (if t236 = true then ((deadboltlaw12_alive.f kj6).bind fun t237 => (deadboltlaw12_ProgLines.j1 kj6 t210 (!t237))) else (deadboltlaw12_ProgLines.j1 kj6 t210 true)) = some r := H
                    have A40 := Aside0.mk A400
                    clear A400
                    by_cases c41 : t236 = true
                    · subst c41
                      have H1 : ((deadboltlaw12_alive.f kj6).bind fun t237 => (deadboltlaw12_ProgLines.j1 kj6 t210 (!t237))) = some r := by rw [if_pos rfl] at H; exact H
                      clear H
                      have H := H1
                      clear H1
                      replace H := Option.bind_eq_some_iff.mp H
                      obtain ⟨t237, A420, H⟩ := H
                      replace H : (deadboltlaw12_ProgLines.j1 kj6 t210 (!t237)) = some r := H
                      have A42 := Aside0.mk A420
                      clear A420
                      have H' := Aside0.mk H
                      clear H
                      go_wp2_with (first | ((with_reducible refine gate_dst (N := 80) rfl ?_); (try (refine gate_guard (by rfl) ?_; dsimp only)); refine Kd.N_lit (Kd.slice 32 k32) _ 29 ?hg (N' := 80) ?hd (xs := ([] : List (List (S32)))) (inner := []) (ok := (fun k_ => some k_ ≠ (.slice Ao10 t210.length co10 : Value).ownBlock ∧ some k_ ≠ (.slice Ao12 t213.length co12 : Value).ownBlock ∧ some k_ ≠ (v224 : Value).ownBlock)) (okp := (fun k_ => some k_ ≠ (.slice Ao10 t210.length co10 : Value).ownBlock ∧ some k_ ≠ (.slice Ao12 t213.length co12 : Value).ownBlock ∧ some k_ ≠ (v224 : Value).ownBlock)) ?hr ?hp (fun _ hk => hk) ((show ∀ k_, w36.heap.size ≤ k_ → (fun k_ => some k_ ≠ (.slice Ao10 t210.length co10 : Value).ownBlock ∧ some k_ ≠ (.slice Ao12 t213.length co12 : Value).ownBlock ∧ some k_ ≠ (v224 : Value).ownBlock) k_ from fun k_ hk => ⟨Kd.fresh' (Kd.N_lt (by (with_reducible repeat (first | apply Kd.N_alloc | apply Kd.N_drewN | apply Kd.N_drew)); exact HO_0.out)) k_ hk, Kd.fresh' (Kd.N_lt (by (with_reducible repeat (first | apply Kd.N_alloc | apply Kd.N_drewN | apply Kd.N_drew)); exact HO_1.out)) k_ hk, Kd.fresh' (Kd.N_lt (by (with_reducible repeat (first | apply Kd.N_alloc | apply Kd.N_drewN | apply Kd.N_drew)); exact HO225.out)) k_ hk⟩) _ (Nat.le_refl _)) (Below.refl _ _) (Nat.le_refl _) (by simp) ?_; (case hd => rfl); (case hg => rfl); (case hr => first | (go_simp; done) | (go_simp; rfl)); (case hp => exact (Reps.none _ _)); intro v228 w43 ho44 hb hg_ hnew_; clear hg_ hnew_; (first | rw [← Ny227.out] at ho44 | (simp only [Int.reduceToNat] at ho44; rw [← Ny227.out] at ho44)); have n0_ := Aside0.mk (Kd.N_elder' (by (with_reducible repeat (first | apply Kd.N_alloc | apply Kd.N_drewN | apply Kd.N_drew)); exact HO_0.out) (Kd.N_base ho44) hb); have n1_ := Aside0.mk (Kd.N_elder' (by (with_reducible repeat (first | apply Kd.N_alloc | apply Kd.N_drewN | apply Kd.N_drew)); exact HO_1.out) (Kd.N_base ho44) hb); have n2_ := Aside0.mk (Kd.N_elder' (by (with_reducible repeat (first | apply Kd.N_alloc | apply Kd.N_drewN | apply Kd.N_drew)); exact HO225.out) (Kd.N_base ho44) hb); have n3_ := Aside0.mk (Kd.N_lower ho44 (below_size (by repeat (first | (with_reducible first | exact HB.out | apply below_alloc | apply pw_below_drewN | apply below_drew1) | exact HB.out)))); have n4_ := Aside0.mk (below_step (by repeat (first | (with_reducible first | exact HB.out | apply below_alloc | apply pw_below_drewN | apply below_drew1) | exact HB.out)) hb); clear HO_0; clear HO_1; clear HO225; clear HB; have HO_0 := n0_; have HO_1 := n1_; have HO225 := n2_; have HO229 := n3_; have HB := n4_; clear n0_ n1_ n2_ n3_ n4_; clear hb ho44) | ((with_reducible refine gate_builtin (b := .append) (xs := #[.tmp 80, .tmp 81]) rfl ?_); (try (refine gate_guard (by rfl) ?_; dsimp only)); at_builtin; refine Kd.N_append_rows (Kd.slice 32 k32) (w0 := w) w.heap.size rfl (.tmp 80) (.tmp 81) 22 29 (.slice none 0 0) 24 rfl Tryd.underlying22 info29 rfl (by decide) (by omega) v228 y227 t210 _ _ _ (fun k_ => some k_ ≠ (.slice Ao12 t213.length co12 : Value).ownBlock ∧ some k_ ≠ (v224 : Value).ownBlock) (fun k_ => ((fun k_ => some k_ ≠ (.slice Ao12 t213.length co12 : Value).ownBlock ∧ some k_ ≠ (v224 : Value).ownBlock)) k_ ∧ some k_ ≠ (v228 : Value).ownBlock) rfl rfl ?aO ?aR (fun _ hk => hk) ?aF ?aB ?aS ?aL ?_; (case aR => exact (by skip; exact Kd.N_F (Kd.N_mono (ok' := (fun k_ => ((fun k_ => some k_ ≠ (.slice Ao12 t213.length co12 : Value).ownBlock ∧ some k_ ≠ (v224 : Value).ownBlock)) k_ ∧ some k_ ≠ (v228 : Value).ownBlock)) (HO_0.out) (fun k_ hk => ⟨⟨hk.1.1, hk.1.2⟩, hk.2⟩)))); (case aB => exact (by repeat (first | (with_reducible first | exact HB.out | apply below_alloc | apply pw_below_drewN | apply below_drew1) | exact HB.out))); (case aF => exact (fun k_ hk => ⟨Kd.fresh' (Kd.N_lt (by (with_reducible repeat (first | apply Kd.N_alloc | apply Kd.N_drewN | apply Kd.N_drew)); exact HO_1.out)) k_ hk, Kd.fresh' (Kd.N_lt (by (with_reducible repeat (first | apply Kd.N_alloc | apply Kd.N_drewN | apply Kd.N_drew)); exact HO225.out)) k_ hk⟩)); (case aO => exact (by (with_reducible repeat (first | apply Kd.N_alloc | apply Kd.N_drewN | apply Kd.N_drew)); exact Kd.N_mono HO229.out (fun _ hk => ⟨hk.2.1, hk.2.2⟩))); (case aS => exact (below_size (by repeat (first | (with_reducible first | exact HB.out | apply below_alloc | apply pw_below_drewN | apply below_drew1) | exact HB.out)))); (case aL => have := LMc38.out; omega); intro v231 w45 ho hb hg hat; rw [← Ny230.out] at ho; have n0_ := Aside0.mk (Kd.N_afterv (ok := (fun k_ => some k_ ≠ (.slice Ao12 t213.length co12 : Value).ownBlock ∧ some k_ ≠ (v224 : Value).ownBlock)) (by (with_reducible repeat (first | apply Kd.N_alloc | apply Kd.N_drewN | apply Kd.N_drew)); exact HO_0.out) hg hat); have n1_ := Aside0.mk (Kd.N_afterv (ok := (fun k_ => some k_ ≠ (.slice Ao10 t210.length co10 : Value).ownBlock ∧ some k_ ≠ (v224 : Value).ownBlock)) (by (with_reducible repeat (first | apply Kd.N_alloc | apply Kd.N_drewN | apply Kd.N_drew)); exact HO_1.out) hg hat); have n2_ := Aside0.mk (Kd.N_afterv (ok := (fun k_ => some k_ ≠ (.slice Ao10 t210.length co10 : Value).ownBlock ∧ some k_ ≠ (.slice Ao12 t213.length co12 : Value).ownBlock)) (by (with_reducible repeat (first | apply Kd.N_alloc | apply Kd.N_drewN | apply Kd.N_drew)); exact HO225.out) hg hat); have n3_ := Aside0.mk (hb); have n4_ := Aside0.mk (ho); clear HO_0; clear HO_1; clear HO225; clear HB; clear HO229; have HO_0 := n0_; have HO_1 := n1_; have HO225 := n2_; have HB := n3_; have HO232 := n4_; clear n0_ n1_ n2_ n3_ n4_; clear ho hb hg hat) | ((with_reducible refine gate_builtin (b := .append) (xs := #[.tmp 82, .tmp 83]) rfl ?_); (try (refine gate_guard (by rfl) ?_; dsimp only)); at_builtin; refine Kd.N_append_rows (Kd.slice 32 k32) (w0 := w) w.heap.size rfl (.tmp 82) (.tmp 83) 22 29 (.slice none 0 0) 24 rfl Tryd.underlying22 info29 rfl (by decide) (by omega) v231 y230 t213 _ _ _ (fun k_ => some k_ ≠ (v224 : Value).ownBlock) (fun k_ => ((fun k_ => some k_ ≠ (v224 : Value).ownBlock)) k_ ∧ some k_ ≠ (v231 : Value).ownBlock) rfl rfl ?aO ?aR (fun _ hk => hk) ?aF ?aB ?aS ?aL ?_; (case aR => exact (by skip; exact Kd.N_F (Kd.N_mono (ok' := (fun k_ => ((fun k_ => some k_ ≠ (v224 : Value).ownBlock)) k_ ∧ some k_ ≠ (v231 : Value).ownBlock)) (HO_1.out) (fun k_ hk => ⟨hk.1.2, hk.2⟩)))); (case aB => exact (by repeat (first | (with_reducible first | exact HB.out | apply below_alloc | apply pw_below_drewN | apply below_drew1) | exact HB.out))); (case aF => exact (fun k_ hk => Kd.fresh' (Kd.N_lt (by (with_reducible repeat (first | apply Kd.N_alloc | apply Kd.N_drewN | apply Kd.N_drew)); exact HO225.out)) k_ hk)); (case aO => exact (by (with_reducible repeat (first | apply Kd.N_alloc | apply Kd.N_drewN | apply Kd.N_drew)); exact Kd.N_mono HO232.out (fun _ hk => hk.2))); (case aS => exact (below_size (by repeat (first | (with_reducible first | exact HB.out | apply below_alloc | apply pw_below_drewN | apply below_drew1) | exact HB.out)))); (case aL => have := LMc39.out; omega); intro v234 w46 ho hb hg hat; rw [← Ny233.out] at ho; have n0_ := Aside0.mk (Kd.N_afterv (ok := (fun k_ => some k_ ≠ (.slice Ao12 t213.length co12 : Value).ownBlock ∧ some k_ ≠ (v224 : Value).ownBlock)) (by (with_reducible repeat (first | apply Kd.N_alloc | apply Kd.N_drewN | apply Kd.N_drew)); exact HO_0.out) hg hat); have n1_ := Aside0.mk (Kd.N_afterv (ok := (fun k_ => some k_ ≠ (.slice Ao10 t210.length co10 : Value).ownBlock ∧ some k_ ≠ (v224 : Value).ownBlock)) (by (with_reducible repeat (first | apply Kd.N_alloc | apply Kd.N_drewN | apply Kd.N_drew)); exact HO_1.out) hg hat); have n2_ := Aside0.mk (Kd.N_afterv (ok := (fun k_ => some k_ ≠ (.slice Ao10 t210.length co10 : Value).ownBlock ∧ some k_ ≠ (.slice Ao12 t213.length co12 : Value).ownBlock)) (by (with_reducible repeat (first | apply Kd.N_alloc | apply Kd.N_drewN | apply Kd.N_drew)); exact HO225.out) hg hat); have n3_ := Aside0.mk (hb); have n4_ := Aside0.mk (ho); clear HO_0; clear HO_1; clear HO225; clear HB; clear HO232; have HO_0 := n0_; have HO_1 := n1_; have HO225 := n2_; have HB := n3_; have HO235 := n4_; clear n0_ n1_ n2_ n3_ n4_; clear ho hb hg hat; obtain ⟨Ao47, co47, eo47⟩ := Kd.N_slice HO225.out; subst eo47; obtain ⟨Ao48, co48, eo48⟩ := Kd.N_slice HO235.out; subst eo48) | (go_at_call 11; (with_reducible refine (deadboltref12_Same.calls kj6 _ _ t221 _ _ y233 true _ ?side1 ?side2 ?side3 ?side4 A40.out).mono ?_); (case side1 => repeat (first | exact (Kd.N_reads' HO225.out).2.2 | (with_reducible refine Kd.C_alloc ?_ _) | (with_reducible refine Kd.C_drewN ?_ _) | (with_reducible refine Kd.C_drew ?_))); (case side2 => exact (Kd.N_reads' HO225.out).2.1); (case side3 => repeat (first | exact (Kd.N_reads' HO235.out).2.2 | (with_reducible refine Kd.C_alloc ?_ _) | (with_reducible refine Kd.C_drewN ?_ _) | (with_reducible refine Kd.C_drew ?_))); (case side4 => exact (Kd.N_reads' HO235.out).2.1); rintro e w' ⟨rfl, ⟨nd, rfl⟩⟩) | (go_at_call 10; (with_reducible refine (deadboltlaw12_alive.calls kj6  t237 _ A42.out (by first | exact HT.out | (with_reducible refine Laid.below HT.out ?_; repeat (first | (with_reducible first | exact HB.out | apply below_alloc | apply pw_below_drewN | apply below_drew1 | refine below_set ?_ (Aside0.out (by assumption))) | exact HB.out)) | (exact Laid.below HT.out (by repeat (first | exact HB.out | exact Below.refl _ _ | apply below_alloc | apply pw_below_drewN | apply below_drew1 | refine below_set ?_ (Aside0.out (by assumption))))))).mono ?_); rintro e w49 ⟨rfl, hb⟩; have n0_ := Aside0.mk (Kd.N_below (by (with_reducible repeat (first | apply Kd.N_alloc | apply Kd.N_drewN | apply Kd.N_drew)); exact HO_0.out) hb); have n1_ := Aside0.mk (Kd.N_below (by (with_reducible repeat (first | apply Kd.N_alloc | apply Kd.N_drewN | apply Kd.N_drew)); exact HO_1.out) hb); have n2_ := Aside0.mk (Kd.N_below (by (with_reducible repeat (first | apply Kd.N_alloc | apply Kd.N_drewN | apply Kd.N_drew)); exact HO225.out) hb); have n3_ := Aside0.mk (Kd.N_below (by (with_reducible repeat (first | apply Kd.N_alloc | apply Kd.N_drewN | apply Kd.N_drew)); exact HO235.out) hb); have n4_ := Aside0.mk (below_step (by repeat (first | (with_reducible first | exact HB.out | apply below_alloc | apply pw_below_drewN | apply below_drew1) | exact HB.out)) hb); clear HO_0; clear HO_1; clear HO225; clear HO235; clear HB; have HO_0 := n0_; have HO_1 := n1_; have HO225 := n2_; have HO235 := n3_; have HB := n4_; clear n0_ n1_ n2_ n3_ n4_; (try clear hb); (try clear hb2); (try clear hk); (try clear hi)))
                      go_meet
                      case rel => exact ⟨_, (!t237), (by first | rfl | (simp; done) | (simp [*]; done)), H', ⟨by have := HJ6.out; first | omega | exact Nat.le_refl _⟩, ⟨by (with_reducible repeat (first | apply Kd.N_alloc | apply Kd.N_drewN | apply Kd.N_drew)); exact Kd.N_mono HO_0.out (fun _ hk => trivial)⟩, ⟨by repeat (first | (with_reducible first | exact HB.out | apply below_alloc | apply pw_below_drewN | apply below_drew1) | exact HB.out)⟩⟩
                    · replace c41 := Bool.eq_false_iff.mpr c41
                      subst c41
                      have H1 : (deadboltlaw12_ProgLines.j1 kj6 t210 true) = some r := by rw [if_neg (show ¬ (false = true) by decide)] at H; exact H
                      clear H
                      have H := H1
                      clear H1
                      have H' := Aside0.mk H
                      clear H
                      go_wp2_with (first | ((with_reducible refine gate_dst (N := 80) rfl ?_); (try (refine gate_guard (by rfl) ?_; dsimp only)); refine Kd.N_lit (Kd.slice 32 k32) _ 29 ?hg (N' := 80) ?hd (xs := ([] : List (List (S32)))) (inner := []) (ok := (fun k_ => some k_ ≠ (.slice Ao10 t210.length co10 : Value).ownBlock ∧ some k_ ≠ (.slice Ao12 t213.length co12 : Value).ownBlock ∧ some k_ ≠ (v224 : Value).ownBlock)) (okp := (fun k_ => some k_ ≠ (.slice Ao10 t210.length co10 : Value).ownBlock ∧ some k_ ≠ (.slice Ao12 t213.length co12 : Value).ownBlock ∧ some k_ ≠ (v224 : Value).ownBlock)) ?hr ?hp (fun _ hk => hk) ((show ∀ k_, w36.heap.size ≤ k_ → (fun k_ => some k_ ≠ (.slice Ao10 t210.length co10 : Value).ownBlock ∧ some k_ ≠ (.slice Ao12 t213.length co12 : Value).ownBlock ∧ some k_ ≠ (v224 : Value).ownBlock) k_ from fun k_ hk => ⟨Kd.fresh' (Kd.N_lt (by (with_reducible repeat (first | apply Kd.N_alloc | apply Kd.N_drewN | apply Kd.N_drew)); exact HO_0.out)) k_ hk, Kd.fresh' (Kd.N_lt (by (with_reducible repeat (first | apply Kd.N_alloc | apply Kd.N_drewN | apply Kd.N_drew)); exact HO_1.out)) k_ hk, Kd.fresh' (Kd.N_lt (by (with_reducible repeat (first | apply Kd.N_alloc | apply Kd.N_drewN | apply Kd.N_drew)); exact HO225.out)) k_ hk⟩) _ (Nat.le_refl _)) (Below.refl _ _) (Nat.le_refl _) (by simp) ?_; (case hd => rfl); (case hg => rfl); (case hr => first | (go_simp; done) | (go_simp; rfl)); (case hp => exact (Reps.none _ _)); intro v228 w50 ho51 hb hg_ hnew_; clear hg_ hnew_; (first | rw [← Ny227.out] at ho51 | (simp only [Int.reduceToNat] at ho51; rw [← Ny227.out] at ho51)); have n0_ := Aside0.mk (Kd.N_elder' (by (with_reducible repeat (first | apply Kd.N_alloc | apply Kd.N_drewN | apply Kd.N_drew)); exact HO_0.out) (Kd.N_base ho51) hb); have n1_ := Aside0.mk (Kd.N_elder' (by (with_reducible repeat (first | apply Kd.N_alloc | apply Kd.N_drewN | apply Kd.N_drew)); exact HO_1.out) (Kd.N_base ho51) hb); have n2_ := Aside0.mk (Kd.N_elder' (by (with_reducible repeat (first | apply Kd.N_alloc | apply Kd.N_drewN | apply Kd.N_drew)); exact HO225.out) (Kd.N_base ho51) hb); have n3_ := Aside0.mk (Kd.N_lower ho51 (below_size (by repeat (first | (with_reducible first | exact HB.out | apply below_alloc | apply pw_below_drewN | apply below_drew1) | exact HB.out)))); have n4_ := Aside0.mk (below_step (by repeat (first | (with_reducible first | exact HB.out | apply below_alloc | apply pw_below_drewN | apply below_drew1) | exact HB.out)) hb); clear HO_0; clear HO_1; clear HO225; clear HB; have HO_0 := n0_; have HO_1 := n1_; have HO225 := n2_; have HO229 := n3_; have HB := n4_; clear n0_ n1_ n2_ n3_ n4_; clear hb ho51) | ((with_reducible refine gate_builtin (b := .append) (xs := #[.tmp 80, .tmp 81]) rfl ?_); (try (refine gate_guard (by rfl) ?_; dsimp only)); at_builtin; refine Kd.N_append_rows (Kd.slice 32 k32) (w0 := w) w.heap.size rfl (.tmp 80) (.tmp 81) 22 29 (.slice none 0 0) 24 rfl Tryd.underlying22 info29 rfl (by decide) (by omega) v228 y227 t210 _ _ _ (fun k_ => some k_ ≠ (.slice Ao12 t213.length co12 : Value).ownBlock ∧ some k_ ≠ (v224 : Value).ownBlock) (fun k_ => ((fun k_ => some k_ ≠ (.slice Ao12 t213.length co12 : Value).ownBlock ∧ some k_ ≠ (v224 : Value).ownBlock)) k_ ∧ some k_ ≠ (v228 : Value).ownBlock) rfl rfl ?aO ?aR (fun _ hk => hk) ?aF ?aB ?aS ?aL ?_; (case aR => exact (by skip; exact Kd.N_F (Kd.N_mono (ok' := (fun k_ => ((fun k_ => some k_ ≠ (.slice Ao12 t213.length co12 : Value).ownBlock ∧ some k_ ≠ (v224 : Value).ownBlock)) k_ ∧ some k_ ≠ (v228 : Value).ownBlock)) (HO_0.out) (fun k_ hk => ⟨⟨hk.1.1, hk.1.2⟩, hk.2⟩)))); (case aB => exact (by repeat (first | (with_reducible first | exact HB.out | apply below_alloc | apply pw_below_drewN | apply below_drew1) | exact HB.out))); (case aF => exact (fun k_ hk => ⟨Kd.fresh' (Kd.N_lt (by (with_reducible repeat (first | apply Kd.N_alloc | apply Kd.N_drewN | apply Kd.N_drew)); exact HO_1.out)) k_ hk, Kd.fresh' (Kd.N_lt (by (with_reducible repeat (first | apply Kd.N_alloc | apply Kd.N_drewN | apply Kd.N_drew)); exact HO225.out)) k_ hk⟩)); (case aO => exact (by (with_reducible repeat (first | apply Kd.N_alloc | apply Kd.N_drewN | apply Kd.N_drew)); exact Kd.N_mono HO229.out (fun _ hk => ⟨hk.2.1, hk.2.2⟩))); (case aS => exact (below_size (by repeat (first | (with_reducible first | exact HB.out | apply below_alloc | apply pw_below_drewN | apply below_drew1) | exact HB.out)))); (case aL => have := LMc38.out; omega); intro v231 w52 ho hb hg hat; rw [← Ny230.out] at ho; have n0_ := Aside0.mk (Kd.N_afterv (ok := (fun k_ => some k_ ≠ (.slice Ao12 t213.length co12 : Value).ownBlock ∧ some k_ ≠ (v224 : Value).ownBlock)) (by (with_reducible repeat (first | apply Kd.N_alloc | apply Kd.N_drewN | apply Kd.N_drew)); exact HO_0.out) hg hat); have n1_ := Aside0.mk (Kd.N_afterv (ok := (fun k_ => some k_ ≠ (.slice Ao10 t210.length co10 : Value).ownBlock ∧ some k_ ≠ (v224 : Value).ownBlock)) (by (with_reducible repeat (first | apply Kd.N_alloc | apply Kd.N_drewN | apply Kd.N_drew)); exact HO_1.out) hg hat); have n2_ := Aside0.mk (Kd.N_afterv (ok := (fun k_ => some k_ ≠ (.slice Ao10 t210.length co10 : Value).ownBlock ∧ some k_ ≠ (.slice Ao12 t213.length co12 : Value).ownBlock)) (by (with_reducible repeat (first | apply Kd.N_alloc | apply Kd.N_drewN | apply Kd.N_drew)); exact HO225.out) hg hat); have n3_ := Aside0.mk (hb); have n4_ := Aside0.mk (ho); clear HO_0; clear HO_1; clear HO225; clear HB; clear HO229; have HO_0 := n0_; have HO_1 := n1_; have HO225 := n2_; have HB := n3_; have HO232 := n4_; clear n0_ n1_ n2_ n3_ n4_; clear ho hb hg hat) | ((with_reducible refine gate_builtin (b := .append) (xs := #[.tmp 82, .tmp 83]) rfl ?_); (try (refine gate_guard (by rfl) ?_; dsimp only)); at_builtin; refine Kd.N_append_rows (Kd.slice 32 k32) (w0 := w) w.heap.size rfl (.tmp 82) (.tmp 83) 22 29 (.slice none 0 0) 24 rfl Tryd.underlying22 info29 rfl (by decide) (by omega) v231 y230 t213 _ _ _ (fun k_ => some k_ ≠ (v224 : Value).ownBlock) (fun k_ => ((fun k_ => some k_ ≠ (v224 : Value).ownBlock)) k_ ∧ some k_ ≠ (v231 : Value).ownBlock) rfl rfl ?aO ?aR (fun _ hk => hk) ?aF ?aB ?aS ?aL ?_; (case aR => exact (by skip; exact Kd.N_F (Kd.N_mono (ok' := (fun k_ => ((fun k_ => some k_ ≠ (v224 : Value).ownBlock)) k_ ∧ some k_ ≠ (v231 : Value).ownBlock)) (HO_1.out) (fun k_ hk => ⟨hk.1.2, hk.2⟩)))); (case aB => exact (by repeat (first | (with_reducible first | exact HB.out | apply below_alloc | apply pw_below_drewN | apply below_drew1) | exact HB.out))); (case aF => exact (fun k_ hk => Kd.fresh' (Kd.N_lt (by (with_reducible repeat (first | apply Kd.N_alloc | apply Kd.N_drewN | apply Kd.N_drew)); exact HO225.out)) k_ hk)); (case aO => exact (by (with_reducible repeat (first | apply Kd.N_alloc | apply Kd.N_drewN | apply Kd.N_drew)); exact Kd.N_mono HO232.out (fun _ hk => hk.2))); (case aS => exact (below_size (by repeat (first | (with_reducible first | exact HB.out | apply below_alloc | apply pw_below_drewN | apply below_drew1) | exact HB.out)))); (case aL => have := LMc39.out; omega); intro v234 w53 ho hb hg hat; rw [← Ny233.out] at ho; have n0_ := Aside0.mk (Kd.N_afterv (ok := (fun k_ => some k_ ≠ (.slice Ao12 t213.length co12 : Value).ownBlock ∧ some k_ ≠ (v224 : Value).ownBlock)) (by (with_reducible repeat (first | apply Kd.N_alloc | apply Kd.N_drewN | apply Kd.N_drew)); exact HO_0.out) hg hat); have n1_ := Aside0.mk (Kd.N_afterv (ok := (fun k_ => some k_ ≠ (.slice Ao10 t210.length co10 : Value).ownBlock ∧ some k_ ≠ (v224 : Value).ownBlock)) (by (with_reducible repeat (first | apply Kd.N_alloc | apply Kd.N_drewN | apply Kd.N_drew)); exact HO_1.out) hg hat); have n2_ := Aside0.mk (Kd.N_afterv (ok := (fun k_ => some k_ ≠ (.slice Ao10 t210.length co10 : Value).ownBlock ∧ some k_ ≠ (.slice Ao12 t213.length co12 : Value).ownBlock)) (by (with_reducible repeat (first | apply Kd.N_alloc | apply Kd.N_drewN | apply Kd.N_drew)); exact HO225.out) hg hat); have n3_ := Aside0.mk (hb); have n4_ := Aside0.mk (ho); clear HO_0; clear HO_1; clear HO225; clear HB; clear HO232; have HO_0 := n0_; have HO_1 := n1_; have HO225 := n2_; have HB := n3_; have HO235 := n4_; clear n0_ n1_ n2_ n3_ n4_; clear ho hb hg hat; obtain ⟨Ao54, co54, eo54⟩ := Kd.N_slice HO225.out; subst eo54; obtain ⟨Ao55, co55, eo55⟩ := Kd.N_slice HO235.out; subst eo55) | (go_at_call 11; (with_reducible refine (deadboltref12_Same.calls kj6 _ _ t221 _ _ y233 false _ ?side1 ?side2 ?side3 ?side4 A40.out).mono ?_); (case side1 => repeat (first | exact (Kd.N_reads' HO225.out).2.2 | (with_reducible refine Kd.C_alloc ?_ _) | (with_reducible refine Kd.C_drewN ?_ _) | (with_reducible refine Kd.C_drew ?_))); (case side2 => exact (Kd.N_reads' HO225.out).2.1); (case side3 => repeat (first | exact (Kd.N_reads' HO235.out).2.2 | (with_reducible refine Kd.C_alloc ?_ _) | (with_reducible refine Kd.C_drewN ?_ _) | (with_reducible refine Kd.C_drew ?_))); (case side4 => exact (Kd.N_reads' HO235.out).2.1); rintro e w' ⟨rfl, ⟨nd, rfl⟩⟩))
                      go_meet
                      case rel => exact ⟨_, (true), (by first | rfl | (simp; done) | (simp [*]; done)), H', ⟨by have := HJ6.out; first | omega | exact Nat.le_refl _⟩, ⟨by (with_reducible repeat (first | apply Kd.N_alloc | apply Kd.N_drewN | apply Kd.N_drew)); exact Kd.N_mono HO_0.out (fun _ hk => trivial)⟩, ⟨by repeat (first | (with_reducible first | exact HB.out | apply below_alloc | apply pw_below_drewN | apply below_drew1) | exact HB.out)⟩⟩
                  · rw [if_neg c39] at H
                    exact absurd H (by simp)
                · rw [if_neg c38] at H
                  exact absurd H (by simp)
              · rw [if_neg c37] at H
                have c37b0 : (t223 == 0) = false := beq_eq_false_iff_ne.mpr c37
                have c37b1 : (t223 != 0) = true := bne_iff_ne.mpr c37
                (first | rw [c37b0] | (simp only [i64_w, i32_w]; rw [c37b0]) | skip)
                have H' := Aside0.mk H
                clear H
                go_wp2
                go_meet
                case rel => exact ⟨_, (true), (by first | rfl | (simp; done) | (simp [*]; done)), H', ⟨by have := HJ6.out; first | omega | exact Nat.le_refl _⟩, ⟨by (with_reducible repeat (first | apply Kd.N_alloc | apply Kd.N_drewN | apply Kd.N_drew)); exact Kd.N_mono HO_0.out (fun _ hk => trivial)⟩, ⟨by repeat (first | (with_reducible first | exact HB.out | apply below_alloc | apply pw_below_drewN | apply below_drew1) | exact HB.out)⟩⟩
            case rest =>
              clear HC35
              try clear c1
              try clear c2
              try clear p2
              try clear c3
              try clear c4
              try clear p6
              try clear c7
              try clear c8
              try clear c10
              try clear c13
              try clear c14
              try clear c14b0
              try clear c14b1
              try clear c15
              try clear c15b0
              try clear c15b1
              try clear c16
              try clear c19
              try clear c19b0
              try clear c19b1
              try clear c19b2
              try clear c21
              try clear c21b0
              try clear c23
              try clear c24
              try clear c24b0
              try clear c24b1
              try clear c25
              try clear c25b0
              try clear c25b1
              try clear c37
              try clear c37b0
              try clear c37b1
              try clear c38
              try clear c39
              try clear c41
              try clear p2
              try clear p6
              obtain ⟨kq, x91_34, rfl, HA, HJ34, HO_0, HB⟩ := hcut
              cases kq with
              | zero => exact absurd HA.out (by simp [deadboltlaw12_ProgLines.j1])
              | succ kj34 =>
                have H := HA.out
                clear HA
                simp only [deadboltlaw12_ProgLines.j1] at H
                by_cases c56 : x91_34 = true
                · subst c56
                  have H1 : (some false) = some r := by rw [if_pos rfl] at H; exact H
                  clear H
                  have H := H1
                  clear H1
                  obtain rfl := Option.some.inj H
                  go_wp2
                  go_ret
                  exact ⟨by first | rfl | (simp [errW_none, errW_some] <;> rfl) | (simp [*, errW_none, errW_some] <;> rfl), by repeat (first | (with_reducible first | exact HB.out | apply below_alloc | apply pw_below_drewN | apply below_drew1) | exact HB.out)⟩
                · replace c56 := Bool.eq_false_iff.mpr c56
                  subst c56
                  have H1 : (deadboltlaw12_ProgLines.l0 kj34 t210 (t210.length : Int) 0) = some r := by rw [if_neg (show ¬ (false = true) by decide)] at H; exact H
                  clear H
                  have H := H1
                  clear H1
                  have H' := Aside0.mk H
                  clear H
                  go_wp2
                  go_loopg [94] kj34 (fun kq v94 w' => ∃ (x94_3 : Int), v94 = .int .i64 x94_3 ∧ Aside0 (deadboltlaw12_ProgLines.l0 kq t210 (t210.length : Int) x94_3 = some r) ∧ Aside0 (kq ≤ kj34) ∧ Aside0 (Kd.N (Kd.slice 32 k32) 29 w' w.heap.size (fun _ => True) (.slice Ao10 t210.length co10) t210) ∧ Aside0 (Below w.heap.size w w'))
                  case atStart => exact ⟨(0), (by first | rfl | (simp; done) | (simp [*]; done)), H', ⟨Nat.le_refl _⟩, ⟨by (with_reducible repeat (first | apply Kd.N_alloc | apply Kd.N_drewN | apply Kd.N_drew)); exact HO_0.out⟩, ⟨by repeat (first | (with_reducible first | exact HB.out | apply below_alloc | apply pw_below_drewN | apply below_drew1) | exact HB.out)⟩⟩
                  case round =>
                    clear H'
                    try clear c1
                    try clear c2
                    try clear p2
                    try clear c3
                    try clear c4
                    try clear c5
                    try clear p6
                    try clear c7
                    try clear c8
                    try clear c10
                    try clear c13
                    try clear c14
                    try clear c14b0
                    try clear c14b1
                    try clear c15
                    try clear c15b0
                    try clear c15b1
                    try clear c16
                    try clear c19
                    try clear c19b0
                    try clear c19b1
                    try clear c19b2
                    try clear c21
                    try clear c21b0
                    try clear c23
                    try clear c24
                    try clear c24b0
                    try clear c24b1
                    try clear c25
                    try clear c25b0
                    try clear c25b1
                    try clear c37
                    try clear c37b0
                    try clear c37b1
                    try clear c38
                    try clear c39
                    try clear c41
                    try clear c56
                    try clear p2
                    try clear p6
                    obtain ⟨x94_3, rfl, HA, HK3, HO_92, HB⟩ := hrel
                    cases gk with
                    | zero => exact absurd HA.out (by simp [deadboltlaw12_ProgLines.l0])
                    | succ k3 =>
                      have H := HA.out
                      clear HA
                      simp only [deadboltlaw12_ProgLines.l0] at H
                      by_cases c57 : x94_3 < (t210.length : Int)
                      · rw [if_pos c57] at H
                        have c57b0 : decide (x94_3 < (t210.length : Int)) = true := decide_eq_true c57
                        clear c57
                        by_cases c58 : 0 ≤ x94_3
                        · rw [if_pos c58] at H
                          have c58b0 : decide (0 ≤ x94_3) = true := decide_eq_true c58
                          clear c58
                          by_cases c59 : x94_3 < (t210.length : Int)
                          · rw [if_pos c59] at H
                            have c59b0 : decide (x94_3 < (t210.length : Int)) = true := decide_eq_true c59
                            clear c59
                            obtain ⟨y239, hy239⟩ : ∃ y_ : List (List (S32)), y_ = (([rd_L4 t210 x94_3] : List (List (S32)))) := ⟨_, rfl⟩
                            replace H : ((prog_Print.f y239).bind fun bt242 => ((prog_Parse.f k3 bt242.1).bind fun bt244 => (if bt242.2 = 0 then (if bt244.2.2 = 0 then (if (bt244.1.length : Int) = 1 then (if 0 < (bt244.1.length : Int) then ((deadboltref12_Acts.f k3 (rd_L4 bt244.1 0) (rd_L4 t210 x94_3)).bind fun t250 => (if t250 = true then (deadboltlaw12_ProgLines.l0 k3 t210 (t210.length : Int) (wrap64 (x94_3 + 1))) else (some false))) else (none)) else (some false)) else (some false)) else (some false)))) = some r := by first | (rw [hy239]; with_reducible exact H) | (have H2_ := (Option.bind_some _ _).symm.trans H; rw [hy239]; with_reducible exact H2_) | (have H2_ := (Option.bind_some _ _).symm.trans H; with_reducible exact H2_) | with_reducible exact H | (rw [hy239]; exact H) | exact H
                            have Ny239 := Aside0.mk hy239
                            clear hy239
                            replace H := Option.bind_eq_some_iff.mp H
                            obtain ⟨⟨t242, t243⟩, A600, H⟩ := H
                            replace H : ((prog_Parse.f k3 t242).bind fun bt244 => (if t243 = 0 then (if bt244.2.2 = 0 then (if (bt244.1.length : Int) = 1 then (if 0 < (bt244.1.length : Int) then ((deadboltref12_Acts.f k3 (rd_L4 bt244.1 0) (rd_L4 t210 x94_3)).bind fun t250 => (if t250 = true then (deadboltlaw12_ProgLines.l0 k3 t210 (t210.length : Int) (wrap64 (x94_3 + 1))) else (some false))) else (none)) else (some false)) else (some false)) else (some false))) = some r := H
                            have A60 := Aside0.mk A600
                            clear A600
                            replace H := Option.bind_eq_some_iff.mp H
                            obtain ⟨⟨t244, t245, t246⟩, A610, H⟩ := H
                            replace H : (if t243 = 0 then (if t246 = 0 then (if (t244.length : Int) = 1 then (if 0 < (t244.length : Int) then ((deadboltref12_Acts.f k3 (rd_L4 t244 0) (rd_L4 t210 x94_3)).bind fun t250 => (if t250 = true then (deadboltlaw12_ProgLines.l0 k3 t210 (t210.length : Int) (wrap64 (x94_3 + 1))) else (some false))) else (none)) else (some false)) else (some false)) else (some false)) = some r := H
                            have A61 := Aside0.mk A610
                            clear A610
                            by_cases c62 : t243 = 0
                            · rw [if_pos c62] at H
                              have c62b0 : (t243 == 0) = true := beq_iff_eq.mpr c62
                              have c62b1 : (t243 != 0) = false := bne_eq_false_iff_eq.mpr c62
                              clear c62
                              by_cases c63 : t246 = 0
                              · rw [if_pos c63] at H
                                have c63b0 : (t246 == 0) = true := beq_iff_eq.mpr c63
                                have c63b1 : (t246 != 0) = false := bne_eq_false_iff_eq.mpr c63
                                clear c63
                                by_cases c64 : (t244.length : Int) = 1
                                · rw [if_pos c64] at H
                                  have c64b0 : ((t244.length : Int) == 1) = true := beq_iff_eq.mpr c64
                                  have c64b1 : ((t244.length : Int) != 1) = false := bne_eq_false_iff_eq.mpr c64
                                  clear c64
                                  by_cases c65 : 0 < (t244.length : Int)
                                  · rw [if_pos c65] at H
                                    have c65b0 : decide (0 < (t244.length : Int)) = true := decide_eq_true c65
                                    have c65b1 : decide (0 < t244.length) = true := decide_eq_true (by omega)
                                    clear c65
                                    replace H := Option.bind_eq_some_iff.mp H
                                    obtain ⟨t250, A660, H⟩ := H
                                    replace H : (if t250 = true then (deadboltlaw12_ProgLines.l0 k3 t210 (t210.length : Int) (wrap64 (x94_3 + 1))) else (some false)) = some r := H
                                    have A66 := Aside0.mk A660
                                    clear A660
                                    by_cases c67 : t250 = true
                                    · subst c67
                                      have H1 : (deadboltlaw12_ProgLines.l0 k3 t210 (t210.length : Int) (wrap64 (x94_3 + 1))) = some r := by rw [if_pos rfl] at H; exact H
                                      clear H
                                      have H := H1
                                      clear H1
                                      have H' := Aside0.mk H
                                      clear H
                                      have p238 : 0 ≤ (x94_3 : Int) := of_decide_eq_true (by first | (with_reducible assumption) | assumption)
                                      have q238 : x94_3 < (t210.length : Int) := of_decide_eq_true (by first | (with_reducible assumption) | assumption)
                                      obtain ⟨ad238, A238_0, c238_0, e238, hx238_0, hl238_0, hi238_0⟩ := at_L4 (Kd.N_reads' HO_92.out).2.2 x94_3 p238 q238
                                      cases e238
                                      obtain ⟨ce238, hce238, hMe238, hcc238⟩ := Kd.N_get HO_92.out [] x94_3 p238 (by first | exact q238 | exact of_decide_eq_true (by first | (with_reducible assumption) | assumption) | (have e_ := (Kd.N_reads' HO_92.out).1; omega))
                                      obtain ⟨ua238_0, uc238_0, rfl, ul238_0, ge238_0⟩ := Kd.FK_slice_open hMe238
                                      have hv238_0 := hcc238 0 _ rfl
                                      rw [Nat.add_zero, show ((Kd.slice 32 k32)).sz = 1 from rfl, Nat.mul_one] at hv238_0
                                      replace hv238_0 := Option.some.inj (hv238_0.symm.trans hx238_0)
                                      injection hv238_0 with hva_ hvn_ hvc_
                                      rw [hva_] at ge238_0
                                      rw [hvc_] at ul238_0
                                      have HL238_0 := Aside0.mk (show Kd.V k32 32 _ w.heap.size _ _ (rd_L4 t210 x94_3) from Kd.V_mk ul238_0 ge238_0)
                                      clear hva_ hvn_ hvc_ ge238_0 ul238_0
                                      clear hcc238 hce238
                                      have HR238_0 := Aside0.mk hi238_0
                                      have HC238_0 := Aside0.mk hl238_0
                                      clear hi238_0 hl238_0
                                      replace p238 := eq_true p238
                                      replace q238 := eq_true q238
                                      go_wp2_with (first | ((with_reducible refine gate_dst (N := 100) rfl ?_); (try (refine gate_guard (by rfl) ?_; dsimp only)); refine Kd.N_lit (Kd.slice 32 k32) _ 29 ?hg (N' := 100) ?hd (xs := ([rd_L4 t210 x94_3] : List (List (S32)))) (inner := [.slice A238_0 (rd_L4 t210 x94_3).length c238_0]) (ok := (fun k_ => some k_ ≠ (.slice (some ad238) t210.length co10 : Value).ownBlock)) (okp := (fun k_ => some k_ ≠ (.slice (some ad238) t210.length co10 : Value).ownBlock)) ?hr ?hp (fun _ hk => hk) ((show ∀ k_, wr.heap.size ≤ k_ → (fun k_ => some k_ ≠ (.slice (some ad238) t210.length co10 : Value).ownBlock) k_ from fun k_ hk => Kd.fresh' (Kd.N_lt (by (with_reducible repeat (first | apply Kd.N_alloc | apply Kd.N_drewN | apply Kd.N_drew)); exact HO_92.out)) k_ hk) _ (Nat.le_refl _)) (Below.refl _ _) (Nat.le_refl _) (by simp) ?_; (case hd => rfl); (case hg => rfl); (case hr => first | (go_simp; done) | (go_simp; rfl)); (case hp => exact (Reps.one (show Kd.FK (Kd.slice 32 k32) _ _ (rd_L4 t210 x94_3) [.slice A238_0 (rd_L4 t210 x94_3).length c238_0] from (Kd.FK_slice_mk (Kd.V_reads' (Kd.V_mono (ok' := (fun k_ => some k_ ≠ (.slice (some ad238) t210.length co10 : Value).ownBlock)) (HL238_0.out) (fun k_ hk => hk.2))).2.1 (Kd.V_F (Kd.V_mono (ok' := (fun k_ => some k_ ≠ (.slice (some ad238) t210.length co10 : Value).ownBlock)) (HL238_0.out) (fun k_ hk => hk.2))))) (Reps.none _ _))); intro v240 w68 ho69 hb hg_ hnew_; clear hg_ hnew_; (first | rw [← Ny239.out] at ho69 | (simp only [Int.reduceToNat] at ho69; rw [← Ny239.out] at ho69)); have n0_ := Aside0.mk (Kd.N_elder' (by (with_reducible repeat (first | apply Kd.N_alloc | apply Kd.N_drewN | apply Kd.N_drew)); exact HO_92.out) (Kd.N_base ho69) hb); have n1_ := Aside0.mk (Kd.V_elder' (by (with_reducible repeat (first | apply Kd.V_alloc | apply Kd.V_drewN | apply Kd.V_drew)); exact HL238_0.out) (Kd.N_base ho69) hb); have n2_ := Aside0.mk (Kd.N_lower ho69 (below_size (by repeat (first | (with_reducible first | exact HB.out | apply below_alloc | apply pw_below_drewN | apply below_drew1) | exact HB.out)))); have n3_ := Aside0.mk (Kd.C_below (by repeat (first | (with_reducible exact HR238_0.out) | (with_reducible refine Kd.C_alloc ?_ _) | (with_reducible refine Kd.C_drewN ?_ _) | (with_reducible refine Kd.C_drew ?_) | exact HR238_0.out)) hb); have n4_ := Aside0.mk (below_step (by repeat (first | (with_reducible first | exact HB.out | apply below_alloc | apply pw_below_drewN | apply below_drew1) | exact HB.out)) hb); clear HO_92; clear HL238_0; clear HR238_0; clear HB; have HO_92 := n0_; have HL238_0 := n1_; have HO241 := n2_; have HR238_0 := n3_; have HB := n4_; clear n0_ n1_ n2_ n3_ n4_; clear hb ho69; obtain ⟨Ao70, co70, eo70⟩ := Kd.N_slice HO241.out; subst eo70) | ((with_reducible refine gate_callee (f := 14) rfl ?_); refine goesL_ (some 101) rfl rfl Tryd.func14 (by kernel_rfl) rfl #[.slice Ao70 y239.length co70] rfl (by (try simp only [List.map_toArray, List.map_cons, List.map_nil]); first | done | rfl | (simp only [List.length_drop, List.length_take]; rfl)) ?_; (with_reducible refine (prog_Print.calls _ _ y239 t242 t243 _ ?side1 ?side2 A60.out (by first | exact HT.out | (with_reducible refine Laid.below HT.out ?_; repeat (first | (with_reducible first | exact HB.out | apply below_alloc | apply pw_below_drewN | apply below_drew1 | refine below_set ?_ (Aside0.out (by assumption))) | exact HB.out)) | (exact Laid.below HT.out (by repeat (first | exact HB.out | exact Below.refl _ _ | apply below_alloc | apply pw_below_drewN | apply below_drew1 | refine below_set ?_ (Aside0.out (by assumption))))))).mono ?_); (case side1 => repeat (first | exact (Kd.N_reads' HO241.out).2.2 | (with_reducible refine Kd.C_alloc ?_ _) | (with_reducible refine Kd.C_drewN ?_ _) | (with_reducible refine Kd.C_drew ?_))); (case side2 => exact (Kd.N_reads' HO241.out).2.1); rintro e w71 ⟨rfl, hb⟩; refine ⟨_, rfl, ?_⟩; have n0_ := Aside0.mk (Kd.N_below (by (with_reducible repeat (first | apply Kd.N_alloc | apply Kd.N_drewN | apply Kd.N_drew)); exact HO_92.out) hb); have n1_ := Aside0.mk (Kd.V_below (by (with_reducible repeat (first | apply Kd.V_alloc | apply Kd.V_drewN | apply Kd.V_drew)); exact HL238_0.out) hb); have n2_ := Aside0.mk (Kd.N_below (by (with_reducible repeat (first | apply Kd.N_alloc | apply Kd.N_drewN | apply Kd.N_drew)); exact HO241.out) hb); have n3_ := Aside0.mk (Kd.C_below (by repeat (first | (with_reducible exact HR238_0.out) | (with_reducible refine Kd.C_alloc ?_ _) | (with_reducible refine Kd.C_drewN ?_ _) | (with_reducible refine Kd.C_drew ?_) | exact HR238_0.out)) hb); have n4_ := Aside0.mk (below_step (by repeat (first | (with_reducible first | exact HB.out | apply below_alloc | apply pw_below_drewN | apply below_drew1) | exact HB.out)) hb); clear HO_92; clear HL238_0; clear HO241; clear HR238_0; clear HB; have HO_92 := n0_; have HL238_0 := n1_; have HO241 := n2_; have HR238_0 := n3_; have HB := n4_; clear n0_ n1_ n2_ n3_ n4_; (try clear hb); (try clear hb2); (try clear hk); (try clear hi)) | ((with_reducible refine gate_callee (f := 8) rfl ?_); refine goesL_ (some 106) rfl rfl Tryd.func8 (by kernel_rfl) rfl #[.string t242] rfl (by (try simp only [List.map_toArray, List.map_cons, List.map_nil]); first | done | rfl | (simp only [List.length_drop, List.length_take]; rfl)) ?_; (with_reducible refine (prog_Parse.calls k3 t242 t244 t245 t246 _ A61.out (by first | exact HT.out | (with_reducible refine Laid.below HT.out ?_; repeat (first | (with_reducible first | exact HB.out | apply below_alloc | apply pw_below_drewN | apply below_drew1 | refine below_set ?_ (Aside0.out (by assumption))) | exact HB.out)) | (exact Laid.below HT.out (by repeat (first | exact HB.out | exact Below.refl _ _ | apply below_alloc | apply pw_below_drewN | apply below_drew1 | refine below_set ?_ (Aside0.out (by assumption))))))).mono ?_); rintro e w72 ⟨v247, rfl, ho0, hb⟩; refine ⟨_, rfl, ?_⟩; have n0_ := Aside0.mk (Kd.N_elder' (by (with_reducible repeat (first | apply Kd.N_alloc | apply Kd.N_drewN | apply Kd.N_drew)); exact HO_92.out) (Kd.N_base (Kd.S_N ho0)) hb); have n1_ := Aside0.mk (Kd.V_elder' (by (with_reducible repeat (first | apply Kd.V_alloc | apply Kd.V_drewN | apply Kd.V_drew)); exact HL238_0.out) (Kd.N_base (Kd.S_N ho0)) hb); have n2_ := Aside0.mk (Kd.N_elder' (by (with_reducible repeat (first | apply Kd.N_alloc | apply Kd.N_drewN | apply Kd.N_drew)); exact HO241.out) (Kd.N_base (Kd.S_N ho0)) hb); have n3_ := Aside0.mk (Kd.N_lower (Kd.N_mono (ok' := fun k_ => some k_ ≠ (.slice (some ad238) t210.length co10 : Value).ownBlock ∧ some k_ ≠ (.slice Ao70 y239.length co70 : Value).ownBlock) (Kd.S_N (Kd.S_bound ho0)) (fun k_ hk_ => ⟨(Kd.fresh' (Kd.N_lt (by (with_reducible repeat (first | apply Kd.N_alloc | apply Kd.N_drewN | apply Kd.N_drew)); exact HO_92.out)) k_ hk_.2.1), (Kd.fresh' (Kd.N_lt (by (with_reducible repeat (first | apply Kd.N_alloc | apply Kd.N_drewN | apply Kd.N_drew)); exact HO241.out)) k_ hk_.2.1)⟩)) (below_size (by repeat (first | (with_reducible first | exact HB.out | apply below_alloc | apply pw_below_drewN | apply below_drew1) | exact HB.out)))); have n4_ := Aside0.mk (Kd.C_below (by repeat (first | (with_reducible exact HR238_0.out) | (with_reducible refine Kd.C_alloc ?_ _) | (with_reducible refine Kd.C_drewN ?_ _) | (with_reducible refine Kd.C_drew ?_) | exact HR238_0.out)) hb); have n5_ := Aside0.mk (below_step (by repeat (first | (with_reducible first | exact HB.out | apply below_alloc | apply pw_below_drewN | apply below_drew1) | exact HB.out)) hb); clear HO_92; clear HL238_0; clear HO241; clear HR238_0; clear HB; have HO_92 := n0_; have HL238_0 := n1_; have HO241 := n2_; have HO248 := n3_; have HR238_0 := n4_; have HB := n5_; clear n0_ n1_ n2_ n3_ n4_ n5_; (try clear hb); (try clear hb2); (try clear hk); (try clear hi); (try clear ho0); obtain ⟨Ao73, co73, eo73⟩ := Kd.N_slice HO248.out; subst eo73; have p249 : 0 ≤ (0 : Int) := (by omega); have q249 : 0 < (t244.length : Int) := of_decide_eq_true (by first | (with_reducible assumption) | assumption); obtain ⟨ad249, A249_0, c249_0, e249, hx249_0, hl249_0, hi249_0⟩ := at_L4 (Kd.N_reads' HO248.out).2.2 0 p249 q249; cases e249; obtain ⟨ce249, hce249, hMe249, hcc249⟩ := Kd.N_get HO248.out [] 0 p249 (by first | exact q249 | exact of_decide_eq_true (by first | (with_reducible assumption) | assumption) | (have e_ := (Kd.N_reads' HO248.out).1; omega)); obtain ⟨ua249_0, uc249_0, rfl, ul249_0, ge249_0⟩ := Kd.FK_slice_open hMe249; have hv249_0 := hcc249 0 _ rfl; rw [Nat.add_zero, show ((Kd.slice 32 k32)).sz = 1 from rfl, Nat.mul_one] at hv249_0; replace hv249_0 := Option.some.inj (hv249_0.symm.trans hx249_0); injection hv249_0 with hva_ hvn_ hvc_; rw [hva_] at ge249_0; rw [hvc_] at ul249_0; have HL249_0 := Aside0.mk (show Kd.V k32 32 _ w.heap.size _ _ (rd_L4 t244 0) from Kd.V_mk ul249_0 ge249_0); clear hva_ hvn_ hvc_ ge249_0 ul249_0; clear hcc249 hce249; have qi249 : (0 < t244.length) = True := eq_true (by omega); (try rw [show ((0 : Int)).toNat = 0 from rfl] at hx249_0); (try rw [Addr.add_zero'] at hx249_0); have HR249_0 := Aside0.mk hi249_0; have HC249_0 := Aside0.mk hl249_0; clear hi249_0 hl249_0; replace p249 := eq_true p249; replace q249 := eq_true q249) | (go_at_call 19; (with_reducible refine (deadboltref12_Acts.calls k3 _ _ (rd_L4 t244 0) _ _ (rd_L4 t210 x94_3) true _ ?side1 ?side2 ?side3 ?side4 A66.out).mono ?_); (case side1 => repeat (first | exact (by repeat (first | (with_reducible exact HR249_0.out) | (with_reducible refine Kd.C_alloc ?_ _) | (with_reducible refine Kd.C_drewN ?_ _) | (with_reducible refine Kd.C_drew ?_) | exact HR249_0.out)) | (with_reducible refine Kd.C_alloc ?_ _) | (with_reducible refine Kd.C_drewN ?_ _) | (with_reducible refine Kd.C_drew ?_))); (case side2 => exact HC249_0.out); (case side3 => repeat (first | exact (by repeat (first | (with_reducible exact HR238_0.out) | (with_reducible refine Kd.C_alloc ?_ _) | (with_reducible refine Kd.C_drewN ?_ _) | (with_reducible refine Kd.C_drew ?_) | exact HR238_0.out)) | (with_reducible refine Kd.C_alloc ?_ _) | (with_reducible refine Kd.C_drewN ?_ _) | (with_reducible refine Kd.C_drew ?_))); (case side4 => exact HC238_0.out); rintro e w' ⟨rfl, ⟨nd, rfl⟩⟩))
                                      go_roundg k3
                                      case measure => have := HJ6.out; have := HJ34.out; have := HK3.out; omega
                                      case rel => exact ⟨(wrap64 (x94_3 + 1)), (by first | rfl | (simp; done) | (simp [*]; done)), H', ⟨by have := HJ6.out; have := HJ34.out; have := HK3.out; omega⟩, ⟨by (with_reducible repeat (first | apply Kd.N_alloc | apply Kd.N_drewN | apply Kd.N_drew)); exact Kd.N_mono HO_92.out (fun _ hk => trivial)⟩, ⟨by repeat (first | (with_reducible first | exact HB.out | apply below_alloc | apply pw_below_drewN | apply below_drew1) | exact HB.out)⟩⟩
                                    · replace c67 := Bool.eq_false_iff.mpr c67
                                      subst c67
                                      have H1 : (some false) = some r := by rw [if_neg (show ¬ (false = true) by decide)] at H; exact H
                                      clear H
                                      have H := H1
                                      clear H1
                                      obtain rfl := Option.some.inj H
                                      have p238 : 0 ≤ (x94_3 : Int) := of_decide_eq_true (by first | (with_reducible assumption) | assumption)
                                      have q238 : x94_3 < (t210.length : Int) := of_decide_eq_true (by first | (with_reducible assumption) | assumption)
                                      obtain ⟨ad238, A238_0, c238_0, e238, hx238_0, hl238_0, hi238_0⟩ := at_L4 (Kd.N_reads' HO_92.out).2.2 x94_3 p238 q238
                                      cases e238
                                      obtain ⟨ce238, hce238, hMe238, hcc238⟩ := Kd.N_get HO_92.out [] x94_3 p238 (by first | exact q238 | exact of_decide_eq_true (by first | (with_reducible assumption) | assumption) | (have e_ := (Kd.N_reads' HO_92.out).1; omega))
                                      obtain ⟨ua238_0, uc238_0, rfl, ul238_0, ge238_0⟩ := Kd.FK_slice_open hMe238
                                      have hv238_0 := hcc238 0 _ rfl
                                      rw [Nat.add_zero, show ((Kd.slice 32 k32)).sz = 1 from rfl, Nat.mul_one] at hv238_0
                                      replace hv238_0 := Option.some.inj (hv238_0.symm.trans hx238_0)
                                      injection hv238_0 with hva_ hvn_ hvc_
                                      rw [hva_] at ge238_0
                                      rw [hvc_] at ul238_0
                                      have HL238_0 := Aside0.mk (show Kd.V k32 32 _ w.heap.size _ _ (rd_L4 t210 x94_3) from Kd.V_mk ul238_0 ge238_0)
                                      clear hva_ hvn_ hvc_ ge238_0 ul238_0
                                      clear hcc238 hce238
                                      have HR238_0 := Aside0.mk hi238_0
                                      have HC238_0 := Aside0.mk hl238_0
                                      clear hi238_0 hl238_0
                                      replace p238 := eq_true p238
                                      replace q238 := eq_true q238
                                      go_wp2_with (first | ((with_reducible refine gate_dst (N := 100) rfl ?_); (try (refine gate_guard (by rfl) ?_; dsimp only)); refine Kd.N_lit (Kd.slice 32 k32) _ 29 ?hg (N' := 100) ?hd (xs := ([rd_L4 t210 x94_3] : List (List (S32)))) (inner := [.slice A238_0 (rd_L4 t210 x94_3).length c238_0]) (ok := (fun k_ => some k_ ≠ (.slice (some ad238) t210.length co10 : Value).ownBlock)) (okp := (fun k_ => some k_ ≠ (.slice (some ad238) t210.length co10 : Value).ownBlock)) ?hr ?hp (fun _ hk => hk) ((show ∀ k_, wr.heap.size ≤ k_ → (fun k_ => some k_ ≠ (.slice (some ad238) t210.length co10 : Value).ownBlock) k_ from fun k_ hk => Kd.fresh' (Kd.N_lt (by (with_reducible repeat (first | apply Kd.N_alloc | apply Kd.N_drewN | apply Kd.N_drew)); exact HO_92.out)) k_ hk) _ (Nat.le_refl _)) (Below.refl _ _) (Nat.le_refl _) (by simp) ?_; (case hd => rfl); (case hg => rfl); (case hr => first | (go_simp; done) | (go_simp; rfl)); (case hp => exact (Reps.one (show Kd.FK (Kd.slice 32 k32) _ _ (rd_L4 t210 x94_3) [.slice A238_0 (rd_L4 t210 x94_3).length c238_0] from (Kd.FK_slice_mk (Kd.V_reads' (Kd.V_mono (ok' := (fun k_ => some k_ ≠ (.slice (some ad238) t210.length co10 : Value).ownBlock)) (HL238_0.out) (fun k_ hk => hk.2))).2.1 (Kd.V_F (Kd.V_mono (ok' := (fun k_ => some k_ ≠ (.slice (some ad238) t210.length co10 : Value).ownBlock)) (HL238_0.out) (fun k_ hk => hk.2))))) (Reps.none _ _))); intro v240 w74 ho75 hb hg_ hnew_; clear hg_ hnew_; (first | rw [← Ny239.out] at ho75 | (simp only [Int.reduceToNat] at ho75; rw [← Ny239.out] at ho75)); have n0_ := Aside0.mk (Kd.N_elder' (by (with_reducible repeat (first | apply Kd.N_alloc | apply Kd.N_drewN | apply Kd.N_drew)); exact HO_92.out) (Kd.N_base ho75) hb); have n1_ := Aside0.mk (Kd.V_elder' (by (with_reducible repeat (first | apply Kd.V_alloc | apply Kd.V_drewN | apply Kd.V_drew)); exact HL238_0.out) (Kd.N_base ho75) hb); have n2_ := Aside0.mk (Kd.N_lower ho75 (below_size (by repeat (first | (with_reducible first | exact HB.out | apply below_alloc | apply pw_below_drewN | apply below_drew1) | exact HB.out)))); have n3_ := Aside0.mk (Kd.C_below (by repeat (first | (with_reducible exact HR238_0.out) | (with_reducible refine Kd.C_alloc ?_ _) | (with_reducible refine Kd.C_drewN ?_ _) | (with_reducible refine Kd.C_drew ?_) | exact HR238_0.out)) hb); have n4_ := Aside0.mk (below_step (by repeat (first | (with_reducible first | exact HB.out | apply below_alloc | apply pw_below_drewN | apply below_drew1) | exact HB.out)) hb); clear HO_92; clear HL238_0; clear HR238_0; clear HB; have HO_92 := n0_; have HL238_0 := n1_; have HO241 := n2_; have HR238_0 := n3_; have HB := n4_; clear n0_ n1_ n2_ n3_ n4_; clear hb ho75; obtain ⟨Ao76, co76, eo76⟩ := Kd.N_slice HO241.out; subst eo76) | ((with_reducible refine gate_callee (f := 14) rfl ?_); refine goesL_ (some 101) rfl rfl Tryd.func14 (by kernel_rfl) rfl #[.slice Ao76 y239.length co76] rfl (by (try simp only [List.map_toArray, List.map_cons, List.map_nil]); first | done | rfl | (simp only [List.length_drop, List.length_take]; rfl)) ?_; (with_reducible refine (prog_Print.calls _ _ y239 t242 t243 _ ?side1 ?side2 A60.out (by first | exact HT.out | (with_reducible refine Laid.below HT.out ?_; repeat (first | (with_reducible first | exact HB.out | apply below_alloc | apply pw_below_drewN | apply below_drew1 | refine below_set ?_ (Aside0.out (by assumption))) | exact HB.out)) | (exact Laid.below HT.out (by repeat (first | exact HB.out | exact Below.refl _ _ | apply below_alloc | apply pw_below_drewN | apply below_drew1 | refine below_set ?_ (Aside0.out (by assumption))))))).mono ?_); (case side1 => repeat (first | exact (Kd.N_reads' HO241.out).2.2 | (with_reducible refine Kd.C_alloc ?_ _) | (with_reducible refine Kd.C_drewN ?_ _) | (with_reducible refine Kd.C_drew ?_))); (case side2 => exact (Kd.N_reads' HO241.out).2.1); rintro e w77 ⟨rfl, hb⟩; refine ⟨_, rfl, ?_⟩; have n0_ := Aside0.mk (Kd.N_below (by (with_reducible repeat (first | apply Kd.N_alloc | apply Kd.N_drewN | apply Kd.N_drew)); exact HO_92.out) hb); have n1_ := Aside0.mk (Kd.V_below (by (with_reducible repeat (first | apply Kd.V_alloc | apply Kd.V_drewN | apply Kd.V_drew)); exact HL238_0.out) hb); have n2_ := Aside0.mk (Kd.N_below (by (with_reducible repeat (first | apply Kd.N_alloc | apply Kd.N_drewN | apply Kd.N_drew)); exact HO241.out) hb); have n3_ := Aside0.mk (Kd.C_below (by repeat (first | (with_reducible exact HR238_0.out) | (with_reducible refine Kd.C_alloc ?_ _) | (with_reducible refine Kd.C_drewN ?_ _) | (with_reducible refine Kd.C_drew ?_) | exact HR238_0.out)) hb); have n4_ := Aside0.mk (below_step (by repeat (first | (with_reducible first | exact HB.out | apply below_alloc | apply pw_below_drewN | apply below_drew1) | exact HB.out)) hb); clear HO_92; clear HL238_0; clear HO241; clear HR238_0; clear HB; have HO_92 := n0_; have HL238_0 := n1_; have HO241 := n2_; have HR238_0 := n3_; have HB := n4_; clear n0_ n1_ n2_ n3_ n4_; (try clear hb); (try clear hb2); (try clear hk); (try clear hi)) | ((with_reducible refine gate_callee (f := 8) rfl ?_); refine goesL_ (some 106) rfl rfl Tryd.func8 (by kernel_rfl) rfl #[.string t242] rfl (by (try simp only [List.map_toArray, List.map_cons, List.map_nil]); first | done | rfl | (simp only [List.length_drop, List.length_take]; rfl)) ?_; (with_reducible refine (prog_Parse.calls k3 t242 t244 t245 t246 _ A61.out (by first | exact HT.out | (with_reducible refine Laid.below HT.out ?_; repeat (first | (with_reducible first | exact HB.out | apply below_alloc | apply pw_below_drewN | apply below_drew1 | refine below_set ?_ (Aside0.out (by assumption))) | exact HB.out)) | (exact Laid.below HT.out (by repeat (first | exact HB.out | exact Below.refl _ _ | apply below_alloc | apply pw_below_drewN | apply below_drew1 | refine below_set ?_ (Aside0.out (by assumption))))))).mono ?_); rintro e w78 ⟨v247, rfl, ho0, hb⟩; refine ⟨_, rfl, ?_⟩; have n0_ := Aside0.mk (Kd.N_elder' (by (with_reducible repeat (first | apply Kd.N_alloc | apply Kd.N_drewN | apply Kd.N_drew)); exact HO_92.out) (Kd.N_base (Kd.S_N ho0)) hb); have n1_ := Aside0.mk (Kd.V_elder' (by (with_reducible repeat (first | apply Kd.V_alloc | apply Kd.V_drewN | apply Kd.V_drew)); exact HL238_0.out) (Kd.N_base (Kd.S_N ho0)) hb); have n2_ := Aside0.mk (Kd.N_elder' (by (with_reducible repeat (first | apply Kd.N_alloc | apply Kd.N_drewN | apply Kd.N_drew)); exact HO241.out) (Kd.N_base (Kd.S_N ho0)) hb); have n3_ := Aside0.mk (Kd.N_lower (Kd.N_mono (ok' := fun k_ => some k_ ≠ (.slice (some ad238) t210.length co10 : Value).ownBlock ∧ some k_ ≠ (.slice Ao76 y239.length co76 : Value).ownBlock) (Kd.S_N (Kd.S_bound ho0)) (fun k_ hk_ => ⟨(Kd.fresh' (Kd.N_lt (by (with_reducible repeat (first | apply Kd.N_alloc | apply Kd.N_drewN | apply Kd.N_drew)); exact HO_92.out)) k_ hk_.2.1), (Kd.fresh' (Kd.N_lt (by (with_reducible repeat (first | apply Kd.N_alloc | apply Kd.N_drewN | apply Kd.N_drew)); exact HO241.out)) k_ hk_.2.1)⟩)) (below_size (by repeat (first | (with_reducible first | exact HB.out | apply below_alloc | apply pw_below_drewN | apply below_drew1) | exact HB.out)))); have n4_ := Aside0.mk (Kd.C_below (by repeat (first | (with_reducible exact HR238_0.out) | (with_reducible refine Kd.C_alloc ?_ _) | (with_reducible refine Kd.C_drewN ?_ _) | (with_reducible refine Kd.C_drew ?_) | exact HR238_0.out)) hb); have n5_ := Aside0.mk (below_step (by repeat (first | (with_reducible first | exact HB.out | apply below_alloc | apply pw_below_drewN | apply below_drew1) | exact HB.out)) hb); clear HO_92; clear HL238_0; clear HO241; clear HR238_0; clear HB; have HO_92 := n0_; have HL238_0 := n1_; have HO241 := n2_; have HO248 := n3_; have HR238_0 := n4_; have HB := n5_; clear n0_ n1_ n2_ n3_ n4_ n5_; (try clear hb); (try clear hb2); (try clear hk); (try clear hi); (try clear ho0); obtain ⟨Ao79, co79, eo79⟩ := Kd.N_slice HO248.out; subst eo79; have p249 : 0 ≤ (0 : Int) := (by omega); have q249 : 0 < (t244.length : Int) := of_decide_eq_true (by first | (with_reducible assumption) | assumption); obtain ⟨ad249, A249_0, c249_0, e249, hx249_0, hl249_0, hi249_0⟩ := at_L4 (Kd.N_reads' HO248.out).2.2 0 p249 q249; cases e249; obtain ⟨ce249, hce249, hMe249, hcc249⟩ := Kd.N_get HO248.out [] 0 p249 (by first | exact q249 | exact of_decide_eq_true (by first | (with_reducible assumption) | assumption) | (have e_ := (Kd.N_reads' HO248.out).1; omega)); obtain ⟨ua249_0, uc249_0, rfl, ul249_0, ge249_0⟩ := Kd.FK_slice_open hMe249; have hv249_0 := hcc249 0 _ rfl; rw [Nat.add_zero, show ((Kd.slice 32 k32)).sz = 1 from rfl, Nat.mul_one] at hv249_0; replace hv249_0 := Option.some.inj (hv249_0.symm.trans hx249_0); injection hv249_0 with hva_ hvn_ hvc_; rw [hva_] at ge249_0; rw [hvc_] at ul249_0; have HL249_0 := Aside0.mk (show Kd.V k32 32 _ w.heap.size _ _ (rd_L4 t244 0) from Kd.V_mk ul249_0 ge249_0); clear hva_ hvn_ hvc_ ge249_0 ul249_0; clear hcc249 hce249; have qi249 : (0 < t244.length) = True := eq_true (by omega); (try rw [show ((0 : Int)).toNat = 0 from rfl] at hx249_0); (try rw [Addr.add_zero'] at hx249_0); have HR249_0 := Aside0.mk hi249_0; have HC249_0 := Aside0.mk hl249_0; clear hi249_0 hl249_0; replace p249 := eq_true p249; replace q249 := eq_true q249) | (go_at_call 19; (with_reducible refine (deadboltref12_Acts.calls k3 _ _ (rd_L4 t244 0) _ _ (rd_L4 t210 x94_3) false _ ?side1 ?side2 ?side3 ?side4 A66.out).mono ?_); (case side1 => repeat (first | exact (by repeat (first | (with_reducible exact HR249_0.out) | (with_reducible refine Kd.C_alloc ?_ _) | (with_reducible refine Kd.C_drewN ?_ _) | (with_reducible refine Kd.C_drew ?_) | exact HR249_0.out)) | (with_reducible refine Kd.C_alloc ?_ _) | (with_reducible refine Kd.C_drewN ?_ _) | (with_reducible refine Kd.C_drew ?_))); (case side2 => exact HC249_0.out); (case side3 => repeat (first | exact (by repeat (first | (with_reducible exact HR238_0.out) | (with_reducible refine Kd.C_alloc ?_ _) | (with_reducible refine Kd.C_drewN ?_ _) | (with_reducible refine Kd.C_drew ?_) | exact HR238_0.out)) | (with_reducible refine Kd.C_alloc ?_ _) | (with_reducible refine Kd.C_drewN ?_ _) | (with_reducible refine Kd.C_drew ?_))); (case side4 => exact HC238_0.out); rintro e w' ⟨rfl, ⟨nd, rfl⟩⟩))
                                      go_ret
                                      exact ⟨by first | rfl | (simp [errW_none, errW_some] <;> rfl) | (simp [*, errW_none, errW_some] <;> rfl), by repeat (first | (with_reducible first | exact HB.out | apply below_alloc | apply pw_below_drewN | apply below_drew1) | exact HB.out)⟩
                                  · rw [if_neg c65] at H
                                    exact absurd H (by simp)
                                · rw [if_neg c64] at H
                                  have c64b0 : ((t244.length : Int) == 1) = false := beq_eq_false_iff_ne.mpr c64
                                  have c64b1 : ((t244.length : Int) != 1) = true := bne_iff_ne.mpr c64
                                  obtain rfl := Option.some.inj H
                                  have p238 : 0 ≤ (x94_3 : Int) := of_decide_eq_true (by first | (with_reducible assumption) | assumption)
                                  have q238 : x94_3 < (t210.length : Int) := of_decide_eq_true (by first | (with_reducible assumption) | assumption)
                                  obtain ⟨ad238, A238_0, c238_0, e238, hx238_0, hl238_0, hi238_0⟩ := at_L4 (Kd.N_reads' HO_92.out).2.2 x94_3 p238 q238
                                  cases e238
                                  obtain ⟨ce238, hce238, hMe238, hcc238⟩ := Kd.N_get HO_92.out [] x94_3 p238 (by first | exact q238 | exact of_decide_eq_true (by first | (with_reducible assumption) | assumption) | (have e_ := (Kd.N_reads' HO_92.out).1; omega))
                                  obtain ⟨ua238_0, uc238_0, rfl, ul238_0, ge238_0⟩ := Kd.FK_slice_open hMe238
                                  have hv238_0 := hcc238 0 _ rfl
                                  rw [Nat.add_zero, show ((Kd.slice 32 k32)).sz = 1 from rfl, Nat.mul_one] at hv238_0
                                  replace hv238_0 := Option.some.inj (hv238_0.symm.trans hx238_0)
                                  injection hv238_0 with hva_ hvn_ hvc_
                                  rw [hva_] at ge238_0
                                  rw [hvc_] at ul238_0
                                  have HL238_0 := Aside0.mk (show Kd.V k32 32 _ w.heap.size _ _ (rd_L4 t210 x94_3) from Kd.V_mk ul238_0 ge238_0)
                                  clear hva_ hvn_ hvc_ ge238_0 ul238_0
                                  clear hcc238 hce238
                                  have HR238_0 := Aside0.mk hi238_0
                                  have HC238_0 := Aside0.mk hl238_0
                                  clear hi238_0 hl238_0
                                  replace p238 := eq_true p238
                                  replace q238 := eq_true q238
                                  go_wp2_with (first | ((with_reducible refine gate_dst (N := 100) rfl ?_); (try (refine gate_guard (by rfl) ?_; dsimp only)); refine Kd.N_lit (Kd.slice 32 k32) _ 29 ?hg (N' := 100) ?hd (xs := ([rd_L4 t210 x94_3] : List (List (S32)))) (inner := [.slice A238_0 (rd_L4 t210 x94_3).length c238_0]) (ok := (fun k_ => some k_ ≠ (.slice (some ad238) t210.length co10 : Value).ownBlock)) (okp := (fun k_ => some k_ ≠ (.slice (some ad238) t210.length co10 : Value).ownBlock)) ?hr ?hp (fun _ hk => hk) ((show ∀ k_, wr.heap.size ≤ k_ → (fun k_ => some k_ ≠ (.slice (some ad238) t210.length co10 : Value).ownBlock) k_ from fun k_ hk => Kd.fresh' (Kd.N_lt (by (with_reducible repeat (first | apply Kd.N_alloc | apply Kd.N_drewN | apply Kd.N_drew)); exact HO_92.out)) k_ hk) _ (Nat.le_refl _)) (Below.refl _ _) (Nat.le_refl _) (by simp) ?_; (case hd => rfl); (case hg => rfl); (case hr => first | (go_simp; done) | (go_simp; rfl)); (case hp => exact (Reps.one (show Kd.FK (Kd.slice 32 k32) _ _ (rd_L4 t210 x94_3) [.slice A238_0 (rd_L4 t210 x94_3).length c238_0] from (Kd.FK_slice_mk (Kd.V_reads' (Kd.V_mono (ok' := (fun k_ => some k_ ≠ (.slice (some ad238) t210.length co10 : Value).ownBlock)) (HL238_0.out) (fun k_ hk => hk.2))).2.1 (Kd.V_F (Kd.V_mono (ok' := (fun k_ => some k_ ≠ (.slice (some ad238) t210.length co10 : Value).ownBlock)) (HL238_0.out) (fun k_ hk => hk.2))))) (Reps.none _ _))); intro v240 w80 ho81 hb hg_ hnew_; clear hg_ hnew_; (first | rw [← Ny239.out] at ho81 | (simp only [Int.reduceToNat] at ho81; rw [← Ny239.out] at ho81)); have n0_ := Aside0.mk (Kd.N_elder' (by (with_reducible repeat (first | apply Kd.N_alloc | apply Kd.N_drewN | apply Kd.N_drew)); exact HO_92.out) (Kd.N_base ho81) hb); have n1_ := Aside0.mk (Kd.V_elder' (by (with_reducible repeat (first | apply Kd.V_alloc | apply Kd.V_drewN | apply Kd.V_drew)); exact HL238_0.out) (Kd.N_base ho81) hb); have n2_ := Aside0.mk (Kd.N_lower ho81 (below_size (by repeat (first | (with_reducible first | exact HB.out | apply below_alloc | apply pw_below_drewN | apply below_drew1) | exact HB.out)))); have n3_ := Aside0.mk (Kd.C_below (by repeat (first | (with_reducible exact HR238_0.out) | (with_reducible refine Kd.C_alloc ?_ _) | (with_reducible refine Kd.C_drewN ?_ _) | (with_reducible refine Kd.C_drew ?_) | exact HR238_0.out)) hb); have n4_ := Aside0.mk (below_step (by repeat (first | (with_reducible first | exact HB.out | apply below_alloc | apply pw_below_drewN | apply below_drew1) | exact HB.out)) hb); clear HO_92; clear HL238_0; clear HR238_0; clear HB; have HO_92 := n0_; have HL238_0 := n1_; have HO241 := n2_; have HR238_0 := n3_; have HB := n4_; clear n0_ n1_ n2_ n3_ n4_; clear hb ho81; obtain ⟨Ao82, co82, eo82⟩ := Kd.N_slice HO241.out; subst eo82) | ((with_reducible refine gate_callee (f := 14) rfl ?_); refine goesL_ (some 101) rfl rfl Tryd.func14 (by kernel_rfl) rfl #[.slice Ao82 y239.length co82] rfl (by (try simp only [List.map_toArray, List.map_cons, List.map_nil]); first | done | rfl | (simp only [List.length_drop, List.length_take]; rfl)) ?_; (with_reducible refine (prog_Print.calls _ _ y239 t242 t243 _ ?side1 ?side2 A60.out (by first | exact HT.out | (with_reducible refine Laid.below HT.out ?_; repeat (first | (with_reducible first | exact HB.out | apply below_alloc | apply pw_below_drewN | apply below_drew1 | refine below_set ?_ (Aside0.out (by assumption))) | exact HB.out)) | (exact Laid.below HT.out (by repeat (first | exact HB.out | exact Below.refl _ _ | apply below_alloc | apply pw_below_drewN | apply below_drew1 | refine below_set ?_ (Aside0.out (by assumption))))))).mono ?_); (case side1 => repeat (first | exact (Kd.N_reads' HO241.out).2.2 | (with_reducible refine Kd.C_alloc ?_ _) | (with_reducible refine Kd.C_drewN ?_ _) | (with_reducible refine Kd.C_drew ?_))); (case side2 => exact (Kd.N_reads' HO241.out).2.1); rintro e w83 ⟨rfl, hb⟩; refine ⟨_, rfl, ?_⟩; have n0_ := Aside0.mk (Kd.N_below (by (with_reducible repeat (first | apply Kd.N_alloc | apply Kd.N_drewN | apply Kd.N_drew)); exact HO_92.out) hb); have n1_ := Aside0.mk (Kd.V_below (by (with_reducible repeat (first | apply Kd.V_alloc | apply Kd.V_drewN | apply Kd.V_drew)); exact HL238_0.out) hb); have n2_ := Aside0.mk (Kd.N_below (by (with_reducible repeat (first | apply Kd.N_alloc | apply Kd.N_drewN | apply Kd.N_drew)); exact HO241.out) hb); have n3_ := Aside0.mk (Kd.C_below (by repeat (first | (with_reducible exact HR238_0.out) | (with_reducible refine Kd.C_alloc ?_ _) | (with_reducible refine Kd.C_drewN ?_ _) | (with_reducible refine Kd.C_drew ?_) | exact HR238_0.out)) hb); have n4_ := Aside0.mk (below_step (by repeat (first | (with_reducible first | exact HB.out | apply below_alloc | apply pw_below_drewN | apply below_drew1) | exact HB.out)) hb); clear HO_92; clear HL238_0; clear HO241; clear HR238_0; clear HB; have HO_92 := n0_; have HL238_0 := n1_; have HO241 := n2_; have HR238_0 := n3_; have HB := n4_; clear n0_ n1_ n2_ n3_ n4_; (try clear hb); (try clear hb2); (try clear hk); (try clear hi)) | ((with_reducible refine gate_callee (f := 8) rfl ?_); refine goesL_ (some 106) rfl rfl Tryd.func8 (by kernel_rfl) rfl #[.string t242] rfl (by (try simp only [List.map_toArray, List.map_cons, List.map_nil]); first | done | rfl | (simp only [List.length_drop, List.length_take]; rfl)) ?_; (with_reducible refine (prog_Parse.calls k3 t242 t244 t245 t246 _ A61.out (by first | exact HT.out | (with_reducible refine Laid.below HT.out ?_; repeat (first | (with_reducible first | exact HB.out | apply below_alloc | apply pw_below_drewN | apply below_drew1 | refine below_set ?_ (Aside0.out (by assumption))) | exact HB.out)) | (exact Laid.below HT.out (by repeat (first | exact HB.out | exact Below.refl _ _ | apply below_alloc | apply pw_below_drewN | apply below_drew1 | refine below_set ?_ (Aside0.out (by assumption))))))).mono ?_); rintro e w84 ⟨v247, rfl, ho0, hb⟩; refine ⟨_, rfl, ?_⟩; have n0_ := Aside0.mk (Kd.N_elder' (by (with_reducible repeat (first | apply Kd.N_alloc | apply Kd.N_drewN | apply Kd.N_drew)); exact HO_92.out) (Kd.N_base (Kd.S_N ho0)) hb); have n1_ := Aside0.mk (Kd.V_elder' (by (with_reducible repeat (first | apply Kd.V_alloc | apply Kd.V_drewN | apply Kd.V_drew)); exact HL238_0.out) (Kd.N_base (Kd.S_N ho0)) hb); have n2_ := Aside0.mk (Kd.N_elder' (by (with_reducible repeat (first | apply Kd.N_alloc | apply Kd.N_drewN | apply Kd.N_drew)); exact HO241.out) (Kd.N_base (Kd.S_N ho0)) hb); have n3_ := Aside0.mk (Kd.N_lower (Kd.N_mono (ok' := fun k_ => some k_ ≠ (.slice (some ad238) t210.length co10 : Value).ownBlock ∧ some k_ ≠ (.slice Ao82 y239.length co82 : Value).ownBlock) (Kd.S_N (Kd.S_bound ho0)) (fun k_ hk_ => ⟨(Kd.fresh' (Kd.N_lt (by (with_reducible repeat (first | apply Kd.N_alloc | apply Kd.N_drewN | apply Kd.N_drew)); exact HO_92.out)) k_ hk_.2.1), (Kd.fresh' (Kd.N_lt (by (with_reducible repeat (first | apply Kd.N_alloc | apply Kd.N_drewN | apply Kd.N_drew)); exact HO241.out)) k_ hk_.2.1)⟩)) (below_size (by repeat (first | (with_reducible first | exact HB.out | apply below_alloc | apply pw_below_drewN | apply below_drew1) | exact HB.out)))); have n4_ := Aside0.mk (Kd.C_below (by repeat (first | (with_reducible exact HR238_0.out) | (with_reducible refine Kd.C_alloc ?_ _) | (with_reducible refine Kd.C_drewN ?_ _) | (with_reducible refine Kd.C_drew ?_) | exact HR238_0.out)) hb); have n5_ := Aside0.mk (below_step (by repeat (first | (with_reducible first | exact HB.out | apply below_alloc | apply pw_below_drewN | apply below_drew1) | exact HB.out)) hb); clear HO_92; clear HL238_0; clear HO241; clear HR238_0; clear HB; have HO_92 := n0_; have HL238_0 := n1_; have HO241 := n2_; have HO248 := n3_; have HR238_0 := n4_; have HB := n5_; clear n0_ n1_ n2_ n3_ n4_ n5_; (try clear hb); (try clear hb2); (try clear hk); (try clear hi); (try clear ho0); obtain ⟨Ao85, co85, eo85⟩ := Kd.N_slice HO248.out; subst eo85))
                                  go_ret
                                  exact ⟨by first | rfl | (simp [errW_none, errW_some] <;> rfl) | (simp [*, errW_none, errW_some] <;> rfl), by repeat (first | (with_reducible first | exact HB.out | apply below_alloc | apply pw_below_drewN | apply below_drew1) | exact HB.out)⟩
                              · rw [if_neg c63] at H
                                have c63b0 : (t246 == 0) = false := beq_eq_false_iff_ne.mpr c63
                                have c63b1 : (t246 != 0) = true := bne_iff_ne.mpr c63
                                obtain rfl := Option.some.inj H
                                have p238 : 0 ≤ (x94_3 : Int) := of_decide_eq_true (by first | (with_reducible assumption) | assumption)
                                have q238 : x94_3 < (t210.length : Int) := of_decide_eq_true (by first | (with_reducible assumption) | assumption)
                                obtain ⟨ad238, A238_0, c238_0, e238, hx238_0, hl238_0, hi238_0⟩ := at_L4 (Kd.N_reads' HO_92.out).2.2 x94_3 p238 q238
                                cases e238
                                obtain ⟨ce238, hce238, hMe238, hcc238⟩ := Kd.N_get HO_92.out [] x94_3 p238 (by first | exact q238 | exact of_decide_eq_true (by first | (with_reducible assumption) | assumption) | (have e_ := (Kd.N_reads' HO_92.out).1; omega))
                                obtain ⟨ua238_0, uc238_0, rfl, ul238_0, ge238_0⟩ := Kd.FK_slice_open hMe238
                                have hv238_0 := hcc238 0 _ rfl
                                rw [Nat.add_zero, show ((Kd.slice 32 k32)).sz = 1 from rfl, Nat.mul_one] at hv238_0
                                replace hv238_0 := Option.some.inj (hv238_0.symm.trans hx238_0)
                                injection hv238_0 with hva_ hvn_ hvc_
                                rw [hva_] at ge238_0
                                rw [hvc_] at ul238_0
                                have HL238_0 := Aside0.mk (show Kd.V k32 32 _ w.heap.size _ _ (rd_L4 t210 x94_3) from Kd.V_mk ul238_0 ge238_0)
                                clear hva_ hvn_ hvc_ ge238_0 ul238_0
                                clear hcc238 hce238
                                have HR238_0 := Aside0.mk hi238_0
                                have HC238_0 := Aside0.mk hl238_0
                                clear hi238_0 hl238_0
                                replace p238 := eq_true p238
                                replace q238 := eq_true q238
                                go_wp2_with (first | ((with_reducible refine gate_dst (N := 100) rfl ?_); (try (refine gate_guard (by rfl) ?_; dsimp only)); refine Kd.N_lit (Kd.slice 32 k32) _ 29 ?hg (N' := 100) ?hd (xs := ([rd_L4 t210 x94_3] : List (List (S32)))) (inner := [.slice A238_0 (rd_L4 t210 x94_3).length c238_0]) (ok := (fun k_ => some k_ ≠ (.slice (some ad238) t210.length co10 : Value).ownBlock)) (okp := (fun k_ => some k_ ≠ (.slice (some ad238) t210.length co10 : Value).ownBlock)) ?hr ?hp (fun _ hk => hk) ((show ∀ k_, wr.heap.size ≤ k_ → (fun k_ => some k_ ≠ (.slice (some ad238) t210.length co10 : Value).ownBlock) k_ from fun k_ hk => Kd.fresh' (Kd.N_lt (by (with_reducible repeat (first | apply Kd.N_alloc | apply Kd.N_drewN | apply Kd.N_drew)); exact HO_92.out)) k_ hk) _ (Nat.le_refl _)) (Below.refl _ _) (Nat.le_refl _) (by simp) ?_; (case hd => rfl); (case hg => rfl); (case hr => first | (go_simp; done) | (go_simp; rfl)); (case hp => exact (Reps.one (show Kd.FK (Kd.slice 32 k32) _ _ (rd_L4 t210 x94_3) [.slice A238_0 (rd_L4 t210 x94_3).length c238_0] from (Kd.FK_slice_mk (Kd.V_reads' (Kd.V_mono (ok' := (fun k_ => some k_ ≠ (.slice (some ad238) t210.length co10 : Value).ownBlock)) (HL238_0.out) (fun k_ hk => hk.2))).2.1 (Kd.V_F (Kd.V_mono (ok' := (fun k_ => some k_ ≠ (.slice (some ad238) t210.length co10 : Value).ownBlock)) (HL238_0.out) (fun k_ hk => hk.2))))) (Reps.none _ _))); intro v240 w86 ho87 hb hg_ hnew_; clear hg_ hnew_; (first | rw [← Ny239.out] at ho87 | (simp only [Int.reduceToNat] at ho87; rw [← Ny239.out] at ho87)); have n0_ := Aside0.mk (Kd.N_elder' (by (with_reducible repeat (first | apply Kd.N_alloc | apply Kd.N_drewN | apply Kd.N_drew)); exact HO_92.out) (Kd.N_base ho87) hb); have n1_ := Aside0.mk (Kd.V_elder' (by (with_reducible repeat (first | apply Kd.V_alloc | apply Kd.V_drewN | apply Kd.V_drew)); exact HL238_0.out) (Kd.N_base ho87) hb); have n2_ := Aside0.mk (Kd.N_lower ho87 (below_size (by repeat (first | (with_reducible first | exact HB.out | apply below_alloc | apply pw_below_drewN | apply below_drew1) | exact HB.out)))); have n3_ := Aside0.mk (Kd.C_below (by repeat (first | (with_reducible exact HR238_0.out) | (with_reducible refine Kd.C_alloc ?_ _) | (with_reducible refine Kd.C_drewN ?_ _) | (with_reducible refine Kd.C_drew ?_) | exact HR238_0.out)) hb); have n4_ := Aside0.mk (below_step (by repeat (first | (with_reducible first | exact HB.out | apply below_alloc | apply pw_below_drewN | apply below_drew1) | exact HB.out)) hb); clear HO_92; clear HL238_0; clear HR238_0; clear HB; have HO_92 := n0_; have HL238_0 := n1_; have HO241 := n2_; have HR238_0 := n3_; have HB := n4_; clear n0_ n1_ n2_ n3_ n4_; clear hb ho87; obtain ⟨Ao88, co88, eo88⟩ := Kd.N_slice HO241.out; subst eo88) | ((with_reducible refine gate_callee (f := 14) rfl ?_); refine goesL_ (some 101) rfl rfl Tryd.func14 (by kernel_rfl) rfl #[.slice Ao88 y239.length co88] rfl (by (try simp only [List.map_toArray, List.map_cons, List.map_nil]); first | done | rfl | (simp only [List.length_drop, List.length_take]; rfl)) ?_; (with_reducible refine (prog_Print.calls _ _ y239 t242 t243 _ ?side1 ?side2 A60.out (by first | exact HT.out | (with_reducible refine Laid.below HT.out ?_; repeat (first | (with_reducible first | exact HB.out | apply below_alloc | apply pw_below_drewN | apply below_drew1 | refine below_set ?_ (Aside0.out (by assumption))) | exact HB.out)) | (exact Laid.below HT.out (by repeat (first | exact HB.out | exact Below.refl _ _ | apply below_alloc | apply pw_below_drewN | apply below_drew1 | refine below_set ?_ (Aside0.out (by assumption))))))).mono ?_); (case side1 => repeat (first | exact (Kd.N_reads' HO241.out).2.2 | (with_reducible refine Kd.C_alloc ?_ _) | (with_reducible refine Kd.C_drewN ?_ _) | (with_reducible refine Kd.C_drew ?_))); (case side2 => exact (Kd.N_reads' HO241.out).2.1); rintro e w89 ⟨rfl, hb⟩; refine ⟨_, rfl, ?_⟩; have n0_ := Aside0.mk (Kd.N_below (by (with_reducible repeat (first | apply Kd.N_alloc | apply Kd.N_drewN | apply Kd.N_drew)); exact HO_92.out) hb); have n1_ := Aside0.mk (Kd.V_below (by (with_reducible repeat (first | apply Kd.V_alloc | apply Kd.V_drewN | apply Kd.V_drew)); exact HL238_0.out) hb); have n2_ := Aside0.mk (Kd.N_below (by (with_reducible repeat (first | apply Kd.N_alloc | apply Kd.N_drewN | apply Kd.N_drew)); exact HO241.out) hb); have n3_ := Aside0.mk (Kd.C_below (by repeat (first | (with_reducible exact HR238_0.out) | (with_reducible refine Kd.C_alloc ?_ _) | (with_reducible refine Kd.C_drewN ?_ _) | (with_reducible refine Kd.C_drew ?_) | exact HR238_0.out)) hb); have n4_ := Aside0.mk (below_step (by repeat (first | (with_reducible first | exact HB.out | apply below_alloc | apply pw_below_drewN | apply below_drew1) | exact HB.out)) hb); clear HO_92; clear HL238_0; clear HO241; clear HR238_0; clear HB; have HO_92 := n0_; have HL238_0 := n1_; have HO241 := n2_; have HR238_0 := n3_; have HB := n4_; clear n0_ n1_ n2_ n3_ n4_; (try clear hb); (try clear hb2); (try clear hk); (try clear hi)) | ((with_reducible refine gate_callee (f := 8) rfl ?_); refine goesL_ (some 106) rfl rfl Tryd.func8 (by kernel_rfl) rfl #[.string t242] rfl (by (try simp only [List.map_toArray, List.map_cons, List.map_nil]); first | done | rfl | (simp only [List.length_drop, List.length_take]; rfl)) ?_; (with_reducible refine (prog_Parse.calls k3 t242 t244 t245 t246 _ A61.out (by first | exact HT.out | (with_reducible refine Laid.below HT.out ?_; repeat (first | (with_reducible first | exact HB.out | apply below_alloc | apply pw_below_drewN | apply below_drew1 | refine below_set ?_ (Aside0.out (by assumption))) | exact HB.out)) | (exact Laid.below HT.out (by repeat (first | exact HB.out | exact Below.refl _ _ | apply below_alloc | apply pw_below_drewN | apply below_drew1 | refine below_set ?_ (Aside0.out (by assumption))))))).mono ?_); rintro e w90 ⟨v247, rfl, ho0, hb⟩; refine ⟨_, rfl, ?_⟩; have n0_ := Aside0.mk (Kd.N_elder' (by (with_reducible repeat (first | apply Kd.N_alloc | apply Kd.N_drewN | apply Kd.N_drew)); exact HO_92.out) (Kd.N_base (Kd.S_N ho0)) hb); have n1_ := Aside0.mk (Kd.V_elder' (by (with_reducible repeat (first | apply Kd.V_alloc | apply Kd.V_drewN | apply Kd.V_drew)); exact HL238_0.out) (Kd.N_base (Kd.S_N ho0)) hb); have n2_ := Aside0.mk (Kd.N_elder' (by (with_reducible repeat (first | apply Kd.N_alloc | apply Kd.N_drewN | apply Kd.N_drew)); exact HO241.out) (Kd.N_base (Kd.S_N ho0)) hb); have n3_ := Aside0.mk (Kd.N_lower (Kd.N_mono (ok' := fun k_ => some k_ ≠ (.slice (some ad238) t210.length co10 : Value).ownBlock ∧ some k_ ≠ (.slice Ao88 y239.length co88 : Value).ownBlock) (Kd.S_N (Kd.S_bound ho0)) (fun k_ hk_ => ⟨(Kd.fresh' (Kd.N_lt (by (with_reducible repeat (first | apply Kd.N_alloc | apply Kd.N_drewN | apply Kd.N_drew)); exact HO_92.out)) k_ hk_.2.1), (Kd.fresh' (Kd.N_lt (by (with_reducible repeat (first | apply Kd.N_alloc | apply Kd.N_drewN | apply Kd.N_drew)); exact HO241.out)) k_ hk_.2.1)⟩)) (below_size (by repeat (first | (with_reducible first | exact HB.out | apply below_alloc | apply pw_below_drewN | apply below_drew1) | exact HB.out)))); have n4_ := Aside0.mk (Kd.C_below (by repeat (first | (with_reducible exact HR238_0.out) | (with_reducible refine Kd.C_alloc ?_ _) | (with_reducible refine Kd.C_drewN ?_ _) | (with_reducible refine Kd.C_drew ?_) | exact HR238_0.out)) hb); have n5_ := Aside0.mk (below_step (by repeat (first | (with_reducible first | exact HB.out | apply below_alloc | apply pw_below_drewN | apply below_drew1) | exact HB.out)) hb); clear HO_92; clear HL238_0; clear HO241; clear HR238_0; clear HB; have HO_92 := n0_; have HL238_0 := n1_; have HO241 := n2_; have HO248 := n3_; have HR238_0 := n4_; have HB := n5_; clear n0_ n1_ n2_ n3_ n4_ n5_; (try clear hb); (try clear hb2); (try clear hk); (try clear hi); (try clear ho0)))
                                go_ret
                                exact ⟨by first | rfl | (simp [errW_none, errW_some] <;> rfl) | (simp [*, errW_none, errW_some] <;> rfl), by repeat (first | (with_reducible first | exact HB.out | apply below_alloc | apply pw_below_drewN | apply below_drew1) | exact HB.out)⟩
                            · rw [if_neg c62] at H
                              have c62b0 : (t243 == 0) = false := beq_eq_false_iff_ne.mpr c62
                              have c62b1 : (t243 != 0) = true := bne_iff_ne.mpr c62
                              obtain rfl := Option.some.inj H
                              have p238 : 0 ≤ (x94_3 : Int) := of_decide_eq_true (by first | (with_reducible assumption) | assumption)
                              have q238 : x94_3 < (t210.length : Int) := of_decide_eq_true (by first | (with_reducible assumption) | assumption)
                              obtain ⟨ad238, A238_0, c238_0, e238, hx238_0, hl238_0, hi238_0⟩ := at_L4 (Kd.N_reads' HO_92.out).2.2 x94_3 p238 q238
                              cases e238
                              obtain ⟨ce238, hce238, hMe238, hcc238⟩ := Kd.N_get HO_92.out [] x94_3 p238 (by first | exact q238 | exact of_decide_eq_true (by first | (with_reducible assumption) | assumption) | (have e_ := (Kd.N_reads' HO_92.out).1; omega))
                              obtain ⟨ua238_0, uc238_0, rfl, ul238_0, ge238_0⟩ := Kd.FK_slice_open hMe238
                              have hv238_0 := hcc238 0 _ rfl
                              rw [Nat.add_zero, show ((Kd.slice 32 k32)).sz = 1 from rfl, Nat.mul_one] at hv238_0
                              replace hv238_0 := Option.some.inj (hv238_0.symm.trans hx238_0)
                              injection hv238_0 with hva_ hvn_ hvc_
                              rw [hva_] at ge238_0
                              rw [hvc_] at ul238_0
                              have HL238_0 := Aside0.mk (show Kd.V k32 32 _ w.heap.size _ _ (rd_L4 t210 x94_3) from Kd.V_mk ul238_0 ge238_0)
                              clear hva_ hvn_ hvc_ ge238_0 ul238_0
                              clear hcc238 hce238
                              have HR238_0 := Aside0.mk hi238_0
                              have HC238_0 := Aside0.mk hl238_0
                              clear hi238_0 hl238_0
                              replace p238 := eq_true p238
                              replace q238 := eq_true q238
                              go_wp2_with (first | ((with_reducible refine gate_dst (N := 100) rfl ?_); (try (refine gate_guard (by rfl) ?_; dsimp only)); refine Kd.N_lit (Kd.slice 32 k32) _ 29 ?hg (N' := 100) ?hd (xs := ([rd_L4 t210 x94_3] : List (List (S32)))) (inner := [.slice A238_0 (rd_L4 t210 x94_3).length c238_0]) (ok := (fun k_ => some k_ ≠ (.slice (some ad238) t210.length co10 : Value).ownBlock)) (okp := (fun k_ => some k_ ≠ (.slice (some ad238) t210.length co10 : Value).ownBlock)) ?hr ?hp (fun _ hk => hk) ((show ∀ k_, wr.heap.size ≤ k_ → (fun k_ => some k_ ≠ (.slice (some ad238) t210.length co10 : Value).ownBlock) k_ from fun k_ hk => Kd.fresh' (Kd.N_lt (by (with_reducible repeat (first | apply Kd.N_alloc | apply Kd.N_drewN | apply Kd.N_drew)); exact HO_92.out)) k_ hk) _ (Nat.le_refl _)) (Below.refl _ _) (Nat.le_refl _) (by simp) ?_; (case hd => rfl); (case hg => rfl); (case hr => first | (go_simp; done) | (go_simp; rfl)); (case hp => exact (Reps.one (show Kd.FK (Kd.slice 32 k32) _ _ (rd_L4 t210 x94_3) [.slice A238_0 (rd_L4 t210 x94_3).length c238_0] from (Kd.FK_slice_mk (Kd.V_reads' (Kd.V_mono (ok' := (fun k_ => some k_ ≠ (.slice (some ad238) t210.length co10 : Value).ownBlock)) (HL238_0.out) (fun k_ hk => hk.2))).2.1 (Kd.V_F (Kd.V_mono (ok' := (fun k_ => some k_ ≠ (.slice (some ad238) t210.length co10 : Value).ownBlock)) (HL238_0.out) (fun k_ hk => hk.2))))) (Reps.none _ _))); intro v240 w91 ho92 hb hg_ hnew_; clear hg_ hnew_; (first | rw [← Ny239.out] at ho92 | (simp only [Int.reduceToNat] at ho92; rw [← Ny239.out] at ho92)); have n0_ := Aside0.mk (Kd.N_elder' (by (with_reducible repeat (first | apply Kd.N_alloc | apply Kd.N_drewN | apply Kd.N_drew)); exact HO_92.out) (Kd.N_base ho92) hb); have n1_ := Aside0.mk (Kd.V_elder' (by (with_reducible repeat (first | apply Kd.V_alloc | apply Kd.V_drewN | apply Kd.V_drew)); exact HL238_0.out) (Kd.N_base ho92) hb); have n2_ := Aside0.mk (Kd.N_lower ho92 (below_size (by repeat (first | (with_reducible first | exact HB.out | apply below_alloc | apply pw_below_drewN | apply below_drew1) | exact HB.out)))); have n3_ := Aside0.mk (Kd.C_below (by repeat (first | (with_reducible exact HR238_0.out) | (with_reducible refine Kd.C_alloc ?_ _) | (with_reducible refine Kd.C_drewN ?_ _) | (with_reducible refine Kd.C_drew ?_) | exact HR238_0.out)) hb); have n4_ := Aside0.mk (below_step (by repeat (first | (with_reducible first | exact HB.out | apply below_alloc | apply pw_below_drewN | apply below_drew1) | exact HB.out)) hb); clear HO_92; clear HL238_0; clear HR238_0; clear HB; have HO_92 := n0_; have HL238_0 := n1_; have HO241 := n2_; have HR238_0 := n3_; have HB := n4_; clear n0_ n1_ n2_ n3_ n4_; clear hb ho92; obtain ⟨Ao93, co93, eo93⟩ := Kd.N_slice HO241.out; subst eo93) | ((with_reducible refine gate_callee (f := 14) rfl ?_); refine goesL_ (some 101) rfl rfl Tryd.func14 (by kernel_rfl) rfl #[.slice Ao93 y239.length co93] rfl (by (try simp only [List.map_toArray, List.map_cons, List.map_nil]); first | done | rfl | (simp only [List.length_drop, List.length_take]; rfl)) ?_; (with_reducible refine (prog_Print.calls _ _ y239 t242 t243 _ ?side1 ?side2 A60.out (by first | exact HT.out | (with_reducible refine Laid.below HT.out ?_; repeat (first | (with_reducible first | exact HB.out | apply below_alloc | apply pw_below_drewN | apply below_drew1 | refine below_set ?_ (Aside0.out (by assumption))) | exact HB.out)) | (exact Laid.below HT.out (by repeat (first | exact HB.out | exact Below.refl _ _ | apply below_alloc | apply pw_below_drewN | apply below_drew1 | refine below_set ?_ (Aside0.out (by assumption))))))).mono ?_); (case side1 => repeat (first | exact (Kd.N_reads' HO241.out).2.2 | (with_reducible refine Kd.C_alloc ?_ _) | (with_reducible refine Kd.C_drewN ?_ _) | (with_reducible refine Kd.C_drew ?_))); (case side2 => exact (Kd.N_reads' HO241.out).2.1); rintro e w94 ⟨rfl, hb⟩; refine ⟨_, rfl, ?_⟩; have n0_ := Aside0.mk (Kd.N_below (by (with_reducible repeat (first | apply Kd.N_alloc | apply Kd.N_drewN | apply Kd.N_drew)); exact HO_92.out) hb); have n1_ := Aside0.mk (Kd.V_below (by (with_reducible repeat (first | apply Kd.V_alloc | apply Kd.V_drewN | apply Kd.V_drew)); exact HL238_0.out) hb); have n2_ := Aside0.mk (Kd.N_below (by (with_reducible repeat (first | apply Kd.N_alloc | apply Kd.N_drewN | apply Kd.N_drew)); exact HO241.out) hb); have n3_ := Aside0.mk (Kd.C_below (by repeat (first | (with_reducible exact HR238_0.out) | (with_reducible refine Kd.C_alloc ?_ _) | (with_reducible refine Kd.C_drewN ?_ _) | (with_reducible refine Kd.C_drew ?_) | exact HR238_0.out)) hb); have n4_ := Aside0.mk (below_step (by repeat (first | (with_reducible first | exact HB.out | apply below_alloc | apply pw_below_drewN | apply below_drew1) | exact HB.out)) hb); clear HO_92; clear HL238_0; clear HO241; clear HR238_0; clear HB; have HO_92 := n0_; have HL238_0 := n1_; have HO241 := n2_; have HR238_0 := n3_; have HB := n4_; clear n0_ n1_ n2_ n3_ n4_; (try clear hb); (try clear hb2); (try clear hk); (try clear hi)) | ((with_reducible refine gate_callee (f := 8) rfl ?_); refine goesL_ (some 106) rfl rfl Tryd.func8 (by kernel_rfl) rfl #[.string t242] rfl (by (try simp only [List.map_toArray, List.map_cons, List.map_nil]); first | done | rfl | (simp only [List.length_drop, List.length_take]; rfl)) ?_; (with_reducible refine (prog_Parse.calls k3 t242 t244 t245 t246 _ A61.out (by first | exact HT.out | (with_reducible refine Laid.below HT.out ?_; repeat (first | (with_reducible first | exact HB.out | apply below_alloc | apply pw_below_drewN | apply below_drew1 | refine below_set ?_ (Aside0.out (by assumption))) | exact HB.out)) | (exact Laid.below HT.out (by repeat (first | exact HB.out | exact Below.refl _ _ | apply below_alloc | apply pw_below_drewN | apply below_drew1 | refine below_set ?_ (Aside0.out (by assumption))))))).mono ?_); rintro e w95 ⟨v247, rfl, ho0, hb⟩; refine ⟨_, rfl, ?_⟩; have n0_ := Aside0.mk (Kd.N_elder' (by (with_reducible repeat (first | apply Kd.N_alloc | apply Kd.N_drewN | apply Kd.N_drew)); exact HO_92.out) (Kd.N_base (Kd.S_N ho0)) hb); have n1_ := Aside0.mk (Kd.V_elder' (by (with_reducible repeat (first | apply Kd.V_alloc | apply Kd.V_drewN | apply Kd.V_drew)); exact HL238_0.out) (Kd.N_base (Kd.S_N ho0)) hb); have n2_ := Aside0.mk (Kd.N_elder' (by (with_reducible repeat (first | apply Kd.N_alloc | apply Kd.N_drewN | apply Kd.N_drew)); exact HO241.out) (Kd.N_base (Kd.S_N ho0)) hb); have n3_ := Aside0.mk (Kd.N_lower (Kd.N_mono (ok' := fun k_ => some k_ ≠ (.slice (some ad238) t210.length co10 : Value).ownBlock ∧ some k_ ≠ (.slice Ao93 y239.length co93 : Value).ownBlock) (Kd.S_N (Kd.S_bound ho0)) (fun k_ hk_ => ⟨(Kd.fresh' (Kd.N_lt (by (with_reducible repeat (first | apply Kd.N_alloc | apply Kd.N_drewN | apply Kd.N_drew)); exact HO_92.out)) k_ hk_.2.1), (Kd.fresh' (Kd.N_lt (by (with_reducible repeat (first | apply Kd.N_alloc | apply Kd.N_drewN | apply Kd.N_drew)); exact HO241.out)) k_ hk_.2.1)⟩)) (below_size (by repeat (first | (with_reducible first | exact HB.out | apply below_alloc | apply pw_below_drewN | apply below_drew1) | exact HB.out)))); have n4_ := Aside0.mk (Kd.C_below (by repeat (first | (with_reducible exact HR238_0.out) | (with_reducible refine Kd.C_alloc ?_ _) | (with_reducible refine Kd.C_drewN ?_ _) | (with_reducible refine Kd.C_drew ?_) | exact HR238_0.out)) hb); have n5_ := Aside0.mk (below_step (by repeat (first | (with_reducible first | exact HB.out | apply below_alloc | apply pw_below_drewN | apply below_drew1) | exact HB.out)) hb); clear HO_92; clear HL238_0; clear HO241; clear HR238_0; clear HB; have HO_92 := n0_; have HL238_0 := n1_; have HO241 := n2_; have HO248 := n3_; have HR238_0 := n4_; have HB := n5_; clear n0_ n1_ n2_ n3_ n4_ n5_; (try clear hb); (try clear hb2); (try clear hk); (try clear hi); (try clear ho0)))
                              go_ret
                              exact ⟨by first | rfl | (simp [errW_none, errW_some] <;> rfl) | (simp [*, errW_none, errW_some] <;> rfl), by repeat (first | (with_reducible first | exact HB.out | apply below_alloc | apply pw_below_drewN | apply below_drew1) | exact HB.out)⟩
                          · rw [if_neg c59] at H
                            exact absurd H (by simp)
                        · rw [if_neg c58] at H
                          exact absurd H (by simp)
                      · rw [if_neg c57] at H
                        have c57b0 : decide (x94_3 < (t210.length : Int)) = false := decide_eq_false c57
                        clear c57
                        obtain rfl := Option.some.inj H
                        go_wp2
                        go_ret
                        exact ⟨by first | rfl | (simp [errW_none, errW_some] <;> rfl) | (simp [*, errW_none, errW_some] <;> rfl), by repeat (first | (with_reducible first | exact HB.out | apply below_alloc | apply pw_below_drewN | apply below_drew1) | exact HB.out)⟩
        · rw [if_neg c19] at H
          exact absurd H (by simp)

end Go.Proofs.YtfebhemdpbnebaaDoor.PProgLines
