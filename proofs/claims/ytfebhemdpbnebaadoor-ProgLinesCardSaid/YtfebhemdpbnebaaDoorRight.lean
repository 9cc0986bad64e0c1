/- The machine side of the package prog, third text: Right, whose functions are handed functions. No conditions beyond each statement. -/
import Derived.Test.YtfebhemdpbnebaaDoorKinds
namespace Go.Proofs.YtfebhemdpbnebaaDoor.Hand
open Go.RowKit Go.Proofs.YtfebhemdpbnebaaDoorW.PrintWords Go.Proofs.YtfebhemdpbnebaaDoorW.PrintLast Go.Proofs.YtfebhemdpbnebaaDoorW.PrintMore
set_option linter.unusedVariables false
set_option linter.unusedSimpArgs false
/-- Does all of a row pass? 'd' is what is read past the end. -/
theorem all_at {α : Type} (l : List α) (p : α → Bool) (i : Nat) (hi : i < l.length) (hd : ∀ t : Nat, (ht : t < l.length) → t < i → p l[t] = true) (h : p l[i] = true) : ∀ t : Nat, (ht : t < l.length) → t < i + 1 → p l[t] = true := by
  intro t ht htl
  by_cases e : t = i
  · subst e; exact h
  · exact hd t ht (by omega)
theorem all_end {α : Type} (l : List α) (p : α → Bool) (hd : ∀ t : Nat, (ht : t < l.length) → t < l.length → p l[t] = true) : l.all p = true := by
  rw [List.all_eq_true]
  intro x hx
  obtain ⟨t, ht, rfl⟩ := List.getElem_of_mem hx
  exact hd t ht ht
theorem all_not {α : Type} (l : List α) (p : α → Bool) (i : Nat) (hi : i < l.length) (h : p l[i] = false) : l.all p = false := by
  cases hq : l.all p with
  | false => rfl
  | true => rw [List.all_eq_true] at hq; rw [hq _ (List.getElem_mem hi)] at h; exact absurd h (by simp)
theorem rdT_at (l : List S32) (i : Nat) (h : i < l.length) : rd_T32 l i = l[i] := by
  unfold rd_T32
  rw [List.getD_eq_getElem?_getD, Int.toNat_natCast, List.getElem?_eq_getElem h]; rfl
theorem rdL_at (l : List (List S32)) (i : Nat) (h : i < l.length) : rd_L4 l i = l[i] := by
  unfold rd_L4
  rw [List.getD_eq_getElem?_getD, Int.toNat_natCast, List.getElem?_eq_getElem h]; rfl
def okA (a : S32) : Bool := isActP a.f0 a.f1
set_option maxHeartbeats 1000000 in
set_option maxRecDepth 100000 in
/-- The inner closure: may an act not be? -/
theorem bad_calls (c : S32) (w : World) : Calls Tryd.prog 32 #[.agg #[.int .i64 c.f0, .int .i64 c.f1]] w fun e w' => e = .returned (.bool (!okA c)) ∧ Below w.heap.size w w' := by
  have hu := Tryd.underlying32
  go_enter Tryd.func32, Tryd.ntmps32
  go_wp2_with fail
  refine (isAct_calls c.f0 c.f1 _).mono ?_
  rintro e w1 ⟨rfl, hb⟩
  go_wp2
  go_ret
  exact ⟨rfl, ((Below.refl _ _).alloc (Nat.le_refl _) _).trans (hb.mono (by simp))⟩
set_option maxHeartbeats 1000000 in
set_option maxRecDepth 100000 in
theorem index1 (A : Option Addr) (c : Nat) (l : List S32) (w : World) (hC0 : Kd.C k32 w A l.length l) (hc0 : l.length ≤ c) :
    Calls Tryd.prog 46 #[.slice A l.length c, .func (.func 32) #[] #[]] w fun e w' => (∃ v : Int, e = .returned (.int .i64 v) ∧ decide (v ≥ 0) = !l.all okA) ∧ Below w.heap.size w w' := by
  have hlen : l.length ≤ 9223372036854775807 := hC0.2.1
  have HC := Aside0.mk hC0
  clear hC0
  go_enter Tryd.func46, Tryd.ntmps46
  go_wp2
  go_loopg [5, 8] l.length (fun g v5 v8 wx => Aside0 (Below w.heap.size w wx) ∧ ∃ i : Nat, i + g = l.length ∧ v8 = .int .i64 i ∧ Aside0 (∀ t : Nat, (ht : t < l.length) → t < i → okA l[t] = true))
  case atStart => exact ⟨⟨by repeat (first | exact Below.refl _ _ | apply pw_below_drewN | apply below_drew1)⟩, 0, by omega, rfl, ⟨fun t _ ht => absurd ht (by omega)⟩⟩
  case round =>
    obtain ⟨HB, i, hig, rfl, Hd⟩ := hrel
    cases gk with
    | zero =>
      have hi : i = l.length := by omega
      have He := Aside0.mk (all_end l okA (fun t ht _ => Hd.out t ht (by omega)))
      have hnot : ¬ ((i : Int) < (l.length : Int)) := by omega
      clear hi
      go_wp2
      go_ret
      exact ⟨⟨-1, rfl, by rw [He.out]; decide⟩, by repeat (first | exact HB.out | apply pw_below_drewN | apply below_drew1)⟩
    | succ go =>
      have hlt : i < l.length := by omega
      obtain ⟨ad, he, hx0, hx1⟩ := at_T32 HC.out (i : Int) (by omega) (by omega)
      cases he
      rw [Int.toNat_natCast] at hx0 hx1
      replace hx0 := (HB.out.cell (World.block_lt_of_cell? w _ hx0)).trans hx0
      replace hx1 := (HB.out.cell (World.block_lt_of_cell? w _ hx1)).trans hx1
      have hil : (i : Int) < (l.length : Int) := by omega
      have hrd := rdT_at l i hlt
      by_cases hf : okA (rd_T32 l i) = true
      · have Hd2 := Aside0.mk (all_at l okA i hlt Hd.out (by rw [← hrd]; exact hf))
        have hf2 : (!okA (rd_T32 l i)) = false := by rw [hf]; rfl
        clear hrd
        have hne : ¬ (okA (rd_T32 l i) = false) := by rw [hf]; simp
        go_wp2_with (go_at_call 32; refine (bad_calls (rd_T32 l i) _).mono ?_; rintro e w2 ⟨rfl, hb⟩; have NB := Aside0.mk (HB.out.trans (hb.mono (by have := HB.out.size; omega))))
        go_roundg go
        case rel => exact ⟨⟨by repeat (first | exact NB.out | apply pw_below_drewN | apply below_drew1)⟩, i + 1, by omega, by go_num, Hd2⟩
        case measure => omega
      · have hf' : okA (rd_T32 l i) = false := by simpa using hf
        have He := Aside0.mk (all_not l okA i hlt (by rw [← hrd]; exact hf'))
        clear hf hrd
        go_wp2_with (go_at_call 32; refine (bad_calls (rd_T32 l i) _).mono ?_; rintro e w2 ⟨rfl, hb⟩; have NB := Aside0.mk (HB.out.trans (hb.mono (by have := HB.out.size; omega))))
        go_ret
        exact ⟨⟨(i : Int), rfl, by rw [He.out]; exact decide_eq_true (by omega)⟩, by repeat (first | exact NB.out | apply pw_below_drewN | apply below_drew1)⟩
set_option maxHeartbeats 1000000 in
set_option maxRecDepth 100000 in
theorem contains1 (A : Option Addr) (c : Nat) (l : List S32) (w : World) (hC0 : Kd.C k32 w A l.length l) (hc0 : l.length ≤ c) :
    Calls Tryd.prog 31 #[.slice A l.length c, .func (.func 32) #[] #[]] w fun e w' => e = .returned (.bool (!l.all okA)) ∧ Below w.heap.size w w' := by
  have HC := Aside0.mk hC0
  clear hC0
  go_enter Tryd.func31, Tryd.ntmps31
  go_wp2_with fail
  refine (index1 A c l _ HC.out hc0).mono ?_
  rintro e w1 ⟨⟨v, rfl, hv⟩, hb⟩
  have HV := Aside0.mk hv
  clear hv
  go_wp2
  go_ret
  exact ⟨by rw [← HV.out]; rfl, hb⟩
/-- May a program be? -/
def okP (l : List S32) : Bool := decide (l.length ≤ 64) && l.all okA
set_option maxHeartbeats 1000000 in
set_option maxRecDepth 100000 in
/-- The outer closure: may a program not be? -/
theorem odd_calls (A : Option Addr) (c : Nat) (l : List S32) (w : World) (hC0 : Kd.C k32 w A l.length l) (hc0 : l.length ≤ c) :
    Calls Tryd.prog 30 #[.slice A l.length c] w fun e w' => e = .returned (.bool (!okP l)) ∧ Below w.heap.size w w' := by
  have HC := Aside0.mk hC0
  clear hC0
  have hmf : ∀ (fn : Fn) (first cap : Array Value) (w : World), (Instr.makeFunc fn first cap).run Tryd.prog w = .ok (.func fn first cap) w := fun _ _ _ _ => rfl
  by_cases h : l.length ≤ 64
  · have h64 : ¬ ((64 : Int) < (l.length : Int)) := by omega
    have HO := Aside0.mk (show okP l = l.all okA by unfold okP; rw [decide_eq_true h]; simp)
    clear h
    go_enter Tryd.func30, Tryd.ntmps30
    go_wp2_with (go_at_call 31; refine (contains1 A c l _ HC.out hc0).mono ?_; rintro e w1 ⟨rfl, hb⟩)
    go_ret
    exact ⟨by rw [HO.out]; rfl, hb⟩
  · have h64 : (64 : Int) < (l.length : Int) := by omega
    have HO := Aside0.mk (show okP l = false by unfold okP; rw [decide_eq_false h]; simp)
    clear h
    go_enter Tryd.func30, Tryd.ntmps30
    go_wp2
    go_ret
    exact ⟨by rw [HO.out]; rfl, Below.refl _ _⟩
set_option maxHeartbeats 1000000 in
set_option maxRecDepth 100000 in
theorem index2 (A : Option Addr) (c : Nat) (l : List (List S32)) (w : World) (hC0 : Kd.C (Kd.slice 32 k32) w A l.length l) (hc0 : l.length ≤ c) :
    Calls Tryd.prog 47 #[.slice A l.length c, .func (.func 30) #[] #[]] w fun e w' => (∃ v : Int, e = .returned (.int .i64 v) ∧ decide (v ≥ 0) = !l.all okP) ∧ Below w.heap.size w w' := by
  have hlen : l.length ≤ 9223372036854775807 := hC0.2.1
  have HC := Aside0.mk hC0
  clear hC0
  go_enter Tryd.func47, Tryd.ntmps47
  go_wp2
  go_loopg [5, 8] l.length (fun g v5 v8 wx => Aside0 (Below w.heap.size w wx) ∧ ∃ i : Nat, i + g = l.length ∧ v8 = .int .i64 i ∧ Aside0 (∀ t : Nat, (ht : t < l.length) → t < i → okP l[t] = true))
  case atStart => exact ⟨⟨by repeat (first | exact Below.refl _ _ | apply pw_below_drewN | apply below_drew1)⟩, 0, by omega, rfl, ⟨fun t _ ht => absurd ht (by omega)⟩⟩
  case round =>
    obtain ⟨HB, i, hig, rfl, Hd⟩ := hrel
    cases gk with
    | zero =>
      have hi : i = l.length := by omega
      have He := Aside0.mk (all_end l okP (fun t ht _ => Hd.out t ht (by omega)))
      have hnot : ¬ ((i : Int) < (l.length : Int)) := by omega
      clear hi
      go_wp2
      go_ret
      exact ⟨⟨-1, rfl, by rw [He.out]; decide⟩, by repeat (first | exact HB.out | apply pw_below_drewN | apply below_drew1)⟩
    | succ go =>
      have hlt : i < l.length := by omega
      obtain ⟨ad, A1, c1, he, hx0, hle1, hK1⟩ := at_L4 HC.out (i : Int) (by omega) (by omega)
      cases he
      rw [Int.toNat_natCast] at hx0
      have hil : (i : Int) < (l.length : Int) := by omega
      have hrd := rdL_at l i hlt
      replace hx0 := (HB.out.cell (World.block_lt_of_cell? w _ hx0)).trans hx0
      have HK1 := Aside0.mk (Kd.C_below hK1 HB.out)
      clear hK1
      by_cases hf : okP (rd_L4 l i) = true
      · have Hd2 := Aside0.mk (all_at l okP i hlt Hd.out (by rw [← hrd]; exact hf))
        have hf2 : (!okP (rd_L4 l i)) = false := by rw [hf]; rfl
        clear hrd
        have hne : ¬ (okP (rd_L4 l i) = false) := by rw [hf]; simp
        go_wp2_with (go_at_call 30; refine (odd_calls A1 c1 (rd_L4 l i) _ (by repeat (first | exact HK1.out | apply Kd.C_drewN | apply Kd.C_drew)) hle1).mono ?_; rintro e w2 ⟨rfl, hb⟩; have NB := Aside0.mk (HB.out.trans (hb.mono (by have := HB.out.size; omega))))
        go_roundg go
        case rel => exact ⟨⟨by repeat (first | exact NB.out | apply pw_below_drewN | apply below_drew1)⟩, i + 1, by omega, by go_num, Hd2⟩
        case measure => omega
      · have hf' : okP (rd_L4 l i) = false := by simpa using hf
        have He := Aside0.mk (all_not l okP i hlt (by rw [← hrd]; exact hf'))
        clear hf hrd
        go_wp2_with (go_at_call 30; refine (odd_calls A1 c1 (rd_L4 l i) _ (by repeat (first | exact HK1.out | apply Kd.C_drewN | apply Kd.C_drew)) hle1).mono ?_; rintro e w2 ⟨rfl, hb⟩; have NB := Aside0.mk (HB.out.trans (hb.mono (by have := HB.out.size; omega))))
        go_ret
        exact ⟨⟨(i : Int), rfl, by rw [He.out]; exact decide_eq_true (by omega)⟩, by repeat (first | exact NB.out | apply pw_below_drewN | apply below_drew1)⟩
set_option maxHeartbeats 1000000 in
set_option maxRecDepth 100000 in
theorem contains2 (A : Option Addr) (c : Nat) (l : List (List S32)) (w : World) (hC0 : Kd.C (Kd.slice 32 k32) w A l.length l) (hc0 : l.length ≤ c) :
    Calls Tryd.prog 34 #[.slice A l.length c, .func (.func 30) #[] #[]] w fun e w' => e = .returned (.bool (!l.all okP)) ∧ Below w.heap.size w w' := by
  have HC := Aside0.mk hC0
  clear hC0
  go_enter Tryd.func34, Tryd.ntmps34
  go_wp2_with fail
  refine (index2 A c l _ HC.out hc0).mono ?_
  rintro e w1 ⟨⟨v, rfl, hv⟩, hb⟩
  have HV := Aside0.mk hv
  clear hv
  go_wp2
  go_ret
  exact ⟨by rw [← HV.out]; rfl, hb⟩
/-- May programs be? -/
def okPs (l : List (List S32)) : Bool := decide (l.length ≤ 8) && l.all okP
set_option maxHeartbeats 1000000 in
set_option maxRecDepth 100000 in
theorem Right_any (A : Option Addr) (c : Nat) (l : List (List S32)) (w : World) (hC0 : Kd.C (Kd.slice 32 k32) w A l.length l) (hc0 : l.length ≤ c) :
    Calls Tryd.prog 16 #[.slice A l.length c] w fun e w' => e = .returned (.bool (okPs l)) ∧ Below w.heap.size w w' := by
  have HC := Aside0.mk hC0
  clear hC0
  have hmf : ∀ (fn : Fn) (first cap : Array Value) (w : World), (Instr.makeFunc fn first cap).run Tryd.prog w = .ok (.func fn first cap) w := fun _ _ _ _ => rfl
  by_cases h : l.length ≤ 8
  · have h8 : (l.length : Int) ≤ 8 := by omega
    have HO := Aside0.mk (show okPs l = l.all okP by unfold okPs; rw [decide_eq_true h]; simp)
    clear h
    go_enter Tryd.func16, Tryd.ntmps16
    go_wp2_with (go_at_call 34; refine (contains2 A c l _ HC.out hc0).mono ?_; rintro e w1 ⟨rfl, hb⟩)
    go_ret
    exact ⟨by rw [HO.out]; simp, hb⟩
  · have h8 : ¬ ((l.length : Int) ≤ 8) := by omega
    have HO := Aside0.mk (show okPs l = false by unfold okPs; rw [decide_eq_false h]; simp)
    clear h
    go_enter Tryd.func16, Tryd.ntmps16
    go_wp2
    go_ret
    exact ⟨by rw [HO.out]; rfl, Below.refl _ _⟩
def prog_Right.f (l0 : List (List S32)) : Option (Bool) := some (okPs l0)
theorem prog_Right.calls (A0 : Option Addr) (c0 : Nat) (l0 : List (List S32)) (r : Bool) (w : World) (hr0 : Kd.C (Kd.slice 32 k32) w A0 l0.length l0) (hc0 : l0.length ≤ c0) (h : prog_Right.f l0 = some r) :
    Calls Tryd.prog 16 #[.slice A0 l0.length c0] w fun e w' => e = .returned (.bool r) ∧ Below w.heap.size w w' := by
  obtain rfl := Option.some.inj h
  exact Right_any A0 c0 l0 w hr0 hc0
end Go.Proofs.YtfebhemdpbnebaaDoor.Hand
