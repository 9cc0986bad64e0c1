/- The machine side of the package cell: what Right, Load, Add, Swap and Cas hand back, as Lean functions, and for each a proof that the call does so. No conditions beyond each statement. -/
import Derived.Test.YtdecbngdmnmokaaCells
namespace Go.Proofs.Ytdecbngdmnmokaa.Hand
open Go.RowKit Go.Proofs.YtdecbngdmnmokaaW.PrintWords Go.Proofs.YtdecbngdmnmokaaW.PrintLast Go.Proofs.YtdecbngdmnmokaaW.PrintMore
set_option linter.unusedVariables false
set_option linter.unusedSimpArgs false

/-! ### word_Wrap: function 27 -/
def word_Wrap.f (a0 : Int) (a1 : Int) : Option (Int × Int) := if a0 = 0 then (some (wrap64 (wrap32 (a1)), 0)) else (if a0 = 1 then (some ((a1) % 4294967296, 0)) else (if a0 = 2 then (some (a1, 0)) else (some (0, 1))))
set_option maxHeartbeats 8000000 in
set_option maxRecDepth 100000 in
theorem word_Wrap.calls (a0 : Int) (a1 : Int) (r1 : Int) (r2 : Int) (w : World) (h : word_Wrap.f a0 a1 = some (r1, r2)) :
    Calls Try.prog 27 #[.int .i64 a0, .int .i64 a1] w fun e w' => e = .returned (.tuple #[.int .i64 r1, .int .i64 r2]) ∧ Drawn0 w w' := by
  have H : (if a0 = 0 then (some (wrap64 (wrap32 (a1)), 0)) else (if a0 = 1 then (some ((a1) % 4294967296, 0)) else (if a0 = 2 then (some (a1, 0)) else (some (0, 1))))) = some (r1, r2) := h
  clear h
  by_cases c3 : a0 = 0
  · rw [if_pos c3] at H
    have c3b0 : (a0 == 0) = true := beq_iff_eq.mpr c3
    have c3b1 : (a0 != 0) = false := bne_eq_false_iff_eq.mpr c3
    clear c3
    simp only [Option.some.injEq, Prod.mk.injEq] at H
    obtain ⟨rfl, rfl⟩ := H
    go_enter Try.func27, Try.ntmps27
    go_wp2
    go_ret2
    exact ⟨by first | rfl | (simp; done) | (simp [*]; done), by repeat (first | exact Drawn0.refl _ | apply Drawn0.step)⟩
  · rw [if_neg c3] at H
    have c3b0 : (a0 == 0) = false := beq_eq_false_iff_ne.mpr c3
    have c3b1 : (a0 != 0) = true := bne_iff_ne.mpr c3
    by_cases c4 : a0 = 1
    · rw [if_pos c4] at H
      have c4b0 : (a0 == 1) = true := beq_iff_eq.mpr c4
      have c4b1 : (a0 != 1) = false := bne_eq_false_iff_eq.mpr c4
      clear c4
      simp only [Option.some.injEq, Prod.mk.injEq] at H
      obtain ⟨rfl, rfl⟩ := H
      go_enter Try.func27, Try.ntmps27
      go_wp2
      go_ret2
      exact ⟨by first | rfl | (simp; done) | (simp [*]; done), by repeat (first | exact Drawn0.refl _ | apply Drawn0.step)⟩
    · rw [if_neg c4] at H
      have c4b0 : (a0 == 1) = false := beq_eq_false_iff_ne.mpr c4
      have c4b1 : (a0 != 1) = true := bne_iff_ne.mpr c4
      by_cases c5 : a0 = 2
      · rw [if_pos c5] at H
        have c5b0 : (a0 == 2) = true := beq_iff_eq.mpr c5
        have c5b1 : (a0 != 2) = false := bne_eq_false_iff_eq.mpr c5
        clear c5
        simp only [Option.some.injEq, Prod.mk.injEq] at H
        obtain ⟨rfl, rfl⟩ := H
        go_enter Try.func27, Try.ntmps27
        go_wp2
        go_ret2
        exact ⟨by first | rfl | (simp; done) | (simp [*]; done), by repeat (first | exact Drawn0.refl _ | apply Drawn0.step)⟩
      · rw [if_neg c5] at H
        have c5b0 : (a0 == 2) = false := beq_eq_false_iff_ne.mpr c5
        have c5b1 : (a0 != 2) = true := bne_iff_ne.mpr c5
        simp only [Option.some.injEq, Prod.mk.injEq] at H
        obtain ⟨rfl, rfl⟩ := H
        go_enter Try.func27, Try.ntmps27
        go_wp2
        go_ret2
        exact ⟨by first | rfl | (simp; done) | (simp [*]; done), by repeat (first | exact Drawn0.refl _ | apply Drawn0.step)⟩

/-! ### word_Fits: function 31 -/
def word_Fits.f (a0 : Int) (a1 : Int) : Option (Bool) := (word_Wrap.f a0 a1).bind fun bt101 => (if bt101.2 = 0 then (some (bt101.1 == a1)) else (some false))
set_option maxHeartbeats 8000000 in
set_option maxRecDepth 100000 in
theorem word_Fits.calls (a0 : Int) (a1 : Int) (r : Bool) (w : World) (h : word_Fits.f a0 a1 = some r) :
    Calls Try.prog 31 #[.int .i64 a0, .int .i64 a1] w fun e w' => e = .returned (.bool r) ∧ Drawn0 w w' := by
  have H : ((word_Wrap.f a0 a1).bind fun bt101 => (if bt101.2 = 0 then (some (bt101.1 == a1)) else (some false))) = some r := h
  clear h
  replace H := Option.bind_eq_some_iff.mp H
  obtain ⟨⟨t101, t102⟩, A30, H⟩ := H
  replace H : (if t102 = 0 then (some (t101 == a1)) else (some false)) = some r := H
  have A3 := Aside0.mk A30
  clear A30
  by_cases c4 : t102 = 0
  · rw [if_pos c4] at H
    have c4b0 : (t102 == 0) = true := beq_iff_eq.mpr c4
    have c4b1 : (t102 != 0) = false := bne_eq_false_iff_eq.mpr c4
    clear c4
    obtain rfl := Option.some.inj H
    go_enter Try.func31, Try.ntmps31
    go_wp2_with (first | ((with_reducible refine gate_callee (f := 27) rfl ?_); refine goesL_ (some 10) rfl rfl Try.func27 (by kernel_rfl) rfl #[.int .i64 a0, .int .i64 a1] rfl (by (try simp only [List.map_toArray, List.map_cons, List.map_nil]); first | done | rfl | (simp only [List.length_drop, List.length_take]; rfl)) ?_; (with_reducible refine (word_Wrap.calls a0 a1 t101 t102 _ A3.out).mono ?_); rintro e w' ⟨rfl, ⟨nd, rfl⟩⟩; refine ⟨_, rfl, ?_⟩))
    go_ret
    exact ⟨by first | rfl | (simp; done) | (simp [*]; done), by repeat (first | exact Drawn0.refl _ | apply Drawn0.step)⟩
  · rw [if_neg c4] at H
    have c4b0 : (t102 == 0) = false := beq_eq_false_iff_ne.mpr c4
    have c4b1 : (t102 != 0) = true := bne_iff_ne.mpr c4
    obtain rfl := Option.some.inj H
    go_enter Try.func31, Try.ntmps31
    go_wp2_with (first | ((with_reducible refine gate_callee (f := 27) rfl ?_); refine goesL_ (some 10) rfl rfl Try.func27 (by kernel_rfl) rfl #[.int .i64 a0, .int .i64 a1] rfl (by (try simp only [List.map_toArray, List.map_cons, List.map_nil]); first | done | rfl | (simp only [List.length_drop, List.length_take]; rfl)) ?_; (with_reducible refine (word_Wrap.calls a0 a1 t101 t102 _ A3.out).mono ?_); rintro e w' ⟨rfl, ⟨nd, rfl⟩⟩; refine ⟨_, rfl, ?_⟩))
    go_ret
    exact ⟨by first | rfl | (simp; done) | (simp [*]; done), by repeat (first | exact Drawn0.refl _ | apply Drawn0.step)⟩

/-! ### word_Add: function 24 -/
def word_Add.f (a0 : Int) (a1 : Int) (a2 : Int) : Option (Int × Int) := (word_Wrap.f a0 (wrap64 (a1 + a2))).bind fun bt106 => (some (bt106.1, bt106.2))
set_option maxHeartbeats 8000000 in
set_option maxRecDepth 100000 in
theorem word_Add.calls (a0 : Int) (a1 : Int) (a2 : Int) (r1 : Int) (r2 : Int) (w : World) (h : word_Add.f a0 a1 a2 = some (r1, r2)) :
    Calls Try.prog 24 #[.int .i64 a0, .int .i64 a1, .int .i64 a2] w fun e w' => e = .returned (.tuple #[.int .i64 r1, .int .i64 r2]) ∧ Drawn0 w w' := by
  have H : ((word_Wrap.f a0 (wrap64 (a1 + a2))).bind fun bt106 => (some (bt106.1, bt106.2))) = some (r1, r2) := h
  clear h
  replace H := Option.bind_eq_some_iff.mp H
  obtain ⟨⟨t106, t107⟩, A40, H⟩ := H
  replace H : (some (t106, t107)) = some (r1, r2) := H
  have A4 := Aside0.mk A40
  clear A40
  simp only [Option.some.injEq, Prod.mk.injEq] at H
  obtain ⟨rfl, rfl⟩ := H
  go_enter Try.func24, Try.ntmps24
  go_wp2_with (first | ((with_reducible refine gate_callee (f := 27) rfl ?_); refine goesL_ (some 12) rfl rfl Try.func27 (by kernel_rfl) rfl #[.int .i64 a0, .int .i64 (wrap64 (a1 + a2))] rfl (by (try simp only [List.map_toArray, List.map_cons, List.map_nil]); first | done | rfl | (simp only [List.length_drop, List.length_take]; rfl)) ?_; (with_reducible refine (word_Wrap.calls a0 (wrap64 (a1 + a2)) t106 t107 _ A4.out).mono ?_); rintro e w' ⟨rfl, ⟨nd, rfl⟩⟩; refine ⟨_, rfl, ?_⟩))
  go_ret2
  exact ⟨by first | rfl | (simp; done) | (simp [*]; done), by repeat (first | exact Drawn0.refl _ | apply Drawn0.step)⟩


/-- A number of a kind as a word (what Wrap hands back first). -/
def wrapped (k v : Int) : Int := if k = 0 then wrap64 (wrap32 v) else if k = 1 then v % 4294967296 else if k = 2 then v else 0
def wrapErr (k : Int) : Int := if k = 0 then 0 else if k = 1 then 0 else if k = 2 then 0 else 1
theorem word_Wrap.is (k v : Int) : word_Wrap.f k v = some (wrapped k v, wrapErr k) := by
  unfold word_Wrap.f wrapped wrapErr
  split
  · rfl
  · split
    · rfl
    · split <;> rfl
/-- May a cell be? -/
def fits (c : S44) : Bool := if wrapErr c.f0 = 0 then wrapped c.f0 c.f1 == c.f1 else false
theorem word_Fits.is (c : S44) : word_Fits.f c.f0 c.f1 = some (fits c) := by
  unfold word_Fits.f fits
  rw [word_Wrap.is]
  simp only [Option.bind_some]
  split <;> rfl
theorem word_Add.is (k a b : Int) : word_Add.f k a b = some (wrapped k (wrap64 (a + b)), wrapErr k) := by
  unfold word_Add.f
  rw [word_Wrap.is]
  rfl

set_option maxHeartbeats 1000000 in
set_option maxRecDepth 100000 in
/-- The closure that Right asks of each cell: does it not fit? -/
theorem misfit_calls (c : S44) (w : World) : Calls Try.prog 30 #[.agg #[.int .i64 c.f0, .int .i64 c.f1]] w fun e w' => e = .returned (.bool (!fits c)) ∧ Below w.heap.size w w' := by
  have A := Aside0.mk (word_Fits.is c)
  have hu := Try.underlying44
  go_enter Try.func30, Try.ntmps30
  go_wp2_with fail
  refine (word_Fits.calls _ _ _ _ A.out).mono ?_
  rintro e w1 ⟨rfl, ⟨nd, rfl⟩⟩
  go_wp2
  go_ret
  exact ⟨rfl, pw_below_drewN ((Below.refl _ _).alloc (Nat.le_refl _) _) nd⟩

/-- A closure that is handed a cell's address: it tells 'told', and leaves 'nv' as the cell's number; older blocks stay. -/
def Does (f : Nat) (cap : Array Value) (B : Nat) (w0 : World) (told : Int → Int → Value) (nv : Int → Int → Int) : Prop :=
  ∀ (w : World) (b o : Nat) (cs : Array Value) (k x : Int), Below B w0 w → B ≤ b → w.heap[b]? = some (.cells cs 44 (0, 0)) → cs[o]? = some (.int .i64 k) → cs[o + 1]? = some (.int .i64 x) →
    Calls Try.prog f (#[.pointer (some ⟨b, o, none⟩)] ++ cap) w fun e w' => e = .returned (told k x) ∧ w'.heap[b]? = some (.cells (cs.setIfInBounds (o + 1) (.int .i64 (nv k x))) 44 (0, 0)) ∧ Below b w w'

set_option maxHeartbeats 1000000 in
set_option maxRecDepth 100000 in
/-- put: the cell's number is written, as a word, and the old one told. -/
theorem put_calls (b o : Nat) (cs : Array Value) (k x v : Int) (w : World) (hb : w.heap[b]? = some (.cells cs 44 (0, 0))) (h0 : cs[o]? = some (.int .i64 k)) (h1 : cs[o + 1]? = some (.int .i64 x)) :
    Calls Try.prog 22 #[.pointer (some ⟨b, o, none⟩), .int .i64 v] w fun e w' => e = .returned (.int .i64 x) ∧ w'.heap[b]? = some (.cells (cs.setIfInBounds (o + 1) (.int .i64 (wrapped k v))) 44 (0, 0)) ∧ Below b w w' := by
  have A := Aside0.mk (word_Wrap.is k v)
  have c0 : w.cell? ⟨b, o, none⟩ = some (.int .i64 k) := (blk_cell hb o).trans h0
  have c1 : w.cell? ⟨b, o + 1, none⟩ = some (.int .i64 x) := (blk_cell hb (o + 1)).trans h1
  have f1 : w.frozen? ⟨b, o + 1, none⟩ = false := blk_frozen hb (o + 1)
  have hu := Try.underlying44
  have HB := Aside0.mk hb
  clear hb h0 h1
  go_enter Try.func22, Try.ntmps22
  go_wp2_with fail
  refine (word_Wrap.calls _ _ _ _ _ A.out).mono ?_
  rintro e w1 ⟨rfl, ⟨nd, rfl⟩⟩
  go_wp2
  go_ret
  exact ⟨rfl, blk_set (blk_drewN HB.out nd) _ _, (pw_below_drewN (Below.refl _ _) nd).setCell (p := ⟨b, o + 1, none⟩) (Nat.le_refl b) _⟩

theorem swap_does (B p : Nat) (v : Int) (w0 : World) (hp : w0.heap[p]? = some (.cells #[.int .i64 v] 3 (0, 0))) (hlt : p < B) : Does 21 #[.pointer (some ⟨p, 0, none⟩)] B w0 (fun k x => .int .i64 x) (fun k x => wrapped k v) := by
  intro w b o cs k x hBel hBb hb h0 h1
  have c0 : w.cell? ⟨p, 0, none⟩ = some (.int .i64 v) := (blk_cell ((hBel.block p hlt).trans hp) 0)
  have H0 := Aside0.mk h0
  have H1 := Aside0.mk h1
  have HB := Aside0.mk hb
  clear hb h0 h1 hp
  show Calls Try.prog 21 #[.pointer (some ⟨b, o, none⟩), .pointer (some ⟨p, 0, none⟩)] _ _
  go_enter Try.func21, Try.ntmps21
  go_wp2_with fail
  refine (put_calls b o cs k x v _ HB.out H0.out H1.out).mono ?_
  rintro e w1 ⟨rfl, h2, h3⟩
  have N2 := Aside0.mk h2
  clear h2
  go_wp2
  go_ret
  exact ⟨rfl, N2.out, h3⟩

theorem load_does (B : Nat) (w0 : World) : Does 28 #[] B w0 (fun k x => .int .i64 x) (fun k x => x) := by
  intro w b o cs k x hBel hBb hb h0 h1
  have c1 : w.cell? ⟨b, o + 1, none⟩ = some (.int .i64 x) := (blk_cell hb (o + 1)).trans h1
  have hu := Try.underlying44
  have hs : cs.setIfInBounds (o + 1) (.int .i64 x) = cs := by
    obtain ⟨hl, he⟩ := Array.getElem?_eq_some_iff.1 h1
    apply Array.ext (by simp)
    intro i h1 h2
    rw [Array.getElem_setIfInBounds]
    split
    · rename_i hi; subst hi; exact he.symm
    · rfl
  have HS := Aside0.mk hs
  have HB := Aside0.mk hb
  clear hb h0 h1 hs
  show Calls Try.prog 28 #[.pointer (some ⟨b, o, none⟩)] _ _
  go_enter Try.func28, Try.ntmps28
  go_wp2
  go_ret
  exact ⟨rfl, by rw [HS.out]; exact HB.out, Below.refl _ _⟩

set_option maxHeartbeats 1000000 in
set_option maxRecDepth 100000 in
theorem add_does (B p : Nat) (d : Int) (w0 : World) (hp : w0.heap[p]? = some (.cells #[.int .i64 d] 3 (0, 0))) (hlt : p < B) : Does 23 #[.pointer (some ⟨p, 0, none⟩)] B w0 (fun k x => .int .i64 (wrapped k (wrap64 (x + d)))) (fun k x => wrapped k (wrap64 (x + d))) := by
  intro w b o cs k x hBel hBb hb h0 h1
  have c0 : w.cell? ⟨p, 0, none⟩ = some (.int .i64 d) := (blk_cell ((hBel.block p hlt).trans hp) 0)
  have d0 : w.cell? ⟨b, o, none⟩ = some (.int .i64 k) := (blk_cell hb o).trans h0
  have d1 : w.cell? ⟨b, o + 1, none⟩ = some (.int .i64 x) := (blk_cell hb (o + 1)).trans h1
  have f1 : w.frozen? ⟨b, o + 1, none⟩ = false := blk_frozen hb (o + 1)
  have A := Aside0.mk (word_Add.is k x d)
  have hu := Try.underlying44
  have HB := Aside0.mk hb
  clear hb h0 h1 hp
  show Calls Try.prog 23 #[.pointer (some ⟨b, o, none⟩), .pointer (some ⟨p, 0, none⟩)] _ _
  go_enter Try.func23, Try.ntmps23
  go_wp2_with fail
  go_region_with (go_at_call 24; refine (word_Add.calls _ _ _ _ _ _ A.out).mono ?_; rintro e w1 ⟨rfl, ⟨nd, rfl⟩⟩)
  all_goals go_wp2
  all_goals go_ret
  all_goals exact ⟨rfl, blk_set (by repeat (first | exact HB.out | apply blk_drewN | apply blk_drew)) _ _, Below.setCell (p := ⟨b, o + 1, none⟩) (by repeat (first | exact Below.refl _ _ | apply pw_below_drewN | apply below_drew)) (Nat.le_refl b) _⟩

set_option maxHeartbeats 1000000 in
set_option maxRecDepth 100000 in
theorem cas_does (B p q : Nat) (old v : Int) (w0 : World) (hp : w0.heap[p]? = some (.cells #[.int .i64 old] 3 (0, 0))) (hq : w0.heap[q]? = some (.cells #[.int .i64 v] 3 (0, 0))) (hlt : p < B) (hlq : q < B) :
    Does 26 #[.pointer (some ⟨p, 0, none⟩), .pointer (some ⟨q, 0, none⟩)] B w0 (fun k x => .bool (wrapped k old == x)) (fun k x => if wrapped k old = x then wrapped k v else x) := by
  intro w b o cs k x hBel hBb hb h0 h1
  have c0 : w.cell? ⟨p, 0, none⟩ = some (.int .i64 old) := (blk_cell ((hBel.block p hlt).trans hp) 0)
  have e0 : w.cell? ⟨q, 0, none⟩ = some (.int .i64 v) := (blk_cell ((hBel.block q hlq).trans hq) 0)
  have d0 : w.cell? ⟨b, o, none⟩ = some (.int .i64 k) := (blk_cell hb o).trans h0
  have d1 : w.cell? ⟨b, o + 1, none⟩ = some (.int .i64 x) := (blk_cell hb (o + 1)).trans h1
  have A := Aside0.mk (word_Wrap.is k old)
  have hu := Try.underlying44
  have HB := Aside0.mk hb
  have H0 := Aside0.mk h0
  have H1 := Aside0.mk h1
  clear hb h0 h1 hp hq
  show Calls Try.prog 26 #[.pointer (some ⟨b, o, none⟩), .pointer (some ⟨p, 0, none⟩), .pointer (some ⟨q, 0, none⟩)] _ fun e w' => e = .returned (.bool (wrapped k old == x)) ∧ w'.heap[b]? = some (.cells (cs.setIfInBounds (o + 1) (.int .i64 (if wrapped k old = x then wrapped k v else x))) 44 (0, 0)) ∧ Below b w w'
  by_cases he : wrapped k old = x
  · rw [beq_iff_eq.2 he, if_pos he]
    have hne : (wrapped k old != x) = false := by rw [he]; simp
    have HE := Aside0.mk he
    clear he
    go_enter Try.func26, Try.ntmps26
    go_wp2_with fail
    go_region_with (go_at_call 27; refine (word_Wrap.calls _ _ _ _ _ A.out).mono ?_; rintro e w1 ⟨rfl, ⟨nd, rfl⟩⟩)
    all_goals go_wp2_with (go_at_call 22; refine (put_calls b o cs k x v _ (by repeat (first | exact HB.out | apply blk_drewN | apply blk_drew)) H0.out H1.out).mono ?_; rintro e w2 ⟨rfl, h2, h3⟩; have N2 := Aside0.mk h2; clear h2)
    all_goals go_ret
    all_goals exact ⟨rfl, N2.out, Below.trans (by repeat (first | exact Below.refl _ _ | apply pw_below_drewN | apply below_drew)) (h3.mono (Nat.le_refl _))⟩
  · rw [beq_eq_false_iff_ne.2 he, if_neg he]
    have hne : (wrapped k old != x) = true := bne_iff_ne.2 he
    have HE := Aside0.mk he
    clear he
    have hs : cs.setIfInBounds (o + 1) (.int .i64 x) = cs := by
      obtain ⟨hl, he⟩ := Array.getElem?_eq_some_iff.1 H1.out
      apply Array.ext (by simp)
      intro i h1 h2
      rw [Array.getElem_setIfInBounds]
      split
      · rename_i hi; subst hi; exact he.symm
      · rfl
    have HS := Aside0.mk hs
    clear hs
    go_enter Try.func26, Try.ntmps26
    go_wp2_with fail
    go_region_with (go_at_call 27; refine (word_Wrap.calls _ _ _ _ _ A.out).mono ?_; rintro e w1 ⟨rfl, ⟨nd, rfl⟩⟩)
    all_goals go_wp2
    all_goals go_ret
    all_goals exact ⟨rfl, by rw [HS.out]; repeat (first | exact HB.out | apply blk_drewN | apply blk_drew), by repeat (first | exact Below.refl _ _ | apply pw_below_drewN | apply below_drew)⟩

/-! #### Right -/
/-- Do all cells fit? -/
def allFit (l : List S44) : Bool := l.all fits
theorem rd_get (l : List S44) (i : Nat) (h : i < l.length) : rd_T44 l i = l[i] := by
  unfold rd_T44
  rw [List.getD_eq_getElem?_getD, Int.toNat_natCast, List.getElem?_eq_getElem h]; rfl

theorem all_at (l : List S44) (i : Nat) (hi : i < l.length) (hd : ∀ t : Nat, t < i → fits (rd_T44 l t) = true) (h : fits (rd_T44 l i) = true) : ∀ t : Nat, t < i + 1 → fits (rd_T44 l t) = true := by
  intro t ht
  by_cases e : t = i
  · subst e; exact h
  · exact hd t (by omega)
theorem all_end (l : List S44) (hd : ∀ t : Nat, t < l.length → fits (rd_T44 l t) = true) : allFit l = true := by
  unfold allFit
  rw [List.all_eq_true]
  intro x hx
  obtain ⟨t, ht, rfl⟩ := List.getElem_of_mem hx
  have := hd t ht
  rwa [rd_get l t ht] at this
theorem all_not (l : List S44) (i : Nat) (hi : i < l.length) (h : fits (rd_T44 l i) = false) : allFit l = false := by
  unfold allFit
  rw [rd_get l i hi] at h
  cases hq : l.all fits with
  | false => rfl
  | true => rw [List.all_eq_true] at hq; rw [hq _ (List.getElem_mem hi)] at h; exact absurd h (by simp)

set_option maxHeartbeats 1000000 in
set_option maxRecDepth 100000 in
theorem index_any (A : Option Addr) (c : Nat) (l : List S44) (w : World) (hC0 : Kd.C k44 w A l.length l) (hc0 : l.length ≤ c) :
    Calls Try.prog 35 #[.slice A l.length c, .func (.func 30) #[] #[]] w fun e w' => (∃ v : Int, e = .returned (.int .i64 v) ∧ decide (v ≥ 0) = !allFit l) ∧ Below w.heap.size w w' := by
  have hlen : l.length ≤ 9223372036854775807 := hC0.2.1
  have HC := Aside0.mk hC0
  clear hC0
  go_enter Try.func35, Try.ntmps35
  go_wp2
  go_loopg [5, 8] l.length (fun g v5 v8 wx => Aside0 (Below w.heap.size w wx) ∧ ∃ i : Nat, i + g = l.length ∧ v8 = .int .i64 i ∧ Aside0 (∀ t : Nat, t < i → fits (rd_T44 l t) = true))
  case atStart => exact ⟨⟨by repeat (first | exact Below.refl _ _ | apply pw_below_drewN | apply below_drew1)⟩, 0, by omega, rfl, ⟨fun t ht => absurd ht (by omega)⟩⟩
  case round =>
    obtain ⟨HB, i, hig, rfl, Hd⟩ := hrel
    cases gk with
    | zero =>
      have hi : i = l.length := by omega
      have He := Aside0.mk (all_end l (fun t ht => Hd.out t (by omega)))
      have hnot : ¬ ((i : Int) < (l.length : Int)) := by omega
      clear hi
      go_wp2
      go_ret
      exact ⟨⟨-1, rfl, by rw [He.out]; decide⟩, by repeat (first | exact HB.out | apply pw_below_drewN | apply below_drew1)⟩
    | succ go =>
      have hlt : i < l.length := by omega
      obtain ⟨ad, he, hx0, hx1⟩ := at_T44 HC.out (i : Int) (by omega) (by omega)
      cases he
      rw [Int.toNat_natCast] at hx0 hx1
      replace hx0 := (HB.out.cell (World.block_lt_of_cell? w _ hx0)).trans hx0
      replace hx1 := (HB.out.cell (World.block_lt_of_cell? w _ hx1)).trans hx1
      have hil : (i : Int) < (l.length : Int) := by omega
      by_cases hf : fits (rd_T44 l i) = true
      · have Hd2 := Aside0.mk (all_at l i hlt Hd.out hf)
        have hf2 : (!fits (rd_T44 l i)) = false := by rw [hf]; rfl
        have hne : ¬ (fits (rd_T44 l i) = false) := by rw [hf]; simp
        go_wp2_with (go_at_call 30; refine (misfit_calls (rd_T44 l i) _).mono ?_; rintro e w2 ⟨rfl, hb⟩; have NB := Aside0.mk (HB.out.trans (hb.mono (by have := HB.out.size; omega))))
        go_roundg go
        case rel => exact ⟨⟨by repeat (first | exact NB.out | apply pw_below_drewN | apply below_drew1)⟩, i + 1, by omega, by go_num, Hd2⟩
        case measure => omega
      · have hf' : fits (rd_T44 l i) = false := by simpa using hf
        have He := Aside0.mk (all_not l i hlt hf')
        clear hf
        go_wp2_with (go_at_call 30; refine (misfit_calls (rd_T44 l i) _).mono ?_; rintro e w2 ⟨rfl, hb⟩; have NB := Aside0.mk (HB.out.trans (hb.mono (by have := HB.out.size; omega))))
        go_ret
        exact ⟨⟨(i : Int), rfl, by rw [He.out]; exact decide_eq_true (by omega)⟩, by repeat (first | exact NB.out | apply pw_below_drewN | apply below_drew1)⟩

set_option maxHeartbeats 1000000 in
set_option maxRecDepth 100000 in
theorem contains_any (A : Option Addr) (c : Nat) (l : List S44) (w : World) (hC0 : Kd.C k44 w A l.length l) (hc0 : l.length ≤ c) :
    Calls Try.prog 29 #[.slice A l.length c, .func (.func 30) #[] #[]] w fun e w' => e = .returned (.bool (!allFit l)) ∧ Below w.heap.size w w' := by
  have HC := Aside0.mk hC0
  clear hC0
  go_enter Try.func29, Try.ntmps29
  go_wp2_with fail
  refine (index_any A c l _ HC.out hc0).mono ?_
  rintro e w1 ⟨⟨v, rfl, hv⟩, hb⟩
  have HV := Aside0.mk hv
  clear hv
  go_wp2
  go_ret
  exact ⟨by rw [← HV.out]; rfl, hb⟩

/-- May a memory be? -/
def okMem (l : List S44) : Bool := decide (l.length ≤ 64) && allFit l
set_option maxHeartbeats 1000000 in
set_option maxRecDepth 100000 in
theorem Right_any (A : Option Addr) (c : Nat) (l : List S44) (w : World) (hC0 : Kd.C k44 w A l.length l) (hc0 : l.length ≤ c) :
    Calls Try.prog 13 #[.slice A l.length c] w fun e w' => e = .returned (.bool (okMem l)) ∧ Below w.heap.size w w' := by
  have HC := Aside0.mk hC0
  clear hC0
  by_cases h : l.length ≤ 64
  · have h64 : (l.length : Int) ≤ 64 := by omega
    have HO := Aside0.mk (show okMem l = allFit l by unfold okMem; rw [decide_eq_true h]; simp)
    clear h
    go_enter Try.func13, Try.ntmps13
    go_wp2_with fail
    refine (contains_any A c l _ HC.out hc0).mono ?_
    rintro e w1 ⟨rfl, hb⟩
    go_wp2
    go_ret
    exact ⟨by rw [HO.out]; rfl, hb⟩
  · have h64 : ¬ ((l.length : Int) ≤ 64) := by omega
    have HO := Aside0.mk (show okMem l = false by unfold okMem; rw [decide_eq_false h]; simp)
    clear h
    go_enter Try.func13, Try.ntmps13
    go_wp2
    go_ret
    exact ⟨by rw [HO.out]; rfl, Below.refl _ _⟩

end Go.Proofs.Ytdecbngdmnmokaa.Hand
