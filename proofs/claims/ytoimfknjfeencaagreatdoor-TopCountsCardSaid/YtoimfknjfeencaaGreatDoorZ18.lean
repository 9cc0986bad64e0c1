/- Part of the walk of a law of the top, and what it leans on (Meth4, Meth5, Meth6). No conditions beyond those that each lemma names. -/
import Derived.Test.YtoimfknjfeencaaGreatDoorZ17
import Derived.Deep.RegionWith
set_option linter.unusedVariables false
set_option linter.unusedSimpArgs false
set_option maxHeartbeats 8000000
set_option maxRecDepth 100000
section
namespace Go.Proofs.YtoimfknjfeencaaGreatDoor.Hand
open Go.RowKit Go.Proofs.YtoimfknjfeencaaGreatDoorW.PrintWords Go.Proofs.YtoimfknjfeencaaGreatDoorW.PrintLast Go.Proofs.YtoimfknjfeencaaGreatDoorW.PrintMore
theorem bit_lk (a : Int) : bitOf a 0 = M.lk a := by unfold bitOf M.lk; simp
theorem bit_wk (a : Int) : bitOf a 1 = M.wk a := by unfold bitOf M.wk; simp
theorem bit_sv (a : Int) : bitOf a 2 = M.sv a := by unfold bitOf M.sv; rfl
theorem Cx.tabS {k : Blk} {s : Sx} {m : Nat} {x : M.Mutex} {L : List M.Sem} {y : M.Sem} (cx : Cx k s m x L y) : s.tab = tableOf (L.set m y) := by rw [set_self cx.ly]; exact cx.tab
theorem try83 {B m : Nat} {k : Blk} {s : Sx} {w : World} {x : M.Mutex} {L : List M.Sem} {y : M.Sem} (h : St B k s w) (cx : Cx k s m x L y) (hw : isW x.word = true) :
  Calls Tryz.prog 83 #[.pointer (some ⟨k.sp, 0, none⟩)] w (Dx B k (Rx s m L (M.tryR s.c x y)) w) := by
 have H0 := ak_ h
 have CX := ak_ cx
 have hm := cx.mp
 have mp_ := h.mp_ cx.mp
 have m0_ := h.m0 cx.mx
 clear h cx
 have hu81 := Tryz.underlying81
 have hu53 := Tryz.underlying53
 have hu44 := Tryz.underlying44
 have hu56 := Tryz.underlying56
 have HU := ak_ (unpack_yes x.word w hw)
 obtain ⟨b0, hb0⟩ : ∃ b, b = M.lk x.word := ⟨_, rfl⟩
 obtain ⟨b2, hb2⟩ : ∃ b, b = M.sv x.word := ⟨_, rfl⟩
 obtain ⟨b1, hb1⟩ : ∃ b, b = M.wk x.word := ⟨_, rfl⟩
 rw [bit_lk, bit_wk, bit_sv, ← hb0, ← hb1, ← hb2] at HU
 have HR : Aside0 (M.tryR s.c x y = if b0 || b2 then ⟨s.c, x, y, true, some 2, none, 0⟩ else ⟨M.see s.c x 9, x, y, false, none, none, 0⟩) := ⟨by unfold M.tryR; rw [hb0, hb2]⟩
 clear hb0 hb1 hb2
 have HF : ∀ b0 b2 : Bool, Aside0 (M.tryR s.c x y = if b0 || b2 then ⟨s.c, x, y, true, some 2, none, 0⟩ else ⟨M.see s.c x 9, x, y, false, none, none, 0⟩) → (b0 || b2) = true → Aside0 (M.tryR s.c x y = ⟨s.c, x, y, true, some 2, none, 0⟩) := fun b0 b2 h hb => ⟨by rw [h.out, if_pos hb]⟩
 go_enter Tryz.func83, Tryz.ntmps83
 go_wp2_with fail
 refine HU.out.mono ?_
 rintro e w1 ⟨rfl, hb⟩
 have H1 := ak_ ((H0.out.below hb).alloc (.cells #[.bool b0, .bool b1, .bool b2, .int .i64 (x.word / 8)] 56))
 have B1 := ak_ ((hb.mono H0.out.Blt).alloc (Nat.le_trans H0.out.Blt hb.size) (.cells #[.bool b0, .bool b1, .bool b2, .int .i64 (x.word / 8)] 56))
 clear hb mp_ m0_
 have z0 : (w1.alloc (.cells #[.bool b0, .bool b1, .bool b2, .int .i64 (x.word / 8)] 56)).cell? ⟨w1.heap.size, 0, none⟩ = some (.bool b0) := blk_cell (blk_new w1 _) 0
 have z2 : (w1.alloc (.cells #[.bool b0, .bool b1, .bool b2, .int .i64 (x.word / 8)] 56)).cell? ⟨w1.heap.size, 2, none⟩ = some (.bool b2) := blk_cell (blk_new w1 _) 2
 cases hbb : (b0 || b2) with
 | true =>
  have HR1 := HF b0 b2 HR hbb
  clear HF HR
  rcases (show b0 = true ∨ (b0 = false ∧ b2 = true) by cases b0 <;> cases b2 <;> simp at hbb ⊢) with rfl | ⟨rfl, rfl⟩
  all_goals
   clear hbb
   go_wp2_with (first | (go_at_call 113; refine (must113 _).mono ?_; rintro e w3 ⟨rfl, rfl⟩) | (go_at_call 114; refine (tell114 H1.out 2 CX.out.ev CX.out.evs).mono ?_; rintro e w3 ⟨rfl, hb, s3, ⟨v, rfl⟩, h3⟩; have H3 := ak_ h3; have B3 := ak_ (B1.out.trans hb); clear h3 hb) | (go_at_call 81; refine (end81 H3.out).mono ?_; rintro e w4 ⟨rfl, hb, s4, rfl, h4⟩; have H4 := ak_ h4; have B4 := ak_ (B3.out.trans hb); clear h4 hb))
   go_end0
   refine ⟨rfl, B4.out, _, ?_, H4.out⟩
   rw [HR1.out]
   exact ⟨rfl, (set_self CX.out.mx).symm, CX.out.tabS, rfl, rfl, CX.out.st, rfl, rfl, rfl, rfl, rfl, rfl⟩
 | false =>
  obtain ⟨rfl, rfl⟩ : b0 = false ∧ b2 = false := by cases b0 <;> cases b2 <;> simp at hbb ⊢
  have HR1 : Aside0 (M.tryR s.c x y = ⟨M.see s.c x 9, x, y, false, none, none, 0⟩) := ⟨by rw [HR.out]; rfl⟩
  clear HF HR hbb
  go_wp2_with (first | (go_at_call 113; refine (must113 _).mono ?_; rintro e w3 ⟨rfl, rfl⟩) | (go_at_call 115; refine (see115 H1.out m x CX.out.mp CX.out.mx 9).mono ?_; rintro e w4 ⟨rfl, hb, s4, rfl, h4⟩; have H4 := ak_ h4; have B4 := ak_ (B1.out.trans hb); clear h4 hb))
  go_end0
  refine ⟨rfl, B4.out, _, ?_, H4.out⟩
  rw [HR1.out]
  exact ⟨rfl, (set_self CX.out.mx).symm, CX.out.tabS, CX.out.ov, CX.out.evs, CX.out.st, rfl, rfl, rfl, rfl, rfl, rfl⟩
theorem take92 {B m : Nat} {k : Blk} {s : Sx} {w : World} {x : M.Mutex} {L : List M.Sem} {y : M.Sem} (h : St B k s w) (cx : Cx k s m x L y) (ho : OkOwn s.c.own.since s.c.own.rounds s.c.own.old) (hb : bitOf s.c.own.old 0 = false ∧ bitOf s.c.own.old 1 = false ∧ s.c.own.old / 8 ≠ 0) (hw : isW x.word = true) (hw1 : isW (x.word + M.handed s.c.own) = true) :
  Calls Tryz.prog 92 #[.pointer (some ⟨k.sp, 0, none⟩)] w (Dx B k (Rx s m L (M.takeR s.c x y)) w) := by
 have H0 := ak_ h
 have CX := ak_ cx
 have s1_ := h.s1
 have c8_ := h.c8
 have c9_ := h.c9
 have c10_ := h.c10
 have c11_ := h.c11
 have c12_ := h.c12
 clear h cx
 have hu81 := Tryz.underlying81
 have hu53 := Tryz.underlying53
 have hu44 := Tryz.underlying44
 have hu42 := Tryz.underlying42
 have HU := ak_ (handed_yes s.c.own.since s.c.own.starving s.c.own.awake s.c.own.rounds s.c.own.old w ho hb)
 have HH : M.handed s.c.own = (if !s.c.own.starving || decide (s.c.own.old / 8 = 1) then -11 else -7) := rfl
 rw [← HH] at HU
 obtain ⟨d, hd⟩ : ∃ d, d = M.handed s.c.own := ⟨_, rfl⟩
 rw [← hd] at HU hw1
 have HD := ak_ hd
 have hww : wrap64 (x.word + d) = x.word + d := by
  have h1 : 0 ≤ x.word + d ∧ (x.word + d) / 8 ≤ 268435455 := by simpa [isW] using hw1
  unfold wrap64; omega
 have HW1 := ak_ hw1
 clear HH hd hb ho hw1
 go_enter Tryz.func92, Tryz.ntmps92
 go_wp2_with fail
 refine HU.out.mono ?_
 rintro e w1 ⟨rfl, hb⟩
 have H1 := ak_ (H0.out.below hb)
 have B1 := ak_ (hb.mono H0.out.Blt)
 clear hb s1_
 have s1_ := H1.out.s1
 have mp_ := H1.out.mp_ CX.out.mp
 have m0_ := H1.out.m0 CX.out.mx
 go_wp2_with (first | (go_at_call 113; refine (must113 _).mono ?_; rintro e w3 ⟨rfl, rfl⟩) | (go_at_call 111; refine (put111 H1.out m x CX.out.mp CX.out.mx (x.word + d) HW1.out).mono ?_; rintro e w3 ⟨rfl, hb, s3, rfl, h3⟩; have H3 := ak_ h3; have B3 := ak_ (B1.out.trans hb); clear h3 hb) | (go_at_call 112; refine (got112 H3.out CX.out.ev CX.out.evs).mono ?_; rintro e w4 ⟨rfl, hb, s4, ⟨v, rfl⟩, h4⟩; have H4 := ak_ h4; have B4 := ak_ (B3.out.trans hb); clear h4 hb))
 go_end0
 refine ⟨rfl, B4.out, _, ?_, H4.out⟩
 exact ⟨rfl, by show s.mu.set m { x with word := x.word + d } = _; rw [HD.out]; rfl, CX.out.tabS, rfl, rfl, CX.out.st, rfl, rfl, rfl, rfl, rfl, rfl⟩
theorem unlockR_off (c : M.Client) (x : M.Mutex) (y : M.Sem) (h : M.lk x.word = false) : M.unlockR c x y = ⟨c, x, y, false, some 4, none, 11⟩ := by unfold M.unlockR; rw [h]; rfl
theorem unlockR_one (c : M.Client) (x : M.Mutex) (y : M.Sem) (h : x.word = 1) : M.unlockR c x y = ⟨c, { x with word := 0 }, y, true, some 3, none, 0⟩ := by unfold M.unlockR; rw [h]; rfl
theorem unlockR_sv (c : M.Client) (x : M.Mutex) (y : M.Sem) (h : M.lk x.word = true) (h1 : x.word ≠ 1) (h2 : M.sv x.word = true) : M.unlockR c x y = ⟨{ c with pc := 12 }, { x with word := x.word - 1 }, y, false, some 3, none, 0⟩ := by unfold M.unlockR; rw [h, h2, if_neg (by simp), if_neg h1]; rfl
theorem unlockR_no (c : M.Client) (x : M.Mutex) (y : M.Sem) (h : M.lk x.word = true) (h1 : x.word ≠ 1) (h2 : M.sv x.word = false) : M.unlockR c x y = ⟨M.see c { x with word := x.word - 1 } 10, { x with word := x.word - 1 }, y, false, some 3, none, 0⟩ := by unfold M.unlockR; rw [h, h2, if_neg (by simp), if_neg h1]; rfl
theorem leftV_off (a : Int) (h0 : 0 ≤ a) (h : M.lk a = false) : leftV (a - 1) = (false, false, 11) := by
 have h2 : a % 2 = 0 := by unfold M.lk at h; simp at h; omega
 unfold leftV
 by_cases c : a - 1 < 0
 ·rw [if_pos c]
 ·rw [if_neg c, if_neg (by omega), bit_lk, if_pos (by unfold M.lk; simp; omega)]
theorem leftV_sv (a : Int) (h0 : 0 ≤ a) (h : M.lk a = true) (h1 : a ≠ 1) : leftV (a - 1) = (false, M.sv a, 0) := by
 have h2 : a % 2 = 1 := by unfold M.lk at h; simpa using h
 have h3 : M.sv (a - 1) = M.sv a := by
  unfold M.sv
  have : (a - 1) / 4 = a / 4 := by omega
  rw [this]
 unfold leftV
 rw [if_neg (by omega), if_neg (by omega), bit_lk, if_neg (by unfold M.lk; simp; omega), bit_sv, h3]
 cases M.sv a <;> rfl
theorem unlock84 {B m : Nat} {k : Blk} {s : Sx} {w : World} {x : M.Mutex} {L : List M.Sem} {y : M.Sem} (h : St B k s w) (cx : Cx k s m x L y) (hw : isW x.word = true) :
  Calls Tryz.prog 84 #[.pointer (some ⟨k.sp, 0, none⟩)] w (Dx B k (Rx s m L (M.unlockR s.c x y)) w) := by
 have H0 := ak_ h
 have CX := ak_ cx
 have s0_ := h.s0
 have s1_ := h.s1
 have n5_ := h.n5
 have fn5_ := h.fn5
 have mp_ := h.mp_ cx.mp
 have m0_ := h.m0 cx.mx
 clear h cx
 have h01 : 0 ≤ x.word ∧ x.word / 8 ≤ 268435455 := by simpa [isW] using hw
 have hw1 : wrap64 (x.word - 1) = x.word - 1 := by unfold wrap64; omega
 have hm : isW (max (x.word - 1) 0) = true := by
  unfold isW
  apply decide_eq_true
  rcases Int.le_total (x.word - 1) 0 with c | c
  ·rw [Int.max_eq_right c]; omega
  ·rw [Int.max_eq_left c]; omega
 have HU := ak_ (left_yes (x.word - 1) w (by omega) hm)
 have hu81 := Tryz.underlying81
 have hu53 := Tryz.underlying53
 have hu44 := Tryz.underlying44
 have hu29 := Tryz.underlying29
 cases hlk : M.lk x.word with
 | false =>
  rw [leftV_off x.word h01.1 hlk] at HU
  have HR := ak_ (unlockR_off s.c x y hlk)
  clear hlk hm h01 hw
  go_enter Tryz.func84, Tryz.ntmps84
  go_wp2_with fail
  refine HU.out.mono ?_
  rintro e w1 ⟨rfl, hb⟩
  have H1 := ak_ (H0.out.below hb)
  have B1 := ak_ (hb.mono H0.out.Blt)
  clear hb s0_ s1_ n5_ fn5_ mp_ m0_
  have s0_ := H1.out.s0
  have n5_ := H1.out.n5
  have fn5_ := H1.out.fn5
  have H2 := ak_ (H1.out.putStop 11)
  have B2 := ak_ (B1.out.setCell (p := ⟨k.np, 5, none⟩) H0.out.lo_n (.int .i64 11))
  go_wp2_with (go_at_call 114; refine (tell114 H2.out 4 CX.out.ev CX.out.evs).mono ?_; rintro e w3 ⟨rfl, hb, s3, ⟨v, rfl⟩, h3⟩; have H3 := ak_ h3; have B3 := ak_ (B2.out.trans hb); clear h3 hb)
  go_end0
  refine ⟨rfl, B3.out, _, ?_, H3.out⟩
  rw [HR.out]
  exact ⟨rfl, (set_self CX.out.mx).symm, CX.out.tabS, CX.out.ov, rfl, rfl, rfl, rfl, rfl, rfl, rfl, rfl⟩
 | true =>
  have h2 : x.word % 2 = 1 := by unfold M.lk at hlk; simpa using hlk
  have HW1 : Aside0 (isW (x.word - 1) = true) := ⟨by unfold isW; apply decide_eq_true; omega⟩
  by_cases h1 : x.word = 1
  ·have hv : leftV (x.word - 1) = (true, false, 0) := by rw [h1]; rfl
   rw [hv] at HU
   have HR := ak_ (unlockR_one s.c x y h1)
   have HE := ak_ h1
   clear hlk hm h01 hw h2 h1 hv
   go_enter Tryz.func84, Tryz.ntmps84
   go_wp2_with fail
   refine HU.out.mono ?_
   rintro e w1 ⟨rfl, hb⟩
   have H1 := ak_ (H0.out.below hb)
   have B1 := ak_ (hb.mono H0.out.Blt)
   clear hb s0_ s1_ n5_ fn5_ mp_ m0_
   have mp_ := H1.out.mp_ CX.out.mp
   have m0_ := H1.out.m0 CX.out.mx
   go_wp2_with (first | (go_at_call 113; refine (must113 _).mono ?_; rintro e w3 ⟨rfl, rfl⟩) | (go_at_call 111; refine (put111 H1.out m x CX.out.mp CX.out.mx (x.word - 1) HW1.out).mono ?_; rintro e w2 ⟨rfl, hb, s2, rfl, h2⟩; have H2 := ak_ h2; have B2 := ak_ (B1.out.trans hb); clear h2 hb) | (go_at_call 114; refine (tell114 H2.out 3 CX.out.ev CX.out.evs).mono ?_; rintro e w3 ⟨rfl, hb, s3, ⟨v, rfl⟩, h3⟩; have H3 := ak_ h3; have B3 := ak_ (B2.out.trans hb); clear h3 hb) | (go_at_call 81; refine (end81 H3.out).mono ?_; rintro e w4 ⟨rfl, hb, s4, rfl, h4⟩; have H4 := ak_ h4; have B4 := ak_ (B3.out.trans hb); clear h4 hb))
   go_end0
   refine ⟨rfl, B4.out, _, ?_, H4.out⟩
   rw [HR.out]
   exact ⟨rfl, by show s.mu.set m { x with word := x.word - 1 } = _; rw [HE.out]; rfl, CX.out.tabS, rfl, rfl, CX.out.st, rfl, rfl, rfl, rfl, rfl, rfl⟩
  ·rw [leftV_sv x.word h01.1 hlk h1] at HU
   cases hsv : M.sv x.word with
   | true =>
    rw [hsv] at HU
    have HR := ak_ (unlockR_sv s.c x y hlk h1 hsv)
    clear hlk hm h01 hw h2 h1 hsv
    go_enter Tryz.func84, Tryz.ntmps84
    go_wp2_with fail
    refine HU.out.mono ?_
    rintro e w1 ⟨rfl, hb⟩
    have H1 := ak_ (H0.out.below hb)
    have B1 := ak_ (hb.mono H0.out.Blt)
    clear hb s0_ s1_ n5_ fn5_ mp_ m0_
    have mp_ := H1.out.mp_ CX.out.mp
    have m0_ := H1.out.m0 CX.out.mx
    go_wp2_with (first | (go_at_call 113; refine (must113 _).mono ?_; rintro e w3 ⟨rfl, rfl⟩) | (go_at_call 111; refine (put111 H1.out m x CX.out.mp CX.out.mx (x.word - 1) HW1.out).mono ?_; rintro e w2 ⟨rfl, hb, s2, rfl, h2⟩; have H2 := ak_ h2; have B2 := ak_ (B1.out.trans hb); clear h2 hb) | (go_at_call 114; refine (tell114 H2.out 3 CX.out.ev CX.out.evs).mono ?_; rintro e w3 ⟨rfl, hb, s3, ⟨v, rfl⟩, h3⟩; have H3 := ak_ h3; have B3 := ak_ (B2.out.trans hb); have s1_ := H3.out.s1; have c3_ := H3.out.c3; have fc3_ := H3.out.fc3; clear h3 hb))
    go_end0
    refine ⟨rfl, B3.out.setCell (p := ⟨k.cp, 3, none⟩) H0.out.lo_c _, _, ?_, H3.out.putc 3 (.int .i64 12) { s.c with pc := 12 } rfl⟩
    rw [HR.out]
    exact ⟨rfl, rfl, CX.out.tabS, CX.out.ov, rfl, CX.out.st, rfl, rfl, rfl, rfl, rfl, rfl⟩
   | false =>
    rw [hsv] at HU
    have HR := ak_ (unlockR_no s.c x y hlk h1 hsv)
    clear hlk hm h01 hw h2 h1 hsv
    go_enter Tryz.func84, Tryz.ntmps84
    go_wp2_with fail
    refine HU.out.mono ?_
    rintro e w1 ⟨rfl, hb⟩
    have H1 := ak_ (H0.out.below hb)
    have B1 := ak_ (hb.mono H0.out.Blt)
    clear hb s0_ s1_ n5_ fn5_ mp_ m0_
    have mp_ := H1.out.mp_ CX.out.mp
    have m0_ := H1.out.m0 CX.out.mx
    go_wp2_with (first | (go_at_call 113; refine (must113 _).mono ?_; rintro e w3 ⟨rfl, rfl⟩) | (go_at_call 111; refine (put111 H1.out m x CX.out.mp CX.out.mx (x.word - 1) HW1.out).mono ?_; rintro e w2 ⟨rfl, hb, s2, rfl, h2⟩; have H2 := ak_ h2; have B2 := ak_ (B1.out.trans hb); clear h2 hb) | (go_at_call 114; refine (tell114 H2.out 3 CX.out.ev CX.out.evs).mono ?_; rintro e w3 ⟨rfl, hb, s3, ⟨v, rfl⟩, h3⟩; have H3 := ak_ h3; have B3 := ak_ (B2.out.trans hb); clear h3 hb) | (go_at_call 115; refine (see115 H3.out m { x with word := x.word - 1 } CX.out.mp (set_at_same CX.out.mx) 10).mono ?_; rintro e w4 ⟨rfl, hb, s4, rfl, h4⟩; have H4 := ak_ h4; have B4 := ak_ (B3.out.trans hb); clear h4 hb))
    go_end0
    refine ⟨rfl, B4.out, _, ?_, H4.out⟩
    rw [HR.out]
    exact ⟨rfl, rfl, CX.out.tabS, CX.out.ov, rfl, CX.out.st, rfl, rfl, rfl, rfl, rfl, rfl⟩
theorem give94 {B m : Nat} {k : Blk} {s : Sx} {w : World} {x : M.Mutex} {L : List M.Sem} {y : M.Sem} (h : St B k s w) (cx : Cx k s m x L y) (hw : isW s.c.own.old = true) :
  Calls Tryz.prog 94 #[.pointer (some ⟨k.sp, 0, none⟩)] w (Dx B k (Rx s m L (M.giveR s.c x y)) w) := by
 have H0 := ak_ h
 have CX := ak_ cx
 have s1_ := h.s1
 have c12_ := h.c12
 clear h cx
 have h01 : 0 ≤ s.c.own.old ∧ s.c.own.old / 8 ≤ 268435455 := by simpa [isW] using hw
 have HU := ak_ (giveWakes_yes s.c.own.old w hw)
 rw [bit_lk, bit_wk, bit_sv] at HU
 have hu81 := Tryz.underlying81
 have hu53 := Tryz.underlying53
 have hu44 := Tryz.underlying44
 have hu42 := Tryz.underlying42
 obtain ⟨q, hq⟩ : ∃ q, q = (decide (s.c.own.old / 8 = 0) || M.lk s.c.own.old || M.wk s.c.own.old || M.sv s.c.own.old) := ⟨_, rfl⟩
 rw [← hq] at HU
 cases q with
 | true =>
  have HR : Aside0 (M.giveR s.c x y = ⟨s.c, x, y, true, none, none, 0⟩) := ⟨by unfold M.giveR; rw [← hq]; rfl⟩
  clear hq h01 hw
  simp only [Bool.not_true, if_true] at HU
  go_enter Tryz.func94, Tryz.ntmps94
  go_wp2_with fail
  refine HU.out.mono ?_
  rintro e w1 ⟨rfl, hb⟩
  have H1 := ak_ (H0.out.below hb)
  have B1 := ak_ (hb.mono H0.out.Blt)
  clear hb s1_ c12_
  go_wp2_with (first | (go_at_call 113; refine (must113 _).mono ?_; rintro e w3 ⟨rfl, rfl⟩) | (go_at_call 81; refine (end81 H1.out).mono ?_; rintro e w4 ⟨rfl, hb, s4, rfl, h4⟩; have H4 := ak_ h4; have B4 := ak_ (B1.out.trans hb); clear h4 hb))
  go_end0
  refine ⟨rfl, B4.out, _, ?_, H4.out⟩
  rw [HR.out]
  exact ⟨rfl, (set_self CX.out.mx).symm, CX.out.tabS, rfl, CX.out.evs, CX.out.st, rfl, rfl, rfl, rfl, rfl, rfl⟩
 | false =>
  have hbits : s.c.own.old / 8 ≠ 0 ∧ s.c.own.old % 2 = 0 ∧ s.c.own.old / 2 % 2 = 0 ∧ s.c.own.old / 4 % 2 = 0 := by
   have := hq.symm
   simp only [Bool.or_eq_false_iff, decide_eq_false_iff_not] at this
   obtain ⟨⟨⟨a1, a2⟩, a3⟩, a4⟩ := this
   unfold M.lk at a2
   unfold M.wk at a3
   unfold M.sv at a4
   simp at a2 a3 a4
   omega
  have e1 : 8 * (s.c.own.old / 8 - 1) + 2 = s.c.own.old - 6 := by omega
  have HW1 : Aside0 (isW (s.c.own.old - 6) = true) := ⟨by unfold isW; apply decide_eq_true; omega⟩
  simp only [Bool.not_false, Bool.false_eq_true, if_false] at HU
  rw [e1] at HU
  by_cases hqq : x.word = s.c.own.old
  ·have HR : Aside0 (M.giveR s.c x y = ⟨{ s.c with pc := 12 }, { x with word := s.c.own.old - 6 }, y, false, none, none, 0⟩) := ⟨by unfold M.giveR; rw [← hq, if_pos hqq, hqq]; rfl⟩
   have hne : (x.word == s.c.own.old) = true := by simp [hqq]
   have HS := ak_ (fun w (h : St B k s w) => same120 h m x CX.out.mp CX.out.mx)
   rw [hne] at HS
   clear hq h01 hw hbits hqq hne e1
   go_enter Tryz.func94, Tryz.ntmps94
   go_wp2_with fail
   refine HU.out.mono ?_
   rintro e w1 ⟨rfl, hb⟩
   have H1 := ak_ (H0.out.below hb)
   have B1 := ak_ (hb.mono H0.out.Blt)
   clear hb s1_ c12_
   go_wp2_with (first | (go_at_call 113; refine (must113 _).mono ?_; rintro e w3 ⟨rfl, rfl⟩) | (go_at_call 120; refine (HS.out _ H1.out).mono ?_; rintro e w2 ⟨rfl, hb⟩; have H2 := ak_ (H1.out.below hb); have B2 := ak_ (B1.out.trans (hb.mono H1.out.Blt)); clear hb) | (go_at_call 111; refine (put111 H2.out m x CX.out.mp CX.out.mx (s.c.own.old - 6) HW1.out).mono ?_; rintro e w3 ⟨rfl, hb, s3, rfl, h3⟩; have H3 := ak_ h3; have B3 := ak_ (B2.out.trans hb); have s1_ := H3.out.s1; have c3_ := H3.out.c3; have fc3_ := H3.out.fc3; clear h3 hb))
   go_end0
   refine ⟨rfl, B3.out.setCell (p := ⟨k.cp, 3, none⟩) H0.out.lo_c _, _, ?_, H3.out.putc 3 (.int .i64 12) { s.c with pc := 12 } rfl⟩
   rw [HR.out]
   exact ⟨rfl, rfl, CX.out.tabS, CX.out.ov, CX.out.evs, CX.out.st, rfl, rfl, rfl, rfl, rfl, rfl⟩
  ·have HR : Aside0 (M.giveR s.c x y = ⟨{ s.c with pc := 11 }, x, y, false, none, none, 0⟩) := ⟨by unfold M.giveR; rw [← hq, if_neg hqq]; rfl⟩
   have hne : (x.word == s.c.own.old) = false := by simp [hqq]
   have HS := ak_ (fun w (h : St B k s w) => same120 h m x CX.out.mp CX.out.mx)
   rw [hne] at HS
   clear hq h01 hw hbits hqq hne e1
   go_enter Tryz.func94, Tryz.ntmps94
   go_wp2_with fail
   refine HU.out.mono ?_
   rintro e w1 ⟨rfl, hb⟩
   have H1 := ak_ (H0.out.below hb)
   have B1 := ak_ (hb.mono H0.out.Blt)
   clear hb s1_ c12_
   go_wp2_with (first | (go_at_call 113; refine (must113 _).mono ?_; rintro e w3 ⟨rfl, rfl⟩) | (go_at_call 120; refine (HS.out _ H1.out).mono ?_; rintro e w2 ⟨rfl, hb⟩; have H2 := ak_ (H1.out.below hb); have B2 := ak_ (B1.out.trans (hb.mono H1.out.Blt)); have s1_ := H2.out.s1; have c3_ := H2.out.c3; have fc3_ := H2.out.fc3; clear hb))
   go_end0
   refine ⟨rfl, B2.out.setCell (p := ⟨k.cp, 3, none⟩) H0.out.lo_c _, _, ?_, H2.out.putc 3 (.int .i64 11) { s.c with pc := 11 } rfl⟩
   rw [HR.out]
   exact ⟨rfl, (set_self CX.out.mx).symm, CX.out.tabS, CX.out.ov, CX.out.evs, CX.out.st, rfl, rfl, rfl, rfl, rfl, rfl⟩
theorem gor_fresh (g : M.Gor) (w : World) : kGor.C (w.alloc (.cells (encGor g).toArray 40)) (some ⟨w.heap.size, 0, none⟩) 1 [g] := by
 obtain ⟨A, c, e, _, h⟩ := Sl.one (h1 := fun _ => rfl) (h2 := fun x u h => by simp [encGor] at h; rcases h with rfl | rfl <;> rfl) (sz := 2) (enc := encGor) (t := 40) g (blk_new w (.cells (encGor g).toArray 40))
 cases e
 exact h
theorem rest90 {B m : Nat} {k : Blk} {s : Sx} {w : World} {x : M.Mutex} {L : List M.Sem} {y : M.Sem} (h : St B k s w) (cx : Cx k s m x L y) (hd : spin_Done.f x.line.next x.line.serve = some (x.line.next, (x.line.serve + 1) % 4294967296, 0)) (hg : s.c.told = false → s.c.gor = ⟨0, false⟩) :
  Calls Tryz.prog 90 #[.pointer (some ⟨k.sp, 0, none⟩)] w (Dx B k (Rx s m L (M.restR s.c x y)) w) := by
 have H0 := ak_ h
 have CX := ak_ cx
 have HD := ak_ hd
 clear h cx hd
 have hu81 := Tryz.underlying81
 have hu53 := Tryz.underlying53
 have hu44 := Tryz.underlying44
 have hu40 := Tryz.underlying40
 have hu65 := Tryz.underlying65
 obtain ⟨b, hb0⟩ : ∃ b, b = s.c.told := ⟨_, rfl⟩
 rw [← hb0] at hg
 have HT := ak_ hb0
 have HR : Aside0 (M.restR s.c x y = ⟨{ s.c with gor := if b then s.c.gor else ⟨1, false⟩, pc := 7 }, M.served x, y, false, none, none, 0⟩) := ⟨by unfold M.restR; rw [hb0]⟩
 clear hb0
 go_enter Tryz.func90, Tryz.ntmps90
 go_wp2_with fail
 refine (serve126 H0.out CX.out.mp CX.out.mx _ _ HD.out).mono ?_
 rintro e w1 ⟨rfl, hb, s1, rfl, h1⟩
 have H1 := ak_ h1
 have B1 := ak_ hb
 clear h1 hb
 have s1_ := H1.out.s1
 have c3_ := H1.out.c3
 have fc3_ := H1.out.fc3
 have c7_ := H1.out.c7
 simp only at c3_ c7_
 rw [← HT.out] at c7_
 have H2 := ak_ (H1.out.putc 3 (.int .i64 7) { s.c with pc := 7 } rfl)
 have B2 := ak_ (B1.out.setCell (p := ⟨k.cp, 3, none⟩) H0.out.lo_c (.int .i64 7))
 cases b with
 | true =>
  go_wp2
  go_end0
  refine ⟨rfl, B2.out, _, ?_, H2.out⟩
  rw [HR.out]
  exact ⟨rfl, rfl, CX.out.tabS, CX.out.ov, CX.out.evs, CX.out.st, rfl, rfl, rfl, rfl, rfl, rfl⟩
 | false =>
  have hgg := hg rfl
  have c0_ := H1.out.c0
  have c1_ := H1.out.c1
  simp only at c0_ c1_
  rw [hgg] at c0_ c1_
  clear hg
  have hz : (w1.setCell ⟨k.cp, 3, none⟩ (.int .i64 7)).heap.size = w1.heap.size := by simp
  have HG : Aside0 (kGor.C ((w1.setCell ⟨k.cp, 3, none⟩ (.int .i64 7)).alloc (.cells #[.int .i64 0, .bool false] 40)) (some ⟨w1.heap.size, 0, none⟩) 1 [⟨0, false⟩]) := ⟨by
   have := gor_fresh ⟨0, false⟩ (w1.setCell ⟨k.cp, 3, none⟩ (.int .i64 7))
   rw [hz] at this
   exact this⟩
  go_wp2_with fail
  refine (park1 (some ⟨w1.heap.size, 0, none⟩) 1 ((w1.setCell ⟨k.cp, 3, none⟩ (.int .i64 7)).alloc (.cells #[.int .i64 0, .bool false] 40)) HG.out).mono ?_
  rintro e w3 ⟨v3, rfl, hS, hb⟩
  have H3 := ak_ ((H2.out.alloc (.cells #[.int .i64 0, .bool false] 40)).below hb)
  have B3 := ak_ ((B2.out.alloc H2.out.Blt (.cells #[.int .i64 0, .bool false] 40)).trans (hb.mono (H2.out.alloc _).Blt))
  obtain ⟨A3, n3, rfl, _, hC⟩ := hS
  obtain ⟨ad, rfl, g0, gj⟩ := flat_cells hC 0 _ rfl
  have y0 := g0 _ rfl
  have y1 := gj 1 _ (by decide) rfl
  have e0 : ad.add (0 * 2) = ad := rfl
  rw [e0] at y0 y1
  have s1_ := H3.out.s1
  have fc0_ := H3.out.fc0
  have fc1_ := H3.out.fc1
  have c0_ := H3.out.c0
  have c1_ := H3.out.c1
  clear hb hC g0 gj e0 c3_ fc3_ c7_ HG hz
  go_wp2_with (go_at_call 113; refine (must113 _).mono ?_; rintro e w3 ⟨rfl, rfl⟩)
  go_region
  all_goals go_end0
  refine ⟨rfl, below_drew ((B3.out.setCell (p := ⟨k.cp, 0, none⟩) H0.out.lo_c _).setCell (p := ⟨k.cp, 1, none⟩) H0.out.lo_c _), _, ?_, ((H3.out.putc 0 (.int .i64 1) { s.c with pc := 7, gor := { s.c.gor with state := 1 } } rfl).putc 1 (.bool false) { s.c with pc := 7, gor := ⟨1, false⟩ } rfl).drew⟩
  rw [HR.out]
  exact ⟨rfl, rfl, CX.out.tabS, CX.out.ov, CX.out.evs, CX.out.st, rfl, rfl, rfl, rfl, rfl, rfl⟩
def WakeS (k : Blk) (s : Sx) (m : Nat) (x : M.Mutex) (w' : World) : Prop := w'.cell? ⟨k.sp, 0, none⟩ = some (.pointer (some ⟨k.np, 0, none⟩)) ∧ w'.cell? ⟨k.sp, 1, none⟩ = some (.pointer (some ⟨k.cp, 0, none⟩)) ∧ w'.cell? ⟨k.sp, 2, none⟩ = some (.pointer (some ⟨k.mb, m * 3, none⟩)) ∧ w'.cell? ⟨k.np, 0, none⟩ = some (.int .i64 s.now) ∧ w'.cell? ⟨k.mb, m * 3, none⟩ = some (.int .i64 x.word) ∧ w'.cell? ⟨k.cp, 8, none⟩ = some (.int .i64 s.c.own.since) ∧ w'.cell? ⟨k.cp, 9, none⟩ = some (.bool s.c.own.starving) ∧ w'.cell? ⟨k.cp, 10, none⟩ = some (.bool s.c.own.awake) ∧ w'.cell? ⟨k.cp, 11, none⟩ = some (.int .i64 s.c.own.rounds) ∧ w'.cell? ⟨k.cp, 12, none⟩ = some (.int .i64 s.c.own.old)
theorem wakeS_of {B : Nat} {k : Blk} {s : Sx} {m : Nat} {x : M.Mutex} {w : World} (h : St B k s w) (hm : s.mp = .pointer (some ⟨k.mb, m * 3, none⟩)) (hx : s.mu[m]? = some x) : WakeS k s m x w := ⟨h.s0, h.s1, h.mp_ hm, h.n0, h.m0 hx, h.c8, h.c9, h.c10, h.c11, h.c12⟩
theorem own5 {g : Nat} {w : World} {a b c d e : Value} (h : w.heap[g]? = some (.cells #[a, b, c, d, e] 42 (0, 0))) (q0 q1 q2 q3 q4 : Value) : (((((w.setCell ⟨g, 0, none⟩ q0).setCell ⟨g, 1, none⟩ q1).setCell ⟨g, 2, none⟩ q2).setCell ⟨g, 3, none⟩ q3).setCell ⟨g, 4, none⟩ q4).heap[g]? = some (.cells #[q0, q1, q2, q3, q4] 42 (0, 0)) :=
 blk_put (blk_put (blk_put (blk_put (blk_put h 0 q0 rfl) 1 q1 rfl) 2 q2 rfl) 3 q3 rfl) 4 q4 rfl
theorem below5 {B : Nat} {w0 w : World} (h : Below B w0 w) {g : Nat} (hg : B ≤ g) (q0 q1 q2 q3 q4 : Value) : Below B w0 (((((w.setCell ⟨g, 0, none⟩ q0).setCell ⟨g, 1, none⟩ q1).setCell ⟨g, 2, none⟩ q2).setCell ⟨g, 3, none⟩ q3).setCell ⟨g, 4, none⟩ q4) :=
 ((((h.setCell (p := ⟨g, 0, none⟩) hg q0).setCell (p := ⟨g, 1, none⟩) hg q1).setCell (p := ⟨g, 2, none⟩) hg q2).setCell (p := ⟨g, 3, none⟩) hg q3).setCell (p := ⟨g, 4, none⟩) hg q4
theorem St.putOwn {B : Nat} {k : Blk} {s : Sx} {w : World} (h : St B k s w) (q0 : Int) (q1 q2 : Bool) (q3 q4 : Int) : St B k { s with c := { s.c with own := ⟨q0, q1, q2, q3, q4⟩ } } (((((w.setCell ⟨k.cp, 8, none⟩ (.int .i64 q0)).setCell ⟨k.cp, 9, none⟩ (.bool q1)).setCell ⟨k.cp, 10, none⟩ (.bool q2)).setCell ⟨k.cp, 11, none⟩ (.int .i64 q3)).setCell ⟨k.cp, 12, none⟩ (.int .i64 q4)) :=
 ((((h.putc 8 (.int .i64 q0) { s.c with own := { s.c.own with since := q0 } } rfl).putc 9 (.bool q1) { s.c with own := { s.c.own with since := q0, starving := q1 } } rfl).putc 10 (.bool q2) { s.c with own := { s.c.own with since := q0, starving := q1, awake := q2 } } rfl).putc 11 (.int .i64 q3) { s.c with own := { s.c.own with since := q0, starving := q1, awake := q2, rounds := q3 } } rfl).putc 12 (.int .i64 q4) { s.c with own := ⟨q0, q1, q2, q3, q4⟩ } rfl
theorem below_own {B cp : Nat} {w0 w : World} (h : Below B w0 w) (hc : B ≤ cp) (q0 q1 q2 q3 q4 : Value) : Below B w0 (((((w.setCell ⟨cp, 8, none⟩ q0).setCell ⟨cp, 9, none⟩ q1).setCell ⟨cp, 10, none⟩ q2).setCell ⟨cp, 11, none⟩ q3).setCell ⟨cp, 12, none⟩ q4) :=
 ((((h.setCell (p := ⟨cp, 8, none⟩) hc q0).setCell (p := ⟨cp, 9, none⟩) hc q1).setCell (p := ⟨cp, 10, none⟩) hc q2).setCell (p := ⟨cp, 11, none⟩) hc q3).setCell (p := ⟨cp, 12, none⟩) hc q4
theorem wake91 {B m : Nat} {k : Blk} {s : Sx} {w : World} {x : M.Mutex} {L : List M.Sem} {y : M.Sem} (h : St B k s w) (cx : Cx k s m x L y) (ho : OkOwn s.c.own.since s.c.own.rounds s.c.own.old) (hn : okT s.now) (hw : isW x.word = true) :
  Calls Tryz.prog 91 #[.pointer (some ⟨k.sp, 0, none⟩)] w (Dx B k (Rx s m L (M.wakeR s.now s.c x y)) w) := by
 have H0 := ak_ h
 have CX := ak_ cx
 have hm := cx.mp
 have hx := cx.mx
 have s0_ := h.s0
 have s1_ := h.s1
 have mp_ := h.mp_ hm
 have m0_ := h.m0 hx
 have n0_ := h.n0
 have c8_ := h.c8
 have c9_ := h.c9
 have c10_ := h.c10
 have c11_ := h.c11
 have c12_ := h.c12
 clear h cx
 have hu81 := Tryz.underlying81
 have hu53 := Tryz.underlying53
 have hu44 := Tryz.underlying44
 have hu42 := Tryz.underlying42
 have hu29 := Tryz.underlying29
 have hse : (s.c.own.starving || ((s.c.own.since != -1) && decide (1000000 < s.now - s.c.own.since))) = (s.c.own.starving || M.late s.now s.c.own) := by
  unfold M.late
  congr 1
  congr 1
  by_cases q : s.c.own.since = -1 <;> simp [q]
 have HU := ak_ (fun w => wake_yes s.c.own.since s.c.own.starving s.c.own.awake s.c.own.rounds s.c.own.old s.now x.word w ho hn hw)
 rw [hse, bit_sv] at HU
 obtain ⟨b, hb0⟩ : ∃ b, b = M.sv x.word := ⟨_, rfl⟩
 rw [← hb0] at HU
 obtain ⟨sb, hsb⟩ : ∃ sb, sb = (s.c.own.starving || M.late s.now s.c.own) := ⟨_, rfl⟩
 rw [← hsb] at HU
 obtain ⟨o1, ho1⟩ : ∃ o1 : M.Own, o1 = ⟨s.c.own.since, sb, s.c.own.awake || !b, if b then s.c.own.rounds else 0, x.word⟩ := ⟨_, rfl⟩
 have HR : Aside0 (M.wakeR s.now s.c x y = ⟨{ s.c with own := o1, pc := if b then 8 else 2 }, x, y, false, none, none, 0⟩) := ⟨by
  unfold M.wakeR
  rw [← hb0, ho1, ← hsb]
  cases b <;> simp⟩
 have HO : Aside0 (∀ w, Calls Tryz.prog 128 #[.agg #[.int .i64 s.c.own.since, .bool s.c.own.starving, .bool s.c.own.awake, .int .i64 s.c.own.rounds, .int .i64 s.c.own.old], .int .i64 s.now, .int .i64 x.word] w fun e w' => e = .returned (.tuple #[.agg #[.int .i64 o1.since, .bool o1.starving, .bool o1.awake, .int .i64 o1.rounds, .int .i64 o1.old], .bool b, .int .i64 0]) ∧ Below w.heap.size w w') := ⟨by rw [ho1]; exact HU.out⟩
 obtain ⟨q0, q1, q2, q3, q4⟩ := o1
 clear hb0 hsb ho1 hse ho hn hw HU
 go_enter Tryz.func91, Tryz.ntmps91
 go_wp2
 refine wp_region_held_drew (S := (fun w' => w'.cell? ⟨k.sp, 0, none⟩ = some (.pointer (some ⟨k.np, 0, none⟩)) ∧ w'.cell? ⟨k.sp, 1, none⟩ = some (.pointer (some ⟨k.cp, 0, none⟩)) ∧ w'.cell? ⟨k.sp, 2, none⟩ = some (.pointer (some ⟨k.mb, m * 3, none⟩)) ∧ w'.cell? ⟨k.np, 0, none⟩ = some (.int .i64 s.now) ∧ w'.cell? ⟨k.mb, m * 3, none⟩ = some (.int .i64 x.word) ∧ w'.cell? ⟨k.cp, 8, none⟩ = some (.int .i64 s.c.own.since) ∧ w'.cell? ⟨k.cp, 9, none⟩ = some (.bool s.c.own.starving) ∧ w'.cell? ⟨k.cp, 10, none⟩ = some (.bool s.c.own.awake) ∧ w'.cell? ⟨k.cp, 11, none⟩ = some (.int .i64 s.c.own.rounds) ∧ w'.cell? ⟨k.cp, 12, none⟩ = some (.int .i64 s.c.own.old))) (by kernel_rfl) ?hS_1 (fun hHeld => ?rest_1)
 case hS_1 => ((try dsimp only); exact wakeS_of H0.out.drew hm hx)
 refine tk1 (i := 0) (by (try simp only [g1_, g2_, g3_]); exact rfl) (by kernel_rfl) (by assumption) (by kernel_rfl) (by intro w hSw; (try dsimp only at hSw); go_simp; first | done | with_reducible rfl | rfl) (by exact fun _ _ _ h => h) ?_
 try simp only [Act.put, p1_, p2_, p3_]
 refine tk1 (i := 1) (by (try simp only [g1_, g2_, g3_]); exact rfl) (by kernel_rfl) (by assumption) (by kernel_rfl) (by intro w hSw; (try dsimp only at hSw); go_simp; first | done | with_reducible rfl | rfl) (by exact fun _ _ _ h => h) ?_
 try simp only [Act.put, p1_, p2_, p3_]
 refine tk1 (i := 2) (by (try simp only [g1_, g2_, g3_]); exact rfl) (by kernel_rfl) (by assumption) (by kernel_rfl) (by intro w hSw; (try dsimp only at hSw); go_simp; first | done | with_reducible rfl | rfl) (by exact fun _ _ _ h => h) ?_
 try simp only [Act.put, p1_, p2_, p3_]
 refine tk1 (i := 3) (by (try simp only [g1_, g2_, g3_]); exact rfl) (by kernel_rfl) (by assumption) (by kernel_rfl) (by intro w hSw; (try dsimp only at hSw); go_simp; first | done | with_reducible rfl | rfl) (by exact fun _ _ _ h => h) ?_
 try simp only [Act.put, p1_, p2_, p3_]
 refine tk1 (i := 4) (by (try simp only [g1_, g2_, g3_]); exact rfl) (by kernel_rfl) (by assumption) (by kernel_rfl) (by intro w hSw; (try dsimp only at hSw); go_simp; first | done | with_reducible rfl | rfl) (by exact fun _ _ _ h => h) ?_
 try simp only [Act.put, p1_, p2_, p3_]
 refine tk1 (i := 5) (by (try simp only [g1_, g2_, g3_]); exact rfl) (by kernel_rfl) (by assumption) (by kernel_rfl) (by intro w hSw; (try dsimp only at hSw); go_simp; first | done | with_reducible rfl | rfl) (by exact fun _ _ _ h => h) ?_
 try simp only [Act.put, p1_, p2_, p3_]
 refine tk1 (i := 6) (by (try simp only [g1_, g2_, g3_]); exact rfl) (by kernel_rfl) (by assumption) (by kernel_rfl) (by intro w hSw; (try dsimp only at hSw); go_simp; first | done | with_reducible rfl | rfl) (by exact fun _ _ _ h => h) ?_
 try simp only [Act.put, p1_, p2_, p3_]
 refine tk1 (i := 7) (by (try simp only [g1_, g2_, g3_]); exact rfl) (by kernel_rfl) (by assumption) (by kernel_rfl) (by intro w hSw; (try dsimp only at hSw); go_simp; first | done | with_reducible rfl | rfl) (by exact fun _ _ _ h => h) ?_
 try simp only [Act.put, p1_, p2_, p3_]
 refine tk1 (i := 8) (by (try simp only [g1_, g2_, g3_]); exact rfl) (by kernel_rfl) (by assumption) (by kernel_rfl) (by intro w hSw; (try dsimp only at hSw); go_simp; first | done | with_reducible rfl | rfl) (by exact fun _ _ _ h => h) ?_
 try simp only [Act.put, p1_, p2_, p3_]
 refine tk1 (i := 9) (by (try simp only [g1_, g2_, g3_]); exact rfl) (by kernel_rfl) (by assumption) (by kernel_rfl) (by intro w hSw; (try dsimp only at hSw); go_simp; first | done | with_reducible rfl | rfl) (by exact fun _ _ _ h => h) ?_
 try simp only [Act.put, p1_, p2_, p3_]
 refine tk1 (i := 10) (by (try simp only [g1_, g2_, g3_]); exact rfl) (by kernel_rfl) (by assumption) (by kernel_rfl) (by intro w hSw; (try dsimp only at hSw); go_simp; first | done | with_reducible rfl | rfl) (by exact fun _ _ _ h => h) ?_
 try simp only [Act.put, p1_, p2_, p3_]
 refine tk1 (i := 11) (by (try simp only [g1_, g2_, g3_]); exact rfl) (by kernel_rfl) (by assumption) (by kernel_rfl) (by intro w hSw; (try dsimp only at hSw); go_simp; first | done | with_reducible rfl | rfl) (by exact fun _ _ _ h => h) ?_
 try simp only [Act.put, p1_, p2_, p3_]
 refine tk1 (i := 12) (by (try simp only [g1_, g2_, g3_]); exact rfl) (by kernel_rfl) (by assumption) (by kernel_rfl) (by intro w hSw; (try dsimp only at hSw); go_simp; first | done | with_reducible rfl | rfl) (by exact fun _ _ _ h => h) ?_
 try simp only [Act.put, p1_, p2_, p3_]
 refine tk1 (i := 13) (by (try simp only [g1_, g2_, g3_]); exact rfl) (by kernel_rfl) (by assumption) (by kernel_rfl) (by intro w hSw; (try dsimp only at hSw); go_simp; first | done | with_reducible rfl | rfl) (by exact fun _ _ _ h => h) ?_
 try simp only [Act.put, p1_, p2_, p3_]
 refine tk1 (i := 14) (by (try simp only [g1_, g2_, g3_]); exact rfl) (by kernel_rfl) (by assumption) (by kernel_rfl) (by intro w hSw; (try dsimp only at hSw); go_simp; first | done | with_reducible rfl | rfl) (by exact fun _ _ _ h => h) ?_
 try simp only [Act.put, p1_, p2_, p3_]
 refine tk1 (i := 15) (by (try simp only [g1_, g2_, g3_]); exact rfl) (by kernel_rfl) (by assumption) (by kernel_rfl) (by intro w hSw; (try dsimp only at hSw); go_simp; first | done | with_reducible rfl | rfl) (by exact fun _ _ _ h => h) ?_
 try simp only [Act.put, p1_, p2_, p3_]
 refine tk1 (i := 16) (by (try simp only [g1_, g2_, g3_]); exact rfl) (by kernel_rfl) (by assumption) (by kernel_rfl) (by intro w hSw; (try dsimp only at hSw); go_simp; first | done | with_reducible rfl | rfl) (by exact fun _ _ _ h => h) ?_
 try simp only [Act.put, p1_, p2_, p3_]
 refine tk1 (i := 17) (by (try simp only [g1_, g2_, g3_]); exact rfl) (by kernel_rfl) (by assumption) (by kernel_rfl) (by intro w hSw; (try dsimp only at hSw); go_simp; first | done | with_reducible rfl | rfl) (by exact fun _ _ _ h => h) ?_
 try simp only [Act.put, p1_, p2_, p3_]
 refine tk1 (i := 18) (by (try simp only [g1_, g2_, g3_]); exact rfl) (by kernel_rfl) (by assumption) (by kernel_rfl) (by intro w hSw; (try dsimp only at hSw); go_simp; first | done | with_reducible rfl | rfl) (by exact fun _ _ _ h => h) ?_
 try simp only [Act.put, p1_, p2_, p3_]
 refine tk1 (i := 19) (by (try simp only [g1_, g2_, g3_]); exact rfl) (by kernel_rfl) (by assumption) (by kernel_rfl) (by intro w hSw; (try dsimp only at hSw); go_simp; first | done | with_reducible rfl | rfl) (by exact fun _ _ _ h => h) ?_
 try simp only [Act.put, p1_, p2_, p3_]
 refine tk1 (i := 20) (by (try simp only [g1_, g2_, g3_]); exact rfl) (by kernel_rfl) (by assumption) (by kernel_rfl) (by intro w hSw; (try dsimp only at hSw); go_simp; first | done | with_reducible rfl | rfl) (by exact fun _ _ _ h => h) ?_
 try simp only [Act.put, p1_, p2_, p3_]
 refine wpAnyH_ready (rs := [21, 26]) (by kernel_rfl) (by simp) ?_
 refine AllReadyH.cons rfl (fun K hK => ?c1) (AllReadyH.cons rfl (fun K hK => ?c2) AllReadyH.nil)
 case c1 =>
  go_simp
  refine (HO.out _).mono ?_
  rintro e w2 ⟨rfl, hb⟩
  have H2 := ak_ (H0.out.drew.below hb)
  refine hK.out _ _ (wakeS_of H2.out hm hx) (fun hHeld => ?_)
  clear hK K
  try simp only [Act.put, List.setIfInBounds_toArray, List.set_cons_zero, List.set_cons_succ]
  refine tk1 (i := 22) (by (try simp only [g1_, g2_, g3_]); exact rfl) (by kernel_rfl) (by assumption) (by kernel_rfl) (by intro w hSw; (try dsimp only at hSw); go_simp; first | done | with_reducible rfl | rfl) (by exact fun _ _ _ h => h) ?_
  try simp only [Act.put, p1_, p2_, p3_]
  refine tk1 (i := 23) (by (try simp only [g1_, g2_, g3_]); exact rfl) (by kernel_rfl) (by assumption) (by kernel_rfl) (by intro w hSw; (try dsimp only at hSw); go_simp; first | done | with_reducible rfl | rfl) (by exact fun _ _ _ h => h) ?_
  try simp only [Act.put, p1_, p2_, p3_]
  refine tk1 (i := 24) (by (try simp only [g1_, g2_, g3_]); exact rfl) (by kernel_rfl) (by assumption) (by kernel_rfl) (by intro w hSw; (try dsimp only at hSw); go_simp; first | done | with_reducible rfl | rfl) (by exact fun _ _ _ h => h) ?_
  try simp only [Act.put, p1_, p2_, p3_]
  refine tk1 (i := 25) (by (try simp only [g1_, g2_, g3_]); exact rfl) (by kernel_rfl) (by assumption) (by kernel_rfl) (by intro w hSw; (try dsimp only at hSw); go_simp; first | done | with_reducible rfl | rfl) (by exact fun _ _ _ h => h) ?_
  try simp only [Act.put, p1_, p2_, p3_]
  have z0 : (w2.alloc (.cells #[.int .i64 0, .bool false, .bool false, .int .i64 0, .int .i64 0] 42)).cell? ⟨w2.heap.size, 0, none⟩ = some (.int .i64 0) := blk_cell (blk_new w2 _) 0
  have fz0 : (w2.alloc (.cells #[.int .i64 0, .bool false, .bool false, .int .i64 0, .int .i64 0] 42)).frozen? ⟨w2.heap.size, 0, none⟩ = false := blk_frozen (blk_new w2 _) 0
  have z1 : (w2.alloc (.cells #[.int .i64 0, .bool false, .bool false, .int .i64 0, .int .i64 0] 42)).cell? ⟨w2.heap.size, 1, none⟩ = some (.bool false) := blk_cell (blk_new w2 _) 1
  have fz1 : (w2.alloc (.cells #[.int .i64 0, .bool false, .bool false, .int .i64 0, .int .i64 0] 42)).frozen? ⟨w2.heap.size, 1, none⟩ = false := blk_frozen (blk_new w2 _) 1
  have z2 : (w2.alloc (.cells #[.int .i64 0, .bool false, .bool false, .int .i64 0, .int .i64 0] 42)).cell? ⟨w2.heap.size, 2, none⟩ = some (.bool false) := blk_cell (blk_new w2 _) 2
  have fz2 : (w2.alloc (.cells #[.int .i64 0, .bool false, .bool false, .int .i64 0, .int .i64 0] 42)).frozen? ⟨w2.heap.size, 2, none⟩ = false := blk_frozen (blk_new w2 _) 2
  have z3 : (w2.alloc (.cells #[.int .i64 0, .bool false, .bool false, .int .i64 0, .int .i64 0] 42)).cell? ⟨w2.heap.size, 3, none⟩ = some (.int .i64 0) := blk_cell (blk_new w2 _) 3
  have fz3 : (w2.alloc (.cells #[.int .i64 0, .bool false, .bool false, .int .i64 0, .int .i64 0] 42)).frozen? ⟨w2.heap.size, 3, none⟩ = false := blk_frozen (blk_new w2 _) 3
  have z4 : (w2.alloc (.cells #[.int .i64 0, .bool false, .bool false, .int .i64 0, .int .i64 0] 42)).cell? ⟨w2.heap.size, 4, none⟩ = some (.int .i64 0) := blk_cell (blk_new w2 _) 4
  have fz4 : (w2.alloc (.cells #[.int .i64 0, .bool false, .bool false, .int .i64 0, .int .i64 0] 42)).frozen? ⟨w2.heap.size, 4, none⟩ = false := blk_frozen (blk_new w2 _) 4
  refine wpAnyH_ready (rs := [26]) (by kernel_rfl) (by simp) ?_
  refine AllReadyH.cons rfl (fun K hK => ?_) AllReadyH.nil
  go_simp
  refine hK.out _ _ ?hS_27 (fun hHeld => ?rest_27)
  case hS_27 => ((try dsimp only); exact wakeS_of (H2.out.alloc _) hm hx)
  clear hK K
  try simp only [Act.put, p1_, p2_, p3_]
  have HF := H2.out.alloc (.cells #[.int .i64 q0, .bool q1, .bool q2, .int .i64 q3, .int .i64 q4] 42)
  have GF := blk_new w2 (.cells #[.int .i64 q0, .bool q1, .bool q2, .int .i64 q3, .int .i64 q4] 42)
  have BF : Below B w (w2.alloc (.cells #[.int .i64 q0, .bool q1, .bool q2, .int .i64 q3, .int .i64 q4] 42)) := (((below_drew (Below.refl B w)).trans (hb.mono H0.out.drew.Blt)).alloc H2.out.Blt _)
  refine wpAnyH_ready (rs := [27]) (by kernel_rfl) (by simp) ?_
  refine AllReadyH.cons rfl (fun K hK => ?_) AllReadyH.nil
  go_simp
  refine hK.out _ _ ?hS_28 (fun hHeld => ?rest_28)
  case hS_28 => ((try dsimp only); exact wakeS_of HF hm hx)
  clear hK K
  try simp only [Act.put, p1_, p2_, p3_]
  refine tk1 (i := 28) (by (try simp only [g1_, g2_, g3_]); exact rfl) (by kernel_rfl) (by assumption) (by kernel_rfl) (by intro w hSw; (try dsimp only at hSw); go_simp; first | done | with_reducible rfl | rfl) (by exact fun _ _ _ h => h) ?_
  try simp only [Act.put, p1_, p2_, p3_]
  refine tk1 (i := 29) (by (try simp only [g1_, g2_, g3_]); exact rfl) (by kernel_rfl) (by assumption) (by kernel_rfl) (by intro w hSw; (try dsimp only at hSw); go_simp; first | done | with_reducible rfl | rfl) (by exact fun _ _ _ h => h) ?_
  try simp only [Act.put, p1_, p2_, p3_]
  refine wpAnyH_done (by kernel_rfl) ?_ _
  clear hb
  obtain ⟨W5, hW5⟩ : ∃ W5, W5 = w2.alloc (.cells #[.int .i64 q0, .bool q1, .bool q2, .int .i64 q3, .int .i64 q4] 42) := ⟨_, rfl⟩
  rw [← hW5] at HF GF BF ⊢
  have H5 := ak_ HF
  have G5 := ak_ GF
  have B5 := ak_ BF
  have t0_ : W5.cell? ⟨w2.heap.size, 0, none⟩ = some (.int .i64 q0) := blk_cell G5.out 0
  have t1_ : W5.cell? ⟨w2.heap.size, 1, none⟩ = some (.bool q1) := blk_cell G5.out 1
  have t2_ : W5.cell? ⟨w2.heap.size, 2, none⟩ = some (.bool q2) := blk_cell G5.out 2
  have t3_ : W5.cell? ⟨w2.heap.size, 3, none⟩ = some (.int .i64 q3) := blk_cell G5.out 3
  have t4_ : W5.cell? ⟨w2.heap.size, 4, none⟩ = some (.int .i64 q4) := blk_cell G5.out 4
  clear hW5 HF GF BF hHeld z0 z1 z2 z3 z4 fz0 fz1 fz2 fz3 fz4 s0_ s1_ mp_ m0_ n0_ c8_ c9_ c10_ c11_ c12_
  have s1_ := H5.out.s1
  have c3_ := H5.out.c3
  have fc3_ := H5.out.fc3
  have fc8_ := H5.out.fc8
  have fc9_ := H5.out.fc9
  have fc10_ := H5.out.fc10
  have fc11_ := H5.out.fc11
  have fc12_ := H5.out.fc12
  have c8_ := H5.out.c8
  have c9_ := H5.out.c9
  have c10_ := H5.out.c10
  have c11_ := H5.out.c11
  have c12_ := H5.out.c12
  go_wp2_with (go_at_call 113; refine (must113 _).mono ?_; rintro e w3 ⟨rfl, rfl⟩)
  go_region
  obtain ⟨W6, hW6⟩ : ∃ W6, W6 = ((((((w3.setCell ⟨k.cp, 8, none⟩ (.int .i64 q0)).setCell ⟨k.cp, 9, none⟩ (.bool q1)).setCell ⟨k.cp, 10, none⟩ (.bool q2)).setCell ⟨k.cp, 11, none⟩ (.int .i64 q3)).setCell ⟨k.cp, 12, none⟩ (.int .i64 q4)).setCell ⟨k.cp, 3, none⟩ (.int .i64 2)).drew := ⟨_, rfl⟩
  rw [← hW6]
  have H6 : Aside0 (St B k { s with c := { s.c with own := ⟨q0, q1, q2, q3, q4⟩, pc := 2 } } W6) := ⟨by rw [hW6]; exact ((H5.out.putOwn q0 q1 q2 q3 q4).putc 3 (.int .i64 2) { s.c with own := ⟨q0, q1, q2, q3, q4⟩, pc := 2 } rfl).drew⟩
  have B6 : Aside0 (Below B w W6) := ⟨by rw [hW6]; exact below_drew ((below_own B5.out H0.out.lo_c _ _ _ _ _).setCell (p := ⟨k.cp, 3, none⟩) H0.out.lo_c _)⟩
  clear hW6 s1_ c3_ fc3_ fc8_ fc9_ fc10_ fc11_ fc12_ c8_ c9_ c10_ c11_ c12_ t0_ t1_ t2_ t3_ t4_
  have s1_ := H6.out.s1
  have c3_ := H6.out.c3
  have fc3_ := H6.out.fc3
  cases b with
  | true =>
   go_wp2
   go_end0
   refine ⟨rfl, B6.out.setCell (p := ⟨k.cp, 3, none⟩) H0.out.lo_c _, _, ?_, H6.out.putc 3 (.int .i64 8) { s.c with own := ⟨q0, q1, q2, q3, q4⟩, pc := 8 } rfl⟩
   rw [HR.out]
   exact ⟨rfl, (set_self CX.out.mx).symm, CX.out.tabS, CX.out.ov, CX.out.evs, CX.out.st, rfl, rfl, rfl, rfl, rfl, rfl⟩
  | false =>
   go_wp2
   go_end0
   refine ⟨rfl, B6.out, _, ?_, H6.out⟩
   rw [HR.out]
   exact ⟨rfl, (set_self CX.out.mx).symm, CX.out.tabS, CX.out.ov, CX.out.evs, CX.out.st, rfl, rfl, rfl, rfl, rfl, rfl⟩
 case c2 =>
  go_simp
  refine hK.out _ _ (wakeS_of (H0.out.drew.alloc _) hm hx) (fun hHeld => ?_)
  clear hK K
  try simp only [Act.put, List.setIfInBounds_toArray, List.set_cons_zero, List.set_cons_succ]
  refine wpAnyH_ready (rs := [21]) (by kernel_rfl) (by simp) ?_
  refine AllReadyH.cons rfl (fun K hK => ?_) AllReadyH.nil
  go_simp
  refine (HO.out _).mono ?_
  rintro e w2 ⟨rfl, hb⟩
  have H2 := ak_ ((H0.out.drew.alloc _).below hb)
  refine hK.out _ _ (wakeS_of H2.out hm hx) (fun hHeld => ?_)
  clear hK K
  try simp only [Act.put, List.setIfInBounds_toArray, List.set_cons_zero, List.set_cons_succ]
  refine tk1 (i := 22) (by (try simp only [g1_, g2_, g3_]); exact rfl) (by kernel_rfl) (by assumption) (by kernel_rfl) (by intro w hSw; (try dsimp only at hSw); go_simp; first | done | with_reducible rfl | rfl) (by exact fun _ _ _ h => h) ?_
  try simp only [Act.put, p1_, p2_, p3_]
  refine tk1 (i := 23) (by (try simp only [g1_, g2_, g3_]); exact rfl) (by kernel_rfl) (by assumption) (by kernel_rfl) (by intro w hSw; (try dsimp only at hSw); go_simp; first | done | with_reducible rfl | rfl) (by exact fun _ _ _ h => h) ?_
  try simp only [Act.put, p1_, p2_, p3_]
  refine tk1 (i := 24) (by (try simp only [g1_, g2_, g3_]); exact rfl) (by kernel_rfl) (by assumption) (by kernel_rfl) (by intro w hSw; (try dsimp only at hSw); go_simp; first | done | with_reducible rfl | rfl) (by exact fun _ _ _ h => h) ?_
  try simp only [Act.put, p1_, p2_, p3_]
  refine tk1 (i := 25) (by (try simp only [g1_, g2_, g3_]); exact rfl) (by kernel_rfl) (by assumption) (by kernel_rfl) (by intro w hSw; (try dsimp only at hSw); go_simp; first | done | with_reducible rfl | rfl) (by exact fun _ _ _ h => h) ?_
  try simp only [Act.put, p1_, p2_, p3_]
  have KA := blk_below (blk_new w.drew (.cells #[.int .i64 0, .bool false, .bool false, .int .i64 0, .int .i64 0] 42)) hb
  have z0 : w2.cell? ⟨w.heap.size, 0, none⟩ = some (.int .i64 0) := blk_cell KA 0
  have fz0 : w2.frozen? ⟨w.heap.size, 0, none⟩ = false := blk_frozen KA 0
  have z1 : w2.cell? ⟨w.heap.size, 1, none⟩ = some (.bool false) := blk_cell KA 1
  have fz1 : w2.frozen? ⟨w.heap.size, 1, none⟩ = false := blk_frozen KA 1
  have z2 : w2.cell? ⟨w.heap.size, 2, none⟩ = some (.bool false) := blk_cell KA 2
  have fz2 : w2.frozen? ⟨w.heap.size, 2, none⟩ = false := blk_frozen KA 2
  have z3 : w2.cell? ⟨w.heap.size, 3, none⟩ = some (.int .i64 0) := blk_cell KA 3
  have fz3 : w2.frozen? ⟨w.heap.size, 3, none⟩ = false := blk_frozen KA 3
  have z4 : w2.cell? ⟨w.heap.size, 4, none⟩ = some (.int .i64 0) := blk_cell KA 4
  have fz4 : w2.frozen? ⟨w.heap.size, 4, none⟩ = false := blk_frozen KA 4
  have BB : Below w.heap.size w (((((w2.setCell ⟨w.heap.size, 0, none⟩ (.int .i64 q0)).setCell ⟨w.heap.size, 1, none⟩ (.bool q1)).setCell ⟨w.heap.size, 2, none⟩ (.bool q2)).setCell ⟨w.heap.size, 3, none⟩ (.int .i64 q3)).setCell ⟨w.heap.size, 4, none⟩ (.int .i64 q4)) := below5 (((below_drew (Below.refl _ w)).alloc (Nat.le_refl _) _).trans (hb.mono (by simp))) (Nat.le_refl _) _ _ _ _ _
  have HF := H0.out.below BB
  have GF := own5 (g := w.heap.size) KA (.int .i64 q0) (.bool q1) (.bool q2) (.int .i64 q3) (.int .i64 q4)
  have BF : Below B w (((((w2.setCell ⟨w.heap.size, 0, none⟩ (.int .i64 q0)).setCell ⟨w.heap.size, 1, none⟩ (.bool q1)).setCell ⟨w.heap.size, 2, none⟩ (.bool q2)).setCell ⟨w.heap.size, 3, none⟩ (.int .i64 q3)).setCell ⟨w.heap.size, 4, none⟩ (.int .i64 q4)) := BB.mono H0.out.Blt
  refine wpAnyH_ready (rs := [27]) (by kernel_rfl) (by simp) ?_
  refine AllReadyH.cons rfl (fun K hK => ?_) AllReadyH.nil
  go_simp
  refine hK.out _ _ ?hS_36 (fun hHeld => ?rest_36)
  case hS_36 => ((try dsimp only); exact wakeS_of HF hm hx)
  clear hK K
  try simp only [Act.put, p1_, p2_, p3_]
  refine tk1 (i := 28) (by (try simp only [g1_, g2_, g3_]); exact rfl) (by kernel_rfl) (by assumption) (by kernel_rfl) (by intro w hSw; (try dsimp only at hSw); go_simp; first | done | with_reducible rfl | rfl) (by exact fun _ _ _ h => h) ?_
  try simp only [Act.put, p1_, p2_, p3_]
  refine tk1 (i := 29) (by (try simp only [g1_, g2_, g3_]); exact rfl) (by kernel_rfl) (by assumption) (by kernel_rfl) (by intro w hSw; (try dsimp only at hSw); go_simp; first | done | with_reducible rfl | rfl) (by exact fun _ _ _ h => h) ?_
  try simp only [Act.put, p1_, p2_, p3_]
  refine wpAnyH_done (by kernel_rfl) ?_ _
  clear hb BB KA
  obtain ⟨W5, hW5⟩ : ∃ W5, W5 = (((((w2.setCell ⟨w.heap.size, 0, none⟩ (.int .i64 q0)).setCell ⟨w.heap.size, 1, none⟩ (.bool q1)).setCell ⟨w.heap.size, 2, none⟩ (.bool q2)).setCell ⟨w.heap.size, 3, none⟩ (.int .i64 q3)).setCell ⟨w.heap.size, 4, none⟩ (.int .i64 q4)) := ⟨_, rfl⟩
  rw [← hW5] at HF GF BF ⊢
  have H5 := ak_ HF
  have G5 := ak_ GF
  have B5 := ak_ BF
  have t0_ : W5.cell? ⟨w.heap.size, 0, none⟩ = some (.int .i64 q0) := blk_cell G5.out 0
  have t1_ : W5.cell? ⟨w.heap.size, 1, none⟩ = some (.bool q1) := blk_cell G5.out 1
  have t2_ : W5.cell? ⟨w.heap.size, 2, none⟩ = some (.bool q2) := blk_cell G5.out 2
  have t3_ : W5.cell? ⟨w.heap.size, 3, none⟩ = some (.int .i64 q3) := blk_cell G5.out 3
  have t4_ : W5.cell? ⟨w.heap.size, 4, none⟩ = some (.int .i64 q4) := blk_cell G5.out 4
  clear hW5 HF GF BF hHeld z0 z1 z2 z3 z4 fz0 fz1 fz2 fz3 fz4 s0_ s1_ mp_ m0_ n0_ c8_ c9_ c10_ c11_ c12_
  have s1_ := H5.out.s1
  have c3_ := H5.out.c3
  have fc3_ := H5.out.fc3
  have fc8_ := H5.out.fc8
  have fc9_ := H5.out.fc9
  have fc10_ := H5.out.fc10
  have fc11_ := H5.out.fc11
  have fc12_ := H5.out.fc12
  have c8_ := H5.out.c8
  have c9_ := H5.out.c9
  have c10_ := H5.out.c10
  have c11_ := H5.out.c11
  have c12_ := H5.out.c12
  go_wp2_with (go_at_call 113; refine (must113 _).mono ?_; rintro e w3 ⟨rfl, rfl⟩)
  go_region
  obtain ⟨W6, hW6⟩ : ∃ W6, W6 = ((((((w3.setCell ⟨k.cp, 8, none⟩ (.int .i64 q0)).setCell ⟨k.cp, 9, none⟩ (.bool q1)).setCell ⟨k.cp, 10, none⟩ (.bool q2)).setCell ⟨k.cp, 11, none⟩ (.int .i64 q3)).setCell ⟨k.cp, 12, none⟩ (.int .i64 q4)).setCell ⟨k.cp, 3, none⟩ (.int .i64 2)).drew := ⟨_, rfl⟩
  rw [← hW6]
  have H6 : Aside0 (St B k { s with c := { s.c with own := ⟨q0, q1, q2, q3, q4⟩, pc := 2 } } W6) := ⟨by rw [hW6]; exact ((H5.out.putOwn q0 q1 q2 q3 q4).putc 3 (.int .i64 2) { s.c with own := ⟨q0, q1, q2, q3, q4⟩, pc := 2 } rfl).drew⟩
  have B6 : Aside0 (Below B w W6) := ⟨by rw [hW6]; exact below_drew ((below_own B5.out H0.out.lo_c _ _ _ _ _).setCell (p := ⟨k.cp, 3, none⟩) H0.out.lo_c _)⟩
  clear hW6 s1_ c3_ fc3_ fc8_ fc9_ fc10_ fc11_ fc12_ c8_ c9_ c10_ c11_ c12_ t0_ t1_ t2_ t3_ t4_
  have s1_ := H6.out.s1
  have c3_ := H6.out.c3
  have fc3_ := H6.out.fc3
  cases b with
  | true =>
   go_wp2
   go_end0
   refine ⟨rfl, B6.out.setCell (p := ⟨k.cp, 3, none⟩) H0.out.lo_c _, _, ?_, H6.out.putc 3 (.int .i64 8) { s.c with own := ⟨q0, q1, q2, q3, q4⟩, pc := 8 } rfl⟩
   rw [HR.out]
   exact ⟨rfl, (set_self CX.out.mx).symm, CX.out.tabS, CX.out.ov, CX.out.evs, CX.out.st, rfl, rfl, rfl, rfl, rfl, rfl⟩
  | false =>
   go_wp2
   go_end0
   refine ⟨rfl, B6.out, _, ?_, H6.out⟩
   rw [HR.out]
   exact ⟨rfl, (set_self CX.out.mx).symm, CX.out.tabS, CX.out.ov, CX.out.evs, CX.out.st, rfl, rfl, rfl, rfl, rfl, rfl⟩
end Go.Proofs.YtoimfknjfeencaaGreatDoor.Hand
end
