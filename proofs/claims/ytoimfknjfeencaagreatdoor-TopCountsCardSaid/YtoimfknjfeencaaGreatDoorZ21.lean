/- Part of the walk of a law of the top, and what it leans on (Join1, Join2, New1). No conditions beyond those that each lemma names. -/
import Derived.Test.YtoimfknjfeencaaGreatDoorZ09
import Derived.Test.YtoimfknjfeencaaGreatDoorZ19
import Derived.Test.YtoimfknjfeencaaGreatDoorZ20
import Derived.RangeFuncCalls
import Derived.RangeFuncLeaves
set_option linter.unusedVariables false
set_option linter.unusedSimpArgs false
set_option maxHeartbeats 8000000
set_option maxRecDepth 100000
section
namespace Go.Proofs.YtoimfknjfeencaaGreatDoor.Hand
open Go.RowKit Go.Shelf Go.Proofs.YtoimfknjfeencaaGreatDoorW.PrintWords Go.Proofs.YtoimfknjfeencaaGreatDoorW.PrintLast Go.Proofs.YtoimfknjfeencaaGreatDoorW.PrintMore
section
structure Bx (k : Blk) (s : Sx) (x : M.W) (i : Nat) (z : M.PC) (m : Nat) : Prop where
 c : s.c = z.c
 mu : s.mu = x.mu
 cl : s.cl = x.cl.map (·.c)
 tab : s.tab = tableOf x.sem
 now : s.now = x.now
 who : s.who = (i : Int)
 at_ : s.at_ = (m : Int)
 mp : s.mp = .pointer (some ⟨k.mb, m * 3, none⟩)
 ov : s.over = false
 ev : s.ev = .slice none 0 0
 evs : s.evs = []
 st : s.stop = 0
 pv : ∃ A n c, s.pv = .slice A n c
 cv : ∃ c, s.cv = .slice (some ⟨k.cb, 0, none⟩) s.cl.length c
 mv : ∃ A n c, s.mv = .slice A n c
theorem at_of {x : M.W} (g : M.Good x) {i : Nat} {z : M.PC} (hz : x.cl[i]? = some z) (hr : z.c.gor.state = 0) {m : Nat} (m4 : m < 4) (hm : M.mx m z = true) : M.At m i z (x.mu.getD m default) (x.sem.getD m default) x.cl x.now :=
 ⟨hz, g.cl, hm, hr, g.c i z hz, g.inv m m4, g.now0, g.now1⟩
theorem Bx.cx {k : Blk} {s : Sx} {x : M.W} {i : Nat} {z : M.PC} {m : Nat} (b : Bx k s x i z m) (g : M.Good x) (m4 : m < 4) : Cx k s m (x.mu.getD m default) x.sem (x.sem.getD m default) := by
 refine ⟨b.mp, ?_, ?_, b.tab, b.ov, b.ev, b.evs, b.st⟩
 ·rw [b.mu, List.getD_eq_getElem?_getD, List.getElem?_eq_getElem (by rw [g.mu]; exact m4)]
  rfl
 ·rw [List.getD_eq_getElem?_getD, List.getElem?_eq_getElem (by rw [g.sem]; exact m4)]
  rfl
theorem Bx.fr {k : Blk} {s : Sx} {x : M.W} {i : Nat} {z : M.PC} {m : Nat} (b : Bx k s x i z m) (l : List (Nat × Obj)) : Bx { k with fr := l } s x i z m :=
 ⟨b.c, b.mu, b.cl, b.tab, b.now, b.who, b.at_, b.mp, b.ov, b.ev, b.evs, b.st, b.pv, b.cv, b.mv⟩
theorem qx_of {x : M.W} (g : M.Good x) {m : Nat} (m4 : m < 4) : Qx m x.sem (x.sem.getD m default) :=
 ⟨m4, by rw [g.sem]; exact Nat.le_refl _, okTab_of g, okSpot_of (g.inv m m4) g.cl m m4⟩
section
variable {m : Nat} {i : Nat} {z : M.PC} {x : M.Mutex} {s : M.Sem} {cl : List M.PC} {now : Int}
theorem at_w (h : M.At m i z x s cl now) : isW x.word = true := isW_of h.word_lo h.word_hi
theorem at_n (h : M.At m i z x s cl now) : okW x.line.next := ⟨h.inv.tick.n0, h.inv.tick.n1⟩
theorem at_s (h : M.At m i z x s cl now) : okW x.line.serve := ⟨h.inv.tick.s0, h.inv.tick.s1⟩
theorem at_draw (h : M.At m i z x s cl now) : spin_Draw.f x.line.next x.line.serve = some ((x.line.next + 1) % 4294967296, x.line.serve, x.line.next, 0) :=
 draw_yes (at_n h) (at_s h) (by
  have := h.inv.tick.out
  have := M.cnt_hi (M.isOut m) cl
  have := h.len
  omega)
theorem at_turn (h : M.At m i z x s cl now) : spin_Turn.f x.line.next x.line.serve z.c.ticket = some (z.c.ticket == x.line.serve, 0) := turn_yes _ (at_n h) (at_s h)
theorem at_done (h : M.At m i z x s cl now) (ho : M.isOut m z = true) : spin_Done.f x.line.next x.line.serve = some (x.line.next, (x.line.serve + 1) % 4294967296, 0) :=
 done_yes (at_n h) (at_s h) (by
  have := h.inv.tick.out
  have := M.cnt_one (M.isOut m) cl i z h.hz ho
  have := M.cnt_hi (M.isOut m) cl
  have := h.len
  omega)
theorem at_out (h : M.At m i z x s cl now) (hp : z.c.pc = 6 ∨ z.c.pc = 15) : M.isOut m z = true := by
 rw [(M.cls h.mx).1]
 rcases hp with hp | hp <;> rw [hp] <;> rfl
theorem at_gor (h : M.At m i z x s cl now) : z.c.gor = ⟨0, false⟩ := by
 have h1 := h.run
 have h2 := h.c.permit
 cases hg : z.c.gor with
 | mk a b =>
  rw [hg] at h1 h2
  simp only at h1 h2
  rw [h1, h2]
theorem at_noline (h : M.At m i z x s cl now) (hp : z.c.pc = 5) : i ∉ s.line := by
 intro hi
 obtain ⟨y, hy, hl⟩ := (h.inv.line.mem i).1 hi
 rw [h.hz] at hy
 cases hy
 have := (M.cls h.mx).2.2.2.2.2.2.2
 rw [this, hp] at hl
 simp at hl
theorem at_64 (h : M.At m i z x s cl now) : s.line.length < 64 := by
 have := nodup_len cl.length s.line h.inv.line.nodup (line_lt h.inv)
 have := h.len
 omega
theorem at_take (h : M.At m i z x s cl now) (hp : z.c.pc = 8) : isW (x.word + M.handed z.c.own) = true := by
 obtain ⟨o, c, r, p, d, hh, a, l⟩ := M.cls h.mx
 have hH := M.cnt_one (M.isH m) cl i z h.hz (by rw [hh, hp]; rfl)
 have hR := M.cnt_one (M.isR m) cl i z h.hz (by rw [r, hp]; rfl)
 have hi := h.word_hi
 have h0 := h.word_lo
 have hw := h.inv.word
 have hv : M.handed z.c.own = -11 ∨ M.handed z.c.own = -7 := by
  unfold M.handed
  split
  ·exact .inl rfl
  ·exact .inr rfl
 have hb : 12 ≤ x.word := by
  by_cases q : x.word / 4 % 2 = 1 ∧ x.word % 2 = 0
  ·have := hw.hand q.1 q.2
   omega
  ·have := hw.free q
   omega
 unfold isW
 refine decide_eq_true ?_
 omega
theorem at_wants (h : M.At m i z x s cl now) : isW (M.wants z.c.own) = true := by
 have h0 := h.c.old0
 have h1 := h.c.old1
 unfold M.wants isW
 have a1 := M.b2i_lo (M.lk z.c.own.old || !M.sv z.c.own.old)
 have a2 := M.b2i_hi (M.lk z.c.own.old || !M.sv z.c.own.old)
 have b1 := M.b2i_lo (M.wk z.c.own.old && !z.c.own.awake)
 have b2 := M.b2i_hi (M.wk z.c.own.old && !z.c.own.awake)
 have c1 := M.b2i_lo (M.sv z.c.own.old || (z.c.own.starving && M.lk z.c.own.old))
 have c2 := M.b2i_hi (M.sv z.c.own.old || (z.c.own.starving && M.lk z.c.own.old))
 have d1 := M.b2i_lo (M.lk z.c.own.old || M.sv z.c.own.old)
 have d2 := M.b2i_hi (M.lk z.c.own.old || M.sv z.c.own.old)
 refine decide_eq_true ?_
 omega
end
theorem runs_of (cl : List M.PC) : runsOf (cl.map (·.c)) = M.runs cl := by
 unfold runsOf M.runs
 rw [List.countP_map]
 rfl
end
theorem at_start0 {B : Nat} {k : Blk} {s : Sx} {w : World} (h : St B k s w) {x : M.W} (g : M.Good x) {i : Nat} {z : M.PC} {m : Nat} (b : Bx k s x i z m) (hz : x.cl[i]? = some z) (hr : z.c.gor.state = 0) (m4 : m < 4) (hm : M.mx m z = true) (n : Int) (hp : z.c.pc = 0) (hk : z.cur.kind = 0) :
  Calls Tryz.prog 23 #[.pointer (some ⟨k.sp, 0, none⟩), .agg #[.int .i64 z.cur.kind, .int .i64 n]] w (RunOk B k (Rx s m x.sem (M.atR (M.runs x.cl) x.now i z.cur.kind z.c (x.mu.getD m default) (x.sem.getD m default))) w) := by
 have A := at_of g hz hr m4 hm
 have e : M.atR (M.runs x.cl) x.now i z.cur.kind z.c (x.mu.getD m default) (x.sem.getD m default) = M.lockR z.c (x.mu.getD m default) (x.sem.getD m default) := by
  unfold M.atR
  rw [if_pos hp, hk, if_pos rfl]
 rw [e, hk]
 refine run_starts h 0 n 0 82 rfl (by decide) (by rw [b.c]; exact hp) (enters_of Tryz.func82 (by kernel_rfl) rfl) (fun l W hW => ?_)
 have CX := (b.fr l).cx g m4
 have R := lock82 hW CX
 rw [b.c] at R
 exact R
theorem at_start1 {B : Nat} {k : Blk} {s : Sx} {w : World} (h : St B k s w) {x : M.W} (g : M.Good x) {i : Nat} {z : M.PC} {m : Nat} (b : Bx k s x i z m) (hz : x.cl[i]? = some z) (hr : z.c.gor.state = 0) (m4 : m < 4) (hm : M.mx m z = true) (n : Int) (hp : z.c.pc = 0) (hk : z.cur.kind = 1) :
  Calls Tryz.prog 23 #[.pointer (some ⟨k.sp, 0, none⟩), .agg #[.int .i64 z.cur.kind, .int .i64 n]] w (RunOk B k (Rx s m x.sem (M.atR (M.runs x.cl) x.now i z.cur.kind z.c (x.mu.getD m default) (x.sem.getD m default))) w) := by
 have A := at_of g hz hr m4 hm
 have e : M.atR (M.runs x.cl) x.now i z.cur.kind z.c (x.mu.getD m default) (x.sem.getD m default) = M.tryR z.c (x.mu.getD m default) (x.sem.getD m default) := by
  unfold M.atR
  rw [if_pos hp, hk, if_neg (by decide), if_pos rfl]
 rw [e, hk]
 refine run_starts h 1 n 1 83 rfl (by decide) (by rw [b.c]; exact hp) (enters_of Tryz.func83 (by kernel_rfl) rfl) (fun l W hW => ?_)
 have CX := (b.fr l).cx g m4
 have R := try83 hW CX (at_w A)
 rw [b.c] at R
 exact R
theorem at_start2 {B : Nat} {k : Blk} {s : Sx} {w : World} (h : St B k s w) {x : M.W} (g : M.Good x) {i : Nat} {z : M.PC} {m : Nat} (b : Bx k s x i z m) (hz : x.cl[i]? = some z) (hr : z.c.gor.state = 0) (m4 : m < 4) (hm : M.mx m z = true) (n : Int) (hp : z.c.pc = 0) (hk : z.cur.kind = 2) :
  Calls Tryz.prog 23 #[.pointer (some ⟨k.sp, 0, none⟩), .agg #[.int .i64 z.cur.kind, .int .i64 n]] w (RunOk B k (Rx s m x.sem (M.atR (M.runs x.cl) x.now i z.cur.kind z.c (x.mu.getD m default) (x.sem.getD m default))) w) := by
 have A := at_of g hz hr m4 hm
 have e : M.atR (M.runs x.cl) x.now i z.cur.kind z.c (x.mu.getD m default) (x.sem.getD m default) = M.unlockR z.c (x.mu.getD m default) (x.sem.getD m default) := by
  unfold M.atR
  rw [if_pos hp, hk, if_neg (by decide), if_neg (by decide)]
 rw [e, hk]
 refine run_starts h 2 n 2 84 rfl (by decide) (by rw [b.c]; exact hp) (enters_of Tryz.func84 (by kernel_rfl) rfl) (fun l W hW => ?_)
 have CX := (b.fr l).cx g m4
 have R := unlock84 hW CX (at_w A)
 rw [b.c] at R
 exact R
theorem at_step1 {B : Nat} {k : Blk} {s : Sx} {w : World} (h : St B k s w) {x : M.W} (g : M.Good x) {i : Nat} {z : M.PC} {m : Nat} (b : Bx k s x i z m) (hz : x.cl[i]? = some z) (hr : z.c.gor.state = 0) (m4 : m < 4) (hm : M.mx m z = true) (n : Int) (hp : z.c.pc = 1) :
  Calls Tryz.prog 23 #[.pointer (some ⟨k.sp, 0, none⟩), .agg #[.int .i64 z.cur.kind, .int .i64 n]] w (RunOk B k (Rx s m x.sem (M.atR (M.runs x.cl) x.now i z.cur.kind z.c (x.mu.getD m default) (x.sem.getD m default))) w) := by
 have A := at_of g hz hr m4 hm
 have e : M.atR (M.runs x.cl) x.now i z.cur.kind z.c (x.mu.getD m default) (x.sem.getD m default) = M.loadR z.c (x.mu.getD m default) (x.sem.getD m default) := by
  unfold M.atR
  rw [if_neg (by omega), if_pos hp]
 rw [e]
 have hk3 : z.cur.kind ≠ 3 := by
  have := hm
  unfold M.mx at this
  simp only [Bool.and_eq_true, Bool.not_eq_true', beq_eq_false_iff_ne, ne_eq] at this
  exact this.1.2
 refine run_steps h z.cur.kind n 0 85 (by rw [b.c, hp]; rfl) hk3 (by rw [b.c, hp]; decide) (enters_of Tryz.func85 (by kernel_rfl) rfl) (fun l W hW => ?_)
 have CX := (b.fr l).cx g m4
 have R := load85 hW CX
 rw [b.c] at R
 exact R
theorem at_step2 {B : Nat} {k : Blk} {s : Sx} {w : World} (h : St B k s w) {x : M.W} (g : M.Good x) {i : Nat} {z : M.PC} {m : Nat} (b : Bx k s x i z m) (hz : x.cl[i]? = some z) (hr : z.c.gor.state = 0) (m4 : m < 4) (hm : M.mx m z = true) (n : Int) (hp : z.c.pc = 2) :
  Calls Tryz.prog 23 #[.pointer (some ⟨k.sp, 0, none⟩), .agg #[.int .i64 z.cur.kind, .int .i64 n]] w (RunOk B k (Rx s m x.sem (M.atR (M.runs x.cl) x.now i z.cur.kind z.c (x.mu.getD m default) (x.sem.getD m default))) w) := by
 have A := at_of g hz hr m4 hm
 have e : M.atR (M.runs x.cl) x.now i z.cur.kind z.c (x.mu.getD m default) (x.sem.getD m default) = M.wantR (M.runs x.cl) x.now z.c (x.mu.getD m default) (x.sem.getD m default) := by
  unfold M.atR
  rw [if_neg (by omega), if_neg (by omega), if_pos hp]
 rw [e]
 have hk3 : z.cur.kind ≠ 3 := by
  have := hm
  unfold M.mx at this
  simp only [Bool.and_eq_true, Bool.not_eq_true', beq_eq_false_iff_ne, ne_eq] at this
  exact this.1.2
 refine run_steps h z.cur.kind n 1 86 (by rw [b.c, hp]; rfl) hk3 (by rw [b.c, hp]; decide) (enters_of Tryz.func86 (by kernel_rfl) rfl) (fun l W hW => ?_)
 have CX := (b.fr l).cx g m4
 have WX : Wx { k with fr := l } s (x.mu.getD m default) := by
  refine ⟨b.pv, b.cv, b.mv, by rw [b.cl, List.length_map]; exact g.cl, ?_, by rw [b.c]; exact own_of A.c, ?_, by rw [b.c]; have := A.c.old1; omega, by rw [b.c]; exact at_wants A, at_w A, by rw [b.now]; exact ⟨A.now0, A.now1⟩⟩
  ·intro c hc
   rw [b.cl] at hc
   obtain ⟨y, hy, rfl⟩ := List.mem_map.1 hc
   obtain ⟨j, hj⟩ := List.getElem?_of_mem hy
   exact okGor_of (g.c j y hj)
  ·rw [b.c]
   intro q
   unfold M.wk
   rw [A.c.want hp q]
   rfl
 have R := want86 hW CX WX
 rw [b.cl, runs_of, b.now, b.c] at R
 exact R
theorem at_step3 {B : Nat} {k : Blk} {s : Sx} {w : World} (h : St B k s w) {x : M.W} (g : M.Good x) {i : Nat} {z : M.PC} {m : Nat} (b : Bx k s x i z m) (hz : x.cl[i]? = some z) (hr : z.c.gor.state = 0) (m4 : m < 4) (hm : M.mx m z = true) (n : Int) (hp : z.c.pc = 3) :
  Calls Tryz.prog 23 #[.pointer (some ⟨k.sp, 0, none⟩), .agg #[.int .i64 z.cur.kind, .int .i64 n]] w (RunOk B k (Rx s m x.sem (M.atR (M.runs x.cl) x.now i z.cur.kind z.c (x.mu.getD m default) (x.sem.getD m default))) w) := by
 have A := at_of g hz hr m4 hm
 have e : M.atR (M.runs x.cl) x.now i z.cur.kind z.c (x.mu.getD m default) (x.sem.getD m default) = M.drawR z.c (x.mu.getD m default) (x.sem.getD m default) := by
  unfold M.atR
  rw [if_neg (by omega), if_neg (by omega), if_neg (by omega), if_pos hp]
 rw [e]
 have hk3 : z.cur.kind ≠ 3 := by
  have := hm
  unfold M.mx at this
  simp only [Bool.and_eq_true, Bool.not_eq_true', beq_eq_false_iff_ne, ne_eq] at this
  exact this.1.2
 refine run_steps h z.cur.kind n 2 87 (by rw [b.c, hp]; rfl) hk3 (by rw [b.c, hp]; decide) (enters_of Tryz.func87 (by kernel_rfl) rfl) (fun l W hW => ?_)
 have CX := (b.fr l).cx g m4
 have R := draw87 hW CX (at_draw A) (by rw [b.c]; omega)
 rw [b.c] at R
 exact R
theorem at_step4 {B : Nat} {k : Blk} {s : Sx} {w : World} (h : St B k s w) {x : M.W} (g : M.Good x) {i : Nat} {z : M.PC} {m : Nat} (b : Bx k s x i z m) (hz : x.cl[i]? = some z) (hr : z.c.gor.state = 0) (m4 : m < 4) (hm : M.mx m z = true) (n : Int) (hp : z.c.pc = 4) :
  Calls Tryz.prog 23 #[.pointer (some ⟨k.sp, 0, none⟩), .agg #[.int .i64 z.cur.kind, .int .i64 n]] w (RunOk B k (Rx s m x.sem (M.atR (M.runs x.cl) x.now i z.cur.kind z.c (x.mu.getD m default) (x.sem.getD m default))) w) := by
 have A := at_of g hz hr m4 hm
 have e : M.atR (M.runs x.cl) x.now i z.cur.kind z.c (x.mu.getD m default) (x.sem.getD m default) = M.turnR z.c (x.mu.getD m default) (x.sem.getD m default) := by
  unfold M.atR
  rw [if_neg (by omega), if_neg (by omega), if_neg (by omega), if_neg (by omega), if_pos hp]
 rw [e]
 have hk3 : z.cur.kind ≠ 3 := by
  have := hm
  unfold M.mx at this
  simp only [Bool.and_eq_true, Bool.not_eq_true', beq_eq_false_iff_ne, ne_eq] at this
  exact this.1.2
 refine run_steps h z.cur.kind n 3 88 (by rw [b.c, hp]; rfl) hk3 (by rw [b.c, hp]; decide) (enters_of Tryz.func88 (by kernel_rfl) rfl) (fun l W hW => ?_)
 have CX := (b.fr l).cx g m4
 have R := turn88 hW CX (by rw [b.c]; exact at_turn A) (by rw [b.c]; omega)
 rw [b.c] at R
 exact R
theorem at_step5 {B : Nat} {k : Blk} {s : Sx} {w : World} (h : St B k s w) {x : M.W} (g : M.Good x) {i : Nat} {z : M.PC} {m : Nat} (b : Bx k s x i z m) (hz : x.cl[i]? = some z) (hr : z.c.gor.state = 0) (m4 : m < 4) (hm : M.mx m z = true) (n : Int) (hp : z.c.pc = 5) :
  Calls Tryz.prog 23 #[.pointer (some ⟨k.sp, 0, none⟩), .agg #[.int .i64 z.cur.kind, .int .i64 n]] w (RunOk B k (Rx s m x.sem (M.atR (M.runs x.cl) x.now i z.cur.kind z.c (x.mu.getD m default) (x.sem.getD m default))) w) := by
 have A := at_of g hz hr m4 hm
 have e : M.atR (M.runs x.cl) x.now i z.cur.kind z.c (x.mu.getD m default) (x.sem.getD m default) = M.askR i z.c (x.mu.getD m default) (x.sem.getD m default) := by
  unfold M.atR
  rw [if_neg (by omega), if_neg (by omega), if_neg (by omega), if_neg (by omega), if_neg (by omega), if_pos hp]
 rw [e]
 have hk3 : z.cur.kind ≠ 3 := by
  have := hm
  unfold M.mx at this
  simp only [Bool.and_eq_true, Bool.not_eq_true', beq_eq_false_iff_ne, ne_eq] at this
  exact this.1.2
 refine run_steps h z.cur.kind n 4 89 (by rw [b.c, hp]; rfl) hk3 (by rw [b.c, hp]; decide) (enters_of Tryz.func89 (by kernel_rfl) rfl) (fun l W hW => ?_)
 have CX := (b.fr l).cx g m4
 have R := ask89 hW CX (qx_of g m4) b.at_ b.who (at_noline A hp) (at_64 A)
 rw [b.c] at R
 exact R
theorem at_step6 {B : Nat} {k : Blk} {s : Sx} {w : World} (h : St B k s w) {x : M.W} (g : M.Good x) {i : Nat} {z : M.PC} {m : Nat} (b : Bx k s x i z m) (hz : x.cl[i]? = some z) (hr : z.c.gor.state = 0) (m4 : m < 4) (hm : M.mx m z = true) (n : Int) (hp : z.c.pc = 6) :
  Calls Tryz.prog 23 #[.pointer (some ⟨k.sp, 0, none⟩), .agg #[.int .i64 z.cur.kind, .int .i64 n]] w (RunOk B k (Rx s m x.sem (M.atR (M.runs x.cl) x.now i z.cur.kind z.c (x.mu.getD m default) (x.sem.getD m default))) w) := by
 have A := at_of g hz hr m4 hm
 have e : M.atR (M.runs x.cl) x.now i z.cur.kind z.c (x.mu.getD m default) (x.sem.getD m default) = M.restR z.c (x.mu.getD m default) (x.sem.getD m default) := by
  unfold M.atR
  rw [if_neg (by omega), if_neg (by omega), if_neg (by omega), if_neg (by omega), if_neg (by omega), if_neg (by omega), if_pos hp]
 rw [e]
 have hk3 : z.cur.kind ≠ 3 := by
  have := hm
  unfold M.mx at this
  simp only [Bool.and_eq_true, Bool.not_eq_true', beq_eq_false_iff_ne, ne_eq] at this
  exact this.1.2
 refine run_steps h z.cur.kind n 5 90 (by rw [b.c, hp]; rfl) hk3 (by rw [b.c, hp]; decide) (enters_of Tryz.func90 (by kernel_rfl) rfl) (fun l W hW => ?_)
 have CX := (b.fr l).cx g m4
 have R := rest90 hW CX (at_done A (at_out A (.inl hp))) (fun _ => by rw [b.c]; exact at_gor A)
 rw [b.c] at R
 exact R
theorem at_step7 {B : Nat} {k : Blk} {s : Sx} {w : World} (h : St B k s w) {x : M.W} (g : M.Good x) {i : Nat} {z : M.PC} {m : Nat} (b : Bx k s x i z m) (hz : x.cl[i]? = some z) (hr : z.c.gor.state = 0) (m4 : m < 4) (hm : M.mx m z = true) (n : Int) (hp : z.c.pc = 7) :
  Calls Tryz.prog 23 #[.pointer (some ⟨k.sp, 0, none⟩), .agg #[.int .i64 z.cur.kind, .int .i64 n]] w (RunOk B k (Rx s m x.sem (M.atR (M.runs x.cl) x.now i z.cur.kind z.c (x.mu.getD m default) (x.sem.getD m default))) w) := by
 have A := at_of g hz hr m4 hm
 have e : M.atR (M.runs x.cl) x.now i z.cur.kind z.c (x.mu.getD m default) (x.sem.getD m default) = M.wakeR x.now z.c (x.mu.getD m default) (x.sem.getD m default) := by
  unfold M.atR
  rw [if_neg (by omega), if_neg (by omega), if_neg (by omega), if_neg (by omega), if_neg (by omega), if_neg (by omega), if_neg (by omega), if_pos hp]
 rw [e]
 have hk3 : z.cur.kind ≠ 3 := by
  have := hm
  unfold M.mx at this
  simp only [Bool.and_eq_true, Bool.not_eq_true', beq_eq_false_iff_ne, ne_eq] at this
  exact this.1.2
 refine run_steps h z.cur.kind n 6 91 (by rw [b.c, hp]; rfl) hk3 (by rw [b.c, hp]; decide) (enters_of Tryz.func91 (by kernel_rfl) rfl) (fun l W hW => ?_)
 have CX := (b.fr l).cx g m4
 have R := wake91 hW CX (by rw [b.c]; exact own_of A.c) (by rw [b.now]; exact ⟨A.now0, A.now1⟩) (at_w A)
 rw [b.now, b.c] at R
 exact R
theorem at_step8 {B : Nat} {k : Blk} {s : Sx} {w : World} (h : St B k s w) {x : M.W} (g : M.Good x) {i : Nat} {z : M.PC} {m : Nat} (b : Bx k s x i z m) (hz : x.cl[i]? = some z) (hr : z.c.gor.state = 0) (m4 : m < 4) (hm : M.mx m z = true) (n : Int) (hp : z.c.pc = 8) :
  Calls Tryz.prog 23 #[.pointer (some ⟨k.sp, 0, none⟩), .agg #[.int .i64 z.cur.kind, .int .i64 n]] w (RunOk B k (Rx s m x.sem (M.atR (M.runs x.cl) x.now i z.cur.kind z.c (x.mu.getD m default) (x.sem.getD m default))) w) := by
 have A := at_of g hz hr m4 hm
 have e : M.atR (M.runs x.cl) x.now i z.cur.kind z.c (x.mu.getD m default) (x.sem.getD m default) = M.takeR z.c (x.mu.getD m default) (x.sem.getD m default) := by
  unfold M.atR
  rw [if_neg (by omega), if_neg (by omega), if_neg (by omega), if_neg (by omega), if_neg (by omega), if_neg (by omega), if_neg (by omega), if_neg (by omega), if_pos hp]
 rw [e]
 have hk3 : z.cur.kind ≠ 3 := by
  have := hm
  unfold M.mx at this
  simp only [Bool.and_eq_true, Bool.not_eq_true', beq_eq_false_iff_ne, ne_eq] at this
  exact this.1.2
 have h8 := A.c.hand hp
 have hb8 : bitOf z.c.own.old 0 = false ∧ bitOf z.c.own.old 1 = false ∧ z.c.own.old / 8 ≠ 0 := by
  rw [bit_lk, bit_wk]
  unfold M.lk M.wk
  refine ⟨by simp; omega, by simp; omega, by omega⟩
 refine run_steps h z.cur.kind n 7 92 (by rw [b.c, hp]; rfl) hk3 (by rw [b.c, hp]; decide) (enters_of Tryz.func92 (by kernel_rfl) rfl) (fun l W hW => ?_)
 have CX := (b.fr l).cx g m4
 have R := take92 hW CX (by rw [b.c]; exact own_of A.c) (by rw [b.c]; exact hb8) (at_w A) (by rw [b.c]; exact at_take A hp)
 rw [b.c] at R
 exact R
theorem at_step9 {B : Nat} {k : Blk} {s : Sx} {w : World} (h : St B k s w) {x : M.W} (g : M.Good x) {i : Nat} {z : M.PC} {m : Nat} (b : Bx k s x i z m) (hz : x.cl[i]? = some z) (hr : z.c.gor.state = 0) (m4 : m < 4) (hm : M.mx m z = true) (n : Int) (hp : z.c.pc = 9) :
  Calls Tryz.prog 23 #[.pointer (some ⟨k.sp, 0, none⟩), .agg #[.int .i64 z.cur.kind, .int .i64 n]] w (RunOk B k (Rx s m x.sem (M.atR (M.runs x.cl) x.now i z.cur.kind z.c (x.mu.getD m default) (x.sem.getD m default))) w) := by
 have A := at_of g hz hr m4 hm
 have e : M.atR (M.runs x.cl) x.now i z.cur.kind z.c (x.mu.getD m default) (x.sem.getD m default) = M.triedR z.c (x.mu.getD m default) (x.sem.getD m default) := by
  unfold M.atR
  rw [if_neg (by omega), if_neg (by omega), if_neg (by omega), if_neg (by omega), if_neg (by omega), if_neg (by omega), if_neg (by omega), if_neg (by omega), if_neg (by omega), if_pos hp]
 rw [e]
 have hk3 : z.cur.kind ≠ 3 := by
  have := hm
  unfold M.mx at this
  simp only [Bool.and_eq_true, Bool.not_eq_true', beq_eq_false_iff_ne, ne_eq] at this
  exact this.1.2
 refine run_steps h z.cur.kind n 8 93 (by rw [b.c, hp]; rfl) hk3 (by rw [b.c, hp]; decide) (enters_of Tryz.func93 (by kernel_rfl) rfl) (fun l W hW => ?_)
 have CX := (b.fr l).cx g m4
 have R := tried93 hW CX (by rw [b.c]; intro q; rw [q]; exact (A.c.tried hp).1) (at_w A) (fun _ => by have := A.word_lo; have := A.word_hi; unfold isW; exact decide_eq_true (by omega))
 rw [b.c] at R
 exact R
theorem at_step10 {B : Nat} {k : Blk} {s : Sx} {w : World} (h : St B k s w) {x : M.W} (g : M.Good x) {i : Nat} {z : M.PC} {m : Nat} (b : Bx k s x i z m) (hz : x.cl[i]? = some z) (hr : z.c.gor.state = 0) (m4 : m < 4) (hm : M.mx m z = true) (n : Int) (hp : z.c.pc = 10) :
  Calls Tryz.prog 23 #[.pointer (some ⟨k.sp, 0, none⟩), .agg #[.int .i64 z.cur.kind, .int .i64 n]] w (RunOk B k (Rx s m x.sem (M.atR (M.runs x.cl) x.now i z.cur.kind z.c (x.mu.getD m default) (x.sem.getD m default))) w) := by
 have A := at_of g hz hr m4 hm
 have e : M.atR (M.runs x.cl) x.now i z.cur.kind z.c (x.mu.getD m default) (x.sem.getD m default) = M.giveR z.c (x.mu.getD m default) (x.sem.getD m default) := by
  unfold M.atR
  rw [if_neg (by omega), if_neg (by omega), if_neg (by omega), if_neg (by omega), if_neg (by omega), if_neg (by omega), if_neg (by omega), if_neg (by omega), if_neg (by omega), if_neg (by omega), if_pos hp]
 rw [e]
 have hk3 : z.cur.kind ≠ 3 := by
  have := hm
  unfold M.mx at this
  simp only [Bool.and_eq_true, Bool.not_eq_true', beq_eq_false_iff_ne, ne_eq] at this
  exact this.1.2
 refine run_steps h z.cur.kind n 9 94 (by rw [b.c, hp]; rfl) hk3 (by rw [b.c, hp]; decide) (enters_of Tryz.func94 (by kernel_rfl) rfl) (fun l W hW => ?_)
 have CX := (b.fr l).cx g m4
 have R := give94 hW CX (by rw [b.c]; exact isW_of A.c.old0 A.c.old1)
 rw [b.c] at R
 exact R
theorem at_step11 {B : Nat} {k : Blk} {s : Sx} {w : World} (h : St B k s w) {x : M.W} (g : M.Good x) {i : Nat} {z : M.PC} {m : Nat} (b : Bx k s x i z m) (hz : x.cl[i]? = some z) (hr : z.c.gor.state = 0) (m4 : m < 4) (hm : M.mx m z = true) (n : Int) (hp : z.c.pc = 11) :
  Calls Tryz.prog 23 #[.pointer (some ⟨k.sp, 0, none⟩), .agg #[.int .i64 z.cur.kind, .int .i64 n]] w (RunOk B k (Rx s m x.sem (M.atR (M.runs x.cl) x.now i z.cur.kind z.c (x.mu.getD m default) (x.sem.getD m default))) w) := by
 have A := at_of g hz hr m4 hm
 have e : M.atR (M.runs x.cl) x.now i z.cur.kind z.c (x.mu.getD m default) (x.sem.getD m default) = againR z.c (x.mu.getD m default) (x.sem.getD m default) := by
  unfold M.atR
  rw [if_neg (by omega), if_neg (by omega), if_neg (by omega), if_neg (by omega), if_neg (by omega), if_neg (by omega), if_neg (by omega), if_neg (by omega), if_neg (by omega), if_neg (by omega), if_neg (by omega), if_pos hp]
  rfl
 rw [e]
 have hk3 : z.cur.kind ≠ 3 := by
  have := hm
  unfold M.mx at this
  simp only [Bool.and_eq_true, Bool.not_eq_true', beq_eq_false_iff_ne, ne_eq] at this
  exact this.1.2
 refine run_steps h z.cur.kind n 10 95 (by rw [b.c, hp]; rfl) hk3 (by rw [b.c, hp]; decide) (enters_of Tryz.func95 (by kernel_rfl) rfl) (fun l W hW => ?_)
 have CX := (b.fr l).cx g m4
 have R := again95 hW CX
 rw [b.c] at R
 exact R
theorem at_step12 {B : Nat} {k : Blk} {s : Sx} {w : World} (h : St B k s w) {x : M.W} (g : M.Good x) {i : Nat} {z : M.PC} {m : Nat} (b : Bx k s x i z m) (hz : x.cl[i]? = some z) (hr : z.c.gor.state = 0) (m4 : m < 4) (hm : M.mx m z = true) (n : Int) (hp : z.c.pc = 12) :
  Calls Tryz.prog 23 #[.pointer (some ⟨k.sp, 0, none⟩), .agg #[.int .i64 z.cur.kind, .int .i64 n]] w (RunOk B k (Rx s m x.sem (M.atR (M.runs x.cl) x.now i z.cur.kind z.c (x.mu.getD m default) (x.sem.getD m default))) w) := by
 have A := at_of g hz hr m4 hm
 have e : M.atR (M.runs x.cl) x.now i z.cur.kind z.c (x.mu.getD m default) (x.sem.getD m default) = M.drawR z.c (x.mu.getD m default) (x.sem.getD m default) := by
  unfold M.atR
  rw [if_neg (by omega), if_neg (by omega), if_neg (by omega), if_neg (by omega), if_neg (by omega), if_neg (by omega), if_neg (by omega), if_neg (by omega), if_neg (by omega), if_neg (by omega), if_neg (by omega), if_neg (by omega), if_pos hp]
 rw [e]
 have hk3 : z.cur.kind ≠ 3 := by
  have := hm
  unfold M.mx at this
  simp only [Bool.and_eq_true, Bool.not_eq_true', beq_eq_false_iff_ne, ne_eq] at this
  exact this.1.2
 refine run_steps h z.cur.kind n 11 87 (by rw [b.c, hp]; rfl) hk3 (by rw [b.c, hp]; decide) (enters_of Tryz.func87 (by kernel_rfl) rfl) (fun l W hW => ?_)
 have CX := (b.fr l).cx g m4
 have R := draw87 hW CX (at_draw A) (by rw [b.c]; omega)
 rw [b.c] at R
 exact R
theorem at_step13 {B : Nat} {k : Blk} {s : Sx} {w : World} (h : St B k s w) {x : M.W} (g : M.Good x) {i : Nat} {z : M.PC} {m : Nat} (b : Bx k s x i z m) (hz : x.cl[i]? = some z) (hr : z.c.gor.state = 0) (m4 : m < 4) (hm : M.mx m z = true) (n : Int) (hp : z.c.pc = 13) :
  Calls Tryz.prog 23 #[.pointer (some ⟨k.sp, 0, none⟩), .agg #[.int .i64 z.cur.kind, .int .i64 n]] w (RunOk B k (Rx s m x.sem (M.atR (M.runs x.cl) x.now i z.cur.kind z.c (x.mu.getD m default) (x.sem.getD m default))) w) := by
 have A := at_of g hz hr m4 hm
 have e : M.atR (M.runs x.cl) x.now i z.cur.kind z.c (x.mu.getD m default) (x.sem.getD m default) = M.turnR z.c (x.mu.getD m default) (x.sem.getD m default) := by
  unfold M.atR
  rw [if_neg (by omega), if_neg (by omega), if_neg (by omega), if_neg (by omega), if_neg (by omega), if_neg (by omega), if_neg (by omega), if_neg (by omega), if_neg (by omega), if_neg (by omega), if_neg (by omega), if_neg (by omega), if_neg (by omega), if_pos hp]
 rw [e]
 have hk3 : z.cur.kind ≠ 3 := by
  have := hm
  unfold M.mx at this
  simp only [Bool.and_eq_true, Bool.not_eq_true', beq_eq_false_iff_ne, ne_eq] at this
  exact this.1.2
 refine run_steps h z.cur.kind n 12 88 (by rw [b.c, hp]; rfl) hk3 (by rw [b.c, hp]; decide) (enters_of Tryz.func88 (by kernel_rfl) rfl) (fun l W hW => ?_)
 have CX := (b.fr l).cx g m4
 have R := turn88 hW CX (by rw [b.c]; exact at_turn A) (by rw [b.c]; omega)
 rw [b.c] at R
 exact R
theorem at_step14 {B : Nat} {k : Blk} {s : Sx} {w : World} (h : St B k s w) {x : M.W} (g : M.Good x) {i : Nat} {z : M.PC} {m : Nat} (b : Bx k s x i z m) (hz : x.cl[i]? = some z) (hr : z.c.gor.state = 0) (m4 : m < 4) (hm : M.mx m z = true) (n : Int) (hp : z.c.pc = 14) :
  Calls Tryz.prog 23 #[.pointer (some ⟨k.sp, 0, none⟩), .agg #[.int .i64 z.cur.kind, .int .i64 n]] w (RunOk B k (Rx s m x.sem (M.atR (M.runs x.cl) x.now i z.cur.kind z.c (x.mu.getD m default) (x.sem.getD m default))) w) := by
 have A := at_of g hz hr m4 hm
 have e : M.atR (M.runs x.cl) x.now i z.cur.kind z.c (x.mu.getD m default) (x.sem.getD m default) = M.grantR z.c (x.mu.getD m default) (x.sem.getD m default) := by
  unfold M.atR
  rw [if_neg (by omega), if_neg (by omega), if_neg (by omega), if_neg (by omega), if_neg (by omega), if_neg (by omega), if_neg (by omega), if_neg (by omega), if_neg (by omega), if_neg (by omega), if_neg (by omega), if_neg (by omega), if_neg (by omega), if_neg (by omega), if_pos hp]
 rw [e]
 have hk3 : z.cur.kind ≠ 3 := by
  have := hm
  unfold M.mx at this
  simp only [Bool.and_eq_true, Bool.not_eq_true', beq_eq_false_iff_ne, ne_eq] at this
  exact this.1.2
 refine run_steps h z.cur.kind n 13 96 (by rw [b.c, hp]; rfl) hk3 (by rw [b.c, hp]; decide) (enters_of Tryz.func96 (by kernel_rfl) rfl) (fun l W hW => ?_)
 have CX := (b.fr l).cx g m4
 cases hl : (x.sem.getD m default).line with
 | nil =>
  have R := grant_none hW CX (qx_of g m4) b.at_ b.who hl (by have := count_le A.inv; omega)
  rw [b.c] at R
  exact R
 | cons j r =>
  obtain ⟨y, hy, hji, _, _, h1⟩ := A.lineAt hp (j := j) (by rw [hl]; exact List.mem_cons_self ..)
  obtain ⟨cc, hcv⟩ := b.cv
  have hyg : y.c.gor = ⟨1, false⟩ := by
   have h2 := (g.c j y hy).permit
   cases hg : y.c.gor with
   | mk a b =>
    rw [hg] at h1 h2
    simp only at h1 h2
    rw [h1, h2]
  have R := grant_pop hW CX (qx_of g m4) b.at_ b.who r y.c hl hcv (by rw [b.cl, List.getElem?_map, hy]; rfl) hyg hji (by rw [b.cl, List.length_map]; exact g.cl)
  rw [b.c] at R
  exact R
theorem at_step15 {B : Nat} {k : Blk} {s : Sx} {w : World} (h : St B k s w) {x : M.W} (g : M.Good x) {i : Nat} {z : M.PC} {m : Nat} (b : Bx k s x i z m) (hz : x.cl[i]? = some z) (hr : z.c.gor.state = 0) (m4 : m < 4) (hm : M.mx m z = true) (n : Int) (hp : z.c.pc = 15) :
  Calls Tryz.prog 23 #[.pointer (some ⟨k.sp, 0, none⟩), .agg #[.int .i64 z.cur.kind, .int .i64 n]] w (RunOk B k (Rx s m x.sem (M.atR (M.runs x.cl) x.now i z.cur.kind z.c (x.mu.getD m default) (x.sem.getD m default))) w) := by
 have A := at_of g hz hr m4 hm
 have e : M.atR (M.runs x.cl) x.now i z.cur.kind z.c (x.mu.getD m default) (x.sem.getD m default) = M.servedR z.c (x.mu.getD m default) (x.sem.getD m default) := by
  unfold M.atR
  rw [if_neg (by omega), if_neg (by omega), if_neg (by omega), if_neg (by omega), if_neg (by omega), if_neg (by omega), if_neg (by omega), if_neg (by omega), if_neg (by omega), if_neg (by omega), if_neg (by omega), if_neg (by omega), if_neg (by omega), if_neg (by omega), if_neg (by omega)]
 rw [e]
 have hk3 : z.cur.kind ≠ 3 := by
  have := hm
  unfold M.mx at this
  simp only [Bool.and_eq_true, Bool.not_eq_true', beq_eq_false_iff_ne, ne_eq] at this
  exact this.1.2
 refine run_steps h z.cur.kind n 14 97 (by rw [b.c, hp]; rfl) hk3 (by rw [b.c, hp]; decide) (enters_of Tryz.func97 (by kernel_rfl) rfl) (fun l W hW => ?_)
 have CX := (b.fr l).cx g m4
 have R := served97 hW CX (at_done A (at_out A (.inr hp)))
 rw [b.c] at R
 exact R
theorem run_mutex {B : Nat} {k : Blk} {s : Sx} {w : World} (h : St B k s w) {x : M.W} (g : M.Good x) {i : Nat} {z : M.PC} {m : Nat} (b : Bx k s x i z m) (hz : x.cl[i]? = some z) (hr : z.c.gor.state = 0) (m4 : m < 4) (hm : M.mx m z = true) (n : Int) (hk3 : z.cur.kind ≠ 3) :
  Calls Tryz.prog 23 #[.pointer (some ⟨k.sp, 0, none⟩), .agg #[.int .i64 z.cur.kind, .int .i64 n]] w (RunOk B k (Rx s m x.sem (M.atR (M.runs x.cl) x.now i z.cur.kind z.c (x.mu.getD m default) (x.sem.getD m default))) w) := by
 have C := g.c i z hz
 have hlt : z.c.act < z.prog.length := by
  have := C.done
  have := C.a1
  omega
 have hok := M.cur_ok (g.progs i z hz) C.a0 hlt
 have hpc := C.pc
 obtain ⟨k0, k3, _⟩ := hok
 by_cases q0 : z.c.pc = 0
 ·rcases (show z.cur.kind = 0 ∨ z.cur.kind = 1 ∨ z.cur.kind = 2 by omega) with q | q | q
  ·exact at_start0 h g b hz hr m4 hm n q0 q
  ·exact at_start1 h g b hz hr m4 hm n q0 q
  ·exact at_start2 h g b hz hr m4 hm n q0 q
 by_cases q1 : z.c.pc = 1
 ·exact at_step1 h g b hz hr m4 hm n q1
 by_cases q2 : z.c.pc = 2
 ·exact at_step2 h g b hz hr m4 hm n q2
 by_cases q3 : z.c.pc = 3
 ·exact at_step3 h g b hz hr m4 hm n q3
 by_cases q4 : z.c.pc = 4
 ·exact at_step4 h g b hz hr m4 hm n q4
 by_cases q5 : z.c.pc = 5
 ·exact at_step5 h g b hz hr m4 hm n q5
 by_cases q6 : z.c.pc = 6
 ·exact at_step6 h g b hz hr m4 hm n q6
 by_cases q7 : z.c.pc = 7
 ·exact at_step7 h g b hz hr m4 hm n q7
 by_cases q8 : z.c.pc = 8
 ·exact at_step8 h g b hz hr m4 hm n q8
 by_cases q9 : z.c.pc = 9
 ·exact at_step9 h g b hz hr m4 hm n q9
 by_cases q10 : z.c.pc = 10
 ·exact at_step10 h g b hz hr m4 hm n q10
 by_cases q11 : z.c.pc = 11
 ·exact at_step11 h g b hz hr m4 hm n q11
 by_cases q12 : z.c.pc = 12
 ·exact at_step12 h g b hz hr m4 hm n q12
 by_cases q13 : z.c.pc = 13
 ·exact at_step13 h g b hz hr m4 hm n q13
 by_cases q14 : z.c.pc = 14
 ·exact at_step14 h g b hz hr m4 hm n q14
 exact at_step15 h g b hz hr m4 hm n (by omega)
end Go.Proofs.YtoimfknjfeencaaGreatDoor.Hand
end
section
namespace Go.Proofs.YtoimfknjfeencaaGreatDoor.Hand
open Go.RowKit Go.Proofs.YtoimfknjfeencaaGreatDoorW.PrintWords Go.Proofs.YtoimfknjfeencaaGreatDoorW.PrintLast Go.Proofs.YtoimfknjfeencaaGreatDoorW.PrintMore
theorem rows_C {α : Type} {sz : Nat} {enc : α → List Value} {h1 : ∀ x, (enc x).length = sz} {h2 : ∀ x, ∀ u ∈ enc x, u.oneCell' = true} {w : World} {g t : Nat} {arr : Array Value} {l : List α} (hg : w.heap[g]? = some (.cells arr t (0, 0))) (hr : ∀ i x, l[i]? = some x → ∀ j u, (enc x)[j]? = some u → arr[i * sz + j]? = some u) (hl : l.length ≤ 100000) : (flat sz enc h1 h2).C w (some ⟨g, 0, none⟩) l.length l := by
  refine ⟨rfl, by have : l.length ≤ 9223372036854775807 := by omega
                  exact this, fun _ => ⟨_, rfl, fun i z hz => ⟨enc z, h1 z, rfl, fun j u hu => ?_⟩⟩⟩
  rw [Addr.add_lit, Nat.zero_add, blk_cell hg]
  exact hr i z hz j u hu
def zeros12 : Array Value := #[.int .i64 0, .int .i64 0, .int .i64 0, .int .i64 0, .int .i64 0, .int .i64 0, .int .i64 0, .int .i64 0, .int .i64 0, .int .i64 0, .int .i64 0, .int .i64 0]
theorem zeros12_C {w : World} {g : Nat} (hg : w.heap[g]? = some (.cells zeros12 53 (0, 0))) : kMutex.C w (some ⟨g, 0, none⟩) 4 (List.replicate 4 (⟨0, ⟨0, 0⟩⟩ : M.Mutex)) := by
 refine rows_C (l := List.replicate 4 (⟨0, ⟨0, 0⟩⟩ : M.Mutex)) hg (fun i x hx j u hu => ?_) (by simp)
 have hi := (List.getElem?_eq_some_iff.1 hx).1
 have hj := (List.getElem?_eq_some_iff.1 hu).1
 simp at hi
 have hx' : x = ⟨0, ⟨0, 0⟩⟩ := List.eq_of_mem_replicate (List.mem_of_getElem? hx)
 subst hx'
 have hj3 : j < 3 := hj
 match i, j, hi, hj3 with
 | 0, 0, _, _ => exact hu
 | 0, 1, _, _ => exact hu
 | 0, 2, _, _ => exact hu
 | 1, 0, _, _ => exact hu
 | 1, 1, _, _ => exact hu
 | 1, 2, _, _ => exact hu
 | 2, 0, _, _ => exact hu
 | 2, 1, _, _ => exact hu
 | 2, 2, _, _ => exact hu
 | 3, 0, _, _ => exact hu
 | 3, 1, _, _ => exact hu
 | 3, 2, _, _ => exact hu
def zeroW : Array Value := #[.int .i64 0, .slice none 0 0, .slice none 0 0, .slice none 0 0, .slice none 0 0, .int .i64 0]
def NewBad (w : World) (e : Ending) (w' : World) : Prop := e = .returned (.tuple #[.agg zeroW, .int .i64 1]) ∧ Below w.heap.size w w'
theorem new_bad (A : Option Addr) (c : Nat) (l : List (List M.Act)) (w : World) (hC : (Kd.slice 49 kAct).C w A l.length l) (hc : l.length ≤ c) (hb : okPs (l.map (·.map toS)) = false) :
  Calls Tryz.prog 5 #[.slice A l.length c] w (NewBad w) := by
 have P1 := ak_ (fun w' (hb' : Below w.heap.size w w') => prog_Right.calls A c (l.map (·.map toS)) false w' (by have := CC_to (Kd.C_below hC hb'); rw [List.length_map]; exact this) (by rw [List.length_map]; exact hc) (by unfold prog_Right.f; rw [hb]))
 simp only [List.length_map] at P1
 clear hC hb
 have hu := Tryz.underlying29
 have BR := blk_new w (.cells #[.int .i64 0, .slice none 0 0, .slice none 0 0, .slice none 0 0, .slice none 0 0, .int .i64 0] 29)
 have BB := ak_ (bel2 (Below.refl _ w) (.cells #[.int .i64 0, .slice none 0 0, .slice none 0 0, .slice none 0 0, .slice none 0 0, .int .i64 0] 29))
 go_enter Tryz.func5, Tryz.ntmps5
 go_wp2_with fail
 refine (P1.out _ BB.out).mono ?_
 rintro e w2 ⟨rfl, hb2⟩
 have BR2 := ak_ (blk_below BR hb2)
 have BB2 := ak_ (bel3 BB.out hb2)
 clear hb2 BB BR
 have z0 : w2.cell? ⟨w.heap.size, 0, none⟩ = some (.int .i64 0) := blk_cell BR2.out 0
 have z1 : w2.cell? ⟨w.heap.size, 1, none⟩ = some (.slice none 0 0) := blk_cell BR2.out 1
 have z2 : w2.cell? ⟨w.heap.size, 2, none⟩ = some (.slice none 0 0) := blk_cell BR2.out 2
 have z3 : w2.cell? ⟨w.heap.size, 3, none⟩ = some (.slice none 0 0) := blk_cell BR2.out 3
 have z4 : w2.cell? ⟨w.heap.size, 4, none⟩ = some (.slice none 0 0) := blk_cell BR2.out 4
 have z5 : w2.cell? ⟨w.heap.size, 5, none⟩ = some (.int .i64 0) := blk_cell BR2.out 5
 have f0 : w2.frozen? ⟨w.heap.size, 0, none⟩ = false := blk_frozen BR2.out 0
 have f1 : w2.frozen? ⟨w.heap.size, 1, none⟩ = false := blk_frozen BR2.out 1
 have f2 : w2.frozen? ⟨w.heap.size, 2, none⟩ = false := blk_frozen BR2.out 2
 have f3 : w2.frozen? ⟨w.heap.size, 3, none⟩ = false := blk_frozen BR2.out 3
 have f4 : w2.frozen? ⟨w.heap.size, 4, none⟩ = false := blk_frozen BR2.out 4
 have f5 : w2.frozen? ⟨w.heap.size, 5, none⟩ = false := blk_frozen BR2.out 5
 go_wp2
 exact bodyPost_ret (results_ct rfl _ _ w.heap.size 29 _ (0, 0) _ rfl (set6 BR2.out (.int .i64 0) (.slice none 0 0) (.slice none 0 0) (.slice none 0 0) (.slice none 0 0) (.int .i64 0)) Tryz.underlying29 rfl (by kernel_rfl)) rfl ⟨rfl, below6 BB2.out (Nat.le_refl _) _ _ _ _ _ _⟩
theorem blk_set6 {w : World} {g g' t : Nat} {cs : Array Value} (h : w.heap[g]? = some (.cells cs t (0, 0))) (hne : g ≠ g') (q0 q1 q2 q3 q4 q5 : Value) : ((((((w.setCell ⟨g', 0, none⟩ q0).setCell ⟨g', 1, none⟩ q1).setCell ⟨g', 2, none⟩ q2).setCell ⟨g', 3, none⟩ q3).setCell ⟨g', 4, none⟩ q4).setCell ⟨g', 5, none⟩ q5).heap[g]? = some (.cells cs t (0, 0)) :=
 blk_far (blk_far (blk_far (blk_far (blk_far (blk_far h hne q0) hne q1) hne q2) hne q3) hne q4) hne q5
theorem R_set6 {α : Type} {d : Kd α} {e base : Nat} {ok : Nat → Prop} {w : World} {v : Value} {xs : List α} {g t : Nat} {a b c x y z : Value} (h : d.R e w base ok v xs) (hb : w.heap[g]? = some (.cells #[a, b, c, x, y, z] t (0, 0))) (ht : ∀ q, q ∈ e :: d.E → q ≠ t) (q0 q1 q2 q3 q4 q5 : Value) : d.R e ((((((w.setCell ⟨g, 0, none⟩ q0).setCell ⟨g, 1, none⟩ q1).setCell ⟨g, 2, none⟩ q2).setCell ⟨g, 3, none⟩ q3).setCell ⟨g, 4, none⟩ q4).setCell ⟨g, 5, none⟩ q5) base ok v xs := by
 have h0 := blk_put hb 0 q0 rfl
 have h1 := blk_put h0 1 q1 rfl
 have h2 := blk_put h1 2 q2 rfl
 have h3 := blk_put h2 3 q3 rfl
 have h4 := blk_put h3 4 q4 rfl
 exact Kd.R_set (Kd.R_set (Kd.R_set (Kd.R_set (Kd.R_set (Kd.R_set h hb ht 0 q0) h0 ht 1 q1) h1 ht 2 q2) h2 ht 3 q3) h3 ht 4 q4) h4 ht 5 q5
def NewOk (S : Nat → Prop) (l : List (List M.Act)) (w : World) (e : Ending) (w' : World) : Prop := ∃ v, e = .returned (.tuple #[v, .int .i64 0]) ∧ WVS S w' v (M.new l) ∧ Below w.heap.size w w'
def firstOf (p : List M.Act) : M.Client := M.firstC ⟨if p.length = 0 then 2 else 0, false⟩ 0
theorem new_progs (l : List (List M.Act)) : (M.new l).cl.map (·.prog) = l := by
 unfold M.new
 simp only [List.map_map]
 exact (List.map_congr_left (fun _ _ => rfl)).trans (List.map_id l)
theorem new_clients (l : List (List M.Act)) : (M.new l).cl.map (·.c) = l.map firstOf := by
 unfold M.new
 simp only [List.map_map]
 exact List.map_congr_left (fun _ _ => rfl)
theorem new_table (l : List (List M.Act)) : tableOf (M.new l).sem = [] := rfl
theorem new_len (l : List (List M.Act)) : (M.new l).cl.length = l.length := by
 unfold M.new
 simp
theorem infoK44 : (Tryz.prog.info? 44).map (fun i => (i.zero, i.size, i.bytes)) = some (some (.agg #[.int .i64 0, .bool false, .int .i64 0, .int .i64 0, .int .i64 0, .int .i64 0, .bool false, .bool false, .int .i64 0, .bool false, .bool false, .int .i64 0, .int .i64 0]), 13, 88) := by kernel_rfl
theorem new_ok (A : Option Addr) (c : Nat) (l : List (List M.Act)) (w : World) (S : Nat → Prop) (hCS : ∀ W, Kept w W S → (Kd.slice 49 kAct).C W A l.length l) (hSB : ∀ b, S b → b < w.heap.size) (hc : l.length ≤ c) (h8 : l.length ≤ 8) (hb : okPs (l.map (·.map toS)) = true) :
  Calls Tryz.prog 5 #[.slice A l.length c] w (NewOk S l w) := by
 have hC := hCS w (Kept.refl _ _)
 have HCS := ak_ hCS
 have HSB := ak_ hSB
 clear hCS hSB
 have P1 := ak_ (fun w' (hb' : Below w.heap.size w w') => prog_Right.calls A c (l.map (·.map toS)) true w' (by have := CC_to (Kd.C_below hC hb'); rw [List.length_map]; exact this) (by rw [List.length_map]; exact hc) (by unfold prog_Right.f; rw [hb]))
 simp only [List.length_map] at P1
 have HC := ak_ hC
 clear hC hb
 have hu := Tryz.underlying29
 have hu44 := Tryz.underlying44
 have hu40 := Tryz.underlying40
 obtain ⟨i53, hi53, hz53⟩ := Option.map_eq_some_iff.1 (show (Tryz.prog.info? 53).map (fun i => (i.zero, i.size, i.bytes)) = some (some (.agg #[.int .i64 0, .int .i64 0, .int .i64 0]), 3, 24) by kernel_rfl)
 simp only [Prod.mk.injEq] at hz53
 have hmk : ∀ W : World, (Instr.makeSlice 25 (.int .i64 4) (.int .i64 4)).run Tryz.prog W = .ok (.slice (some ⟨W.heap.size, 0, none⟩) 4 4) (W.alloc (.cells zeros12 53)) := by
  intro W
  have h := run_make (P := Tryz.prog) W 25 53 i53 _ Tryz.underlying25 hi53 hz53.1 .i64 .i64 4 4 (by omega) (by omega) (by rw [hz53.2.2]; omega) (by omega)
  simp only [hz53.2.1] at h
  rw [h, show madeCells (Value.agg #[Value.int IntKind.i64 0, Value.int IntKind.i64 0, Value.int IntKind.i64 0]).cells (Int.toNat 4 * 3) = zeros12 by kernel_rfl]
  rfl
 clear hi53 hz53
 have BR := blk_new w (.cells #[.int .i64 0, .slice none 0 0, .slice none 0 0, .slice none 0 0, .slice none 0 0, .int .i64 0] 29)
 have BB := ak_ (bel2 (Below.refl _ w) (.cells #[.int .i64 0, .slice none 0 0, .slice none 0 0, .slice none 0 0, .slice none 0 0, .int .i64 0] 29))
 go_enter Tryz.func5, Tryz.ntmps5
 go_wp2_with fail
 refine (P1.out _ BB.out).mono ?_
 rintro e w2 ⟨rfl, hb2⟩
 have BR2 := ak_ (blk_below BR hb2)
 have BB2 := ak_ (bel3 BB.out hb2)
 clear hb2 BB BR
 go_wp2
 have BX1 := blk_alloc BR2.out (.cells zeros12 53)
 have HZ0 := ak_ (blk_alloc BX1 (.cells #[.int .i64 0, .slice A l.length c, .slice none 0 0, .slice (some ⟨w2.heap.size, 0, none⟩) 4 4, .slice none 0 0, .int .i64 0] 29))
 have HM0 := ak_ (blk_alloc (blk_new w2 (.cells zeros12 53)) (.cells #[.int .i64 0, .slice A l.length c, .slice none 0 0, .slice (some ⟨w2.heap.size, 0, none⟩) 4 4, .slice none 0 0, .int .i64 0] 29))
 have HN00 := blk_new (w2.alloc (.cells zeros12 53)) (.cells #[.int .i64 0, .slice A l.length c, .slice none 0 0, .slice (some ⟨w2.heap.size, 0, none⟩) 4 4, .slice none 0 0, .int .i64 0] 29)
 rw [World.size_alloc] at HN00
 have HN0 := ak_ HN00
 have HB0 := ak_ (bel2 (bel2 BB2.out (.cells zeros12 53)) (.cells #[.int .i64 0, .slice A l.length c, .slice none 0 0, .slice (some ⟨w2.heap.size, 0, none⟩) 4 4, .slice none 0 0, .int .i64 0] 29))
 have hs2 : w.heap.size < w2.heap.size := blk_lt BR2.out
 clear HN00 BX1 BB2 BR2
 generalize (w2.alloc (.cells zeros12 53)).alloc (.cells #[.int .i64 0, .slice A l.length c, .slice none 0 0, .slice (some ⟨w2.heap.size, 0, none⟩) 4 4, .slice none 0 0, .int .i64 0] 29) = W0 at *
 go_loopg [17] l.length (fun g v17 wx => Aside0 (Below w.heap.size w wx) ∧ ∃ (i : Nat) (v : Value), i + g = l.length ∧ v17 = .int .i64 i ∧ Aside0 (wx.heap[w2.heap.size + 1]? = some (.cells #[.int .i64 0, .slice A l.length c, v, .slice (some ⟨w2.heap.size, 0, none⟩) 4 4, .slice none 0 0, .int .i64 0] 29 (0, 0))) ∧ Aside0 (wx.heap[w.heap.size]? = some (.cells zeroW 29 (0, 0))) ∧ Aside0 (wx.heap[w2.heap.size]? = some (.cells zeros12 53 (0, 0))) ∧ Aside0 (Kd.R kClient 44 wx w.heap.size (fun _ => True) v ((l.take i).map firstOf)))
 case atStart => exact ⟨HB0, 0, .slice none 0 0, by omega, rfl, HN0, HZ0, HM0, ⟨Kd.R_nil _ _ _ _ _⟩⟩
 case round =>
  obtain ⟨HB, i, v, hig, rfl, HN, HZ, HM, HO⟩ := hrel
  have hlen : ((l.take i).map firstOf).length = i := by rw [List.length_map, List.length_take]; omega
  obtain ⟨Av, cv, hv, hcv, hCv⟩ := Kd.R_reads HO.out
  rw [hlen] at hv hCv hcv
  subst hv
  have HCV := ak_ hCv
  clear hCv
  cases gk with
  | zero =>
   have hi : i = l.length := by omega
   have hnot : ¬ ((i : Int) < (l.length : Int)) := by omega
   subst hi
   have n0 : wr.cell? ⟨w2.heap.size + 1, 0, none⟩ = some (.int .i64 0) := blk_cell HN.out 0
   have n1 : wr.cell? ⟨w2.heap.size + 1, 1, none⟩ = some (.slice A l.length c) := blk_cell HN.out 1
   have n2 : wr.cell? ⟨w2.heap.size + 1, 2, none⟩ = some (.slice Av l.length cv) := blk_cell HN.out 2
   have n3 : wr.cell? ⟨w2.heap.size + 1, 3, none⟩ = some (.slice (some ⟨w2.heap.size, 0, none⟩) 4 4) := blk_cell HN.out 3
   have n4 : wr.cell? ⟨w2.heap.size + 1, 4, none⟩ = some (.slice none 0 0) := blk_cell HN.out 4
   have n5 : wr.cell? ⟨w2.heap.size + 1, 5, none⟩ = some (.int .i64 0) := blk_cell HN.out 5
   have z0 : wr.cell? ⟨w.heap.size, 0, none⟩ = some (.int .i64 0) := blk_cell HZ.out 0
   have z1 : wr.cell? ⟨w.heap.size, 1, none⟩ = some (.slice none 0 0) := blk_cell HZ.out 1
   have z2 : wr.cell? ⟨w.heap.size, 2, none⟩ = some (.slice none 0 0) := blk_cell HZ.out 2
   have z3 : wr.cell? ⟨w.heap.size, 3, none⟩ = some (.slice none 0 0) := blk_cell HZ.out 3
   have z4 : wr.cell? ⟨w.heap.size, 4, none⟩ = some (.slice none 0 0) := blk_cell HZ.out 4
   have z5 : wr.cell? ⟨w.heap.size, 5, none⟩ = some (.int .i64 0) := blk_cell HZ.out 5
   have f0 : wr.frozen? ⟨w.heap.size, 0, none⟩ = false := blk_frozen HZ.out 0
   have f1 : wr.frozen? ⟨w.heap.size, 1, none⟩ = false := blk_frozen HZ.out 1
   have f2 : wr.frozen? ⟨w.heap.size, 2, none⟩ = false := blk_frozen HZ.out 2
   have f3 : wr.frozen? ⟨w.heap.size, 3, none⟩ = false := blk_frozen HZ.out 3
   have f4 : wr.frozen? ⟨w.heap.size, 4, none⟩ = false := blk_frozen HZ.out 4
   have f5 : wr.frozen? ⟨w.heap.size, 5, none⟩ = false := blk_frozen HZ.out 5
   have HE := ak_ (show (l.take l.length).map firstOf = l.map firstOf by rw [List.take_length])
   go_wp2
   refine bodyPost_ret (results_ct rfl _ _ w.heap.size 29 _ (0, 0) _ rfl (set6 HZ.out (.int .i64 0) (.slice A l.length c) (.slice Av l.length cv) (.slice (some ⟨w2.heap.size, 0, none⟩) 4 4) (.slice none 0 0) (.int .i64 0)) Tryz.underlying29 rfl (by kernel_rfl)) rfl ?_
   have hB6 := below6 HB.out (Nat.le_refl w.heap.size) (.int .i64 0) (.slice A l.length c) (.slice Av l.length cv) (.slice (some ⟨w2.heap.size, 0, none⟩) 4 4) (.slice none 0 0) (.int .i64 0)
   have hM6 := blk_set6 HM.out (g' := w.heap.size) (by omega) (.int .i64 0) (.slice A l.length c) (.slice Av l.length cv) (.slice (some ⟨w2.heap.size, 0, none⟩) 4 4) (.slice none 0 0) (.int .i64 0)
   have hR6 := R_set6 HO.out HZ.out (by decide) (.int .i64 0) (.slice A l.length c) (.slice Av l.length cv) (.slice (some ⟨w2.heap.size, 0, none⟩) 4 4) (.slice none 0 0) (.int .i64 0)
   obtain ⟨A6, c6, e6, hl6, hC6⟩ := Kd.R_reads hR6
   rw [hlen] at e6 hl6 hC6
   cases e6
   rw [HE.out] at hC6
   have hR7 := Kd.R_bound hR6
   refine ⟨_, rfl, ⟨A, Av, some ⟨w2.heap.size, 0, none⟩, none, c, cv, 4, 0, ?_, fun W hk => ?_⟩, hB6⟩
   ·unfold wv
    rw [new_len, new_table]
    rfl
   ·have hCW := Kd.C_kept_own hR7 (fun k hk2 q => by have := hk2.2.1; have := HSB.out k q; omega) W hk
    rw [HE.out] at hCW
    refine ⟨?_, by rw [new_len]; exact hc, ?_, by rw [new_len]; exact hl6, zeros12_C (blk_kept hM6 hk (fun q => by have := HSB.out _ q; omega)), Nat.le_refl _, Kd.C_nil _ _, Nat.le_refl _⟩
    ·rw [new_len, new_progs]
     exact HCS.out W ((Kept.of_below hB6 S).then_ hk (fun _ q => .inl q))
    ·rw [new_len, new_clients]
     exact hCW
  | succ go =>
   have hlt : i < l.length := by omega
   have HL := ak_ hlen
   clear hlen
   obtain ⟨p, hx⟩ : ∃ p, l[i]? = some p := ⟨_, List.getElem?_eq_getElem hlt⟩
   obtain ⟨ad, A1, c1, hea, yp, l1, g1⟩ := slice_cells HC.out i p hx
   cases hea
   replace yp := (HB.out.cell (World.block_lt_of_cell? w _ yp)).trans yp
   have hil : (i : Int) < (l.length : Int) := by omega
   have hpm : p.length ≤ 9223372036854775807 := g1.2.1
   clear g1
   by_cases hp : p.length = 0
   ·have hp2 : ((p.length : Int) = 0) := by omega
    have hfp : firstOf p = (⟨⟨2, false⟩, 0, 0, 0, 0, false, false, M.fresh⟩ : M.Client) := by unfold firstOf M.firstC; rw [if_pos hp]
    have HE := ak_ (show (l.take (i + 1)).map firstOf = (l.take i).map firstOf ++ [(⟨⟨2, false⟩, 0, 0, 0, 0, false, false, M.fresh⟩ : M.Client)] by rw [List.take_succ_eq_append_getElem hlt, List.map_append]; rw [List.getElem?_eq_getElem hlt] at hx; cases hx; rw [List.map_cons, List.map_nil, hfp])
    clear hx
    go_wp2_with (first | (go_at_call 17; refine (first_calls 0 false 0 _).mono ?_; rintro e w3 ⟨rfl, hb3⟩; have HB3 := ak_ (bel3 HB.out hb3); have HN3 := ak_ (blk_below HN.out hb3); have HZ3 := ak_ (blk_below HZ.out hb3); have HM3 := ak_ (blk_below HM.out hb3); have HO3 := ak_ (Kd.R_below HO.out hb3); have hz3 : w2.heap.size + 1 < w3.heap.size := blk_lt HN3.out; have HN4 := ak_ (blk_alloc HN3.out (.cells #[.int .i64 2, .bool false, .int .i64 0, .int .i64 0, .int .i64 0, .int .i64 0, .bool false, .bool false, .int .i64 (-1), .bool false, .bool false, .int .i64 0, .int .i64 0] 44)); have n2 : w3.cell? ⟨w2.heap.size + 1, 2, none⟩ = some (.slice Av i cv) := blk_cell HN3.out 2; have HB4 := ak_ (bel2 HB3.out (.cells #[.int .i64 2, .bool false, .int .i64 0, .int .i64 0, .int .i64 0, .int .i64 0, .bool false, .bool false, .int .i64 (-1), .bool false, .bool false, .int .i64 0, .int .i64 0] 44)); clear hb3) | (at_builtin; refine Kd.R_append kClient (w0 := w) w.heap.size rfl (.tmp 29) (.tmp 31) 24 44 (.agg #[.int .i64 0, .bool false, .int .i64 0, .int .i64 0, .int .i64 0, .int .i64 0, .bool false, .bool false, .int .i64 0, .bool false, .bool false, .int .i64 0, .int .i64 0]) 88 rfl Tryz.underlying24 infoK44 rfl (by decide) (by omega) _ ((l.take i).map firstOf) (⟨⟨2, false⟩, 0, 0, 0, 0, false, false, M.fresh⟩ : M.Client) [.int .i64 2, .bool false, .int .i64 0, .int .i64 0, .int .i64 0, .int .i64 0, .bool false, .bool false, .int .i64 (-1), .bool false, .bool false, .int .i64 0, .int .i64 0] (fun _ => True) (fun _ => False) rfl ?aX ?aP (fun _ hk => hk.elim) ?aF ?aO ?aB ?aS ?aL ?_; (case aX => simp [Act.eval]); (case aP => exact rfl); (case aB => exact HB4.out); (case aF => exact (fun _ _ => trivial)); (case aO => exact Kd.R_alloc HO3.out _); (case aS => exact HB4.out.size); (case aL => rw [HL.out]; omega); intro v5 w10 ho hb hg hat; obtain ⟨A5, c5, hv5, _, _⟩ := Kd.R_reads ho; rw [List.length_append, HL.out, List.length_singleton] at hv5; subst hv5; have hne5 := (Kd.R_types (Kd.R_alloc HO3.out (.cells #[.int .i64 2, .bool false, .int .i64 0, .int .i64 0, .int .i64 0, .int .i64 0, .bool false, .bool false, .int .i64 (-1), .bool false, .bool false, .int .i64 0, .int .i64 0] 44)) HN4.out (by decide)).1; have HN5 := ak_ ((hg.block _ (blk_lt HN4.out) (fun e => (hne5 _ e.symm).2 rfl)).trans HN4.out); have HZ4 := blk_alloc HZ3.out (.cells #[.int .i64 2, .bool false, .int .i64 0, .int .i64 0, .int .i64 0, .int .i64 0, .bool false, .bool false, .int .i64 (-1), .bool false, .bool false, .int .i64 0, .int .i64 0] 44); have HM4 := blk_alloc HM3.out (.cells #[.int .i64 2, .bool false, .int .i64 0, .int .i64 0, .int .i64 0, .int .i64 0, .bool false, .bool false, .int .i64 (-1), .bool false, .bool false, .int .i64 0, .int .i64 0] 44); have hneZ := (Kd.R_types (Kd.R_alloc HO3.out (.cells #[.int .i64 2, .bool false, .int .i64 0, .int .i64 0, .int .i64 0, .int .i64 0, .bool false, .bool false, .int .i64 (-1), .bool false, .bool false, .int .i64 0, .int .i64 0] 44)) HZ4 (by decide)).1; have hneM := (Kd.R_types (Kd.R_alloc HO3.out (.cells #[.int .i64 2, .bool false, .int .i64 0, .int .i64 0, .int .i64 0, .int .i64 0, .bool false, .bool false, .int .i64 (-1), .bool false, .bool false, .int .i64 0, .int .i64 0] 44)) HM4 (by decide)).1; have HZ5 := ak_ ((hg.block _ (blk_lt HZ4) (fun e => (hneZ _ e.symm).2 rfl)).trans HZ4); have HM5 := ak_ ((hg.block _ (blk_lt HM4) (fun e => (hneM _ e.symm).2 rfl)).trans HM4); have HB5 := ak_ hb; have HO5 := ak_ ho; have n5 : w10.cell? ⟨w2.heap.size + 1, 2, none⟩ = some (.slice Av i cv) := blk_cell HN5.out 2; have nf5 : w10.frozen? ⟨w2.heap.size + 1, 2, none⟩ = false := blk_frozen HN5.out 2; clear ho hb hg hat hne5 hneZ hneM HZ4 HM4))
    go_roundg go
    case rel => exact ⟨⟨HB5.out.setCell (p := ⟨w2.heap.size + 1, 2, none⟩) (by simp; omega) _⟩, i + 1, _, by omega, by go_num, ⟨blk_put HN5.out 2 _ rfl⟩, ⟨blk_far HZ5.out (p := ⟨w2.heap.size + 1, 2, none⟩) (by simp; omega) _⟩, ⟨blk_far HM5.out (p := ⟨w2.heap.size + 1, 2, none⟩) (by simp) _⟩, ⟨by rw [HE.out]; exact Kd.R_set HO5.out HN5.out (by decide) 2 _⟩⟩
    case measure => omega
   ·have hp2 : ¬ ((p.length : Int) = 0) := by omega
    have hfp : firstOf p = (⟨⟨0, false⟩, 0, 0, 0, 0, false, false, M.fresh⟩ : M.Client) := by unfold firstOf M.firstC; rw [if_neg hp]
    have HE := ak_ (show (l.take (i + 1)).map firstOf = (l.take i).map firstOf ++ [(⟨⟨0, false⟩, 0, 0, 0, 0, false, false, M.fresh⟩ : M.Client)] by rw [List.take_succ_eq_append_getElem hlt, List.map_append]; rw [List.getElem?_eq_getElem hlt] at hx; cases hx; rw [List.map_cons, List.map_nil, hfp])
    clear hx
    go_wp2_with (first | (go_at_call 17; refine (first_calls 0 false 0 _).mono ?_; rintro e w3 ⟨rfl, hb3⟩; have HB3 := ak_ (bel3 HB.out hb3); have HN3 := ak_ (blk_below HN.out hb3); have HZ3 := ak_ (blk_below HZ.out hb3); have HM3 := ak_ (blk_below HM.out hb3); have HO3 := ak_ (Kd.R_below HO.out hb3); have hz3 : w2.heap.size + 1 < w3.heap.size := blk_lt HN3.out; have HN4 := ak_ (blk_alloc HN3.out (.cells #[.int .i64 0, .bool false, .int .i64 0, .int .i64 0, .int .i64 0, .int .i64 0, .bool false, .bool false, .int .i64 (-1), .bool false, .bool false, .int .i64 0, .int .i64 0] 44)); have n2 : w3.cell? ⟨w2.heap.size + 1, 2, none⟩ = some (.slice Av i cv) := blk_cell HN3.out 2; have HB4 := ak_ (bel2 HB3.out (.cells #[.int .i64 0, .bool false, .int .i64 0, .int .i64 0, .int .i64 0, .int .i64 0, .bool false, .bool false, .int .i64 (-1), .bool false, .bool false, .int .i64 0, .int .i64 0] 44)); clear hb3) | (at_builtin; refine Kd.R_append kClient (w0 := w) w.heap.size rfl (.tmp 29) (.tmp 31) 24 44 (.agg #[.int .i64 0, .bool false, .int .i64 0, .int .i64 0, .int .i64 0, .int .i64 0, .bool false, .bool false, .int .i64 0, .bool false, .bool false, .int .i64 0, .int .i64 0]) 88 rfl Tryz.underlying24 infoK44 rfl (by decide) (by omega) _ ((l.take i).map firstOf) (⟨⟨0, false⟩, 0, 0, 0, 0, false, false, M.fresh⟩ : M.Client) [.int .i64 0, .bool false, .int .i64 0, .int .i64 0, .int .i64 0, .int .i64 0, .bool false, .bool false, .int .i64 (-1), .bool false, .bool false, .int .i64 0, .int .i64 0] (fun _ => True) (fun _ => False) rfl ?aX ?aP (fun _ hk => hk.elim) ?aF ?aO ?aB ?aS ?aL ?_; (case aX => simp [Act.eval]); (case aP => exact rfl); (case aB => exact HB4.out); (case aF => exact (fun _ _ => trivial)); (case aO => exact Kd.R_alloc HO3.out _); (case aS => exact HB4.out.size); (case aL => rw [HL.out]; omega); intro v5 w10 ho hb hg hat; obtain ⟨A5, c5, hv5, _, _⟩ := Kd.R_reads ho; rw [List.length_append, HL.out, List.length_singleton] at hv5; subst hv5; have hne5 := (Kd.R_types (Kd.R_alloc HO3.out (.cells #[.int .i64 0, .bool false, .int .i64 0, .int .i64 0, .int .i64 0, .int .i64 0, .bool false, .bool false, .int .i64 (-1), .bool false, .bool false, .int .i64 0, .int .i64 0] 44)) HN4.out (by decide)).1; have HN5 := ak_ ((hg.block _ (blk_lt HN4.out) (fun e => (hne5 _ e.symm).2 rfl)).trans HN4.out); have HZ4 := blk_alloc HZ3.out (.cells #[.int .i64 0, .bool false, .int .i64 0, .int .i64 0, .int .i64 0, .int .i64 0, .bool false, .bool false, .int .i64 (-1), .bool false, .bool false, .int .i64 0, .int .i64 0] 44); have HM4 := blk_alloc HM3.out (.cells #[.int .i64 0, .bool false, .int .i64 0, .int .i64 0, .int .i64 0, .int .i64 0, .bool false, .bool false, .int .i64 (-1), .bool false, .bool false, .int .i64 0, .int .i64 0] 44); have hneZ := (Kd.R_types (Kd.R_alloc HO3.out (.cells #[.int .i64 0, .bool false, .int .i64 0, .int .i64 0, .int .i64 0, .int .i64 0, .bool false, .bool false, .int .i64 (-1), .bool false, .bool false, .int .i64 0, .int .i64 0] 44)) HZ4 (by decide)).1; have hneM := (Kd.R_types (Kd.R_alloc HO3.out (.cells #[.int .i64 0, .bool false, .int .i64 0, .int .i64 0, .int .i64 0, .int .i64 0, .bool false, .bool false, .int .i64 (-1), .bool false, .bool false, .int .i64 0, .int .i64 0] 44)) HM4 (by decide)).1; have HZ5 := ak_ ((hg.block _ (blk_lt HZ4) (fun e => (hneZ _ e.symm).2 rfl)).trans HZ4); have HM5 := ak_ ((hg.block _ (blk_lt HM4) (fun e => (hneM _ e.symm).2 rfl)).trans HM4); have HB5 := ak_ hb; have HO5 := ak_ ho; have n5 : w10.cell? ⟨w2.heap.size + 1, 2, none⟩ = some (.slice Av i cv) := blk_cell HN5.out 2; have nf5 : w10.frozen? ⟨w2.heap.size + 1, 2, none⟩ = false := blk_frozen HN5.out 2; clear ho hb hg hat hne5 hneZ hneM HZ4 HM4))
    go_roundg go
    case rel => exact ⟨⟨HB5.out.setCell (p := ⟨w2.heap.size + 1, 2, none⟩) (by simp; omega) _⟩, i + 1, _, by omega, by go_num, ⟨blk_put HN5.out 2 _ rfl⟩, ⟨blk_far HZ5.out (p := ⟨w2.heap.size + 1, 2, none⟩) (by simp; omega) _⟩, ⟨blk_far HM5.out (p := ⟨w2.heap.size + 1, 2, none⟩) (by simp) _⟩, ⟨by rw [HE.out]; exact Kd.R_set HO5.out HN5.out (by decide) 2 _⟩⟩
    case measure => omega
end Go.Proofs.YtoimfknjfeencaaGreatDoor.Hand
end
