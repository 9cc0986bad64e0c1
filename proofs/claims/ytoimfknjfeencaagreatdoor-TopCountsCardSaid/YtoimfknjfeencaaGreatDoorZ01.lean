/- Part of the walk of a law of the top, and what it leans on (Steps). No conditions beyond those that each lemma names. -/
import Derived.Test.YtoimfknjfeencaaGreatDoorZ00
set_option linter.unusedVariables false
set_option linter.unusedSimpArgs false
set_option maxHeartbeats 8000000
set_option maxRecDepth 100000
section
namespace Go.Proofs.YtoimfknjfeencaaGreatDoor.M
section
variable {m : Int} {i : Nat} {z : PC} {x : Mutex} {s : Sem} {cl : List PC} {now : Int}
theorem roundR_fine (h : At m i z x s cl now) (hp : z.c.pc = 2) (hlk : lk z.c.own.old = true) (hsv : sv z.c.own.old = false) (hrd : z.c.own.rounds < 4) : Fine m i cl z (roundR z.c x s) := by
 obtain ⟨o, c, r, p, d, hh, a, l⟩ := cls h.mx
 have hs0 := h.run
 simp only [hp, hs0] at o c r p d hh a l
 simp at o c r p d hh a l
 have hn := next_none z.prog z.c m
 have hC := h.c
 have hlt := h.lt
 have hwl := h.word_lo
 have hwh := h.word_hi
 have hk := h.kind0 (by omega) (by omega)
 have hr1 := hC.rd1
 have hr0 := hC.rd0
 have ho0 := hC.old0
 have ho1 := hC.old1
 have hlk' := lkE (w := z.c.own.old)
 rw [hlk'] at hlk
 have hsv' := svF hsv
 unfold roundR
 by_cases e : (!z.c.own.awake && !wk z.c.own.old && decide (0 < z.c.own.old / 8) && decide (x.word = z.c.own.old)) = true
 ·rw [if_pos e]
  simp only [Bool.and_eq_true, Bool.not_eq_true', decide_eq_true_eq] at e
  obtain ⟨⟨⟨e1, e2⟩, e3⟩, e4⟩ := e
  have e2' := wkF e2
  obtain ⟨y, hyd⟩ : ∃ y : PC, y = ⟨z.prog, { z.c with own := { z.c.own with awake := true, rounds := z.c.own.rounds + 1 }, pc := 1 }⟩ := ⟨_, rfl⟩
  have hy : mx m y = true := by rw [hyd]; exact h.mx
  have y1 : y.c.pc = 1 := by rw [hyd]
  have y2 : y.c.own.awake = true := by rw [hyd]
  have y3 : y.c.told = z.c.told := by rw [hyd]
  have y4 : y.c.gor.state = 0 := by first | (rw [hyd]; exact h.run) | rw [hyd]
  obtain ⟨o', c', r', p', d', hh', a', l'⟩ := cls hy
  simp only [y1, y2, y3, y4] at o' c' r' p' d' hh' a' l'
  simp at o' c' r' p' d' hh' a' l'
  refine ⟨rfl, fun q => by simp at q, fun _ => ?_, .inl rfl, rfl, ?_⟩
  ·refine hC.turn _ h.lt rfl (.inl h.run) hC.permit (.inl rfl) rfl (.inl rfl) ⟨by simp only; omega, by simp only; omega⟩ ⟨hC.old0, hC.old1⟩ (.inl ⟨hk, by simp, by simp⟩) (fun _ _ => rfl) (fun q => by simp at q) (fun q => by simp at q) (fun q => by simp at q)
  ·rw [e1] at a
   suffices q : MInv m ⟨x.word + 2, x.line⟩ s (cl.set i y) by (rw [hyd] at q; exact q)
   refine h.inv.word_ h.len h.hz (x.word + 2) o o' (by rw [l, l']) ?_
   intro P D A H R _ _ _ _ _ _ _ hw
   simp only [p, d, a, hh, r, p', d', a', hh', r', b2i_f, b2i_t, b2i_t] at *
   obtain ⟨w1, w2, w3, w4⟩ := hw
   refine ⟨by omega, by omega, by omega, by omega⟩
 ·rw [if_neg e]
  obtain ⟨y, hyd⟩ : ∃ y : PC, y = ⟨z.prog, { z.c with own := { z.c.own with rounds := z.c.own.rounds + 1 }, pc := 1 }⟩ := ⟨_, rfl⟩
  have hy : mx m y = true := by rw [hyd]; exact h.mx
  have y1 : y.c.pc = 1 := by rw [hyd]
  have y2 : y.c.own.awake = z.c.own.awake := by rw [hyd]
  have y3 : y.c.told = z.c.told := by rw [hyd]
  have y4 : y.c.gor.state = 0 := by first | (rw [hyd]; exact h.run) | rw [hyd]
  obtain ⟨o', c', r', p', d', hh', a', l'⟩ := cls hy
  simp only [y1, y2, y3, y4] at o' c' r' p' d' hh' a' l'
  simp at o' c' r' p' d' hh' a' l'
  refine ⟨rfl, fun q => by simp at q, fun _ => ?_, .inl rfl, rfl, ?_⟩
  ·refine hC.turn _ h.lt rfl (.inl h.run) hC.permit (.inl rfl) rfl (.inl rfl) ⟨by simp only; omega, by simp only; omega⟩ ⟨hC.old0, hC.old1⟩ (.inl ⟨hk, by simp, by simp⟩) (fun _ => hC.aw (.inr hp)) (fun q => by simp at q) (fun q => by simp at q) (fun q => by simp at q)
  ·
   suffices q : MInv m ⟨x.word, x.line⟩ s (cl.set i y) by (rw [hyd] at q; exact q)
   refine h.inv.word_ h.len h.hz (x.word) o o' (by rw [l, l']) ?_
   intro P D A H R _ _ _ _ _ _ _ hw
   simp only [p, d, a, hh, r, p', d', a', hh', r', b2i_f, b2i_t, b2i_t] at *
   obtain ⟨w1, w2, w3, w4⟩ := hw
   refine ⟨by omega, by omega, by omega, by omega⟩
theorem wantR_fine (run : Nat) (h : At m i z x s cl now) (hp : z.c.pc = 2) : Fine m i cl z (wantR run now z.c x s) := by
 obtain ⟨o, c, r, p, d, hh, a, l⟩ := cls h.mx
 have hs0 := h.run
 simp only [hp, hs0] at o c r p d hh a l
 simp at o c r p d hh a l
 have hn := next_none z.prog z.c m
 have hC := h.c
 have hlt := h.lt
 have hwl := h.word_lo
 have hwh := h.word_hi
 have hk := h.kind0 (by omega) (by omega)
 have ho0 := hC.old0
 have ho1 := hC.old1
 have hwant := hC.want hp
 have haw := hC.aw (.inr hp)
 unfold wantR
 by_cases e : spins z.c.own run = true
 ·rw [if_pos e]
  unfold spins at e
  simp only [Bool.and_eq_true, Bool.not_eq_true', decide_eq_true_eq] at e
  exact roundR_fine h hp e.1.2 e.2 e.1.1.1
 ·rw [if_neg e]
  by_cases e1 : x.word ≠ z.c.own.old
  ·rw [if_pos e1]
   obtain ⟨y, hyd⟩ : ∃ y : PC, y = ⟨z.prog, { z.c with pc := 1 }⟩ := ⟨_, rfl⟩
   have hy : mx m y = true := by rw [hyd]; exact h.mx
   have y1 : y.c.pc = 1 := by rw [hyd]
   have y2 : y.c.own.awake = z.c.own.awake := by rw [hyd]
   have y3 : y.c.told = z.c.told := by rw [hyd]
   have y4 : y.c.gor.state = 0 := by first | (rw [hyd]; exact h.run) | rw [hyd]
   obtain ⟨o', c', r', p', d', hh', a', l'⟩ := cls hy
   simp only [y1, y2, y3, y4] at o' c' r' p' d' hh' a' l'
   simp at o' c' r' p' d' hh' a' l'
   refine ⟨rfl, fun q => by simp at q, fun _ => ?_, .inl rfl, rfl, ?_⟩
   ·refine hC.turn _ h.lt rfl (.inl h.run) hC.permit (.inl rfl) rfl (.inl rfl) ⟨hC.rd0, hC.rd1⟩ ⟨hC.old0, hC.old1⟩ (.inl ⟨hk, by simp, by simp⟩) (fun _ => haw) (fun q => by simp at q) (fun q => by simp at q) (fun q => by simp at q)
   ·
    suffices q : MInv m ⟨x.word, x.line⟩ s (cl.set i y) by (rw [hyd] at q; exact q)
    refine h.inv.word_ h.len h.hz (x.word) o o' (by rw [l, l']) ?_
    intro P D A H R _ _ _ _ _ _ _ hw
    simp only [p, d, a, hh, r, p', d', a', hh', r', b2i_f, b2i_t, b2i_t] at *
    obtain ⟨w1, w2, w3, w4⟩ := hw
    refine ⟨by omega, by omega, by omega, by omega⟩
  ·rw [if_neg e1]
   have e1' : x.word = z.c.own.old := Decidable.not_not.1 e1
   clear e1 e
   by_cases e2 : (!lk z.c.own.old && !sv z.c.own.old) = true
   ·rw [if_pos e2]
    simp only [Bool.and_eq_true, Bool.not_eq_true'] at e2
    have hl0 := lkF e2.1
    have hv0 := svF e2.2
    have hwv : wants z.c.own = z.c.own.old + 1 - 2 * b2i (wk z.c.own.old && z.c.own.awake) := by
     unfold wants
     rw [e2.1, e2.2]
     cases hwk : wk z.c.own.old with
     | false =>
      have := wkF hwk
      simp [b2i]
      omega
     | true =>
      rw [wkE] at hwk
      cases haw2 : z.c.own.awake <;> simp [b2i] <;> omega
    refine ⟨rfl, fun _ => rfl, fun q => by simp at q, .inl rfl, rfl, ?_⟩
    cases haw2 : z.c.own.awake with
    | false =>
     rw [haw2] at a hwv
     simp [b2i] at hwv
     refine h.inv.word_ h.len h.hz (wants z.c.own) o (by simpa [fin] using hn.out) (by simp [fin, hn.l, l]) ?_
     intro P D A H R _ _ _ _ _ _ _ hw
     simp only [fin, if_true, p, d, a, hh, r, hn.p, hn.d, hn.a, hn.h, hn.r, b2i_f, b2i_t, hwv] at *
     obtain ⟨w1, w2, w3, w4⟩ := hw
     refine ⟨by omega, by omega, by omega, by omega⟩
    | true =>
     have hw1 := hwant haw2
     have hwk : wk z.c.own.old = true := by rw [wkE]; exact hw1
     rw [haw2] at a
     rw [haw2, hwk] at hwv
     simp [b2i] at hwv
     refine h.inv.word_ h.len h.hz (wants z.c.own) o (by simpa [fin] using hn.out) (by simp [fin, hn.l, l]) ?_
     intro P D A H R _ _ _ _ _ _ _ hw
     simp only [fin, if_true, p, d, a, hh, r, hn.p, hn.d, hn.a, hn.h, hn.r, b2i_f, b2i_t, hwv] at *
     obtain ⟨w1, w2, w3, w4⟩ := hw
     refine ⟨by omega, by omega, by omega, by omega⟩
   ·rw [if_neg e2]
    have hls : z.c.own.old % 2 = 1 ∨ z.c.own.old / 4 % 2 = 1 := by
     by_cases q : lk z.c.own.old = true
     ·rw [lkE] at q
      exact .inl q
     ·by_cases q2 : sv z.c.own.old = true
      ·rw [svE] at q2
       exact .inr q2
      ·exact absurd (by rw [Bool.not_eq_true] at q q2; rw [q, q2]; rfl) e2
    have hor : (lk z.c.own.old || sv z.c.own.old) = true := by
     rw [Bool.or_eq_true, lkE, svE]
     exact hls
    have hnow0 := h.now0
    have hnow1 := h.now1
    obtain ⟨y, hyd⟩ : ∃ y : PC, y = ⟨z.prog, { z.c with own := { z.c.own with since := if z.c.own.since = -1 then now else z.c.own.since }, first := decide (z.c.own.since ≠ -1), pc := 3 }⟩ := ⟨_, rfl⟩
    have hy : mx m y = true := by rw [hyd]; exact h.mx
    have y1 : y.c.pc = 3 := by rw [hyd]
    have y2 : y.c.own.awake = z.c.own.awake := by rw [hyd]
    have y3 : y.c.told = z.c.told := by rw [hyd]
    have y4 : y.c.gor.state = 0 := by first | (rw [hyd]; exact h.run) | rw [hyd]
    obtain ⟨o', c', r', p', d', hh', a', l'⟩ := cls hy
    simp only [y1, y2, y3, y4] at o' c' r' p' d' hh' a' l'
    simp at o' c' r' p' d' hh' a' l'
    refine ⟨rfl, fun q => by simp at q, fun _ => ?_, .inl rfl, rfl, ?_⟩
    ·refine hC.turn _ h.lt rfl (.inl h.run) hC.permit (.inl rfl) rfl ?_ ⟨hC.rd0, hC.rd1⟩ ⟨hC.old0, hC.old1⟩ (.inl ⟨hk, by simp, by simp⟩) (fun q => by simp at q) (fun q => by simp at q) (fun q => by simp at q) (fun q => by simp at q)
     by_cases e3 : z.c.own.since = -1
     ·right
      simp only [e3, if_true]
      exact ⟨hnow0, hnow1⟩
     ·left
      simp only [e3, if_false]
    ·have hwv : wants z.c.own = b2i (lk z.c.own.old || !sv z.c.own.old) + 2 * b2i (wk z.c.own.old && !z.c.own.awake) + 4 * b2i (sv z.c.own.old || (z.c.own.starving && lk z.c.own.old)) + 8 * (z.c.own.old / 8 + 1) := by
      unfold wants
      rw [hor, b2i_t]
     have A1 : ∀ b : Bool, b2i b = 0 ∨ b2i b = 1 := fun b => by cases b <;> simp [b2i]
     have hlk := lkE (w := z.c.own.old)
     have hsv := svE (w := z.c.own.old)
     have hwk := wkE (w := z.c.own.old)
     have hlkF := @lkF z.c.own.old
     have hsvF := @svF z.c.own.old
     have hwkF := @wkF z.c.own.old
     generalize lk z.c.own.old = bl at *
     generalize sv z.c.own.old = bs at *
     generalize wk z.c.own.old = bw at *
     generalize hst : z.c.own.starving = st at *
     generalize hak : z.c.own.awake = ak at *
     cases bl <;> cases bs <;> cases bw <;> cases st <;> cases ak <;> simp at hlk hsv hwk hlkF hsvF hwkF hor haw hwant <;> (try (exfalso; omega)) <;> (try (exact absurd rfl (by assumption))) <;> simp [b2i] at hwv <;> (try simp at a') <;> (try simp at a)
     all_goals
      suffices q : MInv m ⟨wants z.c.own, x.line⟩ s (cl.set i y) by (rw [hyd] at q; exact q)
      refine h.inv.word_ h.len h.hz (wants z.c.own) o o' (by rw [l, l']) ?_
      intro P D A H R _ _ _ _ _ _ _ hw
      simp only [p, d, a, hh, r, p', d', a', hh', r', b2i_f, b2i_t, hwv] at *
      obtain ⟨w1, w2, w3, w4⟩ := hw
      refine ⟨by omega, by omega, by omega, by omega⟩
theorem drawR_fine3 (h : At m i z x s cl now) (hp : z.c.pc = 3) : Fine m i cl z (drawR z.c x s) := by
 obtain ⟨o, c, r, p, d, hh, a, l⟩ := cls h.mx
 have hs0 := h.run
 simp only [hp, hs0] at o c r p d hh a l
 simp at o c r p d hh a l
 have hn := next_none z.prog z.c m
 have hC := h.c
 have hlt := h.lt
 have hwl := h.word_lo
 have hwh := h.word_hi
 unfold drawR
 have n0 := h.inv.tick.n0
 have n1 := h.inv.tick.n1
 obtain ⟨y, hyd⟩ : ∃ y : PC, y = ⟨z.prog, { z.c with ticket := x.line.next, pc := 4 }⟩ := ⟨_, rfl⟩
 have hy : mx m y = true := by rw [hyd]; exact h.mx
 have y1 : y.c.pc = 4 := by rw [hyd]
 have y2 : y.c.own.awake = z.c.own.awake := by rw [hyd]
 have y3 : y.c.told = z.c.told := by rw [hyd]
 have y4 : y.c.gor.state = 0 := by first | (rw [hyd]; exact h.run) | rw [hyd]
 obtain ⟨o', c', r', p', d', hh', a', l'⟩ := cls hy
 simp only [y1, y2, y3, y4] at o' c' r' p' d' hh' a' l'
 simp at o' c' r' p' d' hh' a' l'
 have e9 : (⟨z.prog, { z.c with ticket := x.line.next, pc := z.c.pc + 1 }⟩ : PC) = y := by rw [hyd, hp]; rfl
 have yt : y.c.ticket = x.line.next := by rw [hyd]
 refine ⟨rfl, fun q => by simp at q, fun _ => ?_, .inl rfl, rfl, ?_⟩
 ·refine hC.turn _ h.lt rfl (.inl h.run) hC.permit (.inr ⟨n0, n1⟩) rfl (.inl rfl) ⟨hC.rd0, hC.rd1⟩ ⟨hC.old0, hC.old1⟩ (.inl ⟨h.kind0 (by omega) (by omega), by simp only; omega, by simp only; omega⟩) (fun q => by simp only at q; omega) (fun q => by simp only at q; omega) (fun q => by simp only at q; omega) (fun q => by simp only at q; omega)
 ·suffices q : MInv m ⟨x.word, ⟨(x.line.next + 1) % 4294967296, x.line.serve⟩⟩ s (cl.set i y) by (rw [← e9] at q; exact q)
  refine h.inv.turn h.len h.hz ?_ (h.inv.tick.draw h.len h.hz o o' c' yt) (h.inv.line.keep h.hz (by rw [l, l']))
  intro P D A H R _ _ _ _ _ _ _ hw
  simp only [p, d, a, hh, r, p', d', a', hh', r', b2i_f, b2i_t] at *
  obtain ⟨w1, w2, w3, w4⟩ := hw
  refine ⟨by omega, by omega, by omega, by omega⟩
theorem drawR_fine12 (h : At m i z x s cl now) (hp : z.c.pc = 12) : Fine m i cl z (drawR z.c x s) := by
 obtain ⟨o, c, r, p, d, hh, a, l⟩ := cls h.mx
 have hs0 := h.run
 simp only [hp, hs0] at o c r p d hh a l
 simp at o c r p d hh a l
 have hn := next_none z.prog z.c m
 have hC := h.c
 have hlt := h.lt
 have hwl := h.word_lo
 have hwh := h.word_hi
 unfold drawR
 have n0 := h.inv.tick.n0
 have n1 := h.inv.tick.n1
 obtain ⟨y, hyd⟩ : ∃ y : PC, y = ⟨z.prog, { z.c with ticket := x.line.next, pc := 13 }⟩ := ⟨_, rfl⟩
 have hy : mx m y = true := by rw [hyd]; exact h.mx
 have y1 : y.c.pc = 13 := by rw [hyd]
 have y2 : y.c.own.awake = z.c.own.awake := by rw [hyd]
 have y3 : y.c.told = z.c.told := by rw [hyd]
 have y4 : y.c.gor.state = 0 := by first | (rw [hyd]; exact h.run) | rw [hyd]
 obtain ⟨o', c', r', p', d', hh', a', l'⟩ := cls hy
 simp only [y1, y2, y3, y4] at o' c' r' p' d' hh' a' l'
 simp at o' c' r' p' d' hh' a' l'
 have e9 : (⟨z.prog, { z.c with ticket := x.line.next, pc := z.c.pc + 1 }⟩ : PC) = y := by rw [hyd, hp]; rfl
 have yt : y.c.ticket = x.line.next := by rw [hyd]
 refine ⟨rfl, fun q => by simp at q, fun _ => ?_, .inl rfl, rfl, ?_⟩
 ·refine hC.turn _ h.lt rfl (.inl h.run) hC.permit (.inr ⟨n0, n1⟩) rfl (.inl rfl) ⟨hC.rd0, hC.rd1⟩ ⟨hC.old0, hC.old1⟩ (.inr (.inr ⟨h.kind2 (by omega), by simp only; omega, by simp only; omega⟩)) (fun q => by simp only at q; omega) (fun q => by simp only at q; omega) (fun q => by simp only at q; omega) (fun q => by simp only at q; omega)
 ·suffices q : MInv m ⟨x.word, ⟨(x.line.next + 1) % 4294967296, x.line.serve⟩⟩ s (cl.set i y) by (rw [← e9] at q; exact q)
  refine h.inv.turn h.len h.hz ?_ (h.inv.tick.draw h.len h.hz o o' c' yt) (h.inv.line.keep h.hz (by rw [l, l']))
  intro P D A H R _ _ _ _ _ _ _ hw
  simp only [p, d, a, hh, r, p', d', a', hh', r', b2i_f, b2i_t] at *
  obtain ⟨w1, w2, w3, w4⟩ := hw
  refine ⟨by omega, by omega, by omega, by omega⟩
theorem turnR_fine4 (h : At m i z x s cl now) (hp : z.c.pc = 4) : Fine m i cl z (turnR z.c x s) := by
 obtain ⟨o, c, r, p, d, hh, a, l⟩ := cls h.mx
 have hs0 := h.run
 simp only [hp, hs0] at o c r p d hh a l
 simp at o c r p d hh a l
 have hn := next_none z.prog z.c m
 have hC := h.c
 have hlt := h.lt
 have hwl := h.word_lo
 have hwh := h.word_hi
 unfold turnR
 by_cases e : z.c.ticket = x.line.serve
 ·rw [if_pos e]
  obtain ⟨y, hyd⟩ : ∃ y : PC, y = ⟨z.prog, { z.c with pc := 5 }⟩ := ⟨_, rfl⟩
  have hy : mx m y = true := by rw [hyd]; exact h.mx
  have y1 : y.c.pc = 5 := by rw [hyd]
  have y2 : y.c.own.awake = z.c.own.awake := by rw [hyd]
  have y3 : y.c.told = z.c.told := by rw [hyd]
  have y4 : y.c.gor.state = 0 := by first | (rw [hyd]; exact h.run) | rw [hyd]
  obtain ⟨o', c', r', p', d', hh', a', l'⟩ := cls hy
  simp only [y1, y2, y3, y4] at o' c' r' p' d' hh' a' l'
  simp at o' c' r' p' d' hh' a' l'
  have e9 : (⟨z.prog, { z.c with pc := z.c.pc + 1 }⟩ : PC) = y := by rw [hyd, hp]; rfl
  have yt : y.c.ticket = z.c.ticket := by rw [hyd]
  refine ⟨rfl, fun q => by simp at q, fun _ => ?_, .inl rfl, rfl, ?_⟩
  ·refine hC.turn _ h.lt rfl (.inl h.run) hC.permit (.inl rfl) rfl (.inl rfl) ⟨hC.rd0, hC.rd1⟩ ⟨hC.old0, hC.old1⟩ (.inl ⟨h.kind0 (by omega) (by omega), by simp only; omega, by simp only; omega⟩) (fun q => by simp only at q; omega) (fun q => by simp only at q; omega) (fun q => by simp only at q; omega) (fun q => by simp only at q; omega)
  ·suffices q : MInv m x s (cl.set i y) by (rw [← e9] at q; exact q)
   refine h.inv.turn h.len h.hz ?_ (h.inv.tick.keep h.hz (by rw [o, o']) (fun _ => .inr (by rw [yt]; exact e)) (fun _ => yt)) (h.inv.line.keep h.hz (by rw [l, l']))
   intro P D A H R _ _ _ _ _ _ _ hw
   simp only [p, d, a, hh, r, p', d', a', hh', r', b2i_f, b2i_t] at *
   obtain ⟨w1, w2, w3, w4⟩ := hw
   refine ⟨by omega, by omega, by omega, by omega⟩
 ·rw [if_neg e]
  refine ⟨rfl, fun _ => rfl, fun _ => hC, .inl rfl, rfl, h.inv.same h.hz ⟨rfl, rfl, rfl, rfl, rfl, rfl, rfl, rfl, fun _ => rfl⟩⟩
theorem turnR_fine13 (h : At m i z x s cl now) (hp : z.c.pc = 13) : Fine m i cl z (turnR z.c x s) := by
 obtain ⟨o, c, r, p, d, hh, a, l⟩ := cls h.mx
 have hs0 := h.run
 simp only [hp, hs0] at o c r p d hh a l
 simp at o c r p d hh a l
 have hn := next_none z.prog z.c m
 have hC := h.c
 have hlt := h.lt
 have hwl := h.word_lo
 have hwh := h.word_hi
 unfold turnR
 by_cases e : z.c.ticket = x.line.serve
 ·rw [if_pos e]
  obtain ⟨y, hyd⟩ : ∃ y : PC, y = ⟨z.prog, { z.c with pc := 14 }⟩ := ⟨_, rfl⟩
  have hy : mx m y = true := by rw [hyd]; exact h.mx
  have y1 : y.c.pc = 14 := by rw [hyd]
  have y2 : y.c.own.awake = z.c.own.awake := by rw [hyd]
  have y3 : y.c.told = z.c.told := by rw [hyd]
  have y4 : y.c.gor.state = 0 := by first | (rw [hyd]; exact h.run) | rw [hyd]
  obtain ⟨o', c', r', p', d', hh', a', l'⟩ := cls hy
  simp only [y1, y2, y3, y4] at o' c' r' p' d' hh' a' l'
  simp at o' c' r' p' d' hh' a' l'
  have e9 : (⟨z.prog, { z.c with pc := z.c.pc + 1 }⟩ : PC) = y := by rw [hyd, hp]; rfl
  have yt : y.c.ticket = z.c.ticket := by rw [hyd]
  refine ⟨rfl, fun q => by simp at q, fun _ => ?_, .inl rfl, rfl, ?_⟩
  ·refine hC.turn _ h.lt rfl (.inl h.run) hC.permit (.inl rfl) rfl (.inl rfl) ⟨hC.rd0, hC.rd1⟩ ⟨hC.old0, hC.old1⟩ (.inr (.inr ⟨h.kind2 (by omega), by simp only; omega, by simp only; omega⟩)) (fun q => by simp only at q; omega) (fun q => by simp only at q; omega) (fun q => by simp only at q; omega) (fun q => by simp only at q; omega)
  ·suffices q : MInv m x s (cl.set i y) by (rw [← e9] at q; exact q)
   refine h.inv.turn h.len h.hz ?_ (h.inv.tick.keep h.hz (by rw [o, o']) (fun _ => .inr (by rw [yt]; exact e)) (fun _ => yt)) (h.inv.line.keep h.hz (by rw [l, l']))
   intro P D A H R _ _ _ _ _ _ _ hw
   simp only [p, d, a, hh, r, p', d', a', hh', r', b2i_f, b2i_t] at *
   obtain ⟨w1, w2, w3, w4⟩ := hw
   refine ⟨by omega, by omega, by omega, by omega⟩
 ·rw [if_neg e]
  refine ⟨rfl, fun _ => rfl, fun _ => hC, .inl rfl, rfl, h.inv.same h.hz ⟨rfl, rfl, rfl, rfl, rfl, rfl, rfl, rfl, fun _ => rfl⟩⟩
theorem askR_fine (h : At m i z x s cl now) (hp : z.c.pc = 5) : Fine m i cl z (askR i z.c x s) := by
 obtain ⟨o, c, r, p, d, hh, a, l⟩ := cls h.mx
 have hs0 := h.run
 simp only [hp, hs0] at o c r p d hh a l
 simp at o c r p d hh a l
 have hn := next_none z.prog z.c m
 have hC := h.c
 have hlt := h.lt
 have hwl := h.word_lo
 have hwh := h.word_hi
 have hk := h.kind0 (by omega) (by omega)
 have hc0 := h.inv.line.c0
 unfold askR
 by_cases e : 0 < s.count
 ·rw [if_pos e]
  obtain ⟨y, hyd⟩ : ∃ y : PC, y = ⟨z.prog, { z.c with told := true, pc := 6 }⟩ := ⟨_, rfl⟩
  have hy : mx m y = true := by rw [hyd]; exact h.mx
  have y1 : y.c.pc = 6 := by rw [hyd]
  have y2 : y.c.own.awake = z.c.own.awake := by rw [hyd]
  have y3 : y.c.told = true := by rw [hyd]
  have y4 : y.c.gor.state = 0 := by first | (rw [hyd]; exact h.run) | rw [hyd]
  obtain ⟨o', c', r', p', d', hh', a', l'⟩ := cls hy
  simp only [y1, y2, y3, y4] at o' c' r' p' d' hh' a' l'
  simp at o' c' r' p' d' hh' a' l'
  have yt : y.c.ticket = z.c.ticket := by rw [hyd]
  have hn2 := h.inv.line.none_
  refine ⟨rfl, fun q => by simp at q, fun _ => ?_, .inl rfl, rfl, ?_⟩
  ·refine hC.turn _ h.lt rfl (.inl h.run) hC.permit (.inl rfl) rfl (.inl rfl) ⟨hC.rd0, hC.rd1⟩ ⟨hC.old0, hC.old1⟩ (.inl ⟨hk, by simp, by simp⟩) (fun q => by simp at q) (fun q => by simp at q) (fun q => by simp at q) (fun q => by simp at q)
  ·suffices q : MInv m x ⟨s.count - 1, s.line⟩ (cl.set i y) by (rw [hyd] at q; exact q)
   refine h.inv.turn h.len h.hz ?_ (h.inv.tick.keep h.hz (by rw [o, o']) (fun _ => .inl c) (fun _ => yt)) ((h.inv.line.keep h.hz (by rw [l, l'])).count _ (by omega) (.inr (by rcases hn2 with q | q; omega; exact q)))
   intro P D A H R _ _ _ _ _ _ _ hw
   simp only [p, d, a, hh, r, p', d', a', hh', r', b2i_f, b2i_t] at *
   obtain ⟨w1, w2, w3, w4⟩ := hw
   refine ⟨by omega, by omega, by omega, by omega⟩
 ·rw [if_neg e]
  obtain ⟨y, hyd⟩ : ∃ y : PC, y = ⟨z.prog, { z.c with told := false, pc := 6 }⟩ := ⟨_, rfl⟩
  have hy : mx m y = true := by rw [hyd]; exact h.mx
  have y1 : y.c.pc = 6 := by rw [hyd]
  have y2 : y.c.own.awake = z.c.own.awake := by rw [hyd]
  have y3 : y.c.told = false := by rw [hyd]
  have y4 : y.c.gor.state = 0 := by first | (rw [hyd]; exact h.run) | rw [hyd]
  obtain ⟨o', c', r', p', d', hh', a', l'⟩ := cls hy
  simp only [y1, y2, y3, y4] at o' c' r' p' d' hh' a' l'
  simp at o' c' r' p' d' hh' a' l'
  have yt : y.c.ticket = z.c.ticket := by rw [hyd]
  refine ⟨rfl, fun q => by simp at q, fun _ => ?_, .inl rfl, rfl, ?_⟩
  ·refine hC.turn _ h.lt rfl (.inl h.run) hC.permit (.inl rfl) rfl (.inl rfl) ⟨hC.rd0, hC.rd1⟩ ⟨hC.old0, hC.old1⟩ (.inl ⟨hk, by simp, by simp⟩) (fun q => by simp at q) (fun q => by simp at q) (fun q => by simp at q) (fun q => by simp at q)
  ·suffices q : MInv m x ⟨s.count, if z.c.first then i :: s.line else s.line ++ [i]⟩ (cl.set i y) by (rw [hyd] at q; exact q)
   refine h.inv.turn h.len h.hz ?_ (h.inv.tick.keep h.hz (by rw [o, o']) (fun _ => .inl c) (fun _ => yt)) (h.inv.line.push e h.hz l l' z.c.first)
   intro P D A H R _ _ _ _ _ _ _ hw
   simp only [p, d, a, hh, r, p', d', a', hh', r', b2i_f, b2i_t] at *
   obtain ⟨w1, w2, w3, w4⟩ := hw
   refine ⟨by omega, by omega, by omega, by omega⟩
theorem restR_fine (h : At m i z x s cl now) (hp : z.c.pc = 6) : Fine m i cl z (restR z.c x s) := by
 obtain ⟨o, c, r, p, d, hh, a, l⟩ := cls h.mx
 have hs0 := h.run
 simp only [hp, hs0] at o c r p d hh a l
 simp at o c r p d hh a l
 have hn := next_none z.prog z.c m
 have hC := h.c
 have hlt := h.lt
 have hwl := h.word_lo
 have hwh := h.word_hi
 have hk := h.kind0 (by omega) (by omega)
 unfold restR
 by_cases ht : z.c.told = true
 ·rw [ht] at d l
  simp at d l
  rw [if_pos ht]
  obtain ⟨y, hyd⟩ : ∃ y : PC, y = ⟨z.prog, { z.c with gor := z.c.gor, pc := 7 }⟩ := ⟨_, rfl⟩
  have hy : mx m y = true := by rw [hyd]; exact h.mx
  have y1 : y.c.pc = 7 := by rw [hyd]
  have y2 : y.c.own.awake = z.c.own.awake := by rw [hyd]
  have y3 : y.c.told = z.c.told := by rw [hyd]
  have y4 : y.c.gor.state = 0 := by first | (rw [hyd]; exact h.run) | rw [hyd]
  obtain ⟨o', c', r', p', d', hh', a', l'⟩ := cls hy
  simp only [y1, y2, y3, y4] at o' c' r' p' d' hh' a' l'
  simp at o' c' r' p' d' hh' a' l'
  refine ⟨rfl, fun q => by simp at q, fun _ => ?_, .inl rfl, rfl, ?_⟩
  ·refine hC.turn _ h.lt rfl (.inl h.run) hC.permit (.inl rfl) rfl (.inl rfl) ⟨hC.rd0, hC.rd1⟩ ⟨hC.old0, hC.old1⟩ (.inl ⟨hk, by simp, by simp⟩) (fun q => by simp at q) (fun q => by simp at q) (fun q => by simp at q) (fun q => by simp at q)
  ·suffices q : MInv m (served x) s (cl.set i y) by (rw [hyd] at q; exact q)
   refine h.inv.turn h.len h.hz ?_ (h.inv.tick.done h.len h.hz c o') (h.inv.line.keep h.hz (by rw [l, l']))
   show Turns m z y x ⟨x.word, _⟩ s s
   intro P D A H R _ _ _ _ _ _ _ hw
   simp only [p, d, a, hh, r, p', d', a', hh', r', b2i_f, b2i_t] at *
   obtain ⟨w1, w2, w3, w4⟩ := hw
   refine ⟨by omega, by omega, by omega, by omega⟩
 ·rw [Bool.not_eq_true] at ht
  rw [ht] at d l
  simp at d l
  rw [if_neg (by rw [ht]; decide)]
  obtain ⟨y, hyd⟩ : ∃ y : PC, y = ⟨z.prog, { z.c with gor := ⟨1, false⟩, pc := 7 }⟩ := ⟨_, rfl⟩
  have hy : mx m y = true := by rw [hyd]; exact h.mx
  have y1 : y.c.pc = 7 := by rw [hyd]
  have y2 : y.c.own.awake = z.c.own.awake := by rw [hyd]
  have y3 : y.c.told = z.c.told := by rw [hyd]
  have y4 : y.c.gor.state = 1 := by first | (rw [hyd]; exact h.run) | rw [hyd]
  obtain ⟨o', c', r', p', d', hh', a', l'⟩ := cls hy
  simp only [y1, y2, y3, y4] at o' c' r' p' d' hh' a' l'
  simp at o' c' r' p' d' hh' a' l'
  refine ⟨rfl, fun q => by simp at q, fun _ => ?_, .inl rfl, rfl, ?_⟩
  ·refine hC.turn _ h.lt rfl (.inr ⟨rfl, rfl⟩) rfl (.inl rfl) rfl (.inl rfl) ⟨hC.rd0, hC.rd1⟩ ⟨hC.old0, hC.old1⟩ (.inl ⟨hk, by simp, by simp⟩) (fun q => by simp at q) (fun q => by simp at q) (fun q => by simp at q) (fun q => by simp at q)
  ·suffices q : MInv m (served x) s (cl.set i y) by (rw [hyd] at q; exact q)
   refine h.inv.turn h.len h.hz ?_ (h.inv.tick.done h.len h.hz c o') (h.inv.line.keep h.hz (by rw [l, l']))
   show Turns m z y x ⟨x.word, _⟩ s s
   intro P D A H R _ _ _ _ _ _ _ hw
   simp only [p, d, a, hh, r, p', d', a', hh', r', b2i_f, b2i_t] at *
   obtain ⟨w1, w2, w3, w4⟩ := hw
   refine ⟨by omega, by omega, by omega, by omega⟩
theorem wakeR_fine (h : At m i z x s cl now) (hp : z.c.pc = 7) : Fine m i cl z (wakeR now z.c x s) := by
 obtain ⟨o, c, r, p, d, hh, a, l⟩ := cls h.mx
 have hs0 := h.run
 simp only [hp, hs0] at o c r p d hh a l
 simp at o c r p d hh a l
 have hn := next_none z.prog z.c m
 have hC := h.c
 have hlt := h.lt
 have hwl := h.word_lo
 have hwh := h.word_hi
 have hk := h.kind0 (by omega) (by omega)
 have hw0 := h.inv.word
 have hD : 1 ≤ cnt (isD m) cl := cnt_one _ _ _ _ h.hz d
 have hP := cnt_lo (isP m) cl
 have hA := cnt_lo (isA m) cl
 have hR : 1 ≤ cnt (isR m) cl := cnt_one _ _ _ _ h.hz r
 have hc0 := h.inv.line.c0
 have h1 := hw0.hand
 have h2 := hw0.free
 have h3 := hw0.st
 unfold wakeR
 by_cases e : sv x.word = true
 ·rw [if_pos e]
  rw [svE] at e
  obtain ⟨y, hyd⟩ : ∃ y : PC, y = ⟨z.prog, { z.c with own := { z.c.own with starving := z.c.own.starving || late now z.c.own, old := x.word }, pc := 8 }⟩ := ⟨_, rfl⟩
  have hy : mx m y = true := by rw [hyd]; exact h.mx
  have y1 : y.c.pc = 8 := by rw [hyd]
  have y2 : y.c.own.awake = z.c.own.awake := by rw [hyd]
  have y3 : y.c.told = z.c.told := by rw [hyd]
  have y4 : y.c.gor.state = 0 := by first | (rw [hyd]; exact h.run) | rw [hyd]
  obtain ⟨o', c', r', p', d', hh', a', l'⟩ := cls hy
  simp only [y1, y2, y3, y4] at o' c' r' p' d' hh' a' l'
  simp at o' c' r' p' d' hh' a' l'
  refine ⟨rfl, fun q => by simp at q, fun _ => ?_, .inl rfl, rfl, ?_⟩
  ·refine hC.turn _ h.lt rfl (.inl h.run) hC.permit (.inl rfl) rfl (.inl rfl) ⟨hC.rd0, hC.rd1⟩ ⟨hwl, hwh⟩ (.inl ⟨hk, by simp, by simp⟩) (fun q => by simp at q) (fun q => by simp at q) (fun _ => by simp only; omega) (fun q => by simp at q)
  ·
   suffices q : MInv m ⟨x.word, x.line⟩ s (cl.set i y) by (rw [hyd] at q; exact q)
   refine h.inv.word_ h.len h.hz (x.word) o o' (by rw [l, l']) ?_
   intro P D A H R _ _ _ _ _ _ _ hw
   simp only [p, d, a, hh, r, p', d', a', hh', r', b2i_f, b2i_t, b2i_t] at *
   obtain ⟨w1, w2, w3, w4⟩ := hw
   refine ⟨by omega, by omega, by omega, by omega⟩
 ·rw [if_neg e]
  rw [Bool.not_eq_true] at e
  replace e := svF e
  obtain ⟨y, hyd⟩ : ∃ y : PC, y = ⟨z.prog, { z.c with own := { z.c.own with starving := z.c.own.starving || late now z.c.own, awake := true, rounds := 0, old := x.word }, pc := 2 }⟩ := ⟨_, rfl⟩
  have hy : mx m y = true := by rw [hyd]; exact h.mx
  have y1 : y.c.pc = 2 := by rw [hyd]
  have y2 : y.c.own.awake = true := by rw [hyd]
  have y3 : y.c.told = z.c.told := by rw [hyd]
  have y4 : y.c.gor.state = 0 := by first | (rw [hyd]; exact h.run) | rw [hyd]
  obtain ⟨o', c', r', p', d', hh', a', l'⟩ := cls hy
  simp only [y1, y2, y3, y4] at o' c' r' p' d' hh' a' l'
  simp at o' c' r' p' d' hh' a' l'
  refine ⟨rfl, fun q => by simp at q, fun _ => ?_, .inl rfl, rfl, ?_⟩
  ·refine hC.turn _ h.lt rfl (.inl h.run) hC.permit (.inl rfl) rfl (.inl rfl) ⟨by simp, by simp⟩ ⟨hwl, hwh⟩ (.inl ⟨hk, by simp, by simp⟩) (fun _ _ => rfl) (fun _ _ => by simp only; omega) (fun q => by simp at q) (fun q => by simp at q)
  ·
   suffices q : MInv m ⟨x.word, x.line⟩ s (cl.set i y) by (rw [hyd] at q; exact q)
   refine h.inv.word_ h.len h.hz (x.word) o o' (by rw [l, l']) ?_
   intro P D A H R _ _ _ _ _ _ _ hw
   simp only [p, d, a, hh, r, p', d', a', hh', r', b2i_f, b2i_t, b2i_t] at *
   obtain ⟨w1, w2, w3, w4⟩ := hw
   refine ⟨by omega, by omega, by omega, by omega⟩
theorem takeR_fine (h : At m i z x s cl now) (hp : z.c.pc = 8) : Fine m i cl z (takeR z.c x s) := by
 obtain ⟨o, c, r, p, d, hh, a, l⟩ := cls h.mx
 have hs0 := h.run
 simp only [hp, hs0] at o c r p d hh a l
 simp at o c r p d hh a l
 have hn := next_none z.prog z.c m
 have hC := h.c
 have hlt := h.lt
 have hwl := h.word_lo
 have hwh := h.word_hi
 have hh8 := hC.hand hp
 unfold takeR
 refine ⟨rfl, fun _ => rfl, fun q => by simp at q, .inl rfl, rfl, ?_⟩
 have hv : handed z.c.own = -11 ∨ handed z.c.own = -7 := by unfold handed; split <;> simp
 refine h.inv.word_ h.len h.hz (x.word + handed z.c.own) o (by simpa [fin] using hn.out) (by simp [fin, hn.l, l]) ?_
 intro P D A H R _ _ _ _ _ _ _ hw
 simp only [fin, if_true, p, d, a, hh, r, hn.p, hn.d, hn.a, hn.h, hn.r, b2i_f, b2i_t, b2i_t] at *
 obtain ⟨w1, w2, w3, w4⟩ := hw
 refine ⟨by omega, by omega, by omega, by omega⟩
theorem tryR_fine (h : At m i z x s cl now) (hp : z.c.pc = 0) (hk : z.cur.kind = 1) : Fine m i cl z (tryR z.c x s) := by
 obtain ⟨o, c, r, p, d, hh, a, l⟩ := cls h.mx
 have hs0 := h.run
 simp only [hp, hs0] at o c r p d hh a l
 simp at o c r p d hh a l
 have hn := next_none z.prog z.c m
 have hC := h.c
 have hlt := h.lt
 have hwl := h.word_lo
 have hwh := h.word_hi
 unfold tryR
 by_cases e : (lk x.word || sv x.word) = true
 ·rw [if_pos e]
  refine ⟨rfl, fun _ => rfl, fun q => by simp at q, .inl rfl, rfl, ?_⟩
  refine h.inv.word_ h.len h.hz (x.word) o (by simpa [fin] using hn.out) (by simp [fin, hn.l, l]) ?_
  intro P D A H R _ _ _ _ _ _ _ hw
  simp only [fin, if_true, p, d, a, hh, r, hn.p, hn.d, hn.a, hn.h, hn.r, b2i_f, b2i_t, b2i_t] at *
  obtain ⟨w1, w2, w3, w4⟩ := hw
  refine ⟨by omega, by omega, by omega, by omega⟩
 ·rw [if_neg e]
  rw [Bool.or_eq_true, not_or, Bool.not_eq_true, Bool.not_eq_true] at e
  have e1 := lkF e.1
  have e2 := svF e.2
  unfold see
  obtain ⟨y, hyd⟩ : ∃ y : PC, y = ⟨z.prog, { z.c with own := { z.c.own with old := x.word }, pc := 9 }⟩ := ⟨_, rfl⟩
  have hy : mx m y = true := by rw [hyd]; exact h.mx
  have y1 : y.c.pc = 9 := by rw [hyd]
  have y2 : y.c.own.awake = z.c.own.awake := by rw [hyd]
  have y3 : y.c.told = z.c.told := by rw [hyd]
  have y4 : y.c.gor.state = 0 := by first | (rw [hyd]; exact h.run) | rw [hyd]
  obtain ⟨o', c', r', p', d', hh', a', l'⟩ := cls hy
  simp only [y1, y2, y3, y4] at o' c' r' p' d' hh' a' l'
  simp at o' c' r' p' d' hh' a' l'
  refine ⟨rfl, fun q => by simp at q, fun _ => ?_, .inl rfl, rfl, ?_⟩
  ·refine hC.turn _ h.lt rfl (.inl h.run) hC.permit (.inl rfl) rfl (.inl rfl) ⟨hC.rd0, hC.rd1⟩ ⟨hwl, hwh⟩ (.inr (.inl ⟨hk, by simp⟩)) (fun q => by simp at q) (fun q => by simp at q) (fun q => by simp at q) (fun _ => ⟨e1, e2⟩)
  ·
   suffices q : MInv m ⟨x.word, x.line⟩ s (cl.set i y) by (rw [hyd] at q; exact q)
   refine h.inv.word_ h.len h.hz (x.word) o o' (by rw [l, l']) ?_
   intro P D A H R _ _ _ _ _ _ _ hw
   simp only [p, d, a, hh, r, p', d', a', hh', r', b2i_f, b2i_t, b2i_t] at *
   obtain ⟨w1, w2, w3, w4⟩ := hw
   refine ⟨by omega, by omega, by omega, by omega⟩
theorem triedR_fine (h : At m i z x s cl now) (hp : z.c.pc = 9) : Fine m i cl z (triedR z.c x s) := by
 obtain ⟨o, c, r, p, d, hh, a, l⟩ := cls h.mx
 have hs0 := h.run
 simp only [hp, hs0] at o c r p d hh a l
 simp at o c r p d hh a l
 have hn := next_none z.prog z.c m
 have hC := h.c
 have hlt := h.lt
 have hwl := h.word_lo
 have hwh := h.word_hi
 have hh9 := hC.tried hp
 unfold triedR
 by_cases e : x.word = z.c.own.old
 ·rw [if_pos e]
  refine ⟨rfl, fun _ => rfl, fun q => by simp at q, .inl rfl, rfl, ?_⟩
  refine h.inv.word_ h.len h.hz (x.word + 1) o (by simpa [fin] using hn.out) (by simp [fin, hn.l, l]) ?_
  intro P D A H R _ _ _ _ _ _ _ hw
  simp only [fin, if_true, p, d, a, hh, r, hn.p, hn.d, hn.a, hn.h, hn.r, b2i_f, b2i_t, b2i_t] at *
  obtain ⟨w1, w2, w3, w4⟩ := hw
  refine ⟨by omega, by omega, by omega, by omega⟩
 ·rw [if_neg e]
  refine ⟨rfl, fun _ => rfl, fun q => by simp at q, .inl rfl, rfl, ?_⟩
  refine h.inv.word_ h.len h.hz (x.word) o (by simpa [fin] using hn.out) (by simp [fin, hn.l, l]) ?_
  intro P D A H R _ _ _ _ _ _ _ hw
  simp only [fin, if_true, p, d, a, hh, r, hn.p, hn.d, hn.a, hn.h, hn.r, b2i_f, b2i_t, b2i_t] at *
  obtain ⟨w1, w2, w3, w4⟩ := hw
  refine ⟨by omega, by omega, by omega, by omega⟩
theorem unlockR_fine (h : At m i z x s cl now) (hp : z.c.pc = 0) (hk : z.cur.kind = 2) : Fine m i cl z (unlockR z.c x s) := by
 obtain ⟨o, c, r, p, d, hh, a, l⟩ := cls h.mx
 have hs0 := h.run
 simp only [hp, hs0] at o c r p d hh a l
 simp at o c r p d hh a l
 have hn := next_none z.prog z.c m
 have hC := h.c
 have hlt := h.lt
 have hwl := h.word_lo
 have hwh := h.word_hi
 have hnew := hC.new hp
 unfold unlockR
 by_cases e : (!lk x.word) = true
 ·rw [if_pos e]
  refine ⟨rfl, fun _ => rfl, fun _ => hC, .inr rfl, rfl, h.inv.same h.hz ⟨rfl, rfl, rfl, rfl, rfl, rfl, rfl, rfl, fun _ => rfl⟩⟩
 ·rw [if_neg e]
  rw [Bool.not_eq_true, Bool.not_eq_false', lkE] at e
  by_cases e1 : x.word = 1
  ·rw [if_pos e1]
   refine ⟨rfl, fun _ => rfl, fun q => by simp at q, .inl rfl, rfl, ?_⟩
   refine h.inv.word_ h.len h.hz (0) o (by simpa [fin] using hn.out) (by simp [fin, hn.l, l]) ?_
   intro P D A H R _ _ _ _ _ _ _ hw
   simp only [fin, if_true, p, d, a, hh, r, hn.p, hn.d, hn.a, hn.h, hn.r, b2i_f, b2i_t, b2i_t] at *
   obtain ⟨w1, w2, w3, w4⟩ := hw
   refine ⟨by omega, by omega, by omega, by omega⟩
  ·rw [if_neg e1]
   by_cases e2 : sv x.word = true
   ·rw [if_pos e2]
    rw [svE] at e2
    obtain ⟨y, hyd⟩ : ∃ y : PC, y = ⟨z.prog, { z.c with pc := 12 }⟩ := ⟨_, rfl⟩
    have hy : mx m y = true := by rw [hyd]; exact h.mx
    have y1 : y.c.pc = 12 := by rw [hyd]
    have y2 : y.c.own.awake = z.c.own.awake := by rw [hyd]
    have y3 : y.c.told = z.c.told := by rw [hyd]
    have y4 : y.c.gor.state = 0 := by first | (rw [hyd]; exact h.run) | rw [hyd]
    obtain ⟨o', c', r', p', d', hh', a', l'⟩ := cls hy
    simp only [y1, y2, y3, y4] at o' c' r' p' d' hh' a' l'
    simp at o' c' r' p' d' hh' a' l'
    refine ⟨rfl, fun q => by simp at q, fun _ => ?_, .inl rfl, rfl, ?_⟩
    ·refine hC.turn _ h.lt rfl (.inl h.run) hC.permit (.inl rfl) rfl (.inl rfl) ⟨hC.rd0, hC.rd1⟩ ⟨hC.old0, hC.old1⟩ (.inr (.inr ⟨hk, by simp, by simp⟩)) (fun q => by simp at q) (fun q => by simp at q) (fun q => by simp at q) (fun q => by simp at q)
    ·
     suffices q : MInv m ⟨x.word - 1, x.line⟩ s (cl.set i y) by (rw [hyd] at q; exact q)
     refine h.inv.word_ h.len h.hz (x.word - 1) o o' (by rw [l, l']) ?_
     intro P D A H R _ _ _ _ _ _ _ hw
     simp only [p, d, a, hh, r, p', d', a', hh', r', b2i_f, b2i_t, b2i_t] at *
     obtain ⟨w1, w2, w3, w4⟩ := hw
     refine ⟨by omega, by omega, by omega, by omega⟩
   ·rw [if_neg e2]
    rw [Bool.not_eq_true] at e2
    replace e2 := svF e2
    unfold see
    obtain ⟨y, hyd⟩ : ∃ y : PC, y = ⟨z.prog, { z.c with own := { z.c.own with old := x.word - 1 }, pc := 10 }⟩ := ⟨_, rfl⟩
    have hy : mx m y = true := by rw [hyd]; exact h.mx
    have y1 : y.c.pc = 10 := by rw [hyd]
    have y2 : y.c.own.awake = z.c.own.awake := by rw [hyd]
    have y3 : y.c.told = z.c.told := by rw [hyd]
    have y4 : y.c.gor.state = 0 := by first | (rw [hyd]; exact h.run) | rw [hyd]
    obtain ⟨o', c', r', p', d', hh', a', l'⟩ := cls hy
    simp only [y1, y2, y3, y4] at o' c' r' p' d' hh' a' l'
    simp at o' c' r' p' d' hh' a' l'
    refine ⟨rfl, fun q => by simp at q, fun _ => ?_, .inl rfl, rfl, ?_⟩
    ·refine hC.turn _ h.lt rfl (.inl h.run) hC.permit (.inl rfl) rfl (.inl rfl) ⟨hC.rd0, hC.rd1⟩ ⟨by simp only; omega, by simp only; omega⟩ (.inr (.inr ⟨hk, by simp, by simp⟩)) (fun q => by simp at q) (fun q => by simp at q) (fun q => by simp at q) (fun q => by simp at q)
    ·
     suffices q : MInv m ⟨x.word - 1, x.line⟩ s (cl.set i y) by (rw [hyd] at q; exact q)
     refine h.inv.word_ h.len h.hz (x.word - 1) o o' (by rw [l, l']) ?_
     intro P D A H R _ _ _ _ _ _ _ hw
     simp only [p, d, a, hh, r, p', d', a', hh', r', b2i_f, b2i_t, b2i_t] at *
     obtain ⟨w1, w2, w3, w4⟩ := hw
     refine ⟨by omega, by omega, by omega, by omega⟩
theorem giveR_fine (h : At m i z x s cl now) (hp : z.c.pc = 10) : Fine m i cl z (giveR z.c x s) := by
 obtain ⟨o, c, r, p, d, hh, a, l⟩ := cls h.mx
 have hs0 := h.run
 simp only [hp, hs0] at o c r p d hh a l
 simp at o c r p d hh a l
 have hn := next_none z.prog z.c m
 have hC := h.c
 have hlt := h.lt
 have hwl := h.word_lo
 have hwh := h.word_hi
 have hk := h.kind2 (by omega)
 have ho0 := hC.old0
 unfold giveR
 by_cases e : (decide (z.c.own.old / 8 = 0) || lk z.c.own.old || wk z.c.own.old || sv z.c.own.old) = true
 ·rw [if_pos e]
  refine ⟨rfl, fun _ => rfl, fun q => by simp at q, .inl rfl, rfl, ?_⟩
  refine h.inv.word_ h.len h.hz (x.word) o (by simpa [fin] using hn.out) (by simp [fin, hn.l, l]) ?_
  intro P D A H R _ _ _ _ _ _ _ hw
  simp only [fin, if_true, p, d, a, hh, r, hn.p, hn.d, hn.a, hn.h, hn.r, b2i_f, b2i_t, b2i_t] at *
  obtain ⟨w1, w2, w3, w4⟩ := hw
  refine ⟨by omega, by omega, by omega, by omega⟩
 ·rw [if_neg e]
  rw [Bool.or_eq_true, Bool.or_eq_true, Bool.or_eq_true, not_or, not_or, not_or, Bool.not_eq_true, Bool.not_eq_true, Bool.not_eq_true, Bool.not_eq_true, decide_eq_false_iff_not] at e
  obtain ⟨⟨⟨e1, e2⟩, e3⟩, e4⟩ := e
  replace e2 := lkF e2
  replace e3 := wkF e3
  replace e4 := svF e4
  by_cases e5 : x.word = z.c.own.old
  ·rw [if_pos e5]
   obtain ⟨y, hyd⟩ : ∃ y : PC, y = ⟨z.prog, { z.c with pc := 12 }⟩ := ⟨_, rfl⟩
   have hy : mx m y = true := by rw [hyd]; exact h.mx
   have y1 : y.c.pc = 12 := by rw [hyd]
   have y2 : y.c.own.awake = z.c.own.awake := by rw [hyd]
   have y3 : y.c.told = z.c.told := by rw [hyd]
   have y4 : y.c.gor.state = 0 := by first | (rw [hyd]; exact h.run) | rw [hyd]
   obtain ⟨o', c', r', p', d', hh', a', l'⟩ := cls hy
   simp only [y1, y2, y3, y4] at o' c' r' p' d' hh' a' l'
   simp at o' c' r' p' d' hh' a' l'
   refine ⟨rfl, fun q => by simp at q, fun _ => ?_, .inl rfl, rfl, ?_⟩
   ·refine hC.turn _ h.lt rfl (.inl h.run) hC.permit (.inl rfl) rfl (.inl rfl) ⟨hC.rd0, hC.rd1⟩ ⟨hC.old0, hC.old1⟩ (.inr (.inr ⟨hk, by simp, by simp⟩)) (fun q => by simp at q) (fun q => by simp at q) (fun q => by simp at q) (fun q => by simp at q)
   ·
    suffices q : MInv m ⟨x.word - 6, x.line⟩ s (cl.set i y) by (rw [hyd] at q; exact q)
    refine h.inv.word_ h.len h.hz (x.word - 6) o o' (by rw [l, l']) ?_
    intro P D A H R _ _ _ _ _ _ _ hw
    simp only [p, d, a, hh, r, p', d', a', hh', r', b2i_f, b2i_t, b2i_t] at *
    obtain ⟨w1, w2, w3, w4⟩ := hw
    refine ⟨by omega, by omega, by omega, by omega⟩
  ·rw [if_neg e5]
   obtain ⟨y, hyd⟩ : ∃ y : PC, y = ⟨z.prog, { z.c with pc := 11 }⟩ := ⟨_, rfl⟩
   have hy : mx m y = true := by rw [hyd]; exact h.mx
   have y1 : y.c.pc = 11 := by rw [hyd]
   have y2 : y.c.own.awake = z.c.own.awake := by rw [hyd]
   have y3 : y.c.told = z.c.told := by rw [hyd]
   have y4 : y.c.gor.state = 0 := by first | (rw [hyd]; exact h.run) | rw [hyd]
   obtain ⟨o', c', r', p', d', hh', a', l'⟩ := cls hy
   simp only [y1, y2, y3, y4] at o' c' r' p' d' hh' a' l'
   simp at o' c' r' p' d' hh' a' l'
   refine ⟨rfl, fun q => by simp at q, fun _ => ?_, .inl rfl, rfl, ?_⟩
   ·refine hC.turn _ h.lt rfl (.inl h.run) hC.permit (.inl rfl) rfl (.inl rfl) ⟨hC.rd0, hC.rd1⟩ ⟨hC.old0, hC.old1⟩ (.inr (.inr ⟨hk, by simp, by simp⟩)) (fun q => by simp at q) (fun q => by simp at q) (fun q => by simp at q) (fun q => by simp at q)
   ·
    suffices q : MInv m ⟨x.word, x.line⟩ s (cl.set i y) by (rw [hyd] at q; exact q)
    refine h.inv.word_ h.len h.hz (x.word) o o' (by rw [l, l']) ?_
    intro P D A H R _ _ _ _ _ _ _ hw
    simp only [p, d, a, hh, r, p', d', a', hh', r', b2i_f, b2i_t, b2i_t] at *
    obtain ⟨w1, w2, w3, w4⟩ := hw
    refine ⟨by omega, by omega, by omega, by omega⟩
theorem seeR_fine (h : At m i z x s cl now) (hp : z.c.pc = 11) : Fine m i cl z (⟨see z.c x 10, x, s, false, none, none, 0⟩) := by
 obtain ⟨o, c, r, p, d, hh, a, l⟩ := cls h.mx
 have hs0 := h.run
 simp only [hp, hs0] at o c r p d hh a l
 simp at o c r p d hh a l
 have hn := next_none z.prog z.c m
 have hC := h.c
 have hlt := h.lt
 have hwl := h.word_lo
 have hwh := h.word_hi
 have hk := h.kind2 (by omega)
 unfold see
 obtain ⟨y, hyd⟩ : ∃ y : PC, y = ⟨z.prog, { z.c with own := { z.c.own with old := x.word }, pc := 10 }⟩ := ⟨_, rfl⟩
 have hy : mx m y = true := by rw [hyd]; exact h.mx
 have y1 : y.c.pc = 10 := by rw [hyd]
 have y2 : y.c.own.awake = z.c.own.awake := by rw [hyd]
 have y3 : y.c.told = z.c.told := by rw [hyd]
 have y4 : y.c.gor.state = 0 := by first | (rw [hyd]; exact h.run) | rw [hyd]
 obtain ⟨o', c', r', p', d', hh', a', l'⟩ := cls hy
 simp only [y1, y2, y3, y4] at o' c' r' p' d' hh' a' l'
 simp at o' c' r' p' d' hh' a' l'
 refine ⟨rfl, fun q => by simp at q, fun _ => ?_, .inl rfl, rfl, ?_⟩
 ·refine hC.turn _ h.lt rfl (.inl h.run) hC.permit (.inl rfl) rfl (.inl rfl) ⟨hC.rd0, hC.rd1⟩ ⟨hwl, hwh⟩ (.inr (.inr ⟨hk, by simp, by simp⟩)) (fun q => by simp at q) (fun q => by simp at q) (fun q => by simp at q) (fun q => by simp at q)
 ·
  suffices q : MInv m ⟨x.word, x.line⟩ s (cl.set i y) by (rw [hyd] at q; exact q)
  refine h.inv.word_ h.len h.hz (x.word) o o' (by rw [l, l']) ?_
  intro P D A H R _ _ _ _ _ _ _ hw
  simp only [p, d, a, hh, r, p', d', a', hh', r', b2i_f, b2i_t, b2i_t] at *
  obtain ⟨w1, w2, w3, w4⟩ := hw
  refine ⟨by omega, by omega, by omega, by omega⟩
theorem servedR_fine (h : At m i z x s cl now) (hp : z.c.pc = 15) : Fine m i cl z (servedR z.c x s) := by
 obtain ⟨o, c, r, p, d, hh, a, l⟩ := cls h.mx
 have hs0 := h.run
 simp only [hp, hs0] at o c r p d hh a l
 simp at o c r p d hh a l
 have hn := next_none z.prog z.c m
 have hC := h.c
 have hlt := h.lt
 have hwl := h.word_lo
 have hwh := h.word_hi
 unfold servedR
 refine ⟨rfl, fun _ => rfl, fun q => by simp at q, .inl rfl, rfl, ?_⟩
 refine h.inv.turn h.len h.hz ?_ (h.inv.tick.done h.len h.hz c hn.out) (h.inv.line.keep h.hz (by rw [l]; exact hn.l))
 show Turns m z ⟨z.prog, next z.prog z.c⟩ x ⟨x.word, _⟩ s s
 have p' := hn.p
 have d' := hn.d
 have a' := hn.a
 have hh' := hn.h
 have r' := hn.r
 intro P D A H R _ _ _ _ _ _ _ hw
 simp only [p, d, a, hh, r, p', d', a', hh', r', b2i_f, b2i_t] at *
 obtain ⟨w1, w2, w3, w4⟩ := hw
 refine ⟨by omega, by omega, by omega, by omega⟩
end
end Go.Proofs.YtoimfknjfeencaaGreatDoor.M
end
