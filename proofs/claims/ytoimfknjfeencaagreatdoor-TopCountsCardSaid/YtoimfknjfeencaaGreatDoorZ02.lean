/- Part of the walk of a law of the top, and what it leans on (Good, Lay). No conditions beyond those that each lemma names. -/
import Derived.Test.YtoimfknjfeencaaGreatDoorZ01
import Derived.Shelf.LaysC
import Derived.Shelf.LaysM
import Derived.Shelf.Strconv.Atoi
import Derived.Shelf.Strconv.AtoiAll
import Derived.Shelf.Strconv.AtoiErr
import Derived.Shelf.Strconv.AtoiErrFast
import Derived.Shelf.Strconv.AtoiFail
import Derived.Shelf.Strconv.AtoiInnerAll
import Derived.Shelf.Strconv.AtoiLong
import Derived.Shelf.Strconv.Clone
import Derived.Shelf.Strconv.ErrVarAll
import Derived.Shelf.Strconv.Itoa0
import Derived.Shelf.Strconv.Itoa1
import Derived.Shelf.Strconv.Itoa2
import Derived.Shelf.Strconv.Itoa3
import Derived.Shelf.Strconv.Lower
import Derived.Shelf.Strconv.ParseInt10
import Derived.Shelf.Strconv.ParseIntEmpty
import Derived.Shelf.Strconv.ParseUint10
import Derived.Shelf.Strconv.ParseUint10Any
import Derived.Shelf.Strconv.ParseUint10Empty
import Derived.Shelf.Strconv.ParseUint10b16
import Derived.Shelf.Strconv.ParseUint10b32
import Derived.Shelf.Strconv.ParseUint10b64
import Derived.Shelf.Strconv.ParseUint10b8
import Derived.Shelf.Strconv.ParseUintEmpty
import Derived.Shelf.Strconv.RangeError
import Derived.Shelf.Strconv.SyntaxError
import Derived.Shelf.Strconv.ToError
import Derived.Shelf.Strconv.ToErrorRange
import Derived.Shelf.Strings.Count
import Derived.Shelf.Strings.Cut
import Derived.Shelf.Strings.Explode
import Derived.Shelf.Strings.Prefix
import Derived.Shelf.Strings.RuneCount
import Derived.Shelf.Strings.Search1
import Derived.Shelf.Strings.Search2
import Derived.Shelf.Strings.Search3
import Derived.Shelf.Strings.Shaped
import Derived.Shelf.Strings.Split
import Derived.Shelf.Strings.SplitShaped
import Derived.Shelf.Unicode.Decode
import Derived.Shelf.Unicode.DecodeAny
import Derived.Shelf.Unicode.DecodeSlow
import Derived.Shelf.Utf8.RuneCount
import Derived.Test.YtoimfknjfeencaaGreatDoorProg
set_option linter.unusedVariables false
set_option linter.unusedSimpArgs false
set_option maxHeartbeats 8000000
set_option maxRecDepth 100000
section
namespace Go.Proofs.YtoimfknjfeencaaGreatDoor.M
def okAct (a : Act) : Prop := 0 ≤ a.kind ∧ a.kind ≤ 3 ∧ 0 ≤ a.n ∧ (a.kind = 3 → a.n ≤ 1000) ∧ (a.kind ≠ 3 → a.n ≤ 3)
def okProg (p : List Act) : Prop := p.length ≤ 64 ∧ ∀ a ∈ p, okAct a
structure Good (w : W) : Prop where
 now0 : 0 ≤ w.now
 now1 : w.now ≤ 4611686018427387904
 stop : w.stop = 0 ∨ w.stop = 11
 mu : w.mu.length = 4
 sem : w.sem.length = 4
 cl : w.cl.length ≤ 8
 progs : ∀ (k : Nat) (z : PC), w.cl[k]? = some z → okProg z.prog
 c : ∀ (k : Nat) (z : PC), w.cl[k]? = some z → CInv z
 inv : ∀ m : Nat, m < 4 → MInv (m : Int) (w.mu.getD m default) (w.sem.getD m default) w.cl
theorem cur_ok {z : PC} (hp : okProg z.prog) (h0 : 0 ≤ z.c.act) (hlt : z.c.act < z.prog.length) : okAct z.cur := by
 unfold PC.cur
 have h : z.c.act.toNat < z.prog.length := by omega
 rw [List.getD_eq_getElem?_getD, List.getElem?_eq_getElem h]
 exact hp.2 _ (List.getElem_mem h)
section
variable {m : Int} {i : Nat} {z : PC} {x : Mutex} {s : Sem} {cl : List PC} {now : Int}
theorem At.lineAt (h : At m i z x s cl now) (hp : z.c.pc = 14) {j : Nat} (hj : j ∈ s.line) : ∃ y, cl[j]? = some y ∧ j ≠ i ∧ M.mx m y = true ∧ y.c.pc = 7 ∧ y.c.gor.state = 1 := by
 obtain ⟨y, hy, hl⟩ := (h.inv.line.mem j).1 hj
 have hm : M.mx m y = true := by
  cases q : M.mx m y with
  | true => rfl
  | false => rw [(None_.of_mx q).l] at hl; cases hl
 obtain ⟨o, c, r, p, d, hh, a, l⟩ := cls h.mx
 obtain ⟨o', c', r', p', d', hh', a', l'⟩ := cls hm
 have hne : j ≠ i := by
  rintro rfl
  rw [h.hz] at hy
  cases hy
  rw [l', hp] at hl
  simp at hl
 rw [l'] at hl
 simp only [Bool.or_eq_true, Bool.and_eq_true, beq_iff_eq, Bool.not_eq_true'] at hl
 rcases hl with ⟨h6, _⟩ | ⟨h7, h1⟩
 ·have cz : isCrit m z = true := by rw [c, hp]; rfl
  have cy : isCrit m y = true := by rw [c', h6]; rfl
  exact absurd (h.inv.tick.uni _ _ _ _ hy h.hz (crit_out cy) (crit_out cz) (by rw [h.inv.tick.crit _ _ hy cy, h.inv.tick.crit _ _ h.hz cz])) hne
 ·exact ⟨y, hy, hne, hm, h7, h1⟩
end
structure Fine2 (m : Int) (i : Nat) (cl : List PC) (z : PC) (r : Res) : Prop where
 act : r.c.act = z.c.act
 gor : r.over = true → r.c.gor = z.c.gor
 c : r.over = false → CInv ⟨z.prog, r.c⟩
 stop : r.stop = 0 ∨ r.stop = 11
 wk : ∀ j, r.wake = some j → ∃ y, cl[j]? = some y ∧ j ≠ i ∧ mx m y = true ∧ y.c.pc = 7 ∧ y.c.gor.state = 1
 inv : MInv m r.x r.s ((wake cl r.wake).set i ⟨z.prog, fin z.prog r.c r.over⟩)
theorem Fine.two {m : Int} {i : Nat} {cl : List PC} {z : PC} {r : Res} (h : Fine m i cl z r) : Fine2 m i cl z r :=
 ⟨h.act, h.gor, h.c, h.stop, (fun j hj => by rw [h.wake] at hj; cases hj), by rw [h.wake]; exact h.inv⟩
section
variable {m : Int} {i : Nat} {z : PC} {x : Mutex} {s : Sem} {cl : List PC} {now : Int}
theorem grantR_fine (h : At m i z x s cl now) (hp : z.c.pc = 14) : Fine2 m i cl z (grantR z.c x s) := by
 have hs0 := h.run
 obtain ⟨o, c, r, p, d, hh, a, l⟩ := cls h.mx
 simp only [hp, hs0] at o c r p d hh a l
 simp at o c r p d hh a l
 have hC := h.c
 have hk := h.kind2 (by omega)
 obtain ⟨y, hyd⟩ : ∃ y : PC, y = ⟨z.prog, { z.c with pc := 15 }⟩ := ⟨_, rfl⟩
 have hy : mx m y = true := by rw [hyd]; exact h.mx
 have y1 : y.c.pc = 15 := by rw [hyd]
 have y2 : y.c.own.awake = z.c.own.awake := by rw [hyd]
 have y3 : y.c.told = z.c.told := by rw [hyd]
 have y4 : y.c.gor.state = 0 := by rw [hyd]; exact h.run
 have yt : y.c.ticket = z.c.ticket := by rw [hyd]
 obtain ⟨o', c', r', p', d', hh', a', l'⟩ := cls hy
 simp only [y1, y2, y3, y4] at o' c' r' p' d' hh' a' l'
 simp at o' c' r' p' d' hh' a' l'
 have hcy : CInv ⟨z.prog, { z.c with pc := 15 }⟩ := hC.turn _ h.lt rfl (.inl h.run) hC.permit (.inl rfl) rfl (.inl rfl) ⟨hC.rd0, hC.rd1⟩ ⟨hC.old0, hC.old1⟩ (.inr (.inr ⟨hk, by simp, by simp⟩)) (fun q => by simp at q) (fun q => by simp at q) (fun q => by simp at q) (fun q => by simp at q)
 have hc0 := h.inv.line.c0
 unfold grantR
 cases hl : s.line with
 | nil =>
  refine ⟨rfl, fun q => by simp at q, fun _ => hcy, .inl rfl, fun j q => by simp at q, ?_⟩
  suffices q : MInv m x ⟨s.count + 1, s.line⟩ (cl.set i y) by (rw [hyd, hl] at q; simp only [hl]; exact q)
  refine h.inv.turn h.len h.hz ?_ (h.inv.tick.keep h.hz (by rw [o, o']) (fun _ => .inl c) (fun _ => yt)) ((h.inv.line.keep h.hz (by rw [l, l'])).count _ (by omega) (.inr hl))
  intro P D A H R _ _ _ _ _ _ _ hw
  simp only [p, d, a, hh, r, p', d', a', hh', r', b2i_f, b2i_t] at *
  obtain ⟨w1, w2, w3, w4⟩ := hw
  refine ⟨by omega, by omega, by omega, by omega⟩
 | cons j rest =>
  obtain ⟨v, hv, hne, hm, h7, h1⟩ := h.lineAt hp (j := j) (by rw [hl]; simp)
  refine ⟨rfl, fun q => by simp at q, fun _ => hcy, .inl rfl, fun j' q => by simp at q; subst q; exact ⟨v, hv, hne, hm, h7, h1⟩, ?_⟩
  have hw2 : wake cl (some j) = cl.set j (ready v) := by simp only [wake, hv]
  suffices q : MInv m x ⟨s.count, rest⟩ ((cl.set j (ready v)).set i y) by (rw [hyd] at q; simp only [hl, hw2]; exact q)
  obtain ⟨o2, c2, r2, p2, d2, hh2, a2, l2⟩ := cls hm
  simp only [h7, h1] at o2 c2 r2 p2 d2 hh2 a2 l2
  simp at o2 c2 r2 p2 d2 hh2 a2 l2
  have hm3 : mx m (ready v) = true := hm
  have e1 : (ready v).c.pc = 7 := h7
  have e4 : (ready v).c.gor.state = 0 := rfl
  obtain ⟨o3, c3, r3, p3, d3, hh3, a3, l3⟩ := cls hm3
  simp only [e1, e4] at o3 c3 r3 p3 d3 hh3 a3 l3
  simp at o3 c3 r3 p3 d3 hh3 a3 l3
  have hz2 : (cl.set j (ready v))[i]? = some z := by rw [set_else _ _ _ _ (fun q => hne q.symm)]; exact h.hz
  have hpop : LineInv m ⟨s.count, j :: rest⟩ cl := by rw [← hl]; exact h.inv.line
  refine ⟨?_, (h.inv.tick.keep hv (by rw [o2, o3]) (fun q => by rw [c3] at q; cases q) (fun q => by rw [o3] at q; cases q)).keep hz2 (by rw [o, o']) (fun _ => .inl c) (fun _ => yt), (hpop.pop hv l3).keep hz2 (by rw [l, l'])⟩
  rw [cnt_set _ _ _ _ _ hz2, cnt_set _ _ _ _ _ hz2, cnt_set _ _ _ _ _ hz2, cnt_set _ _ _ _ _ hz2, cnt_set _ _ _ _ _ hz2, cnt_set _ _ _ _ _ hv, cnt_set _ _ _ _ _ hv, cnt_set _ _ _ _ _ hv, cnt_set _ _ _ _ _ hv, cnt_set _ _ _ _ _ hv]
  have hw := h.inv.word
  generalize cnt (isP m) cl = P at hw ⊢
  generalize cnt (isD m) cl = D at hw ⊢
  generalize cnt (isA m) cl = A at hw ⊢
  generalize cnt (isH m) cl = H at hw ⊢
  generalize cnt (isR m) cl = R at hw ⊢
  simp only [p, d, a, hh, r, p', d', a', hh', r', p2, d2, a2, hh2, r2, p3, d3, a3, hh3, r3, b2i_f, b2i_t] at *
  obtain ⟨w1, w2, w3, w4⟩ := hw
  refine ⟨by omega, by omega, by omega, by omega⟩
theorem atR_fine (run : Nat) (h : At m i z x s cl now) (hk : z.cur.kind = 0 ∨ z.cur.kind = 1 ∨ z.cur.kind = 2) : Fine2 m i cl z (atR run now i z.cur.kind z.c x s) := by
 have hpc := h.c.pc
 unfold atR
 by_cases p0 : z.c.pc = 0
 ·rw [if_pos p0]
  by_cases k0 : z.cur.kind = 0
  ·rw [if_pos k0]; exact (lockR_fine h p0 k0).two
  ·rw [if_neg k0]
   by_cases k1 : z.cur.kind = 1
   ·rw [if_pos k1]; exact (tryR_fine h p0 k1).two
   ·rw [if_neg k1]; exact (unlockR_fine h p0 (by omega)).two
 rw [if_neg p0]
 by_cases p1 : z.c.pc = 1
 ·rw [if_pos p1]; exact (loadR_fine h p1).two
 rw [if_neg p1]
 by_cases p2 : z.c.pc = 2
 ·rw [if_pos p2]; exact (wantR_fine run h p2).two
 rw [if_neg p2]
 by_cases p3 : z.c.pc = 3
 ·rw [if_pos p3]; exact (drawR_fine3 h p3).two
 rw [if_neg p3]
 by_cases p4 : z.c.pc = 4
 ·rw [if_pos p4]; exact (turnR_fine4 h p4).two
 rw [if_neg p4]
 by_cases p5 : z.c.pc = 5
 ·rw [if_pos p5]; exact (askR_fine h p5).two
 rw [if_neg p5]
 by_cases p6 : z.c.pc = 6
 ·rw [if_pos p6]; exact (restR_fine h p6).two
 rw [if_neg p6]
 by_cases p7 : z.c.pc = 7
 ·rw [if_pos p7]; exact (wakeR_fine h p7).two
 rw [if_neg p7]
 by_cases p8 : z.c.pc = 8
 ·rw [if_pos p8]; exact (takeR_fine h p8).two
 rw [if_neg p8]
 by_cases p9 : z.c.pc = 9
 ·rw [if_pos p9]; exact (triedR_fine h p9).two
 rw [if_neg p9]
 by_cases p10 : z.c.pc = 10
 ·rw [if_pos p10]; exact (giveR_fine h p10).two
 rw [if_neg p10]
 by_cases p11 : z.c.pc = 11
 ·rw [if_pos p11]; exact (seeR_fine h p11).two
 rw [if_neg p11]
 by_cases p12 : z.c.pc = 12
 ·rw [if_pos p12]; exact (drawR_fine12 h p12).two
 rw [if_neg p12]
 by_cases p13 : z.c.pc = 13
 ·rw [if_pos p13]; exact (turnR_fine13 h p13).two
 rw [if_neg p13]
 by_cases p14 : z.c.pc = 14
 ·rw [if_pos p14]; exact grantR_fine h p14
 rw [if_neg p14]
 exact (servedR_fine h (by omega)).two
end
theorem CInv.ready {z : PC} (h : CInv z) (h7 : z.c.pc = 7) (h1 : z.c.gor.state = 1) : CInv (M.ready z) := by
 have hd := h.done
 refine ⟨h.a0, h.a1, ?_, by simp [M.ready], by simp [M.ready], rfl, h.tk0, h.tk1, h.since, h.rd0, h.rd1, h.old0, h.old1, h.wk0, h.wk1, h.pc, fun q => by simp [M.ready] at q, h.aw, h.want, h.hand, h.tried, h.new⟩
 simp only [M.ready]
 constructor
 ·intro q
  have := hd.1 q
  omega
 ·intro q
  simp at q
theorem mx_ready (m : Int) (z : PC) : mx m (ready z) = mx m z := rfl
theorem mx_only {m m' : Int} {z : PC} (h : mx m z = true) (hne : m' ≠ m) : mx m' z = false := by
 unfold mx at *
 simp only [Bool.and_eq_true, beq_iff_eq, decide_eq_true_eq] at h
 simp only [h.2, Bool.and_eq_false_iff, beq_eq_false_iff_ne, ne_eq]
 exact .inr (fun e => hne e.symm)
theorem Good.step_at {w : W} (g : Good w) {i : Nat} {z : PC} (hz : w.cl[i]? = some z) (hr : z.c.gor.state = 0) (hst : w.stop = 0) : Good (stepAt w i z).1 := by
 have hC := g.c _ _ hz
 have hP := g.progs _ _ hz
 have hlt : z.c.act < z.prog.length := by
  have := hC.done
  have := hC.a1
  omega
 have hok := cur_ok hP hC.a0 hlt
 unfold stepAt
 by_cases hk : z.cur.kind = 3
 ·rw [if_pos hk]
  simp only
  have hp0 : z.c.pc = 0 := by
   have := hC.pc
   omega
  have hmx : ∀ m, mx m z = false := fun m => by unfold mx; simp [hk]
  obtain ⟨y, hy⟩ : ∃ y : PC, y = ⟨z.prog, fin z.prog { z.c with worked := z.c.worked + 1 } (decide (z.cur.n ≤ z.c.worked + 1))⟩ := ⟨_, rfl⟩
  have hyn : ∀ m, None_ m y := fun m => by
   refine .of_pc ?_
   rw [hy]
   unfold fin
   split
   ·rfl
   ·exact hp0
  have hyp : y.prog = z.prog := by rw [hy]
  have hyc : CInv y := by
   rw [hy]
   unfold fin
   by_cases e : z.cur.n ≤ z.c.worked + 1
   ·rw [if_pos (decide_eq_true e)]
    exact hC.next { z.c with worked := z.c.worked + 1 } hlt rfl rfl hr
   ·rw [if_neg (by simpa using e)]
    have := hC.wk0
    exact ⟨hC.a0, hC.a1, hC.done, hC.st0, hC.st2, hC.permit, hC.tk0, hC.tk1, hC.since, hC.rd0, hC.rd1, hC.old0, hC.old1, by simp only; omega, .inr ⟨hlt, hk, by show z.c.worked + 1 ≤ z.cur.n - 1; omega⟩, hC.pc, hC.park, hC.aw, hC.want, hC.hand, hC.tried, hC.new⟩
  rw [← hy]
  refine ⟨g.now0, g.now1, g.stop, g.mu, g.sem, by simp only [List.length_set]; exact g.cl, ?_, ?_, ?_⟩
  ·intro k q hq
   rcases set_at _ _ _ _ _ hq with ⟨rfl, rfl⟩ | ⟨_, hq2⟩
   ·rw [hyp]; exact hP
   ·exact g.progs _ _ hq2
  ·intro k q hq
   rcases set_at _ _ _ _ _ hq with ⟨rfl, rfl⟩ | ⟨_, hq2⟩
   ·exact hyc
   ·exact g.c _ _ hq2
  ·intro m hm
   exact (g.inv m hm).same hz ((None_.of_mx (hmx m)).same (hyn m))
 ·rw [if_neg hk]
  simp only
  obtain ⟨k0, k3, n0, _, n3⟩ := hok
  have n3 := n3 hk
  obtain ⟨m, hm⟩ : ∃ m : Nat, m = z.cur.n.toNat := ⟨_, rfl⟩
  have hmi : (m : Int) = z.cur.n := by omega
  rw [← hm]
  have hmlt : m < 4 := by omega
  have hmx : mx (m : Int) z = true := by
   unfold mx
   simp [hlt, hk, hmi]
  have hat : At (m : Int) i z (w.mu.getD m default) (w.sem.getD m default) w.cl w.now := ⟨hz, g.cl, hmx, hr, hC, g.inv m hmlt, g.now0, g.now1⟩
  have hf := atR_fine (runs w.cl) hat (by omega)
  generalize atR (runs w.cl) w.now i z.cur.kind z.c (w.mu.getD m default) (w.sem.getD m default) = r at hf
  obtain ⟨y, hy⟩ : ∃ y : PC, y = ⟨z.prog, fin z.prog r.c r.over⟩ := ⟨_, rfl⟩
  have hinv := hf.inv
  rw [← hy] at hinv ⊢
  have hyp : y.prog = z.prog := by rw [hy]
  have hyc : CInv y := by
   rw [hy]
   unfold fin
   cases e : r.over with
   | true =>
    rw [if_pos rfl]
    exact hC.next r.c hlt hf.act (hf.gor e) hr
   | false =>
    rw [if_neg (by decide)]
    exact hf.c e
  have hyn : ∀ m' : Int, m' ≠ m → None_ m' y := by
   intro m' hne
   rw [hy]
   unfold fin
   cases e : r.over with
   | true => exact .of_pc rfl
   | false =>
    rw [if_neg (by decide)]
    refine .of_mx ?_
    have : mx m' ⟨z.prog, r.c⟩ = mx m' z := by
     unfold mx PC.cur
     simp only [hf.act]
    rw [this]
    exact mx_only hmx hne
  have hzn : ∀ m' : Int, m' ≠ m → None_ m' z := fun m' hne => .of_mx (mx_only hmx hne)
  obtain ⟨cl1, hcl1⟩ : ∃ cl1, cl1 = wake w.cl r.wake := ⟨_, rfl⟩
  rw [← hcl1] at hinv ⊢
  have hcl : cl1.length = w.cl.length ∧ cl1[i]? = some z ∧ (∀ (k : Nat) (q : PC), cl1[k]? = some q → okProg q.prog ∧ CInv q) ∧ ∀ m' : Nat, m' < 4 → m' ≠ m → MInv (m' : Int) (w.mu.getD m' default) (w.sem.getD m' default) cl1 := by
   cases hw : r.wake with
   | none =>
    rw [hw] at hcl1
    subst hcl1
    exact ⟨rfl, hz, fun k q hq => ⟨g.progs _ _ hq, g.c _ _ hq⟩, fun m' h1 _ => g.inv m' h1⟩
   | some j =>
    obtain ⟨v, hv, hne, hmv, h7, h1⟩ := hf.wk j hw
    have : cl1 = w.cl.set j (ready v) := by
     rw [hcl1, hw]
     simp only [M.wake, hv]
    subst this
    refine ⟨by rw [List.length_set], by rw [set_else _ _ _ _ (fun q => hne q.symm)]; exact hz, ?_, ?_⟩
    ·intro k q hq
     rcases set_at _ _ _ _ _ hq with ⟨rfl, rfl⟩ | ⟨_, hq2⟩
     ·exact ⟨(g.progs _ _ hv : okProg v.prog), (g.c _ _ hv).ready h7 h1⟩
     ·exact ⟨g.progs _ _ hq2, g.c _ _ hq2⟩
    ·intro m' hm' hne'
     have hne2 : (m' : Int) ≠ m := fun e => hne' (by omega)
     exact (g.inv m' hm').same hv ((None_.of_mx (mx_only hmv hne2)).same (.of_mx (mx_only (by rw [mx_ready]; exact hmv) hne2)))
  clear hcl1
  obtain ⟨hl1, hz1, hall, hoth⟩ := hcl
  refine ⟨g.now0, g.now1, hf.stop, by simp only [List.length_set]; exact g.mu, by simp only [List.length_set]; exact g.sem, by simp only [List.length_set, hl1]; exact g.cl, ?_, ?_, ?_⟩
  ·intro k q hq
   rcases set_at _ _ _ _ _ hq with ⟨rfl, rfl⟩ | ⟨_, hq2⟩
   ·rw [hyp]; exact hP
   ·exact (hall _ _ hq2).1
  ·intro k q hq
   rcases set_at _ _ _ _ _ hq with ⟨rfl, rfl⟩ | ⟨_, hq2⟩
   ·exact hyc
   ·exact (hall _ _ hq2).2
  ·intro m' hm'
   have hmu := g.mu
   have hse := g.sem
   simp only
   by_cases e : m' = m
   ·subst e
    rw [List.getD_eq_getElem?_getD, List.getElem?_set_self (by omega), List.getD_eq_getElem?_getD, List.getElem?_set_self (by omega)]
    exact hinv
   ·rw [List.getD_eq_getElem?_getD, List.getElem?_set_ne (fun q => e q.symm), ← List.getD_eq_getElem?_getD, List.getD_eq_getElem?_getD (l := w.sem.set m r.s), List.getElem?_set_ne (fun q => e q.symm), ← List.getD_eq_getElem?_getD]
    have hne2 : (m' : Int) ≠ m := fun q => e (by omega)
    exact (hoth m' hm' e).same hz1 ((hzn _ hne2).same (hyn _ hne2))
theorem Good.step {w : W} (g : Good w) (who : Int) : Good (M.step w who).1 := by
 unfold M.step
 by_cases h : w.stop ≠ 0 ∨ who < 0
 ·rw [if_pos h]; exact g
 ·rw [if_neg h]
  cases hz : w.cl[who.toNat]? with
  | none => exact g
  | some z =>
   simp only
   by_cases hr : z.c.gor.state ≠ 0
   ·rw [if_pos hr]; exact g
   ·rw [if_neg hr]
    exact g.step_at hz (Decidable.not_not.1 hr) (by omega)
theorem Good.tick {w : W} (g : Good w) (d : Int) (h : 0 ≤ d) : Good (M.tick w d) := by
 unfold M.tick
 split
 ·exact g
 ·rename_i q
  have := g.now0
  refine ⟨by simp only; omega, by simp only; omega, g.stop, g.mu, g.sem, g.cl, g.progs, g.c, g.inv⟩
theorem cnt_none (f : PC → Bool) : ∀ (l : List PC), (∀ z ∈ l, f z = false) → cnt f l = 0
 | [], _ => rfl
 | z :: r, h => by
  simp only [cnt]
  rw [h z List.mem_cons_self, cnt_none f r (fun y hy => h y (List.mem_cons_of_mem _ hy)), b2i_f]
  rfl
theorem Good.new (l : List (List Act)) (h8 : l.length ≤ 8) (hl : ∀ p ∈ l, okProg p) : Good (M.new l) := by
 have hat : ∀ (k : Nat) (z : PC), (M.new l).cl[k]? = some z → ∃ p ∈ l, z = ⟨p, firstC ⟨if p.length = 0 then 2 else 0, false⟩ 0⟩ := by
  intro k z hz
  unfold M.new at hz
  simp only [List.getElem?_map] at hz
  obtain ⟨p, hp, rfl⟩ := Option.map_eq_some_iff.1 hz
  exact ⟨p, List.mem_of_getElem? hp, rfl⟩
 have hn : ∀ (m : Int), ∀ z ∈ (M.new l).cl, None_ m z := by
  intro m z hz
  obtain ⟨k, hk⟩ := List.getElem?_of_mem hz
  obtain ⟨p, _, rfl⟩ := hat k z hk
  exact .of_pc rfl
 refine ⟨by simp [M.new], by simp [M.new], .inl rfl, rfl, rfl, ?_, ?_, ?_, ?_⟩
 ·unfold M.new
  simpa using h8
 ·intro k z hz
  obtain ⟨p, hp, rfl⟩ := hat k z hz
  exact hl p hp
 ·intro k z hz
  obtain ⟨p, hp, rfl⟩ := hat k z hz
  refine ⟨by simp [firstC], by simp [firstC], ?_, ?_, ?_, rfl, by simp [firstC], by simp [firstC], .inl rfl, by simp [firstC, fresh], by simp [firstC, fresh], by simp [firstC, fresh], by simp [firstC, fresh], by simp [firstC], .inl rfl, .inl rfl, ?_, fun _ q => by simp [firstC, fresh] at q, fun q => by simp [firstC] at q, fun q => by simp [firstC] at q, fun q => by simp [firstC] at q, fun _ => ⟨rfl, rfl⟩⟩
  ·simp only [firstC]
   by_cases e : p.length = 0
   ·simp [e]
   ·simp [e]
    omega
  ·simp only [firstC]; split <;> decide
  ·simp only [firstC]; split <;> decide
  ·simp only [firstC]
   intro q
   split at q <;> simp at q
 ·intro m hm
  have e1 : (M.new l).mu.getD m default = ⟨0, ⟨0, 0⟩⟩ := by
   unfold M.new
   obtain h | h | h | h : m = 0 ∨ m = 1 ∨ m = 2 ∨ m = 3 := by omega
   all_goals (subst h; rfl)
  have e2 : (M.new l).sem.getD m default = ⟨0, []⟩ := by
   unfold M.new
   obtain h | h | h | h : m = 0 ∨ m = 1 ∨ m = 2 ∨ m = 3 := by omega
   all_goals (subst h; rfl)
  rw [e1, e2]
  have z1 := cnt_none (isP m) _ (fun z hz => (hn m z hz).p)
  have z2 := cnt_none (isD m) _ (fun z hz => (hn m z hz).d)
  have z3 := cnt_none (isA m) _ (fun z hz => (hn m z hz).a)
  have z4 := cnt_none (isH m) _ (fun z hz => (hn m z hz).h)
  have z5 := cnt_none (isR m) _ (fun z hz => (hn m z hz).r)
  have z6 := cnt_none (isOut m) _ (fun z hz => (hn m z hz).out)
  refine ⟨?_, ⟨by simp, by simp, by simp, by simp, by rw [z6]; rfl, ?_, ?_, ?_⟩, ⟨by simp, .inl rfl, List.nodup_nil, ?_⟩⟩
  ·rw [z1, z2, z3, z4, z5]
   exact ⟨by simp, by simp, by simp, by simp⟩
  ·intro k y hy ho
   rw [(hn m y (List.mem_of_getElem? hy)).out] at ho
   cases ho
  ·intro k j y x hy _ ho _ _
   rw [(hn m y (List.mem_of_getElem? hy)).out] at ho
   cases ho
  ·intro k y hy ho
   rw [(hn m y (List.mem_of_getElem? hy)).crit] at ho
   cases ho
  ·intro k
   constructor
   ·intro q
    cases q
   ·rintro ⟨y, hy, ho⟩
    rw [(hn m y (List.mem_of_getElem? hy)).l] at ho
    cases ho
end Go.Proofs.YtoimfknjfeencaaGreatDoor.M
end
section
namespace Go.Proofs
open Go.Shelf
section
def Tryz.laysM171_ren : Go.Shelf.Ren := ⟨fun | 171 => 110 | 243 => 144 | 246 => 180 | 283 => 202 | 284 => 203 | 285 => 204 | 286 => 205 | 129 => 217 | 317 => 216 | 318 => 218 | 319 => 219 | 320 => 220 | 337 => 229 | 338 => 230 | n => n, fun | 3 => 3 | 9 => 9 | 2 => 2 | 4 => 4 | 171 => 259 | 0 => 0 | 53 => 252 | 37 => 223 | 5 => 5 | 173 => 262 | 212 => 286 | 51 => 156 | 20 => 20 | 213 => 287 | 46 => 93 | 232 => 301 | 233 => 302 | n => n, fun | 17 => 5 | 18 => 6 | 19 => 7 | n => n⟩
theorem Tryz.laysM171 : Go.Proofs.LaysM.n171 Tryz.prog Tryz.laysM171_ren := {
 mixed := by kernel_rfl
 f129 := Tryz.func217.trans (congrArg some (by kernel_rfl))
 f171 := Tryz.func110.trans (congrArg some (by kernel_rfl))
 f243 := Tryz.func144.trans (congrArg some (by kernel_rfl))
 f246 := Tryz.func180.trans (congrArg some (by kernel_rfl))
 f283 := Tryz.func202.trans (congrArg some (by kernel_rfl))
 f284 := Tryz.func203.trans (congrArg some (by kernel_rfl))
 f285 := Tryz.func204.trans (congrArg some (by kernel_rfl))
 f286 := Tryz.func205.trans (congrArg some (by kernel_rfl))
 f317 := Tryz.func216.trans (congrArg some (by kernel_rfl))
 f318 := Tryz.func218.trans (congrArg some (by kernel_rfl))
 f319 := Tryz.func219.trans (congrArg some (by kernel_rfl))
 f320 := Tryz.func220.trans (congrArg some (by kernel_rfl))
 f337 := Tryz.func229.trans (congrArg some (by kernel_rfl))
 f338 := Tryz.func230.trans (congrArg some (by kernel_rfl))
 t0 := Tryz.underlying0
 a0 := Tryz.isAgg0
 z0 := Tryz.sizeOf0
 v0 := Tryz.zeroValue0
 t2 := Tryz.underlying2
 a2 := Tryz.isAgg2
 z2 := Tryz.sizeOf2
 v2 := Tryz.zeroValue2
 t3 := Tryz.underlying3
 a3 := Tryz.isAgg3
 z3 := Tryz.sizeOf3
 v3 := Tryz.zeroValue3
 t4 := Tryz.underlying4
 a4 := Tryz.isAgg4
 z4 := Tryz.sizeOf4
 v4 := Tryz.zeroValue4
 t5 := Tryz.underlying5
 a5 := Tryz.isAgg5
 z5 := Tryz.sizeOf5
 v5 := Tryz.zeroValue5
 t9 := Tryz.underlying9
 a9 := Tryz.isAgg9
 z9 := Tryz.sizeOf9
 v9 := Tryz.zeroValue9
 t20 := Tryz.underlying20
 a20 := Tryz.isAgg20
 z20 := Tryz.sizeOf20
 v20 := Tryz.zeroValue20
 t37 := Tryz.underlying223
 a37 := Tryz.isAgg223
 z37 := Tryz.sizeOf223
 v37 := Tryz.zeroValue223
 t46 := Tryz.underlying93
 a46 := Tryz.isAgg93
 z46 := Tryz.sizeOf93
 v46 := Tryz.zeroValue93
 t51 := Tryz.underlying156
 a51 := Tryz.isAgg156
 z51 := Tryz.sizeOf156
 v51 := Tryz.zeroValue156
 t53 := Tryz.underlying252
 a53 := Tryz.isAgg252
 z53 := Tryz.sizeOf252
 v53 := Tryz.zeroValue252
 t171 := Tryz.underlying259
 a171 := Tryz.isAgg259
 z171 := Tryz.sizeOf259
 v171 := Tryz.zeroValue259
 t173 := Tryz.underlying262
 a173 := Tryz.isAgg262
 z173 := Tryz.sizeOf262
 v173 := Tryz.zeroValue262
 t212 := Tryz.underlying286
 a212 := Tryz.isAgg286
 z212 := Tryz.sizeOf286
 v212 := Tryz.zeroValue286
 t213 := Tryz.underlying287
 a213 := Tryz.isAgg287
 z213 := Tryz.sizeOf287
 t232 := Tryz.underlying301
 a232 := Tryz.isAgg301
 z232 := Tryz.sizeOf301
 v232 := Tryz.zeroValue301
 t233 := Tryz.underlying302
 a233 := Tryz.isAgg302
 z233 := Tryz.sizeOf302
 v233 := Tryz.zeroValue302
 g17 := by kernel_rfl
 g18 := by kernel_rfl
 g19 := by kernel_rfl
 i0 := by kernel_rfl
 i2 := by kernel_rfl
 i3 := by kernel_rfl
 i4 := by kernel_rfl
 i5 := by kernel_rfl
 i9 := by kernel_rfl
 i20 := by kernel_rfl
 i37 := by kernel_rfl
 i46 := by kernel_rfl
 i51 := by kernel_rfl
 i53 := by kernel_rfl
 i171 := by kernel_rfl
 i173 := by kernel_rfl
 i212 := by kernel_rfl
 i232 := by kernel_rfl
 i233 := by kernel_rfl
 m17 := by kernel_rfl
 m18 := by kernel_rfl
 m19 := by kernel_rfl }
open Go.RowKit Go.Sort Go.Lib in
theorem Tryz.strconv_Itoa (n : Int) (h0 : -9223372036854775808 ≤ n) (h1 : n ≤ 9223372036854775807) (w : World) (htab : Lib.TabIs Tryz.prog w "internal/strconv.uint64pow10" .u64 Lib.pow10Tab) :
  Calls Tryz.prog 110 #[.int .i64 n] w fun e w' => e = .returned (.string ⟨(Lib.itoa n).toArray⟩) ∧ ∃ k os, w' = grow (w.drewN k) os := Any.strconv_Itoa Tryz.laysM171 n h0 h1 w htab
def Tryz.laysC172_ren : Go.Shelf.Ren := ⟨fun | 172 => 109 | 244 => 142 | 245 => 143 | 247 => 175 | 279 => 176 | 280 => 177 | 281 => 178 | 282 => 179 | 287 => 199 | 316 => 200 | 171 => 110 | 205 => 201 | 321 => 214 | 322 => 215 | 243 => 144 | 246 => 180 | 283 => 202 | 284 => 203 | 285 => 204 | 286 => 205 | 129 => 217 | 317 => 216 | 318 => 218 | 319 => 219 | 320 => 220 | 337 => 229 | 338 => 230 | n => n, fun | 9 => 9 | 3 => 3 | 75 => 169 | 76 => 170 | 4 => 4 | 5 => 5 | 167 => 222 | 37 => 223 | 0 => 0 | 85 => 224 | 2 => 2 | 168 => 226 | 53 => 252 | 175 => 253 | 46 => 93 | 210 => 257 | 127 => 282 | 145 => 285 | 143 => 283 | 21 => 21 | 171 => 259 | 173 => 262 | 212 => 286 | 51 => 156 | 20 => 20 | 213 => 287 | 232 => 301 | 233 => 302 | 80 => 304 | n => n, fun | 15 => 3 | 16 => 4 | 17 => 5 | 18 => 6 | 19 => 7 | n => n⟩
theorem Tryz.laysC172 : Go.Proofs.LaysC.n172 Tryz.prog Tryz.laysC172_ren := {
 mixed := by kernel_rfl
 f129 := Tryz.func217.trans (congrArg some (by kernel_rfl))
 f171 := Tryz.func110.trans (congrArg some (by kernel_rfl))
 f172 := Tryz.func109.trans (congrArg some (by kernel_rfl))
 f205 := Tryz.func201.trans (congrArg some (by kernel_rfl))
 f243 := Tryz.func144.trans (congrArg some (by kernel_rfl))
 f244 := Tryz.func142.trans (congrArg some (by kernel_rfl))
 f245 := Tryz.func143.trans (congrArg some (by kernel_rfl))
 f246 := Tryz.func180.trans (congrArg some (by kernel_rfl))
 f247 := Tryz.func175.trans (congrArg some (by kernel_rfl))
 f279 := Tryz.func176.trans (congrArg some (by kernel_rfl))
 f280 := Tryz.func177.trans (congrArg some (by kernel_rfl))
 f281 := Tryz.func178.trans (congrArg some (by kernel_rfl))
 f282 := Tryz.func179.trans (congrArg some (by kernel_rfl))
 f283 := Tryz.func202.trans (congrArg some (by kernel_rfl))
 f284 := Tryz.func203.trans (congrArg some (by kernel_rfl))
 f285 := Tryz.func204.trans (congrArg some (by kernel_rfl))
 f286 := Tryz.func205.trans (congrArg some (by kernel_rfl))
 f287 := Tryz.func199.trans (congrArg some (by kernel_rfl))
 f316 := Tryz.func200.trans (congrArg some (by kernel_rfl))
 f317 := Tryz.func216.trans (congrArg some (by kernel_rfl))
 f318 := Tryz.func218.trans (congrArg some (by kernel_rfl))
 f319 := Tryz.func219.trans (congrArg some (by kernel_rfl))
 f320 := Tryz.func220.trans (congrArg some (by kernel_rfl))
 f321 := Tryz.func214.trans (congrArg some (by kernel_rfl))
 f322 := Tryz.func215.trans (congrArg some (by kernel_rfl))
 f337 := Tryz.func229.trans (congrArg some (by kernel_rfl))
 f338 := Tryz.func230.trans (congrArg some (by kernel_rfl))
 t0 := Tryz.underlying0
 a0 := Tryz.isAgg0
 z0 := Tryz.sizeOf0
 v0 := Tryz.zeroValue0
 t2 := Tryz.underlying2
 a2 := Tryz.isAgg2
 z2 := Tryz.sizeOf2
 v2 := Tryz.zeroValue2
 t3 := Tryz.underlying3
 a3 := Tryz.isAgg3
 z3 := Tryz.sizeOf3
 v3 := Tryz.zeroValue3
 t4 := Tryz.underlying4
 a4 := Tryz.isAgg4
 z4 := Tryz.sizeOf4
 v4 := Tryz.zeroValue4
 t5 := Tryz.underlying5
 a5 := Tryz.isAgg5
 z5 := Tryz.sizeOf5
 v5 := Tryz.zeroValue5
 t9 := Tryz.underlying9
 a9 := Tryz.isAgg9
 z9 := Tryz.sizeOf9
 v9 := Tryz.zeroValue9
 t20 := Tryz.underlying20
 a20 := Tryz.isAgg20
 z20 := Tryz.sizeOf20
 v20 := Tryz.zeroValue20
 t21 := Tryz.underlying21
 a21 := Tryz.isAgg21
 z21 := Tryz.sizeOf21
 v21 := Tryz.zeroValue21
 t37 := Tryz.underlying223
 a37 := Tryz.isAgg223
 z37 := Tryz.sizeOf223
 v37 := Tryz.zeroValue223
 t46 := Tryz.underlying93
 a46 := Tryz.isAgg93
 z46 := Tryz.sizeOf93
 v46 := Tryz.zeroValue93
 t51 := Tryz.underlying156
 a51 := Tryz.isAgg156
 z51 := Tryz.sizeOf156
 v51 := Tryz.zeroValue156
 t53 := Tryz.underlying252
 a53 := Tryz.isAgg252
 z53 := Tryz.sizeOf252
 v53 := Tryz.zeroValue252
 t75 := Tryz.underlying169
 a75 := Tryz.isAgg169
 z75 := Tryz.sizeOf169
 v75 := Tryz.zeroValue169
 t76 := Tryz.underlying170
 a76 := Tryz.isAgg170
 z76 := Tryz.sizeOf170
 v76 := Tryz.zeroValue170
 t85 := Tryz.underlying224
 a85 := Tryz.isAgg224
 z85 := Tryz.sizeOf224
 v85 := Tryz.zeroValue224
 t127 := Tryz.underlying282
 a127 := Tryz.isAgg282
 z127 := Tryz.sizeOf282
 v127 := Tryz.zeroValue282
 t143 := Tryz.underlying283
 a143 := Tryz.isAgg283
 z143 := Tryz.sizeOf283
 v143 := Tryz.zeroValue283
 t145 := Tryz.underlying285
 a145 := Tryz.isAgg285
 z145 := Tryz.sizeOf285
 v145 := Tryz.zeroValue285
 t167 := Tryz.underlying222
 a167 := Tryz.isAgg222
 z167 := Tryz.sizeOf222
 v167 := Tryz.zeroValue222
 t168 := Tryz.underlying226
 a168 := Tryz.isAgg226
 z168 := Tryz.sizeOf226
 v168 := Tryz.zeroValue226
 t171 := Tryz.underlying259
 a171 := Tryz.isAgg259
 z171 := Tryz.sizeOf259
 v171 := Tryz.zeroValue259
 t173 := Tryz.underlying262
 a173 := Tryz.isAgg262
 z173 := Tryz.sizeOf262
 v173 := Tryz.zeroValue262
 t175 := Tryz.underlying253
 a175 := Tryz.isAgg253
 z175 := Tryz.sizeOf253
 v175 := Tryz.zeroValue253
 t210 := Tryz.underlying257
 a210 := Tryz.isAgg257
 z210 := Tryz.sizeOf257
 v210 := Tryz.zeroValue257
 t212 := Tryz.underlying286
 a212 := Tryz.isAgg286
 z212 := Tryz.sizeOf286
 v212 := Tryz.zeroValue286
 t213 := Tryz.underlying287
 a213 := Tryz.isAgg287
 z213 := Tryz.sizeOf287
 t232 := Tryz.underlying301
 a232 := Tryz.isAgg301
 z232 := Tryz.sizeOf301
 v232 := Tryz.zeroValue301
 t233 := Tryz.underlying302
 a233 := Tryz.isAgg302
 z233 := Tryz.sizeOf302
 v233 := Tryz.zeroValue302
 g15 := by kernel_rfl
 g16 := by kernel_rfl
 g17 := by kernel_rfl
 g18 := by kernel_rfl
 g19 := by kernel_rfl
 t80 := Tryz.underlying304
 a80 := Tryz.isAgg304
 z80 := Tryz.sizeOf304
 v80 := Tryz.zeroValue304
 i0 := by kernel_rfl
 i2 := by kernel_rfl
 i3 := by kernel_rfl
 i4 := by kernel_rfl
 i5 := by kernel_rfl
 i9 := by kernel_rfl
 i20 := by kernel_rfl
 i21 := by kernel_rfl
 i37 := by kernel_rfl
 i46 := by kernel_rfl
 i51 := by kernel_rfl
 i53 := by kernel_rfl
 i75 := by kernel_rfl
 i76 := by kernel_rfl
 i80 := by kernel_rfl
 i85 := by kernel_rfl
 i127 := by kernel_rfl
 i143 := by kernel_rfl
 i145 := by kernel_rfl
 i167 := by kernel_rfl
 i168 := by kernel_rfl
 i171 := by kernel_rfl
 i173 := by kernel_rfl
 i175 := by kernel_rfl
 i210 := by kernel_rfl
 i212 := by kernel_rfl
 i232 := by kernel_rfl
 i233 := by kernel_rfl
 m15 := by kernel_rfl
 m16 := by kernel_rfl
 m17 := by kernel_rfl
 m18 := by kernel_rfl
 m19 := by kernel_rfl
 c0 := by kernel_rfl
 c2 := by kernel_rfl
 c3 := by kernel_rfl
 c4 := by kernel_rfl
 c5 := by kernel_rfl
 c9 := by kernel_rfl
 c20 := by kernel_rfl
 c21 := by kernel_rfl
 c37 := by kernel_rfl
 c46 := by kernel_rfl
 c51 := by kernel_rfl
 c53 := by kernel_rfl
 c75 := by kernel_rfl
 c76 := by kernel_rfl
 c80 := by kernel_rfl
 c85 := by kernel_rfl
 c127 := by kernel_rfl
 c143 := by kernel_rfl
 c145 := by kernel_rfl
 c167 := by kernel_rfl
 c168 := by kernel_rfl
 c171 := by kernel_rfl
 c173 := by kernel_rfl
 c175 := by kernel_rfl
 c210 := by kernel_rfl
 c212 := by kernel_rfl
 c213 := by kernel_rfl
 c232 := by kernel_rfl
 c233 := by kernel_rfl }
open Go.RowKit in
theorem Tryz.strconv_Atoi_ok (s : ByteArray) (hmax : s.size ≤ 9223372036854775806) (v : Int) (h : Lib.atoiAll s.data.toList = .ok v) (w : World) :
  Calls Tryz.prog 109 #[.string s] w fun e w' => e = .returned (.tuple #[.int .i64 v, .nilIface]) ∧ (w' = w ∨ ∃ t, w' = Lib.bytesWorld w 5 t) := Any.strconv_Atoi_ok Tryz.laysC172 s hmax v h w
open Go.RowKit in
theorem Tryz.strconv_Atoi_syntax_var (s : ByteArray) (hlim : s.size ≤ 281474976710656) (h : Lib.atoiAll s.data.toList = Lib.NumEnd.ofOption none) (tp : TypeId) (p : Value) (w : World) (hvar : w.var? Tryz.prog "strconv.ErrSyntax" = some #[.iface tp p]) :
  Calls Tryz.prog 109 #[.string s] w fun e w' => ∃ N, e = .returned (.tuple #[.int .i64 0, .iface 226 (.pointer (some ⟨N, 0, none⟩))]) ∧ w.heap.size ≤ N ∧ w'.heap[N]? = some (.cells #[.string ⟨#[65, 116, 111, 105]⟩, .string s, .iface tp p] 257 (0, 0)) ∧ Below w.heap.size w w' := Any.strconv_Atoi_syntax_var Tryz.laysC172 s hlim h tp p w hvar
open Go.RowKit in
theorem Tryz.strconv_Atoi_range_var (s : ByteArray) (hlim : s.size ≤ 281474976710656) (h : Lib.atoiAll s.data.toList = .range) (tp : TypeId) (p : Value) (w : World) (hvar : w.var? Tryz.prog "strconv.ErrRange" = some #[.iface tp p]) :
  Calls Tryz.prog 109 #[.string s] w fun e w' => ∃ N, e = .returned (.tuple #[.int .i64 (Lib.atoiSat s.data.toList), .iface 226 (.pointer (some ⟨N, 0, none⟩))]) ∧ w.heap.size ≤ N ∧ w'.heap[N]? = some (.cells #[.string ⟨#[65, 116, 111, 105]⟩, .string s, .iface tp p] 257 (0, 0)) ∧ Below w.heap.size w w' := Any.strconv_Atoi_range_var Tryz.laysC172 s hlim h tp p w hvar
def Tryz.lays145_ren : Go.Shelf.Ren := ⟨fun | 145 => 108 | 220 => 141 | 219 => 140 | 217 => 171 | 225 => 172 | 224 => 173 | 267 => 174 | 266 => 197 | 314 => 198 | n => n, fun | 9 => 9 | 4 => 4 | 59 => 165 | 3 => 3 | 5 => 5 | 46 => 93 | 146 => 250 | 51 => 156 | n => n, fun | 1 => 0 | n => n⟩
theorem Tryz.lays145 : Go.Proofs.Lays.n145 Tryz.prog Tryz.lays145_ren := {
 mixed := by kernel_rfl
 f145 := Tryz.func108.trans (congrArg some (by kernel_rfl))
 f217 := Tryz.func171.trans (congrArg some (by kernel_rfl))
 f219 := Tryz.func140.trans (congrArg some (by kernel_rfl))
 f220 := Tryz.func141.trans (congrArg some (by kernel_rfl))
 f224 := Tryz.func173.trans (congrArg some (by kernel_rfl))
 f225 := Tryz.func172.trans (congrArg some (by kernel_rfl))
 f266 := Tryz.func197.trans (congrArg some (by kernel_rfl))
 f267 := Tryz.func174.trans (congrArg some (by kernel_rfl))
 f314 := Tryz.func198.trans (congrArg some (by kernel_rfl))
 t3 := Tryz.underlying3
 a3 := Tryz.isAgg3
 z3 := Tryz.sizeOf3
 v3 := Tryz.zeroValue3
 t4 := Tryz.underlying4
 a4 := Tryz.isAgg4
 z4 := Tryz.sizeOf4
 v4 := Tryz.zeroValue4
 t5 := Tryz.underlying5
 a5 := Tryz.isAgg5
 z5 := Tryz.sizeOf5
 v5 := Tryz.zeroValue5
 t9 := Tryz.underlying9
 a9 := Tryz.isAgg9
 z9 := Tryz.sizeOf9
 v9 := Tryz.zeroValue9
 t46 := Tryz.underlying93
 a46 := Tryz.isAgg93
 z46 := Tryz.sizeOf93
 v46 := Tryz.zeroValue93
 t51 := Tryz.underlying156
 a51 := Tryz.isAgg156
 z51 := Tryz.sizeOf156
 v51 := Tryz.zeroValue156
 t59 := Tryz.underlying165
 a59 := Tryz.isAgg165
 z59 := Tryz.sizeOf165
 v59 := Tryz.zeroValue165
 t146 := Tryz.underlying250
 a146 := Tryz.isAgg250
 z146 := Tryz.sizeOf250
 v146 := Tryz.zeroValue250
 g1 := by kernel_rfl }
open Go.RowKit Go.Lib in
theorem Tryz.strings_Cut (s sep : ByteArray) (m : Int) (w : World) (hs : s.size < 4294967281) (hm : w.cell? ⟨0, 0, none⟩ = some (.int .i64 m)) :
  Calls Tryz.prog 108 #[.string s, .string sep] w fun e w' => e = .returned (.tuple #[.string ⟨(Lib.cut s.data.toList sep.data.toList).1.toArray⟩, .string ⟨(Lib.cut s.data.toList sep.data.toList).2.1.toArray⟩, .bool (Lib.cut s.data.toList sep.data.toList).2.2]) ∧ ∃ n, w' = w.drewN n := Any.strings_Cut Tryz.lays145 s sep m w hs hm
def Tryz.lays102_ren : Go.Shelf.Ren := ⟨fun | 102 => 42 | 209 => 74 | 207 => 107 | n => n, fun | 9 => 9 | 4 => 4 | 3 => 3 | n => n, fun | n => n⟩
theorem Tryz.lays102 : Go.Proofs.Lays.n102 Tryz.prog Tryz.lays102_ren := {
 mixed := by kernel_rfl
 f102 := Tryz.func42.trans (congrArg some (by kernel_rfl))
 f207 := Tryz.func107.trans (congrArg some (by kernel_rfl))
 f209 := Tryz.func74.trans (congrArg some (by kernel_rfl))
 t3 := Tryz.underlying3
 a3 := Tryz.isAgg3
 z3 := Tryz.sizeOf3
 v3 := Tryz.zeroValue3
 t4 := Tryz.underlying4
 a4 := Tryz.isAgg4
 z4 := Tryz.sizeOf4
 v4 := Tryz.zeroValue4
 t9 := Tryz.underlying9
 a9 := Tryz.isAgg9
 z9 := Tryz.sizeOf9
 v9 := Tryz.zeroValue9 }
open Go.RowKit Go.Lib in
theorem Tryz.strings_TrimSuffix (s p : ByteArray) (w : World) (hs : s.size ≤ 9223372036854775807) :
  Calls Tryz.prog 42 #[.string s, .string p] w fun e w' => e = .returned (.string ⟨(Lib.trimSuffix s.data.toList p.data.toList).toArray⟩) ∧ w' = w := Any.strings_TrimSuffix Tryz.lays102 s p w hs
def Tryz.lays146_ren : Go.Shelf.Ren := ⟨fun | 146 => 41 | 221 => 73 | 268 => 104 | 138 => 105 | 143 => 106 | 195 => 137 | 197 => 138 | 218 => 139 | 219 => 140 | 260 => 170 | 217 => 171 | 225 => 172 | 224 => 173 | 267 => 174 | 266 => 197 | 314 => 198 | n => n, fun | 9 => 9 | 31 => 102 | 3 => 3 | 4 => 4 | 0 => 0 | 105 => 198 | 21 => 21 | 5 => 5 | 46 => 93 | 119 => 246 | 139 => 249 | 138 => 248 | 146 => 250 | 51 => 156 | n => n, fun | 1 => 0 | 3 => 1 | 4 => 2 | n => n⟩
theorem Tryz.lays146 : Go.Proofs.Lays.n146 Tryz.prog Tryz.lays146_ren := {
 mixed := by kernel_rfl
 f138 := Tryz.func105.trans (congrArg some (by kernel_rfl))
 f143 := Tryz.func106.trans (congrArg some (by kernel_rfl))
 f146 := Tryz.func41.trans (congrArg some (by kernel_rfl))
 f195 := Tryz.func137.trans (congrArg some (by kernel_rfl))
 f197 := Tryz.func138.trans (congrArg some (by kernel_rfl))
 f217 := Tryz.func171.trans (congrArg some (by kernel_rfl))
 f218 := Tryz.func139.trans (congrArg some (by kernel_rfl))
 f219 := Tryz.func140.trans (congrArg some (by kernel_rfl))
 f221 := Tryz.func73.trans (congrArg some (by kernel_rfl))
 f224 := Tryz.func173.trans (congrArg some (by kernel_rfl))
 f225 := Tryz.func172.trans (congrArg some (by kernel_rfl))
 f260 := Tryz.func170.trans (congrArg some (by kernel_rfl))
 f266 := Tryz.func197.trans (congrArg some (by kernel_rfl))
 f267 := Tryz.func174.trans (congrArg some (by kernel_rfl))
 f268 := Tryz.func104.trans (congrArg some (by kernel_rfl))
 f314 := Tryz.func198.trans (congrArg some (by kernel_rfl))
 t0 := Tryz.underlying0
 a0 := Tryz.isAgg0
 z0 := Tryz.sizeOf0
 v0 := Tryz.zeroValue0
 t3 := Tryz.underlying3
 a3 := Tryz.isAgg3
 z3 := Tryz.sizeOf3
 v3 := Tryz.zeroValue3
 t4 := Tryz.underlying4
 a4 := Tryz.isAgg4
 z4 := Tryz.sizeOf4
 v4 := Tryz.zeroValue4
 t5 := Tryz.underlying5
 a5 := Tryz.isAgg5
 z5 := Tryz.sizeOf5
 v5 := Tryz.zeroValue5
 t9 := Tryz.underlying9
 a9 := Tryz.isAgg9
 z9 := Tryz.sizeOf9
 v9 := Tryz.zeroValue9
 t21 := Tryz.underlying21
 a21 := Tryz.isAgg21
 z21 := Tryz.sizeOf21
 v21 := Tryz.zeroValue21
 t31 := Tryz.underlying102
 a31 := Tryz.isAgg102
 z31 := Tryz.sizeOf102
 v31 := Tryz.zeroValue102
 t46 := Tryz.underlying93
 a46 := Tryz.isAgg93
 z46 := Tryz.sizeOf93
 v46 := Tryz.zeroValue93
 t51 := Tryz.underlying156
 a51 := Tryz.isAgg156
 z51 := Tryz.sizeOf156
 v51 := Tryz.zeroValue156
 t105 := Tryz.underlying198
 a105 := Tryz.isAgg198
 z105 := Tryz.sizeOf198
 v105 := Tryz.zeroValue198
 t119 := Tryz.underlying246
 a119 := Tryz.isAgg246
 z119 := Tryz.sizeOf246
 t138 := Tryz.underlying248
 a138 := Tryz.isAgg248
 z138 := Tryz.sizeOf248
 v138 := Tryz.zeroValue248
 t139 := Tryz.underlying249
 a139 := Tryz.isAgg249
 z139 := Tryz.sizeOf249
 v139 := Tryz.zeroValue249
 t146 := Tryz.underlying250
 a146 := Tryz.isAgg250
 z146 := Tryz.sizeOf250
 v146 := Tryz.zeroValue250
 g1 := by kernel_rfl
 g3 := by kernel_rfl
 g4 := by kernel_rfl }
open Go.RowKit Go.Lib in
theorem Tryz.strings_Split (s sep : ByteArray) (m : Int) (w : World) (hs : s.size < 4294967281) (hm : w.cell? ⟨0, 0, none⟩ = some (.int .i64 m)) (h1 : 1 ≤ sep.size) :
  Calls Tryz.prog 41 #[.string s, .string sep] w fun e w' =>
   e = .returned (.slice (some ⟨w.heap.size, 0, none⟩) (Lib.countB s sep + 1) (Lib.countB s sep + 1)) ∧ w' = w.alloc (.cells ((Lib.splitB sep 0 (Lib.countB s sep) s).map Value.string).toArray 9) := Any.strings_Split Tryz.lays146 (by kernel_rfl) s sep m w hs hm h1
end
end Go.Proofs
end
