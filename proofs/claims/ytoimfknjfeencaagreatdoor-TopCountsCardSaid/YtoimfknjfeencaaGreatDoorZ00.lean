/- Part of the walk of a law of the top, and what it leans on (Model, Inv, Keep). No conditions beyond those that each lemma names. -/

set_option linter.unusedVariables false
set_option linter.unusedSimpArgs false
set_option maxHeartbeats 8000000
set_option maxRecDepth 100000
section
namespace Go.Proofs.YtoimfknjfeencaaGreatDoor.M
structure Act where
 kind : Int
 n : Int
structure Gor where
 state : Int
 permit : Bool
structure Own where
 since : Int
 starving : Bool
 awake : Bool
 rounds : Int
 old : Int
structure Tick where
 next : Int
 serve : Int
structure Mutex where
 word : Int
 line : Tick
structure Client where
 gor : Gor
 act : Int
 pc : Int
 worked : Int
 ticket : Int
 first : Bool
 told : Bool
 own : Own
structure PC where
 prog : List Act
 c : Client
structure Sem where
 count : Int
 line : List Nat
structure Event where
 who : Int
 kind : Int
 mutex : Int
structure W where
 now : Int
 cl : List PC
 mu : List Mutex
 sem : List Sem
 stop : Int
instance : Inhabited Act := ⟨⟨0, 0⟩⟩
instance : Inhabited Mutex := ⟨⟨0, ⟨0, 0⟩⟩⟩
instance : Inhabited Sem := ⟨⟨0, []⟩⟩
def fresh : Own := ⟨-1, false, false, 0, 0⟩
def firstC (g : Gor) (act : Int) : Client := ⟨g, act, 0, 0, 0, false, false, fresh⟩
def PC.cur (z : PC) : Act := z.prog.getD z.c.act.toNat default
def lk (w : Int) : Bool := w % 2 == 1
def wk (w : Int) : Bool := w / 2 % 2 == 1
def sv (w : Int) : Bool := w / 4 % 2 == 1
def b2i (b : Bool) : Int := if b then 1 else 0
def wants (o : Own) : Int :=
 b2i (lk o.old || !sv o.old) + 2 * b2i (wk o.old && !o.awake) + 4 * b2i (sv o.old || (o.starving && lk o.old)) + 8 * (o.old / 8 + b2i (lk o.old || sv o.old))
structure Res where
 c : Client
 x : Mutex
 s : Sem
 over : Bool
 ev : Option Int
 wake : Option Nat
 stop : Int
def runs (l : List PC) : Nat := l.countP fun z => z.c.gor.state == 0
def see (c : Client) (x : Mutex) (pc : Int) : Client := { c with own := { c.own with old := x.word }, pc := pc }
def lockR (c : Client) (x : Mutex) (s : Sem) : Res :=
 if x.word = 0 then ⟨c, { x with word := 1 }, s, true, some 0, none, 0⟩ else ⟨{ c with pc := 1 }, x, s, false, none, none, 0⟩
def loadR (c : Client) (x : Mutex) (s : Sem) : Res := ⟨see c x 2, x, s, false, none, none, 0⟩
def spins (o : Own) (run : Nat) : Bool := decide (o.rounds < 4) && decide (1 < run) && lk o.old && !sv o.old
def roundR (c : Client) (x : Mutex) (s : Sem) : Res :=
 if !c.own.awake && !wk c.own.old && decide (0 < c.own.old / 8) && decide (x.word = c.own.old) then
  ⟨{ c with own := { c.own with awake := true, rounds := c.own.rounds + 1 }, pc := 1 }, { x with word := x.word + 2 }, s, false, none, none, 0⟩
 else ⟨{ c with own := { c.own with rounds := c.own.rounds + 1 }, pc := 1 }, x, s, false, none, none, 0⟩
def wantR (run : Nat) (now : Int) (c : Client) (x : Mutex) (s : Sem) : Res :=
 if spins c.own run then roundR c x s
 else if x.word ≠ c.own.old then ⟨{ c with pc := 1 }, x, s, false, none, none, 0⟩
 else if !lk c.own.old && !sv c.own.old then ⟨c, { x with word := wants c.own }, s, true, some 0, none, 0⟩
 else ⟨{ c with own := { c.own with since := if c.own.since = -1 then now else c.own.since }, first := decide (c.own.since ≠ -1), pc := 3 }, { x with word := wants c.own }, s, false, none, none, 0⟩
def drawR (c : Client) (x : Mutex) (s : Sem) : Res :=
 ⟨{ c with ticket := x.line.next, pc := c.pc + 1 }, { x with line := { x.line with next := (x.line.next + 1) % 4294967296 } }, s, false, none, none, 0⟩
def turnR (c : Client) (x : Mutex) (s : Sem) : Res := ⟨if c.ticket = x.line.serve then { c with pc := c.pc + 1 } else c, x, s, false, none, none, 0⟩
def served (x : Mutex) : Mutex := { x with line := { x.line with serve := (x.line.serve + 1) % 4294967296 } }
def askR (i : Nat) (c : Client) (x : Mutex) (s : Sem) : Res :=
 if 0 < s.count then ⟨{ c with told := true, pc := 6 }, x, { s with count := s.count - 1 }, false, none, none, 0⟩
 else ⟨{ c with told := false, pc := 6 }, x, { s with line := if c.first then i :: s.line else s.line ++ [i] }, false, none, none, 0⟩
def restR (c : Client) (x : Mutex) (s : Sem) : Res :=
 ⟨{ c with gor := if c.told then c.gor else ⟨1, false⟩, pc := 7 }, served x, s, false, none, none, 0⟩
def late (now : Int) (o : Own) : Bool := decide (o.since ≠ -1) && decide (1000000 < now - o.since)
def wakeR (now : Int) (c : Client) (x : Mutex) (s : Sem) : Res :=
 if sv x.word then ⟨{ c with own := { c.own with starving := c.own.starving || late now c.own, old := x.word }, pc := 8 }, x, s, false, none, none, 0⟩
 else ⟨{ c with own := { c.own with starving := c.own.starving || late now c.own, awake := true, rounds := 0, old := x.word }, pc := 2 }, x, s, false, none, none, 0⟩
def handed (o : Own) : Int := if !o.starving || decide (o.old / 8 = 1) then -11 else -7
def takeR (c : Client) (x : Mutex) (s : Sem) : Res := ⟨c, { x with word := x.word + handed c.own }, s, true, some 0, none, 0⟩
def tryR (c : Client) (x : Mutex) (s : Sem) : Res :=
 if lk x.word || sv x.word then ⟨c, x, s, true, some 2, none, 0⟩ else ⟨see c x 9, x, s, false, none, none, 0⟩
def triedR (c : Client) (x : Mutex) (s : Sem) : Res :=
 if x.word = c.own.old then ⟨c, { x with word := x.word + 1 }, s, true, some 1, none, 0⟩ else ⟨c, x, s, true, some 2, none, 0⟩
def unlockR (c : Client) (x : Mutex) (s : Sem) : Res :=
 if !lk x.word then ⟨c, x, s, false, some 4, none, 11⟩
 else if x.word = 1 then ⟨c, { x with word := 0 }, s, true, some 3, none, 0⟩
 else if sv x.word then ⟨{ c with pc := 12 }, { x with word := x.word - 1 }, s, false, some 3, none, 0⟩
 else ⟨see c { x with word := x.word - 1 } 10, { x with word := x.word - 1 }, s, false, some 3, none, 0⟩
def giveR (c : Client) (x : Mutex) (s : Sem) : Res :=
 if decide (c.own.old / 8 = 0) || lk c.own.old || wk c.own.old || sv c.own.old then ⟨c, x, s, true, none, none, 0⟩
 else if x.word = c.own.old then ⟨{ c with pc := 12 }, { x with word := x.word - 6 }, s, false, none, none, 0⟩
 else ⟨{ c with pc := 11 }, x, s, false, none, none, 0⟩
def grantR (c : Client) (x : Mutex) (s : Sem) : Res :=
 match s.line with
 | [] => ⟨{ c with pc := 15 }, x, { s with count := s.count + 1 }, false, none, none, 0⟩
 | j :: r => ⟨{ c with pc := 15 }, x, { s with line := r }, false, none, some j, 0⟩
def servedR (c : Client) (x : Mutex) (s : Sem) : Res := ⟨c, served x, s, true, none, none, 0⟩
def atR (run : Nat) (now : Int) (i : Nat) (kind : Int) (c : Client) (x : Mutex) (s : Sem) : Res :=
 if c.pc = 0 then (if kind = 0 then lockR c x s else if kind = 1 then tryR c x s else unlockR c x s)
 else if c.pc = 1 then loadR c x s
 else if c.pc = 2 then wantR run now c x s
 else if c.pc = 3 then drawR c x s
 else if c.pc = 4 then turnR c x s
 else if c.pc = 5 then askR i c x s
 else if c.pc = 6 then restR c x s
 else if c.pc = 7 then wakeR now c x s
 else if c.pc = 8 then takeR c x s
 else if c.pc = 9 then triedR c x s
 else if c.pc = 10 then giveR c x s
 else if c.pc = 11 then ⟨see c x 10, x, s, false, none, none, 0⟩
 else if c.pc = 12 then drawR c x s
 else if c.pc = 13 then turnR c x s
 else if c.pc = 14 then grantR c x s
 else servedR c x s
def next (p : List Act) (c : Client) : Client := firstC (if c.act + 1 = p.length then ⟨2, false⟩ else c.gor) (c.act + 1)
def fin (p : List Act) (c : Client) (over : Bool) : Client := if over then next p c else c
def ready (z : PC) : PC := { z with c := { z.c with gor := ⟨0, false⟩ } }
def wake (l : List PC) : Option Nat → List PC
 | none => l
 | some j => match l[j]? with
  | none => l
  | some z => l.set j (ready z)
def stepAt (w : W) (i : Nat) (z : PC) : W × List Event :=
 let a := z.cur
 if a.kind = 3 then
  ({ w with cl := w.cl.set i ⟨z.prog, fin z.prog { z.c with worked := z.c.worked + 1 } (decide (a.n ≤ z.c.worked + 1))⟩ }, [])
 else
  let m := a.n.toNat
  let r := atR (runs w.cl) w.now i a.kind z.c (w.mu.getD m default) (w.sem.getD m default)
  ({ w with cl := (wake w.cl r.wake).set i ⟨z.prog, fin z.prog r.c r.over⟩, mu := w.mu.set m r.x, sem := w.sem.set m r.s, stop := r.stop }, match r.ev with | none => [] | some k => [⟨i, k, a.n⟩])
def step (w : W) (who : Int) : W × List Event :=
 if w.stop ≠ 0 ∨ who < 0 then (w, []) else
 match w.cl[who.toNat]? with
 | none => (w, [])
 | some z => if z.c.gor.state ≠ 0 then (w, []) else stepAt w who.toNat z
def tick (w : W) (d : Int) : W := if w.stop ≠ 0 ∨ 4611686018427387904 - w.now < d then w else { w with now := w.now + d }
def new (l : List (List Act)) : W :=
 ⟨0, l.map fun p => ⟨p, firstC ⟨if p.length = 0 then 2 else 0, false⟩ 0⟩, List.replicate 4 ⟨0, ⟨0, 0⟩⟩, List.replicate 4 ⟨0, []⟩, 0⟩
end Go.Proofs.YtoimfknjfeencaaGreatDoor.M
end
section
namespace Go.Proofs.YtoimfknjfeencaaGreatDoor.M
theorem b2i_lo (b : Bool) : 0 ≤ b2i b := by cases b <;> decide
theorem b2i_hi (b : Bool) : b2i b ≤ 1 := by cases b <;> decide
theorem b2i_t : b2i true = 1 := rfl
theorem b2i_f : b2i false = 0 := rfl
def cnt (f : PC → Bool) : List PC → Int
 | [] => 0
 | z :: r => b2i (f z) + cnt f r
theorem cnt_lo (f : PC → Bool) : ∀ l, 0 ≤ cnt f l
 | [] => Int.le_refl _
 | z :: r => by
  have := cnt_lo f r
  have := b2i_lo (f z)
  simp only [cnt]
  omega
theorem cnt_hi (f : PC → Bool) : ∀ l : List PC, cnt f l ≤ (l.length : Int)
 | [] => Int.le_refl _
 | z :: r => by
  have := cnt_hi f r
  have := b2i_hi (f z)
  simp only [cnt, List.length_cons]
  omega
theorem cnt_set (f : PC → Bool) (x : PC) : ∀ (l : List PC) (i : Nat) (z : PC), l[i]? = some z → cnt f (l.set i x) = cnt f l - b2i (f z) + b2i (f x)
 | [], i, z, h => by simp at h
 | y :: r, 0, z, h => by
  simp only [List.getElem?_cons_zero, Option.some.injEq] at h
  subst h
  simp only [List.set_cons_zero, cnt]
  omega
 | y :: r, i + 1, z, h => by
  simp only [List.getElem?_cons_succ] at h
  have := cnt_set f x r i z h
  simp only [List.set_cons_succ, cnt]
  omega
theorem cnt_one (f : PC → Bool) : ∀ (l : List PC) (i : Nat) (z : PC), l[i]? = some z → f z = true → 1 ≤ cnt f l
 | [], i, z, h, _ => by simp at h
 | y :: r, 0, z, h, hf => by
  simp only [List.getElem?_cons_zero, Option.some.injEq] at h
  subst h
  have := cnt_lo f r
  simp only [cnt, hf, b2i_t]
  omega
 | y :: r, i + 1, z, h, hf => by
  simp only [List.getElem?_cons_succ] at h
  have := cnt_one f r i z h hf
  have := b2i_lo (f y)
  simp only [cnt]
  omega
theorem set_at (l : List PC) (i k : Nat) (x y : PC) (h : (l.set i x)[k]? = some y) : (k = i ∧ y = x) ∨ (k ≠ i ∧ l[k]? = some y) := by
 rw [List.getElem?_set] at h
 by_cases e : i = k
 ·rw [if_pos e] at h
  split at h
  ·exact .inl ⟨e.symm, (Option.some.inj h).symm⟩
  ·simp at h
 ·rw [if_neg e] at h
  exact .inr ⟨fun q => e q.symm, h⟩
theorem set_same (l : List PC) (i : Nat) (x z : PC) (h : l[i]? = some z) : (l.set i x)[i]? = some x := by
 rw [List.getElem?_set, if_pos rfl, if_pos (by obtain ⟨q, _⟩ := List.getElem?_eq_some_iff.1 h; exact q)]
theorem set_else (l : List PC) (i k : Nat) (x : PC) (h : k ≠ i) : (l.set i x)[k]? = l[k]? := by
 rw [List.getElem?_set, if_neg (fun e => h e.symm)]
def mx (m : Int) (z : PC) : Bool := decide (z.c.act < z.prog.length) && !(z.cur.kind == 3) && (z.cur.n == m)
def isOut (m : Int) (z : PC) : Bool := mx m z && (z.c.pc == 4 || z.c.pc == 5 || z.c.pc == 6 || z.c.pc == 13 || z.c.pc == 14 || z.c.pc == 15)
def isCrit (m : Int) (z : PC) : Bool := mx m z && (z.c.pc == 5 || z.c.pc == 6 || z.c.pc == 14 || z.c.pc == 15)
def isR (m : Int) (z : PC) : Bool := mx m z && (z.c.pc == 3 || z.c.pc == 4 || z.c.pc == 5 || z.c.pc == 6 || z.c.pc == 7 || z.c.pc == 8)
def isP (m : Int) (z : PC) : Bool := mx m z && (z.c.pc == 12 || z.c.pc == 13 || z.c.pc == 14)
def isD (m : Int) (z : PC) : Bool := mx m z && ((z.c.pc == 6 && z.c.told) || (z.c.pc == 7 && z.c.gor.state == 0))
def isH (m : Int) (z : PC) : Bool := mx m z && z.c.pc == 8
def isA (m : Int) (z : PC) : Bool := mx m z && ((z.c.pc == 1 || z.c.pc == 2) && z.c.own.awake)
def isL (m : Int) (z : PC) : Bool := mx m z && ((z.c.pc == 6 && !z.c.told) || (z.c.pc == 7 && z.c.gor.state == 1))
structure Same (m : Int) (z y : PC) : Prop where
 out : isOut m y = isOut m z
 crit : isCrit m y = isCrit m z
 r : isR m y = isR m z
 p : isP m y = isP m z
 d : isD m y = isD m z
 h : isH m y = isH m z
 a : isA m y = isA m z
 l : isL m y = isL m z
 tk : isOut m y = true → y.c.ticket = z.c.ticket
structure None_ (m : Int) (z : PC) : Prop where
 out : isOut m z = false
 crit : isCrit m z = false
 r : isR m z = false
 p : isP m z = false
 d : isD m z = false
 h : isH m z = false
 a : isA m z = false
 l : isL m z = false
theorem None_.of_mx {m : Int} {z : PC} (h : mx m z = false) : None_ m z := by
 constructor <;> simp [isOut, isCrit, isR, isP, isD, isH, isA, isL, h]
theorem None_.of_pc {m : Int} {z : PC} (h : z.c.pc = 0) : None_ m z := by
 constructor <;> simp [isOut, isCrit, isR, isP, isD, isH, isA, isL, h]
theorem None_.same {m : Int} {z y : PC} (hz : None_ m z) (hy : None_ m y) : Same m z y :=
 ⟨by rw [hz.out, hy.out], by rw [hz.crit, hy.crit], by rw [hz.r, hy.r], by rw [hz.p, hy.p], by rw [hz.d, hy.d], by rw [hz.h, hy.h], by rw [hz.a, hy.a], by rw [hz.l, hy.l], fun h => by rw [hy.out] at h; cases h⟩
structure WordInv (w K A H R : Int) : Prop where
 lo : 0 ≤ w
 st : w / 4 % 2 = 1 → w / 2 % 2 = 0
 hand : w / 4 % 2 = 1 → w % 2 = 0 → K + H ≤ 1 ∧ A = 0 ∧ w / 8 = R
 free : ¬ (w / 4 % 2 = 1 ∧ w % 2 = 0) → H = 0 ∧ K + A ≤ w / 2 % 2 ∧ w / 8 = R - K
structure TickInv (m : Int) (t : Tick) (cl : List PC) : Prop where
 n0 : 0 ≤ t.next
 n1 : t.next < 4294967296
 s0 : 0 ≤ t.serve
 s1 : t.serve < 4294967296
 out : cnt (isOut m) cl = (t.next - t.serve) % 4294967296
 tic : ∀ (k : Nat) (y : PC), cl[k]? = some y → isOut m y = true → 0 ≤ y.c.ticket ∧ y.c.ticket < 4294967296 ∧ (y.c.ticket - t.serve) % 4294967296 < cnt (isOut m) cl
 uni : ∀ (k j : Nat) (y x : PC), cl[k]? = some y → cl[j]? = some x → isOut m y = true → isOut m x = true → y.c.ticket = x.c.ticket → k = j
 crit : ∀ (k : Nat) (y : PC), cl[k]? = some y → isCrit m y = true → y.c.ticket = t.serve
structure LineInv (m : Int) (s : Sem) (cl : List PC) : Prop where
 c0 : 0 ≤ s.count
 none_ : s.count = 0 ∨ s.line = []
 nodup : s.line.Nodup
 mem : ∀ k : Nat, k ∈ s.line ↔ ∃ y, cl[k]? = some y ∧ isL m y = true
structure MInv (m : Int) (x : Mutex) (s : Sem) (cl : List PC) : Prop where
 word : WordInv x.word (cnt (isP m) cl + s.count + cnt (isD m) cl) (cnt (isA m) cl) (cnt (isH m) cl) (cnt (isR m) cl)
 tick : TickInv m x.line cl
 line : LineInv m s cl
theorem crit_out {m : Int} {z : PC} (h : isCrit m z = true) : isOut m z = true := by
 unfold isCrit isOut at *
 simp only [Bool.and_eq_true, Bool.or_eq_true, beq_iff_eq] at h ⊢
 refine ⟨h.1, ?_⟩
 omega
theorem TickInv.keep {m : Int} {t : Tick} {cl : List PC} (h : TickInv m t cl) {i : Nat} {z y : PC} (hz : cl[i]? = some z) (ho : isOut m y = isOut m z) (hc : isCrit m y = true → isCrit m z = true ∨ y.c.ticket = t.serve) (ht : isOut m y = true → y.c.ticket = z.c.ticket) : TickInv m t (cl.set i y) := by
 have hcnt : cnt (isOut m) (cl.set i y) = cnt (isOut m) cl := by rw [cnt_set _ _ _ _ _ hz, ho]; omega
 refine ⟨h.n0, h.n1, h.s0, h.s1, by rw [hcnt]; exact h.out, ?_, ?_, ?_⟩
 ·intro k q hk hq
  rw [hcnt]
  rcases set_at _ _ _ _ _ hk with ⟨rfl, rfl⟩ | ⟨_, hk2⟩
  ·rw [ht hq]
   exact h.tic k z hz (by rw [← ho]; exact hq)
  ·exact h.tic k q hk2 hq
 ·intro k j q x hk hj hq hx he
  rcases set_at _ _ _ _ _ hk with ⟨rfl, rfl⟩ | ⟨_, hk2⟩
  ·rcases set_at _ _ _ _ _ hj with ⟨rfl, rfl⟩ | ⟨_, hj2⟩
   ·rfl
   ·exact h.uni _ _ _ _ hz hj2 (by rw [← ho]; exact hq) hx (by rw [← ht hq]; exact he)
  ·rcases set_at _ _ _ _ _ hj with ⟨rfl, rfl⟩ | ⟨_, hj2⟩
   ·exact h.uni _ _ _ _ hk2 hz hq (by rw [← ho]; exact hx) (by rw [← ht hx]; exact he)
   ·exact h.uni _ _ _ _ hk2 hj2 hq hx he
 ·intro k q hk hq
  rcases set_at _ _ _ _ _ hk with ⟨rfl, rfl⟩ | ⟨_, hk2⟩
  ·rcases hc hq with hc | hc
   ·rw [ht (crit_out hq)]
    exact h.crit _ _ hz hc
   ·exact hc
  ·exact h.crit _ _ hk2 hq
theorem TickInv.same {m : Int} {t : Tick} {cl : List PC} (h : TickInv m t cl) {i : Nat} {z y : PC} (hz : cl[i]? = some z) (hs : Same m z y) : TickInv m t (cl.set i y) :=
 h.keep hz hs.out (fun q => .inl (by rw [← hs.crit]; exact q)) hs.tk
theorem TickInv.draw {m : Int} {t : Tick} {cl : List PC} (h : TickInv m t cl) (hl : cl.length ≤ 8) {i : Nat} {z y : PC} (hz : cl[i]? = some z) (h0 : isOut m z = false) (h1 : isOut m y = true) (hc : isCrit m y = false) (ht : y.c.ticket = t.next) :
  TickInv m ⟨(t.next + 1) % 4294967296, t.serve⟩ (cl.set i y) := by
 have hcnt : cnt (isOut m) (cl.set i y) = cnt (isOut m) cl + 1 := by rw [cnt_set _ _ _ _ _ hz, h0, h1, b2i_t, b2i_f]; omega
 have hb := cnt_hi (isOut m) (cl.set i y)
 have hn := cnt_lo (isOut m) cl
 have ho := h.out
 have n0 := h.n0
 have n1 := h.n1
 have s0 := h.s0
 have s1 := h.s1
 rw [hcnt, List.length_set] at hb
 refine ⟨by simp only; omega, by simp only; omega, s0, s1, by rw [hcnt]; simp only; omega, ?_, ?_, ?_⟩
 ·intro k q hk hq
  rw [hcnt]
  simp only
  rcases set_at _ _ _ _ _ hk with ⟨rfl, rfl⟩ | ⟨_, hk2⟩
  ·rw [ht]
   omega
  ·have := h.tic k q hk2 hq
   omega
 ·intro k j q x hk hj hq hx he
  rcases set_at _ _ _ _ _ hk with ⟨rfl, rfl⟩ | ⟨_, hk2⟩
  ·rcases set_at _ _ _ _ _ hj with ⟨rfl, rfl⟩ | ⟨_, hj2⟩
   ·rfl
   ·have := h.tic _ _ hj2 hx
    rw [ht] at he
    omega
  ·rcases set_at _ _ _ _ _ hj with ⟨rfl, rfl⟩ | ⟨_, hj2⟩
   ·have := h.tic _ _ hk2 hq
    rw [ht] at he
    omega
   ·exact h.uni _ _ _ _ hk2 hj2 hq hx he
 ·intro k q hk hq
  rcases set_at _ _ _ _ _ hk with ⟨rfl, rfl⟩ | ⟨_, hk2⟩
  ·rw [hc] at hq
   cases hq
  ·exact h.crit _ _ hk2 hq
theorem TickInv.done {m : Int} {t : Tick} {cl : List PC} (h : TickInv m t cl) (hl : cl.length ≤ 8) {i : Nat} {z y : PC} (hz : cl[i]? = some z) (h0 : isCrit m z = true) (h1 : isOut m y = false) :
  TickInv m ⟨t.next, (t.serve + 1) % 4294967296⟩ (cl.set i y) := by
 have hcy : isCrit m y = false := by
  cases q : isCrit m y with
  | false => rfl
  | true => rw [crit_out q] at h1; cases h1
 have hcnt : cnt (isOut m) (cl.set i y) = cnt (isOut m) cl - 1 := by rw [cnt_set _ _ _ _ _ hz, crit_out h0, h1, b2i_t, b2i_f]; omega
 have hb := cnt_hi (isOut m) cl
 have hn := cnt_one (isOut m) cl i z hz (crit_out h0)
 have ho := h.out
 have n0 := h.n0
 have n1 := h.n1
 have s0 := h.s0
 have s1 := h.s1
 have ht := h.crit _ _ hz h0
 refine ⟨n0, n1, by simp only; omega, by simp only; omega, by rw [hcnt]; simp only; omega, ?_, ?_, ?_⟩
 ·intro k q hk hq
  rw [hcnt]
  simp only
  rcases set_at _ _ _ _ _ hk with ⟨rfl, rfl⟩ | ⟨hne, hk2⟩
  ·rw [h1] at hq
   cases hq
  ·have := h.tic k q hk2 hq
   have hd : q.c.ticket ≠ z.c.ticket := fun e => hne (h.uni _ _ _ _ hk2 hz hq (crit_out h0) e)
   omega
 ·intro k j q x hk hj hq hx he
  rcases set_at _ _ _ _ _ hk with ⟨rfl, rfl⟩ | ⟨_, hk2⟩
  ·rw [h1] at hq
   cases hq
  ·rcases set_at _ _ _ _ _ hj with ⟨rfl, rfl⟩ | ⟨_, hj2⟩
   ·rw [h1] at hx
    cases hx
   ·exact h.uni _ _ _ _ hk2 hj2 hq hx he
 ·intro k q hk hq
  rcases set_at _ _ _ _ _ hk with ⟨rfl, rfl⟩ | ⟨hne, hk2⟩
  ·rw [hcy] at hq
   cases hq
  ·exact absurd (h.uni _ _ _ _ hk2 hz (crit_out hq) (crit_out h0) (by rw [ht, h.crit _ _ hk2 hq])) hne
theorem LineInv.keep {m : Int} {s : Sem} {cl : List PC} (h : LineInv m s cl) {i : Nat} {z y : PC} (hz : cl[i]? = some z) (hs : isL m y = isL m z) : LineInv m s (cl.set i y) := by
 refine ⟨h.c0, h.none_, h.nodup, fun k => ?_⟩
 rw [h.mem k]
 by_cases e : k = i
 ·subst e
  rw [set_same _ _ _ _ hz]
  constructor
  ·rintro ⟨q, hq, hl⟩
   rw [hz] at hq
   cases hq
   exact ⟨y, rfl, by rw [hs]; exact hl⟩
  ·rintro ⟨q, hq, hl⟩
   cases hq
   exact ⟨z, hz, by rw [← hs]; exact hl⟩
 ·rw [set_else _ _ _ _ e]
theorem LineInv.count {m : Int} {s : Sem} {cl : List PC} (h : LineInv m s cl) (n : Int) (h0 : 0 ≤ n) (h1 : n = 0 ∨ s.line = []) : LineInv m ⟨n, s.line⟩ cl := ⟨h0, h1, h.nodup, h.mem⟩
theorem LineInv.push {m : Int} {s : Sem} {cl : List PC} (h : LineInv m s cl) (hc : ¬ 0 < s.count) {i : Nat} {z y : PC} (hz : cl[i]? = some z) (h0 : isL m z = false) (h1 : isL m y = true) (first : Bool) :
  LineInv m ⟨s.count, if first then i :: s.line else s.line ++ [i]⟩ (cl.set i y) := by
 have hn : i ∉ s.line := fun q => by
  obtain ⟨x, hx, hl⟩ := (h.mem i).1 q
  rw [hz] at hx
  cases hx
  rw [h0] at hl
  cases hl
 refine ⟨h.c0, .inl (by have := h.c0; simp only; omega), ?_, fun k => ?_⟩
 ·cases first with
  | true => exact List.nodup_cons.2 ⟨hn, h.nodup⟩
  | false =>
   show (s.line ++ [i]).Nodup
   rw [List.nodup_append]
   exact ⟨h.nodup, by simp, fun a ha b hb e => by rw [List.mem_singleton.1 hb] at e; exact hn (e ▸ ha)⟩
 ·have hmem : k ∈ (if first then i :: s.line else s.line ++ [i]) ↔ k = i ∨ k ∈ s.line := by
   cases first with
   | true => simp
   | false => simp [or_comm]
  show k ∈ (if first then i :: s.line else s.line ++ [i]) ↔ _
  rw [hmem]
  by_cases e : k = i
  ·subst e
   rw [set_same _ _ _ _ hz]
   simp [h1]
  ·rw [set_else _ _ _ _ e, ← h.mem k]
   simp [e]
theorem LineInv.pop {m : Int} {n : Int} {j : Nat} {r : List Nat} {cl : List PC} (h : LineInv m ⟨n, j :: r⟩ cl) {z y : PC} (hz : cl[j]? = some z) (h1 : isL m y = false) :
  LineInv m ⟨n, r⟩ (cl.set j y) := by
 have hnd := List.nodup_cons.1 h.nodup
 refine ⟨h.c0, .inl (by rcases h.none_ with q | q; exact q; cases q), hnd.2, fun k => ?_⟩
 by_cases e : k = j
 ·subst e
  rw [set_same _ _ _ _ hz]
  constructor
  ·intro q
   exact absurd q hnd.1
  ·rintro ⟨q, hq, hl⟩
   cases hq
   rw [h1] at hl
   cases hl
 ·rw [set_else _ _ _ _ e, ← h.mem k]
  simp [e]
theorem MInv.same {m : Int} {x : Mutex} {s : Sem} {cl : List PC} (h : MInv m x s cl) {i : Nat} {z y : PC} (hz : cl[i]? = some z) (hs : Same m z y) : MInv m x s (cl.set i y) := by
 refine ⟨?_, h.tick.same hz hs, h.line.keep hz hs.l⟩
 have hw := h.word
 rw [cnt_set _ _ _ _ _ hz, cnt_set _ _ _ _ _ hz, cnt_set _ _ _ _ _ hz, cnt_set _ _ _ _ _ hz, cnt_set _ _ _ _ _ hz, hs.p, hs.d, hs.a, hs.h, hs.r]
 have e : ∀ a b : Int, a - b + b = a := fun a b => by omega
 rw [e, e, e, e, e]
 exact hw
end Go.Proofs.YtoimfknjfeencaaGreatDoor.M
end
section
namespace Go.Proofs.YtoimfknjfeencaaGreatDoor.M
structure CInv (z : PC) : Prop where
 a0 : 0 ≤ z.c.act
 a1 : z.c.act ≤ z.prog.length
 done : z.c.act = z.prog.length ↔ z.c.gor.state = 2
 st0 : 0 ≤ z.c.gor.state
 st2 : z.c.gor.state ≤ 2
 permit : z.c.gor.permit = false
 tk0 : 0 ≤ z.c.ticket
 tk1 : z.c.ticket < 4294967296
 since : z.c.own.since = -1 ∨ (0 ≤ z.c.own.since ∧ z.c.own.since ≤ 4611686018427387904)
 rd0 : 0 ≤ z.c.own.rounds
 rd1 : z.c.own.rounds ≤ 4
 old0 : 0 ≤ z.c.own.old
 old1 : z.c.own.old < 80
 wk0 : 0 ≤ z.c.worked
 wk1 : z.c.worked = 0 ∨ (z.c.act < z.prog.length ∧ z.cur.kind = 3 ∧ z.c.worked ≤ z.cur.n - 1)
 pc : z.c.pc = 0 ∨ (z.c.act < z.prog.length ∧ ((z.cur.kind = 0 ∧ 1 ≤ z.c.pc ∧ z.c.pc ≤ 8) ∨ (z.cur.kind = 1 ∧ z.c.pc = 9) ∨ (z.cur.kind = 2 ∧ 10 ≤ z.c.pc ∧ z.c.pc ≤ 15)))
 park : z.c.gor.state = 1 → z.c.pc = 7
 aw : z.c.pc = 1 ∨ z.c.pc = 2 → z.c.own.starving = true → z.c.own.awake = true
 want : z.c.pc = 2 → z.c.own.awake = true → z.c.own.old / 2 % 2 = 1
 hand : z.c.pc = 8 → z.c.own.old / 4 % 2 = 1 ∧ z.c.own.old % 2 = 0 ∧ z.c.own.old / 2 % 2 = 0 ∧ 1 ≤ z.c.own.old / 8
 tried : z.c.pc = 9 → z.c.own.old % 2 = 0 ∧ z.c.own.old / 4 % 2 = 0
 new : z.c.pc = 0 → z.c.own.starving = false ∧ z.c.own.awake = false
theorem cnt_ge (f : PC → Bool) (l : List PC) (i : Nat) (z : PC) (h : l[i]? = some z) : b2i (f z) ≤ cnt f l := by
 cases hf : f z with
 | false => exact cnt_lo f l
 | true => exact cnt_one f l i z h hf
def Turns (m : Int) (z y : PC) (x x' : Mutex) (s s' : Sem) : Prop :=
 ∀ P D A H R : Int, b2i (isP m z) ≤ P → b2i (isD m z) ≤ D → b2i (isA m z) ≤ A → b2i (isH m z) ≤ H → b2i (isR m z) ≤ R → R ≤ 8 → 0 ≤ s.count →
  WordInv x.word (P + s.count + D) A H R →
  WordInv x'.word (P - b2i (isP m z) + b2i (isP m y) + s'.count + (D - b2i (isD m z) + b2i (isD m y))) (A - b2i (isA m z) + b2i (isA m y)) (H - b2i (isH m z) + b2i (isH m y)) (R - b2i (isR m z) + b2i (isR m y))
theorem MInv.turn {m : Int} {x x' : Mutex} {s s' : Sem} {cl : List PC} (h : MInv m x s cl) (hl : cl.length ≤ 8) {i : Nat} {z y : PC} (hz : cl[i]? = some z)
  (hw : Turns m z y x x' s s') (ht : TickInv m x'.line (cl.set i y)) (hln : LineInv m s' (cl.set i y)) : MInv m x' s' (cl.set i y) := by
 refine ⟨?_, ht, hln⟩
 rw [cnt_set _ _ _ _ _ hz, cnt_set _ _ _ _ _ hz, cnt_set _ _ _ _ _ hz, cnt_set _ _ _ _ _ hz, cnt_set _ _ _ _ _ hz]
 have hr := cnt_hi (isR m) cl
 exact hw _ _ _ _ _ (cnt_ge _ _ _ _ hz) (cnt_ge _ _ _ _ hz) (cnt_ge _ _ _ _ hz) (cnt_ge _ _ _ _ hz) (cnt_ge _ _ _ _ hz) (by omega) h.line.c0 h.word
theorem MInv.word_ {m : Int} {x : Mutex} {s : Sem} {cl : List PC} (h : MInv m x s cl) (hl : cl.length ≤ 8) {i : Nat} {z y : PC} (hz : cl[i]? = some z) (v : Int)
  (ho : isOut m z = false) (ho' : isOut m y = false) (hll : isL m y = isL m z) (hw : Turns m z y x ⟨v, x.line⟩ s s) : MInv m ⟨v, x.line⟩ s (cl.set i y) :=
 h.turn hl hz hw (h.tick.keep hz (by rw [ho, ho']) (fun q => by rw [crit_out q] at ho'; cases ho') (fun q => by rw [q] at ho'; cases ho')) (h.line.keep hz hll)
structure At (m : Int) (i : Nat) (z : PC) (x : Mutex) (s : Sem) (cl : List PC) (now : Int) : Prop where
 hz : cl[i]? = some z
 len : cl.length ≤ 8
 mx : mx m z = true
 run : z.c.gor.state = 0
 c : CInv z
 inv : MInv m x s cl
 now0 : 0 ≤ now
 now1 : now ≤ 4611686018427387904
structure Fine (m : Int) (i : Nat) (cl : List PC) (z : PC) (r : Res) : Prop where
 act : r.c.act = z.c.act
 gor : r.over = true → r.c.gor = z.c.gor
 c : r.over = false → CInv ⟨z.prog, r.c⟩
 stop : r.stop = 0 ∨ r.stop = 11
 wake : r.wake = none
 inv : MInv m r.x r.s (cl.set i ⟨z.prog, fin z.prog r.c r.over⟩)
section
variable {m : Int} {i : Nat} {z : PC} {x : Mutex} {s : Sem} {cl : List PC} {now : Int}
theorem At.lt (h : At m i z x s cl now) : z.c.act < z.prog.length := by
 have := h.mx
 simp only [M.mx, Bool.and_eq_true, decide_eq_true_eq] at this
 exact this.1.1
theorem At.word_lo (h : At m i z x s cl now) : 0 ≤ x.word := h.inv.word.lo
theorem At.word_hi (h : At m i z x s cl now) : x.word < 80 := by
 have hr := cnt_hi (isR m) cl
 have hl := h.len
 have hp := cnt_lo (isP m) cl
 have hd := cnt_lo (isD m) cl
 have hc := h.inv.line.c0
 have h1 := h.inv.word.hand
 have h2 := h.inv.word.free
 by_cases q : x.word / 4 % 2 = 1 ∧ x.word % 2 = 0
 ·have := h1 q.1 q.2
  omega
 ·have := h2 q
  omega
theorem CInv.turn {z : PC} (h : CInv z) (c' : Client) (hlt : z.c.act < z.prog.length) (ha : c'.act = z.c.act) (hg : c'.gor.state = 0 ∨ (c'.gor.state = 1 ∧ c'.pc = 7)) (hp : c'.gor.permit = false) (ht : c'.ticket = z.c.ticket ∨ (0 ≤ c'.ticket ∧ c'.ticket < 4294967296)) (hw : c'.worked = z.c.worked)
  (hs : c'.own.since = z.c.own.since ∨ (0 ≤ c'.own.since ∧ c'.own.since ≤ 4611686018427387904)) (hr : 0 ≤ c'.own.rounds ∧ c'.own.rounds ≤ 4) (ho : 0 ≤ c'.own.old ∧ c'.own.old < 80)
  (hpc : (z.cur.kind = 0 ∧ 1 ≤ c'.pc ∧ c'.pc ≤ 8) ∨ (z.cur.kind = 1 ∧ c'.pc = 9) ∨ (z.cur.kind = 2 ∧ 10 ≤ c'.pc ∧ c'.pc ≤ 15))
  (h1 : c'.pc = 1 ∨ c'.pc = 2 → c'.own.starving = true → c'.own.awake = true) (h2 : c'.pc = 2 → c'.own.awake = true → c'.own.old / 2 % 2 = 1)
  (h8 : c'.pc = 8 → c'.own.old / 4 % 2 = 1 ∧ c'.own.old % 2 = 0 ∧ c'.own.old / 2 % 2 = 0 ∧ 1 ≤ c'.own.old / 8) (h9 : c'.pc = 9 → c'.own.old % 2 = 0 ∧ c'.own.old / 4 % 2 = 0) : CInv ⟨z.prog, c'⟩ := by
 have hcur : (⟨z.prog, c'⟩ : PC).cur = z.cur := by unfold PC.cur; simp only [ha]
 have hd : z.c.gor.state ≠ 2 := fun q => by have := h.done.2 q; omega
 refine ⟨by simp only [ha]; exact h.a0, by simp only [ha]; exact h.a1, ?_, by simp only; omega, by simp only; omega, hp, ?_, ?_, ?_, hr.1, hr.2, ho.1, ho.2, by simp only [hw]; exact h.wk0, by simp only [hw, ha, hcur]; exact h.wk1, .inr ⟨by simp only [ha]; exact hlt, by rw [hcur]; exact hpc⟩, ?_, h1, h2, h8, h9, fun q => by simp only at q; omega⟩
 ·simp only [ha]
  constructor
  ·intro q; omega
  ·intro q; omega
 ·simp only
  have := h.tk0
  omega
 ·simp only
  have := h.tk1
  omega
 ·simp only
  rcases hs with q | q
  ·rw [q]; exact h.since
  ·exact .inr q
 ·simp only
  intro q
  omega
theorem CInv.next {z : PC} (h : CInv z) (c' : Client) (hlt : z.c.act < z.prog.length) (ha : c'.act = z.c.act) (hg : c'.gor = z.c.gor) (hr : z.c.gor.state = 0) : CInv ⟨z.prog, next z.prog c'⟩ := by
 unfold M.next firstC
 rw [ha, hg]
 have h0 := h.a0
 have hp := h.permit
 by_cases e : z.c.act + 1 = z.prog.length
 ·rw [if_pos e]
  refine ⟨by simp only; omega, by simp only; omega, by simp [e], by simp [fresh], by simp [fresh], rfl, by simp [fresh], by simp [fresh], .inl rfl, by simp [fresh], by simp [fresh], by simp [fresh], by simp [fresh], by simp [fresh], .inl rfl, .inl rfl, fun q => by simp at q, fun _ q => by simp [fresh] at q, fun q => by simp at q, fun q => by simp at q, fun q => by simp at q, fun _ => ⟨rfl, rfl⟩⟩
 ·rw [if_neg e]
  refine ⟨by simp only; omega, by simp only; omega, ?_, by simp [hr], by simp [hr], hp, by simp, by simp, .inl rfl, by simp [fresh], by simp [fresh], by simp [fresh], by simp [fresh], by simp, .inl rfl, .inl rfl, fun q => by simp [hr] at q, fun _ q => by simp [fresh] at q, fun q => by simp at q, fun q => by simp at q, fun q => by simp at q, fun _ => ⟨rfl, rfl⟩⟩
  simp [hr, e]
theorem next_none (p : List Act) (c : Client) (m : Int) : None_ m ⟨p, next p c⟩ := None_.of_pc rfl
theorem cls (h : mx m z = true) : isOut m z = (z.c.pc == 4 || z.c.pc == 5 || z.c.pc == 6 || z.c.pc == 13 || z.c.pc == 14 || z.c.pc == 15) ∧ isCrit m z = (z.c.pc == 5 || z.c.pc == 6 || z.c.pc == 14 || z.c.pc == 15) ∧
  isR m z = (z.c.pc == 3 || z.c.pc == 4 || z.c.pc == 5 || z.c.pc == 6 || z.c.pc == 7 || z.c.pc == 8) ∧ isP m z = (z.c.pc == 12 || z.c.pc == 13 || z.c.pc == 14) ∧
  isD m z = ((z.c.pc == 6 && z.c.told) || (z.c.pc == 7 && z.c.gor.state == 0)) ∧ isH m z = (z.c.pc == 8) ∧ isA m z = ((z.c.pc == 1 || z.c.pc == 2) && z.c.own.awake) ∧ isL m z = ((z.c.pc == 6 && !z.c.told) || (z.c.pc == 7 && z.c.gor.state == 1)) := by
 refine ⟨?_, ?_, ?_, ?_, ?_, ?_, ?_, ?_⟩ <;> simp [isOut, isCrit, isR, isP, isD, isH, isA, isL, h]
theorem At.kind0 (h : At m i z x s cl now) (h1 : 1 ≤ z.c.pc) (h8 : z.c.pc ≤ 8) : z.cur.kind = 0 := by
 have := h.c.pc
 omega
theorem At.kind2 (h : At m i z x s cl now) (h1 : 10 ≤ z.c.pc) : z.cur.kind = 2 := by
 have := h.c.pc
 omega
theorem lkE {w : Int} : (lk w = true) = (w % 2 = 1) := by unfold lk; rw [beq_iff_eq]
theorem wkE {w : Int} : (wk w = true) = (w / 2 % 2 = 1) := by unfold wk; rw [beq_iff_eq]
theorem svE {w : Int} : (sv w = true) = (w / 4 % 2 = 1) := by unfold sv; rw [beq_iff_eq]
theorem lkF {w : Int} (h : lk w = false) : w % 2 = 0 := by
 have : ¬ lk w = true := by rw [h]; decide
 rw [lkE] at this
 omega
theorem wkF {w : Int} (h : wk w = false) : w / 2 % 2 = 0 := by
 have : ¬ wk w = true := by rw [h]; decide
 rw [wkE] at this
 omega
theorem svF {w : Int} (h : sv w = false) : w / 4 % 2 = 0 := by
 have : ¬ sv w = true := by rw [h]; decide
 rw [svE] at this
 omega
theorem lockR_fine (h : At m i z x s cl now) (hp : z.c.pc = 0) (hk : z.cur.kind = 0) : Fine m i cl z (lockR z.c x s) := by
 obtain ⟨o, c, r, p, d, hh, a, l⟩ := cls h.mx
 simp only [hp] at o c r p d hh a l
 simp at o c r p d hh a l
 have hn := next_none z.prog z.c m
 have hC := h.c
 have hlt := h.lt
 have hwl := h.word_lo
 have hwh := h.word_hi
 unfold lockR
 by_cases e : x.word = 0
 ·rw [if_pos e]
  refine ⟨rfl, fun _ => rfl, fun q => by simp at q, .inl rfl, rfl, ?_⟩
  refine h.inv.word_ h.len h.hz 1 o (by simpa [fin] using hn.out) (by simp [fin, hn.l, l]) ?_
  intro P D A H R _ _ _ _ _ _ _ hw
  simp only [fin, if_true, p, d, a, hh, r, hn.p, hn.d, hn.a, hn.h, hn.r, b2i_f, b2i_t] at *
  obtain ⟨w1, w2, w3, w4⟩ := hw
  refine ⟨by omega, by omega, by omega, by omega⟩
 ·rw [if_neg e]
  have hy : mx m ⟨z.prog, { z.c with pc := 1 }⟩ = true := h.mx
  obtain ⟨o', c', r', p', d', hh', a', l'⟩ := cls hy
  simp at o' c' r' p' d' hh' a' l'
  refine ⟨rfl, fun q => by simp at q, fun _ => ?_, .inl rfl, rfl, ?_⟩
  ·refine hC.turn _ h.lt rfl (.inl h.run) hC.permit (.inl rfl) rfl (.inl rfl) ⟨hC.rd0, hC.rd1⟩ ⟨hC.old0, hC.old1⟩ (.inl ⟨hk, by simp, by simp⟩) ?_ (fun q => by simp at q) (fun q => by simp at q) (fun q => by simp at q)
   intro _ hs
   have := (hC.new hp).1
   simp only at hs
   rw [this] at hs
   cases hs
  ·refine h.inv.word_ h.len h.hz x.word o o' (by simp [fin, l, l']) ?_
   intro P D A H R _ _ _ _ _ _ _ hw
   have := (hC.new hp).2
   simp only [fin, Bool.false_eq_true, if_false, p, d, a, hh, r, p', d', a', hh', r', this, b2i_f, b2i_t] at *
   obtain ⟨w1, w2, w3, w4⟩ := hw
   refine ⟨by omega, by omega, by omega, by omega⟩
theorem loadR_fine (h : At m i z x s cl now) (hp : z.c.pc = 1) : Fine m i cl z (loadR z.c x s) := by
 obtain ⟨o, c, r, p, d, hh, a, l⟩ := cls h.mx
 simp only [hp] at o c r p d hh a l
 simp at o c r p d hh a l
 have hn := next_none z.prog z.c m
 have hC := h.c
 have hlt := h.lt
 have hwl := h.word_lo
 have hwh := h.word_hi
 have hk := h.kind0 (by omega) (by omega)
 have hw0 := h.inv.word
 have hA : z.c.own.awake = true → 1 ≤ cnt (isA m) cl := fun q => cnt_one _ _ _ _ h.hz (by rw [a]; exact q)
 have hP := cnt_lo (isP m) cl
 have hD := cnt_lo (isD m) cl
 have hc0 := h.inv.line.c0
 unfold loadR see
 have hy : mx m ⟨z.prog, { z.c with own := { z.c.own with old := x.word }, pc := 2 }⟩ = true := h.mx
 obtain ⟨o', c', r', p', d', hh', a', l'⟩ := cls hy
 simp at o' c' r' p' d' hh' a' l'
 refine ⟨rfl, fun q => by simp at q, fun _ => ?_, .inl rfl, rfl, ?_⟩
 ·refine hC.turn _ h.lt rfl (.inl h.run) hC.permit (.inl rfl) rfl (.inl rfl) ⟨hC.rd0, hC.rd1⟩ ⟨hwl, hwh⟩ (.inl ⟨hk, by simp, by simp⟩) (fun _ => hC.aw (.inl hp)) ?_ (fun q => by simp at q) (fun q => by simp at q)
  intro _ q
  have := hA q
  have h1 := hw0.hand
  have h2 := hw0.free
  simp only
  omega
 ·refine h.inv.word_ h.len h.hz x.word o o' (by simp [fin, l, l']) ?_
  intro P D A H R _ _ _ _ _ _ _ hw
  simp only [fin, Bool.false_eq_true, if_false, p, d, a, hh, r, p', d', a', hh', r', b2i_f, b2i_t] at *
  obtain ⟨w1, w2, w3, w4⟩ := hw
  refine ⟨by omega, by omega, by omega, by omega⟩
end
end Go.Proofs.YtoimfknjfeencaaGreatDoor.M
end
