/- Part of the walk of a law of the top, and what it leans on (Right, Data, SpinHand). No conditions beyond those that each lemma names. -/
import Derived.Test.YtoimfknjfeencaaGreatDoorZ05
import Derived.Test.YtoimfknjfeencaaGreatDoorZ02
import Derived.Test.YtoimfknjfeencaaGreatDoorZ03
import Derived.Test.YtoimfknjfeencaaGreatDoorZ04
import Derived.ArgAppend
import Derived.Below
import Derived.BigQuiet
import Derived.Deep.AppendLies
import Derived.Deep.CutBlock
import Derived.Deep.DeepCutAuto
import Derived.Deep.Draws
import Derived.Deep.LoopGhost
import Derived.Deep.OwnRows
import Derived.Deep.QuietTactic
import Derived.Deep.RegionHeld3
import Derived.Defers
import Derived.KernelRfl
import Derived.Laws.BitsLemmas
import Derived.Laws.BytesArg
import Derived.Laws.IdiomCopy
import Derived.Laws.MakeOwn
import Derived.Laws.OwnMore
import Derived.Laws.Rows
import Derived.Laws.Slices
import Derived.Laws.StructEq
import Derived.Lib.AppendStr
import Derived.Lib.ConvBytes
import Derived.Maps.AppendAt
import Derived.OrdersHeld
import Derived.OwnWalk
import Derived.RowKit
import Derived.RowKit3
import Derived.Tactics
import Derived.Test.YtoimfknjfeencaaGreatDoorProg
import Derived.WalkKit
import Derived.WideLaws
set_option linter.unusedVariables false
set_option linter.unusedSimpArgs false
set_option maxHeartbeats 8000000
set_option maxRecDepth 100000
section
namespace Go.Proofs.YtoimfknjfeencaaGreatDoor.Hand
open Go.RowKit Go.Proofs.YtoimfknjfeencaaGreatDoorW.PrintWords Go.Proofs.YtoimfknjfeencaaGreatDoorW.PrintLast Go.Proofs.YtoimfknjfeencaaGreatDoorW.PrintMore
theorem all_at {α : Type} (l : List α) (p : α → Bool) (i : Nat) (hi : i < l.length) (hd : ∀ t : Nat, (ht : t < l.length) → t < i → p l[t] = true) (h : p l[i] = true) : ∀ t : Nat, (ht : t < l.length) → t < i + 1 → p l[t] = true := by
 intro t ht htl
 by_cases e : t = i
 ·subst e; exact h
 ·exact hd t ht (by omega)
theorem all_end {α : Type} (l : List α) (p : α → Bool) (hd : ∀ t : Nat, (ht : t < l.length) → t < l.length → p l[t] = true) : l.all p = true := by
 rw [List.all_eq_true]
 intro x hx
 obtain ⟨t, ht, rfl⟩ := List.getElem_of_mem hx
 exact hd t ht ht
theorem all_not {α : Type} (l : List α) (p : α → Bool) (i : Nat) (hi : i < l.length) (h : p l[i] = false) : l.all p = false := by
 cases hq : l.all p with
 | false => rfl
 | true => rw [List.all_eq_true] at hq; rw [hq _ (List.getElem_mem hi)] at h; exact absurd h (by simp)
theorem rdT_at (l : List S49) (i : Nat) (h : i < l.length) : rd_T49 l i = l[i] := by
 unfold rd_T49
 rw [List.getD_eq_getElem?_getD, Int.toNat_natCast, List.getElem?_eq_getElem h]; rfl
theorem rdL_at (l : List (List S49)) (i : Nat) (h : i < l.length) : rd_L4 l i = l[i] := by
 unfold rd_L4
 rw [List.getD_eq_getElem?_getD, Int.toNat_natCast, List.getElem?_eq_getElem h]; rfl
def okA (a : S49) : Bool := isActP a.f0 a.f1
theorem bad_calls (c : S49) (w : World) : Calls Tryz.prog 37 #[.agg #[.int .i64 c.f0, .int .i64 c.f1]] w fun e w' => e = .returned (.bool (!okA c)) ∧ Below w.heap.size w w' := by
 have hu := Tryz.underlying49
 go_enter Tryz.func37, Tryz.ntmps37
 go_wp2_with fail
 refine (isAct_calls c.f0 c.f1 _).mono ?_
 rintro e w1 ⟨rfl, hb⟩
 go_wp2
 go_ret
 exact ⟨rfl, ((Below.refl _ _).alloc (Nat.le_refl _) _).trans (hb.mono (by simp))⟩
theorem index1 (A : Option Addr) (c : Nat) (l : List S49) (w : World) (hC0 : Kd.C k49 w A l.length l) (hc0 : l.length ≤ c) :
  Calls Tryz.prog 71 #[.slice A l.length c, .func (.func 37) #[] #[]] w fun e w' => (∃ v : Int, e = .returned (.int .i64 v) ∧ decide (v ≥ 0) = !l.all okA) ∧ Below w.heap.size w w' := by
 have hlen : l.length ≤ 9223372036854775807 := hC0.2.1
 have HC := ak_ hC0
 clear hC0
 go_enter Tryz.func71, Tryz.ntmps71
 go_wp2
 go_loopg [5, 8] l.length (fun g v5 v8 wx => Aside0 (Below w.heap.size w wx) ∧ ∃ i : Nat, i + g = l.length ∧ v8 = .int .i64 i ∧ Aside0 (∀ t : Nat, (ht : t < l.length) → t < i → okA l[t] = true))
 case atStart => exact ⟨⟨by repeat (first | exact Below.refl _ _ | apply pw_below_drewN | apply below_drew1)⟩, 0, by omega, rfl, ⟨fun t _ ht => absurd ht (by omega)⟩⟩
 case round =>
  obtain ⟨HB, i, hig, rfl, Hd⟩ := hrel
  cases gk with
  | zero =>
   have hi : i = l.length := by omega
   have He := ak_ (all_end l okA (fun t ht _ => Hd.out t ht (by omega)))
   have hnot : ¬ ((i : Int) < (l.length : Int)) := by omega
   clear hi
   go_wp2
   go_ret
   exact ⟨⟨-1, rfl, by rw [He.out]; decide⟩, by repeat (first | exact HB.out | apply pw_below_drewN | apply below_drew1)⟩
  | succ go =>
   have hlt : i < l.length := by omega
   obtain ⟨ad, he, hx0, hx1⟩ := at_T49 HC.out (i : Int) (by omega) (by omega)
   cases he
   rw [Int.toNat_natCast] at hx0 hx1
   replace hx0 := (HB.out.cell (World.block_lt_of_cell? w _ hx0)).trans hx0
   replace hx1 := (HB.out.cell (World.block_lt_of_cell? w _ hx1)).trans hx1
   have hil : (i : Int) < (l.length : Int) := by omega
   have hrd := rdT_at l i hlt
   by_cases hf : okA (rd_T49 l i) = true
   ·have Hd2 := ak_ (all_at l okA i hlt Hd.out (by rw [← hrd]; exact hf))
    have hf2 : (!okA (rd_T49 l i)) = false := by rw [hf]; rfl
    clear hrd
    have hne : ¬ (okA (rd_T49 l i) = false) := by rw [hf]; simp
    go_wp2_with (go_at_call 37; refine (bad_calls (rd_T49 l i) _).mono ?_; rintro e w2 ⟨rfl, hb⟩; have NB := ak_ (HB.out.trans (hb.mono (by have := HB.out.size; omega))))
    go_roundg go
    case rel => exact ⟨⟨by repeat (first | exact NB.out | apply pw_below_drewN | apply below_drew1)⟩, i + 1, by omega, by go_num, Hd2⟩
    case measure => omega
   ·have hf' : okA (rd_T49 l i) = false := by simpa using hf
    have He := ak_ (all_not l okA i hlt (by rw [← hrd]; exact hf'))
    clear hf hrd
    go_wp2_with (go_at_call 37; refine (bad_calls (rd_T49 l i) _).mono ?_; rintro e w2 ⟨rfl, hb⟩; have NB := ak_ (HB.out.trans (hb.mono (by have := HB.out.size; omega))))
    go_ret
    exact ⟨⟨(i : Int), rfl, by rw [He.out]; exact decide_eq_true (by omega)⟩, by repeat (first | exact NB.out | apply pw_below_drewN | apply below_drew1)⟩
theorem contains1 (A : Option Addr) (c : Nat) (l : List S49) (w : World) (hC0 : Kd.C k49 w A l.length l) (hc0 : l.length ≤ c) :
  Calls Tryz.prog 36 #[.slice A l.length c, .func (.func 37) #[] #[]] w fun e w' => e = .returned (.bool (!l.all okA)) ∧ Below w.heap.size w w' := by
 have HC := ak_ hC0
 clear hC0
 go_enter Tryz.func36, Tryz.ntmps36
 go_wp2_with fail
 refine (index1 A c l _ HC.out hc0).mono ?_
 rintro e w1 ⟨⟨v, rfl, hv⟩, hb⟩
 have HV := ak_ hv
 clear hv
 go_wp2
 go_ret
 exact ⟨by rw [← HV.out]; rfl, hb⟩
def okP (l : List S49) : Bool := decide (l.length ≤ 64) && l.all okA
theorem odd_calls (A : Option Addr) (c : Nat) (l : List S49) (w : World) (hC0 : Kd.C k49 w A l.length l) (hc0 : l.length ≤ c) :
  Calls Tryz.prog 35 #[.slice A l.length c] w fun e w' => e = .returned (.bool (!okP l)) ∧ Below w.heap.size w w' := by
 have HC := ak_ hC0
 clear hC0
 have hmf : ∀ (fn : Fn) (first cap : Array Value) (w : World), (Instr.makeFunc fn first cap).run Tryz.prog w = .ok (.func fn first cap) w := fun _ _ _ _ => rfl
 by_cases h : l.length ≤ 64
 ·have h64 : ¬ ((64 : Int) < (l.length : Int)) := by omega
  have HO := ak_ (show okP l = l.all okA by unfold okP; rw [decide_eq_true h]; simp)
  clear h
  go_enter Tryz.func35, Tryz.ntmps35
  go_wp2_with (go_at_call 36; refine (contains1 A c l _ HC.out hc0).mono ?_; rintro e w1 ⟨rfl, hb⟩)
  go_ret
  exact ⟨by rw [HO.out]; rfl, hb⟩
 ·have h64 : (64 : Int) < (l.length : Int) := by omega
  have HO := ak_ (show okP l = false by unfold okP; rw [decide_eq_false h]; simp)
  clear h
  go_enter Tryz.func35, Tryz.ntmps35
  go_wp2
  go_ret
  exact ⟨by rw [HO.out]; rfl, Below.refl _ _⟩
theorem index2 (A : Option Addr) (c : Nat) (l : List (List S49)) (w : World) (hC0 : Kd.C (Kd.slice 49 k49) w A l.length l) (hc0 : l.length ≤ c) :
  Calls Tryz.prog 72 #[.slice A l.length c, .func (.func 35) #[] #[]] w fun e w' => (∃ v : Int, e = .returned (.int .i64 v) ∧ decide (v ≥ 0) = !l.all okP) ∧ Below w.heap.size w w' := by
 have hlen : l.length ≤ 9223372036854775807 := hC0.2.1
 have HC := ak_ hC0
 clear hC0
 go_enter Tryz.func72, Tryz.ntmps72
 go_wp2
 go_loopg [5, 8] l.length (fun g v5 v8 wx => Aside0 (Below w.heap.size w wx) ∧ ∃ i : Nat, i + g = l.length ∧ v8 = .int .i64 i ∧ Aside0 (∀ t : Nat, (ht : t < l.length) → t < i → okP l[t] = true))
 case atStart => exact ⟨⟨by repeat (first | exact Below.refl _ _ | apply pw_below_drewN | apply below_drew1)⟩, 0, by omega, rfl, ⟨fun t _ ht => absurd ht (by omega)⟩⟩
 case round =>
  obtain ⟨HB, i, hig, rfl, Hd⟩ := hrel
  cases gk with
  | zero =>
   have hi : i = l.length := by omega
   have He := ak_ (all_end l okP (fun t ht _ => Hd.out t ht (by omega)))
   have hnot : ¬ ((i : Int) < (l.length : Int)) := by omega
   clear hi
   go_wp2
   go_ret
   exact ⟨⟨-1, rfl, by rw [He.out]; decide⟩, by repeat (first | exact HB.out | apply pw_below_drewN | apply below_drew1)⟩
  | succ go =>
   have hlt : i < l.length := by omega
   obtain ⟨ad, A1, c1, he, hx0, hle1, hK1⟩ := at_L4 HC.out (i : Int) (by omega) (by omega)
   cases he
   rw [Int.toNat_natCast] at hx0
   have hil : (i : Int) < (l.length : Int) := by omega
   have hrd := rdL_at l i hlt
   replace hx0 := (HB.out.cell (World.block_lt_of_cell? w _ hx0)).trans hx0
   have HK1 := ak_ (Kd.C_below hK1 HB.out)
   clear hK1
   by_cases hf : okP (rd_L4 l i) = true
   ·have Hd2 := ak_ (all_at l okP i hlt Hd.out (by rw [← hrd]; exact hf))
    have hf2 : (!okP (rd_L4 l i)) = false := by rw [hf]; rfl
    clear hrd
    have hne : ¬ (okP (rd_L4 l i) = false) := by rw [hf]; simp
    go_wp2_with (go_at_call 35; refine (odd_calls A1 c1 (rd_L4 l i) _ (by repeat (first | exact HK1.out | apply Kd.C_drewN | apply Kd.C_drew)) hle1).mono ?_; rintro e w2 ⟨rfl, hb⟩; have NB := ak_ (HB.out.trans (hb.mono (by have := HB.out.size; omega))))
    go_roundg go
    case rel => exact ⟨⟨by repeat (first | exact NB.out | apply pw_below_drewN | apply below_drew1)⟩, i + 1, by omega, by go_num, Hd2⟩
    case measure => omega
   ·have hf' : okP (rd_L4 l i) = false := by simpa using hf
    have He := ak_ (all_not l okP i hlt (by rw [← hrd]; exact hf'))
    clear hf hrd
    go_wp2_with (go_at_call 35; refine (odd_calls A1 c1 (rd_L4 l i) _ (by repeat (first | exact HK1.out | apply Kd.C_drewN | apply Kd.C_drew)) hle1).mono ?_; rintro e w2 ⟨rfl, hb⟩; have NB := ak_ (HB.out.trans (hb.mono (by have := HB.out.size; omega))))
    go_ret
    exact ⟨⟨(i : Int), rfl, by rw [He.out]; exact decide_eq_true (by omega)⟩, by repeat (first | exact NB.out | apply pw_below_drewN | apply below_drew1)⟩
theorem contains2 (A : Option Addr) (c : Nat) (l : List (List S49)) (w : World) (hC0 : Kd.C (Kd.slice 49 k49) w A l.length l) (hc0 : l.length ≤ c) :
  Calls Tryz.prog 39 #[.slice A l.length c, .func (.func 35) #[] #[]] w fun e w' => e = .returned (.bool (!l.all okP)) ∧ Below w.heap.size w w' := by
 have HC := ak_ hC0
 clear hC0
 go_enter Tryz.func39, Tryz.ntmps39
 go_wp2_with fail
 refine (index2 A c l _ HC.out hc0).mono ?_
 rintro e w1 ⟨⟨v, rfl, hv⟩, hb⟩
 have HV := ak_ hv
 clear hv
 go_wp2
 go_ret
 exact ⟨by rw [← HV.out]; rfl, hb⟩
def okPs (l : List (List S49)) : Bool := decide (l.length ≤ 8) && l.all okP
theorem Right_any (A : Option Addr) (c : Nat) (l : List (List S49)) (w : World) (hC0 : Kd.C (Kd.slice 49 k49) w A l.length l) (hc0 : l.length ≤ c) :
  Calls Tryz.prog 16 #[.slice A l.length c] w fun e w' => e = .returned (.bool (okPs l)) ∧ Below w.heap.size w w' := by
 have HC := ak_ hC0
 clear hC0
 have hmf : ∀ (fn : Fn) (first cap : Array Value) (w : World), (Instr.makeFunc fn first cap).run Tryz.prog w = .ok (.func fn first cap) w := fun _ _ _ _ => rfl
 by_cases h : l.length ≤ 8
 ·have h8 : (l.length : Int) ≤ 8 := by omega
  have HO := ak_ (show okPs l = l.all okP by unfold okPs; rw [decide_eq_true h]; simp)
  clear h
  go_enter Tryz.func16, Tryz.ntmps16
  go_wp2_with (go_at_call 39; refine (contains2 A c l _ HC.out hc0).mono ?_; rintro e w1 ⟨rfl, hb⟩)
  go_ret
  exact ⟨by rw [HO.out]; simp, hb⟩
 ·have h8 : ¬ ((l.length : Int) ≤ 8) := by omega
  have HO := ak_ (show okPs l = false by unfold okPs; rw [decide_eq_false h]; simp)
  clear h
  go_enter Tryz.func16, Tryz.ntmps16
  go_wp2
  go_ret
  exact ⟨by rw [HO.out]; rfl, Below.refl _ _⟩
def prog_Right.f (l0 : List (List S49)) : Option (Bool) := some (okPs l0)
theorem prog_Right.calls (A0 : Option Addr) (c0 : Nat) (l0 : List (List S49)) (r : Bool) (w : World) (hr0 : Kd.C (Kd.slice 49 k49) w A0 l0.length l0) (hc0 : l0.length ≤ c0) (h : prog_Right.f l0 = some r) :
  Calls Tryz.prog 16 #[.slice A0 l0.length c0] w fun e w' => e = .returned (.bool r) ∧ Below w.heap.size w w' := by
 obtain rfl := Option.some.inj h
 exact Right_any A0 c0 l0 w hr0 hc0
def flat {α : Type} (sz : Nat) (enc : α → List Value) (h1 : ∀ x, (enc x).length = sz) (h2 : ∀ x, ∀ u ∈ enc x, u.oneCell' = true) : Kd α where
 sz := sz
 E := []
 K := fun _ x cs => cs = enc x
 M := fun _ _ _ x cs => cs = enc x
 K_len := fun h => by rw [h]; exact h1 _
 K_one := fun h => by rw [h]; exact h2 _
 K_below := fun _ h => h
 K_of_M := fun h => h
 M_mono := fun _ h => h
 M_bound := fun h => h
 M_move := fun _ h => h
 M_lower := fun _ h => h
def encGor (g : M.Gor) : List Value := [.int .i64 g.state, .bool g.permit]
def encMutex (x : M.Mutex) : List Value := [.int .i64 x.word, .int .i64 x.line.next, .int .i64 x.line.serve]
def encClient (c : M.Client) : List Value := [.int .i64 c.gor.state, .bool c.gor.permit, .int .i64 c.act, .int .i64 c.pc, .int .i64 c.worked, .int .i64 c.ticket, .bool c.first, .bool c.told, .int .i64 c.own.since, .bool c.own.starving, .bool c.own.awake, .int .i64 c.own.rounds, .int .i64 c.own.old]
def encEvent (e : M.Event) : List Value := [.int .i64 e.who, .int .i64 e.kind, .int .i64 e.mutex]
def encAct (a : M.Act) : List Value := [.int .i64 a.kind, .int .i64 a.n]
structure Spot where
 addr : Int
 count : Int
 line : List Int
def kGor : Kd M.Gor := flat 2 encGor (fun _ => rfl) (fun x u h => by simp [encGor] at h; rcases h with rfl | rfl <;> rfl)
def kMutex : Kd M.Mutex := flat 3 encMutex (fun _ => rfl) (fun x u h => by simp [encMutex] at h; rcases h with rfl | rfl | rfl <;> rfl)
def kClient : Kd M.Client := flat 13 encClient (fun _ => rfl) (fun x u h => by simp [encClient] at h; rcases h with rfl | rfl | rfl | rfl | rfl | rfl | rfl | rfl | rfl | rfl | rfl | rfl | rfl <;> rfl)
def kEvent : Kd M.Event := flat 3 encEvent (fun _ => rfl) (fun x u h => by simp [encEvent] at h; rcases h with rfl | rfl | rfl <;> rfl)
def kAct : Kd M.Act := flat 2 encAct (fun _ => rfl) (fun x u h => by simp [encAct] at h; rcases h with rfl | rfl <;> rfl)
def kSpot : Kd Spot := Kd.iso (Kd.pair (Kd.int .i64) (Kd.pair (Kd.int .i64) (Kd.slice 3 (Kd.int .i64)))) (fun s => (s.addr, s.count, s.line))
def Sl {α : Type} (d : Kd α) (w : World) (v : Value) (xs : List α) : Prop := ∃ A c, v = .slice A xs.length c ∧ xs.length ≤ c ∧ d.C w A xs.length xs
theorem Sl.of_R {α : Type} {d : Kd α} {e : Nat} {w : World} {base : Nat} {ok : Nat → Prop} {v : Value} {xs : List α} (h : d.R e w base ok v xs) : Sl d w v xs := by
 obtain ⟨A, c, rfl, hl, hC⟩ := Kd.R_reads h
 exact ⟨A, c, rfl, hl, hC⟩
theorem Sl.nil_ {α : Type} (d : Kd α) (w : World) : Sl d w (.slice none 0 0) [] := ⟨none, 0, rfl, Nat.le_refl _, ⟨rfl, by simp, fun h => by simp at h⟩⟩
theorem flat_at {α : Type} {sz : Nat} {enc : α → List Value} {h1 : ∀ x, (enc x).length = sz} {h2 : ∀ x, ∀ u ∈ enc x, u.oneCell' = true} {w : World} {A : Option Addr} {n : Nat} {xs : List α} (h : (flat sz enc h1 h2).C w A n xs) (i : Nat) (x : α) (hx : xs[i]? = some x) :
  ∃ ad, A = some ad ∧ ∀ j u, (enc x)[j]? = some u → w.cell? (ad.add (i * sz + j)) = some u := by
 obtain ⟨hl, hm, hc⟩ := h
 have hi := (List.getElem?_eq_some_iff.1 hx).1
 obtain ⟨ad, e, hc⟩ := hc (by omega)
 obtain ⟨c, hs, hr, hcell⟩ := hc i x hx
 have hr' : c = enc x := hr
 subst hr'
 exact ⟨ad, e, hcell⟩
theorem flat_cells {α : Type} {sz : Nat} {enc : α → List Value} {h1 : ∀ x, (enc x).length = sz} {h2 : ∀ x, ∀ u ∈ enc x, u.oneCell' = true} {w : World} {A : Option Addr} {n : Nat} {xs : List α} (h : (flat sz enc h1 h2).C w A n xs) (i : Nat) (x : α) (hx : xs[i]? = some x) :
  ∃ ad, A = some ad ∧ (∀ u, (enc x)[0]? = some u → w.cell? (ad.add (i * sz)) = some u) ∧ ∀ j u, 0 < j → (enc x)[j]? = some u → w.cell? ⟨(ad.add (i * sz)).block, (ad.add (i * sz)).off + j, none⟩ = some u := by
 obtain ⟨ad, e, hc⟩ := flat_at h i x hx
 refine ⟨ad, e, fun u hu => by simpa using hc 0 u hu, fun j u hj hu => ?_⟩
 rw [← add_field _ _ j hj]
 exact hc j u hu
theorem Sl.one {α : Type} {sz : Nat} {enc : α → List Value} {h1 : ∀ x, (enc x).length = sz} {h2 : ∀ x, ∀ u ∈ enc x, u.oneCell' = true} {w : World} {g : Nat} {t : TypeId} (x : α) (hg : w.heap[g]? = some (.cells (enc x).toArray t (0, 0))) : Sl (flat sz enc h1 h2) w (.slice (some ⟨g, 0, none⟩) 1 1) [x] := by
 refine ⟨some ⟨g, 0, none⟩, 1, rfl, Nat.le_refl _, rfl, by simp, fun _ => ⟨_, rfl, fun j p hj => ?_⟩⟩
 have hj0 : j = 0 := by have := (List.getElem?_eq_some_iff.1 hj).1; simp at this; omega
 subst hj0
 cases hj
 refine ⟨enc x, h1 x, rfl, fun i u hu => ?_⟩
 have := blk_cell hg i
 have e : (⟨g, 0, none⟩ : Addr).add (0 * sz + i) = ⟨g, i, none⟩ := by
  rw [Nat.zero_mul, Nat.zero_add]
  by_cases h0 : i = 0
  ·subst h0
   simp [Addr.add]
  ·simp [Addr.add, h0]
 show w.cell? ((⟨g, 0, none⟩ : Addr).add (0 * sz + i)) = some u
 rw [e, this]
 simpa using hu
def toS (a : M.Act) : S49 := ⟨a.kind, a.n⟩
def ofS (a : S49) : M.Act := ⟨a.f0, a.f1⟩
theorem C_to {w : World} {A : Option Addr} {n : Nat} {l : List M.Act} (h : kAct.C w A n l) : k49.C w A n (l.map toS) := by
 obtain ⟨hl, hm, hc⟩ := h
 refine ⟨by rw [List.length_map]; exact hl, hm, fun hn => ?_⟩
 obtain ⟨ad, e, hc⟩ := hc hn
 refine ⟨ad, e, fun j p hj => ?_⟩
 rw [List.getElem?_map] at hj
 obtain ⟨q, hq, rfl⟩ := Option.map_eq_some_iff.1 hj
 obtain ⟨c, hs, hr, hcell⟩ := hc j q hq
 have hr' : c = encAct q := hr
 subst hr'
 exact ⟨_, rfl, k49_mk w (toS q), hcell⟩
theorem C_of {w : World} {A : Option Addr} {n : Nat} {l : List S49} (h : k49.C w A n l) : kAct.C w A n (l.map ofS) := by
 obtain ⟨hl, hm, hc⟩ := h
 refine ⟨by rw [List.length_map]; exact hl, hm, fun hn => ?_⟩
 obtain ⟨ad, e, hc⟩ := hc hn
 refine ⟨ad, e, fun j p hj => ?_⟩
 rw [List.getElem?_map] at hj
 obtain ⟨q, hq, rfl⟩ := Option.map_eq_some_iff.1 hj
 obtain ⟨c, hs, hr, hcell⟩ := hc j q hq
 obtain rfl := k49_open hr
 exact ⟨_, rfl, rfl, hcell⟩
theorem CC_to {w : World} {A : Option Addr} {n : Nat} {l : List (List M.Act)} (h : (Kd.slice 49 kAct).C w A n l) : (Kd.slice 49 k49).C w A n (l.map (·.map toS)) := by
 obtain ⟨hl, hm, hc⟩ := h
 refine ⟨by rw [List.length_map]; exact hl, hm, fun hn => ?_⟩
 obtain ⟨ad, e, hc⟩ := hc hn
 refine ⟨ad, e, fun j p hj => ?_⟩
 rw [List.getElem?_map] at hj
 obtain ⟨q, hq, rfl⟩ := Option.map_eq_some_iff.1 hj
 obtain ⟨c, hs, ⟨A1, c1, rfl, hle, hC⟩, hcell⟩ := hc j q hq
 exact ⟨_, rfl, ⟨A1, c1, by rw [List.length_map], by rw [List.length_map]; exact hle, by rw [List.length_map]; exact C_to hC⟩, hcell⟩
theorem CC_of {w : World} {A : Option Addr} {n : Nat} {l : List (List S49)} (h : (Kd.slice 49 k49).C w A n l) : (Kd.slice 49 kAct).C w A n (l.map (·.map ofS)) := by
 obtain ⟨hl, hm, hc⟩ := h
 refine ⟨by rw [List.length_map]; exact hl, hm, fun hn => ?_⟩
 obtain ⟨ad, e, hc⟩ := hc hn
 refine ⟨ad, e, fun j p hj => ?_⟩
 rw [List.getElem?_map] at hj
 obtain ⟨q, hq, rfl⟩ := Option.map_eq_some_iff.1 hj
 obtain ⟨c, hs, ⟨A1, c1, rfl, hle, hC⟩, hcell⟩ := hc j q hq
 exact ⟨_, rfl, ⟨A1, c1, by rw [List.length_map], by rw [List.length_map]; exact hle, by rw [List.length_map]; exact C_of hC⟩, hcell⟩
def errW : Option Int → Value
 | none => .nilIface
 | some c => .iface 0 (.int .i64 c)
theorem errW_none : errW none = .nilIface := rfl
theorem errW_some (c : Int) : errW (some c) = .iface 0 (.int .i64 c) := rfl
def word_Wrap.f (a0 : Int) (a1 : Int) : Option (Int × Int) := if a0 = 0 then (some (wrap64 (wrap32 (a1)), 0)) else (if a0 = 1 then (some ((a1) % 4294967296, 0)) else (if a0 = 2 then (some (a1, 0)) else (some (0, 1))))
theorem word_Wrap.calls (a0 : Int) (a1 : Int) (r1 : Int) (r2 : Int) (w : World) (h : word_Wrap.f a0 a1 = some (r1, r2)) :
  Calls Tryz.prog 66 #[.int .i64 a0, .int .i64 a1] w fun e w' => e = .returned (.tuple #[.int .i64 r1, .int .i64 r2]) ∧ Drawn0 w w' := by
 have H : (if a0 = 0 then (some (wrap64 (wrap32 (a1)), 0)) else (if a0 = 1 then (some ((a1) % 4294967296, 0)) else (if a0 = 2 then (some (a1, 0)) else (some (0, 1))))) = some (r1, r2) := h
 clear h
 by_cases c3 : a0 = 0
 ·rw [if_pos c3] at H
  have c3b0 : (a0 == 0) = true := beq_iff_eq.mpr c3
  have c3b1 : (a0 != 0) = false := bne_eq_false_iff_eq.mpr c3
  clear c3
  simp only [Option.some.injEq, Prod.mk.injEq] at H
  obtain ⟨rfl, rfl⟩ := H
  go_enter Tryz.func66, Tryz.ntmps66
  go_wp2
  go_ret2
  exact ⟨by first | rfl | (simp; done) | (simp [*]; done), by repeat (first | exact Drawn0.refl _ | apply Drawn0.step)⟩
 ·rw [if_neg c3] at H
  have c3b0 : (a0 == 0) = false := beq_eq_false_iff_ne.mpr c3
  have c3b1 : (a0 != 0) = true := bne_iff_ne.mpr c3
  by_cases c4 : a0 = 1
  ·rw [if_pos c4] at H
   have c4b0 : (a0 == 1) = true := beq_iff_eq.mpr c4
   have c4b1 : (a0 != 1) = false := bne_eq_false_iff_eq.mpr c4
   clear c4
   simp only [Option.some.injEq, Prod.mk.injEq] at H
   obtain ⟨rfl, rfl⟩ := H
   go_enter Tryz.func66, Tryz.ntmps66
   go_wp2
   go_ret2
   exact ⟨by first | rfl | (simp; done) | (simp [*]; done), by repeat (first | exact Drawn0.refl _ | apply Drawn0.step)⟩
  ·rw [if_neg c4] at H
   have c4b0 : (a0 == 1) = false := beq_eq_false_iff_ne.mpr c4
   have c4b1 : (a0 != 1) = true := bne_iff_ne.mpr c4
   by_cases c5 : a0 = 2
   ·rw [if_pos c5] at H
    have c5b0 : (a0 == 2) = true := beq_iff_eq.mpr c5
    have c5b1 : (a0 != 2) = false := bne_eq_false_iff_eq.mpr c5
    clear c5
    simp only [Option.some.injEq, Prod.mk.injEq] at H
    obtain ⟨rfl, rfl⟩ := H
    go_enter Tryz.func66, Tryz.ntmps66
    go_wp2
    go_ret2
    exact ⟨by first | rfl | (simp; done) | (simp [*]; done), by repeat (first | exact Drawn0.refl _ | apply Drawn0.step)⟩
   ·rw [if_neg c5] at H
    have c5b0 : (a0 == 2) = false := beq_eq_false_iff_ne.mpr c5
    have c5b1 : (a0 != 2) = true := bne_iff_ne.mpr c5
    simp only [Option.some.injEq, Prod.mk.injEq] at H
    obtain ⟨rfl, rfl⟩ := H
    go_enter Tryz.func66, Tryz.ntmps66
    go_wp2
    go_ret2
    exact ⟨by first | rfl | (simp; done) | (simp [*]; done), by repeat (first | exact Drawn0.refl _ | apply Drawn0.step)⟩
def word_Fits.f (a0 : Int) (a1 : Int) : Option (Bool) := (word_Wrap.f a0 a1).bind fun bt101 => (if bt101.2 = 0 then (some (bt101.1 == a1)) else (some false))
theorem word_Fits.calls (a0 : Int) (a1 : Int) (r : Bool) (w : World) (h : word_Fits.f a0 a1 = some r) :
  Calls Tryz.prog 65 #[.int .i64 a0, .int .i64 a1] w fun e w' => e = .returned (.bool r) ∧ Drawn0 w w' := by
 have H : ((word_Wrap.f a0 a1).bind fun bt101 => (if bt101.2 = 0 then (some (bt101.1 == a1)) else (some false))) = some r := h
 clear h
 replace H := Option.bind_eq_some_iff.mp H
 obtain ⟨⟨t101, t102⟩, A30, H⟩ := H
 replace H : (if t102 = 0 then (some (t101 == a1)) else (some false)) = some r := H
 have A3 := ak_ A30
 clear A30
 by_cases c4 : t102 = 0
 ·rw [if_pos c4] at H
  have c4b0 : (t102 == 0) = true := beq_iff_eq.mpr c4
  have c4b1 : (t102 != 0) = false := bne_eq_false_iff_eq.mpr c4
  clear c4
  obtain rfl := Option.some.inj H
  go_enter Tryz.func65, Tryz.ntmps65
  go_wp2_with (first | ((with_reducible refine gate_callee (f := 66) rfl ?_); refine goesL_ (some 10) rfl rfl Tryz.func66 (by kernel_rfl) rfl #[.int .i64 a0, .int .i64 a1] rfl (by (try simp only [List.map_toArray, List.map_cons, List.map_nil]); first | done | rfl | (simp only [List.length_drop, List.length_take]; rfl)) ?_; (with_reducible refine (word_Wrap.calls a0 a1 t101 t102 _ A3.out).mono ?_); rintro e w' ⟨rfl, ⟨nd, rfl⟩⟩; refine ⟨_, rfl, ?_⟩))
  go_ret
  exact ⟨by first | rfl | (simp; done) | (simp [*]; done), by repeat (first | exact Drawn0.refl _ | apply Drawn0.step)⟩
 ·rw [if_neg c4] at H
  have c4b0 : (t102 == 0) = false := beq_eq_false_iff_ne.mpr c4
  have c4b1 : (t102 != 0) = true := bne_iff_ne.mpr c4
  obtain rfl := Option.some.inj H
  go_enter Tryz.func65, Tryz.ntmps65
  go_wp2_with (first | ((with_reducible refine gate_callee (f := 66) rfl ?_); refine goesL_ (some 10) rfl rfl Tryz.func66 (by kernel_rfl) rfl #[.int .i64 a0, .int .i64 a1] rfl (by (try simp only [List.map_toArray, List.map_cons, List.map_nil]); first | done | rfl | (simp only [List.length_drop, List.length_take]; rfl)) ?_; (with_reducible refine (word_Wrap.calls a0 a1 t101 t102 _ A3.out).mono ?_); rintro e w' ⟨rfl, ⟨nd, rfl⟩⟩; refine ⟨_, rfl, ?_⟩))
  go_ret
  exact ⟨by first | rfl | (simp; done) | (simp [*]; done), by repeat (first | exact Drawn0.refl _ | apply Drawn0.step)⟩
def spin_Right.f (a0_0 : Int) (a0_1 : Int) : Option (Bool) := (word_Fits.f 1 a0_0).bind fun t104 => (if t104 = true then ((word_Fits.f 1 a0_1).bind fun t105 => (some t105)) else (some false))
theorem spin_Right.calls (a0_0 : Int) (a0_1 : Int) (r : Bool) (w : World) (h : spin_Right.f a0_0 a0_1 = some r) :
  Calls Tryz.prog 28 #[.agg #[.int .i64 a0_0, .int .i64 a0_1]] w fun e w' => e = .returned (.bool r) ∧ Below w.heap.size w w' := by
 have hu27 := Tryz.underlying51
 have HB := ak_ (Below.refl w.heap.size w)
 have H : ((word_Fits.f 1 a0_0).bind fun t104 => (if t104 = true then ((word_Fits.f 1 a0_1).bind fun t105 => (some t105)) else (some false))) = some r := h
 clear h
 replace H := Option.bind_eq_some_iff.mp H
 obtain ⟨t104, A20, H⟩ := H
 replace H : (if t104 = true then ((word_Fits.f 1 a0_1).bind fun t105 => (some t105)) else (some false)) = some r := H
 have A2 := ak_ A20
 clear A20
 by_cases c3 : t104 = true
 ·subst c3
  have H1 : ((word_Fits.f 1 a0_1).bind fun t105 => (some t105)) = some r := by rw [if_pos rfl] at H; exact H
  clear H
  have H := H1
  clear H1
  replace H := Option.bind_eq_some_iff.mp H
  obtain ⟨t105, A40, H⟩ := H
  replace H : (some t105) = some r := H
  have A4 := ak_ A40
  clear A40
  obtain rfl := Option.some.inj H
  go_enter Tryz.func28, Tryz.ntmps28
  go_wp2_with (first | ((with_reducible refine gate_dst (N := 1) rfl ?_); refine box_event ?hg (N := 1) ?hd (cs := #[.int .i64 a0_0, .int .i64 a0_1]) (t := 51) ?hr ?_; (case hd => rfl); (case hg => rfl); (case hr => first | (go_simp; done) | (go_simp; rfl)); intro gb103 hg w5 hbox hb; have n0_ := ak_ (below_step (by repeat (first | (with_reducible first | exact HB.out | apply below_alloc | apply pw_below_drewN | apply below_drew1) | exact HB.out)) hb); have n1_ := ak_ (hbox); have n2_ := ak_ ((by rw [hg]; exact (below_size (by repeat (first | (with_reducible first | exact HB.out | apply below_alloc | apply pw_below_drewN | apply below_drew1) | exact HB.out))) : w.heap.size ≤ gb103)); have n3_ := ak_ ((by rw [hg]; exact (below_size (by repeat (first | (with_reducible first | exact HB.out | apply below_alloc | apply pw_below_drewN | apply below_drew1) | exact HB.out))) : w.heap.size ≤ gb103)); clear HB; have HB := n0_; have BK103 := n1_; have GW103 := n2_; have GE103 := n3_; clear n0_ n1_ n2_ n3_; clear hb hbox hg; have hcz6_0 : w5.cell? ⟨gb103, 0, none⟩ = some (.int .i64 a0_0) := (blk_cell BK103.out 0).trans rfl; have hcz6_1 : w5.cell? ⟨gb103, 1, none⟩ = some (.int .i64 a0_1) := (blk_cell BK103.out 1).trans rfl; have hfz6_0 := blk_frozen BK103.out 0; have hfz6_1 := blk_frozen BK103.out 1) | ((with_reducible refine gate_callee (f := 65) rfl ?_); refine goesL_ (some 5) rfl rfl Tryz.func65 (by kernel_rfl) rfl #[.int .i64 1, .int .i64 a0_0] rfl (by (try simp only [List.map_toArray, List.map_cons, List.map_nil]); first | done | rfl | (simp only [List.length_drop, List.length_take]; rfl)) ?_; (with_reducible refine (word_Fits.calls 1 a0_0 true _ A2.out).mono ?_); rintro e w' ⟨rfl, ⟨nd, rfl⟩⟩; refine ⟨_, rfl, ?_⟩) | (go_at_call 65; (with_reducible refine (word_Fits.calls 1 a0_1 t105 _ A4.out).mono ?_); rintro e w' ⟨rfl, ⟨nd, rfl⟩⟩))
  go_ret
  exact ⟨by first | rfl | (simp [errW_none, errW_some] <;> rfl) | (simp [*, errW_none, errW_some] <;> rfl), by repeat (first | (with_reducible first | exact HB.out | apply below_alloc | apply pw_below_drewN | apply below_drew1 | refine below_set ?_ GE103.out) | exact HB.out)⟩
 ·replace c3 := Bool.eq_false_iff.mpr c3
  subst c3
  have H1 : (some false) = some r := by rw [if_neg (show ¬ (false = true) by decide)] at H; exact H
  clear H
  have H := H1
  clear H1
  obtain rfl := Option.some.inj H
  go_enter Tryz.func28, Tryz.ntmps28
  go_wp2_with (first | ((with_reducible refine gate_dst (N := 1) rfl ?_); refine box_event ?hg (N := 1) ?hd (cs := #[.int .i64 a0_0, .int .i64 a0_1]) (t := 51) ?hr ?_; (case hd => rfl); (case hg => rfl); (case hr => first | (go_simp; done) | (go_simp; rfl)); intro gb103 hg w7 hbox hb; have n0_ := ak_ (below_step (by repeat (first | (with_reducible first | exact HB.out | apply below_alloc | apply pw_below_drewN | apply below_drew1) | exact HB.out)) hb); have n1_ := ak_ (hbox); have n2_ := ak_ ((by rw [hg]; exact (below_size (by repeat (first | (with_reducible first | exact HB.out | apply below_alloc | apply pw_below_drewN | apply below_drew1) | exact HB.out))) : w.heap.size ≤ gb103)); have n3_ := ak_ ((by rw [hg]; exact (below_size (by repeat (first | (with_reducible first | exact HB.out | apply below_alloc | apply pw_below_drewN | apply below_drew1) | exact HB.out))) : w.heap.size ≤ gb103)); clear HB; have HB := n0_; have BK103 := n1_; have GW103 := n2_; have GE103 := n3_; clear n0_ n1_ n2_ n3_; clear hb hbox hg; have hcz8_0 : w7.cell? ⟨gb103, 0, none⟩ = some (.int .i64 a0_0) := (blk_cell BK103.out 0).trans rfl; have hcz8_1 : w7.cell? ⟨gb103, 1, none⟩ = some (.int .i64 a0_1) := (blk_cell BK103.out 1).trans rfl; have hfz8_0 := blk_frozen BK103.out 0; have hfz8_1 := blk_frozen BK103.out 1) | ((with_reducible refine gate_callee (f := 65) rfl ?_); refine goesL_ (some 5) rfl rfl Tryz.func65 (by kernel_rfl) rfl #[.int .i64 1, .int .i64 a0_0] rfl (by (try simp only [List.map_toArray, List.map_cons, List.map_nil]); first | done | rfl | (simp only [List.length_drop, List.length_take]; rfl)) ?_; (with_reducible refine (word_Fits.calls 1 a0_0 false _ A2.out).mono ?_); rintro e w' ⟨rfl, ⟨nd, rfl⟩⟩; refine ⟨_, rfl, ?_⟩))
  go_ret
  exact ⟨by first | rfl | (simp [errW_none, errW_some] <;> rfl) | (simp [*, errW_none, errW_some] <;> rfl), by repeat (first | (with_reducible first | exact HB.out | apply below_alloc | apply pw_below_drewN | apply below_drew1 | refine below_set ?_ GE103.out) | exact HB.out)⟩
def word_Add.f (a0 : Int) (a1 : Int) (a2 : Int) : Option (Int × Int) := (word_Wrap.f a0 (wrap64 (a1 + a2))).bind fun bt106 => (some (bt106.1, bt106.2))
theorem word_Add.calls (a0 : Int) (a1 : Int) (a2 : Int) (r1 : Int) (r2 : Int) (w : World) (h : word_Add.f a0 a1 a2 = some (r1, r2)) :
  Calls Tryz.prog 29 #[.int .i64 a0, .int .i64 a1, .int .i64 a2] w fun e w' => e = .returned (.tuple #[.int .i64 r1, .int .i64 r2]) ∧ Drawn0 w w' := by
 have H : ((word_Wrap.f a0 (wrap64 (a1 + a2))).bind fun bt106 => (some (bt106.1, bt106.2))) = some (r1, r2) := h
 clear h
 replace H := Option.bind_eq_some_iff.mp H
 obtain ⟨⟨t106, t107⟩, A40, H⟩ := H
 replace H : (some (t106, t107)) = some (r1, r2) := H
 have A4 := ak_ A40
 clear A40
 simp only [Option.some.injEq, Prod.mk.injEq] at H
 obtain ⟨rfl, rfl⟩ := H
 go_enter Tryz.func29, Tryz.ntmps29
 go_wp2_with (first | ((with_reducible refine gate_callee (f := 66) rfl ?_); refine goesL_ (some 12) rfl rfl Tryz.func66 (by kernel_rfl) rfl #[.int .i64 a0, .int .i64 (wrap64 (a1 + a2))] rfl (by (try simp only [List.map_toArray, List.map_cons, List.map_nil]); first | done | rfl | (simp only [List.length_drop, List.length_take]; rfl)) ?_; (with_reducible refine (word_Wrap.calls a0 (wrap64 (a1 + a2)) t106 t107 _ A4.out).mono ?_); rintro e w' ⟨rfl, ⟨nd, rfl⟩⟩; refine ⟨_, rfl, ?_⟩))
 go_ret2
 exact ⟨by first | rfl | (simp; done) | (simp [*]; done), by repeat (first | exact Drawn0.refl _ | apply Drawn0.step)⟩
def spin_Out.f (a0_0 : Int) (a0_1 : Int) : Option (Int × Int) := (spin_Right.f a0_0 a0_1).bind fun t109 => (if t109 = true then ((word_Add.f 1 a0_0 (wrap64 (-a0_1))).bind fun bt110 => (some (bt110.1, bt110.2))) else (some (0, 1)))
theorem spin_Out.calls (a0_0 : Int) (a0_1 : Int) (r1 : Int) (r2 : Int) (w : World) (h : spin_Out.f a0_0 a0_1 = some (r1, r2)) :
  Calls Tryz.prog 11 #[.agg #[.int .i64 a0_0, .int .i64 a0_1]] w fun e w' => e = .returned (.tuple #[.int .i64 r1, .int .i64 r2]) ∧ Below w.heap.size w w' := by
 have hu27 := Tryz.underlying51
 have HB := ak_ (Below.refl w.heap.size w)
 have H : ((spin_Right.f a0_0 a0_1).bind fun t109 => (if t109 = true then ((word_Add.f 1 a0_0 (wrap64 (-a0_1))).bind fun bt110 => (some (bt110.1, bt110.2))) else (some (0, 1)))) = some (r1, r2) := h
 clear h
 replace H := Option.bind_eq_some_iff.mp H
 obtain ⟨t109, A20, H⟩ := H
 replace H : (if t109 = true then ((word_Add.f 1 a0_0 (wrap64 (-a0_1))).bind fun bt110 => (some (bt110.1, bt110.2))) else (some (0, 1))) = some (r1, r2) := H
 have A2 := ak_ A20
 clear A20
 by_cases c3 : t109 = true
 ·subst c3
  have H1 : ((word_Add.f 1 a0_0 (wrap64 (-a0_1))).bind fun bt110 => (some (bt110.1, bt110.2))) = some (r1, r2) := by rw [if_pos rfl] at H; exact H
  clear H
  have H := H1
  clear H1
  replace H := Option.bind_eq_some_iff.mp H
  obtain ⟨⟨t110, t111⟩, A40, H⟩ := H
  replace H : (some (t110, t111)) = some (r1, r2) := H
  have A4 := ak_ A40
  clear A40
  simp only [Option.some.injEq, Prod.mk.injEq] at H
  obtain ⟨rfl, rfl⟩ := H
  go_enter Tryz.func11, Tryz.ntmps11
  go_wp2_with (first | ((with_reducible refine gate_dst (N := 1) rfl ?_); refine box_event ?hg (N := 1) ?hd (cs := #[.int .i64 a0_0, .int .i64 a0_1]) (t := 51) ?hr ?_; (case hd => rfl); (case hg => rfl); (case hr => first | (go_simp; done) | (go_simp; rfl)); intro gb108 hg w5 hbox hb; have n0_ := ak_ (below_step (by repeat (first | (with_reducible first | exact HB.out | apply below_alloc | apply pw_below_drewN | apply below_drew1) | exact HB.out)) hb); have n1_ := ak_ (hbox); have n2_ := ak_ ((by rw [hg]; exact (below_size (by repeat (first | (with_reducible first | exact HB.out | apply below_alloc | apply pw_below_drewN | apply below_drew1) | exact HB.out))) : w.heap.size ≤ gb108)); have n3_ := ak_ ((by rw [hg]; exact (below_size (by repeat (first | (with_reducible first | exact HB.out | apply below_alloc | apply pw_below_drewN | apply below_drew1) | exact HB.out))) : w.heap.size ≤ gb108)); clear HB; have HB := n0_; have BK108 := n1_; have GW108 := n2_; have GE108 := n3_; clear n0_ n1_ n2_ n3_; clear hb hbox hg; have hcz6_0 : w5.cell? ⟨gb108, 0, none⟩ = some (.int .i64 a0_0) := (blk_cell BK108.out 0).trans rfl; have hcz6_1 : w5.cell? ⟨gb108, 1, none⟩ = some (.int .i64 a0_1) := (blk_cell BK108.out 1).trans rfl; have hfz6_0 := blk_frozen BK108.out 0; have hfz6_1 := blk_frozen BK108.out 1) | ((with_reducible refine gate_callee (f := 28) rfl ?_); refine goesL_ (some 5) rfl rfl Tryz.func28 (by kernel_rfl) rfl #[.agg #[.int .i64 a0_0, .int .i64 a0_1]] rfl (by (try simp only [List.map_toArray, List.map_cons, List.map_nil]); first | done | rfl | (simp only [List.length_drop, List.length_take]; rfl)) ?_; (with_reducible refine (spin_Right.calls a0_0 a0_1 true _ A2.out).mono ?_); rintro e w7 ⟨rfl, hb⟩; refine ⟨_, rfl, ?_⟩; have n0_ := ak_ (blk_below (g := gb108) (o := .cells #[.int .i64 a0_0, .int .i64 a0_1] 51 (0, 0)) (by (with_reducible repeat (first | refine blk_drewN ?_ _ | refine blk_drew ?_ | refine blk_alloc ?_ _)); exact BK108.out) hb); have n1_ := ak_ (below_step (by repeat (first | (with_reducible first | exact HB.out | apply below_alloc | apply pw_below_drewN | apply below_drew1 | refine below_set ?_ GE108.out) | exact HB.out)) hb); clear BK108; clear HB; have BK108 := n0_; have HB := n1_; clear n0_ n1_; (try clear hb); (try clear hb2); (try clear hk); (try clear hi); have hcz8_0 : w7.cell? ⟨gb108, 0, none⟩ = some (.int .i64 a0_0) := (blk_cell BK108.out 0).trans rfl; have hcz8_1 : w7.cell? ⟨gb108, 1, none⟩ = some (.int .i64 a0_1) := (blk_cell BK108.out 1).trans rfl; have hfz8_0 := blk_frozen BK108.out 0; have hfz8_1 := blk_frozen BK108.out 1) | ((with_reducible refine gate_callee (f := 29) rfl ?_); refine goesL_ (some 12) rfl rfl Tryz.func29 (by kernel_rfl) rfl #[.int .i64 1, .int .i64 a0_0, .int .i64 (wrap64 (-a0_1))] rfl (by (try simp only [List.map_toArray, List.map_cons, List.map_nil]); first | done | rfl | (simp only [List.length_drop, List.length_take]; rfl)) ?_; (with_reducible refine (word_Add.calls 1 a0_0 (wrap64 (-a0_1)) t110 t111 _ A4.out).mono ?_); rintro e w' ⟨rfl, ⟨nd, rfl⟩⟩; refine ⟨_, rfl, ?_⟩))
  go_ret2
  exact ⟨by first | rfl | (simp [errW_none, errW_some] <;> rfl) | (simp [*, errW_none, errW_some] <;> rfl), by repeat (first | (with_reducible first | exact HB.out | apply below_alloc | apply pw_below_drewN | apply below_drew1 | refine below_set ?_ GE108.out) | exact HB.out)⟩
 ·replace c3 := Bool.eq_false_iff.mpr c3
  subst c3
  have H1 : (some (0, 1)) = some (r1, r2) := by rw [if_neg (show ¬ (false = true) by decide)] at H; exact H
  clear H
  have H := H1
  clear H1
  simp only [Option.some.injEq, Prod.mk.injEq] at H
  obtain ⟨rfl, rfl⟩ := H
  go_enter Tryz.func11, Tryz.ntmps11
  go_wp2_with (first | ((with_reducible refine gate_dst (N := 1) rfl ?_); refine box_event ?hg (N := 1) ?hd (cs := #[.int .i64 a0_0, .int .i64 a0_1]) (t := 51) ?hr ?_; (case hd => rfl); (case hg => rfl); (case hr => first | (go_simp; done) | (go_simp; rfl)); intro gb108 hg w9 hbox hb; have n0_ := ak_ (below_step (by repeat (first | (with_reducible first | exact HB.out | apply below_alloc | apply pw_below_drewN | apply below_drew1) | exact HB.out)) hb); have n1_ := ak_ (hbox); have n2_ := ak_ ((by rw [hg]; exact (below_size (by repeat (first | (with_reducible first | exact HB.out | apply below_alloc | apply pw_below_drewN | apply below_drew1) | exact HB.out))) : w.heap.size ≤ gb108)); have n3_ := ak_ ((by rw [hg]; exact (below_size (by repeat (first | (with_reducible first | exact HB.out | apply below_alloc | apply pw_below_drewN | apply below_drew1) | exact HB.out))) : w.heap.size ≤ gb108)); clear HB; have HB := n0_; have BK108 := n1_; have GW108 := n2_; have GE108 := n3_; clear n0_ n1_ n2_ n3_; clear hb hbox hg; have hcz10_0 : w9.cell? ⟨gb108, 0, none⟩ = some (.int .i64 a0_0) := (blk_cell BK108.out 0).trans rfl; have hcz10_1 : w9.cell? ⟨gb108, 1, none⟩ = some (.int .i64 a0_1) := (blk_cell BK108.out 1).trans rfl; have hfz10_0 := blk_frozen BK108.out 0; have hfz10_1 := blk_frozen BK108.out 1) | ((with_reducible refine gate_callee (f := 28) rfl ?_); refine goesL_ (some 5) rfl rfl Tryz.func28 (by kernel_rfl) rfl #[.agg #[.int .i64 a0_0, .int .i64 a0_1]] rfl (by (try simp only [List.map_toArray, List.map_cons, List.map_nil]); first | done | rfl | (simp only [List.length_drop, List.length_take]; rfl)) ?_; (with_reducible refine (spin_Right.calls a0_0 a0_1 false _ A2.out).mono ?_); rintro e w11 ⟨rfl, hb⟩; refine ⟨_, rfl, ?_⟩; have n0_ := ak_ (blk_below (g := gb108) (o := .cells #[.int .i64 a0_0, .int .i64 a0_1] 51 (0, 0)) (by (with_reducible repeat (first | refine blk_drewN ?_ _ | refine blk_drew ?_ | refine blk_alloc ?_ _)); exact BK108.out) hb); have n1_ := ak_ (below_step (by repeat (first | (with_reducible first | exact HB.out | apply below_alloc | apply pw_below_drewN | apply below_drew1 | refine below_set ?_ GE108.out) | exact HB.out)) hb); clear BK108; clear HB; have BK108 := n0_; have HB := n1_; clear n0_ n1_; (try clear hb); (try clear hb2); (try clear hk); (try clear hi)))
  go_ret2
  exact ⟨by first | rfl | (simp [errW_none, errW_some] <;> rfl) | (simp [*, errW_none, errW_some] <;> rfl), by repeat (first | (with_reducible first | exact HB.out | apply below_alloc | apply pw_below_drewN | apply below_drew1 | refine below_set ?_ GE108.out) | exact HB.out)⟩
theorem Turn_no (n s m : Int) (w : World) (h0 : spin_Right.f n s = some false) :
  Calls Tryz.prog 124 #[.agg #[.int .i64 n, .int .i64 s], .int .i64 m] w fun e w' => e = .returned (.tuple #[.bool false, .int .i64 1]) ∧ Below w.heap.size w w' := by
 have A := ak_ h0
 clear h0
 have hu := Tryz.underlying51
 go_enter Tryz.func124, Tryz.ntmps124
 go_wp2_with (go_at_call 28; refine (spin_Right.calls n s _ _ A.out).mono ?_; rintro e w1 ⟨rfl, hb⟩)
 go_ret2
 exact ⟨rfl, ((Below.refl _ _).alloc (Nat.le_refl _) _).trans (hb.mono (by simp))⟩
theorem Turn_yes (n s m : Int) (w : World) (h0 : spin_Right.f n s = some true) :
  Calls Tryz.prog 124 #[.agg #[.int .i64 n, .int .i64 s], .int .i64 m] w fun e w' => e = .returned (.tuple #[.bool (m == s), .int .i64 0]) ∧ Below w.heap.size w w' := by
 have A := ak_ h0
 clear h0
 have hu := Tryz.underlying51
 have hmf : ∀ (fn : Fn) (first cap : Array Value) (w : World), (Instr.makeFunc fn first cap).run Tryz.prog w = .ok (.func fn first cap) w := fun _ _ _ _ => rfl
 go_enter Tryz.func124, Tryz.ntmps124
 go_wp2_with fail
 refine (spin_Right.calls n s _ _ A.out).mono ?_
 rintro e w1 ⟨rfl, hb⟩
 have B0 := ak_ (blk_below (blk_new w (.cells #[.int .i64 n, .int .i64 s] 51)) hb)
 have c0 : w1.cell? ⟨w.heap.size, 0, none⟩ = some (.int .i64 n) := blk_cell B0.out 0
 have c1 : w1.cell? ⟨w.heap.size, 1, none⟩ = some (.int .i64 s) := blk_cell B0.out 1
 have hz : w.heap.size < w1.heap.size := by have := hb.size; simp at this; omega
 go_wp2
 go_ret2
 exact ⟨rfl, (((Below.refl _ _).alloc (Nat.le_refl _) _).trans (hb.mono (by simp))).alloc (Nat.le_of_lt hz) _⟩
theorem fin2 {w w1 : World} {X Y : Obj} (hb : Below ((w.alloc X).alloc Y).heap.size ((w.alloc X).alloc Y) w1) : Below w.heap.size w w1 :=
 (((Below.refl _ _).alloc (Nat.le_refl _) X).alloc (by simp) Y).trans (hb.mono (by simp; omega))
theorem box0 {w w1 : World} {X : Array Value} {T : TypeId} {Y : Obj} (hb : Below ((w.alloc (.cells X T)).alloc Y).heap.size ((w.alloc (.cells X T)).alloc Y) w1) : w1.heap[w.heap.size]? = some (.cells X T (0, 0)) :=
 blk_below (blk_alloc (blk_new w (.cells X T)) Y) hb
theorem box1 {w w1 : World} {Y : Array Value} {T : TypeId} {X : Obj} (hb : Below ((w.alloc X).alloc (.cells Y T)).heap.size ((w.alloc X).alloc (.cells Y T)) w1) : w1.heap[w.heap.size + 1]? = some (.cells Y T (0, 0)) := by
 have := blk_below (blk_new (w.alloc X) (.cells Y T)) hb
 simpa using this
theorem Done_bad (n s o b : Int) (w : World) (h0 : spin_Out.f n s = some (o, b)) (hb0 : (b != 0) = true) :
  Calls Tryz.prog 162 #[.agg #[.int .i64 n, .int .i64 s]] w fun e w' => e = .returned (.tuple #[.agg #[.int .i64 0, .int .i64 0], .int .i64 b]) ∧ Below w.heap.size w w' := by
 have A := ak_ h0
 clear h0
 have hu := Tryz.underlying51
 go_enter Tryz.func162, Tryz.ntmps162
 go_wp2_with fail
 refine (spin_Out.calls n s _ _ _ A.out).mono ?_
 rintro e w1 ⟨rfl, hb⟩
 have B1 := ak_ (box1 hb)
 have c0 : w1.cell? ⟨w.heap.size + 1, 0, none⟩ = some (.int .i64 0) := blk_cell B1.out 0
 have c1 : w1.cell? ⟨w.heap.size + 1, 1, none⟩ = some (.int .i64 0) := blk_cell B1.out 1
 have f0 : w1.frozen? ⟨w.heap.size + 1, 0, none⟩ = false := blk_frozen B1.out 0
 have f1 : w1.frozen? ⟨w.heap.size + 1, 1, none⟩ = false := blk_frozen B1.out 1
 have hz : w.heap.size + 1 < w1.heap.size := by have := hb.size; simp at this; omega
 go_wp2
 refine bodyPost_ret (results_ct rfl _ _ (w.heap.size + 1) 51 #[.int .i64 0, .int .i64 0] (0, 0) _ rfl (blk_put (blk_put B1.out 0 _ rfl) 1 _ rfl) Tryz.underlying51 rfl (by kernel_rfl)) rfl ⟨rfl, ?_⟩
 exact ((fin2 hb).setCell (by simp) _).setCell (by simp) _
theorem Done_none (n s : Int) (w : World) (h0 : spin_Out.f n s = some (0, 0)) :
  Calls Tryz.prog 162 #[.agg #[.int .i64 n, .int .i64 s]] w fun e w' => e = .returned (.tuple #[.agg #[.int .i64 0, .int .i64 0], .int .i64 6]) ∧ Below w.heap.size w w' := by
 have A := ak_ h0
 clear h0
 have hu := Tryz.underlying51
 go_enter Tryz.func162, Tryz.ntmps162
 go_wp2_with fail
 refine (spin_Out.calls n s _ _ _ A.out).mono ?_
 rintro e w1 ⟨rfl, hb⟩
 have B1 := ak_ (box1 hb)
 have c0 : w1.cell? ⟨w.heap.size + 1, 0, none⟩ = some (.int .i64 0) := blk_cell B1.out 0
 have c1 : w1.cell? ⟨w.heap.size + 1, 1, none⟩ = some (.int .i64 0) := blk_cell B1.out 1
 have f0 : w1.frozen? ⟨w.heap.size + 1, 0, none⟩ = false := blk_frozen B1.out 0
 have f1 : w1.frozen? ⟨w.heap.size + 1, 1, none⟩ = false := blk_frozen B1.out 1
 have hz : w.heap.size + 1 < w1.heap.size := by have := hb.size; simp at this; omega
 go_wp2
 refine bodyPost_ret (results_ct rfl _ _ (w.heap.size + 1) 51 #[.int .i64 0, .int .i64 0] (0, 0) _ rfl (blk_put (blk_put B1.out 0 _ rfl) 1 _ rfl) Tryz.underlying51 rfl (by kernel_rfl)) rfl ⟨rfl, ?_⟩
 exact ((fin2 hb).setCell (by simp) _).setCell (by simp) _
theorem Done_good (n s o s' q : Int) (w : World) (h0 : spin_Out.f n s = some (o, 0)) (ho : (o == 0) = false) (h1 : word_Add.f 1 s 1 = some (s', q)) :
  Calls Tryz.prog 162 #[.agg #[.int .i64 n, .int .i64 s]] w fun e w' => e = .returned (.tuple #[.agg #[.int .i64 n, .int .i64 s'], .int .i64 0]) ∧ Below w.heap.size w w' := by
 have A := ak_ h0
 have A1 := ak_ h1
 clear h0 h1
 have hu := Tryz.underlying51
 go_enter Tryz.func162, Tryz.ntmps162
 go_wp2_with fail
 refine (spin_Out.calls n s _ _ _ A.out).mono ?_
 rintro e w1 ⟨rfl, hb⟩
 have B0 := ak_ (box0 hb)
 have B1 := ak_ (box1 hb)
 have a0 : w1.cell? ⟨w.heap.size, 0, none⟩ = some (.int .i64 n) := blk_cell B0.out 0
 have a1 : w1.cell? ⟨w.heap.size, 1, none⟩ = some (.int .i64 s) := blk_cell B0.out 1
 have c0 : w1.cell? ⟨w.heap.size + 1, 0, none⟩ = some (.int .i64 0) := blk_cell B1.out 0
 have c1 : w1.cell? ⟨w.heap.size + 1, 1, none⟩ = some (.int .i64 0) := blk_cell B1.out 1
 have f0 : w1.frozen? ⟨w.heap.size + 1, 0, none⟩ = false := blk_frozen B1.out 0
 have f1 : w1.frozen? ⟨w.heap.size + 1, 1, none⟩ = false := blk_frozen B1.out 1
 have hz : w.heap.size + 1 < w1.heap.size := by have := hb.size; simp at this; omega
 go_wp2_with (first | (go_at_call 29; refine (word_Add.calls 1 s 1 _ _ _ A1.out).mono ?_; rintro e w' ⟨rfl, ⟨nd, rfl⟩⟩) | go_in)
 go_end0
 go_wp2
 refine bodyPost_ret (results_ct rfl _ _ (w.heap.size + 1) 51 #[.int .i64 n, .int .i64 s'] (0, 0) _ rfl (blk_put (blk_put (blk_far (blk_drewN (blk_alloc B1.out _) nd) (p := ⟨w1.heap.size, 1, none⟩) (Nat.ne_of_lt hz) _) 0 _ rfl) 1 _ rfl) Tryz.underlying51 rfl (by kernel_rfl)) rfl ⟨rfl, ?_⟩
 exact (((pw_below_drewN ((fin2 hb).alloc (by omega) _) nd).setCell (by simp; omega) _).setCell (by simp) _).setCell (by simp) _
theorem Draw_closure (n s n' q : Int) (d p g : Nat) (u : FrameMode) (w : World) (h1 : word_Add.f 1 n 1 = some (n', q)) (hd0 : w.heap[d]? = some (.cells #[.int .i64 n, .int .i64 s] 211 (0, 0))) (hp0 : w.heap[p]? = some (.cells #[.pointer (some ⟨d, 0, none⟩)] 209 (0, 0)))
  (v0 v1 : Value) (hg0 : w.heap[g]? = some (.cells #[v0, v1] 51 (0, 0))) (B : Nat) (hBd : B ≤ d) (hBg : B ≤ g) :
  CallsD Tryz.prog 156 #[.pointer (some ⟨p, 0, none⟩), .pointer (some ⟨g, 0, none⟩)] u w fun e u' w' => u' = u ∧ (e = .returned (.tuple #[]) ∧ w'.heap[g]? = some (.cells #[.int .i64 n', .int .i64 s] 51 (0, 0)) ∧ Below B w w') := by
 have A1 := ak_ h1
 have hdg : d ≠ g := blk_ne hd0 hg0 (by decide)
 have hdp : d ≠ p := blk_ne hd0 hp0 (by decide)
 have hpg : p ≠ g := blk_ne hp0 hg0 (by decide)
 have Hd := ak_ hd0
 have Hg := ak_ hg0
 have a0 : w.cell? ⟨d, 0, none⟩ = some (.int .i64 n) := blk_cell hd0 0
 have a1 : w.cell? ⟨d, 1, none⟩ = some (.int .i64 s) := blk_cell hd0 1
 have b0 : w.cell? ⟨p, 0, none⟩ = some (.pointer (some ⟨d, 0, none⟩)) := blk_cell hp0 0
 have c0 : w.cell? ⟨g, 0, none⟩ = some v0 := blk_cell hg0 0
 have c1 : w.cell? ⟨g, 1, none⟩ = some v1 := blk_cell hg0 1
 have f0 : w.frozen? ⟨d, 0, none⟩ = false := blk_frozen hd0 0
 have g0 : w.frozen? ⟨g, 0, none⟩ = false := blk_frozen hg0 0
 have g1 : w.frozen? ⟨g, 1, none⟩ = false := blk_frozen hg0 1
 have hu := Tryz.underlying51
 clear h1 hd0 hp0 hg0
 go_enter_d Tryz.func156, Tryz.ntmps156
 go_wp2_with (first | (go_at_call 29; refine (word_Add.calls 1 n 1 _ _ _ A1.out).mono ?_; rintro e w' ⟨rfl, ⟨nd, rfl⟩⟩) | go_in)
 go_end0
 go_wp2
 go_end0
 exact ⟨rfl, blk_put (blk_put (blk_far (blk_drewN Hg.out nd) (p := ⟨d, 0, none⟩) hdg.symm _) 0 _ rfl) 1 _ rfl, (((pw_below_drewN (Below.refl B w) nd).setCell hBd _).setCell hBg _).setCell hBg _⟩
theorem Draw_good (n s o n' q : Int) (w : World) (h0 : spin_Out.f n s = some (o, 0)) (ho : (o == 4294967295) = false) (h1 : word_Add.f 1 n 1 = some (n', q)) :
  Calls Tryz.prog 123 #[.agg #[.int .i64 n, .int .i64 s]] w fun e w' => e = .returned (.tuple #[.agg #[.int .i64 n', .int .i64 s], .int .i64 n, .int .i64 0]) ∧ Below w.heap.size w w' := by
 have A := ak_ h0
 have A1 := ak_ h1
 clear h0 h1
 have hu := Tryz.underlying51
 have hmf : ∀ (fn : Fn) (first cap : Array Value) (w : World), (Instr.makeFunc fn first cap).run Tryz.prog w = .ok (.func fn first cap) w := fun _ _ _ _ => rfl
 go_enter_defers Tryz.func123, Tryz.ntmps123
 go_wp2_with fail
 refine (spin_Out.calls n s _ _ _ A.out).mono ?_
 rintro e w1 ⟨rfl, hb⟩
 have B0 := ak_ (box0 hb)
 have B1 := ak_ (box1 hb)
 have a0 : w1.cell? ⟨w.heap.size, 0, none⟩ = some (.int .i64 n) := blk_cell B0.out 0
 have a1 : w1.cell? ⟨w.heap.size, 1, none⟩ = some (.int .i64 s) := blk_cell B0.out 1
 have c0 : w1.cell? ⟨w.heap.size + 1, 0, none⟩ = some (.int .i64 0) := blk_cell B1.out 0
 have c1 : w1.cell? ⟨w.heap.size + 1, 1, none⟩ = some (.int .i64 0) := blk_cell B1.out 1
 have f0 : w1.frozen? ⟨w.heap.size + 1, 0, none⟩ = false := blk_frozen B1.out 0
 have f1 : w1.frozen? ⟨w.heap.size + 1, 1, none⟩ = false := blk_frozen B1.out 1
 have hz : w.heap.size + 1 < w1.heap.size := by have := hb.size; simp at this; omega
 go_wp2
 have C0 := ak_ (blk_alloc (blk_alloc B0.out (.cells #[.int .i64 n, .int .i64 s] 211)) (.cells #[.pointer (some ⟨w1.heap.size, 0, none⟩)] 209))
 have C1 := ak_ (blk_alloc (blk_alloc B1.out (.cells #[.int .i64 n, .int .i64 s] 211)) (.cells #[.pointer (some ⟨w1.heap.size, 0, none⟩)] 209))
 have C2 := ak_ (blk_alloc (blk_new w1 (.cells #[.int .i64 n, .int .i64 s] 211)) (.cells #[.pointer (some ⟨w1.heap.size, 0, none⟩)] 209))
 have C3 : Aside0 (((w1.alloc (.cells #[.int .i64 n, .int .i64 s] 211)).alloc (.cells #[.pointer (some ⟨w1.heap.size, 0, none⟩)] 209)).heap[w1.heap.size + 1]? = some (.cells #[.pointer (some ⟨w1.heap.size, 0, none⟩)] 209 (0, 0))) := ak_ (by have := blk_new (w1.alloc (.cells #[.int .i64 n, .int .i64 s] 211)) (.cells #[.pointer (some ⟨w1.heap.size, 0, none⟩)] 209); simpa using this)
 have HB := ak_ (((fin2 hb).alloc (by omega) (.cells #[.int .i64 n, .int .i64 s] 211)).alloc (by simp; omega) (.cells #[.pointer (some ⟨w1.heap.size, 0, none⟩)] 209))
 generalize ((w1.alloc (.cells #[.int .i64 n, .int .i64 s] 211)).alloc (.cells #[.pointer (some ⟨w1.heap.size, 0, none⟩)] 209)) = W2 at *
 clear a0 a1 c0 c1 f0 f1
 have a0 : W2.cell? ⟨w.heap.size, 0, none⟩ = some (.int .i64 n) := blk_cell C0.out 0
 have a1 : W2.cell? ⟨w.heap.size, 1, none⟩ = some (.int .i64 s) := blk_cell C0.out 1
 have c0 : W2.cell? ⟨w.heap.size + 1, 0, none⟩ = some (.int .i64 0) := blk_cell C1.out 0
 have c1 : W2.cell? ⟨w.heap.size + 1, 1, none⟩ = some (.int .i64 0) := blk_cell C1.out 1
 have f0 : W2.frozen? ⟨w.heap.size + 1, 0, none⟩ = false := blk_frozen C1.out 0
 have f1 : W2.frozen? ⟨w.heap.size + 1, 1, none⟩ = false := blk_frozen C1.out 1
 go_region
 all_goals go_wp2
 all_goals
  have n1 : w1.heap.size ≠ w.heap.size + 1 := by omega
  have n2 : w1.heap.size + 1 ≠ w.heap.size + 1 := by omega
  have D2 := ak_ (blk_drew (blk_far (blk_far C2.out (p := ⟨w.heap.size + 1, 0, none⟩) n1 (.int .i64 n)) (p := ⟨w.heap.size + 1, 1, none⟩) n1 (.int .i64 s)))
  have D3 := ak_ (blk_drew (blk_far (blk_far C3.out (p := ⟨w.heap.size + 1, 0, none⟩) n2 (.int .i64 n)) (p := ⟨w.heap.size + 1, 1, none⟩) n2 (.int .i64 s)))
  have D1 := ak_ (blk_drew (blk_put (blk_put C1.out 0 (.int .i64 n) rfl) 1 (.int .i64 s) rfl))
  have HB2 := ak_ (below_drew ((HB.out.setCell (p := ⟨w.heap.size + 1, 0, none⟩) (by simp) (.int .i64 n)).setCell (p := ⟨w.heap.size + 1, 1, none⟩) (by simp) (.int .i64 s)))
  refine leaves_cons (f := 156) (args := #[.pointer (some ⟨w1.heap.size + 1, 0, none⟩), .pointer (some ⟨w.heap.size + 1, 0, none⟩)]) (by simp) (by simp [go_sem]) ?_
  refine (Draw_closure n s n' q w1.heap.size (w1.heap.size + 1) (w.heap.size + 1) _ _ A1.out D2.out D3.out _ _ D1.out w.heap.size (by omega) (by omega)).mono ?_
  rintro e u' w2 ⟨rfl, rfl, hblk, hbel⟩
  exact ⟨_, results_ctt rfl _ _ (w.heap.size + 1) 51 #[.int .i64 n', .int .i64 s] (0, 0) _ rfl hblk Tryz.underlying51 rfl (by kernel_rfl), rfl, HB2.out.trans hbel⟩
theorem Draw_bad (n s o b : Int) (w : World) (h0 : spin_Out.f n s = some (o, b)) (hb0 : (b != 0) = true) :
  Calls Tryz.prog 123 #[.agg #[.int .i64 n, .int .i64 s]] w fun e w' => e = .returned (.tuple #[.agg #[.int .i64 0, .int .i64 0], .int .i64 0, .int .i64 b]) ∧ Below w.heap.size w w' := by
 have A := ak_ h0
 clear h0
 have hu := Tryz.underlying51
 go_enter_defers Tryz.func123, Tryz.ntmps123
 go_wp2_with fail
 refine (spin_Out.calls n s _ _ _ A.out).mono ?_
 rintro e w1 ⟨rfl, hb⟩
 have B1 := ak_ (box1 hb)
 have c0 : w1.cell? ⟨w.heap.size + 1, 0, none⟩ = some (.int .i64 0) := blk_cell B1.out 0
 have c1 : w1.cell? ⟨w.heap.size + 1, 1, none⟩ = some (.int .i64 0) := blk_cell B1.out 1
 have f0 : w1.frozen? ⟨w.heap.size + 1, 0, none⟩ = false := blk_frozen B1.out 0
 have f1 : w1.frozen? ⟨w.heap.size + 1, 1, none⟩ = false := blk_frozen B1.out 1
 have hz : w.heap.size + 1 < w1.heap.size := by have := hb.size; simp at this; omega
 go_wp2
 exact ⟨_, results_ctt rfl _ _ (w.heap.size + 1) 51 #[.int .i64 0, .int .i64 0] (0, 0) _ rfl (blk_put (blk_put B1.out 0 _ rfl) 1 _ rfl) Tryz.underlying51 rfl (by kernel_rfl), rfl, ((fin2 hb).setCell (by simp) _).setCell (by simp) _⟩
theorem Draw_full (n s : Int) (w : World) (h0 : spin_Out.f n s = some (4294967295, 0)) :
  Calls Tryz.prog 123 #[.agg #[.int .i64 n, .int .i64 s]] w fun e w' => e = .returned (.tuple #[.agg #[.int .i64 0, .int .i64 0], .int .i64 0, .int .i64 5]) ∧ Below w.heap.size w w' := by
 have A := ak_ h0
 clear h0
 have hu := Tryz.underlying51
 go_enter_defers Tryz.func123, Tryz.ntmps123
 go_wp2_with fail
 refine (spin_Out.calls n s _ _ _ A.out).mono ?_
 rintro e w1 ⟨rfl, hb⟩
 have B1 := ak_ (box1 hb)
 have c0 : w1.cell? ⟨w.heap.size + 1, 0, none⟩ = some (.int .i64 0) := blk_cell B1.out 0
 have c1 : w1.cell? ⟨w.heap.size + 1, 1, none⟩ = some (.int .i64 0) := blk_cell B1.out 1
 have f0 : w1.frozen? ⟨w.heap.size + 1, 0, none⟩ = false := blk_frozen B1.out 0
 have f1 : w1.frozen? ⟨w.heap.size + 1, 1, none⟩ = false := blk_frozen B1.out 1
 have hz : w.heap.size + 1 < w1.heap.size := by have := hb.size; simp at this; omega
 go_wp2
 exact ⟨_, results_ctt rfl _ _ (w.heap.size + 1) 51 #[.int .i64 0, .int .i64 0] (0, 0) _ rfl (blk_put (blk_put B1.out 0 _ rfl) 1 _ rfl) Tryz.underlying51 rfl (by kernel_rfl), rfl, ((fin2 hb).setCell (by simp) _).setCell (by simp) _⟩
def spin_Draw.f (a0_0 : Int) (a0_1 : Int) : Option (Int × Int × Int × Int) := (spin_Out.f a0_0 a0_1).bind fun t => (if t.2 = 0 then (if t.1 = 4294967295 then (some (0, 0, 0, 5)) else ((word_Add.f 1 a0_0 1).bind fun u => (some (u.1, a0_1, a0_0, 0)))) else (some (0, 0, 0, t.2)))
theorem spin_Draw.calls (a0_0 : Int) (a0_1 : Int) (r1 : Int) (r2 : Int) (r3 : Int) (r4 : Int) (w : World) (h : spin_Draw.f a0_0 a0_1 = some (r1, r2, r3, r4)) :
  Calls Tryz.prog 123 #[.agg #[.int .i64 a0_0, .int .i64 a0_1]] w fun e w' => e = .returned (.tuple #[.agg #[.int .i64 r1, .int .i64 r2], .int .i64 r3, .int .i64 r4]) ∧ Below w.heap.size w w' := by
 obtain ⟨⟨o, b⟩, ho, h⟩ := Option.bind_eq_some_iff.mp h
 by_cases hb : b = 0
 ·subst hb
  simp only [if_true] at h
  by_cases hf : o = 4294967295
  ·subst hf
   simp only [if_true, Option.some.injEq, Prod.mk.injEq] at h
   obtain ⟨rfl, rfl, rfl, rfl⟩ := h
   exact Draw_full a0_0 a0_1 w ho
  ·rw [if_neg hf] at h
   obtain ⟨⟨n', q⟩, hq, h⟩ := Option.bind_eq_some_iff.mp h
   simp only [Option.some.injEq, Prod.mk.injEq] at h
   obtain ⟨rfl, rfl, rfl, rfl⟩ := h
   exact Draw_good a0_0 a0_1 o n' q w ho (beq_eq_false_iff_ne.2 hf) hq
 ·simp only [if_neg hb, Option.some.injEq, Prod.mk.injEq] at h
  obtain ⟨rfl, rfl, rfl, rfl⟩ := h
  exact Draw_bad a0_0 a0_1 o b w ho (bne_iff_ne.2 hb)
def spin_Done.f (a0_0 : Int) (a0_1 : Int) : Option (Int × Int × Int) := (spin_Out.f a0_0 a0_1).bind fun t => (if t.2 = 0 then (if t.1 = 0 then (some (0, 0, 6)) else ((word_Add.f 1 a0_1 1).bind fun u => (some (a0_0, u.1, 0)))) else (some (0, 0, t.2)))
theorem spin_Done.calls (a0_0 : Int) (a0_1 : Int) (r1 : Int) (r2 : Int) (r3 : Int) (w : World) (h : spin_Done.f a0_0 a0_1 = some (r1, r2, r3)) :
  Calls Tryz.prog 162 #[.agg #[.int .i64 a0_0, .int .i64 a0_1]] w fun e w' => e = .returned (.tuple #[.agg #[.int .i64 r1, .int .i64 r2], .int .i64 r3]) ∧ Below w.heap.size w w' := by
 obtain ⟨⟨o, b⟩, ho, h⟩ := Option.bind_eq_some_iff.mp h
 by_cases hb : b = 0
 ·subst hb
  simp only [if_true] at h
  by_cases hf : o = 0
  ·subst hf
   simp only [if_true, Option.some.injEq, Prod.mk.injEq] at h
   obtain ⟨rfl, rfl, rfl⟩ := h
   exact Done_none a0_0 a0_1 w ho
  ·rw [if_neg hf] at h
   obtain ⟨⟨s', q⟩, hq, h⟩ := Option.bind_eq_some_iff.mp h
   simp only [Option.some.injEq, Prod.mk.injEq] at h
   obtain ⟨rfl, rfl, rfl⟩ := h
   exact Done_good a0_0 a0_1 o s' q w ho (beq_eq_false_iff_ne.2 hf) hq
 ·simp only [if_neg hb, Option.some.injEq, Prod.mk.injEq] at h
  obtain ⟨rfl, rfl, rfl⟩ := h
  exact Done_bad a0_0 a0_1 o b w ho (bne_iff_ne.2 hb)
def spin_Turn.f (a0_0 : Int) (a0_1 : Int) (a1 : Int) : Option (Bool × Int) := (spin_Right.f a0_0 a0_1).bind fun t => (if t = true then (some (a1 == a0_1, 0)) else (some (false, 1)))
theorem spin_Turn.calls (a0_0 : Int) (a0_1 : Int) (a1 : Int) (r1 : Bool) (r2 : Int) (w : World) (h : spin_Turn.f a0_0 a0_1 a1 = some (r1, r2)) :
  Calls Tryz.prog 124 #[.agg #[.int .i64 a0_0, .int .i64 a0_1], .int .i64 a1] w fun e w' => e = .returned (.tuple #[.bool r1, .int .i64 r2]) ∧ Below w.heap.size w w' := by
 obtain ⟨t, ht, h⟩ := Option.bind_eq_some_iff.mp h
 cases t with
 | true =>
  simp only [if_true, Option.some.injEq, Prod.mk.injEq] at h
  obtain ⟨rfl, rfl⟩ := h
  exact Turn_yes a0_0 a0_1 a1 w ht
 | false =>
  simp only [Bool.false_eq_true, if_false, Option.some.injEq, Prod.mk.injEq] at h
  obtain ⟨rfl, rfl⟩ := h
  exact Turn_no a0_0 a0_1 a1 w ht
end Go.Proofs.YtoimfknjfeencaaGreatDoor.Hand
end
