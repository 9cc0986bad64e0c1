/- Part of the walk of a law of the top, and what it leans on (LinePure, Tab, Acq, Acq2, Rel, Meth2, Meth3). No conditions beyond those that each lemma names. -/
import Derived.Test.YtoimfknjfeencaaGreatDoorZ16
import Derived.Test.YtoimfknjfeencaaGreatDoorZ10
import Derived.Test.YtoimfknjfeencaaGreatDoorZ11
set_option linter.unusedVariables false
set_option linter.unusedSimpArgs false
set_option maxHeartbeats 8000000
set_option maxRecDepth 100000
section
namespace Go.Proofs.YtoimfknjfeencaaGreatDoor.Hand
open Go.RowKit Go.Proofs.YtoimfknjfeencaaGreatDoorW.PrintWords Go.Proofs.YtoimfknjfeencaaGreatDoorW.PrintLast Go.Proofs.YtoimfknjfeencaaGreatDoorW.PrintMore
theorem one64 (i : Nat) (h : i ≤ 100000) : wrap64 ((i : Int) + 1) = ((i + 1 : Nat) : Int) := by unfold wrap64; omega
theorem drop_cons (l : List Int) (i : Nat) (h : i < l.length) : l.drop i = rd l i :: l.drop (i + 1) := by rw [List.drop_eq_getElem_cons h, rd_get l i h]
theorem index_loop (l : List Int) (x : Int) (hl : l.length ≤ 1000) (d : Nat) : ∀ (i k : Nat), i + d = l.length → d < k → slices_Index_int_int.l0 k l x l.length i = some (if x ∈ l.drop i then ((i + (l.drop i).idxOf x : Nat) : Int) else -1) := by
 induction d with
 | zero =>
  intro i k hi hk
  obtain ⟨k, rfl⟩ : ∃ m, k = m + 1 := ⟨k - 1, by omega⟩
  simp only [slices_Index_int_int.l0]
  rw [if_neg (by omega), List.drop_eq_nil_of_le (by omega)]
  simp
 | succ d ih =>
  intro i k hi hk
  obtain ⟨k, rfl⟩ : ∃ m, k = m + 1 := ⟨k - 1, by omega⟩
  simp only [slices_Index_int_int.l0]
  rw [if_pos (by omega), if_pos (by omega), if_pos (by omega), drop_cons l i (by omega), one64 i (by omega)]
  by_cases hx : x = rd l i
  ·rw [if_pos hx, ← hx]; simp
  ·have hx' : ¬ rd l i = x := fun q => hx q.symm
   rw [if_neg hx, ih (i + 1) k (by omega) (by omega)]
   by_cases hm : x ∈ l.drop (i + 1)
   ·rw [if_pos hm, if_pos (List.mem_cons_of_mem _ hm), show (rd l i :: l.drop (i + 1)).idxOf x = (l.drop (i + 1)).idxOf x + 1 from by rw [List.idxOf_cons, show (rd l i == x) = false from beq_eq_false_iff_ne.2 hx']; rfl]
    congr 1
    omega
   ·rw [if_neg hm, if_neg (by simp [hx, hm])]
theorem index_f (l : List Int) (x : Int) (hl : l.length ≤ 1000) (k : Nat) (hk : l.length < k) : slices_Index_int_int.f k l x = some (if x ∈ l then (l.idxOf x : Int) else -1) := by
 have h := index_loop l x hl l.length 0 k (by omega) hk
 unfold slices_Index_int_int.f
 simpa using h
theorem contains_f (l : List Int) (x : Int) (hl : l.length ≤ 1000) (k : Nat) (hk : l.length < k) : slices_Contains_int_int.f k l x = some (decide (x ∈ l)) := by
 unfold slices_Contains_int_int.f
 rw [index_f l x hl k hk]
 simp only [Option.bind_some]
 by_cases h : x ∈ l
 ·rw [if_pos h, decide_eq_true h, decide_eq_true (by omega)]
 ·rw [if_neg h, decide_eq_false h, decide_eq_false (by omega)]
theorem joined_f (a b : List Int) (ha : a.length ≤ 1000) (hb : b.length ≤ 1000) (k : Nat) (hk : 2 < k) : line_joined.f k [a, b] = some (a ++ b) := by
 obtain ⟨k, rfl⟩ : ∃ m, k = m + 3 := ⟨k - 3, by omega⟩
 have w1 : wrap64 (0 + 1) = 1 := by unfold wrap64; omega
 have w2 : wrap64 (1 + 1) = 2 := by unfold wrap64; omega
 have r0 : rd_L1 [a, b] 0 = a := rfl
 have r1 : rd_L1 [a, b] 1 = b := rfl
 have l2 : (([a, b] : List (List Int)).length : Int) = 2 := rfl
 have h1 : ([] : List Int).length + a.length < 17592186044416 := by simp; omega
 have h2 : ([] ++ a : List Int).length + b.length < 17592186044416 := by simp; omega
 simp only [line_joined.f, line_joined.l0, l2]
 rw [if_pos (by omega), if_pos (by omega), if_pos (by omega), r0, if_pos h1, w1, if_pos (by omega), if_pos (by omega), if_pos (by omega), r1, if_pos h2, w2, if_neg (by omega)]
 rfl
theorem okLine_len {l : List Int} (h : okLine l = true) : l.length ≤ 64 := (of_decide_eq_true h).2.2
theorem okLine_nodup {l : List Int} (h : okLine l = true) : l.Nodup := (of_decide_eq_true h).1
theorem okLine_pos {l : List Int} (h : okLine l = true) : ∀ x ∈ l, 0 ≤ x := (of_decide_eq_true h).2.1
theorem okLine_mk {l : List Int} (h1 : l.Nodup) (h2 : ∀ x ∈ l, 0 ≤ x) (h3 : l.length ≤ 64) : okLine l = true := decide_eq_true ⟨h1, h2, h3⟩
def pushed (l : List Int) (who : Int) (first : Bool) : List Int × Int :=
 if okLine l = true ∧ 0 ≤ who then (if who ∈ l then ([], 7) else if l.length = 64 then ([], 5) else (if first = true then who :: l else l ++ [who], 0)) else ([], 1)
theorem push_f (l : List Int) (who : Int) (first : Bool) (hl : l.length ≤ 1000) (k : Nat) (hk : l.length + 5 < k) : line_Push.f k l who first = some (pushed l who first) := by
 obtain ⟨k, rfl⟩ : ∃ m, k = m + 1 := ⟨k - 1, by omega⟩
 unfold line_Push.f line_Right.f pushed
 simp only [Option.bind_some, line_Push.j0]
 by_cases ho : okLine l = true
 ·rw [if_pos ho]
  by_cases hw : 0 ≤ who
  ·rw [decide_eq_false (by omega), if_pos (show okLine l = true ∧ 0 ≤ who from ⟨ho, hw⟩), contains_f l who hl k (by omega)]
   simp only [Bool.false_eq_true, if_false, Option.bind_some]
   by_cases h : who ∈ l
   ·rw [if_pos h, decide_eq_true h]; simp
   ·rw [if_neg h, decide_eq_false h]
    simp only [Bool.false_eq_true, if_false]
    by_cases h64 : l.length = 64
    ·rw [if_pos h64, if_pos (by omega)]
    ·rw [if_neg h64, if_neg (by omega)]
     have hlen := okLine_len ho
     rw [joined_f [who] l (by simp) hl k (by omega), joined_f l [who] hl (by simp) k (by omega)]
     cases first <;> simp
  ·rw [decide_eq_true (by omega), if_neg (show ¬ (okLine l = true ∧ 0 ≤ who) from fun q => hw q.2)]; simp
 ·rw [if_neg ho, if_neg (show ¬ (okLine l = true ∧ 0 ≤ who) from fun q => ho q.1)]; simp
theorem okLine_sub {l a : List Int} (h : okLine l = true) (hs : a.Sublist l) : okLine a = true :=
 okLine_mk (List.Pairwise.sublist hs (okLine_nodup h)) (fun x hx => okLine_pos h x (hs.subset hx)) (Nat.le_trans hs.length_le (okLine_len h))
theorem pop_f (l : List Int) : line_Pop.f l = some (if okLine l = true then (if l = [] then ([], 0, 4) else (l.drop 1, rd l 0, 0)) else ([], 0, 1)) := by
 unfold line_Pop.f line_Right.f
 simp only [Option.bind_some]
 by_cases ho : okLine l = true
 ·rw [if_pos ho, if_pos ho]
  cases l with
  | nil => simp
  | cons x r =>
   have hl : ((x :: r).length : Int) = (r.length : Int) + 1 := by simp
   rw [if_neg (by omega), if_pos (by omega), if_pos (by omega), if_neg (by simp)]
 ·rw [if_neg ho, if_neg ho]
def Tb (S : Nat → Prop) (w : World) (v : Value) (t : List Spot) : Prop := ∀ W, Kept w W S → Sl kSpot W v t
theorem encV_inj {a b : VS} (h : encV a = encV b) : a = b := by
 obtain ⟨a1, a2, a3, a4, a5⟩ := a
 obtain ⟨b1, b2, b3, b4, b5⟩ := b
 simp only [encV, List.cons.injEq, Value.int.injEq, Value.slice.injEq, and_true, true_and] at h
 obtain ⟨rfl, rfl, rfl, rfl, rfl⟩ := h
 rfl
theorem kV_same {W : World} {A : Option Addr} {n : Nat} {xs ys : List VS} (h1 : kV.C W A n xs) (h2 : kV.C W A n ys) : xs = ys := by
 have hl : xs.length = ys.length := h1.1.trans h2.1.symm
 refine List.ext_getElem hl (fun i hx hy => ?_)
 have e1 : xs[i]? = some xs[i] := List.getElem?_eq_getElem hx
 have e2 : ys[i]? = some ys[i] := List.getElem?_eq_getElem hy
 obtain ⟨ad, e, c1⟩ := h1.2.2 (by have := h1.1; omega)
 obtain ⟨ad', e', c2⟩ := h2.2.2 (by have := h2.1; omega)
 rw [e] at e'
 cases e'
 obtain ⟨c, _, hK, hc⟩ := c1 i _ e1
 obtain ⟨d, _, hK', hd⟩ := c2 i _ e2
 have hK1 : c = encV xs[i] := hK
 have hK2 : d = encV ys[i] := hK'
 subst hK1
 subst hK2
 apply encV_inj
 refine List.ext_getElem (show 3 = 3 from rfl) ?_
 intro j hj hj'
 have := (hc j _ (List.getElem?_eq_getElem hj)).symm.trans (hd j _ (List.getElem?_eq_getElem hj'))
 exact Option.some.inj this
theorem tb_block {S : Nat → Prop} {w : World} {A : Option Addr} {n c : Nat} {t : List Spot} (h : Tb S w (.slice A n c) t) (hn : 0 < n) : ∃ ad, A = some ad ∧ ¬ S ad.block := by
 obtain ⟨A', c', e, hc, hC⟩ := h w (Kept.refl w S)
 cases e
 obtain ⟨s, r, rfl⟩ : ∃ s r, t = s :: r := by
  cases t with
  | nil => simp at hn
  | cons s r => exact ⟨s, r, rfl⟩
 obtain ⟨ad, A0, c0, rfl, y0, _, _⟩ := spot_cells hC 0 s rfl
 refine ⟨ad, rfl, fun hS => ?_⟩
 have hk : Kept w (w.setCell (ad.add (0 * 3)) (.bool true)) S := (Kept.refl w S).setCell (.inl (by rw [show (ad.add (0 * 3)).block = ad.block by unfold Addr.add; split <;> rfl]; exact hS)) _
 obtain ⟨A1, c1, e1, _, hC1⟩ := h _ hk
 cases e1
 obtain ⟨ad1, _, _, e2, z0, _, _⟩ := spot_cells hC1 0 s rfl
 cases e2
 rw [World.cell?_setCell_same w _ _ y0] at z0
 cases z0
theorem tb_fix {S : Nat → Prop} {w : World} {A : Option Addr} {c : Nat} {t : List Spot} {vs : List VS} (h : Tb S w (.slice A vs.length c) t) (hC : kV.C w A vs.length vs) : ∀ W, Kept w W S → kV.C W A vs.length vs ∧ VRow W vs t := by
 intro W hk
 obtain ⟨A', c', e, hc, hCt⟩ := h W hk
 have hcw : kV.C W A vs.length vs := by
  refine ⟨hC.1, hC.2.1, fun hn => ?_⟩
  obtain ⟨ad, e1, hS⟩ := tb_block h hn
  obtain ⟨ad', e2, hcc⟩ := hC.2.2 hn
  rw [e1] at e2
  cases e2
  refine ⟨ad, e1, fun i p hp => ?_⟩
  obtain ⟨cs, h1, h2, h3⟩ := hcc i p hp
  refine ⟨cs, h1, h2, fun j u hu => ?_⟩
  have hx := h3 j u hu
  have hlt := World.block_lt_of_cell? w _ hx
  have hb : (ad.add (i * kV.sz + j)).block = ad.block := by unfold Addr.add; split <;> rfl
  rw [hb] at hlt
  have := hk.2 ad.block hlt hS
  rw [← hb] at this
  rw [← hx]
  unfold World.cell?
  rw [this]
 injection e with eA en ec
 subst eA
 rw [← en] at hCt
 obtain ⟨ys, h1, h2⟩ := kSpot_to hCt
 rw [kV_same hcw h1]
 exact ⟨by rw [h1.1]; exact h1, h2⟩
theorem tb_new {S : Nat → Prop} {w' : World} {base : Nat} {v : Value} {ys : List VS} {t : List Spot} (hR : kV.R 87 w' base (fun _ => True) v ys) (hS : ∀ k, S k → k < base) (hv : ∀ W, Kept w' W S → VRow W ys t) : Tb S w' v t := by
 intro W hk
 have hR' : kV.R 87 W base (fun k => base ≤ k) v ys := Kd.R_kept (S := S) (Kd.R_mono (Kd.R_bound hR) (fun k h => h.2.1)) hk (fun k h1 h2 => by have := hS k h2; omega)
 obtain ⟨A, c, e, hc, hC⟩ := Kd.R_reads hR'
 have hl := (hv W hk).1
 exact ⟨A, c, by rw [e, hl], by rw [← hl]; exact hc, by rw [← hl]; exact kSpot_of (by exact hC) (hv W hk)⟩
def spotM (m : Nat) (y : M.Sem) : Spot := ⟨8 * (m : Int), y.count, y.line.map Int.ofNat⟩
theorem tb_open {S : Nat → Prop} {w : World} {v : Value} {L : List M.Sem} {m : Nat} {y : M.Sem} (hT : Tb S w v (tableOf L)) (hy : L[m]? = some y) :
  ∃ A c vs, v = .slice A vs.length c ∧ vs.length ≤ c ∧ kV.C w A vs.length vs ∧ vs.length = (tableOf L).length ∧ (∀ W, Kept w W S → VRow W vs (tableOf L)) ∧ ∀ W, Kept w W S → VReads W (getV vs m) (spotM m y) := by
 obtain ⟨A, c, e, hc, hC⟩ := hT w (Kept.refl w S)
 obtain ⟨vs, h1, h2⟩ := kSpot_to hC
 rw [← h2.1] at e hc h1
 subst e
 have hf := tb_fix hT h1
 exact ⟨A, c, vs, rfl, hc, h1, h2.1, fun W hk => (hf W hk).2, fun W hk => get_table hy (hf W hk).2⟩
def SemaPost (S : Nat → Prop) (L : List M.Sem) (r : Value → Value) (w : World) (e : Ending) (w' : World) : Prop := ∃ v', e = .returned (r v') ∧ Tb S w' v' (tableOf L) ∧ Below w.heap.size w w'
theorem tb_set {S : Nat → Prop} {w w' : World} {base m : Nat} {L : List M.Sem} {y s : M.Sem} {vs : List VS} {u : Value} {v : VS} (hy : L[m]? = some y) (hR : kV.R 87 w' base (fun _ => True) u (setV v vs)) (hS : ∀ k, S k → k < w.heap.size) (hb : w.heap.size ≤ base) (hB : Below w.heap.size w w')
  (hrow : ∀ W, Kept w W S → VRow W vs (tableOf L)) (hv : ∀ W, Kept w' W S → VReads W v (spotM m s)) : Tb S w' u (tableOf (L.set m s)) :=
 tb_new hR (fun k hk => by have := hS k hk; omega) (fun W hk => set_table hy (hrow W ((Kept.of_below hB S).then_ hk (fun _ q => .inl q))) (hv W hk))
theorem acq_told (m who : Nat) (first : Bool) (S : Nat → Prop) (L : List M.Sem) (y : M.Sem) (v0 : Value) (w : World) (hm : m < 4) (hy : L[m]? = some y) (hT : Tb S w v0 (tableOf L)) (hS : ∀ k, S k → k < w.heap.size) (ok : OkTab (tableOf L)) (hp : OkSpot (spotM m y)) (hl : L.length ≤ 4) (hc : 0 < y.count) :
  Calls Tryz.prog 125 #[v0, .int .i64 (8 * (m : Int)), .int .i64 who, .bool first] w (SemaPost S (L.set m { y with count := y.count - 1 }) (fun u => .tuple #[u, .bool true, .int .i64 0]) w) := by
 obtain ⟨A, c, vs, rfl, hcc, hC, hvl, hrow, hread⟩ := tb_open hT hy
 have hvs := len_tableFrom L 0
 have hvsl : vs.length ≤ 60 := by unfold tableOf at hvl; omega
 have HG := ak_ (get_calls A c m vs (tableOf L) w hm hC hcc (hrow w (Kept.refl w S)) ok)
 have hline : y.line = [] := by
  rcases hp.n with h | h
  ·have : y.count = 0 := h; omega
  ·have : y.line.map Int.ofNat = [] := h; simpa using this
 obtain ⟨g, hg⟩ : ∃ g, g = getV vs m := ⟨_, rfl⟩
 rw [← hg] at hread HG
 have hr0 := hread w (Kept.refl w S)
 have ga : g.addr = 8 * (m : Int) := hr0.a
 have gk : g.count = y.count := hr0.k
 have gn : g.n = 0 := by have := hr0.n; rw [this]; show (y.line.map Int.ofNat).length = 0; rw [hline]; rfl
 have hC0 : (Kd.int .i64).C w g.A 0 [] := by have := hr0.l; rw [show (spotM m y).line = [] by show y.line.map Int.ofNat = []; rw [hline]; rfl] at this; exact this
 obtain ⟨a, k, B, n, cc⟩ := g
 simp only at ga gk gn hC0 hr0
 subst ga; subst gk; subst gn
 have HD := ak_ hread
 have HR := ak_ hrow
 have hw1 : wrap64 (y.count - 1) = y.count - 1 := by have := hp.c1; have : y.count ≤ 2147483647 := this; unfold wrap64; omega
 have hokn : OkSpot (spotM m { y with count := y.count - 1 }) := ⟨hp.a0, hp.a1, by show 0 ≤ y.count - 1; omega, by have := hp.c1; have : y.count ≤ 2147483647 := this; show y.count - 1 ≤ 2147483647; omega, hp.l, .inr (by show y.line.map Int.ofNat = []; rw [hline]; rfl)⟩
 have hrn : ∀ W, Kept w W S → VReads W ⟨8 * (m : Int), y.count - 1, B, 0, cc⟩ (spotM m { y with count := y.count - 1 }) := fun W hk => by
  have h := hread W hk
  exact ⟨rfl, rfl, h.n, h.c, h.l⟩
 have HS := ak_ (fun W (hb : Below w.heap.size w W) => set_calls m c A vs (tableOf L) ⟨8 * (m : Int), y.count - 1, B, 0, cc⟩ (spotM m { y with count := y.count - 1 }) W hm (Kd.C_below hC hb) hcc (hrow W (Kept.of_below hb S)) ok (hrn W (Kept.of_below hb S)) hokn rfl hvsl)
 unfold GetPost at HG
 unfold vv at HG HS
 have HN := ak_ hrn
 have HK := ak_ (fun W (hb : Below w.heap.size w W) => slices_Contains_int_int.calls 5 B cc [] (who : Int) false W (Kd.C_below hC0 hb) (Nat.zero_le _) (contains_f [] (who : Int) (by simp) 5 (by simp)))
 have hu := Tryz.underlying87
 have hwho : ¬ ((who : Int) < 0) := by omega
 clear hT hC hr0 hrow hread hg hC0 hrn hvl ok hp hokn
 go_enter Tryz.func125, Tryz.ntmps125
 go_wp2_with fail
 refine HG.out.mono ?_
 rintro e w1 ⟨rfl, hb⟩
 have B1 := ak_ hb
 clear hb
 go_wp2_with fail
 refine (HK.out _ (B1.out.alloc B1.out.size _)).mono ?_
 rintro e w2 ⟨rfl, hd⟩
 have hb : Below (w1.alloc (.cells #[.int .i64 (8 * (m : Int)), .int .i64 y.count, .slice B 0 cc] 87)).heap.size (w1.alloc (.cells #[.int .i64 (8 * (m : Int)), .int .i64 y.count, .slice B 0 cc] 87)) w2 := by obtain ⟨nd, rfl⟩ := hd; exact pw_below_drewN (Below.refl _ _) nd
 have P2 := ak_ (blk_below (blk_new w1 (.cells #[.int .i64 (8 * (m : Int)), .int .i64 y.count, .slice B 0 cc] 87)) hb)
 have hsz := B1.out.size
 have B2 := ak_ ((B1.out.alloc hsz (.cells #[.int .i64 (8 * (m : Int)), .int .i64 y.count, .slice B 0 cc] 87)).trans (hb.mono (by simp; omega)))
 have x0 : w2.cell? ⟨w1.heap.size, 0, none⟩ = some (.int .i64 (8 * (m : Int))) := blk_cell P2.out 0
 have x1 : w2.cell? ⟨w1.heap.size, 1, none⟩ = some (.int .i64 y.count) := blk_cell P2.out 1
 have x2 : w2.cell? ⟨w1.heap.size, 2, none⟩ = some (.slice B 0 cc) := blk_cell P2.out 2
 have f1 : w2.frozen? ⟨w1.heap.size, 1, none⟩ = false := blk_frozen P2.out 1
 clear hb hd
 go_wp2_with fail
 refine (HS.out _ (B2.out.setCell (p := ⟨w1.heap.size, 1, none⟩) hsz _)).mono ?_
 rintro e w3 ⟨u, rfl, hR, hb⟩
 have B3 := (B2.out.setCell (p := ⟨w1.heap.size, 1, none⟩) hsz (.int .i64 (y.count - 1))).trans (hb.mono (by simpa using B2.out.size))
 have HT := ak_ (tb_set hy hR hS (by simpa using B2.out.size) B3 HR.out (fun W hk => HN.out W ((Kept.of_below B3 S).then_ hk (fun _ q => .inl q))))
 have HB := ak_ B3
 clear hR hb B3
 go_wp2
 go_ret3
 exact ⟨u, rfl, HT.out, HB.out⟩
theorem F_of_kept {α : Type} {d : Kd α} {w : World} {A : Option Addr} {n : Nat} {xs : List α} (h : ∀ W, Kept w W (fun _ => False) → d.C W A n xs) : Kd.F d w (fun _ => True) A n xs := by
 intro W hW
 refine h W ⟨?_, fun i hi _ => hW i trivial hi⟩
 rcases Nat.eq_zero_or_pos w.heap.size with h0 | h0
 ·omega
 ·have := hW (w.heap.size - 1) trivial (by omega)
  rw [Array.getElem?_eq_getElem (by omega : w.heap.size - 1 < w.heap.size)] at this
  have := (Array.getElem?_eq_some_iff.1 this).1
  omega
def lineQ (first : Bool) (who : Nat) (l : List Nat) : List Nat := if first then who :: l else l ++ [who]
theorem acq_wait (m who : Nat) (first : Bool) (S : Nat → Prop) (L : List M.Sem) (y : M.Sem) (v0 : Value) (w : World) (hm : m < 4) (hy : L[m]? = some y) (hT : Tb S w v0 (tableOf L)) (hS : ∀ k, S k → k < w.heap.size) (ok : OkTab (tableOf L)) (hp : OkSpot (spotM m y)) (hl : L.length ≤ 4) (hc : y.count = 0) (hn : who ∉ y.line) (h64 : y.line.length < 64) :
  Calls Tryz.prog 125 #[v0, .int .i64 (8 * (m : Int)), .int .i64 who, .bool first] w (SemaPost S (L.set m { y with line := lineQ first who y.line }) (fun u => .tuple #[u, .bool false, .int .i64 0]) w) := by
 obtain ⟨A, c, vs, rfl, hcc, hC, hvl, hrow, hread⟩ := tb_open hT hy
 have hvs := len_tableFrom L 0
 have hvsl : vs.length ≤ 60 := by unfold tableOf at hvl; omega
 have HG := ak_ (get_calls A c m vs (tableOf L) w hm hC hcc (hrow w (Kept.refl w S)) ok)
 obtain ⟨g, hg⟩ : ∃ g, g = getV vs m := ⟨_, rfl⟩
 rw [← hg] at hread HG
 have hr0 := hread w (Kept.refl w S)
 have ga : g.addr = 8 * (m : Int) := hr0.a
 have gk : g.count = 0 := hr0.k.trans hc
 obtain ⟨a, k, B, n, cc⟩ := g
 simp only at ga gk hr0
 subst ga; subst gk
 obtain ⟨l, hll⟩ : ∃ l, l = y.line.map Int.ofNat := ⟨_, rfl⟩
 have gn : n = l.length := by rw [hll]; exact hr0.n
 subst gn
 have hgc : l.length ≤ cc := hr0.c
 have hlen : l.length < 64 := by rw [hll, List.length_map]; exact h64
 have hokl : okLine l = true := by rw [hll]; exact hp.l
 have hwl : (who : Int) ∉ l := by
  rw [hll]
  intro h
  obtain ⟨b, hb, e⟩ := List.mem_map.1 h
  have : b = who := Int.ofNat.inj e
  rw [this] at hb
  exact hn hb
 have hC0 : ∀ W, Kept w W (fun _ => False) → (Kd.int .i64).C W B l.length l := fun W hk => by rw [hll]; exact (hread W (hk.mono (fun _ h => h.elim))).l
 have HV := ak_ (show Kd.V (Kd.int .i64) 3 w w.heap.size (fun _ => True) (.slice B l.length cc) l from Kd.V_mk hgc (F_of_kept hC0))
 have HR := ak_ hrow
 obtain ⟨l', hl'⟩ : ∃ l', l' = (lineQ first who y.line).map Int.ofNat := ⟨_, rfl⟩
 have hpush : pushed l who first = (l', 0) := by
  unfold pushed
  rw [if_pos ⟨hokl, by omega⟩, if_neg hwl, if_neg (by omega), hl', hll]
  unfold lineQ
  cases first <;> simp
 have hll' : l'.length = l.length + 1 := by rw [hl', hll]; unfold lineQ; cases first <;> simp
 have hokn : OkSpot (spotM m { y with line := lineQ first who y.line }) := by
  refine ⟨hp.a0, hp.a1, hp.c0, hp.c1, ?_, .inl hc⟩
  show okLine ((lineQ first who y.line).map Int.ofNat) = true
  rw [← hl']
  have hs : l' = if first then (who : Int) :: l else l ++ [(who : Int)] := by rw [hl', hll]; unfold lineQ; cases first <;> simp
  refine okLine_mk ?_ ?_ (by omega)
  ·rw [hs]
   cases first
   ·simp only [Bool.false_eq_true, if_false]
    rw [List.nodup_append]
    exact ⟨okLine_nodup hokl, by simp, fun a ha b hb e => hwl (by simp at hb; rw [← hb, ← e]; exact ha)⟩
   ·simp only [if_true]
    exact List.nodup_cons.2 ⟨hwl, okLine_nodup hokl⟩
  ·rw [hs]
   intro x hx
   have : x = (who : Int) ∨ x ∈ l := by cases first <;> simp at hx <;> rcases hx with h | h <;> simp [h]
   rcases this with h | h
   ·omega
   ·exact okLine_pos hokl x h
 obtain ⟨K, hK⟩ : ∃ K : Nat, 100 < K := ⟨101, by omega⟩
 have HK := ak_ (fun W (hb : Below w.heap.size w W) => slices_Contains_int_int.calls K B cc l (who : Int) false W (hC0 W (Kept.of_below hb _)) hgc (by rw [contains_f l (who : Int) (by omega) K (by omega), decide_eq_false hwl]))
 have HP := ak_ (fun W (hb : Below w.heap.size w W) => line_Push.calls K (fun _ => True) B cc l (who : Int) first l' 0 W (Kd.V_map (Kd.V_below HV.out hb) (fun _ h => h)) (by rw [push_f l who first (by omega) K (by omega), hpush]))
 have HS := ak_ (fun (A1 : Option Addr) (c1 : Nat) W (hb : Below w.heap.size w W) (hr : VReads W ⟨8 * (m : Int), 0, A1, l'.length, c1⟩ (spotM m { y with line := lineQ first who y.line })) => set_calls m c A vs (tableOf L) ⟨8 * (m : Int), 0, A1, l'.length, c1⟩ (spotM m { y with line := lineQ first who y.line }) W hm (Kd.C_below hC hb) hcc (hrow W (Kept.of_below hb S)) ok hr hokn rfl hvsl)
 unfold GetPost at HG
 unfold vv at HG HS
 have HL := ak_ hl'
 have HCy := ak_ hc
 have hu := Tryz.underlying87
 have hwho : ¬ ((who : Int) < 0) := by omega
 have hlI : (l.length : Int) < 64 := by omega
 have hlI' : (l'.length : Int) ≤ 64 := by omega
 clear hT hC hr0 hrow hread hg hC0 hvl ok hp hokn hokl hwl hpush hl' hll hll' hn hc
 go_enter Tryz.func125, Tryz.ntmps125
 go_wp2_with fail
 refine HG.out.mono ?_
 rintro e w1 ⟨rfl, hb⟩
 have B1 := ak_ hb
 clear hb
 go_wp2_with fail
 refine (HK.out _ (B1.out.alloc B1.out.size _)).mono ?_
 rintro e w2 ⟨rfl, hd⟩
 have hb : Below (w1.alloc (.cells #[.int .i64 (8 * (m : Int)), .int .i64 0, .slice B l.length cc] 87)).heap.size (w1.alloc (.cells #[.int .i64 (8 * (m : Int)), .int .i64 0, .slice B l.length cc] 87)) w2 := by obtain ⟨nd, rfl⟩ := hd; exact pw_below_drewN (Below.refl _ _) nd
 have P2 := ak_ (blk_below (blk_new w1 (.cells #[.int .i64 (8 * (m : Int)), .int .i64 0, .slice B l.length cc] 87)) hb)
 have hsz := B1.out.size
 have B2 := ak_ ((B1.out.alloc hsz (.cells #[.int .i64 (8 * (m : Int)), .int .i64 0, .slice B l.length cc] 87)).trans (hb.mono (by simp; omega)))
 have x0 : w2.cell? ⟨w1.heap.size, 0, none⟩ = some (.int .i64 (8 * (m : Int))) := blk_cell P2.out 0
 have x1 : w2.cell? ⟨w1.heap.size, 1, none⟩ = some (.int .i64 0) := blk_cell P2.out 1
 have x2 : w2.cell? ⟨w1.heap.size, 2, none⟩ = some (.slice B l.length cc) := blk_cell P2.out 2
 clear hb hd
 go_wp2_with fail
 refine (HP.out _ B2.out).mono ?_
 rintro e w3 ⟨v3, rfl, hR3, hb⟩
 obtain ⟨A1, c1, rfl⟩ := Kd.R_slice hR3
 have P3 := ak_ (blk_below P2.out hb)
 have B3 := ak_ (B2.out.trans (hb.mono B2.out.size))
 have HR3 := ak_ hR3
 have hs2 := B2.out.size
 have hs3 := B3.out.size
 have x0 : w3.cell? ⟨w1.heap.size, 0, none⟩ = some (.int .i64 (8 * (m : Int))) := blk_cell P3.out 0
 have x1 : w3.cell? ⟨w1.heap.size, 1, none⟩ = some (.int .i64 0) := blk_cell P3.out 1
 have x2 : w3.cell? ⟨w1.heap.size, 2, none⟩ = some (.slice B l.length cc) := blk_cell P3.out 2
 have f2 : w3.frozen? ⟨w1.heap.size, 2, none⟩ = false := blk_frozen P3.out 2
 have hlt1 : w1.heap.size < w2.heap.size := blk_lt P2.out
 have hvr : ∀ W, Kept w3 W (fun k => k < w2.heap.size) → VReads W ⟨8 * (m : Int), 0, A1, l'.length, c1⟩ (spotM m { y with line := lineQ first who y.line }) := fun W hk => by
  have hR' := Kd.R_kept HR3.out hk (fun k h => by omega)
  obtain ⟨h1, h2, h3⟩ := Kd.R_reads' hR'
  exact ⟨rfl, HCy.out.symm, by show l'.length = ((lineQ first who y.line).map Int.ofNat).length; rw [← HL.out], h2, by show (Kd.int .i64).C W A1 ((lineQ first who y.line).map Int.ofNat).length ((lineQ first who y.line).map Int.ofNat); rw [← HL.out]; exact h3⟩
 have HVR := ak_ hvr
 clear hb hR3 hvr
 go_wp2_with fail
 refine (HS.out A1 c1 (w3.setCell ⟨w1.heap.size, 2, none⟩ (.slice A1 l'.length c1)) (B3.out.setCell (p := ⟨w1.heap.size, 2, none⟩) hsz _) (HVR.out _ ((Kept.refl w3 _).setCell (p := ⟨w1.heap.size, 2, none⟩) (.inl hlt1) _))).mono ?_
 rintro e w4 ⟨u, rfl, hR, hb⟩
 have B4 := (B3.out.setCell (p := ⟨w1.heap.size, 2, none⟩) hsz (.slice A1 l'.length c1)).trans (hb.mono (by simpa using B3.out.size))
 have hk34 : Kept w3 w4 (fun k => k < w2.heap.size) := ((Kept.refl w3 _).setCell (p := ⟨w1.heap.size, 2, none⟩) (.inl hlt1) (.slice A1 l'.length c1)).below hb
 have HT := ak_ (tb_set hy hR hS (by simpa using B3.out.size) B4 HR.out (fun W hk => HVR.out W (hk34.then_ hk (fun k q => .inl (by have := hS k q; omega)))))
 have HB := ak_ B4
 clear hR hb B4 hk34
 go_wp2
 go_ret3
 exact ⟨u, rfl, HT.out, HB.out⟩
theorem add_block (ad : Addr) (j : Nat) : (ad.add j).block = ad.block := by unfold Addr.add; split <;> rfl
theorem F_int_kept {S : Nat → Prop} {w : World} {A : Option Addr} {n : Nat} {l : List Int} (h : ∀ W, Kept w W S → (Kd.int .i64).C W A n l) : Kd.F (Kd.int .i64) w (fun k => ¬ S k) A n l := by
 have h0 := h w (Kept.refl w S)
 intro W hW
 refine ⟨h0.1, h0.2.1, fun hn => ?_⟩
 obtain ⟨ad, e, hcc⟩ := h0.2.2 hn
 subst e
 have hS : ¬ S ad.block := fun hS => by
  obtain ⟨x, r, rfl⟩ : ∃ x r, l = x :: r := by
   cases l with
   | nil => have := h0.1; simp at this; omega
   | cons x r => exact ⟨x, r, rfl⟩
  obtain ⟨cs, h1, h2, h3⟩ := hcc 0 x rfl
  have hcs : cs = [.int .i64 x] := h2
  subst hcs
  have y0 := h3 0 _ rfl
  have hk : Kept w (w.setCell (ad.add (0 * (Kd.int .i64).sz + 0)) (.bool true)) S := (Kept.refl w S).setCell (.inl (by rw [add_block]; exact hS)) _
  obtain ⟨_, _, hc1⟩ := h _ hk
  obtain ⟨ad1, e1, hc2⟩ := hc1 hn
  cases e1
  obtain ⟨ds, _, k2, k3⟩ := hc2 0 x rfl
  have hds : ds = [.int .i64 x] := k2
  subst hds
  have z0 := k3 0 _ rfl
  rw [World.cell?_setCell_same w _ _ y0] at z0
  cases z0
 refine ⟨ad, rfl, fun i p hp => ?_⟩
 obtain ⟨cs, h1, h2, h3⟩ := hcc i p hp
 refine ⟨cs, h1, h2, fun j u hu => ?_⟩
 have hx := h3 j u hu
 have hlt := World.block_lt_of_cell? w _ hx
 rw [add_block] at hlt
 have := hW ad.block hS hlt
 rw [← hx]
 unfold World.cell?
 rw [add_block, this]
theorem rel_none (m : Nat) (S : Nat → Prop) (L : List M.Sem) (y : M.Sem) (v0 : Value) (w : World) (hm : m < 4) (hy : L[m]? = some y) (hT : Tb S w v0 (tableOf L)) (hS : ∀ k, S k → k < w.heap.size) (ok : OkTab (tableOf L)) (hp : OkSpot (spotM m y)) (hl : L.length ≤ 4) (hn : y.line = []) (hc : y.count < 2147483647) :
  Calls Tryz.prog 131 #[v0, .int .i64 (8 * (m : Int))] w (SemaPost S (L.set m { y with count := y.count + 1 }) (fun u => .tuple #[u, .int .i64 (-1), .int .i64 0]) w) := by
 obtain ⟨A, c, vs, rfl, hcc, hC, hvl, hrow, hread⟩ := tb_open hT hy
 have hvs := len_tableFrom L 0
 have hvsl : vs.length ≤ 60 := by unfold tableOf at hvl; omega
 have HG := ak_ (get_calls A c m vs (tableOf L) w hm hC hcc (hrow w (Kept.refl w S)) ok)
 obtain ⟨g, hg⟩ : ∃ g, g = getV vs m := ⟨_, rfl⟩
 rw [← hg] at hread HG
 have hr0 := hread w (Kept.refl w S)
 have ga : g.addr = 8 * (m : Int) := hr0.a
 have gk : g.count = y.count := hr0.k
 have gn : g.n = 0 := by have := hr0.n; rw [this]; show (y.line.map Int.ofNat).length = 0; rw [hn]; rfl
 have hC0 : ∀ W, Kept w W S → (Kd.int .i64).C W g.A 0 [] := fun W hk => by have := (hread W hk).l; rw [show (spotM m y).line = [] by show y.line.map Int.ofNat = []; rw [hn]; rfl] at this; exact this
 obtain ⟨a, k, B, n, cc⟩ := g
 simp only at ga gk gn hC0 hr0
 subst ga; subst gk; subst gn
 have c0 : 0 ≤ y.count := hp.c0
 have hw1 : wrap64 (y.count + 1) = y.count + 1 := by unfold wrap64; omega
 have hokn : OkSpot (spotM m { y with count := y.count + 1 }) := ⟨hp.a0, hp.a1, by show 0 ≤ y.count + 1; omega, by show y.count + 1 ≤ 2147483647; omega, hp.l, .inr (by show y.line.map Int.ofNat = []; rw [hn]; rfl)⟩
 have hrn : ∀ W, Kept w W S → VReads W ⟨8 * (m : Int), y.count + 1, B, 0, cc⟩ (spotM m { y with count := y.count + 1 }) := fun W hk => by
  have h := hread W hk
  exact ⟨rfl, rfl, h.n, h.c, h.l⟩
 have HS := ak_ (fun W (hb : Below w.heap.size w W) => set_calls m c A vs (tableOf L) ⟨8 * (m : Int), y.count + 1, B, 0, cc⟩ (spotM m { y with count := y.count + 1 }) W hm (Kd.C_below hC hb) hcc (hrow W (Kept.of_below hb S)) ok (hrn W (Kept.of_below hb S)) hokn rfl hvsl)
 unfold GetPost at HG
 unfold vv at HG HS
 have HN := ak_ hrn
 have HR := ak_ hrow
 have HP := ak_ (fun W (hb : Below w.heap.size w W) => line_Pop.calls (fun k => ¬ S k) B cc [] [] 0 4 W (Kd.V_map (Kd.V_below (base := 0) (e := 3) (Kd.V_mk (c := cc) (Nat.zero_le _) (F_int_kept hC0)) hb) (fun _ h => h)) (by rw [pop_f]; rfl))
 have hu := Tryz.underlying87
 have hcm : ¬ (y.count = 2147483647) := by omega
 clear hT hC hr0 hrow hread hg hC0 hrn hvl ok hp hokn
 go_enter Tryz.func131, Tryz.ntmps131
 go_wp2_with fail
 refine HG.out.mono ?_
 rintro e w1 ⟨rfl, hb⟩
 have B1 := ak_ hb
 clear hb
 go_wp2_with fail
 refine (HP.out _ (B1.out.alloc B1.out.size _)).mono ?_
 rintro e w2 ⟨v2, rfl, _, hb⟩
 have P2 := ak_ (blk_below (blk_new w1 (.cells #[.int .i64 (8 * (m : Int)), .int .i64 y.count, .slice B 0 cc] 87)) hb)
 have hsz := B1.out.size
 have B2 := ak_ ((B1.out.alloc hsz (.cells #[.int .i64 (8 * (m : Int)), .int .i64 y.count, .slice B 0 cc] 87)).trans (hb.mono (by simp; omega)))
 have x0 : w2.cell? ⟨w1.heap.size, 0, none⟩ = some (.int .i64 (8 * (m : Int))) := blk_cell P2.out 0
 have x1 : w2.cell? ⟨w1.heap.size, 1, none⟩ = some (.int .i64 y.count) := blk_cell P2.out 1
 have x2 : w2.cell? ⟨w1.heap.size, 2, none⟩ = some (.slice B 0 cc) := blk_cell P2.out 2
 have f1 : w2.frozen? ⟨w1.heap.size, 1, none⟩ = false := blk_frozen P2.out 1
 clear hb
 go_wp2_with fail
 refine (HS.out (w2.setCell ⟨w1.heap.size, 1, none⟩ (.int .i64 (y.count + 1))) (B2.out.setCell (p := ⟨w1.heap.size, 1, none⟩) hsz _)).mono ?_
 rintro e w3 ⟨u, rfl, hR, hb⟩
 have B3 := (B2.out.setCell (p := ⟨w1.heap.size, 1, none⟩) hsz (.int .i64 (y.count + 1))).trans (hb.mono (by simpa using B2.out.size))
 have HT := ak_ (tb_set hy hR hS (by simpa using B2.out.size) B3 HR.out (fun W hk => HN.out W ((Kept.of_below B3 S).then_ hk (fun _ q => .inl q))))
 have HB := ak_ B3
 clear hR hb B3
 go_wp2
 go_ret3
 exact ⟨u, rfl, HT.out, HB.out⟩
theorem rel_pop (m x : Nat) (r : List Nat) (S : Nat → Prop) (L : List M.Sem) (y : M.Sem) (v0 : Value) (w : World) (hm : m < 4) (hy : L[m]? = some y) (hT : Tb S w v0 (tableOf L)) (hS : ∀ k, S k → k < w.heap.size) (ok : OkTab (tableOf L)) (hp : OkSpot (spotM m y)) (hl : L.length ≤ 4) (hn : y.line = x :: r) :
  Calls Tryz.prog 131 #[v0, .int .i64 (8 * (m : Int))] w (SemaPost S (L.set m { y with line := r }) (fun u => .tuple #[u, .int .i64 x, .int .i64 0]) w) := by
 obtain ⟨A, c, vs, rfl, hcc, hC, hvl, hrow, hread⟩ := tb_open hT hy
 have hvs := len_tableFrom L 0
 have hvsl : vs.length ≤ 60 := by unfold tableOf at hvl; omega
 have HG := ak_ (get_calls A c m vs (tableOf L) w hm hC hcc (hrow w (Kept.refl w S)) ok)
 obtain ⟨g, hg⟩ : ∃ g, g = getV vs m := ⟨_, rfl⟩
 rw [← hg] at hread HG
 have hr0 := hread w (Kept.refl w S)
 have hc : y.count = 0 := by
  rcases hp.n with h | h
  ·exact h
  ·have : y.line.map Int.ofNat = [] := h
   rw [hn] at this
   simp at this
 have ga : g.addr = 8 * (m : Int) := hr0.a
 have gk : g.count = 0 := hr0.k.trans hc
 obtain ⟨a, k, B, n, cc⟩ := g
 simp only at ga gk hr0
 subst ga; subst gk
 obtain ⟨l, hll⟩ : ∃ l, l = (x : Int) :: r.map Int.ofNat := ⟨_, rfl⟩
 have hlm : y.line.map Int.ofNat = l := by rw [hn, hll]; rfl
 have gn : n = l.length := by rw [← hlm]; exact hr0.n
 subst gn
 have hgc : l.length ≤ cc := hr0.c
 have hokl : okLine l = true := by rw [← hlm]; exact hp.l
 have hC0 : ∀ W, Kept w W S → (Kd.int .i64).C W B l.length l := fun W hk => by rw [← hlm]; exact (hread W hk).l
 have HV := ak_ (Kd.V_bound (show Kd.V (Kd.int .i64) 3 w w.heap.size (fun k => ¬ S k) (.slice B l.length cc) l from Kd.V_mk hgc (F_int_kept hC0)))
 have HR := ak_ hrow
 have hokn : OkSpot (spotM m { y with line := r }) := ⟨hp.a0, hp.a1, hp.c0, hp.c1, okLine_sub hokl (by rw [hll]; exact List.sublist_cons_self _ _), .inl hc⟩
 have HP := ak_ (fun W (hb : Below w.heap.size w W) => line_Pop.calls (fun k => ¬ S k ∧ k < w.heap.size) B cc l (r.map Int.ofNat) x 0 W (Kd.V_map (Kd.V_below HV.out hb) (fun _ h => h)) (by rw [pop_f, if_pos hokl, if_neg (by rw [hll]; simp), hll]; rfl))
 have HS := ak_ (fun (A1 : Option Addr) (n1 c1 : Nat) W (hb : Below w.heap.size w W) (hr : VReads W ⟨8 * (m : Int), 0, A1, n1, c1⟩ (spotM m { y with line := r })) => set_calls m c A vs (tableOf L) ⟨8 * (m : Int), 0, A1, n1, c1⟩ (spotM m { y with line := r }) W hm (Kd.C_below hC hb) hcc (hrow W (Kept.of_below hb S)) ok hr hokn rfl hvsl)
 unfold GetPost at HG
 unfold vv at HG HS
 have HCy := ak_ hc
 have HSS := ak_ hS
 have hu := Tryz.underlying87
 clear hT hC hr0 hrow hread hg hC0 hvl ok hp hokn hokl hll hlm hn hc hS
 go_enter Tryz.func131, Tryz.ntmps131
 go_wp2_with fail
 refine HG.out.mono ?_
 rintro e w1 ⟨rfl, hb⟩
 have B1 := ak_ hb
 clear hb
 go_wp2_with fail
 refine (HP.out _ (B1.out.alloc B1.out.size _)).mono ?_
 rintro e w2 ⟨v2, rfl, hV, hb⟩
 obtain ⟨A1, c1, rfl⟩ := Kd.V_slice hV
 obtain ⟨n1, hn1⟩ : ∃ n1, n1 = (r.map Int.ofNat).length := ⟨_, rfl⟩
 rw [← hn1] at hV
 have P2 := ak_ (blk_below (blk_new w1 (.cells #[.int .i64 (8 * (m : Int)), .int .i64 0, .slice B l.length cc] 87)) hb)
 have hsz := B1.out.size
 have B2 := ak_ ((B1.out.alloc hsz (.cells #[.int .i64 (8 * (m : Int)), .int .i64 0, .slice B l.length cc] 87)).trans (hb.mono (by simp; omega)))
 have hvr : ∀ W, Kept w2 W (fun k => S k ∨ k = w1.heap.size) → VReads W ⟨8 * (m : Int), 0, A1, n1, c1⟩ (spotM m { y with line := r }) := fun W hk => by
  have h3 := Kd.C_kept_ownV (S := fun k => S k ∨ k = w1.heap.size) (Kd.V_mono hV (ok' := fun k => ¬ (S k ∨ k = w1.heap.size)) (fun k h => ?_)) (fun k h => h) W hk
  ·exact ⟨rfl, HCy.out.symm, hn1, (Kd.V_at hV).2.1, by show (Kd.int .i64).C W A1 (r.map Int.ofNat).length (r.map Int.ofNat); rw [← hn1]; exact h3⟩
  ·rintro (q | q)
   ·rcases h with h | h
    ·exact h.1 q
    ·have := HSS.out k q
     simp at h
     omega
   ·rcases h with h | h
    ·omega
    ·simp at h
     omega
 have HVR := ak_ hvr
 have x0 : w2.cell? ⟨w1.heap.size, 0, none⟩ = some (.int .i64 (8 * (m : Int))) := blk_cell P2.out 0
 have x1 : w2.cell? ⟨w1.heap.size, 1, none⟩ = some (.int .i64 0) := blk_cell P2.out 1
 have x2 : w2.cell? ⟨w1.heap.size, 2, none⟩ = some (.slice B l.length cc) := blk_cell P2.out 2
 have f2 : w2.frozen? ⟨w1.heap.size, 2, none⟩ = false := blk_frozen P2.out 2
 rw [← hn1]
 clear hb hV hvr hn1
 go_wp2_with fail
 refine (HS.out A1 n1 c1 (w2.setCell ⟨w1.heap.size, 2, none⟩ (.slice A1 n1 c1)) (B2.out.setCell (p := ⟨w1.heap.size, 2, none⟩) hsz _) (HVR.out _ ((Kept.refl w2 _).setCell (p := ⟨w1.heap.size, 2, none⟩) (.inl (.inr rfl)) _))).mono ?_
 rintro e w4 ⟨u, rfl, hR, hb⟩
 have B4 := (B2.out.setCell (p := ⟨w1.heap.size, 2, none⟩) hsz (.slice A1 n1 c1)).trans (hb.mono (by simpa using B2.out.size))
 have hk34 : Kept w2 w4 (fun k => S k ∨ k = w1.heap.size) := ((Kept.refl w2 _).setCell (p := ⟨w1.heap.size, 2, none⟩) (.inl (.inr rfl)) (.slice A1 n1 c1)).below hb
 have HT := ak_ (tb_set hy hR HSS.out (by simpa using B2.out.size) B4 HR.out (fun W hk => HVR.out W (hk34.then_ hk (fun k q => .inl (.inl q)))))
 have HB := ak_ B4
 clear hR hb B4 hk34
 go_wp2
 go_ret3
 exact ⟨u, rfl, HT.out, HB.out⟩
def evsOf (s : Sx) : Option Int → List M.Event
 | none => []
 | some kd => [⟨s.who, kd, s.at_⟩]
def wakeOf (cl : List M.Client) : Option Nat → List M.Client
 | none => cl
 | some j => match cl[j]? with
  | some z => cl.set j { z with gor := ⟨0, false⟩ }
  | none => cl
structure Rx (s : Sx) (m : Nat) (L : List M.Sem) (r : M.Res) (s' : Sx) : Prop where
 c : s'.c = r.c
 mu : s'.mu = s.mu.set m r.x
 tab : s'.tab = tableOf (L.set m r.s)
 over : s'.over = r.over
 evs : s'.evs = evsOf s r.ev
 stop : s'.stop = r.stop
 cl : s'.cl = wakeOf s.cl r.wake
 now : s'.now = s.now
 pv : s'.pv = s.pv
 cv : s'.cv = s.cv
 mv : s'.mv = s.mv
 who : s'.who = s.who
structure Cx (k : Blk) (s : Sx) (m : Nat) (x : M.Mutex) (L : List M.Sem) (y : M.Sem) : Prop where
 mp : s.mp = .pointer (some ⟨k.mb, m * 3, none⟩)
 mx : s.mu[m]? = some x
 ly : L[m]? = some y
 tab : s.tab = tableOf L
 ov : s.over = false
 ev : s.ev = .slice none 0 0
 evs : s.evs = []
 st : s.stop = 0
theorem set_self {α : Type} {l : List α} {i : Nat} {x : α} (h : l[i]? = some x) : l.set i x = l := by
 obtain ⟨hl, rfl⟩ := List.getElem?_eq_some_iff.1 h
 exact List.set_getElem_self hl
theorem set_twice {α : Type} (l : List α) (i : Nat) (x y : α) : (l.set i x).set i y = l.set i y := List.set_set ..
theorem got112 {B : Nat} {k : Blk} {s : Sx} {w : World} (h : St B k s w) (he : s.ev = .slice none 0 0) (hl : s.evs = []) :
  Calls Tryz.prog 112 #[.pointer (some ⟨k.sp, 0, none⟩)] w (Dx B k (fun s' => ∃ v, s' = { s with ev := v, evs := [⟨s.who, 0, s.at_⟩], over := true }) w) := by
 have H := ak_ h
 clear h
 go_enter Tryz.func112, Tryz.ntmps112
 go_wp2_with fail
 refine (tell114 H.out 0 he hl).mono ?_
 rintro e w1 ⟨rfl, hb, s1, ⟨v, rfl⟩, h1⟩
 have H1 := ak_ h1
 have B1 := ak_ hb
 clear h1 hb
 go_wp2_with fail
 refine (end81 H1.out).mono ?_
 rintro e w2 ⟨rfl, hb, s2, rfl, h2⟩
 have H2 := ak_ h2
 have B2 := ak_ (B1.out.trans hb)
 clear h2 hb
 go_wp2
 go_end0
 exact ⟨rfl, B2.out, _, ⟨v, rfl⟩, H2.out⟩
theorem lock82 {B m : Nat} {k : Blk} {s : Sx} {w : World} {x : M.Mutex} {L : List M.Sem} {y : M.Sem} (h : St B k s w) (cx : Cx k s m x L y) :
  Calls Tryz.prog 82 #[.pointer (some ⟨k.sp, 0, none⟩)] w (Dx B k (Rx s m L (M.lockR s.c x y)) w) := by
 have H := ak_ h
 have CX := ak_ cx
 have s1_ := h.s1
 have mp_ := h.mp_ cx.mp
 have m0_ := h.m0 cx.mx
 have c3_ := h.c3
 have fc3_ := h.fc3
 clear h cx
 have hu81 := Tryz.underlying81
 have hu44 := Tryz.underlying44
 have hu53 := Tryz.underlying53
 by_cases hw : x.word = 0
 ·have hR : M.lockR s.c x y = ⟨s.c, { x with word := 1 }, y, true, some 0, none, 0⟩ := by unfold M.lockR; rw [if_pos hw]
  rw [hR]
  have hne : (x.word != 0) = false := by simp [hw]
  clear hw hR
  go_enter Tryz.func82, Tryz.ntmps82
  go_wp2_with fail
  refine (put111 H.out m x CX.out.mp CX.out.mx 1 (by decide)).mono ?_
  rintro e w1 ⟨rfl, hb, s1, rfl, h1⟩
  have H1 := ak_ h1
  have B1 := ak_ hb
  clear h1 hb
  go_wp2_with fail
  refine (got112 H1.out CX.out.ev CX.out.evs).mono ?_
  rintro e w2 ⟨rfl, hb, s2, ⟨v, rfl⟩, h2⟩
  have H2 := ak_ h2
  have B2 := ak_ (B1.out.trans hb)
  clear h2 hb
  go_wp2
  go_end0
  refine ⟨rfl, B2.out, _, ?_, H2.out⟩
  exact ⟨rfl, rfl, by rw [set_self CX.out.ly]; exact CX.out.tab, rfl, rfl, CX.out.st, rfl, rfl, rfl, rfl, rfl, rfl⟩
 ·have hR : M.lockR s.c x y = ⟨{ s.c with pc := 1 }, x, y, false, none, none, 0⟩ := by unfold M.lockR; rw [if_neg hw]
  rw [hR]
  have hne : (x.word != 0) = true := by simp [hw]
  clear hR
  go_enter Tryz.func82, Tryz.ntmps82
  go_wp2
  go_end0
  refine ⟨rfl, (Below.refl _ _).setCell (p := ⟨k.cp, 3, none⟩) H.out.lo_c _, _, ?_, H.out.putc 3 (.int .i64 1) { s.c with pc := 1 } rfl⟩
  exact ⟨rfl, (set_self CX.out.mx).symm, by rw [set_self CX.out.ly]; exact CX.out.tab, CX.out.ov, CX.out.evs, CX.out.st, rfl, rfl, rfl, rfl, rfl, rfl⟩
theorem load85 {B m : Nat} {k : Blk} {s : Sx} {w : World} {x : M.Mutex} {L : List M.Sem} {y : M.Sem} (h : St B k s w) (cx : Cx k s m x L y) :
  Calls Tryz.prog 85 #[.pointer (some ⟨k.sp, 0, none⟩)] w (Dx B k (Rx s m L (M.loadR s.c x y)) w) := by
 have H := ak_ h
 have CX := ak_ cx
 clear h cx
 go_enter Tryz.func85, Tryz.ntmps85
 go_wp2_with fail
 refine (see115 H.out m x CX.out.mp CX.out.mx 2).mono ?_
 rintro e w2 ⟨rfl, hb, s2, rfl, h2⟩
 have H2 := ak_ h2
 have B2 := ak_ hb
 clear h2 hb
 go_wp2
 go_end0
 refine ⟨rfl, B2.out, _, ?_, H2.out⟩
 exact ⟨rfl, (set_self CX.out.mx).symm, by show s.tab = tableOf (L.set m y); rw [set_self CX.out.ly]; exact CX.out.tab, CX.out.ov, CX.out.evs, CX.out.st, rfl, rfl, rfl, rfl, rfl, rfl⟩
def againR (c : M.Client) (x : M.Mutex) (y : M.Sem) : M.Res := ⟨M.see c x 10, x, y, false, none, none, 0⟩
theorem again95 {B m : Nat} {k : Blk} {s : Sx} {w : World} {x : M.Mutex} {L : List M.Sem} {y : M.Sem} (h : St B k s w) (cx : Cx k s m x L y) :
  Calls Tryz.prog 95 #[.pointer (some ⟨k.sp, 0, none⟩)] w (Dx B k (Rx s m L (againR s.c x y)) w) := by
 have H := ak_ h
 have CX := ak_ cx
 clear h cx
 go_enter Tryz.func95, Tryz.ntmps95
 go_wp2_with fail
 refine (see115 H.out m x CX.out.mp CX.out.mx 10).mono ?_
 rintro e w2 ⟨rfl, hb, s2, rfl, h2⟩
 have H2 := ak_ h2
 have B2 := ak_ hb
 clear h2 hb
 go_wp2
 go_end0
 refine ⟨rfl, B2.out, _, ?_, H2.out⟩
 exact ⟨rfl, (set_self CX.out.mx).symm, by show s.tab = tableOf (L.set m y); rw [set_self CX.out.ly]; exact CX.out.tab, CX.out.ov, CX.out.evs, CX.out.st, rfl, rfl, rfl, rfl, rfl, rfl⟩
theorem or_one (a : Int) (hw : isW a = true) (h : a % 2 = 0) : bits .or .i64 a 1 = a + 1 := by
 have h01 : 0 ≤ a ∧ a / 8 ≤ 268435455 := by simpa [isW] using hw
 have hc : a % 8 = 0 ∨ a % 8 = 2 ∨ a % 8 = 4 ∨ a % 8 = 6 := by omega
 rcases hc with hc | hc | hc | hc
 ·have e := or8_i (a / 8) 0 1 (by omega) (by omega) (by omega) (by omega)
  rw [show 8 * (a / 8) + ((0 : Nat) : Int) = a by omega] at e
  rw [show (1 : Int) = ((1 : Nat) : Int) from rfl, e]
  show 8 * (a / 8) + ((1 : Nat) : Int) = _
  omega
 ·have e := or8_i (a / 8) 2 1 (by omega) (by omega) (by omega) (by omega)
  rw [show 8 * (a / 8) + ((2 : Nat) : Int) = a by omega] at e
  rw [show (1 : Int) = ((1 : Nat) : Int) from rfl, e]
  show 8 * (a / 8) + ((3 : Nat) : Int) = _
  omega
 ·have e := or8_i (a / 8) 4 1 (by omega) (by omega) (by omega) (by omega)
  rw [show 8 * (a / 8) + ((4 : Nat) : Int) = a by omega] at e
  rw [show (1 : Int) = ((1 : Nat) : Int) from rfl, e]
  show 8 * (a / 8) + ((5 : Nat) : Int) = _
  omega
 ·have e := or8_i (a / 8) 6 1 (by omega) (by omega) (by omega) (by omega)
  rw [show 8 * (a / 8) + ((6 : Nat) : Int) = a by omega] at e
  rw [show (1 : Int) = ((1 : Nat) : Int) from rfl, e]
  show 8 * (a / 8) + ((7 : Nat) : Int) = _
  omega
theorem or_two (a : Int) (hw : isW a = true) (h : a / 2 % 2 = 0) : bits .or .i64 a 2 = a + 2 := by
 have h01 : 0 ≤ a ∧ a / 8 ≤ 268435455 := by simpa [isW] using hw
 have hc : a % 8 = 0 ∨ a % 8 = 1 ∨ a % 8 = 4 ∨ a % 8 = 5 := by omega
 rcases hc with hc | hc | hc | hc
 ·have e := or8_i (a / 8) 0 2 (by omega) (by omega) (by omega) (by omega)
  rw [show 8 * (a / 8) + ((0 : Nat) : Int) = a by omega] at e
  rw [show (2 : Int) = ((2 : Nat) : Int) from rfl, e]
  show 8 * (a / 8) + ((2 : Nat) : Int) = _
  omega
 ·have e := or8_i (a / 8) 1 2 (by omega) (by omega) (by omega) (by omega)
  rw [show 8 * (a / 8) + ((1 : Nat) : Int) = a by omega] at e
  rw [show (2 : Int) = ((2 : Nat) : Int) from rfl, e]
  show 8 * (a / 8) + ((3 : Nat) : Int) = _
  omega
 ·have e := or8_i (a / 8) 4 2 (by omega) (by omega) (by omega) (by omega)
  rw [show 8 * (a / 8) + ((4 : Nat) : Int) = a by omega] at e
  rw [show (2 : Int) = ((2 : Nat) : Int) from rfl, e]
  show 8 * (a / 8) + ((6 : Nat) : Int) = _
  omega
 ·have e := or8_i (a / 8) 5 2 (by omega) (by omega) (by omega) (by omega)
  rw [show 8 * (a / 8) + ((5 : Nat) : Int) = a by omega] at e
  rw [show (2 : Int) = ((2 : Nat) : Int) from rfl, e]
  show 8 * (a / 8) + ((7 : Nat) : Int) = _
  omega
theorem tried93 {B m : Nat} {k : Blk} {s : Sx} {w : World} {x : M.Mutex} {L : List M.Sem} {y : M.Sem} (h : St B k s w) (cx : Cx k s m x L y) (hev : x.word = s.c.own.old → x.word % 2 = 0) (hw : isW x.word = true) (hw1 : x.word = s.c.own.old → isW (x.word + 1) = true) :
  Calls Tryz.prog 93 #[.pointer (some ⟨k.sp, 0, none⟩)] w (Dx B k (Rx s m L (M.triedR s.c x y)) w) := by
 have H := ak_ h
 have CX := ak_ cx
 clear h cx
 have hu81 := Tryz.underlying81
 have hu44 := Tryz.underlying44
 have hu53 := Tryz.underlying53
 by_cases hq : x.word = s.c.own.old
 ·have hR : M.triedR s.c x y = ⟨s.c, { x with word := x.word + 1 }, y, true, some 1, none, 0⟩ := by unfold M.triedR; rw [if_pos hq]
  rw [hR]
  have hne : (x.word == s.c.own.old) = true := by simp [hq]
  have h2 := or_one x.word hw (hev hq)
  have HW := ak_ (hw1 hq)
  have HS := ak_ (same120 H.out m x CX.out.mp CX.out.mx)
  rw [hne] at HS
  clear hR hq hne hev hw1
  go_enter Tryz.func93, Tryz.ntmps93
  go_wp2_with fail
  refine HS.out.mono ?_
  rintro e w1 ⟨rfl, hb⟩
  have H1 := ak_ (H.out.below hb)
  have B1 := ak_ (hb.mono H.out.Blt)
  have s1_ := H1.out.s1
  have mp_ := H1.out.mp_ CX.out.mp
  have m0_ := H1.out.m0 CX.out.mx
  clear hb
  go_wp2_with fail
  refine (put111 H1.out m x CX.out.mp CX.out.mx (x.word + 1) HW.out).mono ?_
  rintro e w2 ⟨rfl, hb, s2, rfl, h2⟩
  have H2 := ak_ h2
  have B2 := ak_ (B1.out.trans hb)
  clear h2 hb
  go_wp2_with fail
  refine (tell114 H2.out 1 CX.out.ev CX.out.evs).mono ?_
  rintro e w3 ⟨rfl, hb, s3, ⟨v, rfl⟩, h3⟩
  have H3 := ak_ h3
  have B3 := ak_ (B2.out.trans hb)
  clear h3 hb
  go_wp2_with fail
  refine (end81 H3.out).mono ?_
  rintro e w4 ⟨rfl, hb, s4, rfl, h4⟩
  have H4 := ak_ h4
  have B4 := ak_ (B3.out.trans hb)
  clear h4 hb
  go_wp2
  go_end0
  refine ⟨rfl, B4.out, _, ?_, H4.out⟩
  exact ⟨rfl, rfl, by show s.tab = tableOf (L.set m y); rw [set_self CX.out.ly]; exact CX.out.tab, rfl, rfl, CX.out.st, rfl, rfl, rfl, rfl, rfl, rfl⟩
 ·have hR : M.triedR s.c x y = ⟨s.c, x, y, true, some 2, none, 0⟩ := by unfold M.triedR; rw [if_neg hq]
  rw [hR]
  have hne : (x.word == s.c.own.old) = false := by simp [hq]
  have HS := ak_ (same120 H.out m x CX.out.mp CX.out.mx)
  rw [hne] at HS
  clear hR hq hne hev hw1
  go_enter Tryz.func93, Tryz.ntmps93
  go_wp2_with fail
  refine HS.out.mono ?_
  rintro e w1 ⟨rfl, hb⟩
  have H1 := ak_ (H.out.below hb)
  have B1 := ak_ (hb.mono H.out.Blt)
  clear hb
  go_wp2_with fail
  refine (tell114 H1.out 2 CX.out.ev CX.out.evs).mono ?_
  rintro e w3 ⟨rfl, hb, s3, ⟨v, rfl⟩, h3⟩
  have H3 := ak_ h3
  have B3 := ak_ (B1.out.trans hb)
  clear h3 hb
  go_wp2_with fail
  refine (end81 H3.out).mono ?_
  rintro e w4 ⟨rfl, hb, s4, rfl, h4⟩
  have H4 := ak_ h4
  have B4 := ak_ (B3.out.trans hb)
  clear h4 hb
  go_wp2
  go_end0
  refine ⟨rfl, B4.out, _, ?_, H4.out⟩
  exact ⟨rfl, (set_self CX.out.mx).symm, by show s.tab = tableOf (L.set m y); rw [set_self CX.out.ly]; exact CX.out.tab, rfl, rfl, CX.out.st, rfl, rfl, rfl, rfl, rfl, rfl⟩
theorem serve126 {B m : Nat} {k : Blk} {s : Sx} {w : World} {x : M.Mutex} (h : St B k s w) (hm : s.mp = .pointer (some ⟨k.mb, m * 3, none⟩)) (hx : s.mu[m]? = some x) (n' s' : Int) (hd : spin_Done.f x.line.next x.line.serve = some (n', s', 0)) :
  Calls Tryz.prog 126 #[.pointer (some ⟨k.sp, 0, none⟩)] w (Dx B k (fun s1 => s1 = { s with mu := s.mu.set m { x with line := ⟨n', s'⟩ } }) w) := by
 have H0 := ak_ h
 have mp_ := h.mp_ hm
 have m1_ := h.m1 hx
 have m2_ := h.m2 hx
 clear h
 have HD := ak_ hd
 clear hd
 have hu81 := Tryz.underlying81
 have hu53 := Tryz.underlying53
 have hu51 := Tryz.underlying51
 go_enter Tryz.func126, Tryz.ntmps126
 go_wp2_with fail
 refine (spin_Done.calls x.line.next x.line.serve n' s' 0 w HD.out).mono ?_
 rintro e w1 ⟨rfl, hb⟩
 have H1 := ak_ ((H0.out.below hb).alloc (.cells #[.int .i64 n', .int .i64 s'] 51))
 have B1 := ak_ ((hb.mono H0.out.Blt).alloc (Nat.le_trans H0.out.Blt hb.size) (.cells #[.int .i64 n', .int .i64 s'] 51))
 clear hb mp_ m1_ m2_
 have mp_ := H1.out.mp_ hm
 have m1_ := H1.out.m1 hx
 have m2_ := H1.out.m2 hx
 have fm1_ := H1.out.fm1 hx
 have fm2_ := H1.out.fm2 hx
 have t0_ : (w1.alloc (.cells #[.int .i64 n', .int .i64 s'] 51)).cell? ⟨w1.heap.size, 0, none⟩ = some (.int .i64 n') := blk_cell (blk_new w1 _) 0
 have t1_ : (w1.alloc (.cells #[.int .i64 n', .int .i64 s'] 51)).cell? ⟨w1.heap.size, 1, none⟩ = some (.int .i64 s') := blk_cell (blk_new w1 _) 1
 go_wp2_with (go_at_call 113; refine (must113 _).mono ?_; rintro e w3 ⟨rfl, rfl⟩)
 go_region
 all_goals go_wp2
 all_goals go_end0
 all_goals exact ⟨rfl, below_drew ((B1.out.setCell (p := ⟨k.mb, m * 3 + 1, none⟩) H0.out.lo_m _).setCell (p := ⟨k.mb, m * 3 + 2, none⟩) H0.out.lo_m _), _, rfl, (by
  have h3 := ((H1.out.putm m x { x with line := { x.line with next := n' } } hx 1 (by omega) (.int .i64 n') rfl).putm m _ { x with line := ⟨n', s'⟩ } (set_at_same hx) 2 (by omega) (.int .i64 s') rfl).drew
  rw [set_twice] at h3
  exact h3)⟩
theorem served97 {B m : Nat} {k : Blk} {s : Sx} {w : World} {x : M.Mutex} {L : List M.Sem} {y : M.Sem} (h : St B k s w) (cx : Cx k s m x L y) (hd : spin_Done.f x.line.next x.line.serve = some (x.line.next, (x.line.serve + 1) % 4294967296, 0)) :
  Calls Tryz.prog 97 #[.pointer (some ⟨k.sp, 0, none⟩)] w (Dx B k (Rx s m L (M.servedR s.c x y)) w) := by
 have H0 := ak_ h
 have CX := ak_ cx
 have HD := ak_ hd
 clear h cx hd
 go_enter Tryz.func97, Tryz.ntmps97
 go_wp2_with fail
 refine (serve126 H0.out CX.out.mp CX.out.mx _ _ HD.out).mono ?_
 rintro e w1 ⟨rfl, hb, s1, rfl, h1⟩
 have H1 := ak_ h1
 have B1 := ak_ hb
 clear h1 hb
 go_wp2_with fail
 refine (end81 H1.out).mono ?_
 rintro e w2 ⟨rfl, hb, s2, rfl, h2⟩
 have H2 := ak_ h2
 have B2 := ak_ (B1.out.trans hb)
 clear h2 hb
 go_wp2
 go_end0
 refine ⟨rfl, B2.out, _, ?_, H2.out⟩
 exact ⟨rfl, rfl, by show s.tab = tableOf (L.set m y); rw [set_self CX.out.ly]; exact CX.out.tab, rfl, CX.out.evs, CX.out.st, rfl, rfl, rfl, rfl, rfl, rfl⟩
theorem draw87 {B m : Nat} {k : Blk} {s : Sx} {w : World} {x : M.Mutex} {L : List M.Sem} {y : M.Sem} (h : St B k s w) (cx : Cx k s m x L y) (hd : spin_Draw.f x.line.next x.line.serve = some ((x.line.next + 1) % 4294967296, x.line.serve, x.line.next, 0)) (hpc : 0 ≤ s.c.pc ∧ s.c.pc ≤ 100) :
  Calls Tryz.prog 87 #[.pointer (some ⟨k.sp, 0, none⟩)] w (Dx B k (Rx s m L (M.drawR s.c x y)) w) := by
 have H0 := ak_ h
 have CX := ak_ cx
 have hm := cx.mp
 have hx := cx.mx
 have mp_ := h.mp_ hm
 have m1_ := h.m1 hx
 have m2_ := h.m2 hx
 clear h cx
 have HD := ak_ hd
 clear hd
 have hu81 := Tryz.underlying81
 have hu53 := Tryz.underlying53
 have hu51 := Tryz.underlying51
 have hu44 := Tryz.underlying44
 have hw1 : wrap64 (s.c.pc + 1) = s.c.pc + 1 := by unfold wrap64; omega
 obtain ⟨n', hn'⟩ : ∃ n', n' = (x.line.next + 1) % 4294967296 := ⟨_, rfl⟩
 rw [← hn'] at HD
 have HN := ak_ hn'
 clear hn'
 go_enter Tryz.func87, Tryz.ntmps87
 go_wp2_with fail
 refine (spin_Draw.calls x.line.next x.line.serve n' x.line.serve x.line.next 0 w HD.out).mono ?_
 rintro e w1 ⟨rfl, hb⟩
 have H1 := ak_ ((H0.out.below hb).alloc (.cells #[.int .i64 n', .int .i64 x.line.serve] 51))
 have B1 := ak_ ((hb.mono H0.out.Blt).alloc (Nat.le_trans H0.out.Blt hb.size) (.cells #[.int .i64 n', .int .i64 x.line.serve] 51))
 clear hb mp_ m1_ m2_
 have mp_ := H1.out.mp_ hm
 have s1_ := H1.out.s1
 have m1_ := H1.out.m1 hx
 have m2_ := H1.out.m2 hx
 have fm1_ := H1.out.fm1 hx
 have fm2_ := H1.out.fm2 hx
 have c5_ := H1.out.c5
 have fc5_ := H1.out.fc5
 have t0_ : (w1.alloc (.cells #[.int .i64 n', .int .i64 x.line.serve] 51)).cell? ⟨w1.heap.size, 0, none⟩ = some (.int .i64 n') := blk_cell (blk_new w1 _) 0
 have t1_ : (w1.alloc (.cells #[.int .i64 n', .int .i64 x.line.serve] 51)).cell? ⟨w1.heap.size, 1, none⟩ = some (.int .i64 x.line.serve) := blk_cell (blk_new w1 _) 1
 have ncm := H1.out.ne_cm
 go_wp2_with (go_at_call 113; refine (must113 _).mono ?_; rintro e w3 ⟨rfl, rfl⟩)
 go_region
 obtain ⟨W, hW⟩ : ∃ W, W = ((((w1.alloc (.cells #[.int .i64 n', .int .i64 x.line.serve] 51)).setCell ⟨k.mb, m * 3 + 1, none⟩ (.int .i64 n')).setCell ⟨k.mb, m * 3 + 1 + 1, none⟩ (.int .i64 x.line.serve)).setCell ⟨k.cp, 5, none⟩ (.int .i64 x.line.next)).drew := ⟨_, rfl⟩
 rw [← hW]
 have H2 : Aside0 (St B k { s with mu := s.mu.set m { x with line := ⟨n', x.line.serve⟩ }, c := { s.c with ticket := x.line.next } } W) := ⟨by
  have h3 := (((H1.out.putm m x { x with line := { x.line with next := n' } } hx 1 (by omega) (.int .i64 n') rfl).putm m _ { x with line := ⟨n', x.line.serve⟩ } (set_at_same hx) 2 (by omega) (.int .i64 x.line.serve) rfl).putc 5 (.int .i64 x.line.next) { s.c with ticket := x.line.next } rfl).drew
  rw [set_twice] at h3
  rw [hW]
  exact h3⟩
 have B2 : Aside0 (Below B w W) := ⟨by rw [hW]; exact below_drew (((B1.out.setCell (p := ⟨k.mb, m * 3 + 1, none⟩) H0.out.lo_m _).setCell (p := ⟨k.mb, m * 3 + 2, none⟩) H0.out.lo_m _).setCell (p := ⟨k.cp, 5, none⟩) H0.out.lo_c _)⟩
 clear hW mp_ s1_ m1_ m2_ fm1_ fm2_ c5_ fc5_ t0_ t1_
 have s1_ := H2.out.s1
 have c3_ := H2.out.c3
 have fc3_ := H2.out.fc3
 go_wp2
 go_end0
 refine ⟨rfl, B2.out.setCell (p := ⟨k.cp, 3, none⟩) H0.out.lo_c _, _, ?_, H2.out.putc 3 (.int .i64 (s.c.pc + 1)) { s.c with ticket := x.line.next, pc := s.c.pc + 1 } rfl⟩
 exact ⟨rfl, by show s.mu.set m { x with line := ⟨n', x.line.serve⟩ } = _; rw [HN.out]; rfl, by show s.tab = tableOf (L.set m y); rw [set_self CX.out.ly]; exact CX.out.tab, CX.out.ov, CX.out.evs, CX.out.st, rfl, rfl, rfl, rfl, rfl, rfl⟩
theorem turn88 {B m : Nat} {k : Blk} {s : Sx} {w : World} {x : M.Mutex} {L : List M.Sem} {y : M.Sem} (h : St B k s w) (cx : Cx k s m x L y) (hd : spin_Turn.f x.line.next x.line.serve s.c.ticket = some (s.c.ticket == x.line.serve, 0)) (hpc : 0 ≤ s.c.pc ∧ s.c.pc ≤ 100) :
  Calls Tryz.prog 88 #[.pointer (some ⟨k.sp, 0, none⟩)] w (Dx B k (Rx s m L (M.turnR s.c x y)) w) := by
 have H0 := ak_ h
 have CX := ak_ cx
 have hm := cx.mp
 have hx := cx.mx
 have mp_ := h.mp_ hm
 have s1_ := h.s1
 have m1_ := h.m1 hx
 have m2_ := h.m2 hx
 have c5_ := h.c5
 clear h cx
 have HD := ak_ hd
 clear hd
 have hu81 := Tryz.underlying81
 have hu53 := Tryz.underlying53
 have hu51 := Tryz.underlying51
 have hu44 := Tryz.underlying44
 have hw1 : wrap64 (s.c.pc + 1) = s.c.pc + 1 := by unfold wrap64; omega
 obtain ⟨b, hb0⟩ : ∃ b, b = (s.c.ticket == x.line.serve) := ⟨_, rfl⟩
 rw [← hb0] at HD
 have HR : Aside0 (M.turnR s.c x y = ⟨if b then { s.c with pc := s.c.pc + 1 } else s.c, x, y, false, none, none, 0⟩) := ⟨by unfold M.turnR; rw [hb0]; by_cases q : s.c.ticket = x.line.serve <;> simp [q]⟩
 clear hb0
 go_enter Tryz.func88, Tryz.ntmps88
 go_wp2
 go_region_held3 (fun w' => w'.cell? ⟨k.sp, 1, none⟩ = some (.pointer (some ⟨k.cp, 0, none⟩)) ∧ w'.cell? ⟨k.sp, 2, none⟩ = some (.pointer (some ⟨k.mb, m * 3, none⟩)) ∧ w'.cell? ⟨k.mb, m * 3 + 1, none⟩ = some (.int .i64 x.line.next) ∧ w'.cell? ⟨k.mb, m * 3 + 2, none⟩ = some (.int .i64 x.line.serve) ∧ w'.cell? ⟨k.cp, 5, none⟩ = some (.int .i64 s.c.ticket)) (go_keep) ((go_at_call 124; refine (spin_Turn.calls _ _ _ b 0 _ HD.out).mono ?_; rintro e w2 ⟨rfl, hb⟩; have H2 := ak_ (St.below (by first | exact H0.out.drew | exact H0.out | exact H0.out.drewN _) hb); have B2 := ak_ (Below.trans (by first | exact below_drew (Below.refl B w) | exact Below.refl B w) (hb.mono H0.out.Blt)); have a1 := H2.out.s1; have a2 := H2.out.mp_ hm; have a3 := H2.out.m1 hx; have a4 := H2.out.m2 hx; have a5 := H2.out.c5; clear hb))
 have s1_ := H2.out.s1
 have c3_ := H2.out.c3
 have fc3_ := H2.out.fc3
 cases b with
 | true =>
  go_wp2_with (go_at_call 113; refine (must113 _).mono ?_; rintro e w3 ⟨rfl, rfl⟩)
  go_end0
  refine ⟨rfl, B2.out.setCell (p := ⟨k.cp, 3, none⟩) H0.out.lo_c _, _, ?_, H2.out.putc 3 (.int .i64 (s.c.pc + 1)) { s.c with pc := s.c.pc + 1 } rfl⟩
  rw [HR.out]
  exact ⟨rfl, (set_self CX.out.mx).symm, by show s.tab = tableOf (L.set m y); rw [set_self CX.out.ly]; exact CX.out.tab, CX.out.ov, CX.out.evs, CX.out.st, rfl, rfl, rfl, rfl, rfl, rfl⟩
 | false =>
  go_wp2_with (go_at_call 113; refine (must113 _).mono ?_; rintro e w3 ⟨rfl, rfl⟩)
  go_end0
  refine ⟨rfl, B2.out, _, ?_, H2.out⟩
  rw [HR.out]
  exact ⟨rfl, (set_self CX.out.mx).symm, by show s.tab = tableOf (L.set m y); rw [set_self CX.out.ly]; exact CX.out.tab, CX.out.ov, CX.out.evs, CX.out.st, rfl, rfl, rfl, rfl, rfl, rfl⟩
end Go.Proofs.YtoimfknjfeencaaGreatDoor.Hand
end
