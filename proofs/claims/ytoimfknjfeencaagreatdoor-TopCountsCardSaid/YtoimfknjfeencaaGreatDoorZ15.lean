/- Part of the walk of a law of the top, and what it leans on (Set1, Set2). No conditions beyond those that each lemma names. -/
import Derived.Test.YtoimfknjfeencaaGreatDoorZ14
import Derived.Test.YtoimfknjfeencaaGreatDoorZ08
set_option linter.unusedVariables false
set_option linter.unusedSimpArgs false
set_option maxHeartbeats 8000000
set_option maxRecDepth 100000
section
namespace Go.Proofs.YtoimfknjfeencaaGreatDoor.Hand
open Go.RowKit Go.Proofs.YtoimfknjfeencaaGreatDoorW.PrintWords Go.Proofs.YtoimfknjfeencaaGreatDoorW.PrintLast Go.Proofs.YtoimfknjfeencaaGreatDoorW.PrintMore
theorem sameAt_root (m : Nat) : sameAt (8 * (m : Int)) = atRoot m := rfl
theorem del_calls (a : Int) (B p : Nat) (v : Value) (vs : List VS) (w : World) (hO : kV.R 87 w B (fun _ => True) v vs) (hB : B ≤ w.heap.size) (hpB : p < B) (hp : w.cell? ⟨p, 0, none⟩ = some (.int .i64 a)) (h1 : (vs.filter (sameAt a)).length ≤ 1) (hl : vs.length ≤ 64) :
  Calls Tryz.prog 190 #[v, .func (.func 192) #[] #[.pointer (some ⟨p, 0, none⟩)]] w (DelPost B (others a vs) w) := by
 cases q : vs.findIdx? (sameAt a) with
 | none =>
  have hi : idxI (sameAt a) vs = -1 := by unfold idxI; rw [q]
  rw [others_all vs hi]
  exact del_none a v B p vs w hO hB hpB hp hi
 | some i =>
  have hi : idxI (sameAt a) vs = (i : Int) := by unfold idxI; rw [q]
  have hlt := (List.findIdx?_eq_some_iff_getElem.1 q).1
  obtain ⟨g, cap, cur, rfl, _⟩ := R_own2 hO vs.length rfl (by omega)
  exact del_one a g vs.length cap B p i vs w hO hB hpB hp hi h1 hl
def seatOf (a : Int) (r : List VS) : Nat := match r.findIdx? (pastAt a) with
 | some i => i
 | none => r.length
def setV (v : VS) (vs : List VS) : List VS := if v.count = 0 ∧ v.n = 0 then others v.addr vs else insV (others v.addr vs) (seatOf v.addr (others v.addr vs)) v
def SetPost (ys : List VS) (w : World) (e : Ending) (w' : World) : Prop := ∃ u, e = .returned (.tuple #[u, .int .i64 0]) ∧ kV.R 87 w' w.heap.size (fun _ => True) u ys ∧ Below w.heap.size w w'
theorem set_calls (m c : Nat) (A : Option Addr) (vs : List VS) (t : List Spot) (v : VS) (s : Spot) (w : World) (hm : m < 4) (hC : kV.C w A vs.length vs) (hc : vs.length ≤ c) (hv : VRow w vs t) (ht : OkTab t) (hs : VReads w v s) (ho : OkSpot s) (hsa : v.addr = 8 * (m : Int)) (hl : vs.length ≤ 60) :
    Calls Tryz.prog 161 #[.slice A vs.length c, vv v] w (SetPost (setV v vs) w) := by
  have hlv := hv.1
  have hnil : A = none → vs = [] := fun h => by
    cases vs with
    | nil => rfl
    | cons x r => obtain ⟨ad, e, _⟩ := hC.2.2 (by simp); rw [h] at e; cases e
  have HR := ak_ (fun w' (hb : Below w.heap.size w w') => rootRight_yes A c t w' (Kd.C_below (kSpot_of (by rw [← hlv]; exact hC) hv) hb) (by rw [← hlv]; exact hc) ht)
  rw [← hlv] at HR
  have HI := ak_ (fun w' (hb : Below w.heap.size w w') => isSpot_yes s v.A v.c w' ho (Kd.C_below hs.l hb) (by rw [← hs.n]; exact hs.c))
  rw [← hs.a, ← hs.k, ← hs.n] at HI
  have HK := ak_ (fun w' (hb : Below w.heap.size w w') => clone191 A c vs w' (Kd.C_below hC hb) (by omega) hnil)
  have h1 : (vs.filter (sameAt (8 * (m : Int)))).length ≤ 1 := by rw [sameAt_root]; exact filter_one hv ht m
  have had := ak_ (hv.ad ht)
  have hE := ak_ (fun w' b hb => isEmpty_any v.addr v.count v.A v.n v.c w' b hb)
  have B0 := ak_ ((Below.refl w.heap.size w).alloc (Nat.le_refl _) (.cells #[.int .i64 v.addr, .int .i64 v.count, .slice v.A v.n v.c] 87))
  have K0 := ak_ (blk_new w (.cells #[.int .i64 v.addr, .int .i64 v.count, .slice v.A v.n v.c] 87))
  have hu := Tryz.underlying87
  have hol : (others v.addr vs).length ≤ vs.length := List.length_filter_le _ _
  have hse : v.count = 0 ∧ v.n = 0 → setV v vs = others (8 * (m : Int)) vs := fun h => by unfold setV; rw [if_pos h, hsa]
  have hsn : ¬ (v.count = 0 ∧ v.n = 0) → setV v vs = insV (others (8 * (m : Int)) vs) (seatOf (8 * (m : Int)) (others (8 * (m : Int)) vs)) v := fun h => by unfold setV; rw [if_neg h, hsa]
  obtain ⟨RES, hRES⟩ : ∃ RES, RES = setV v vs := ⟨_, rfl⟩
  rw [← hRES] at hse hsn ⊢
  have HSE := ak_ hse
  have HSN := ak_ hsn
  have HO' := ak_ hol
  rw [hsa] at HO'
  have C0 : (w.alloc (.cells #[.int .i64 v.addr, .int .i64 v.count, .slice v.A v.n v.c] 87)).cell? ⟨w.heap.size, 0, none⟩ = some (.int .i64 v.addr) := blk_cell K0.out 0
  have HA := ak_ hsa
  unfold vv
  clear hsa hC hv ht hs ho hnil hlv hse hsn hRES hol
  go_enter Tryz.func161, Tryz.ntmps161
  go_wp2_with fail
  refine (HR.out _ B0.out).mono ?_
  rintro e w1 ⟨rfl, hb⟩
  have K1 := ak_ (blk_below K0.out hb)
  have B1 := ak_ (B0.out.trans (hb.mono (by simp)))
  have x0 : w1.cell? ⟨w.heap.size, 0, none⟩ = some (.int .i64 v.addr) := blk_cell K1.out 0
  have x1 : w1.cell? ⟨w.heap.size, 1, none⟩ = some (.int .i64 v.count) := blk_cell K1.out 1
  have x2 : w1.cell? ⟨w.heap.size, 2, none⟩ = some (.slice v.A v.n v.c) := blk_cell K1.out 2
  clear hb C0
  go_wp2_with fail
  refine (HI.out _ B1.out).mono ?_
  rintro e w2 ⟨rfl, hb⟩
  have K2 := ak_ (blk_below K1.out hb)
  have B2 := ak_ (B1.out.trans (hb.mono B1.out.size))
  clear hb x0 x1 x2
  go_wp2_with fail
  refine (HK.out _ B2.out).mono ?_
  rintro e w3 ⟨u, rfl, hO, hb⟩
  have K3 := ak_ (blk_below K2.out hb)
  have B3 := ak_ (B2.out.trans (hb.mono B2.out.size))
  have HB23 := hb.size
  have HP2 : w.heap.size < w2.heap.size := (Array.getElem?_eq_some_iff.1 K2.out).1
  have HO3 := ak_ hO
  have c0 : w3.cell? ⟨w.heap.size, 0, none⟩ = some (.int .i64 v.addr) := blk_cell K3.out 0
  rw [HA.out] at c0
  clear hb hO
  go_wp2_with fail
  refine (del_calls (8 * (m : Int)) w2.heap.size w.heap.size u vs w3 HO3.out HB23 HP2 c0 h1 (by omega)).mono ?_
  rintro e w4 ⟨u4, rfl, hO, hb⟩
  have HO4 := ak_ hO
  have K4 := ak_ (show w4.heap[w.heap.size]? = _ from (hb.block _ HP2).trans K3.out)
  have B4 := ak_ (B3.out.trans (hb.mono (by omega)))
  have x0 : w4.cell? ⟨w.heap.size, 0, none⟩ = some (.int .i64 v.addr) := blk_cell K4.out 0
  have x1 : w4.cell? ⟨w.heap.size, 1, none⟩ = some (.int .i64 v.count) := blk_cell K4.out 1
  have x2 : w4.cell? ⟨w.heap.size, 2, none⟩ = some (.slice v.A v.n v.c) := blk_cell K4.out 2
  have HB24 := hb.size
  clear hb hO c0
  by_cases hemp : v.count = 0 ∧ v.n = 0
  · have hbt : true = (decide (v.count = 0) && decide (v.n = 0)) := by simp [hemp]
    have HR0 := ak_ (HSE.out hemp)
    have HX := ak_ (hE.out w4 true hbt)
    clear hemp hbt
    go_wp2_with fail
    refine HX.out.mono ?_
    rintro e w5 ⟨rfl, hb⟩
    go_wp2
    go_ret2
    exact ⟨u4, rfl, by rw [HR0.out]; exact Kd.R_lower (Kd.R_below HO4.out hb) (by omega), B4.out.trans (hb.mono B4.out.size)⟩
  · have hbt : false = (decide (v.count = 0) && decide (v.n = 0)) := by
      by_cases q : v.count = 0
      · have : v.n ≠ 0 := fun h => hemp ⟨q, h⟩
        simp [q, this]
      · simp [q]
    have HR0 := ak_ (HSN.out hemp)
    have HX := ak_ (hE.out w4 false hbt)
    clear hemp hbt
    obtain ⟨r, hr⟩ : ∃ r, r = others (8 * (m : Int)) vs := ⟨_, rfl⟩
    rw [← hr] at HO4 HR0 HO'
    have hrl : r.length ≤ 60 := by have := HO'.out; omega
    have hrI : (r.length : Int) ≤ 60 := by omega
    have hrm := ak_ (fun x (h : x ∈ r) => had.out x (by rw [hr] at h; exact (List.mem_filter.1 h).1))
    obtain ⟨A4, c4, rfl⟩ := Kd.R_slice HO4.out
    clear hr
    go_wp2_with fail
    refine HX.out.mono ?_
    rintro e w5 ⟨rfl, hb⟩
    have HO5 := ak_ (Kd.R_below HO4.out hb)
    have K5 := ak_ (blk_below K4.out hb)
    have B5 := ak_ (B4.out.trans (hb.mono B4.out.size))
    have HB25 := hb.size
    have c0 : w5.cell? ⟨w.heap.size, 0, none⟩ = some (.int .i64 (8 * (m : Int))) := by rw [← HA.out]; exact blk_cell K5.out 0
    have hsix := ak_ (spotIndex 193 (by simp) (.pointer (some ⟨w.heap.size, 0, none⟩)) A4 c4 r (pastAt (8 * (m : Int))) (fun w' => w'.cell? ⟨w.heap.size, 0, none⟩ = some (.int .i64 (8 * (m : Int)))) (fun w1 w2 h hb => pw_cell_below hb h)
      (fun x hx w' h => by
        obtain ⟨j, hj, ha⟩ := hrm.out x hx
        have := set193 j m hj hm w.heap.size x.count x.A x.n x.c w' h
        rw [← ha] at this
        exact this) w5 c0 (Kd.R_reads' HO5.out).2.2)
    clear hb x0 x1 x2
    go_wp2_with fail
    refine hsix.out.mono ?_
    rintro e w6 ⟨rfl, hb⟩
    have HO6 := ak_ (Kd.R_alloc (Kd.R_below HO5.out hb) (.cells (encV v).toArray 87))
    have K6 := ak_ (blk_below K5.out hb)
    have B6 := ak_ (B5.out.trans (hb.mono B5.out.size))
    have HB26 := Nat.le_trans HB25 hb.size
    have x0 : w6.cell? ⟨w.heap.size, 0, none⟩ = some (.int .i64 v.addr) := blk_cell K6.out 0
    have x1 : w6.cell? ⟨w.heap.size, 1, none⟩ = some (.int .i64 v.count) := blk_cell K6.out 1
    have x2 : w6.cell? ⟨w.heap.size, 2, none⟩ = some (.slice v.A v.n v.c) := blk_cell K6.out 2
    have hgl := fun k hk => ((Kd.R_bound (Kd.R_below HO5.out hb)).1 k hk).2.2.1
    have HINS := ak_ (fun i (hi : i ≤ r.length) => ins194 r.length w2.heap.size w6.heap.size i (.slice A4 r.length c4) v r (w6.alloc (.cells (encV v).toArray 87)) HO6.out (by simp; omega) (blk_new w6 _) (fun k hk => by have := hgl k hk; omega) hi (by omega))
    clear hb c0 hgl
    cases q : r.findIdx? (pastAt (8 * (m : Int))) with
    | none =>
      have hidx : idxI (pastAt (8 * (m : Int))) r = -1 := by unfold idxI; rw [q]
      have hseat := ak_ (show seatOf (8 * (m : Int)) r = r.length by unfold seatOf; rw [q])
      rw [hidx]
      clear q hidx
      go_wp2_with fail
      refine (HINS.out r.length (Nat.le_refl _)).mono ?_
      rintro e w7 ⟨u7, rfl, hO, hb⟩
      have HO7 := ak_ hO
      have B7 := ak_ ((B6.out.alloc B6.out.size (.cells (encV v).toArray 87)).trans (hb.mono (by have := B2.out.size; omega)))
      clear hO hb
      go_wp2
      go_ret2
      exact ⟨u7, rfl, by rw [HR0.out, hseat.out]; exact Kd.R_lower HO7.out (by omega), B7.out⟩
    | some i =>
      have hidx : idxI (pastAt (8 * (m : Int))) r = (i : Int) := by unfold idxI; rw [q]
      have hseat := ak_ (show seatOf (8 * (m : Int)) r = i by unfold seatOf; rw [q])
      have hlt := (List.findIdx?_eq_some_iff_getElem.1 q).1
      have hneg : ¬ ((i : Int) < 0) := by omega
      rw [hidx]
      clear q hidx
      go_wp2_with fail
      refine (HINS.out i (by omega)).mono ?_
      rintro e w7 ⟨u7, rfl, hO, hb⟩
      have HO7 := ak_ hO
      have B7 := ak_ ((B6.out.alloc B6.out.size (.cells (encV v).toArray 87)).trans (hb.mono (by have := B2.out.size; omega)))
      clear hO hb
      go_wp2
      go_ret2
      exact ⟨u7, rfl, by rw [HR0.out, hseat.out]; exact Kd.R_lower HO7.out (by omega), B7.out⟩
theorem VRow.split {w : World} {vs : List VS} {t1 t2 : List Spot} (h : VRow w vs (t1 ++ t2)) : ∃ v1 v2, vs = v1 ++ v2 ∧ VRow w v1 t1 ∧ VRow w v2 t2 := by
 obtain ⟨hl, hc⟩ := h
 rw [List.length_append] at hl
 refine ⟨vs.take t1.length, vs.drop t1.length, (List.take_append_drop _ _).symm, ⟨by rw [List.length_take]; omega, ?_⟩, ⟨by rw [List.length_drop]; omega, ?_⟩⟩
 ·intro i v s hv hs
  have hi := (List.getElem?_eq_some_iff.1 hs).1
  rw [List.getElem?_take, if_pos hi] at hv
  exact hc i v s hv (by rw [List.getElem?_append_left hi]; exact hs)
 ·intro i v s hv hs
  rw [List.getElem?_drop] at hv
  exact hc (t1.length + i) v s hv (by rw [List.getElem?_append_right (by omega), Nat.add_sub_cancel_left]; exact hs)
theorem VRow.join {w : World} {v1 v2 : List VS} {t1 t2 : List Spot} (h1 : VRow w v1 t1) (h2 : VRow w v2 t2) : VRow w (v1 ++ v2) (t1 ++ t2) := by
 refine ⟨by rw [List.length_append, List.length_append, h1.1, h2.1], fun i v s hv hs => ?_⟩
 by_cases hi : i < v1.length
 ·rw [List.getElem?_append_left hi] at hv
  rw [List.getElem?_append_left (by rw [← h1.1]; exact hi)] at hs
  exact h1.2 i v s hv hs
 ·rw [List.getElem?_append_right (by omega)] at hv
  rw [List.getElem?_append_right (by rw [← h1.1]; omega), ← h1.1] at hs
  exact h2.2 _ v s hv hs
theorem VRow.one {w : World} {v : VS} {s : Spot} (h : VReads w v s) : VRow w [v] [s] := ⟨rfl, fun i a b ha hb => by
 cases i with
 | zero => simp at ha hb; subst ha; subst hb; exact h
 | succ i => simp at ha⟩
theorem VRow.none {w : World} : VRow w [] [] := ⟨rfl, fun i a b ha hb => by simp at ha⟩
theorem VRow.of_none {w : World} {vs : List VS} (h : VRow w vs []) : vs = [] := List.length_eq_zero_iff.1 h.1
theorem VRow.of_one {w : World} {vs : List VS} {s : Spot} (h : VRow w vs [s]) : ∃ v, vs = [v] ∧ VReads w v s := by
 obtain ⟨v, rfl⟩ := List.length_eq_one_iff.1 h.1
 exact ⟨v, rfl, h.2 0 v s rfl rfl⟩
theorem VRow.all {w : World} {vs : List VS} {t : List Spot} (h : VRow w vs t) (p : Int → Prop) (hp : ∀ s ∈ t, p s.addr) : ∀ v ∈ vs, p v.addr := by
 intro v hm
 obtain ⟨i, hi⟩ := List.getElem?_of_mem hm
 have h1 := (List.getElem?_eq_some_iff.1 hi).1
 rw [h.1] at h1
 rw [(h.2 i v _ hi (List.getElem?_eq_getElem h1)).a]
 exact hp _ (List.getElem_mem h1)
theorem table_split : ∀ (L : List M.Sem) (k m : Nat) (y : M.Sem), L[m]? = some y → tableFrom L k = tableFrom (L.take m) k ++ (spotOf y (k + m) ++ tableFrom (L.drop (m + 1)) (k + m + 1))
 | [], k, m, y, h => by simp at h
 | s :: r, k, 0, y, h => by
  simp at h
  subst h
  rfl
 | s :: r, k, m + 1, y, h => by
  rw [List.take_succ_cons, tableFrom, tableFrom, table_split r (k + 1) m y (by simpa using h), List.append_assoc, List.drop_succ_cons]
  rw [show k + 1 + m = k + (m + 1) by omega]
theorem set_drop {α : Type} : ∀ (L : List α) (m : Nat) (s : α), (L.set m s).take m = L.take m ∧ (L.set m s).drop (m + 1) = L.drop (m + 1)
 | [], m, s => by simp
 | x :: r, 0, s => by simp
 | x :: r, m + 1, s => by have := set_drop r m s; simp [this.1, this.2]
theorem lo_take (L : List M.Sem) (m : Nat) : ∀ s ∈ tableFrom (L.take m) 0, s.addr < 8 * (m : Int) := by
 intro s hs
 obtain ⟨k, y, hk, _, rfl⟩ := mem_tableFrom _ _ _ hs
 have := (List.getElem?_eq_some_iff.1 hk).1
 rw [List.length_take] at this
 show 8 * ((0 + k : Nat) : Int) < _
 omega
theorem hi_drop (L : List M.Sem) (m : Nat) : ∀ s ∈ tableFrom (L.drop (m + 1)) (0 + m + 1), 8 * (m : Int) < s.addr := by
 intro s hs
 obtain ⟨k, y, hk, _, rfl⟩ := mem_tableFrom _ _ _ hs
 show _ < 8 * ((0 + m + 1 + k : Nat) : Int)
 omega
theorem tab_open {w : World} {vs : List VS} {L : List M.Sem} {m : Nat} {y : M.Sem} (hy : L[m]? = some y) (hv : VRow w vs (tableOf L)) : ∃ p q r, vs = p ++ (q ++ r) ∧ VRow w p (tableFrom (L.take m) 0) ∧ VRow w q (spotOf y (0 + m)) ∧ VRow w r (tableFrom (L.drop (m + 1)) (0 + m + 1)) ∧ (∀ v ∈ p, v.addr < 8 * (m : Int)) ∧ (∀ v ∈ q, v.addr = 8 * (m : Int)) ∧ (∀ v ∈ r, 8 * (m : Int) < v.addr) := by
 unfold tableOf at hv
 rw [table_split L 0 m y hy] at hv
 obtain ⟨p, x, rfl, hp, hx⟩ := hv.split
 obtain ⟨q, r, rfl, hq, hr⟩ := hx.split
 refine ⟨p, q, r, rfl, hp, hq, hr, hp.all (fun a => a < 8 * (m : Int)) (lo_take L m), hq.all (fun a => a = 8 * (m : Int)) (fun s hs => ?_), hr.all (fun a => 8 * (m : Int) < a) (hi_drop L m)⟩
 unfold spotOf at hs
 split at hs
 ·simp at hs
 ·simp at hs
  rw [hs]
theorem seat_mid {a : Int} : ∀ (p r : List VS), (∀ v ∈ p, v.addr < a) → (∀ v ∈ r, a < v.addr) → seatOf a (p ++ r) = p.length
 | [], r, _, hr => by
  cases r with
  | nil => rfl
  | cons x r =>
   unfold seatOf
   rw [List.nil_append, List.findIdx?_cons, if_pos (by unfold pastAt; exact decide_eq_true (hr x (by simp)))]
   rfl
 | x :: p, r, hp, hr => by
  have ih := seat_mid p r (fun v hv => hp v (by simp [hv])) hr
  have hx := hp x (by simp)
  unfold seatOf at *
  rw [List.cons_append, List.findIdx?_cons, if_neg (by unfold pastAt; simp; omega)]
  cases q : (p ++ r).findIdx? (pastAt a) with
  | none =>
   rw [q] at ih
   simp only [Option.map_none] at ih ⊢
   simpa using ih
  | some i =>
   rw [q] at ih
   simp only [Option.map_some] at ih ⊢
   simp [ih]
theorem set_table {w : World} {vs : List VS} {L : List M.Sem} {m : Nat} {y s : M.Sem} {v : VS} (hy : L[m]? = some y) (hv : VRow w vs (tableOf L)) (hr : VReads w v ⟨8 * (m : Int), s.count, s.line.map Int.ofNat⟩) : VRow w (setV v vs) (tableOf (L.set m s)) := by
 obtain ⟨p, q, r, rfl, hp, hq, hrr, ap, aq, ar⟩ := tab_open hy hv
 have ha : v.addr = 8 * (m : Int) := hr.a
 have hoth : others v.addr (p ++ (q ++ r)) = p ++ r := by
  unfold others
  rw [List.filter_append, List.filter_append, List.filter_eq_self.2, List.filter_eq_nil_iff.2, List.filter_eq_self.2, List.nil_append]
  ·intro x hx; have := ar x hx; unfold sameAt; simp; omega
  ·intro x hx; have := aq x hx; unfold sameAt; simp; omega
  ·intro x hx; have := ap x hx; unfold sameAt; simp; omega
 have hm : m < L.length := (List.getElem?_eq_some_iff.1 hy).1
 unfold tableOf
 rw [table_split (L.set m s) 0 m s (by simp [hm]), (set_drop L m s).1, (set_drop L m s).2]
 unfold setV spotOf
 rw [hoth, ha, seat_mid p r ap ar]
 have hn : v.n = 0 ↔ s.line = [] := by
  rw [hr.n]
  show (s.line.map Int.ofNat).length = 0 ↔ _
  rw [List.length_map]
  exact List.length_eq_zero_iff
 have hk : v.count = s.count := hr.k
 by_cases he : s.count = 0 ∧ s.line = []
 ·rw [if_pos ⟨by rw [hk]; exact he.1, hn.2 he.2⟩, if_pos he]
  exact hp.join (VRow.join VRow.none hrr)
 ·rw [if_neg (fun h => he ⟨by rw [← hk]; exact h.1, hn.1 h.2⟩), if_neg he]
  unfold insV
  rw [List.take_left' rfl, List.drop_left' rfl]
  rw [Nat.zero_add] at hrr ⊢
  exact hp.join (VRow.join (VRow.one hr) hrr)
theorem get_table {w : World} {vs : List VS} {L : List M.Sem} {m : Nat} {y : M.Sem} (hy : L[m]? = some y) (hv : VRow w vs (tableOf L)) : VReads w (getV vs m) ⟨8 * (m : Int), y.count, y.line.map Int.ofNat⟩ := by
 obtain ⟨p, q, r, rfl, hp, hq, hrr, ap, aq, ar⟩ := tab_open hy hv
 unfold getV
 rw [List.find?_append, List.find?_append, List.find?_eq_none.2 (fun x hx => by have := ap x hx; unfold atRoot; simp; omega)]
 unfold spotOf at hq
 by_cases he : y.count = 0 ∧ y.line = []
 ·rw [if_pos he] at hq
  rw [hq.of_none, List.find?_nil, List.find?_eq_none.2 (fun x hx => by have := ar x hx; unfold atRoot; simp; omega)]
  exact ⟨rfl, by show 0 = y.count; exact he.1.symm, by show 0 = (y.line.map Int.ofNat).length; rw [he.2]; rfl, Nat.le_refl _, by show (Kd.int .i64).C w Option.none (y.line.map Int.ofNat).length (y.line.map Int.ofNat); rw [he.2]; exact ⟨rfl, by simp, fun h => absurd h (by simp)⟩⟩
 ·rw [if_neg he] at hq
  obtain ⟨v, rfl, hv2⟩ := hq.of_one
  rw [List.find?_cons_of_pos (by unfold atRoot; have := aq v (by simp); simp [this])]
  rw [Nat.zero_add] at hv2
  exact hv2
end Go.Proofs.YtoimfknjfeencaaGreatDoor.Hand
end
