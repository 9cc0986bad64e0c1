/- Part of the walk of a law of the top, and what it leans on (Table2, Table3, Grab, Spin, Mach, Mach1, Mach2, Fact). No conditions beyond those that each lemma names. -/
import Derived.Test.YtoimfknjfeencaaGreatDoorZ07
import Derived.Test.YtoimfknjfeencaaGreatDoorZ06
import Derived.OpenShut
set_option linter.unusedVariables false
set_option linter.unusedSimpArgs false
set_option maxHeartbeats 8000000
set_option maxRecDepth 100000
section
namespace Go.Proofs.YtoimfknjfeencaaGreatDoor.Hand
open Go.RowKit Go.Proofs.YtoimfknjfeencaaGreatDoorW.PrintWords Go.Proofs.YtoimfknjfeencaaGreatDoorW.PrintLast Go.Proofs.YtoimfknjfeencaaGreatDoorW.PrintMore
structure OkTab (t : List Spot) : Prop where
 ok : ∀ s ∈ t, OkSpot s
 ne : ∀ s ∈ t, ¬ (s.count = 0 ∧ s.line = [])
 ad : ∀ s ∈ t, ∃ m : Nat, m < 4 ∧ s.addr = 8 * (m : Int)
 up : ∀ (i : Nat) (a b : Spot), t[i]? = some a → t[i + 1]? = some b → a.addr < b.addr
 len : t.length ≤ 64
theorem rootRight_yes (A : Option Addr) (c : Nat) (t : List Spot) (w : World) (hC0 : kSpot.C w A t.length t) (hc : t.length ≤ c) (h : OkTab t) :
  Calls Tryz.prog 25 #[.slice A t.length c] w fun e w' => e = .returned (.bool true) ∧ Below w.heap.size w w' := by
 have HC := ak_ hC0
 have HT := ak_ h
 have hu := Tryz.underlying87
 have hlen : (t.length : Int) ≤ 64 := by have := h.len; omega
 clear hC0 h
 go_enter Tryz.func25, Tryz.ntmps25
 go_wp2
 go_loopg [3, 7] t.length (fun g v3 v7 wx => Aside0 (Below w.heap.size w wx) ∧ ∃ i : Nat, i + g = t.length ∧ v7 = .int .i64 i)
 case atStart => exact ⟨⟨Below.refl _ _⟩, 0, by omega, rfl⟩
 case round =>
  obtain ⟨HB, i, hig, rfl⟩ := hrel
  cases gk with
  | zero =>
   have hi : i = t.length := by omega
   have hnot : ¬ ((i : Int) < (t.length : Int)) := by omega
   clear hi
   go_wp2
   go_ret
   exact ⟨rfl, HB.out⟩
  | succ go =>
   have hlt : i < t.length := by omega
   obtain ⟨s, hx⟩ : ∃ s, t[i]? = some s := ⟨_, List.getElem?_eq_getElem hlt⟩
   obtain ⟨ad, A0, c0, he, y0, y1, y2, l0, g0⟩ := spot_cells HC.out i s hx
   cases he
   have hmem := List.mem_of_getElem? hx
   have HS := ak_ (fun w' (hb : Below w.heap.size w w') => isSpot_yes s A0 c0 w' (HT.out.ok s hmem) (Kd.C_below g0 hb) l0)
   have hem : (false : Bool) = (decide (s.count = 0) && decide (s.line.length = 0)) := by
    have := HT.out.ne s hmem
    by_cases q : s.count = 0 <;> by_cases q2 : s.line = [] <;> simp_all
   have HE := ak_ (fun w' => isEmpty_any s.addr s.count A0 s.line.length c0 w' false hem)
   replace y0 := (HB.out.cell (World.block_lt_of_cell? w _ y0)).trans y0
   replace y1 := (HB.out.cell (World.block_lt_of_cell? w _ y1)).trans y1
   replace y2 := (HB.out.cell (World.block_lt_of_cell? w _ y2)).trans y2
   have hil : (i : Int) < (t.length : Int) := by omega
   clear g0 hem
   go_wp2_with fail
   have BK := blk_new wr (.cells #[.int .i64 s.addr, .int .i64 s.count, .slice A0 s.line.length c0] 87)
   have BB := bel2 HB.out (.cells #[.int .i64 s.addr, .int .i64 s.count, .slice A0 s.line.length c0] 87)
   generalize wr.alloc (.cells #[.int .i64 s.addr, .int .i64 s.count, .slice A0 s.line.length c0] 87) = W at *
   have BB := ak_ BB
   have a0 : W.cell? ⟨wr.heap.size, 0, none⟩ = some (.int .i64 s.addr) := blk_cell BK 0
   have a1 : W.cell? ⟨wr.heap.size, 1, none⟩ = some (.int .i64 s.count) := blk_cell BK 1
   have a2 : W.cell? ⟨wr.heap.size, 2, none⟩ = some (.slice A0 s.line.length c0) := blk_cell BK 2
   have hz : wr.heap.size < W.heap.size := blk_lt BK
   clear BK y0 y1 y2
   by_cases hi0 : i = 0
   ·have hg : decide ((0 : Int) < (i : Int)) = false := by simp [hi0]
    refine wp_region_held_drew (S := (fun w' => w'.cell? ⟨wr.heap.size, 0, none⟩ = some (.int .i64 s.addr) ∧ w'.cell? ⟨wr.heap.size, 1, none⟩ = some (.int .i64 s.count) ∧ w'.cell? ⟨wr.heap.size, 2, none⟩ = some (.slice A0 s.line.length c0))) (by kernel_rfl) ?hS_1 (fun hHeld => ?rest_1)
    case hS_1 => ((try dsimp only); go_keep)
    refine tk1 (i := 0) (by (try simp only [g1_, g2_, g3_]); exact rfl) (by kernel_rfl) (by assumption) (by kernel_rfl) (by intro w hSw; (try dsimp only at hSw); go_simp; first | done | with_reducible rfl | rfl) (by exact fun _ _ _ h => h) ?_
    try simp only [Act.put, p1_, p2_, p3_]
    refine wpAnyH_ready (rs := [1]) (by kernel_rfl) (by simp) ?_
    refine AllReadyH.cons rfl (fun K hK => ?_) AllReadyH.nil
    go_simp
    (go_at_call 61; refine (HS.out _ (by repeat (first | assumption | exact BB.out | apply pw_below_drewN | apply below_drew1))).mono ?_; rintro e w3 ⟨rfl, hb3⟩; have hz3 : wr.heap.size < w3.heap.size := (by have := hb3.size; first | omega | (simp at this; omega)); have q0 := (hb3.cell (p := ⟨wr.heap.size, 0, none⟩) (by simp; omega)).trans (by assumption); have q1 := (hb3.cell (p := ⟨wr.heap.size, 1, none⟩) (by simp; omega)).trans (by assumption); have q2 := (hb3.cell (p := ⟨wr.heap.size, 2, none⟩) (by simp; omega)).trans (by assumption); have bb1 := ak_ (bel3 (show Below w.heap.size w _ from by repeat (first | exact BB.out | apply pw_below_drewN | apply below_drew1)) hb3); clear hb3; go_wp2_with fail)
    refine hK.out _ _ ?hS_3 (fun hHeld => ?rest_3)
    case hS_3 => ((try dsimp only); go_keep)
    clear hK K
    try simp only [Act.put, p1_, p2_, p3_]
    refine tk1 (i := 2) (by (try simp only [g1_, g2_, g3_]); exact rfl) (by kernel_rfl) (by assumption) (by kernel_rfl) (by intro w hSw; (try dsimp only at hSw); go_simp; first | done | with_reducible rfl | rfl) (by exact fun _ _ _ h => h) ?_
    try simp only [Act.put, p1_, p2_, p3_]
    refine tk1 (i := 3) (by (try simp only [g1_, g2_, g3_]); exact rfl) (by kernel_rfl) (by assumption) (by kernel_rfl) (by intro w hSw; (try dsimp only at hSw); go_simp; first | done | with_reducible rfl | rfl) (by exact fun _ _ _ h => h) ?_
    try simp only [Act.put, p1_, p2_, p3_]
    refine tk1 (i := 4) (by (try simp only [g1_, g2_, g3_]); exact rfl) (by kernel_rfl) (by assumption) (by kernel_rfl) (by intro w hSw; (try dsimp only at hSw); go_simp; first | done | with_reducible rfl | rfl) (by exact fun _ _ _ h => h) ?_
    try simp only [Act.put, p1_, p2_, p3_]
    refine wpAnyH_ready (rs := [5]) (by kernel_rfl) (by simp) ?_
    refine AllReadyH.cons rfl (fun K hK => ?_) AllReadyH.nil
    go_simp
    (go_at_call 62; refine (HE.out _).mono ?_; rintro e w4 ⟨rfl, hb3⟩; have hz4 : wr.heap.size < w4.heap.size := (by have := hb3.size; first | omega | (simp at this; omega)); have q0 := (hb3.cell (p := ⟨wr.heap.size, 0, none⟩) (by simp; omega)).trans (by assumption); have q1 := (hb3.cell (p := ⟨wr.heap.size, 1, none⟩) (by simp; omega)).trans (by assumption); have q2 := (hb3.cell (p := ⟨wr.heap.size, 2, none⟩) (by simp; omega)).trans (by assumption); have bb2 := ak_ (bel3 (show Below w.heap.size w _ from by repeat (first | exact bb1.out | apply pw_below_drewN | apply below_drew1)) hb3); clear hb3; go_wp2_with fail)
    refine hK.out _ _ ?hS_7 (fun hHeld => ?rest_7)
    case hS_7 => ((try dsimp only); go_keep)
    clear hK K
    try simp only [Act.put, p1_, p2_, p3_]
    refine tk1 (i := 6) (by (try simp only [g1_, g2_, g3_]); exact rfl) (by kernel_rfl) (by assumption) (by kernel_rfl) (by intro w hSw; (try dsimp only at hSw); go_simp; first | done | with_reducible rfl | rfl) (by exact fun _ _ _ h => h) ?_
    try simp only [Act.put, p1_, p2_, p3_]
    refine tk1 (i := 7) (by (try simp only [g1_, g2_, g3_]); exact rfl) (by kernel_rfl) (by assumption) (by kernel_rfl) (by intro w hSw; (try dsimp only at hSw); go_simp; first | done | with_reducible rfl | rfl) (by exact fun _ _ _ h => h) ?_
    try simp only [Act.put, p1_, p2_, p3_]
    refine tk1 (i := 8) (by (try simp only [g1_, g2_, g3_]); exact rfl) (by kernel_rfl) (by assumption) (by kernel_rfl) (by intro w hSw; (try dsimp only at hSw); go_simp; first | done | with_reducible rfl | rfl) (by exact fun _ _ _ h => h) ?_
    try simp only [Act.put, p1_, p2_, p3_]
    refine tk1 (i := 9) (by (try simp only [g1_, g2_, g3_]); exact rfl) (by kernel_rfl) (by assumption) (by kernel_rfl) (by intro w hSw; (try dsimp only at hSw); go_simp; first | done | with_reducible rfl | rfl) (by exact fun _ _ _ h => h) ?_
    try simp only [Act.put, p1_, p2_, p3_]
    refine tk1 (i := 10) (by (try simp only [g1_, g2_, g3_]); exact rfl) (by kernel_rfl) (by assumption) (by kernel_rfl) (by intro w hSw; (try dsimp only at hSw); go_simp; first | done | with_reducible rfl | rfl) (by exact fun _ _ _ h => h) ?_
    try simp only [Act.put, p1_, p2_, p3_]
    refine sk1 (i := 11) (by (try simp only [g1_, g2_, g3_]); exact rfl) (by kernel_rfl) (by assumption) (by kernel_rfl) (by exact fun _ _ _ h => h) ?_
    try simp only [Act.put, p1_, p2_, p3_]
    refine sk1 (i := 12) (by (try simp only [g1_, g2_, g3_]); exact rfl) (by kernel_rfl) (by assumption) (by kernel_rfl) (by exact fun _ _ _ h => h) ?_
    try simp only [Act.put, p1_, p2_, p3_]
    refine sk1 (i := 13) (by (try simp only [g1_, g2_, g3_]); exact rfl) (by kernel_rfl) (by assumption) (by kernel_rfl) (by exact fun _ _ _ h => h) ?_
    try simp only [Act.put, p1_, p2_, p3_]
    refine sk1 (i := 14) (by (try simp only [g1_, g2_, g3_]); exact rfl) (by kernel_rfl) (by assumption) (by kernel_rfl) (by exact fun _ _ _ h => h) ?_
    try simp only [Act.put, p1_, p2_, p3_]
    refine sk1 (i := 15) (by (try simp only [g1_, g2_, g3_]); exact rfl) (by kernel_rfl) (by assumption) (by kernel_rfl) (by exact fun _ _ _ h => h) ?_
    try simp only [Act.put, p1_, p2_, p3_]
    refine sk1 (i := 16) (by (try simp only [g1_, g2_, g3_]); exact rfl) (by kernel_rfl) (by assumption) (by kernel_rfl) (by exact fun _ _ _ h => h) ?_
    try simp only [Act.put, p1_, p2_, p3_]
    refine sk1 (i := 17) (by (try simp only [g1_, g2_, g3_]); exact rfl) (by kernel_rfl) (by assumption) (by kernel_rfl) (by exact fun _ _ _ h => h) ?_
    try simp only [Act.put, p1_, p2_, p3_]
    refine sk1 (i := 18) (by (try simp only [g1_, g2_, g3_]); exact rfl) (by kernel_rfl) (by assumption) (by kernel_rfl) (by exact fun _ _ _ h => h) ?_
    try simp only [Act.put, p1_, p2_, p3_]
    refine sk1 (i := 19) (by (try simp only [g1_, g2_, g3_]); exact rfl) (by kernel_rfl) (by assumption) (by kernel_rfl) (by exact fun _ _ _ h => h) ?_
    try simp only [Act.put, p1_, p2_, p3_]
    refine sk1 (i := 20) (by (try simp only [g1_, g2_, g3_]); exact rfl) (by kernel_rfl) (by assumption) (by kernel_rfl) (by exact fun _ _ _ h => h) ?_
    try simp only [Act.put, p1_, p2_, p3_]
    refine tk1 (i := 21) (by (try simp only [g1_, g2_, g3_]); exact rfl) (by kernel_rfl) (by assumption) (by kernel_rfl) (by intro w hSw; (try dsimp only at hSw); go_simp; first | done | with_reducible rfl | rfl) (by exact fun _ _ _ h => h) ?_
    try simp only [Act.put, p1_, p2_, p3_]
    refine tk1 (i := 22) (by (try simp only [g1_, g2_, g3_]); exact rfl) (by kernel_rfl) (by assumption) (by kernel_rfl) (by intro w hSw; (try dsimp only at hSw); go_simp; first | done | with_reducible rfl | rfl) (by exact fun _ _ _ h => h) ?_
    try simp only [Act.put, p1_, p2_, p3_]
    refine wpAnyH_done (by kernel_rfl) ?_ _
    go_wp2
    go_roundg go
    case rel => exact ⟨⟨by repeat (first | exact bb2.out | apply pw_below_drewN | apply below_drew1)⟩, i + 1, by omega, by go_num⟩
    case measure => omega
   ·have hg : decide ((0 : Int) < (i : Int)) = true := decide_eq_true (by omega)
    obtain ⟨k, rfl⟩ : ∃ k, i = k + 1 := ⟨i - 1, by omega⟩
    obtain ⟨s2, hx2⟩ : ∃ s2, t[k]? = some s2 := ⟨_, List.getElem?_eq_getElem (by omega)⟩
    obtain ⟨ad2, A2, c2, he2, z0, _, _, _, _⟩ := spot_cells HC.out k s2 hx2
    cases he2
    have hbk := World.block_lt_of_cell? w _ z0
    replace z0 := (BB.out.cell hbk).trans z0
    have hsz : w.heap.size ≤ wr.heap.size := HB.out.size
    have hadb : (ad.add (k * 3)).block < wr.heap.size := Nat.lt_of_lt_of_le hbk hsz
    have hup := HT.out.up k s2 s hx2 hx
    obtain ⟨m, hm, hma⟩ := HT.out.ad s hmem
    obtain ⟨m2, hm2, hma2⟩ := HT.out.ad s2 (List.mem_of_getElem? hx2)
    have HO := ak_ (fun w => order_yes m2 m w hm2 hm)
    rw [← hma, ← hma2] at HO
    have hneg : decide (0 ≤ (m2 : Int) - (m : Int)) = false := decide_eq_false (by omega)
    have hmn : ¬ m ≤ m2 := by omega
    have hw1 : IntKind.i64.wrap (k : Int) = (k : Int) := by rw [IntKind.wrap_i64]; omega
    have hk1 : wrap64 (((k + 1 : Nat) : Int) - 1) = (k : Int) := by unfold wrap64; omega
    have hkl : (k : Int) < (t.length : Int) := by omega
    clear hup hma hma2
    go_region_held3 (fun w' => w'.cell? ⟨wr.heap.size, 0, none⟩ = some (.int .i64 s.addr) ∧ w'.cell? ⟨wr.heap.size, 1, none⟩ = some (.int .i64 s.count) ∧ w'.cell? ⟨wr.heap.size, 2, none⟩ = some (.slice A0 s.line.length c0) ∧ w'.cell? (ad.add (k * 3)) = some (.int .i64 s2.addr)) (go_keep) ((first | (go_at_call 61; refine (HS.out _ (by repeat (first | assumption | exact BB.out | apply pw_below_drewN | apply below_drew1))).mono ?_; rintro e w3 ⟨rfl, hb3⟩; have hz3 : wr.heap.size < w3.heap.size := (by have := hb3.size; first | omega | (simp at this; omega)); have q0 := (hb3.cell (p := ⟨wr.heap.size, 0, none⟩) (by simp; omega)).trans (by assumption); have q1 := (hb3.cell (p := ⟨wr.heap.size, 1, none⟩) (by simp; omega)).trans (by assumption); have q2 := (hb3.cell (p := ⟨wr.heap.size, 2, none⟩) (by simp; omega)).trans (by assumption); have q3 := (hb3.cell (p := ad.add (k * 3)) (show (ad.add (k * 3)).block < _ from by first | omega | (simp; omega))).trans (by assumption); have bb1 := ak_ (bel3 (show Below w.heap.size w _ from by repeat (first | exact BB.out | apply pw_below_drewN | apply below_drew1)) hb3); clear hb3) | (go_at_call 62; refine (HE.out _).mono ?_; rintro e w4 ⟨rfl, hb3⟩; have hz4 : wr.heap.size < w4.heap.size := (by have := hb3.size; first | omega | (simp at this; omega)); have q0 := (hb3.cell (p := ⟨wr.heap.size, 0, none⟩) (by simp; omega)).trans (by assumption); have q1 := (hb3.cell (p := ⟨wr.heap.size, 1, none⟩) (by simp; omega)).trans (by assumption); have q2 := (hb3.cell (p := ⟨wr.heap.size, 2, none⟩) (by simp; omega)).trans (by assumption); have q3 := (hb3.cell (p := ad.add (k * 3)) (show (ad.add (k * 3)).block < _ from by first | omega | (simp; omega))).trans (by assumption); have bb2 := ak_ (bel3 (show Below w.heap.size w _ from by repeat (first | exact bb1.out | apply pw_below_drewN | apply below_drew1)) hb3); clear hb3) | (go_at_call 63; refine (HO.out _).mono ?_; rintro e w5 ⟨rfl, rfl⟩)))
    go_wp2
    go_roundg go
    case rel => exact ⟨⟨by repeat (first | exact bb2.out | apply pw_below_drewN | apply below_drew1)⟩, k + 1 + 1, by omega, by go_num⟩
    case measure => omega
theorem int_cells {w : World} {A : Option Addr} {n : Nat} {xs : List Int} (h : (Kd.int .i64).C w A n xs) (i : Nat) (x : Int) (hs : xs[i]? = some x) :
  ∃ ad, A = some ad ∧ w.cell? (ad.add i) = some (.int .i64 x) := by
 have hi := (List.getElem?_eq_some_iff.1 hs).1
 obtain ⟨hl, hm, hc⟩ := h
 obtain ⟨ad, e, hc⟩ := hc (by omega)
 obtain ⟨c, hsz, hK, hcell⟩ := hc i x hs
 have hK' : c = [.int .i64 x] := hK
 subst hK'
 have hc2 : ∀ j u, ([.int .i64 x] : List Value)[j]? = some u → w.cell? (ad.add (i * 1 + j)) = some u := hcell
 exact ⟨ad, e, by simpa using hc2 0 _ rfl⟩
theorem right1 (who : Int) (b n c : Nat) (A : Option Addr) (w : World) (h : w.cell? ⟨b, 2, none⟩ = some (.slice A n c)) (hw : who < n) : Calls Tryz.prog 50 #[.int .i64 who, .pointer (some ⟨b, 0, none⟩)] w fun e w' => e = .returned (.bool false) ∧ w = w' := by
 have hu := Tryz.underlying29
 have hnn : ¬ (n : Int) ≤ who := by omega
 go_enter Tryz.func50, Tryz.ntmps50
 go_wp2
 go_ret
 exact ⟨rfl, rfl⟩
theorem who_index (A : Option Addr) (c b n k : Nat) (Ac : Option Addr) (l : List Int) (w : World) (hC0 : (Kd.int .i64).C w A l.length l) (h : w.cell? ⟨b, 2, none⟩ = some (.slice Ac n k)) (hn : ∀ x ∈ l, x < n) :
  Calls Tryz.prog 79 #[.slice A l.length c, .func (.func 50) #[] #[.pointer (some ⟨b, 0, none⟩)]] w fun e w' => e = .returned (.int .i64 (-1)) ∧ w = w' := by
 have hlen : l.length ≤ 9223372036854775807 := hC0.2.1
 have HC := ak_ hC0
 have HN := ak_ (fun x (hx : x ∈ l) => right1 x b n k Ac w h (hn x hx))
 clear hC0 hn h
 go_enter Tryz.func79, Tryz.ntmps79
 go_wp2
 go_loopg [5, 8] l.length (fun g v5 v8 wx => w = wx ∧ ∃ i : Nat, i + g = l.length ∧ v8 = .int .i64 i)
 case atStart => exact ⟨rfl, 0, by omega, rfl⟩
 case round =>
  obtain ⟨rfl, i, hig, rfl⟩ := hrel
  cases gk with
  | zero =>
   have hi : i = l.length := by omega
   have hnot : ¬ ((i : Int) < (l.length : Int)) := by omega
   clear hi
   go_wp2
   go_ret
   exact ⟨rfl, rfl⟩
  | succ go =>
   have hlt : i < l.length := by omega
   obtain ⟨x, hx⟩ : ∃ x, l[i]? = some x := ⟨_, List.getElem?_eq_getElem hlt⟩
   obtain ⟨ad, he, y0⟩ := int_cells HC.out i x hx
   cases he
   have hil : (i : Int) < (l.length : Int) := by omega
   have HX := ak_ (HN.out x (List.mem_of_getElem? hx))
   clear hx
   go_wp2_with (go_at_call 50; refine HX.out.mono ?_; rintro e w2 ⟨rfl, rfl⟩)
   go_roundg go
   case rel => exact ⟨rfl, i + 1, by omega, by go_num⟩
   case measure => omega
theorem who_contains (A : Option Addr) (c b n k : Nat) (Ac : Option Addr) (l : List Int) (w : World) (hC0 : (Kd.int .i64).C w A l.length l) (h : w.cell? ⟨b, 2, none⟩ = some (.slice Ac n k)) (hn : ∀ x ∈ l, x < n) :
  Calls Tryz.prog 49 #[.slice A l.length c, .func (.func 50) #[] #[.pointer (some ⟨b, 0, none⟩)]] w fun e w' => e = .returned (.bool false) ∧ w = w' := by
 have HC := ak_ (who_index A c b n k Ac l w hC0 h hn)
 clear hC0 hn h
 go_enter Tryz.func49, Tryz.ntmps49
 go_wp2_with fail
 refine HC.out.mono ?_
 rintro e w1 ⟨rfl, rfl⟩
 go_wp2
 go_ret
 exact ⟨rfl, rfl⟩
structure OkOwn (si rd ol : Int) : Prop where
 si : si = -1 ∨ okT si
 r0 : 0 ≤ rd
 r1 : rd ≤ 4
 ol : isW ol = true
theorem fresh_calls (w : World) : Calls Tryz.prog 40 #[] w fun e w' => e = .returned (.agg #[.int .i64 (-1), .bool false, .bool false, .int .i64 0, .int .i64 0]) ∧ Below w.heap.size w w' := by
 have hu := Tryz.underlying42
 go_enter Tryz.func40, Tryz.ntmps40
 go_wp2
 exact bodyPost_ret (results_cell_row rfl _ _ w.heap.size 42 #[.int .i64 (-1), .bool false, .bool false, .int .i64 0, .int .i64 0] (0, 0) _ rfl (blk_new _ _) Tryz.underlying42 rfl (by kernel_rfl)) rfl ⟨rfl, (Below.refl _ _).alloc (Nat.le_refl _) _⟩
theorem unpack_yes (a : Int) (w : World) (h : isW a = true) : Calls Tryz.prog 12 #[.int .i64 a] w fun e w' => e = .returned (.tuple #[.agg #[.bool (bitOf a 0), .bool (bitOf a 1), .bool (bitOf a 2), .int .i64 (a / 8)], .int .i64 0]) ∧ Below w.heap.size w w' := Unpack_ok a w h
theorem freshSince (w : World) : (Instr.field 42 (.agg #[.int .i64 (-1), .bool false, .bool false, .int .i64 0, .int .i64 0]) 0).run Tryz.prog w = .ok (.int .i64 (-1)) w := by kernel_rfl
theorem grabRight_at (si : Int) (st aw : Bool) (rd ol : Int) (w : World) (b : Bool) (hs1 : (si != -1) = b) (ht : b = true → okT si) (r0 : 0 ≤ rd) (r1 : rd ≤ 4) (ho : isW ol = true) : Calls Tryz.prog 77 #[.agg #[.int .i64 si, .bool st, .bool aw, .int .i64 rd, .int .i64 ol]] w fun e w' => e = .returned (.bool true) ∧ Below w.heap.size w w' := by
 have hu := Tryz.underlying42
 have hu2 := Tryz.underlying56
 have hfs := freshSince
 have HO := ak_ ho
 have HT := ak_ ht
 clear ho ht
 cases b
 all_goals
  go_enter Tryz.func77, Tryz.ntmps77
  go_wp2_with fail
  refine (unpack_yes ol _ HO.out).mono ?_
  rintro e w1 ⟨rfl, hb1⟩
  have BK := blk_below (blk_new w (.cells #[.int .i64 si, .bool st, .bool aw, .int .i64 rd, .int .i64 ol] 42)) hb1
  have B1 := ak_ (bel3 (bel2 (Below.refl _ w) _) hb1)
  have hz : w.heap.size < w1.heap.size := by have := hb1.size; simp at this; omega
  clear hb1
  have BK2 := ak_ (blk_alloc BK (.cells #[.bool (bitOf ol 0), .bool (bitOf ol 1), .bool (bitOf ol 2), .int .i64 (ol / 8)] 56))
  have B2 := ak_ (bel2 B1.out (.cells #[.bool (bitOf ol 0), .bool (bitOf ol 1), .bool (bitOf ol 2), .int .i64 (ol / 8)] 56))
  clear BK
  go_wp2
  generalize w1.alloc (.cells #[.bool (bitOf ol 0), .bool (bitOf ol 1), .bool (bitOf ol 2), .int .i64 (ol / 8)] 56) = W at *
  have hz2 : w.heap.size < W.heap.size := blk_lt BK2.out
  have z0 : W.cell? ⟨w.heap.size, 0, none⟩ = some (.int .i64 si) := blk_cell BK2.out 0
  go_region_held3 (fun w' => w'.cell? ⟨w.heap.size, 0, none⟩ = some (.int .i64 si)) (go_keep) ((go_at_call 40; refine (fresh_calls _).mono ?_; rintro e w3 ⟨rfl, hb3⟩; have q3 := (hb3.cell (p := ⟨w.heap.size, 0, none⟩) (by simp; omega)).trans (by assumption)))
  have BK4 := blk_below (blk_drew BK2.out) hb3
  have B4 := ak_ (bel3 (below_drew B2.out) hb3)
  clear hb3 q3
  have y0 : w3.cell? ⟨w.heap.size, 0, none⟩ = some (.int .i64 si) := blk_cell BK4 0
  have y3 : w3.cell? ⟨w.heap.size, 3, none⟩ = some (.int .i64 rd) := blk_cell BK4 3
  clear BK4 BK2
  go_wp2_with (go_at_call 46; refine (clockRight_yes _ _ (HT.out (by first | rfl | trivial))).mono ?_; rintro e w5 ⟨rfl, rfl⟩)
  go_ret
  exact ⟨rfl, B4.out⟩
theorem grabRight_yes (si : Int) (st aw : Bool) (rd ol : Int) (w : World) (h : OkOwn si rd ol) : Calls Tryz.prog 77 #[.agg #[.int .i64 si, .bool st, .bool aw, .int .i64 rd, .int .i64 ol]] w fun e w' => e = .returned (.bool true) ∧ Below w.heap.size w w' := by
 refine grabRight_at si st aw rd ol w (si != -1) rfl (fun q => ?_) h.r0 h.r1 h.ol
 rcases h.si with e | e
 ·rw [e] at q
  cases q
 ·exact e
end Go.Proofs.YtoimfknjfeencaaGreatDoor.Hand
end
section
namespace Go.Proofs.YtoimfknjfeencaaGreatDoor.Hand
open Go.RowKit
def okW (v : Int) : Prop := 0 ≤ v ∧ v < 4294967296
theorem fits_yes {v : Int} (h : okW v) : word_Fits.f 1 v = some true := by
 obtain ⟨h0, h1⟩ := h
 have : v % 4294967296 = v := by omega
 simp [word_Fits.f, word_Wrap.f, this]
theorem right_yes {n s : Int} (hn : okW n) (hs : okW s) : spin_Right.f n s = some true := by
 simp [spin_Right.f, fits_yes hn, fits_yes hs]
theorem out_yes {n s : Int} (hn : okW n) (hs : okW s) : spin_Out.f n s = some ((n - s) % 4294967296, 0) := by
 have h1 := hn.1; have h2 := hn.2; have h3 := hs.1; have h4 := hs.2
 have : wrap64 (n + wrap64 (-s)) % 4294967296 = (n - s) % 4294967296 := by unfold wrap64; omega
 simp [spin_Out.f, right_yes hn hs, word_Add.f, word_Wrap.f, this]
theorem add_one {v : Int} (h : okW v) : word_Add.f 1 v 1 = some ((v + 1) % 4294967296, 0) := by
 have h1 := h.1; have h2 := h.2
 have : wrap64 (v + 1) = v + 1 := by unfold wrap64; omega
 simp [word_Add.f, word_Wrap.f, this]
theorem draw_yes {n s : Int} (hn : okW n) (hs : okW s) (ho : ¬ (n - s) % 4294967296 = 4294967295) : spin_Draw.f n s = some ((n + 1) % 4294967296, s, n, 0) := by
 simp [spin_Draw.f, out_yes hn hs, ho, add_one hn]
theorem done_yes {n s : Int} (hn : okW n) (hs : okW s) (ho : ¬ (n - s) % 4294967296 = 0) : spin_Done.f n s = some (n, (s + 1) % 4294967296, 0) := by
 simp [spin_Done.f, out_yes hn hs, ho, add_one hs]
theorem turn_yes {n s : Int} (m : Int) (hn : okW n) (hs : okW s) : spin_Turn.f n s m = some (m == s, 0) := by
 simp [spin_Turn.f, right_yes hn hs]
end Go.Proofs.YtoimfknjfeencaaGreatDoor.Hand
end
section
namespace Go.Proofs.YtoimfknjfeencaaGreatDoor.Hand
open Go.RowKit Go.Proofs.YtoimfknjfeencaaGreatDoorW.PrintWords Go.Proofs.YtoimfknjfeencaaGreatDoorW.PrintLast Go.Proofs.YtoimfknjfeencaaGreatDoorW.PrintMore
theorem places_any (k lo hi : Int) (w : World) (h : (k = 0 ∧ lo = 1 ∧ hi = 8) ∨ (k = 1 ∧ lo = 9 ∧ hi = 9) ∨ (k = 2 ∧ lo = 10 ∧ hi = 15) ∨ (k = 3 ∧ lo = 0 ∧ hi = 0)) : Calls Tryz.prog 78 #[.int .i64 k] w fun e w' => e = .returned (.tuple #[.int .i64 lo, .int .i64 hi]) ∧ w = w' := by
 rcases h with ⟨rfl, rfl, rfl⟩ | ⟨rfl, rfl, rfl⟩ | ⟨rfl, rfl, rfl⟩ | ⟨rfl, rfl, rfl⟩
 all_goals
  go_enter Tryz.func78, Tryz.ntmps78
  go_wp2
  go_ret2
  exact ⟨rfl, rfl⟩
theorem isMutex_yes (x : M.Mutex) (w : World) (hw : isW x.word = true) (hn : okW x.line.next) (hs : okW x.line.serve) : Calls Tryz.prog 53 #[.agg #[.int .i64 x.word, .int .i64 x.line.next, .int .i64 x.line.serve]] w fun e w' => e = .returned (.bool true) ∧ Below w.heap.size w w' := by
 have hu := Tryz.underlying53
 have hu1 := Tryz.underlying51
 have hu2 := Tryz.underlying56
 have HR := ak_ (right_yes hn hs)
 have HO := ak_ hw
 obtain ⟨a, n, s⟩ := x
 simp only at hw hn hs HR HO
 clear hw hn hs
 go_enter Tryz.func53, Tryz.ntmps53
 go_wp2_with fail
 refine (unpack_yes a _ HO.out).mono ?_
 rintro e w1 ⟨rfl, hb1⟩
 have BK := blk_below (blk_new w (.cells #[.int .i64 a, .int .i64 n, .int .i64 s] 53)) hb1
 have B1 := ak_ (bel3 (bel2 (Below.refl _ w) _) hb1)
 have hz : w.heap.size < w1.heap.size := by have := hb1.size; simp at this; omega
 clear hb1
 have BK2 := ak_ (blk_alloc BK (.cells #[.bool (bitOf a 0), .bool (bitOf a 1), .bool (bitOf a 2), .int .i64 (a / 8)] 56))
 have B2 := ak_ (bel2 B1.out (.cells #[.bool (bitOf a 0), .bool (bitOf a 1), .bool (bitOf a 2), .int .i64 (a / 8)] 56))
 have z1 : w1.cell? ⟨w.heap.size, 1, none⟩ = some (.int .i64 n) := blk_cell BK 1
 have z2 : w1.cell? ⟨w.heap.size, 2, none⟩ = some (.int .i64 s) := blk_cell BK 2
 clear BK
 go_wp2_with (go_at_call 28; refine (spin_Right.calls n s true _ HR.out).mono ?_; rintro e w3 ⟨rfl, hb3⟩; have B3 := ak_ (bel3 B2.out hb3))
 go_ret
 exact ⟨rfl, B3.out⟩
theorem oddMutex (x : M.Mutex) (w : World) (hw : isW x.word = true) (hn : okW x.line.next) (hs : okW x.line.serve) : Calls Tryz.prog 52 #[.agg #[.int .i64 x.word, .int .i64 x.line.next, .int .i64 x.line.serve]] w fun e w' => e = .returned (.bool false) ∧ Below w.heap.size w w' := by
 have HM := ak_ (fun w => isMutex_yes x w hw hn hs)
 have hu := Tryz.underlying53
 clear hw hn hs
 go_enter Tryz.func52, Tryz.ntmps52
 go_wp2_with (go_at_call 53; refine (HM.out _).mono ?_; rintro e w1 ⟨rfl, hb1⟩)
 go_ret
 exact ⟨rfl, bel3 (bel2 (Below.refl _ w) _) hb1⟩
theorem mutex_index (A : Option Addr) (c : Nat) (l : List M.Mutex) (w : World) (hC0 : kMutex.C w A l.length l) (hn : ∀ x ∈ l, ∀ w, Calls Tryz.prog 52 #[.agg #[.int .i64 x.word, .int .i64 x.line.next, .int .i64 x.line.serve]] w fun e w' => e = .returned (.bool false) ∧ Below w.heap.size w w') :
  Calls Tryz.prog 80 #[.slice A l.length c, .func (.func 52) #[] #[]] w fun e w' => e = .returned (.int .i64 (-1)) ∧ Below w.heap.size w w' := by
 have hlen : l.length ≤ 9223372036854775807 := hC0.2.1
 have HC := ak_ hC0
 have HN := ak_ hn
 clear hC0 hn
 go_enter Tryz.func80, Tryz.ntmps80
 go_wp2
 go_loopg [5, 8] l.length (fun g v5 v8 wx => Aside0 (Below w.heap.size w wx) ∧ ∃ i : Nat, i + g = l.length ∧ v8 = .int .i64 i)
 case atStart => exact ⟨⟨Below.refl _ _⟩, 0, by omega, rfl⟩
 case round =>
  obtain ⟨HB, i, hig, rfl⟩ := hrel
  cases gk with
  | zero =>
   have hi : i = l.length := by omega
   have hnot : ¬ ((i : Int) < (l.length : Int)) := by omega
   clear hi
   go_wp2
   go_ret
   exact ⟨rfl, by repeat (first | exact HB.out | apply pw_below_drewN | apply below_drew1)⟩
  | succ go =>
   have hlt : i < l.length := by omega
   obtain ⟨x, hx⟩ : ∃ x, l[i]? = some x := ⟨_, List.getElem?_eq_getElem hlt⟩
   obtain ⟨ad, he, h0, hj⟩ := flat_cells HC.out i x hx
   cases he
   have y0 := h0 _ rfl
   have y1 := hj 1 _ (by decide) rfl
   have y2 := hj 2 _ (by decide) rfl
   clear h0 hj
   replace y0 := (HB.out.cell (World.block_lt_of_cell? w _ y0)).trans y0
   replace y1 := (HB.out.cell (World.block_lt_of_cell? w _ y1)).trans y1
   replace y2 := (HB.out.cell (World.block_lt_of_cell? w _ y2)).trans y2
   have hil : (i : Int) < (l.length : Int) := by omega
   have HX := ak_ (HN.out x (List.mem_of_getElem? hx))
   clear hx
   go_wp2_with (go_at_call 52; refine (HX.out _).mono ?_; rintro e w2 ⟨rfl, hb⟩; have NB := ak_ (HB.out.trans (hb.mono (by have := HB.out.size; simp; omega))))
   go_roundg go
   case rel => exact ⟨⟨by repeat (first | exact NB.out | apply pw_below_drewN | apply below_drew1)⟩, i + 1, by omega, by go_num⟩
   case measure => omega
theorem mutex_contains (A : Option Addr) (c : Nat) (l : List M.Mutex) (w : World) (hC0 : kMutex.C w A l.length l) (hn : ∀ x ∈ l, ∀ w, Calls Tryz.prog 52 #[.agg #[.int .i64 x.word, .int .i64 x.line.next, .int .i64 x.line.serve]] w fun e w' => e = .returned (.bool false) ∧ Below w.heap.size w w') :
  Calls Tryz.prog 51 #[.slice A l.length c, .func (.func 52) #[] #[]] w fun e w' => e = .returned (.bool false) ∧ Below w.heap.size w w' := by
 have HC := ak_ hC0
 have HN := ak_ hn
 clear hC0 hn
 go_enter Tryz.func51, Tryz.ntmps51
 go_wp2_with fail
 refine (mutex_index A c l _ HC.out HN.out).mono ?_
 rintro e w1 ⟨rfl, hb⟩
 go_wp2
 go_ret
 exact ⟨rfl, hb⟩
theorem below_set13 {B g : Nat} {w w3 : World} (h : Below B w w3) (hg : B ≤ g) (v0 v1 v2 v3 v4 v5 v6 v7 v8 v9 v10 v11 v12 : Value) : Below B w (((((((((((((w3.setCell ⟨g, 0, none⟩ v0).setCell ⟨g, 1, none⟩ v1).setCell ⟨g, 2, none⟩ v2).setCell ⟨g, 3, none⟩ v3).setCell ⟨g, 4, none⟩ v4).setCell ⟨g, 5, none⟩ v5).setCell ⟨g, 6, none⟩ v6).setCell ⟨g, 7, none⟩ v7).setCell ⟨g, 8, none⟩ v8).setCell ⟨g, 9, none⟩ v9).setCell ⟨g, 10, none⟩ v10).setCell ⟨g, 11, none⟩ v11).setCell ⟨g, 12, none⟩ v12) :=
 (((((((((((((h.setCell (p := ⟨g, 0, none⟩) hg v0).setCell (p := ⟨g, 1, none⟩) hg v1).setCell (p := ⟨g, 2, none⟩) hg v2).setCell (p := ⟨g, 3, none⟩) hg v3).setCell (p := ⟨g, 4, none⟩) hg v4).setCell (p := ⟨g, 5, none⟩) hg v5).setCell (p := ⟨g, 6, none⟩) hg v6).setCell (p := ⟨g, 7, none⟩) hg v7).setCell (p := ⟨g, 8, none⟩) hg v8).setCell (p := ⟨g, 9, none⟩) hg v9).setCell (p := ⟨g, 10, none⟩) hg v10).setCell (p := ⟨g, 11, none⟩) hg v11).setCell (p := ⟨g, 12, none⟩) hg v12)
theorem client_put {g : Nat} {w : World} {u0 u1 u2 u3 u4 u5 u6 u7 u8 u9 u10 u11 u12 : Value} (h : w.heap[g]? = some (.cells #[u0, u1, u2, u3, u4, u5, u6, u7, u8, u9, u10, u11, u12] 44 (0, 0))) (v0 v1 v2 v3 v4 v5 v6 v7 v8 v9 v10 v11 v12 : Value) :
  (((((((((((((w.setCell ⟨g, 0, none⟩ v0).setCell ⟨g, 1, none⟩ v1).setCell ⟨g, 2, none⟩ v2).setCell ⟨g, 3, none⟩ v3).setCell ⟨g, 4, none⟩ v4).setCell ⟨g, 5, none⟩ v5).setCell ⟨g, 6, none⟩ v6).setCell ⟨g, 7, none⟩ v7).setCell ⟨g, 8, none⟩ v8).setCell ⟨g, 9, none⟩ v9).setCell ⟨g, 10, none⟩ v10).setCell ⟨g, 11, none⟩ v11).setCell ⟨g, 12, none⟩ v12).heap[g]? = some (.cells #[v0, v1, v2, v3, v4, v5, v6, v7, v8, v9, v10, v11, v12] 44 (0, 0)) := by
 have h0 : (w.setCell ⟨g, 0, none⟩ v0).heap[g]? = some (.cells #[v0, u1, u2, u3, u4, u5, u6, u7, u8, u9, u10, u11, u12] 44 (0, 0)) := blk_put h 0 v0 rfl
 have h1 : ((w.setCell ⟨g, 0, none⟩ v0).setCell ⟨g, 1, none⟩ v1).heap[g]? = some (.cells #[v0, v1, u2, u3, u4, u5, u6, u7, u8, u9, u10, u11, u12] 44 (0, 0)) := blk_put h0 1 v1 rfl
 have h2 : (((w.setCell ⟨g, 0, none⟩ v0).setCell ⟨g, 1, none⟩ v1).setCell ⟨g, 2, none⟩ v2).heap[g]? = some (.cells #[v0, v1, v2, u3, u4, u5, u6, u7, u8, u9, u10, u11, u12] 44 (0, 0)) := blk_put h1 2 v2 rfl
 have h3 : ((((w.setCell ⟨g, 0, none⟩ v0).setCell ⟨g, 1, none⟩ v1).setCell ⟨g, 2, none⟩ v2).setCell ⟨g, 3, none⟩ v3).heap[g]? = some (.cells #[v0, v1, v2, v3, u4, u5, u6, u7, u8, u9, u10, u11, u12] 44 (0, 0)) := blk_put h2 3 v3 rfl
 have h4 : (((((w.setCell ⟨g, 0, none⟩ v0).setCell ⟨g, 1, none⟩ v1).setCell ⟨g, 2, none⟩ v2).setCell ⟨g, 3, none⟩ v3).setCell ⟨g, 4, none⟩ v4).heap[g]? = some (.cells #[v0, v1, v2, v3, v4, u5, u6, u7, u8, u9, u10, u11, u12] 44 (0, 0)) := blk_put h3 4 v4 rfl
 have h5 : ((((((w.setCell ⟨g, 0, none⟩ v0).setCell ⟨g, 1, none⟩ v1).setCell ⟨g, 2, none⟩ v2).setCell ⟨g, 3, none⟩ v3).setCell ⟨g, 4, none⟩ v4).setCell ⟨g, 5, none⟩ v5).heap[g]? = some (.cells #[v0, v1, v2, v3, v4, v5, u6, u7, u8, u9, u10, u11, u12] 44 (0, 0)) := blk_put h4 5 v5 rfl
 have h6 : (((((((w.setCell ⟨g, 0, none⟩ v0).setCell ⟨g, 1, none⟩ v1).setCell ⟨g, 2, none⟩ v2).setCell ⟨g, 3, none⟩ v3).setCell ⟨g, 4, none⟩ v4).setCell ⟨g, 5, none⟩ v5).setCell ⟨g, 6, none⟩ v6).heap[g]? = some (.cells #[v0, v1, v2, v3, v4, v5, v6, u7, u8, u9, u10, u11, u12] 44 (0, 0)) := blk_put h5 6 v6 rfl
 have h7 : ((((((((w.setCell ⟨g, 0, none⟩ v0).setCell ⟨g, 1, none⟩ v1).setCell ⟨g, 2, none⟩ v2).setCell ⟨g, 3, none⟩ v3).setCell ⟨g, 4, none⟩ v4).setCell ⟨g, 5, none⟩ v5).setCell ⟨g, 6, none⟩ v6).setCell ⟨g, 7, none⟩ v7).heap[g]? = some (.cells #[v0, v1, v2, v3, v4, v5, v6, v7, u8, u9, u10, u11, u12] 44 (0, 0)) := blk_put h6 7 v7 rfl
 have h8 : (((((((((w.setCell ⟨g, 0, none⟩ v0).setCell ⟨g, 1, none⟩ v1).setCell ⟨g, 2, none⟩ v2).setCell ⟨g, 3, none⟩ v3).setCell ⟨g, 4, none⟩ v4).setCell ⟨g, 5, none⟩ v5).setCell ⟨g, 6, none⟩ v6).setCell ⟨g, 7, none⟩ v7).setCell ⟨g, 8, none⟩ v8).heap[g]? = some (.cells #[v0, v1, v2, v3, v4, v5, v6, v7, v8, u9, u10, u11, u12] 44 (0, 0)) := blk_put h7 8 v8 rfl
 have h9 : ((((((((((w.setCell ⟨g, 0, none⟩ v0).setCell ⟨g, 1, none⟩ v1).setCell ⟨g, 2, none⟩ v2).setCell ⟨g, 3, none⟩ v3).setCell ⟨g, 4, none⟩ v4).setCell ⟨g, 5, none⟩ v5).setCell ⟨g, 6, none⟩ v6).setCell ⟨g, 7, none⟩ v7).setCell ⟨g, 8, none⟩ v8).setCell ⟨g, 9, none⟩ v9).heap[g]? = some (.cells #[v0, v1, v2, v3, v4, v5, v6, v7, v8, v9, u10, u11, u12] 44 (0, 0)) := blk_put h8 9 v9 rfl
 have h10 : (((((((((((w.setCell ⟨g, 0, none⟩ v0).setCell ⟨g, 1, none⟩ v1).setCell ⟨g, 2, none⟩ v2).setCell ⟨g, 3, none⟩ v3).setCell ⟨g, 4, none⟩ v4).setCell ⟨g, 5, none⟩ v5).setCell ⟨g, 6, none⟩ v6).setCell ⟨g, 7, none⟩ v7).setCell ⟨g, 8, none⟩ v8).setCell ⟨g, 9, none⟩ v9).setCell ⟨g, 10, none⟩ v10).heap[g]? = some (.cells #[v0, v1, v2, v3, v4, v5, v6, v7, v8, v9, v10, u11, u12] 44 (0, 0)) := blk_put h9 10 v10 rfl
 have h11 : ((((((((((((w.setCell ⟨g, 0, none⟩ v0).setCell ⟨g, 1, none⟩ v1).setCell ⟨g, 2, none⟩ v2).setCell ⟨g, 3, none⟩ v3).setCell ⟨g, 4, none⟩ v4).setCell ⟨g, 5, none⟩ v5).setCell ⟨g, 6, none⟩ v6).setCell ⟨g, 7, none⟩ v7).setCell ⟨g, 8, none⟩ v8).setCell ⟨g, 9, none⟩ v9).setCell ⟨g, 10, none⟩ v10).setCell ⟨g, 11, none⟩ v11).heap[g]? = some (.cells #[v0, v1, v2, v3, v4, v5, v6, v7, v8, v9, v10, v11, u12] 44 (0, 0)) := blk_put h10 11 v11 rfl
 have h12 : (((((((((((((w.setCell ⟨g, 0, none⟩ v0).setCell ⟨g, 1, none⟩ v1).setCell ⟨g, 2, none⟩ v2).setCell ⟨g, 3, none⟩ v3).setCell ⟨g, 4, none⟩ v4).setCell ⟨g, 5, none⟩ v5).setCell ⟨g, 6, none⟩ v6).setCell ⟨g, 7, none⟩ v7).setCell ⟨g, 8, none⟩ v8).setCell ⟨g, 9, none⟩ v9).setCell ⟨g, 10, none⟩ v10).setCell ⟨g, 11, none⟩ v11).setCell ⟨g, 12, none⟩ v12).heap[g]? = some (.cells #[v0, v1, v2, v3, v4, v5, v6, v7, v8, v9, v10, v11, v12] 44 (0, 0)) := blk_put h11 12 v12 rfl
 exact h12
theorem first_calls (st : Int) (pm : Bool) (act : Int) (w : World) : Calls Tryz.prog 17 #[.agg #[.int .i64 st, .bool pm], .int .i64 act] w fun e w' => e = .returned (.agg #[.int .i64 st, .bool pm, .int .i64 act, .int .i64 0, .int .i64 0, .int .i64 0, .bool false, .bool false, .int .i64 (-1), .bool false, .bool false, .int .i64 0, .int .i64 0]) ∧ Below w.heap.size w w' := by
 have hu := Tryz.underlying44
 have hu40 := Tryz.underlying40
 have hu42 := Tryz.underlying42
 have B0 := ak_ (blk_alloc (blk_new w (.cells #[.int .i64 st, .bool pm] 40)) (.cells #[.int .i64 0, .bool false, .int .i64 0, .int .i64 0, .int .i64 0, .int .i64 0, .bool false, .bool false, .int .i64 0, .bool false, .bool false, .int .i64 0, .int .i64 0] 44))
 have B1 := ak_ (blk_new (w.alloc (.cells #[.int .i64 st, .bool pm] 40)) (.cells #[.int .i64 0, .bool false, .int .i64 0, .int .i64 0, .int .i64 0, .int .i64 0, .bool false, .bool false, .int .i64 0, .bool false, .bool false, .int .i64 0, .int .i64 0] 44))
 have HB := ak_ (bel2 (bel2 (Below.refl _ w) (.cells #[.int .i64 st, .bool pm] 40)) (.cells #[.int .i64 0, .bool false, .int .i64 0, .int .i64 0, .int .i64 0, .int .i64 0, .bool false, .bool false, .int .i64 0, .bool false, .bool false, .int .i64 0, .int .i64 0] 44))
 have hz1 : (w.alloc (.cells #[.int .i64 st, .bool pm] 40)).heap.size = w.heap.size + 1 := by simp
 rw [hz1] at B1
 go_enter Tryz.func17, Tryz.ntmps17
 go_wp2
 generalize (w.alloc (.cells #[.int .i64 st, .bool pm] 40)).alloc (.cells #[.int .i64 0, .bool false, .int .i64 0, .int .i64 0, .int .i64 0, .int .i64 0, .bool false, .bool false, .int .i64 0, .bool false, .bool false, .int .i64 0, .int .i64 0] 44) = W at *
 have a0 : W.cell? ⟨w.heap.size, 0, none⟩ = some (.int .i64 st) := blk_cell B0.out 0
 have a1 : W.cell? ⟨w.heap.size, 1, none⟩ = some (.bool pm) := blk_cell B0.out 1
 have hz : w.heap.size + 1 < W.heap.size := blk_lt B1.out
 go_region_held3 (fun w' => w'.cell? ⟨w.heap.size, 0, none⟩ = some (.int .i64 st) ∧ w'.cell? ⟨w.heap.size, 1, none⟩ = some (.bool pm)) (go_keep) ((go_at_call 40; refine (fresh_calls _).mono ?_; rintro e w3 ⟨rfl, hb3⟩; have q3 := (hb3.cell (p := ⟨w.heap.size, 0, none⟩) (by simp; omega)).trans (by assumption); have q4 := (hb3.cell (p := ⟨w.heap.size, 1, none⟩) (by simp; omega)).trans (by assumption); have C1 := ak_ (blk_below (g := w.heap.size + 1) (o := .cells #[.int .i64 0, .bool false, .int .i64 0, .int .i64 0, .int .i64 0, .int .i64 0, .bool false, .bool false, .int .i64 0, .bool false, .bool false, .int .i64 0, .int .i64 0] 44 (0, 0)) (by (with_reducible repeat (first | refine blk_drewN ?_ _ | refine blk_drew ?_)); exact B1.out) hb3); have x0 : w3.cell? ⟨w.heap.size + 1, 0, none⟩ = some (.int .i64 0) := blk_cell C1.out 0; have k0 : w3.frozen? ⟨w.heap.size + 1, 0, none⟩ = false := blk_frozen C1.out 0; have x1 : w3.cell? ⟨w.heap.size + 1, 1, none⟩ = some (.bool false) := blk_cell C1.out 1; have k1 : w3.frozen? ⟨w.heap.size + 1, 1, none⟩ = false := blk_frozen C1.out 1; have x2 : w3.cell? ⟨w.heap.size + 1, 2, none⟩ = some (.int .i64 0) := blk_cell C1.out 2; have k2 : w3.frozen? ⟨w.heap.size + 1, 2, none⟩ = false := blk_frozen C1.out 2; have x3 : w3.cell? ⟨w.heap.size + 1, 3, none⟩ = some (.int .i64 0) := blk_cell C1.out 3; have k3 : w3.frozen? ⟨w.heap.size + 1, 3, none⟩ = false := blk_frozen C1.out 3; have x4 : w3.cell? ⟨w.heap.size + 1, 4, none⟩ = some (.int .i64 0) := blk_cell C1.out 4; have k4 : w3.frozen? ⟨w.heap.size + 1, 4, none⟩ = false := blk_frozen C1.out 4; have x5 : w3.cell? ⟨w.heap.size + 1, 5, none⟩ = some (.int .i64 0) := blk_cell C1.out 5; have k5 : w3.frozen? ⟨w.heap.size + 1, 5, none⟩ = false := blk_frozen C1.out 5; have x6 : w3.cell? ⟨w.heap.size + 1, 6, none⟩ = some (.bool false) := blk_cell C1.out 6; have k6 : w3.frozen? ⟨w.heap.size + 1, 6, none⟩ = false := blk_frozen C1.out 6; have x7 : w3.cell? ⟨w.heap.size + 1, 7, none⟩ = some (.bool false) := blk_cell C1.out 7; have k7 : w3.frozen? ⟨w.heap.size + 1, 7, none⟩ = false := blk_frozen C1.out 7; have x8 : w3.cell? ⟨w.heap.size + 1, 8, none⟩ = some (.int .i64 0) := blk_cell C1.out 8; have k8 : w3.frozen? ⟨w.heap.size + 1, 8, none⟩ = false := blk_frozen C1.out 8; have x9 : w3.cell? ⟨w.heap.size + 1, 9, none⟩ = some (.bool false) := blk_cell C1.out 9; have k9 : w3.frozen? ⟨w.heap.size + 1, 9, none⟩ = false := blk_frozen C1.out 9; have x10 : w3.cell? ⟨w.heap.size + 1, 10, none⟩ = some (.bool false) := blk_cell C1.out 10; have k10 : w3.frozen? ⟨w.heap.size + 1, 10, none⟩ = false := blk_frozen C1.out 10; have x11 : w3.cell? ⟨w.heap.size + 1, 11, none⟩ = some (.int .i64 0) := blk_cell C1.out 11; have k11 : w3.frozen? ⟨w.heap.size + 1, 11, none⟩ = false := blk_frozen C1.out 11; have x12 : w3.cell? ⟨w.heap.size + 1, 12, none⟩ = some (.int .i64 0) := blk_cell C1.out 12; have k12 : w3.frozen? ⟨w.heap.size + 1, 12, none⟩ = false := blk_frozen C1.out 12))
 have E1 := client_put C1.out (.int .i64 st) (.bool pm) (.int .i64 act) (.int .i64 0) (.int .i64 0) (.int .i64 0) (.bool false) (.bool false) (.int .i64 (-1)) (.bool false) (.bool false) (.int .i64 0) (.int .i64 0)
 have E2 := below_set13 (bel3 (below_drew HB.out) hb3) (g := w.heap.size + 1) (by omega) (.int .i64 st) (.bool pm) (.int .i64 act) (.int .i64 0) (.int .i64 0) (.int .i64 0) (.bool false) (.bool false) (.int .i64 (-1)) (.bool false) (.bool false) (.int .i64 0) (.int .i64 0)
 go_wp2
 exact bodyPost_ret (results_cell_row rfl _ _ (w.heap.size + 1) 44 _ (0, 0) _ rfl E1 Tryz.underlying44 rfl (by kernel_rfl)) rfl ⟨rfl, E2⟩
theorem isW_of {a : Int} (h0 : 0 ≤ a) (h1 : a < 80) : isW a = true := by
 unfold isW
 exact decide_eq_true ⟨h0, by omega⟩
theorem own_of {z : M.PC} (h : M.CInv z) : OkOwn z.c.own.since z.c.own.rounds z.c.own.old :=
 ⟨by rcases h.since with q | q; exact .inl q; exact .inr ⟨q.1, q.2⟩, h.rd0, h.rd1, isW_of h.old0 h.old1⟩
def okAt (kind n pc wk : Int) : Prop := 0 ≤ wk ∧ ((kind = 0 ∧ (pc = 0 ∨ 1 ≤ pc ∧ pc ≤ 8) ∧ wk = 0) ∨ (kind = 1 ∧ (pc = 0 ∨ 9 ≤ pc ∧ pc ≤ 9) ∧ wk = 0) ∨ (kind = 2 ∧ (pc = 0 ∨ 10 ≤ pc ∧ pc ≤ 15) ∧ wk = 0) ∨ (kind = 3 ∧ pc = 0 ∧ (wk = 0 ∨ wk ≤ n - 1)))
theorem isClient_done (A : Option Addr) (c : Nat) (n : Nat) (st : Int) (pm : Bool) (act pc wk tk : Int) (fs td : Bool) (si : Int) (sv aw : Bool) (rd ol : Int) (w : World) (ha : act = n) (hst : st = 2) (t0 : 0 ≤ tk) (t1 : tk < 4294967296) (ho : OkOwn si rd ol) (hpc : pc = 0) (hwk : wk = 0) (hn : n ≤ 64) :
  Calls Tryz.prog 48 #[.slice A n c, .agg #[.int .i64 st, .bool pm, .int .i64 act, .int .i64 pc, .int .i64 wk, .int .i64 tk, .bool fs, .bool td, .int .i64 si, .bool sv, .bool aw, .int .i64 rd, .int .i64 ol]] w fun e w' => e = .returned (.bool true) ∧ Below w.heap.size w w' := by
 subst hst hpc hwk ha
 have HO := ak_ ho
 clear ho
 have hu := Tryz.underlying44
 have hu40 := Tryz.underlying40
 have hu42 := Tryz.underlying42
 have hu49 := Tryz.underlying49
 have n0 : ¬ ((n : Int) < 0) := by omega
 have nn : ¬ ((n : Int) > (n : Int)) := by omega
 go_enter Tryz.func48, Tryz.ntmps48
 go_wp2_with fail
 refine (grabRight_yes si sv aw rd ol _ HO.out).mono ?_
 rintro e w1 ⟨rfl, hb⟩
 have BK := blk_below (blk_new w (.cells #[.int .i64 2, .bool pm, .int .i64 n, .int .i64 0, .int .i64 0, .int .i64 tk, .bool fs, .bool td, .int .i64 si, .bool sv, .bool aw, .int .i64 rd, .int .i64 ol] 44)) hb
 have B1 := ak_ (bel3 (bel2 (Below.refl _ w) _) hb)
 clear hb
 have hz : w.heap.size < w1.heap.size := blk_lt BK
 have y2 : w1.cell? ⟨w.heap.size, 2, none⟩ = some (.int .i64 n) := blk_cell BK 2
 have y3 : w1.cell? ⟨w.heap.size, 3, none⟩ = some (.int .i64 0) := blk_cell BK 3
 have y4 : w1.cell? ⟨w.heap.size, 4, none⟩ = some (.int .i64 0) := blk_cell BK 4
 clear BK
 go_wp2_with fail
 refine (places_any 3 0 0 _ (by simp)).mono ?_
 rintro e w2 ⟨rfl, rfl⟩
 go_wp2
 go_ret
 exact ⟨rfl, by repeat (first | exact B1.out | apply below_set | apply bel2 | omega)⟩
theorem isClient_run (ad : Addr) (c : Nat) (n : Nat) (a : Nat) (k m : Int) (st : Int) (pm : Bool) (pc wk tk : Int) (fs td : Bool) (si : Int) (sv aw : Bool) (rd ol : Int) (w : World) (ha : a < n) (hst : st = 0 ∨ st = 1) (t0 : 0 ≤ tk) (t1 : tk < 4294967296) (ho : OkOwn si rd ol) (hat : okAt k m pc wk) (hm0 : 0 ≤ m) (hm : m ≤ 1000) (hn : n ≤ 64)
  (c0 : w.cell? (ad.add (a * 2)) = some (.int .i64 k)) (c1 : w.cell? ⟨(ad.add (a * 2)).block, (ad.add (a * 2)).off + 1, none⟩ = some (.int .i64 m)) :
  Calls Tryz.prog 48 #[.slice (some ad) n c, .agg #[.int .i64 st, .bool pm, .int .i64 a, .int .i64 pc, .int .i64 wk, .int .i64 tk, .bool fs, .bool td, .int .i64 si, .bool sv, .bool aw, .int .i64 rd, .int .i64 ol]] w fun e w' => e = .returned (.bool true) ∧ Below w.heap.size w w' := by
 have HO := ak_ ho
 clear ho
 have hu := Tryz.underlying44
 have hu40 := Tryz.underlying40
 have hu42 := Tryz.underlying42
 have hu49 := Tryz.underlying49
 have n0 : ¬ ((a : Int) < 0) := by omega
 have nn : ¬ ((a : Int) > (n : Int)) := by omega
 have ne : ¬ ((a : Int) = (n : Int)) := by omega
 have hs2 : (st == 2) = false := beq_eq_false_iff_ne.2 (by omega)
 have ht0 : ¬ (tk < 0) := by omega
 have ht1 : ¬ (4294967295 < tk) := by omega
 have hbl := World.block_lt_of_cell? w _ c0
 go_enter Tryz.func48, Tryz.ntmps48
 go_wp2_with fail
 refine (grabRight_yes si sv aw rd ol _ HO.out).mono ?_
 rintro e w1 ⟨rfl, hb⟩
 have BK := blk_below (blk_new w (.cells #[.int .i64 st, .bool pm, .int .i64 a, .int .i64 pc, .int .i64 wk, .int .i64 tk, .bool fs, .bool td, .int .i64 si, .bool sv, .bool aw, .int .i64 rd, .int .i64 ol] 44)) hb
 have BB := bel3 (bel2 (Below.refl _ w) _) hb
 have B1 := ak_ BB
 clear hb
 have hz : w.heap.size < w1.heap.size := blk_lt BK
 have y2 : w1.cell? ⟨w.heap.size, 2, none⟩ = some (.int .i64 a) := blk_cell BK 2
 have y3 : w1.cell? ⟨w.heap.size, 3, none⟩ = some (.int .i64 pc) := blk_cell BK 3
 have y4 : w1.cell? ⟨w.heap.size, 4, none⟩ = some (.int .i64 wk) := blk_cell BK 4
 have z0 := fun o => (World.cell?_alloc_some w1 _ o (by rw [(BB.cell hbl).trans c0]; rfl)).trans ((BB.cell hbl).trans c0)
 have z1 := fun o => (World.cell?_alloc_some w1 _ o (by rw [(BB.cell (World.block_lt_of_cell? w _ c1)).trans c1]; rfl)).trans ((BB.cell (World.block_lt_of_cell? w _ c1)).trans c1)
 clear BK BB c0 c1
 have hian : (a : Int) < n := by omega
 rcases hat with ⟨w0, ⟨rfl, q, rfl⟩ | ⟨rfl, q, rfl⟩ | ⟨rfl, q, rfl⟩ | ⟨rfl, rfl, q⟩⟩
 ·go_wp2_with fail
  refine (places_any 0 1 8 _ (by simp)).mono ?_
  rintro e w2 ⟨rfl, rfl⟩
  obtain rfl | ⟨q1, q2⟩ := q
  all_goals
   go_wp2
   go_ret
   exact ⟨rfl, by repeat (first | exact B1.out | apply below_set | apply bel2 | omega)⟩
 ·go_wp2_with fail
  refine (places_any 1 9 9 _ (by simp)).mono ?_
  rintro e w2 ⟨rfl, rfl⟩
  obtain rfl | ⟨q1, q2⟩ := q
  all_goals
   go_wp2
   go_ret
   exact ⟨rfl, by repeat (first | exact B1.out | apply below_set | apply bel2 | omega)⟩
 ·go_wp2_with fail
  refine (places_any 2 10 15 _ (by simp)).mono ?_
  rintro e w2 ⟨rfl, rfl⟩
  obtain rfl | ⟨q1, q2⟩ := q
  all_goals
   go_wp2
   go_ret
   exact ⟨rfl, by repeat (first | exact B1.out | apply below_set | apply bel2 | omega)⟩
 ·have hmx : (wk ≤ max (m - 1) 0) := by omega
  have hmx2 : (if m - 1 < 0 then (0 : Int) else m - 1) = max (m - 1) 0 := by omega
  go_wp2_with fail
  refine (places_any 3 0 0 _ (by simp)).mono ?_
  rintro e w2 ⟨rfl, rfl⟩
  go_wp2
  go_ret
  exact ⟨rfl, by repeat (first | exact B1.out | apply below_set | apply bel2 | omega)⟩
def cv (c : M.Client) : Value := .agg #[.int .i64 c.gor.state, .bool c.gor.permit, .int .i64 c.act, .int .i64 c.pc, .int .i64 c.worked, .int .i64 c.ticket, .bool c.first, .bool c.told, .int .i64 c.own.since, .bool c.own.starving, .bool c.own.awake, .int .i64 c.own.rounds, .int .i64 c.own.old]
theorem isClient_yes (A : Option Addr) (c : Nat) (z : M.PC) (w : World) (hC : kAct.C w A z.prog.length z.prog) (h : M.CInv z) (hp : M.okProg z.prog) :
  Calls Tryz.prog 48 #[.slice A z.prog.length c, cv z.c] w fun e w' => e = .returned (.bool true) ∧ Below w.heap.size w w' := by
 by_cases hd : z.c.gor.state = 2
 ·have ha := h.done.2 hd
  have h1 : z.c.worked = 0 := by rcases h.wk1 with q | ⟨q, _⟩; exact q; omega
  have h2 : z.c.pc = 0 := by rcases h.pc with q | ⟨q, _⟩; exact q; omega
  exact isClient_done A c z.prog.length z.c.gor.state z.c.gor.permit z.c.act z.c.pc z.c.worked z.c.ticket z.c.first z.c.told z.c.own.since z.c.own.starving z.c.own.awake z.c.own.rounds z.c.own.old w ha hd h.tk0 h.tk1 (own_of h) h2 h1 hp.1
 ·have hlt : z.c.act < z.prog.length := by
   have := h.a1
   have : z.c.act ≠ z.prog.length := fun q => hd (h.done.1 q)
   omega
  have hst := h.st0
  have hst2 := h.st2
  obtain ⟨a, ha⟩ : ∃ a : Nat, z.c.act = a := ⟨z.c.act.toNat, by have := h.a0; omega⟩
  have hal : a < z.prog.length := by omega
  have hx : z.prog[a]? = some z.cur := by
   unfold M.PC.cur
   rw [ha, List.getD_eq_getElem?_getD, Int.toNat_natCast, List.getElem?_eq_getElem hal]
   rfl
  obtain ⟨ad, e, c0, cj⟩ := flat_cells hC a z.cur hx
  subst e
  have hok := M.cur_ok hp h.a0 hlt
  obtain ⟨k0, k3, n0, n3, n4⟩ := hok
  have hw0 := h.wk0
  have hat : okAt z.cur.kind z.cur.n z.c.pc z.c.worked := by
   refine ⟨hw0, ?_⟩
   rcases h.wk1 with q | ⟨_, q1, q2⟩
   ·rcases h.pc with p | ⟨_, p⟩
    ·have : z.cur.kind = 0 ∨ z.cur.kind = 1 ∨ z.cur.kind = 2 ∨ z.cur.kind = 3 := by omega
     rcases this with r | r | r | r
     ·exact .inl ⟨r, .inl p, q⟩
     ·exact .inr (.inl ⟨r, .inl p, q⟩)
     ·exact .inr (.inr (.inl ⟨r, .inl p, q⟩))
     ·exact .inr (.inr (.inr ⟨r, p, .inl q⟩))
    ·rcases p with ⟨r, p1, p2⟩ | ⟨r, p1⟩ | ⟨r, p1, p2⟩
     ·exact .inl ⟨r, .inr ⟨p1, p2⟩, q⟩
     ·exact .inr (.inl ⟨r, .inr ⟨by omega, by omega⟩, q⟩)
     ·exact .inr (.inr (.inl ⟨r, .inr ⟨p1, p2⟩, q⟩))
   ·have p : z.c.pc = 0 := by
     rcases h.pc with p | ⟨_, p⟩
     ·exact p
     ·omega
    exact .inr (.inr (.inr ⟨q1, p, .inr q2⟩))
  have := isClient_run ad c z.prog.length a z.cur.kind z.cur.n z.c.gor.state z.c.gor.permit z.c.pc z.c.worked z.c.ticket z.c.first z.c.told z.c.own.since z.c.own.starving z.c.own.awake z.c.own.rounds z.c.own.old w hal (by omega) h.tk0 h.tk1 (own_of h) hat n0 (by by_cases q : z.cur.kind = 3; exact n3 q; have := n4 q; omega) hp.1 (c0 _ rfl) (cj 1 _ (by decide) rfl)
  rw [← ha] at this
  exact this
end Go.Proofs.YtoimfknjfeencaaGreatDoor.Hand
end
section
namespace Go.Proofs.YtoimfknjfeencaaGreatDoor.Hand
open Go.RowKit
theorem okA_of {a : M.Act} (h : M.okAct a) : okA (toS a) = true := by
 obtain ⟨h0, h1, h2, h3, h4⟩ := h
 unfold okA isActP toS
 simp only
 by_cases q : a.kind = 3
 ·have := h3 q
  simp [q, h2, this]
 ·have := h4 q
  simp [*]
  omega
theorem okPs_of {cl : List M.PC} (hl : cl.length ≤ 8) (h : ∀ (k : Nat) (z : M.PC), cl[k]? = some z → M.okProg z.prog) : okPs ((cl.map (·.prog)).map (·.map toS)) = true := by
 unfold okPs
 simp only [Bool.and_eq_true, decide_eq_true_eq, List.length_map, List.all_eq_true]
 refine ⟨hl, ?_⟩
 intro p hp
 rw [List.map_map, List.mem_map] at hp
 obtain ⟨z, hz, rfl⟩ := hp
 obtain ⟨k, hk⟩ := List.getElem?_of_mem hz
 have := h k z hk
 unfold okP
 simp only [Bool.and_eq_true, decide_eq_true_eq, List.all_eq_true, Function.comp, List.length_map]
 refine ⟨this.1, ?_⟩
 intro a ha
 obtain ⟨b, hb, rfl⟩ := List.mem_map.1 ha
 exact okA_of (this.2 b hb)
theorem okGor_of {z : M.PC} (h : M.CInv z) : okGor z.c.gor := ⟨h.st0, h.st2, h.permit⟩
theorem mem_tableFrom : ∀ (l : List M.Sem) (m : Nat) (s : Spot), s ∈ tableFrom l m → ∃ (k : Nat) (y : M.Sem), l[k]? = some y ∧ ¬ (y.count = 0 ∧ y.line = []) ∧ s = ⟨8 * ((m + k : Nat) : Int), y.count, y.line.map Int.ofNat⟩
 | [], m, s, h => by simp [tableFrom] at h
 | y :: r, m, s, h => by
  unfold tableFrom at h
  rcases List.mem_append.1 h with h | h
  ·unfold spotOf at h
   split at h
   ·simp at h
   ·rename_i hn
    simp at h
    exact ⟨0, y, rfl, hn, h⟩
  ·obtain ⟨k, z, hk, hn, e⟩ := mem_tableFrom r (m + 1) s h
   exact ⟨k + 1, z, by simpa using hk, hn, by rw [e]; simp only [Spot.mk.injEq, and_self, and_true]; omega⟩
theorem up_tableFrom : ∀ (l : List M.Sem) (m : Nat), (tableFrom l m).Pairwise (fun a b => a.addr < b.addr)
 | [], m => List.Pairwise.nil
 | y :: r, m => by
  unfold tableFrom
  rw [List.pairwise_append]
  refine ⟨?_, up_tableFrom r (m + 1), ?_⟩
  ·unfold spotOf
   split
   ·exact List.Pairwise.nil
   ·exact List.pairwise_singleton _ _
  ·intro a ha b hb
   obtain ⟨k, z, _, _, rfl⟩ := mem_tableFrom r (m + 1) b hb
   unfold spotOf at ha
   split at ha
   ·simp at ha
   ·simp at ha
    rw [ha]
    show 8 * (m : Int) < 8 * ((m + 1 + k : Nat) : Int)
    omega
theorem len_tableFrom : ∀ (l : List M.Sem) (m : Nat), (tableFrom l m).length ≤ l.length
 | [], m => Nat.le_refl _
 | y :: r, m => by
  have := len_tableFrom r (m + 1)
  unfold tableFrom spotOf
  split <;> simp <;> omega
theorem nodup_len : ∀ (n : Nat) (l : List Nat), l.Nodup → (∀ k ∈ l, k < n) → l.length ≤ n
 | 0, l, hd, h => by
  cases l with
  | nil => exact Nat.le_refl _
  | cons a r => exact absurd (h a (by simp)) (by omega)
 | n + 1, l, hd, h => by
  by_cases q : n ∈ l
  ·have h1 := nodup_len n (l.erase n) (List.Pairwise.sublist List.erase_sublist hd) (fun k hk => by
    have := (List.Nodup.mem_erase_iff hd).1 hk
    have := h k this.2
    omega)
   rw [List.length_erase_of_mem q] at h1
   omega
  ·have := nodup_len n l hd (fun k hk => by
    have := h k hk
    have : k ≠ n := fun e => q (e ▸ hk)
    omega)
   omega
theorem sem_of {x : M.W} (g : M.Good x) (k : Nat) (y : M.Sem) (h : x.sem[k]? = some y) : M.MInv (k : Int) (x.mu.getD k default) y x.cl ∧ k < 4 := by
 have hk : k < x.sem.length := (List.getElem?_eq_some_iff.1 h).1
 rw [g.sem] at hk
 have := g.inv k hk
 rw [show x.sem.getD k default = y by rw [List.getD_eq_getElem?_getD, h]; rfl] at this
 exact ⟨this, hk⟩
theorem count_le {m : Int} {x : M.Mutex} {s : M.Sem} {cl : List M.PC} (h : M.MInv m x s cl) : s.count ≤ 1 := by
 have hw := h.word
 have p := M.cnt_lo (M.isP m) cl
 have d := M.cnt_lo (M.isD m) cl
 have a := M.cnt_lo (M.isA m) cl
 have hh := M.cnt_lo (M.isH m) cl
 by_cases q : x.word / 4 % 2 = 1 ∧ x.word % 2 = 0
 ·have := hw.hand q.1 q.2
  omega
 ·have := hw.free q
  omega
theorem line_lt {m : Int} {x : M.Mutex} {s : M.Sem} {cl : List M.PC} (h : M.MInv m x s cl) : ∀ k ∈ s.line, k < cl.length := by
 intro k hk
 obtain ⟨y, hy, _⟩ := (h.line.mem k).1 hk
 exact (List.getElem?_eq_some_iff.1 hy).1
theorem okSpot_of {m : Int} {x : M.Mutex} {s : M.Sem} {cl : List M.PC} (h : M.MInv m x s cl) (hl : cl.length ≤ 8) (j : Nat) (hj : j < 4) : OkSpot ⟨8 * (j : Int), s.count, s.line.map Int.ofNat⟩ := by
 refine ⟨by show 0 ≤ 8 * (j : Int); omega, by show 8 * (j : Int) ≤ 4294967295; omega, h.line.c0, by have := count_le h; show s.count ≤ _; omega, ?_, ?_⟩
 ·unfold okLine
  refine decide_eq_true ⟨?_, ?_, ?_⟩
  ·exact List.pairwise_map.2 (h.line.nodup.imp (fun hab q => hab (Int.ofNat.inj q)))
  ·intro a ha
   obtain ⟨b, _, rfl⟩ := List.mem_map.1 ha
   exact Int.natCast_nonneg b
  ·rw [List.length_map]
   have := nodup_len cl.length s.line h.line.nodup (line_lt h)
   omega
 ·rcases h.line.none_ with q | q
  ·exact .inl q
  ·exact .inr (by show s.line.map Int.ofNat = []; rw [q]; rfl)
theorem okTab_of {x : M.W} (g : M.Good x) : OkTab (tableOf x.sem) := by
 refine ⟨?_, ?_, ?_, ?_, ?_⟩
 ·intro s hs
  obtain ⟨k, y, hk, _, rfl⟩ := mem_tableFrom _ _ _ hs
  obtain ⟨hi, h4⟩ := sem_of g k y hk
  exact okSpot_of hi g.cl (0 + k) (by omega)
 ·intro s hs
  obtain ⟨k, y, hk, hn, rfl⟩ := mem_tableFrom _ _ _ hs
  rintro ⟨h1, h2⟩
  exact hn ⟨h1, by simpa using h2⟩
 ·intro s hs
  obtain ⟨k, y, hk, _, rfl⟩ := mem_tableFrom _ _ _ hs
  obtain ⟨hi, h4⟩ := sem_of g k y hk
  exact ⟨0 + k, by omega, rfl⟩
 ·intro i a b ha hb
  have := up_tableFrom x.sem 0
  rw [List.pairwise_iff_getElem] at this
  obtain ⟨h1, e1⟩ := List.getElem?_eq_some_iff.1 ha
  obtain ⟨h2, e2⟩ := List.getElem?_eq_some_iff.1 hb
  have := this i (i + 1) h1 h2 (by omega)
  rw [← e1, ← e2]
  exact this
 ·have := len_tableFrom x.sem 0
  rw [g.sem] at this
  show (tableFrom x.sem 0).length ≤ 64
  omega
theorem tab_lt {x : M.W} (g : M.Good x) : ∀ s ∈ tableOf x.sem, ∀ who ∈ s.line, who < x.cl.length := by
 intro s hs who hw
 obtain ⟨k, y, hk, _, rfl⟩ := mem_tableFrom _ _ _ hs
 obtain ⟨hi, h4⟩ := sem_of g k y hk
 obtain ⟨j, hj, rfl⟩ := List.mem_map.1 hw
 have := line_lt hi j hj
 show (j : Int) < _
 omega
theorem mu_ok {x : M.W} (g : M.Good x) : ∀ y ∈ x.mu, isW y.word = true ∧ okW y.line.next ∧ okW y.line.serve := by
 intro y hy
 obtain ⟨k, hk⟩ := List.getElem?_of_mem hy
 have hk4 : k < 4 := by have := (List.getElem?_eq_some_iff.1 hk).1; rw [g.mu] at this; exact this
 have h := g.inv k hk4
 rw [show x.mu.getD k default = y by rw [List.getD_eq_getElem?_getD, hk]; rfl] at h
 have hr := M.cnt_hi (M.isR k) x.cl
 have p := M.cnt_lo (M.isP k) x.cl
 have d := M.cnt_lo (M.isD k) x.cl
 have hc := h.line.c0
 have hl := g.cl
 have : y.word / 8 ≤ 8 := by
  by_cases q : y.word / 4 % 2 = 1 ∧ y.word % 2 = 0
  ·have := h.word.hand q.1 q.2
   omega
  ·have := h.word.free q
   omega
 refine ⟨?_, ⟨h.tick.n0, h.tick.n1⟩, ⟨h.tick.s0, h.tick.s1⟩⟩
 exact isW_of h.word.lo (by have := h.word.lo; omega)
end Go.Proofs.YtoimfknjfeencaaGreatDoor.Hand
end
