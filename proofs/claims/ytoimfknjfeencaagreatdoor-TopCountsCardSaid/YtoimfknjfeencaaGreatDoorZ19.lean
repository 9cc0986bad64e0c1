/- Part of the walk of a law of the top, and what it leans on (Meth7, Meth8, Meth9). No conditions beyond those that each lemma names. -/
import Derived.Test.YtoimfknjfeencaaGreatDoorZ18
set_option linter.unusedVariables false
set_option linter.unusedSimpArgs false
set_option maxHeartbeats 8000000
set_option maxRecDepth 100000
section
namespace Go.Proofs.YtoimfknjfeencaaGreatDoor.Hand
open Go.RowKit Go.Proofs.YtoimfknjfeencaaGreatDoorW.PrintWords Go.Proofs.YtoimfknjfeencaaGreatDoorW.PrintLast Go.Proofs.YtoimfknjfeencaaGreatDoorW.PrintMore
structure Qx (m : Nat) (L : List M.Sem) (y : M.Sem) : Prop where
 m4 : m < 4
 l4 : L.length ≤ 4
 ok : OkTab (tableOf L)
 sp : OkSpot (spotM m y)
theorem acq_any (m who : Nat) (first : Bool) (S : Nat → Prop) (L : List M.Sem) (y : M.Sem) (v0 : Value) (w : World) (hq : Qx m L y) (hy : L[m]? = some y) (hT : Tb S w v0 (tableOf L)) (hS : ∀ k, S k → k < w.heap.size) (hn : who ∉ y.line) (h64 : y.line.length < 64) :
  Calls Tryz.prog 125 #[v0, .int .i64 (8 * (m : Int)), .int .i64 who, .bool first] w (SemaPost S (L.set m (if 0 < y.count then { y with count := y.count - 1 } else { y with line := lineQ first who y.line })) (fun u => .tuple #[u, .bool (decide (0 < y.count)), .int .i64 0]) w) := by
 by_cases hc : 0 < y.count
 ·rw [if_pos hc, decide_eq_true hc]
  exact acq_told m who first S L y v0 w hq.m4 hy hT hS hq.ok hq.sp hq.l4 hc
 ·rw [if_neg hc, decide_eq_false hc]
  have h0 : 0 ≤ y.count := hq.sp.c0
  exact acq_wait m who first S L y v0 w hq.m4 hy hT hS hq.ok hq.sp hq.l4 (by omega) hn h64
theorem askS_of {B m i : Nat} {k : Blk} {s : Sx} {w' : World} (h : St B k s w') (hat : s.at_ = (m : Int)) (hwho : s.who = (i : Int)) : w'.cell? ⟨k.sp, 0, none⟩ = some (.pointer (some ⟨k.np, 0, none⟩)) ∧ w'.cell? ⟨k.sp, 1, none⟩ = some (.pointer (some ⟨k.cp, 0, none⟩)) ∧ w'.cell? ⟨k.sp, 3, none⟩ = some (.int .i64 i) ∧ w'.cell? ⟨k.sp, 4, none⟩ = some (.int .i64 m) ∧ w'.cell? ⟨k.np, 4, none⟩ = some s.tv ∧ w'.cell? ⟨k.cp, 6, none⟩ = some (.bool s.c.first) := ⟨h.s0, h.s1, by rw [← hwho]; exact h.s3, by rw [← hat]; exact h.s4, h.n4, h.c6⟩
theorem ask89 {B m i : Nat} {k : Blk} {s : Sx} {w : World} {x : M.Mutex} {L : List M.Sem} {y : M.Sem} (h : St B k s w) (cx : Cx k s m x L y) (hq : Qx m L y) (hat : s.at_ = (m : Int)) (hwho : s.who = (i : Int)) (hn : i ∉ y.line) (h64 : y.line.length < 64) :
  Calls Tryz.prog 89 #[.pointer (some ⟨k.sp, 0, none⟩)] w (Dx B k (Rx s m L (M.askR i s.c x y)) w) := by
 have H0 := ak_ h
 have CX := ak_ cx
 have hm := cx.mp
 have hx := cx.mx
 have s0_ := h.s0
 have s1_ := h.s1
 have s3_ := h.s3
 have s4_ := h.s4
 have n4_ := h.n4
 have c6_ := h.c6
 rw [hwho] at s3_
 rw [hat] at s4_
 have hu81 := Tryz.underlying81
 have hu53 := Tryz.underlying53
 have hu44 := Tryz.underlying44
 have hu29 := Tryz.underlying29
 have hu26 := Tryz.underlying26
 have h4 := hq.m4
 have hw8 : IntKind.i64.wrap (8 * (m : Int)) = 8 * (m : Int) := by rw [IntKind.wrap_i64]; omega
 obtain ⟨ys, hys⟩ : ∃ ys : M.Sem, ys = if 0 < y.count then { y with count := y.count - 1 } else { y with line := lineQ s.c.first i y.line } := ⟨_, rfl⟩
 obtain ⟨b, hb0⟩ : ∃ b, b = decide (0 < y.count) := ⟨_, rfl⟩
 have HA := ak_ (fun W (h : St B k s W) => acq_any m i s.c.first k.hx L y s.tv W hq cx.ly (by have := h.tb; rw [cx.tab] at this; exact this) (fun q hk => h.lt_hx q hk) hn h64)
 rw [← hys, ← hb0] at HA
 have HR : Aside0 (M.askR i s.c x y = ⟨{ s.c with told := b, pc := 6 }, x, ys, false, none, none, 0⟩) := ⟨by
  unfold M.askR
  rw [hb0, hys]
  by_cases hc : 0 < y.count
  ·rw [if_pos hc, if_pos hc, decide_eq_true hc]
  ·rw [if_neg hc, if_neg hc, decide_eq_false hc]
   rfl⟩
 have HAT := ak_ hat
 have HWH := ak_ hwho
 clear h cx hb0 hys hat hwho hn h64 hq
 go_enter Tryz.func89, Tryz.ntmps89
 go_wp2
 refine wp_region_held_drew (S := (fun w' => w'.cell? ⟨k.sp, 0, none⟩ = some (.pointer (some ⟨k.np, 0, none⟩)) ∧ w'.cell? ⟨k.sp, 1, none⟩ = some (.pointer (some ⟨k.cp, 0, none⟩)) ∧ w'.cell? ⟨k.sp, 3, none⟩ = some (.int .i64 i) ∧ w'.cell? ⟨k.sp, 4, none⟩ = some (.int .i64 m) ∧ w'.cell? ⟨k.np, 4, none⟩ = some s.tv ∧ w'.cell? ⟨k.cp, 6, none⟩ = some (.bool s.c.first))) (by kernel_rfl) ?hS_1 (fun hHeld => ?rest_1)
 case hS_1 => ((try dsimp only); exact askS_of H0.out.drew HAT.out HWH.out)
 refine tk1 (i := 0) (by (try simp only [g1_, g2_, g3_]); exact rfl) (by kernel_rfl) (by assumption) (by kernel_rfl) (by intro w hSw; (try dsimp only at hSw); go_simp; first | done | with_reducible rfl | rfl) (by exact fun _ _ _ h => h) ?_
 try simp only [Act.put, p1_, p2_, p3_]
 refine tk1 (i := 1) (by (try simp only [g1_, g2_, g3_]); exact rfl) (by kernel_rfl) (by assumption) (by kernel_rfl) (by intro w hSw; (try dsimp only at hSw); go_simp; first | done | with_reducible rfl | rfl) (by exact fun _ _ _ h => h) ?_
 try simp only [Act.put, p1_, p2_, p3_]
 refine tk1 (i := 2) (by (try simp only [g1_, g2_, g3_]); exact rfl) (by kernel_rfl) (by assumption) (by kernel_rfl) (by intro w hSw; (try dsimp only at hSw); go_simp; first | done | with_reducible rfl | rfl) (by exact fun _ _ _ h => h) ?_
 try simp only [Act.put, p1_, p2_, p3_]
 refine tk1 (i := 3) (by (try simp only [g1_, g2_, g3_]); exact rfl) (by kernel_rfl) (by assumption) (by kernel_rfl) (by intro w hSw; (try dsimp only at hSw); go_simp; first | done | with_reducible rfl | rfl) (by exact fun _ _ _ h => h) ?_
 try simp only [Act.put, p1_, p2_, p3_]
 refine tk1 (i := 4) (by (try simp only [g1_, g2_, g3_]); exact rfl) (by kernel_rfl) (by assumption) (by kernel_rfl) (by intro w hSw; (try dsimp only at hSw); go_simp; first | done | with_reducible rfl | rfl) (by exact fun _ _ _ h => h) ?_
 try simp only [Act.put, p1_, p2_, p3_]
 refine tk1 (i := 5) (by (try simp only [g1_, g2_, g3_]); exact rfl) (by kernel_rfl) (by assumption) (by kernel_rfl) (by intro w hSw; (try dsimp only at hSw); go_simp; first | done | with_reducible rfl | rfl) (by exact fun _ _ _ h => h) ?_
 try simp only [Act.put, p1_, p2_, p3_]
 refine tk1 (i := 6) (by (try simp only [g1_, g2_, g3_]); exact rfl) (by kernel_rfl) (by assumption) (by kernel_rfl) (by intro w hSw; (try dsimp only at hSw); go_simp; first | done | with_reducible rfl | rfl) (by exact fun _ _ _ h => h) ?_
 try simp only [Act.put, p1_, p2_, p3_]
 refine tk1 (i := 7) (by (try simp only [g1_, g2_, g3_]); exact rfl) (by kernel_rfl) (by assumption) (by kernel_rfl) (by intro w hSw; (try dsimp only at hSw); go_simp; first | done | with_reducible rfl | rfl) (by exact fun _ _ _ h => h) ?_
 try simp only [Act.put, p1_, p2_, p3_]
 refine tk1 (i := 8) (by (try simp only [g1_, g2_, g3_]); exact rfl) (by kernel_rfl) (by assumption) (by kernel_rfl) (by intro w hSw; (try dsimp only at hSw); go_simp; first | done | with_reducible rfl | rfl) (by exact fun _ _ _ h => h) ?_
 try simp only [Act.put, p1_, p2_, p3_]
 refine tk1 (i := 9) (by (try simp only [g1_, g2_, g3_]); exact rfl) (by kernel_rfl) (by assumption) (by kernel_rfl) (by intro w hSw; (try dsimp only at hSw); go_simp; first | done | with_reducible rfl | rfl) (by exact fun _ _ _ h => h) ?_
 try simp only [Act.put, p1_, p2_, p3_]
 refine tk1 (i := 10) (by (try simp only [g1_, g2_, g3_]); exact rfl) (by kernel_rfl) (by assumption) (by kernel_rfl) (by intro w hSw; (try dsimp only at hSw); go_simp; first | done | with_reducible rfl | rfl) (by exact fun _ _ _ h => h) ?_
 try simp only [Act.put, p1_, p2_, p3_]
 refine tk1 (i := 11) (by (try simp only [g1_, g2_, g3_]); exact rfl) (by kernel_rfl) (by assumption) (by kernel_rfl) (by intro w hSw; (try dsimp only at hSw); go_simp; first | done | with_reducible rfl | rfl) (by exact fun _ _ _ h => h) ?_
 try simp only [Act.put, p1_, p2_, p3_]
 refine tk1 (i := 12) (by (try simp only [g1_, g2_, g3_]); exact rfl) (by kernel_rfl) (by assumption) (by kernel_rfl) (by intro w hSw; (try dsimp only at hSw); go_simp; first | done | with_reducible rfl | rfl) (by exact fun _ _ _ h => h) ?_
 try simp only [Act.put, p1_, p2_, p3_]
 refine tk1 (i := 13) (by (try simp only [g1_, g2_, g3_]); exact rfl) (by kernel_rfl) (by assumption) (by kernel_rfl) (by intro w hSw; (try dsimp only at hSw); go_simp; first | done | with_reducible rfl | rfl) (by exact fun _ _ _ h => h) ?_
 try simp only [Act.put, p1_, p2_, p3_]
 refine tk1 (i := 14) (by (try simp only [g1_, g2_, g3_]); exact rfl) (by kernel_rfl) (by assumption) (by kernel_rfl) (by intro w hSw; (try dsimp only at hSw); go_simp; first | done | with_reducible rfl | rfl) (by exact fun _ _ _ h => h) ?_
 try simp only [Act.put, p1_, p2_, p3_]
 refine tk1 (i := 15) (by (try simp only [g1_, g2_, g3_]); exact rfl) (by kernel_rfl) (by assumption) (by kernel_rfl) (by intro w hSw; (try dsimp only at hSw); go_simp; first | done | with_reducible rfl | rfl) (by exact fun _ _ _ h => h) ?_
 try simp only [Act.put, p1_, p2_, p3_]
 refine tk1 (i := 16) (by (try simp only [g1_, g2_, g3_]); exact rfl) (by kernel_rfl) (by assumption) (by kernel_rfl) (by intro w hSw; (try dsimp only at hSw); go_simp; first | done | with_reducible rfl | rfl) (by exact fun _ _ _ h => h) ?_
 try simp only [Act.put, p1_, p2_, p3_]
 refine tk1 (i := 17) (by (try simp only [g1_, g2_, g3_]); exact rfl) (by kernel_rfl) (by assumption) (by kernel_rfl) (by intro w hSw; (try dsimp only at hSw); go_simp; first | done | with_reducible rfl | rfl) (by exact fun _ _ _ h => h) ?_
 try simp only [Act.put, p1_, p2_, p3_]
 refine tk1 (i := 18) (by (try simp only [g1_, g2_, g3_]); exact rfl) (by kernel_rfl) (by assumption) (by kernel_rfl) (by intro w hSw; (try dsimp only at hSw); go_simp; first | done | with_reducible rfl | rfl) (by exact fun _ _ _ h => h) ?_
 try simp only [Act.put, p1_, p2_, p3_]
 refine tk1 (i := 19) (by (try simp only [g1_, g2_, g3_]); exact rfl) (by kernel_rfl) (by assumption) (by kernel_rfl) (by intro w hSw; (try dsimp only at hSw); go_simp; first | done | with_reducible rfl | rfl) (by exact fun _ _ _ h => h) ?_
 try simp only [Act.put, p1_, p2_, p3_]
 refine tk1 (i := 20) (by (try simp only [g1_, g2_, g3_]); exact rfl) (by kernel_rfl) (by assumption) (by kernel_rfl) (by intro w hSw; (try dsimp only at hSw); go_simp; first | done | with_reducible rfl | rfl) (by exact fun _ _ _ h => h) ?_
 try simp only [Act.put, p1_, p2_, p3_]
 refine tk1 (i := 21) (by (try simp only [g1_, g2_, g3_]); exact rfl) (by kernel_rfl) (by assumption) (by kernel_rfl) (by intro w hSw; (try dsimp only at hSw); go_simp; first | done | with_reducible rfl | rfl) (by exact fun _ _ _ h => h) ?_
 try simp only [Act.put, p1_, p2_, p3_]
 refine tk1 (i := 22) (by (try simp only [g1_, g2_, g3_]); exact rfl) (by kernel_rfl) (by assumption) (by kernel_rfl) (by intro w hSw; (try dsimp only at hSw); go_simp; first | done | with_reducible rfl | rfl) (by exact fun _ _ _ h => h) ?_
 try simp only [Act.put, p1_, p2_, p3_]
 refine wpAnyH_ready (rs := [23]) (by kernel_rfl) (by simp) ?_
 refine AllReadyH.cons rfl (fun K hK => ?_) AllReadyH.nil
 go_simp
 refine (HA.out _ H0.out.drew).mono ?_
 rintro e w2 ⟨v2, rfl, hT, hb⟩
 have H2 := ak_ (H0.out.drew.below hb)
 have B2 := ak_ ((below_drew (Below.refl B w)).trans (hb.mono H0.out.drew.Blt))
 obtain ⟨A2, c2, rfl, _, _⟩ := hT w2 (Kept.refl _ _)
 have HT := ak_ hT
 refine hK.out _ _ (askS_of H2.out HAT.out HWH.out) (fun hHeld => ?_)
 clear hK K
 try simp only [Act.put, List.setIfInBounds_toArray, List.set_cons_zero, List.set_cons_succ]
 refine tk1 (i := 24) (by (try simp only [g1_, g2_, g3_]); exact rfl) (by kernel_rfl) (by assumption) (by kernel_rfl) (by intro w hSw; (try dsimp only at hSw); go_simp; first | done | with_reducible rfl | rfl) (by exact fun _ _ _ h => h) ?_
 try simp only [Act.put, p1_, p2_, p3_]
 refine tk1 (i := 25) (by (try simp only [g1_, g2_, g3_]); exact rfl) (by kernel_rfl) (by assumption) (by kernel_rfl) (by intro w hSw; (try dsimp only at hSw); go_simp; first | done | with_reducible rfl | rfl) (by exact fun _ _ _ h => h) ?_
 try simp only [Act.put, p1_, p2_, p3_]
 refine tk1 (i := 26) (by (try simp only [g1_, g2_, g3_]); exact rfl) (by kernel_rfl) (by assumption) (by kernel_rfl) (by intro w hSw; (try dsimp only at hSw); go_simp; first | done | with_reducible rfl | rfl) (by exact fun _ _ _ h => h) ?_
 try simp only [Act.put, p1_, p2_, p3_]
 refine tk1 (i := 27) (by (try simp only [g1_, g2_, g3_]); exact rfl) (by kernel_rfl) (by assumption) (by kernel_rfl) (by intro w hSw; (try dsimp only at hSw); go_simp; first | done | with_reducible rfl | rfl) (by exact fun _ _ _ h => h) ?_
 try simp only [Act.put, p1_, p2_, p3_]
 refine tk1 (i := 28) (by (try simp only [g1_, g2_, g3_]); exact rfl) (by kernel_rfl) (by assumption) (by kernel_rfl) (by intro w hSw; (try dsimp only at hSw); go_simp; first | done | with_reducible rfl | rfl) (by exact fun _ _ _ h => h) ?_
 try simp only [Act.put, p1_, p2_, p3_]
 refine tk1 (i := 29) (by (try simp only [g1_, g2_, g3_]); exact rfl) (by kernel_rfl) (by assumption) (by kernel_rfl) (by intro w hSw; (try dsimp only at hSw); go_simp; first | done | with_reducible rfl | rfl) (by exact fun _ _ _ h => h) ?_
 try simp only [Act.put, p1_, p2_, p3_]
 refine tk1 (i := 30) (by (try simp only [g1_, g2_, g3_]); exact rfl) (by kernel_rfl) (by assumption) (by kernel_rfl) (by intro w hSw; (try dsimp only at hSw); go_simp; first | done | with_reducible rfl | rfl) (by exact fun _ _ _ h => h) ?_
 try simp only [Act.put, p1_, p2_, p3_]
 refine wpAnyH_done (by kernel_rfl) ?_ _
 clear hHeld hb hT s0_ s1_ s3_ s4_ n4_ c6_
 have s0_ := H2.out.s0
 have s1_ := H2.out.s1
 have fn4_ := H2.out.fn4
 have n4_ := H2.out.n4
 have c7_ := H2.out.c7
 have fc7_ := H2.out.fc7
 have nnc := H2.out.ne_nc
 have ncn := H2.out.ne_cn
 go_wp2_with (go_at_call 113; refine (must113 _).mono ?_; rintro e w3 ⟨rfl, rfl⟩)
 go_region
 obtain ⟨W6, hW6⟩ : ∃ W6, W6 = ((w3.setCell ⟨k.np, 4, none⟩ (.slice A2 (tableOf (L.set m ys)).length c2)).setCell ⟨k.cp, 7, none⟩ (.bool b)).drew := ⟨_, rfl⟩
 rw [← hW6]
 have H6 : Aside0 (St B k { s with tv := .slice A2 (tableOf (L.set m ys)).length c2, tab := tableOf (L.set m ys), c := { s.c with told := b } } W6) := ⟨by rw [hW6]; exact ((H2.out.putTab (.slice A2 (tableOf (L.set m ys)).length c2) (tableOf (L.set m ys)) HT.out).putc 7 (.bool b) { s.c with told := b } rfl).drew⟩
 have B6 : Aside0 (Below B w W6) := ⟨by rw [hW6]; exact below_drew ((B2.out.setCell (p := ⟨k.np, 4, none⟩) H0.out.lo_n _).setCell (p := ⟨k.cp, 7, none⟩) H0.out.lo_c _)⟩
 clear hW6 s0_ s1_ fn4_ n4_ c7_ fc7_
 have s1_ := H6.out.s1
 have c3_ := H6.out.c3
 have fc3_ := H6.out.fc3
 go_wp2
 go_end0
 refine ⟨rfl, B6.out.setCell (p := ⟨k.cp, 3, none⟩) H0.out.lo_c _, _, ?_, H6.out.putc 3 (.int .i64 6) { s.c with told := b, pc := 6 } rfl⟩
 rw [HR.out]
 exact ⟨rfl, (set_self CX.out.mx).symm, rfl, CX.out.ov, CX.out.evs, CX.out.st, rfl, rfl, rfl, rfl, rfl, rfl⟩
theorem grantS_of {B m : Nat} {k : Blk} {s : Sx} {w' : World} (h : St B k s w') (hat : s.at_ = (m : Int)) : w'.cell? ⟨k.sp, 0, none⟩ = some (.pointer (some ⟨k.np, 0, none⟩)) ∧ w'.cell? ⟨k.sp, 4, none⟩ = some (.int .i64 m) ∧ w'.cell? ⟨k.np, 4, none⟩ = some s.tv := ⟨h.s0, by rw [← hat]; exact h.s4, h.n4⟩
theorem grant_none {B m i : Nat} {k : Blk} {s : Sx} {w : World} {x : M.Mutex} {L : List M.Sem} {y : M.Sem} (h : St B k s w) (cx : Cx k s m x L y) (hq : Qx m L y) (hat : s.at_ = (m : Int)) (hwho : s.who = (i : Int)) (hn : y.line = []) (hc : y.count < 2147483647) :
  Calls Tryz.prog 96 #[.pointer (some ⟨k.sp, 0, none⟩)] w (Dx B k (Rx s m L (M.grantR s.c x y)) w) := by
 have H0 := ak_ h
 have CX := ak_ cx
 have s0_ := h.s0
 have s4_ := h.s4
 have n4_ := h.n4
 rw [hat] at s4_
 have hu81 := Tryz.underlying81
 have hu53 := Tryz.underlying53
 have hu44 := Tryz.underlying44
 have hu40 := Tryz.underlying40
 have hu65 := Tryz.underlying65
 have hu24 := Tryz.underlying24
 have hu29 := Tryz.underlying29
 have hu26 := Tryz.underlying26
 have h4 := hq.m4
 have hw8 : IntKind.i64.wrap (8 * (m : Int)) = 8 * (m : Int) := by rw [IntKind.wrap_i64]; omega
 obtain ⟨ys, hys⟩ : ∃ ys : M.Sem, ys = { y with count := y.count + 1 } := ⟨_, rfl⟩
 have HA := ak_ (fun W (h : St B k s W) => rel_none m k.hx L y s.tv W hq.m4 cx.ly (by have := h.tb; rw [cx.tab] at this; exact this) (fun q hk => h.lt_hx q hk) hq.ok hq.sp hq.l4 hn hc)
 rw [← hys] at HA
 have HR : Aside0 (M.grantR s.c x y = ⟨{ s.c with pc := 15 }, x, ys, false, none, none, 0⟩) := ⟨by
  unfold M.grantR
  simp only [hys, hn]⟩
 have HAT := ak_ hat
 have HWH := ak_ hwho
 clear h cx hys hat hwho hn hc hq
 go_enter Tryz.func96, Tryz.ntmps96
 go_wp2
 refine wp_region_held_drew (S := (fun w' => w'.cell? ⟨k.sp, 0, none⟩ = some (.pointer (some ⟨k.np, 0, none⟩)) ∧ w'.cell? ⟨k.sp, 4, none⟩ = some (.int .i64 m) ∧ w'.cell? ⟨k.np, 4, none⟩ = some s.tv)) (by kernel_rfl) ?hS_1 (fun hHeld => ?rest_1)
 case hS_1 => ((try dsimp only); exact grantS_of H0.out.drew HAT.out)
 refine tk1 (i := 0) (by (try simp only [g1_, g2_, g3_]); exact rfl) (by kernel_rfl) (by assumption) (by kernel_rfl) (by intro w hSw; (try dsimp only at hSw); go_simp; first | done | with_reducible rfl | rfl) (by exact fun _ _ _ h => h) ?_
 try simp only [Act.put, p1_, p2_, p3_]
 refine tk1 (i := 1) (by (try simp only [g1_, g2_, g3_]); exact rfl) (by kernel_rfl) (by assumption) (by kernel_rfl) (by intro w hSw; (try dsimp only at hSw); go_simp; first | done | with_reducible rfl | rfl) (by exact fun _ _ _ h => h) ?_
 try simp only [Act.put, p1_, p2_, p3_]
 refine tk1 (i := 2) (by (try simp only [g1_, g2_, g3_]); exact rfl) (by kernel_rfl) (by assumption) (by kernel_rfl) (by intro w hSw; (try dsimp only at hSw); go_simp; first | done | with_reducible rfl | rfl) (by exact fun _ _ _ h => h) ?_
 try simp only [Act.put, p1_, p2_, p3_]
 refine tk1 (i := 3) (by (try simp only [g1_, g2_, g3_]); exact rfl) (by kernel_rfl) (by assumption) (by kernel_rfl) (by intro w hSw; (try dsimp only at hSw); go_simp; first | done | with_reducible rfl | rfl) (by exact fun _ _ _ h => h) ?_
 try simp only [Act.put, p1_, p2_, p3_]
 refine tk1 (i := 4) (by (try simp only [g1_, g2_, g3_]); exact rfl) (by kernel_rfl) (by assumption) (by kernel_rfl) (by intro w hSw; (try dsimp only at hSw); go_simp; first | done | with_reducible rfl | rfl) (by exact fun _ _ _ h => h) ?_
 try simp only [Act.put, p1_, p2_, p3_]
 refine tk1 (i := 5) (by (try simp only [g1_, g2_, g3_]); exact rfl) (by kernel_rfl) (by assumption) (by kernel_rfl) (by intro w hSw; (try dsimp only at hSw); go_simp; first | done | with_reducible rfl | rfl) (by exact fun _ _ _ h => h) ?_
 try simp only [Act.put, p1_, p2_, p3_]
 refine tk1 (i := 6) (by (try simp only [g1_, g2_, g3_]); exact rfl) (by kernel_rfl) (by assumption) (by kernel_rfl) (by intro w hSw; (try dsimp only at hSw); go_simp; first | done | with_reducible rfl | rfl) (by exact fun _ _ _ h => h) ?_
 try simp only [Act.put, p1_, p2_, p3_]
 refine tk1 (i := 7) (by (try simp only [g1_, g2_, g3_]); exact rfl) (by kernel_rfl) (by assumption) (by kernel_rfl) (by intro w hSw; (try dsimp only at hSw); go_simp; first | done | with_reducible rfl | rfl) (by exact fun _ _ _ h => h) ?_
 try simp only [Act.put, p1_, p2_, p3_]
 refine tk1 (i := 8) (by (try simp only [g1_, g2_, g3_]); exact rfl) (by kernel_rfl) (by assumption) (by kernel_rfl) (by intro w hSw; (try dsimp only at hSw); go_simp; first | done | with_reducible rfl | rfl) (by exact fun _ _ _ h => h) ?_
 try simp only [Act.put, p1_, p2_, p3_]
 refine tk1 (i := 9) (by (try simp only [g1_, g2_, g3_]); exact rfl) (by kernel_rfl) (by assumption) (by kernel_rfl) (by intro w hSw; (try dsimp only at hSw); go_simp; first | done | with_reducible rfl | rfl) (by exact fun _ _ _ h => h) ?_
 try simp only [Act.put, p1_, p2_, p3_]
 refine tk1 (i := 10) (by (try simp only [g1_, g2_, g3_]); exact rfl) (by kernel_rfl) (by assumption) (by kernel_rfl) (by intro w hSw; (try dsimp only at hSw); go_simp; first | done | with_reducible rfl | rfl) (by exact fun _ _ _ h => h) ?_
 try simp only [Act.put, p1_, p2_, p3_]
 refine tk1 (i := 11) (by (try simp only [g1_, g2_, g3_]); exact rfl) (by kernel_rfl) (by assumption) (by kernel_rfl) (by intro w hSw; (try dsimp only at hSw); go_simp; first | done | with_reducible rfl | rfl) (by exact fun _ _ _ h => h) ?_
 try simp only [Act.put, p1_, p2_, p3_]
 refine wpAnyH_ready (rs := [12]) (by kernel_rfl) (by simp) ?_
 refine AllReadyH.cons rfl (fun K hK => ?_) AllReadyH.nil
 go_simp
 refine (HA.out _ H0.out.drew).mono ?_
 rintro e w2 ⟨v2, rfl, hT, hb⟩
 have H2 := ak_ (H0.out.drew.below hb)
 have B2 := ak_ ((below_drew (Below.refl B w)).trans (hb.mono H0.out.drew.Blt))
 obtain ⟨A2, c2, rfl, _, _⟩ := hT w2 (Kept.refl _ _)
 have HT := ak_ hT
 refine hK.out _ _ (grantS_of H2.out HAT.out) (fun hHeld => ?_)
 clear hK K
 try simp only [Act.put, List.setIfInBounds_toArray, List.set_cons_zero, List.set_cons_succ]
 refine tk1 (i := 13) (by (try simp only [g1_, g2_, g3_]); exact rfl) (by kernel_rfl) (by assumption) (by kernel_rfl) (by intro w hSw; (try dsimp only at hSw); go_simp; first | done | with_reducible rfl | rfl) (by exact fun _ _ _ h => h) ?_
 try simp only [Act.put, p1_, p2_, p3_]
 refine tk1 (i := 14) (by (try simp only [g1_, g2_, g3_]); exact rfl) (by kernel_rfl) (by assumption) (by kernel_rfl) (by intro w hSw; (try dsimp only at hSw); go_simp; first | done | with_reducible rfl | rfl) (by exact fun _ _ _ h => h) ?_
 try simp only [Act.put, p1_, p2_, p3_]
 refine tk1 (i := 15) (by (try simp only [g1_, g2_, g3_]); exact rfl) (by kernel_rfl) (by assumption) (by kernel_rfl) (by intro w hSw; (try dsimp only at hSw); go_simp; first | done | with_reducible rfl | rfl) (by exact fun _ _ _ h => h) ?_
 try simp only [Act.put, p1_, p2_, p3_]
 refine tk1 (i := 16) (by (try simp only [g1_, g2_, g3_]); exact rfl) (by kernel_rfl) (by assumption) (by kernel_rfl) (by intro w hSw; (try dsimp only at hSw); go_simp; first | done | with_reducible rfl | rfl) (by exact fun _ _ _ h => h) ?_
 try simp only [Act.put, p1_, p2_, p3_]
 refine tk1 (i := 17) (by (try simp only [g1_, g2_, g3_]); exact rfl) (by kernel_rfl) (by assumption) (by kernel_rfl) (by intro w hSw; (try dsimp only at hSw); go_simp; first | done | with_reducible rfl | rfl) (by exact fun _ _ _ h => h) ?_
 try simp only [Act.put, p1_, p2_, p3_]
 refine tk1 (i := 18) (by (try simp only [g1_, g2_, g3_]); exact rfl) (by kernel_rfl) (by assumption) (by kernel_rfl) (by intro w hSw; (try dsimp only at hSw); go_simp; first | done | with_reducible rfl | rfl) (by exact fun _ _ _ h => h) ?_
 try simp only [Act.put, p1_, p2_, p3_]
 refine tk1 (i := 19) (by (try simp only [g1_, g2_, g3_]); exact rfl) (by kernel_rfl) (by assumption) (by kernel_rfl) (by intro w hSw; (try dsimp only at hSw); go_simp; first | done | with_reducible rfl | rfl) (by exact fun _ _ _ h => h) ?_
 try simp only [Act.put, p1_, p2_, p3_]
 refine wpAnyH_done (by kernel_rfl) ?_ _
 clear hHeld hb hT s0_ s4_ n4_
 have H3 := ak_ (H2.out.putTab (.slice A2 (tableOf (L.set m ys)).length c2) (tableOf (L.set m ys)) HT.out)
 have B3 := ak_ (B2.out.setCell (p := ⟨k.np, 4, none⟩) H0.out.lo_n (.slice A2 (tableOf (L.set m ys)).length c2))
 have H4 := ak_ (H3.out.putc 3 (.int .i64 15) { s.c with pc := 15 } rfl)
 have B4 := ak_ (B3.out.setCell (p := ⟨k.cp, 3, none⟩) H0.out.lo_c (.int .i64 15))
 have s0_ := H2.out.s0
 have fn4_ := H2.out.fn4
 have n4_ := H2.out.n4
 have s1_ := H2.out.s1
 have c3_ := H2.out.c3
 have fc3_ := H2.out.fc3
 have nnc := H2.out.ne_nc
 have ncn := H2.out.ne_cn
 have nns := H2.out.ne_ns
 have nsn := H2.out.ne_sn
 have nsc := H2.out.ne_sc
 have ncs := H2.out.ne_cs
 go_wp2_with (go_at_call 113; refine (must113 _).mono ?_; rintro e w3 ⟨rfl, rfl⟩)
 go_end0
 refine ⟨rfl, B4.out, _, ?_, H4.out⟩
 rw [HR.out]
 exact ⟨rfl, (set_self CX.out.mx).symm, rfl, CX.out.ov, CX.out.evs, CX.out.st, rfl, rfl, rfl, rfl, rfl, rfl⟩
theorem grant_pop {B m i j n : Nat} {k : Blk} {s : Sx} {w : World} {x : M.Mutex} {L : List M.Sem} {y : M.Sem} (h : St B k s w) (cx : Cx k s m x L y) (hq : Qx m L y) (hat : s.at_ = (m : Int)) (hwho : s.who = (i : Int)) (r : List Nat) (z : M.Client) (hn : y.line = j :: r) (hcv : s.cv = .slice (some ⟨k.cb, 0, none⟩) s.cl.length n) (hz : s.cl[j]? = some z) (hzg : z.gor = ⟨1, false⟩) (hji : j ≠ i) (hcl : s.cl.length ≤ 8) :
  Calls Tryz.prog 96 #[.pointer (some ⟨k.sp, 0, none⟩)] w (Dx B k (Rx s m L (M.grantR s.c x y)) w) := by
 have H0 := ak_ h
 have CX := ak_ cx
 have s0_ := h.s0
 have s4_ := h.s4
 have n4_ := h.n4
 rw [hat] at s4_
 have hu81 := Tryz.underlying81
 have hu53 := Tryz.underlying53
 have hu44 := Tryz.underlying44
 have hu40 := Tryz.underlying40
 have hu65 := Tryz.underlying65
 have hu24 := Tryz.underlying24
 have hu29 := Tryz.underlying29
 have hu26 := Tryz.underlying26
 have h4 := hq.m4
 have hw8 : IntKind.i64.wrap (8 * (m : Int)) = 8 * (m : Int) := by rw [IntKind.wrap_i64]; omega
 obtain ⟨ys, hys⟩ : ∃ ys : M.Sem, ys = { y with line := r } := ⟨_, rfl⟩
 have HA := ak_ (fun W (h : St B k s W) => rel_pop m j r k.hx L y s.tv W hq.m4 cx.ly (by have := h.tb; rw [cx.tab] at this; exact this) (fun q hk => h.lt_hx q hk) hq.ok hq.sp hq.l4 hn)
 rw [← hys] at HA
 have HR : Aside0 (M.grantR s.c x y = ⟨{ s.c with pc := 15 }, x, ys, false, none, some j, 0⟩) := ⟨by
  unfold M.grantR
  simp only [hys, hn]⟩
 have HAT := ak_ hat
 have HWH := ak_ hwho
 have hjl := (List.getElem?_eq_some_iff.1 hz).1
 have hjlI : (j : Int) < (s.cl.length : Int) := by omega
 have hjm : ((j : Int) == -1) = false := by simp <;> omega
 have hji2 : ((j : Int) == (i : Int)) = false := by simp <;> omega
 have HZ := ak_ hz
 have HZG := ak_ hzg
 clear h cx hys hat hwho hn hq hz hzg hji
 go_enter Tryz.func96, Tryz.ntmps96
 go_wp2
 refine wp_region_held_drew (S := (fun w' => w'.cell? ⟨k.sp, 0, none⟩ = some (.pointer (some ⟨k.np, 0, none⟩)) ∧ w'.cell? ⟨k.sp, 4, none⟩ = some (.int .i64 m) ∧ w'.cell? ⟨k.np, 4, none⟩ = some s.tv)) (by kernel_rfl) ?hS_22 (fun hHeld => ?rest_22)
 case hS_22 => ((try dsimp only); exact grantS_of H0.out.drew HAT.out)
 refine tk1 (i := 0) (by (try simp only [g1_, g2_, g3_]); exact rfl) (by kernel_rfl) (by assumption) (by kernel_rfl) (by intro w hSw; (try dsimp only at hSw); go_simp; first | done | with_reducible rfl | rfl) (by exact fun _ _ _ h => h) ?_
 try simp only [Act.put, p1_, p2_, p3_]
 refine tk1 (i := 1) (by (try simp only [g1_, g2_, g3_]); exact rfl) (by kernel_rfl) (by assumption) (by kernel_rfl) (by intro w hSw; (try dsimp only at hSw); go_simp; first | done | with_reducible rfl | rfl) (by exact fun _ _ _ h => h) ?_
 try simp only [Act.put, p1_, p2_, p3_]
 refine tk1 (i := 2) (by (try simp only [g1_, g2_, g3_]); exact rfl) (by kernel_rfl) (by assumption) (by kernel_rfl) (by intro w hSw; (try dsimp only at hSw); go_simp; first | done | with_reducible rfl | rfl) (by exact fun _ _ _ h => h) ?_
 try simp only [Act.put, p1_, p2_, p3_]
 refine tk1 (i := 3) (by (try simp only [g1_, g2_, g3_]); exact rfl) (by kernel_rfl) (by assumption) (by kernel_rfl) (by intro w hSw; (try dsimp only at hSw); go_simp; first | done | with_reducible rfl | rfl) (by exact fun _ _ _ h => h) ?_
 try simp only [Act.put, p1_, p2_, p3_]
 refine tk1 (i := 4) (by (try simp only [g1_, g2_, g3_]); exact rfl) (by kernel_rfl) (by assumption) (by kernel_rfl) (by intro w hSw; (try dsimp only at hSw); go_simp; first | done | with_reducible rfl | rfl) (by exact fun _ _ _ h => h) ?_
 try simp only [Act.put, p1_, p2_, p3_]
 refine tk1 (i := 5) (by (try simp only [g1_, g2_, g3_]); exact rfl) (by kernel_rfl) (by assumption) (by kernel_rfl) (by intro w hSw; (try dsimp only at hSw); go_simp; first | done | with_reducible rfl | rfl) (by exact fun _ _ _ h => h) ?_
 try simp only [Act.put, p1_, p2_, p3_]
 refine tk1 (i := 6) (by (try simp only [g1_, g2_, g3_]); exact rfl) (by kernel_rfl) (by assumption) (by kernel_rfl) (by intro w hSw; (try dsimp only at hSw); go_simp; first | done | with_reducible rfl | rfl) (by exact fun _ _ _ h => h) ?_
 try simp only [Act.put, p1_, p2_, p3_]
 refine tk1 (i := 7) (by (try simp only [g1_, g2_, g3_]); exact rfl) (by kernel_rfl) (by assumption) (by kernel_rfl) (by intro w hSw; (try dsimp only at hSw); go_simp; first | done | with_reducible rfl | rfl) (by exact fun _ _ _ h => h) ?_
 try simp only [Act.put, p1_, p2_, p3_]
 refine tk1 (i := 8) (by (try simp only [g1_, g2_, g3_]); exact rfl) (by kernel_rfl) (by assumption) (by kernel_rfl) (by intro w hSw; (try dsimp only at hSw); go_simp; first | done | with_reducible rfl | rfl) (by exact fun _ _ _ h => h) ?_
 try simp only [Act.put, p1_, p2_, p3_]
 refine tk1 (i := 9) (by (try simp only [g1_, g2_, g3_]); exact rfl) (by kernel_rfl) (by assumption) (by kernel_rfl) (by intro w hSw; (try dsimp only at hSw); go_simp; first | done | with_reducible rfl | rfl) (by exact fun _ _ _ h => h) ?_
 try simp only [Act.put, p1_, p2_, p3_]
 refine tk1 (i := 10) (by (try simp only [g1_, g2_, g3_]); exact rfl) (by kernel_rfl) (by assumption) (by kernel_rfl) (by intro w hSw; (try dsimp only at hSw); go_simp; first | done | with_reducible rfl | rfl) (by exact fun _ _ _ h => h) ?_
 try simp only [Act.put, p1_, p2_, p3_]
 refine tk1 (i := 11) (by (try simp only [g1_, g2_, g3_]); exact rfl) (by kernel_rfl) (by assumption) (by kernel_rfl) (by intro w hSw; (try dsimp only at hSw); go_simp; first | done | with_reducible rfl | rfl) (by exact fun _ _ _ h => h) ?_
 try simp only [Act.put, p1_, p2_, p3_]
 refine wpAnyH_ready (rs := [12]) (by kernel_rfl) (by simp) ?_
 refine AllReadyH.cons rfl (fun K hK => ?_) AllReadyH.nil
 go_simp
 refine (HA.out _ H0.out.drew).mono ?_
 rintro e w2 ⟨v2, rfl, hT, hb⟩
 have H2 := ak_ (H0.out.drew.below hb)
 have B2 := ak_ ((below_drew (Below.refl B w)).trans (hb.mono H0.out.drew.Blt))
 obtain ⟨A2, c2, rfl, _, _⟩ := hT w2 (Kept.refl _ _)
 have HT := ak_ hT
 refine hK.out _ _ (grantS_of H2.out HAT.out) (fun hHeld => ?_)
 clear hK K
 try simp only [Act.put, List.setIfInBounds_toArray, List.set_cons_zero, List.set_cons_succ]
 refine tk1 (i := 13) (by (try simp only [g1_, g2_, g3_]); exact rfl) (by kernel_rfl) (by assumption) (by kernel_rfl) (by intro w hSw; (try dsimp only at hSw); go_simp; first | done | with_reducible rfl | rfl) (by exact fun _ _ _ h => h) ?_
 try simp only [Act.put, p1_, p2_, p3_]
 refine tk1 (i := 14) (by (try simp only [g1_, g2_, g3_]); exact rfl) (by kernel_rfl) (by assumption) (by kernel_rfl) (by intro w hSw; (try dsimp only at hSw); go_simp; first | done | with_reducible rfl | rfl) (by exact fun _ _ _ h => h) ?_
 try simp only [Act.put, p1_, p2_, p3_]
 refine tk1 (i := 15) (by (try simp only [g1_, g2_, g3_]); exact rfl) (by kernel_rfl) (by assumption) (by kernel_rfl) (by intro w hSw; (try dsimp only at hSw); go_simp; first | done | with_reducible rfl | rfl) (by exact fun _ _ _ h => h) ?_
 try simp only [Act.put, p1_, p2_, p3_]
 refine tk1 (i := 16) (by (try simp only [g1_, g2_, g3_]); exact rfl) (by kernel_rfl) (by assumption) (by kernel_rfl) (by intro w hSw; (try dsimp only at hSw); go_simp; first | done | with_reducible rfl | rfl) (by exact fun _ _ _ h => h) ?_
 try simp only [Act.put, p1_, p2_, p3_]
 refine tk1 (i := 17) (by (try simp only [g1_, g2_, g3_]); exact rfl) (by kernel_rfl) (by assumption) (by kernel_rfl) (by intro w hSw; (try dsimp only at hSw); go_simp; first | done | with_reducible rfl | rfl) (by exact fun _ _ _ h => h) ?_
 try simp only [Act.put, p1_, p2_, p3_]
 refine tk1 (i := 18) (by (try simp only [g1_, g2_, g3_]); exact rfl) (by kernel_rfl) (by assumption) (by kernel_rfl) (by intro w hSw; (try dsimp only at hSw); go_simp; first | done | with_reducible rfl | rfl) (by exact fun _ _ _ h => h) ?_
 try simp only [Act.put, p1_, p2_, p3_]
 refine tk1 (i := 19) (by (try simp only [g1_, g2_, g3_]); exact rfl) (by kernel_rfl) (by assumption) (by kernel_rfl) (by intro w hSw; (try dsimp only at hSw); go_simp; first | done | with_reducible rfl | rfl) (by exact fun _ _ _ h => h) ?_
 try simp only [Act.put, p1_, p2_, p3_]
 refine wpAnyH_done (by kernel_rfl) ?_ _
 clear hHeld hb hT s0_ s4_ n4_
 have H3 := ak_ (H2.out.putTab (.slice A2 (tableOf (L.set m ys)).length c2) (tableOf (L.set m ys)) HT.out)
 have B3 := ak_ (B2.out.setCell (p := ⟨k.np, 4, none⟩) H0.out.lo_n (.slice A2 (tableOf (L.set m ys)).length c2))
 have H4 := ak_ (H3.out.putc 3 (.int .i64 15) { s.c with pc := 15 } rfl)
 have B4 := ak_ (B3.out.setCell (p := ⟨k.cp, 3, none⟩) H0.out.lo_c (.int .i64 15))
 have s0_ := H2.out.s0
 have fn4_ := H2.out.fn4
 have n4_ := H2.out.n4
 have s1_ := H2.out.s1
 have c3_ := H2.out.c3
 have fc3_ := H2.out.fc3
 have nnc := H2.out.ne_nc
 have ncn := H2.out.ne_cn
 have nns := H2.out.ne_ns
 have nsn := H2.out.ne_sn
 have nsc := H2.out.ne_sc
 have ncs := H2.out.ne_cs
 have n2_ := H2.out.n2
 rw [hcv] at n2_
 have s3_ := H2.out.s3
 rw [HWH.out] at s3_
 have g0_ : w2.cell? ⟨k.cb, j * 13, none⟩ = some (.int .i64 1) := by have := H2.out.lcell HZ.out 0 (u := .int .i64 z.gor.state) rfl; rw [HZG.out] at this; exact this
 have g1_ : w2.cell? ⟨k.cb, j * 13 + 1, none⟩ = some (.bool false) := by have := H2.out.lcell HZ.out 1 (u := .bool z.gor.permit) rfl; rw [HZG.out] at this; exact this
 have ncl := H2.out.ne_cl
 have nnl := H2.out.ne_nl
 have nlc := H2.out.ne_lc
 have nln := H2.out.ne_ln
 obtain ⟨W4, hW4⟩ : ∃ W4, W4 = (w2.setCell ⟨k.np, 4, none⟩ (.slice A2 (tableOf (L.set m ys)).length c2)).setCell ⟨k.cp, 3, none⟩ (.int .i64 15) := ⟨_, rfl⟩
 have hz4 : W4.heap.size = w2.heap.size := by rw [hW4]; simp
 have HG : Aside0 (kGor.C (W4.alloc (.cells #[.int .i64 1, .bool false] 40)) (some ⟨w2.heap.size, 0, none⟩) 1 [⟨1, false⟩]) := ⟨by
  have := gor_fresh ⟨1, false⟩ W4
  rw [hz4] at this
  exact this⟩
 have HP := ak_ (ready1 (some ⟨w2.heap.size, 0, none⟩) 1 (W4.alloc (.cells #[.int .i64 1, .bool false] 40)) HG.out)
 rw [← hW4] at H4 B4
 rw [hW4] at HP
 have HW4 := ak_ hW4
 clear hW4 hz4 HG
 have hrfl : ∀ w : World, Calls Tryz.prog 113 #[.int .i64 0] w fun e w' => e = .returned (.tuple #[]) ∧ w = w' := fun w => (must113 w).mono (fun e w' h => ⟨h.1, h.2.symm⟩)
 go_wp2_with (go_at_call 113; refine (hrfl _).mono ?_; rintro e w3 ⟨rfl, rfl⟩)
 refine HP.out.mono ?_
 rintro e w5 ⟨v5, rfl, hS, hb⟩
 rw [← HW4.out] at hb
 have H5 := ak_ ((H4.out.alloc (.cells #[.int .i64 1, .bool false] 40)).below hb)
 have B5 := ak_ ((B4.out.alloc H4.out.Blt (.cells #[.int .i64 1, .bool false] 40)).trans (hb.mono (H4.out.alloc _).Blt))
 obtain ⟨A5, n5, rfl, _, hC⟩ := hS
 obtain ⟨ad, rfl, g0, gj⟩ := flat_cells hC 0 _ rfl
 have y0 := g0 _ rfl
 have y1 := gj 1 _ (by decide) rfl
 have e0 : ad.add (0 * 2) = ad := rfl
 rw [e0] at y0 y1
 clear hb hC g0 gj e0 g0_ g1_ s0_ fn4_ n4_ s1_ c3_ fc3_ n2_ s3_ HP HW4
 have g0_ : w5.cell? ⟨k.cb, j * 13, none⟩ = some (.int .i64 z.gor.state) := H5.out.lcell HZ.out 0 rfl
 have g1_ := H5.out.lcell HZ.out 1 rfl
 have fg0_ := H5.out.lfrozen (j * 13)
 have fg1_ := H5.out.lfrozen (j * 13 + 1)
 go_wp2_with (go_at_call 113; refine (hrfl _).mono ?_; rintro e w3 ⟨rfl, rfl⟩)
 go_end0
 refine ⟨rfl, (B5.out.setCell (p := ⟨k.cb, j * 13, none⟩) H0.out.lo_l _).setCell (p := ⟨k.cb, j * 13 + 1, none⟩) H0.out.lo_l _, _, ?_, (H5.out.putl j z { z with gor := { z.gor with state := 0 } } HZ.out 0 (by omega) (.int .i64 0) rfl).putl j _ { z with gor := ⟨0, false⟩ } (set_at_same HZ.out) 1 (by omega) (.bool false) rfl⟩
 rw [HR.out]
 exact ⟨rfl, (set_self CX.out.mx).symm, rfl, CX.out.ov, CX.out.evs, CX.out.st, by show (s.cl.set j _).set j _ = _; rw [set_twice]; show _ = wakeOf s.cl (some j); unfold wakeOf; simp only [HZ.out], rfl, rfl, rfl, rfl, rfl⟩
theorem work55 {B : Nat} {k : Blk} {s : Sx} {w : World} (h : St B k s w) (n : Int) (hov : s.over = false) (hwk : 0 ≤ s.c.worked ∧ s.c.worked ≤ 1000000000) :
  Calls Tryz.prog 55 #[.pointer (some ⟨k.sp, 0, none⟩), .int .i64 n] w (Dx B k (fun s' => s' = { s with c := { s.c with worked := s.c.worked + 1 }, over := decide (n ≤ s.c.worked + 1) }) w) := by
 have H0 := ak_ h
 have OV := ak_ hov
 have s1_ := h.s1
 have c4_ := h.c4
 have fc4_ := h.fc4
 have hu81 := Tryz.underlying81
 have hu44 := Tryz.underlying44
 have hw1 : wrap64 (s.c.worked + 1) = s.c.worked + 1 := by unfold wrap64; omega
 have H1 := ak_ (h.putc 4 (.int .i64 (s.c.worked + 1)) { s.c with worked := s.c.worked + 1 } rfl)
 have B1 := ak_ ((Below.refl B w).setCell (p := ⟨k.cp, 4, none⟩) h.lo_c (.int .i64 (s.c.worked + 1)))
 have nsc := h.ne_sc
 clear h hov
 by_cases hn : n ≤ s.c.worked + 1
 ·rw [decide_eq_true hn]
  go_enter Tryz.func55, Tryz.ntmps55
  go_wp2_with (go_at_call 81; refine (end81 H1.out).mono ?_; rintro e w4 ⟨rfl, hb, s4, rfl, h4⟩; have H4 := ak_ h4; have B4 := ak_ (B1.out.trans hb); clear h4 hb)
  go_end0
  exact ⟨rfl, B4.out, _, rfl, H4.out⟩
 ·rw [decide_eq_false hn]
  go_enter Tryz.func55, Tryz.ntmps55
  go_wp2
  go_end0
  refine ⟨rfl, B1.out, _, ?_, H1.out⟩
  rw [← OV.out]
theorem isW_two (a : Int) (h : isW a = true) (h2 : a / 2 % 2 = 0) : isW (a + 2) = true := by
 have h01 : 0 ≤ a ∧ a / 8 ≤ 268435455 := by simpa [isW] using h
 unfold isW
 apply decide_eq_true
 omega
theorem round118 {B m : Nat} {k : Blk} {s : Sx} {w : World} {x : M.Mutex} {L : List M.Sem} {y : M.Sem} (h : St B k s w) (cx : Cx k s m x L y) (ho : OkOwn s.c.own.since s.c.own.rounds s.c.own.old) (hw : isW x.word = true) :
  Calls Tryz.prog 118 #[.pointer (some ⟨k.sp, 0, none⟩)] w (Dx B k (Rx s m L (M.roundR s.c x y)) w) := by
 have H0 := ak_ h
 have CX := ak_ cx
 have s1_ := h.s1
 have c8_ := h.c8
 have c9_ := h.c9
 have c10_ := h.c10
 have c11_ := h.c11
 have c12_ := h.c12
 have hu81 := Tryz.underlying81
 have hu53 := Tryz.underlying53
 have hu44 := Tryz.underlying44
 have hu42 := Tryz.underlying42
 have hr01 := And.intro ho.r0 ho.r1
 have hw1 : wrap64 (s.c.own.rounds + 1) = s.c.own.rounds + 1 := by unfold wrap64; omega
 have HU := ak_ (wakes_yes s.c.own.since s.c.own.starving s.c.own.awake s.c.own.rounds s.c.own.old w ho)
 rw [bit_wk] at HU
 obtain ⟨q, hq⟩ : ∃ q, q = (!s.c.own.awake && !M.wk s.c.own.old && decide (0 < s.c.own.old / 8)) := ⟨_, rfl⟩
 rw [← hq] at HU
 have HS := ak_ (fun w (h : St B k s w) => same120 h m x CX.out.mp CX.out.mx)
 clear h cx ho
 by_cases hall : q = true ∧ x.word = s.c.own.old
 ·obtain ⟨rfl, hxo⟩ := hall
  have hwk : M.wk s.c.own.old = false := by
   have := hq.symm
   simp at this
   exact this.1.2
  have hb2 : x.word / 2 % 2 = 0 := by rw [hxo]; unfold M.wk at hwk; simp at hwk; omega
  have h2 := or_two x.word hw hb2
  have HW := ak_ (isW_two x.word hw hb2)
  have hne : (x.word == s.c.own.old) = true := by simp [hxo]
  rw [hne] at HS
  have HR : Aside0 (M.roundR s.c x y = ⟨{ s.c with own := { s.c.own with awake := true, rounds := s.c.own.rounds + 1 }, pc := 1 }, { x with word := x.word + 2 }, y, false, none, none, 0⟩) := ⟨by
   unfold M.roundR
   rw [← hq, decide_eq_true hxo]
   rfl⟩
  clear hq hwk hb2 hne hxo hw
  go_enter Tryz.func118, Tryz.ntmps118
  go_wp2_with fail
  refine HU.out.mono ?_
  rintro e w1 ⟨rfl, hb⟩
  have H1 := ak_ (H0.out.below hb)
  have B1 := ak_ (hb.mono H0.out.Blt)
  clear hb s1_ c8_ c9_ c10_ c11_ c12_
  go_wp2_with (first | (go_at_call 113; refine (must113 _).mono ?_; rintro e w3 ⟨rfl, rfl⟩) | (go_at_call 120; refine (HS.out _ H1.out).mono ?_; rintro e w2 ⟨rfl, hb⟩; have H2 := ak_ (H1.out.below hb); have B2 := ak_ (B1.out.trans (hb.mono H1.out.Blt)); have mp_ := H2.out.mp_ CX.out.mp; have m0_ := H2.out.m0 CX.out.mx; clear hb) | (go_at_call 111; refine (put111 H2.out m x CX.out.mp CX.out.mx (x.word + 2) HW.out).mono ?_; rintro e w3 ⟨rfl, hb, s3, rfl, h3⟩; have H3 := ak_ h3; have B3 := ak_ (B2.out.trans hb); have s1_ := H3.out.s1; have c3_ := H3.out.c3; have fc3_ := H3.out.fc3; have c10_ := H3.out.c10; have fc10_ := H3.out.fc10; have c11_ := H3.out.c11; have fc11_ := H3.out.fc11; have nsc := H3.out.ne_sc; clear h3 hb))
  go_end0
  refine ⟨rfl, ((B3.out.setCell (p := ⟨k.cp, 10, none⟩) H0.out.lo_c _).setCell (p := ⟨k.cp, 11, none⟩) H0.out.lo_c _).setCell (p := ⟨k.cp, 3, none⟩) H0.out.lo_c _, _, ?_, ((H3.out.putc 10 (.bool true) { s.c with own := { s.c.own with awake := true } } rfl).putc 11 (.int .i64 (s.c.own.rounds + 1)) { s.c with own := { s.c.own with awake := true, rounds := s.c.own.rounds + 1 } } rfl).putc 3 (.int .i64 1) { s.c with own := { s.c.own with awake := true, rounds := s.c.own.rounds + 1 }, pc := 1 } rfl⟩
  rw [HR.out]
  exact ⟨rfl, rfl, CX.out.tabS, CX.out.ov, CX.out.evs, CX.out.st, rfl, rfl, rfl, rfl, rfl, rfl⟩
 ·have HR : Aside0 (M.roundR s.c x y = ⟨{ s.c with own := { s.c.own with rounds := s.c.own.rounds + 1 }, pc := 1 }, x, y, false, none, none, 0⟩) := ⟨by
   unfold M.roundR
   rw [← hq, if_neg]
   intro hc
   simp only [Bool.and_eq_true, decide_eq_true_eq] at hc
   exact hall hc⟩
  have hcase : q = false ∨ (q = true ∧ (x.word == s.c.own.old) = false) := by
   cases q with
   | false => exact .inl rfl
   | true => exact .inr ⟨rfl, by simp; exact fun e => hall ⟨rfl, e⟩⟩
  clear hall hq hw
  rcases hcase with rfl | ⟨rfl, hne⟩
  ·go_enter Tryz.func118, Tryz.ntmps118
   go_wp2_with fail
   refine HU.out.mono ?_
   rintro e w1 ⟨rfl, hb⟩
   have H1 := ak_ (H0.out.below hb)
   have B1 := ak_ (hb.mono H0.out.Blt)
   clear hb s1_ c8_ c9_ c10_ c11_ c12_
   have s1_ := H1.out.s1
   have c3_ := H1.out.c3
   have fc3_ := H1.out.fc3
   have c11_ := H1.out.c11
   have fc11_ := H1.out.fc11
   have nsc := H1.out.ne_sc
   go_wp2_with (go_at_call 113; refine (must113 _).mono ?_; rintro e w3 ⟨rfl, rfl⟩)
   go_end0
   refine ⟨rfl, (B1.out.setCell (p := ⟨k.cp, 11, none⟩) H0.out.lo_c _).setCell (p := ⟨k.cp, 3, none⟩) H0.out.lo_c _, _, ?_, (H1.out.putc 11 (.int .i64 (s.c.own.rounds + 1)) { s.c with own := { s.c.own with rounds := s.c.own.rounds + 1 } } rfl).putc 3 (.int .i64 1) { s.c with own := { s.c.own with rounds := s.c.own.rounds + 1 }, pc := 1 } rfl⟩
   rw [HR.out]
   exact ⟨rfl, (set_self CX.out.mx).symm, CX.out.tabS, CX.out.ov, CX.out.evs, CX.out.st, rfl, rfl, rfl, rfl, rfl, rfl⟩
  ·rw [hne] at HS
   clear hne
   go_enter Tryz.func118, Tryz.ntmps118
   go_wp2_with fail
   refine HU.out.mono ?_
   rintro e w1 ⟨rfl, hb⟩
   have H1 := ak_ (H0.out.below hb)
   have B1 := ak_ (hb.mono H0.out.Blt)
   clear hb s1_ c8_ c9_ c10_ c11_ c12_
   go_wp2_with (first | (go_at_call 113; refine (must113 _).mono ?_; rintro e w3 ⟨rfl, rfl⟩) | (go_at_call 120; refine (HS.out _ H1.out).mono ?_; rintro e w2 ⟨rfl, hb⟩; have H2 := ak_ (H1.out.below hb); have B2 := ak_ (B1.out.trans (hb.mono H1.out.Blt)); have s1_ := H2.out.s1; have c3_ := H2.out.c3; have fc3_ := H2.out.fc3; have c11_ := H2.out.c11; have fc11_ := H2.out.fc11; have nsc := H2.out.ne_sc; clear hb))
   go_end0
   refine ⟨rfl, (B2.out.setCell (p := ⟨k.cp, 11, none⟩) H0.out.lo_c _).setCell (p := ⟨k.cp, 3, none⟩) H0.out.lo_c _, _, ?_, (H2.out.putc 11 (.int .i64 (s.c.own.rounds + 1)) { s.c with own := { s.c.own with rounds := s.c.own.rounds + 1 } } rfl).putc 3 (.int .i64 1) { s.c with own := { s.c.own with rounds := s.c.own.rounds + 1 }, pc := 1 } rfl⟩
   rw [HR.out]
   exact ⟨rfl, (set_self CX.out.mx).symm, CX.out.tabS, CX.out.ov, CX.out.evs, CX.out.st, rfl, rfl, rfl, rfl, rfl, rfl⟩
end Go.Proofs.YtoimfknjfeencaaGreatDoor.Hand
end
