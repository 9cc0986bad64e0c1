/- Part of the walk of a law of the top, and what it leans on (TopC, Open). No conditions beyond those that each lemma names. -/
import Derived.Test.YtoimfknjfeencaaGreatDoorZ08
import Derived.Test.YtoimfknjfeencaaGreatDoorC28
import Derived.Test.YtoimfknjfeencaaGreatDoorZ04
import Derived.Below
import Derived.ChangeSame
import Derived.Deep.Fields
import Derived.Deep.Slices
import Derived.ProofKit
set_option linter.unusedVariables false
set_option linter.unusedSimpArgs false
set_option maxHeartbeats 8000000
set_option maxRecDepth 100000
section
namespace Go.Proofs.YtoimfknjfeencaaGreatDoor.Hand
open Go Go.RowKit Go.Proofs.YtoimfknjfeencaaGreatDoorW.PrintWords Go.Proofs.YtoimfknjfeencaaGreatDoorW.PrintLast Go.Proofs.YtoimfknjfeencaaGreatDoorW.PrintMore
theorem counts_top (A0 : Option Addr) (c0 : Nat) (l : List (List S49)) (As : Option Addr) (cs : Nat) (zs : List Int) (w : World) (hL : Laid w)
  (hC : Kd.C (Kd.slice 49 k49) w A0 l.length l) (hc : l.length ≤ c0) (hp : ∀ p ∈ l, p.length ≤ 9223372036854775807) (hCz : (Kd.int .i64).C w As zs.length zs) (hcz : zs.length ≤ cs) (hwf : ∀ z ∈ zs, -9223372036854775808 ≤ z ∧ z ≤ 9223372036854775807) :
  Calls Tryz.prog 3 #[.slice A0 l.length c0, .slice As zs.length cs] w (TrueOk w) := by
 have P1 := ak_ (few6 A0 c0 l w hc (Kd.F_mono (Kd.C_F heap49 hC) (fun _ _ => trivial)) hp)
 have HL := ak_ hL
 have HCZ := ak_ hCz
 have HWF := ak_ hwf
 have hu := Tryz.underlying29
 have hu44 := Tryz.underlying44
 have hu40 := Tryz.underlying40
 have hu49 := Tryz.underlying49
 have hu38 := Tryz.underlying38
 have hu53 := Tryz.underlying53
 have hu51 := Tryz.underlying51
 have hu56 := Tryz.underlying56
 clear hL hC hc hp hCz hwf
 go_enter Tryz.func3, Tryz.ntmps3
 go_wp2_with fail
 refine P1.out.mono ?_
 rintro e w1 ⟨A1, c1, rfl, hl1, hF1, hb1⟩
 obtain ⟨L, hLe⟩ : ∃ L, L = fewOf l := ⟨_, rfl⟩
 rw [← hLe] at hl1 hF1 ⊢
 have HB1 := ak_ (bel3 (Below.refl _ w) hb1)
 have hCA : ∀ W, Kept w1 W (fun _ => False) → (Kd.slice 49 kAct).C W A1 L.length (actsOf L) := fun W hk => CC_of (Kd.F_now (Kd.F_kept hF1 hk (fun _ _ q => q)))
 have e1 : L.length = (actsOf L).length := (actsOf_len L).symm
 obtain ⟨LA, hLA⟩ : ∃ LA, LA = actsOf L := ⟨_, rfl⟩
 rw [e1, ← hLA] at hl1
 rw [← hLA, e1, ← hLA] at hCA
 have hLg : L.length = LA.length := by rw [hLA]; exact e1
 rw [hLg]
 clear hLA hLg e1 hLe hF1 P1 hb1
 by_cases hok : okPs (LA.map (·.map toS)) = true
 ·have P2 := ak_ (new_ok A1 c1 LA w1 (fun _ => False) hCA (fun b q => q.elim) hl1 (okPs_to hok).1 hok)
  have G0 := ak_ (good_new hok)
  clear hCA hok hl1
  go_wp2_with fail
  refine P2.out.mono ?_
  rintro e w2 ⟨v, rfl, ⟨Ap, Ac, Am, At, cp, cc, cm, ct, rfl, hp⟩, hb2⟩
  obtain ⟨x, hx⟩ : ∃ x, x = M.new LA := ⟨_, rfl⟩
  rw [← hx] at hp G0 ⊢
  have HB2 := ak_ (bel3 HB1.out hb2)
  have HSZ := ak_ HB2.out.size
  have HV3 := ak_ (blk_new w2 (wO x Ap Ac Am At cp cc cm ct))
  have HB3 := ak_ (bel2 HB2.out (wO x Ap Ac Am At cp cc cm ct))
  have HP3 := ak_ (fun W (hk : Kept (w2.alloc (wO x Ap Ac Am At cp cc cm ct)) W (fun q => q = w2.heap.size)) => hp W (((Kept.refl w2 (fun _ => False)).alloc (wO x Ap Ac Am At cp cc cm ct)).then_ hk (fun b q => .inr (by omega))))
  have P3 := ak_ (short8 As cs zs 800 (w2.alloc (wO x Ap Ac Am At cp cc cm ct)) (Kd.C_below HCZ.out HB3.out) hcz (by decide))
  have hlen3 := shortOf_len zs 800
  obtain ⟨xs, hxs⟩ : ∃ xs, xs = shortOf zs 800 := ⟨_, rfl⟩
  rw [← hxs] at P3 hlen3
  have h800 : xs.length ≤ 800 := by omega
  clear hlen3 hxs hp hb2 P2 HB1 HB2 hx HCZ HWF hcz
  unfold wv
  go_wp2_with fail
  generalize w2.alloc (wO x Ap Ac Am At cp cc cm ct) = W3 at *
  refine P3.out.mono ?_
  rintro e w4 ⟨v4, rfl, hR4, hb4⟩
  obtain ⟨A4, c4, rfl, hl4, hC4⟩ := Kd.R_reads hR4
  have HB4 := ak_ (bel3 HB3.out hb4)
  have HV4 := ak_ (blk_below HV3.out hb4)
  have HP4 := ak_ (fun W (hk : Kept w4 W (fun q => q = w2.heap.size)) => HP3.out W ((Kept.of_below hb4 (fun q => q = w2.heap.size)).then_ hk (fun _ q => .inl q)))
  have HR4 := ak_ hR4
  have GX := ak_ G0.out
  clear hR4 hC4 hb4 P3 HB3 HV3 HP3 G0 hl4
  go_wp2_with fail
  go_loopg [41] xs.length (fun g v41 wx => Aside0 (Below w.heap.size w wx) ∧ ∃ i : Nat, i + g = xs.length ∧ v41 = .int .i64 i ∧ (∃ (y : M.W) (Ap Ac Am At : Option Addr) (cp cc cm ct : Nat), Aside0 (M.Good y) ∧ Aside0 (wx.heap[w2.heap.size]? = some (.cells (wcs y Ap Ac Am At cp cc cm ct) 29 (0, 0))) ∧ Aside0 (∀ W, Kept wx W (fun q => q = w2.heap.size) → WP W y Ap Ac Am At cp cc cm ct)) ∧ Aside0 (Kd.R (Kd.int .i64) 3 wx W3.heap.size (fun _ => True) (.slice A4 xs.length c4) xs))
  case atStart => exact ⟨HB4, 0, by omega, rfl, ⟨x, Ap, Ac, Am, At, cp, cc, cm, ct, GX, HV4, HP4⟩, HR4⟩
  case round =>
   clear HB4 HV4 HP4 HR4 GX
   obtain ⟨HB, i, hig, rfl, ⟨y, Ap', Ac', Am', At', cp', cc', cm', ct', GY, HV, HP⟩, HR⟩ := hrel
   cases gk with
   | zero =>
    have hi : i = xs.length := by omega
    have hnot : ¬ ((i : Int) < (xs.length : Int)) := by omega
    have P9 := ak_ (alive7 wr (HL.out.below (Below.mono HB.out (Nat.le_refl _))))
    subst hi
    go_wp2_with fail
    refine P9.out.mono ?_
    rintro e w9 ⟨rfl, hb9⟩
    have HB9 := ak_ (bel3 HB.out hb9)
    clear hb9 P9
    go_wp2
    go_ret
    exact ⟨rfl, HB9.out⟩
   | succ go =>
    have hlt : i < xs.length := by omega
    obtain ⟨zz, hzz⟩ : ∃ zz, xs[i]? = some zz := ⟨_, List.getElem?_eq_getElem hlt⟩
    have hil : (i : Int) < (xs.length : Int) := by omega
    obtain ⟨A5, c5, he5, _, hC5⟩ := Kd.R_reads HR.out
    cases he5
    obtain ⟨ad, hea, y0⟩ := int_cells hC5 i zz hzz
    cases hea
    clear hC5 hzz
    by_cases hneg : zz < 0
    ·go_wp2
     go_roundg go
     case rel => exact ⟨HB, i + 1, by omega, by go_num, ⟨y, Ap', Ac', Am', At', cp', cc', cm', ct', GY, HV, HP⟩, HR⟩
     case measure => omega
    ·unfold wcs at HV
     obtain ⟨v0, v1, v2, v3, v4, v5, _⟩ := box_cells HV.out
     have PS := ak_ (fun (who : Int) => step9 y GY.out (wv y Ap' Ac' Am' At' cp' cc' cm' ct') wr (fun q => q = w2.heap.size) (fun b q => by have := blk_lt HV.out; omega) ⟨Ap', Ac', Am', At', cp', cc', cm', ct', rfl, HP.out⟩ who)
     unfold wv at PS
     go_upto_region 9 with fail
     refine (PS.out _).mono ?_
     rintro e w5 ⟨a0, a1, a2, a3, a4, a5, ve, rfl, hb5, ⟨Ap2, Ac2, Am2, At2, cp2, cc2, cm2, ct2, e7, hP7⟩, hev⟩
     obtain ⟨Ae, ce, rfl, _, _⟩ := hev w5 (Kept.refl _ _)
     obtain ⟨rfl, rfl, rfl, rfl, rfl, rfl⟩ := wv_inj e7
     obtain ⟨y2, hy2⟩ : ∃ y2, y2 = (M.step y (zz % 9)).1 := ⟨_, rfl⟩
     have G2 := ak_ (show M.Good y2 by rw [hy2]; exact GY.out.step _)
     rw [← hy2] at hP7 ⊢
     have HM2 := ak_ G2.out.mu
     obtain ⟨hPz, hBz, hVz, hRz, hV6⟩ := world_put hb5 HB.out HSZ.out HV.out HR.out hP7
     obtain ⟨W6, hW6⟩ : ∃ W, W = pW (w5.alloc (wO y2 Ap2 Ac2 Am2 At2 cp2 cc2 cm2 ct2)) w2.heap.size y2 Ap2 Ac2 Am2 At2 cp2 cc2 cm2 ct2 := ⟨_, rfl⟩
     rw [← hW6] at hPz hBz hVz hRz
     have HPz := ak_ hPz
     have HBz := ak_ hBz
     have HVz := ak_ hVz
     have HRz := ak_ hRz
     have HW6 := ak_ hW6
     clear e7 hy2 hP7 hb5 hev PS v0 v1 v2 v3 v4 v5 HB HV HP HR GY y0 hPz hBz hVz hRz hW6
     obtain ⟨v0, v1, v2, v3, v4, v5, fv0, fv1, fv2, fv3, fv4, fv5⟩ := box_cells hV6
     clear hV6
     have hb1 : ((y2.cl.length : Int) != (y2.cl.length : Int)) = false := by simp
     have hb2 : ((y2.mu.length : Int) != 4) = false := by rw [HM2.out]; rfl
     go_upto_region 12 with fail
     clear hb1 hb2 v0 v1 v2 v3 v4 v5 fv0 fv1 fv2 fv3 fv4 fv5
     have hW6 := HW6.out
     unfold pW at hW6
     rw [← hW6]
     clear hW6 HW6
     have b5 : W6.cell? ⟨w2.heap.size, 5, none⟩ = some (.int .i64 y2.stop) := blk_cell HVz.out 5
     by_cases hst : y2.stop = 0
     ·have hsb : (y2.stop != 0) = false := by simp [hst]
      clear hst
      go_upto_region 14 with fail
      clear hsb b5
      have HPW := ak_ (HPz.out W6 (Kept.refl _ _))
      have HO7 := ak_ (blk_alloc (blk_new W6 zO) zO)
      have hL7 := blk_new (W6.alloc zO) zO
      rw [World.size_alloc] at hL7
      have HL7 := ak_ hL7
      have HB7 := ak_ (bel2 (bel2 (Below.refl _ W6) zO) zO)
      clear hL7
      go_upto_region 15 with fail
      generalize (W6.alloc zO).alloc zO = W7 at *
      have b2 : W7.cell? ⟨w2.heap.size, 2, none⟩ = some (.slice Ac2 y2.cl.length cc2) := blk_cell (HB7.out.block _ (blk_lt HVz.out) ▸ HVz.out) 2
      go_wp2_with fail
      clear b2
      go_loopg [80] y2.cl.length (fun g v80 wx => Aside0 (Below W6.heap.size W6 wx) ∧ ∃ k : Nat, k + g = y2.cl.length ∧ v80 = .int .i64 k ∧ Aside0 (wx.heap[W6.heap.size]? = some (.cells (arr4 (outs y2.cl k)) 38 (0, 0))) ∧ Aside0 (wx.heap[W6.heap.size + 1]? = some (.cells (arr4 (lins y2.cl k)) 38 (0, 0))))
      case atStart => exact ⟨HB7, 0, by omega, rfl, HO7, HL7⟩
      case round =>
       clear HB7 HO7 HL7
       obtain ⟨HBi, k, hkg, rfl, HO, HLn⟩ := hrel
       cases gk with
       | zero =>
        as_aux_lemma =>
         have hk : k = y2.cl.length := by omega
         have hnotk : ¬ ((k : Int) < (y2.cl.length : Int)) := by omega
         subst hk
         have b3 : wr.cell? ⟨w2.heap.size, 3, none⟩ = some (.slice Am2 y2.mu.length cm2) := blk_cell (blk_below HVz.out HBi.out) 3
         generalize wr = W8 at *
         go_wp2_with fail
         clear b3 hnotk hkg
         go_loopg [198] y2.mu.length (fun g v198 wx => Aside0 (Below W8.heap.size W8 wx) ∧ ∃ m : Nat, m + g = y2.mu.length ∧ v198 = .int .i64 m)
         case atStart => exact ⟨⟨Below.refl _ _⟩, 0, by omega, rfl⟩
         case round =>
          obtain ⟨HBm, m, hmg, rfl⟩ := hrel
          have HBe := ak_ (bel3 HBi.out HBm.out)
          cases gk with
          | zero =>
           have hm : m = y2.mu.length := by omega
           have hnotm : ¬ ((m : Int) < (y2.mu.length : Int)) := by omega
           clear hm
           go_wp2
           go_roundg go
           case rel => exact ⟨⟨bel3 HBz.out HBe.out⟩, i + 1, by omega, by go_num, ⟨y2, Ap2, Ac2, Am2, At2, cp2, cc2, cm2, ct2, G2, ⟨blk_below HVz.out HBe.out⟩, ⟨fun W hk => HPz.out W ((Kept.of_below HBe.out (fun q => q = w2.heap.size)).then_ hk (fun _ q => .inl q))⟩⟩, ⟨Kd.R_below HRz.out HBe.out⟩⟩
           case measure => omega
          | succ gm =>
           as_aux_lemma =>
            have hlm : m < y2.mu.length := by omega
            obtain ⟨mu, hmu⟩ : ∃ mu, y2.mu[m]? = some mu := ⟨_, List.getElem?_eq_getElem hlm⟩
            have hilm : (m : Int) < (y2.mu.length : Int) := by omega
            have hm4 : m < 4 := by rw [HM2.out] at hlm; exact hlm
            obtain ⟨adm, hem, q0, yj⟩ := flat_below HPW.out.m HBe.out m mu hmu
            cases hem
            have q0 := q0 _ rfl
            have q1 := yj 1 _ (by decide) rfl
            have q2 := yj 2 _ (by decide) rfl
            clear yj
            obtain ⟨hw, hn, hs⟩ := mu_ok G2.out mu (List.mem_of_getElem? hmu)
            have PO := ak_ (fun W => spin_Out.calls mu.line.next mu.line.serve _ 0 W (out_yes hn hs))
            have PU := ak_ (fun W => unpack_yes mu.word W hw)
            have HOA := ak_ (outs_all G2.out hm4 hmu)
            have HLA := ak_ (lins_all G2.out hm4 hmu)
            have HW4 := ak_ hw
            have HMB := ak_ (blk_new wr (mO mu))
            clear hmu hw hn hs
            go_wp2_with fail
            refine (PO.out _).mono ?_
            rintro e w10 ⟨rfl, hb10⟩
            have m0 : w10.cell? ⟨wr.heap.size, 0, none⟩ = some (.int .i64 mu.word) := blk_cell (blk_below HMB.out hb10) 0
            have HB10 := ak_ (bel3 (bel2 HBm.out (mO mu)) hb10)
            clear hb10 q0 q1 q2
            go_wp2_with fail
            refine (PU.out _).mono ?_
            rintro e w11 ⟨rfl, hb11⟩
            have HB11 := ak_ (bel2 (bel3 HB10.out hb11) (fO mu.word))
            have o0 : (w11.alloc (fO mu.word)).cell? ⟨W6.heap.size, m, none⟩ = some (.int .i64 (outs y2.cl y2.cl.length m)) := arr4_cell (blk_below HO.out HB11.out) hm4
            have o1 : (w11.alloc (fO mu.word)).cell? ⟨W6.heap.size + 1, m, none⟩ = some (.int .i64 (lins y2.cl y2.cl.length m)) := arr4_cell (blk_below HLn.out HB11.out) hm4
            have hm4i : (m : Int) < 4 := by omega
            have hc1 : ((mu.line.next - mu.line.serve) % 4294967296 != outs y2.cl y2.cl.length m) = false := by rw [HOA.out]; simp
            have hc3 : IntKind.i64.wrap (mu.word / 8 + 1) = mu.word / 8 + 1 := by
             have := HW4.out
             simp [isW] at this
             rw [IntKind.wrap_i64]
             omega
            have hc2 : decide (mu.word / 8 + 1 < lins y2.cl y2.cl.length m) = false := decide_eq_false (by have := HLA.out; omega)
            clear m0 hb11 HMB HB10 PO PU HOA HLA HW4
            go_wp2_with fail
            go_quiet (fail)
            clear hc1 hc2 hc3 o0 o1
            go_wp2
            go_roundg gm
            case rel => exact ⟨⟨pw_below_drewN HB11.out _⟩, m + 1, by omega, by go_num⟩
            case measure => omega
       | succ gj =>
        as_aux_lemma =>
         have hlk : k < y2.cl.length := by omega
         obtain ⟨z, hz⟩ : ∃ z, y2.cl[k]? = some z := ⟨_, List.getElem?_eq_getElem hlk⟩
         have hikl : (k : Int) < (y2.cl.length : Int) := by omega
         obtain ⟨adc, hec, q0, yj⟩ := flat_below HPW.out.c HBi.out k z.c (by rw [List.getElem?_map, hz]; rfl)
         cases hec
         have q0 := q0 _ rfl
         have q1 := yj 1 _ (by decide) rfl
         have q2 := yj 2 _ (by decide) rfl
         have q3 := yj 3 _ (by decide) rfl
         have q4 := yj 4 _ (by decide) rfl
         have q5 := yj 5 _ (by decide) rfl
         have q6 := yj 6 _ (by decide) rfl
         have q7 := yj 7 _ (by decide) rfl
         have q8 := yj 8 _ (by decide) rfl
         have q9 := yj 9 _ (by decide) rfl
         have q10 := yj 10 _ (by decide) rfl
         have q11 := yj 11 _ (by decide) rfl
         have q12 := yj 12 _ (by decide) rfl
         clear yj
         have b4 : (wr.alloc (cO z.c)).cell? ⟨w2.heap.size, 4, none⟩ = some (.slice At2 (tableOf y2.sem).length ct2) := blk_cell (blk_alloc (blk_below HVz.out HBi.out) (cO z.c)) 4
         have PQ := ak_ (fun W (hb : Below W6.heap.size W6 W) => queued10 At2 ct2 (tableOf y2.sem) (k : Int) W (Kd.C_below HPW.out.t hb) HPW.out.tc (okTab_of G2.out) (by omega) (line_64 G2.out))
         have HZ := ak_ hz
         have HBc := ak_ (HBi.out.alloc HBi.out.size (cO z.c))
         have HCB := ak_ (blk_new wr (cO z.c))
         have HO8 := ak_ (blk_alloc HO.out (cO z.c))
         have HL8 := ak_ (blk_alloc HLn.out (cO z.c))
         clear hz
         go_wp2_with fail
         refine (PQ.out _ HBc.out).mono ?_
         rintro e w9 ⟨rfl, hb9⟩
         have HB9 := ak_ (bel3 HBc.out hb9)
         have HCB9 := ak_ (blk_below HCB.out hb9)
         have HO9 := ak_ (blk_below HO8.out hb9)
         have HL9 := ak_ (blk_below HL8.out hb9)
         clear hb9 PQ HBc HCB HO8 HL8 HBi HO HLn b4 q0 q1 q2 q3 q4 q5 q6 q7 q8 q9 q10 q11 q12
         have CI := G2.out.c k z HZ.out
         obtain ⟨ln, hln⟩ : ∃ ln, ln = linesOf (k : Int) (tableOf y2.sem) := ⟨_, rfl⟩
         rw [← hln]
         have HLE := ak_ hln
         have HCI := ak_ CI
         obtain ⟨t, ht⟩ : ∃ t : Nat, z.c.act = (t : Int) := ⟨z.c.act.toNat, by have := CI.a0; omega⟩
         have htle : t ≤ z.prog.length := by have := CI.a1; omega
         have HT := ak_ ht
         have c0 : w9.cell? ⟨wr.heap.size, 0, none⟩ = some (.int .i64 z.c.gor.state) := blk_cell HCB9.out 0
         have c1 : w9.cell? ⟨wr.heap.size, 1, none⟩ = some (.bool false) := by rw [← CI.permit]; exact blk_cell HCB9.out 1
         have c2 : w9.cell? ⟨wr.heap.size, 2, none⟩ = some (.int .i64 t) := by rw [← ht]; exact blk_cell HCB9.out 2
         have c3 : w9.cell? ⟨wr.heap.size, 3, none⟩ = some (.int .i64 z.c.pc) := blk_cell HCB9.out 3
         obtain ⟨adp, Ai, ci, hep, yp, lp, gp⟩ := slice_cells HPW.out.p k z.prog (by rw [List.getElem?_map, HZ.out]; rfl)
         cases hep
         have b1 : w9.cell? ⟨w2.heap.size, 1, none⟩ = some (.slice (some adp) y2.cl.length cp2) := blk_cell (blk_below HVz.out HB9.out) 1
         have p1 : w9.cell? (adp.add k) = some (.slice Ai z.prog.length ci) := (HB9.out.cell (World.block_lt_of_cell? W6 _ yp)).trans yp
         have HGP := ak_ gp
         have ha0 : decide ((t : Int) < 0) = false := decide_eq_false (by omega)
         have ha1 : decide ((z.prog.length : Int) < (t : Int)) = false := decide_eq_false (by omega)
         have key := park_ways G2.out HZ.out hln
         clear CI hln gp lp yp ht
         rcases key with ⟨rfl, hs⟩ | ⟨rfl, hs⟩
         all_goals
          as_aux_lemma =>
           go_wp2_with fail
           go_quiet (fail)
           clear hs ha0 ha1 c0 c1
           by_cases h1 : t = z.prog.length
           ·have H1 := ak_ (show z.c.act = (z.prog.length : Int) ∨ z.cur.kind = 3 from .inl (by rw [HT.out, h1]))
            have hq : ((t : Int) == (z.prog.length : Int)) = true := by rw [h1]; simp
            clear h1
            go_wp2_with fail
            go_quiet (fail)
            clear hq b1 p1 c2 c3
            have hcl8 := G2.out.cl
            go_wp2
            go_roundg gj
            case rel => exact ⟨⟨pw_below_drewN HB9.out _⟩, k + 1, by omega, by go_num, ⟨by rw [← outs_idle HZ.out H1.out]; exact HO9.out⟩, ⟨by rw [← lins_idle HZ.out H1.out]; exact HL9.out⟩⟩
            case measure => omega
           ·have hq : ((t : Int) == (z.prog.length : Int)) = false := by simp; omega
            have htl : t < z.prog.length := by omega
            have htli : (t : Int) < (z.prog.length : Int) := by omega
            have hza : z.prog[t]? = some z.cur := by
             unfold M.PC.cur
             rw [HT.out, Int.toNat_natCast, List.getD_eq_getElem?_getD, List.getElem?_eq_getElem htl]
             rfl
            obtain ⟨ada, hea, r0, rj⟩ := flat_below HGP.out HB9.out t z.cur hza
            cases hea
            have r0 := r0 _ rfl
            have r1 := rj 1 _ (by decide) rfl
            have hok := M.cur_ok (G2.out.progs k z HZ.out) (G2.out.c k z HZ.out).a0 (by rw [HT.out]; omega)
            clear h1 rj hza htl
            by_cases h3 : z.cur.kind = 3
            ·have H1 := ak_ (show z.c.act = (z.prog.length : Int) ∨ z.cur.kind = 3 from .inr h3)
             have hk : (z.cur.kind == 3) = true := by rw [h3]; rfl
             clear h3 hok
             go_wp2_with fail
             go_quiet (fail)
             clear hq hk b1 p1 c2 c3 r0 r1
             have hcl8 := G2.out.cl
             go_wp2
             go_roundg gj
             case rel => exact ⟨⟨pw_below_drewN HB9.out _⟩, k + 1, by omega, by go_num, ⟨by rw [← outs_idle HZ.out H1.out]; exact HO9.out⟩, ⟨by rw [← lins_idle HZ.out H1.out]; exact HL9.out⟩⟩
             case measure => omega
            ·have hk : (z.cur.kind == 3) = false := by simpa using h3
             obtain ⟨j, hj⟩ : ∃ j : Nat, z.cur.n = (j : Int) := ⟨z.cur.n.toNat, by have := hok.2.2.1; omega⟩
             have hj4 : j < 4 := by have := hok.2.2.2.2 h3; omega
             have HJ := ak_ hj
             have H3 := ak_ h3
             rw [hj] at r1
             clear h3 hok hj
             go_wp2_with fail
             go_quiet (fail)
             go_upto_region 22 with fail
             generalize hWq : (w9.drewN _).drewN _ = Wq
             have HBq := ak_ (show Below W6.heap.size W6 Wq by rw [← hWq]; exact pw_below_drewN (pw_below_drewN HB9.out _) _)
             have HOq := ak_ (show Wq.heap[W6.heap.size]? = some (.cells (arr4 (outs y2.cl k)) 38 (0, 0)) by rw [← hWq]; exact HO9.out)
             have HLq := ak_ (show Wq.heap[W6.heap.size + 1]? = some (.cells (arr4 (lins y2.cl k)) 38 (0, 0)) by rw [← hWq]; exact HL9.out)
             have b1 : Wq.cell? ⟨w2.heap.size, 1, none⟩ = some (.slice (some adp) y2.cl.length cp2) := by rw [← hWq]; exact b1
             have p1 : Wq.cell? (adp.add k) = some (.slice (some ada) z.prog.length ci) := by rw [← hWq]; exact p1
             have c2 : Wq.cell? ⟨wr.heap.size, 2, none⟩ = some (.int .i64 t) := by rw [← hWq]; exact c2
             have c3 : Wq.cell? ⟨wr.heap.size, 3, none⟩ = some (.int .i64 z.c.pc) := by rw [← hWq]; exact c3
             have r0 : Wq.cell? (ada.add (t * 2)) = some (.int .i64 z.cur.kind) := by rw [← hWq]; exact r0
             have r1 : Wq.cell? ⟨(ada.add (t * 2)).block, (ada.add (t * 2)).off + 1, none⟩ = some (.int .i64 j) := by rw [← hWq]; exact r1
             clear hWq hq hk
             have b1a := cell_alloc b1 (pO 0 0)
             have p1a := cell_alloc p1 (pO 0 0)
             have c2a := cell_alloc c2 (pO 0 0)
             have r0a := cell_alloc r0 (pO 0 0)
             have r1a := cell_alloc r1 (pO 0 0)
             have nb : (Wq.alloc (pO 0 0)).heap[Wq.heap.size]? = some (.cells #[.int .i64 0, .int .i64 0] 49 (0, 0)) := blk_new Wq _
             have n0 : (Wq.alloc (pO 0 0)).cell? ⟨Wq.heap.size, 0, none⟩ = some (.int .i64 0) := blk_cell nb 0
             have n1 : (Wq.alloc (pO 0 0)).cell? ⟨Wq.heap.size, 1, none⟩ = some (.int .i64 0) := blk_cell nb 1
             have f0 : (Wq.alloc (pO 0 0)).frozen? ⟨Wq.heap.size, 0, none⟩ = false := blk_frozen nb 0
             have f1 : (Wq.alloc (pO 0 0)).frozen? ⟨Wq.heap.size, 1, none⟩ = false := blk_frozen nb 1
             clear nb
             go_region
             clear n0 n1 f0 f1 b1a p1a c2a r0a r1a b1 p1 c2 r0 r1
             generalize hW10 : (Wq.alloc (pO z.cur.kind j)).drew = W10
             have HB10 := ak_ (show Below W6.heap.size W6 W10 by rw [← hW10]; exact below_drew1 (bel2 HBq.out _))
             have HO10 := ak_ (show W10.heap[W6.heap.size]? = some (.cells (arr4 (outs y2.cl k)) 38 (0, 0)) by rw [← hW10]; exact blk_alloc HOq.out _)
             have HL10 := ak_ (show W10.heap[W6.heap.size + 1]? = some (.cells (arr4 (lins y2.cl k)) 38 (0, 0)) by rw [← hW10]; exact blk_alloc HLq.out _)
             have c3 : W10.cell? ⟨wr.heap.size, 3, none⟩ = some (.int .i64 z.c.pc) := by rw [← hW10]; exact cell_alloc c3 _
             have n1 : W10.cell? ⟨Wq.heap.size, 1, none⟩ = some (.int .i64 j) := by rw [← hW10]; exact blk_cell (blk_new Wq (pO z.cur.kind j)) 1
             have HN10 := ak_ (show W10.heap[Wq.heap.size]? = some (.cells #[.int .i64 z.cur.kind, .int .i64 j] 49 (0, 0)) by rw [← hW10]; exact blk_new Wq _)
             have hq0 := blk_lt HOq.out
             have hq1 := blk_lt HLq.out
             have HNQ := ak_ (show Wq.heap.size ≠ W6.heap.size by omega)
             clear hq0 hq1
             have a0 : W10.cell? ⟨W6.heap.size, j, none⟩ = some (.int .i64 (outs y2.cl k j)) := arr4_cell HO10.out hj4
             have f0 : W10.frozen? ⟨W6.heap.size, j, none⟩ = false := blk_frozen HO10.out j
             have a1 : W10.cell? ⟨W6.heap.size + 1, j, none⟩ = some (.int .i64 (lins y2.cl k j)) := arr4_cell HL10.out hj4
             have f1 : W10.frozen? ⟨W6.heap.size + 1, j, none⟩ = false := blk_frozen HL10.out j
             have hj4i : (j : Int) < 4 := by omega
             have hcl8 := G2.out.cl
             have ho0 := outs_lo y2.cl k j
             have ho1 := outs_hi y2.cl k j
             have hl0 := lins_lo y2.cl k j
             have hl1 := lins_hi y2.cl k j
             have hwo : IntKind.i64.wrap (outs y2.cl k j + 1) = outs y2.cl k j + 1 := by rw [IntKind.wrap_i64]; omega
             have hwl : IntKind.i64.wrap (lins y2.cl k j) = lins y2.cl k j := by rw [IntKind.wrap_i64]; omega
             have hwm : IntKind.i64.wrap (lins y2.cl k j + 1) = lins y2.cl k j + 1 := by rw [IntKind.wrap_i64]; omega
             have HLT := ak_ (show z.c.act < (z.prog.length : Int) by rw [HT.out]; exact htli)
             have hlnx := lins_on G2.out HZ.out HLT.out H3.out HJ.out
             rw [← HLE.out] at hlnx
             first
              | rw [show ((0 : Nat) : Int) = 0 from rfl, Int.add_zero] at hlnx
              | rw [show ((1 : Nat) : Int) = 1 from rfl] at hlnx
             have HLN := ak_ hlnx
             clear hlnx
             have hne : W6.heap.size ≠ W6.heap.size + 1 := by omega
             have HNE := ak_ hne
             clear hW10 HBq HOq HLq htli ho0 ho1 hl0 hl1 hne
             rcases outPc_ways z.c.pc with ⟨hp, h⟩ | ⟨hp, e4, e5, e6, e13, e14, e15⟩
             ·have HOE := ak_ (outs_on HZ.out HLT.out H3.out HJ.out hp)
              have HO11 := ak_ (blk_put HO10.out j (.int .i64 (outs y2.cl k j + 1)) (arr4_set _ _ j hj4))
              have HL11 := ak_ (blk_far HL10.out (p := ⟨W6.heap.size, j, none⟩) HNE.out.symm (.int .i64 (outs y2.cl k j + 1)))
              rcases h with h | h | h | h | h | h
              all_goals
               as_aux_lemma =>
                rw [h] at c3
                clear h hp
                go_upto_region 33 with fail
                clear n1 a0 f0 a1 f1 c3 hwo
                have HB11 := ak_ (HB10.out.setCell (p := ⟨W6.heap.size, j, none⟩) (Nat.le_refl _) (.int .i64 (outs y2.cl k j + 1)))
                have HN11 := ak_ (blk_far HN10.out (p := ⟨W6.heap.size, j, none⟩) HNQ.out (.int .i64 (outs y2.cl k j + 1)))
                generalize W10.setCell ⟨W6.heap.size, j, none⟩ (.int .i64 (outs y2.cl k j + 1)) = W11 at *
                have n1 : W11.cell? ⟨Wq.heap.size, 1, none⟩ = some (.int .i64 j) := blk_cell HN11.out 1
                have a1 : W11.cell? ⟨W6.heap.size + 1, j, none⟩ = some (.int .i64 (lins y2.cl k j)) := arr4_cell HL11.out hj4
                have f1 : W11.frozen? ⟨W6.heap.size + 1, j, none⟩ = false := blk_frozen HL11.out j
                go_wp2
                go_roundg gj
                case rel => exact ⟨⟨HB11.out.setCell (p := ⟨W6.heap.size + 1, j, none⟩) (Nat.le_succ _) _⟩, k + 1, by omega, by go_num, ⟨by rw [← HOE.out]; exact blk_far HO11.out (p := ⟨W6.heap.size + 1, j, none⟩) HNE.out _⟩, ⟨by rw [← HLN.out]; exact blk_put HL11.out j _ (arr4_set _ _ j hj4)⟩⟩
                case measure => omega
             ·have HOE := ak_ (outs_off HZ.out hp)
              as_aux_lemma =>
               clear hp
               go_wp2
               go_roundg gj
               case rel => exact ⟨⟨HB10.out.setCell (p := ⟨W6.heap.size + 1, j, none⟩) (Nat.le_succ _) _⟩, k + 1, by omega, by go_num, ⟨by rw [← HOE.out]; exact blk_far HO10.out (p := ⟨W6.heap.size + 1, j, none⟩) HNE.out _⟩, ⟨by rw [← HLN.out]; exact blk_put HL10.out j _ (arr4_set _ _ j hj4)⟩⟩
               case measure => omega
     ·have hsb : (y2.stop != 0) = true := by simp [hst]
      have P9 := ak_ (alive7 W6 (HL.out.below (Below.mono HBz.out (Nat.le_refl _))))
      clear hst
      go_wp2_with fail
      refine P9.out.mono ?_
      rintro e w9 ⟨rfl, hb9⟩
      have HB9 := ak_ (bel3 HBz.out hb9)
      clear hb9 P9
      go_wp2
      go_ret
      exact ⟨rfl, HB9.out⟩
 ·have P2 := ak_ (new_bad A1 c1 LA w1 (hCA w1 (Kept.refl _ _)) hl1 (by simpa using hok))
  clear hCA hok hl1
  go_wp2_with fail
  refine P2.out.mono ?_
  rintro e w2 ⟨rfl, hb2⟩
  have HB2 := ak_ (bel2 (bel3 HB1.out hb2) (.cells zeroW 29))
  have P9 := ak_ (alive7 (w2.alloc (.cells zeroW 29)) (HL.out.below (Below.mono HB2.out (Nat.le_refl _))))
  unfold zeroW at HB2 P9 ⊢
  clear hb2 P2
  go_wp2_with fail
  refine P9.out.mono ?_
  rintro e w9 ⟨rfl, hb9⟩
  have HB9 := ak_ (bel3 HB2.out hb9)
  clear hb9 P9
  go_wp2
  go_ret
  exact ⟨rfl, HB9.out⟩
end Go.Proofs.YtoimfknjfeencaaGreatDoor.Hand
end
section
namespace Go.Proofs.YtoimfknjfeencaaGreatDoor.Hand
open Go.RowKit Go.ChangeShapes Go.WideShapes Go.Deep Go.Proofs.YtoimfknjfeencaaGreatDoorW.PrintWords Go.Proofs.YtoimfknjfeencaaGreatDoorW.PrintLast
section
section
variable {H : Type} {enc : TypeId × Value → H} {P : Program} {w : World} {base : Nat} {spare : Nat → Bool} {held : Bool}
theorem C_of_trod {α : Type} (d : Kd α) (Q : α → Prop) {t e : TypeId} {fuel : Nat} {A : Option Addr} {len cap : Nat} {x : DataW H × List MemPlace} (ht : P.underlying t = some (.slice e)) (hsz : P.cellsOf e = d.sz)
  (hel : ∀ n cs y, cs.length = d.sz → DataW.trod enc P w base spare held n e cs = some y → ∃ p, d.K w p cs ∧ Q p) (h : DataW.trod enc P w base spare held fuel t [.slice A len cap] = some x) :
  ∃ xs : List α, d.C w A len xs ∧ xs.length = len ∧ len ≤ cap ∧ len ≤ maxLen ∧ ∀ p ∈ xs, Q p := by
 rcases open_slice ht h with ⟨hcs, _⟩ | ⟨a, len', cap', m, n, D, Pl, hcs, _, hl, hm, hmm, _, hi⟩
 ·simp at hcs
  obtain ⟨rfl, rfl, rfl⟩ := hcs
  exact ⟨[], ⟨rfl, by omega, fun h => by omega⟩, rfl, by omega, by omega, fun p hp => by simp at hp⟩
 ·simp at hcs
  obtain ⟨rfl, rfl, rfl⟩ := hcs
  have hle : len ≤ m := by rw [hmm]; split <;> omega
  have key : ∀ k, k ≤ len → ∃ xs : List α, xs.length = k ∧ (∀ p ∈ xs, Q p) ∧ ∀ j p, xs[j]? = some p → ∃ c : List Value, c.length = d.sz ∧ d.K w p c ∧ ∀ i u, c[i]? = some u → w.cell? (a.add (j * d.sz + i)) = some u := by
   intro k
   induction k with
   | zero => exact fun _ => ⟨[], rfl, fun p hp => by simp at hp, fun j p hj => by simp at hj⟩
   | succ k ih =>
    intro hk
    obtain ⟨xs, hx, hq, hc⟩ := ih (by omega)
    obtain ⟨cs', hc', ht'⟩ := hi k (by omega)
    obtain ⟨_, hcl, hat⟩ := World.cells?_some hc'
    rw [hsz] at hcl hat hc'
    obtain ⟨p, hK, hQ⟩ := hel _ _ _ hcl ht'
    refine ⟨xs ++ [p], by simp [hx], ?_, ?_⟩
    ·intro q hq'
     rcases List.mem_append.1 hq' with h' | h'
     ·exact hq q h'
     ·rw [List.mem_singleton.1 h']; exact hQ
    ·intro j q hj
     rcases Nat.lt_or_ge j xs.length with hjl | hjl
     ·rw [List.getElem?_append_left hjl] at hj
      exact hc j q hj
     ·have hjk : j = k := by
       have := (List.getElem?_eq_some_iff.1 hj).1
       simp [hx] at this
       omega
      subst hjk
      rw [List.getElem?_append_right hjl, hx, Nat.sub_self] at hj
      have hj : p = q := by simpa using hj
      subst hj
      refine ⟨cs', hcl, hK, fun i u hu => ?_⟩
      have hil : i < d.sz := by rw [← hcl]; exact (List.getElem?_eq_some_iff.1 hu).1
      rw [← Go.Deep.add_add, hat i hil, hu]
  obtain ⟨xs, hx, hq, hc⟩ := key len (Nat.le_refl _)
  have hmax : len ≤ maxLen := by omega
  exact ⟨xs, ⟨hx, by unfold maxLen at hmax; omega, fun _ => ⟨a, rfl, hc⟩⟩, hx, hl, hmax, hq⟩
end
end
end Go.Proofs.YtoimfknjfeencaaGreatDoor.Hand
end
