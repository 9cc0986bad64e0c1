/- Part of the walk of a law of the top, and what it leans on (Fin, Step1, Unify). No conditions beyond those that each lemma names. -/
import Derived.Test.YtoimfknjfeencaaGreatDoorZ09
import Derived.Test.YtoimfknjfeencaaGreatDoorZ20
import Derived.Test.YtoimfknjfeencaaGreatDoorZ14
import Derived.Test.YtoimfknjfeencaaGreatDoorZ21
set_option linter.unusedVariables false
set_option linter.unusedSimpArgs false
set_option maxHeartbeats 8000000
set_option maxRecDepth 100000
section
namespace Go.Proofs.YtoimfknjfeencaaGreatDoor.Hand
open Go.RowKit Go.Proofs.YtoimfknjfeencaaGreatDoorW.PrintWords Go.Proofs.YtoimfknjfeencaaGreatDoorW.PrintLast Go.Proofs.YtoimfknjfeencaaGreatDoorW.PrintMore
theorem St.putClient {B : Nat} {k : Blk} {s : Sx} {w : World} (h : St B k s w) (q : M.Client) : St B k { s with c := q } (((((((((((((w.setCell ⟨k.cp, 0, none⟩ (.int .i64 q.gor.state)).setCell ⟨k.cp, 1, none⟩ (.bool q.gor.permit)).setCell ⟨k.cp, 2, none⟩ (.int .i64 q.act)).setCell ⟨k.cp, 3, none⟩ (.int .i64 q.pc)).setCell ⟨k.cp, 4, none⟩ (.int .i64 q.worked)).setCell ⟨k.cp, 5, none⟩ (.int .i64 q.ticket)).setCell ⟨k.cp, 6, none⟩ (.bool q.first)).setCell ⟨k.cp, 7, none⟩ (.bool q.told)).setCell ⟨k.cp, 8, none⟩ (.int .i64 q.own.since)).setCell ⟨k.cp, 9, none⟩ (.bool q.own.starving)).setCell ⟨k.cp, 10, none⟩ (.bool q.own.awake)).setCell ⟨k.cp, 11, none⟩ (.int .i64 q.own.rounds)).setCell ⟨k.cp, 12, none⟩ (.int .i64 q.own.old)) := by
 have h0 := h.putc 0 (.int .i64 q.gor.state) ⟨⟨q.gor.state, s.c.gor.permit⟩, s.c.act, s.c.pc, s.c.worked, s.c.ticket, s.c.first, s.c.told, ⟨s.c.own.since, s.c.own.starving, s.c.own.awake, s.c.own.rounds, s.c.own.old⟩⟩ rfl
 have h1 := h0.putc 1 (.bool q.gor.permit) ⟨⟨q.gor.state, q.gor.permit⟩, s.c.act, s.c.pc, s.c.worked, s.c.ticket, s.c.first, s.c.told, ⟨s.c.own.since, s.c.own.starving, s.c.own.awake, s.c.own.rounds, s.c.own.old⟩⟩ rfl
 have h2 := h1.putc 2 (.int .i64 q.act) ⟨⟨q.gor.state, q.gor.permit⟩, q.act, s.c.pc, s.c.worked, s.c.ticket, s.c.first, s.c.told, ⟨s.c.own.since, s.c.own.starving, s.c.own.awake, s.c.own.rounds, s.c.own.old⟩⟩ rfl
 have h3 := h2.putc 3 (.int .i64 q.pc) ⟨⟨q.gor.state, q.gor.permit⟩, q.act, q.pc, s.c.worked, s.c.ticket, s.c.first, s.c.told, ⟨s.c.own.since, s.c.own.starving, s.c.own.awake, s.c.own.rounds, s.c.own.old⟩⟩ rfl
 have h4 := h3.putc 4 (.int .i64 q.worked) ⟨⟨q.gor.state, q.gor.permit⟩, q.act, q.pc, q.worked, s.c.ticket, s.c.first, s.c.told, ⟨s.c.own.since, s.c.own.starving, s.c.own.awake, s.c.own.rounds, s.c.own.old⟩⟩ rfl
 have h5 := h4.putc 5 (.int .i64 q.ticket) ⟨⟨q.gor.state, q.gor.permit⟩, q.act, q.pc, q.worked, q.ticket, s.c.first, s.c.told, ⟨s.c.own.since, s.c.own.starving, s.c.own.awake, s.c.own.rounds, s.c.own.old⟩⟩ rfl
 have h6 := h5.putc 6 (.bool q.first) ⟨⟨q.gor.state, q.gor.permit⟩, q.act, q.pc, q.worked, q.ticket, q.first, s.c.told, ⟨s.c.own.since, s.c.own.starving, s.c.own.awake, s.c.own.rounds, s.c.own.old⟩⟩ rfl
 have h7 := h6.putc 7 (.bool q.told) ⟨⟨q.gor.state, q.gor.permit⟩, q.act, q.pc, q.worked, q.ticket, q.first, q.told, ⟨s.c.own.since, s.c.own.starving, s.c.own.awake, s.c.own.rounds, s.c.own.old⟩⟩ rfl
 have h8 := h7.putc 8 (.int .i64 q.own.since) ⟨⟨q.gor.state, q.gor.permit⟩, q.act, q.pc, q.worked, q.ticket, q.first, q.told, ⟨q.own.since, s.c.own.starving, s.c.own.awake, s.c.own.rounds, s.c.own.old⟩⟩ rfl
 have h9 := h8.putc 9 (.bool q.own.starving) ⟨⟨q.gor.state, q.gor.permit⟩, q.act, q.pc, q.worked, q.ticket, q.first, q.told, ⟨q.own.since, q.own.starving, s.c.own.awake, s.c.own.rounds, s.c.own.old⟩⟩ rfl
 have h10 := h9.putc 10 (.bool q.own.awake) ⟨⟨q.gor.state, q.gor.permit⟩, q.act, q.pc, q.worked, q.ticket, q.first, q.told, ⟨q.own.since, q.own.starving, q.own.awake, s.c.own.rounds, s.c.own.old⟩⟩ rfl
 have h11 := h10.putc 11 (.int .i64 q.own.rounds) ⟨⟨q.gor.state, q.gor.permit⟩, q.act, q.pc, q.worked, q.ticket, q.first, q.told, ⟨q.own.since, q.own.starving, q.own.awake, q.own.rounds, s.c.own.old⟩⟩ rfl
 have h12 := h11.putc 12 (.int .i64 q.own.old) ⟨⟨q.gor.state, q.gor.permit⟩, q.act, q.pc, q.worked, q.ticket, q.first, q.told, ⟨q.own.since, q.own.starving, q.own.awake, q.own.rounds, q.own.old⟩⟩ rfl
 exact h12
theorem St.putRow {B : Nat} {k : Blk} {s : Sx} {w : World} (h : St B k s w) (i : Nat) (c q : M.Client) (hc : s.cl[i]? = some c) : St B k { s with cl := s.cl.set i q } (((((((((((((w.setCell ⟨k.cb, i * 13, none⟩ (.int .i64 q.gor.state)).setCell ⟨k.cb, i * 13 + 1, none⟩ (.bool q.gor.permit)).setCell ⟨k.cb, i * 13 + 2, none⟩ (.int .i64 q.act)).setCell ⟨k.cb, i * 13 + 3, none⟩ (.int .i64 q.pc)).setCell ⟨k.cb, i * 13 + 4, none⟩ (.int .i64 q.worked)).setCell ⟨k.cb, i * 13 + 5, none⟩ (.int .i64 q.ticket)).setCell ⟨k.cb, i * 13 + 6, none⟩ (.bool q.first)).setCell ⟨k.cb, i * 13 + 7, none⟩ (.bool q.told)).setCell ⟨k.cb, i * 13 + 8, none⟩ (.int .i64 q.own.since)).setCell ⟨k.cb, i * 13 + 9, none⟩ (.bool q.own.starving)).setCell ⟨k.cb, i * 13 + 10, none⟩ (.bool q.own.awake)).setCell ⟨k.cb, i * 13 + 11, none⟩ (.int .i64 q.own.rounds)).setCell ⟨k.cb, i * 13 + 12, none⟩ (.int .i64 q.own.old)) := by
 have set2 : ∀ (l : List M.Client) (a b : M.Client), (l.set i a).set i b = l.set i b := fun l a b => List.set_set ..
 have h0 := h.putl i c ⟨⟨q.gor.state, c.gor.permit⟩, c.act, c.pc, c.worked, c.ticket, c.first, c.told, ⟨c.own.since, c.own.starving, c.own.awake, c.own.rounds, c.own.old⟩⟩ hc 0 (by decide) (.int .i64 q.gor.state) rfl
 have h1 := h0.putl i ⟨⟨q.gor.state, c.gor.permit⟩, c.act, c.pc, c.worked, c.ticket, c.first, c.told, ⟨c.own.since, c.own.starving, c.own.awake, c.own.rounds, c.own.old⟩⟩ ⟨⟨q.gor.state, q.gor.permit⟩, c.act, c.pc, c.worked, c.ticket, c.first, c.told, ⟨c.own.since, c.own.starving, c.own.awake, c.own.rounds, c.own.old⟩⟩ (show ({ s with cl := s.cl.set i ⟨⟨q.gor.state, c.gor.permit⟩, c.act, c.pc, c.worked, c.ticket, c.first, c.told, ⟨c.own.since, c.own.starving, c.own.awake, c.own.rounds, c.own.old⟩⟩ } : Sx).cl[i]? = _ from set_at_same hc) 1 (by decide) (.bool q.gor.permit) rfl
 simp only [set2] at h1
 have h2 := h1.putl i ⟨⟨q.gor.state, q.gor.permit⟩, c.act, c.pc, c.worked, c.ticket, c.first, c.told, ⟨c.own.since, c.own.starving, c.own.awake, c.own.rounds, c.own.old⟩⟩ ⟨⟨q.gor.state, q.gor.permit⟩, q.act, c.pc, c.worked, c.ticket, c.first, c.told, ⟨c.own.since, c.own.starving, c.own.awake, c.own.rounds, c.own.old⟩⟩ (show ({ s with cl := s.cl.set i ⟨⟨q.gor.state, q.gor.permit⟩, c.act, c.pc, c.worked, c.ticket, c.first, c.told, ⟨c.own.since, c.own.starving, c.own.awake, c.own.rounds, c.own.old⟩⟩ } : Sx).cl[i]? = _ from set_at_same hc) 2 (by decide) (.int .i64 q.act) rfl
 simp only [set2] at h2
 have h3 := h2.putl i ⟨⟨q.gor.state, q.gor.permit⟩, q.act, c.pc, c.worked, c.ticket, c.first, c.told, ⟨c.own.since, c.own.starving, c.own.awake, c.own.rounds, c.own.old⟩⟩ ⟨⟨q.gor.state, q.gor.permit⟩, q.act, q.pc, c.worked, c.ticket, c.first, c.told, ⟨c.own.since, c.own.starving, c.own.awake, c.own.rounds, c.own.old⟩⟩ (show ({ s with cl := s.cl.set i ⟨⟨q.gor.state, q.gor.permit⟩, q.act, c.pc, c.worked, c.ticket, c.first, c.told, ⟨c.own.since, c.own.starving, c.own.awake, c.own.rounds, c.own.old⟩⟩ } : Sx).cl[i]? = _ from set_at_same hc) 3 (by decide) (.int .i64 q.pc) rfl
 simp only [set2] at h3
 have h4 := h3.putl i ⟨⟨q.gor.state, q.gor.permit⟩, q.act, q.pc, c.worked, c.ticket, c.first, c.told, ⟨c.own.since, c.own.starving, c.own.awake, c.own.rounds, c.own.old⟩⟩ ⟨⟨q.gor.state, q.gor.permit⟩, q.act, q.pc, q.worked, c.ticket, c.first, c.told, ⟨c.own.since, c.own.starving, c.own.awake, c.own.rounds, c.own.old⟩⟩ (show ({ s with cl := s.cl.set i ⟨⟨q.gor.state, q.gor.permit⟩, q.act, q.pc, c.worked, c.ticket, c.first, c.told, ⟨c.own.since, c.own.starving, c.own.awake, c.own.rounds, c.own.old⟩⟩ } : Sx).cl[i]? = _ from set_at_same hc) 4 (by decide) (.int .i64 q.worked) rfl
 simp only [set2] at h4
 have h5 := h4.putl i ⟨⟨q.gor.state, q.gor.permit⟩, q.act, q.pc, q.worked, c.ticket, c.first, c.told, ⟨c.own.since, c.own.starving, c.own.awake, c.own.rounds, c.own.old⟩⟩ ⟨⟨q.gor.state, q.gor.permit⟩, q.act, q.pc, q.worked, q.ticket, c.first, c.told, ⟨c.own.since, c.own.starving, c.own.awake, c.own.rounds, c.own.old⟩⟩ (show ({ s with cl := s.cl.set i ⟨⟨q.gor.state, q.gor.permit⟩, q.act, q.pc, q.worked, c.ticket, c.first, c.told, ⟨c.own.since, c.own.starving, c.own.awake, c.own.rounds, c.own.old⟩⟩ } : Sx).cl[i]? = _ from set_at_same hc) 5 (by decide) (.int .i64 q.ticket) rfl
 simp only [set2] at h5
 have h6 := h5.putl i ⟨⟨q.gor.state, q.gor.permit⟩, q.act, q.pc, q.worked, q.ticket, c.first, c.told, ⟨c.own.since, c.own.starving, c.own.awake, c.own.rounds, c.own.old⟩⟩ ⟨⟨q.gor.state, q.gor.permit⟩, q.act, q.pc, q.worked, q.ticket, q.first, c.told, ⟨c.own.since, c.own.starving, c.own.awake, c.own.rounds, c.own.old⟩⟩ (show ({ s with cl := s.cl.set i ⟨⟨q.gor.state, q.gor.permit⟩, q.act, q.pc, q.worked, q.ticket, c.first, c.told, ⟨c.own.since, c.own.starving, c.own.awake, c.own.rounds, c.own.old⟩⟩ } : Sx).cl[i]? = _ from set_at_same hc) 6 (by decide) (.bool q.first) rfl
 simp only [set2] at h6
 have h7 := h6.putl i ⟨⟨q.gor.state, q.gor.permit⟩, q.act, q.pc, q.worked, q.ticket, q.first, c.told, ⟨c.own.since, c.own.starving, c.own.awake, c.own.rounds, c.own.old⟩⟩ ⟨⟨q.gor.state, q.gor.permit⟩, q.act, q.pc, q.worked, q.ticket, q.first, q.told, ⟨c.own.since, c.own.starving, c.own.awake, c.own.rounds, c.own.old⟩⟩ (show ({ s with cl := s.cl.set i ⟨⟨q.gor.state, q.gor.permit⟩, q.act, q.pc, q.worked, q.ticket, q.first, c.told, ⟨c.own.since, c.own.starving, c.own.awake, c.own.rounds, c.own.old⟩⟩ } : Sx).cl[i]? = _ from set_at_same hc) 7 (by decide) (.bool q.told) rfl
 simp only [set2] at h7
 have h8 := h7.putl i ⟨⟨q.gor.state, q.gor.permit⟩, q.act, q.pc, q.worked, q.ticket, q.first, q.told, ⟨c.own.since, c.own.starving, c.own.awake, c.own.rounds, c.own.old⟩⟩ ⟨⟨q.gor.state, q.gor.permit⟩, q.act, q.pc, q.worked, q.ticket, q.first, q.told, ⟨q.own.since, c.own.starving, c.own.awake, c.own.rounds, c.own.old⟩⟩ (show ({ s with cl := s.cl.set i ⟨⟨q.gor.state, q.gor.permit⟩, q.act, q.pc, q.worked, q.ticket, q.first, q.told, ⟨c.own.since, c.own.starving, c.own.awake, c.own.rounds, c.own.old⟩⟩ } : Sx).cl[i]? = _ from set_at_same hc) 8 (by decide) (.int .i64 q.own.since) rfl
 simp only [set2] at h8
 have h9 := h8.putl i ⟨⟨q.gor.state, q.gor.permit⟩, q.act, q.pc, q.worked, q.ticket, q.first, q.told, ⟨q.own.since, c.own.starving, c.own.awake, c.own.rounds, c.own.old⟩⟩ ⟨⟨q.gor.state, q.gor.permit⟩, q.act, q.pc, q.worked, q.ticket, q.first, q.told, ⟨q.own.since, q.own.starving, c.own.awake, c.own.rounds, c.own.old⟩⟩ (show ({ s with cl := s.cl.set i ⟨⟨q.gor.state, q.gor.permit⟩, q.act, q.pc, q.worked, q.ticket, q.first, q.told, ⟨q.own.since, c.own.starving, c.own.awake, c.own.rounds, c.own.old⟩⟩ } : Sx).cl[i]? = _ from set_at_same hc) 9 (by decide) (.bool q.own.starving) rfl
 simp only [set2] at h9
 have h10 := h9.putl i ⟨⟨q.gor.state, q.gor.permit⟩, q.act, q.pc, q.worked, q.ticket, q.first, q.told, ⟨q.own.since, q.own.starving, c.own.awake, c.own.rounds, c.own.old⟩⟩ ⟨⟨q.gor.state, q.gor.permit⟩, q.act, q.pc, q.worked, q.ticket, q.first, q.told, ⟨q.own.since, q.own.starving, q.own.awake, c.own.rounds, c.own.old⟩⟩ (show ({ s with cl := s.cl.set i ⟨⟨q.gor.state, q.gor.permit⟩, q.act, q.pc, q.worked, q.ticket, q.first, q.told, ⟨q.own.since, q.own.starving, c.own.awake, c.own.rounds, c.own.old⟩⟩ } : Sx).cl[i]? = _ from set_at_same hc) 10 (by decide) (.bool q.own.awake) rfl
 simp only [set2] at h10
 have h11 := h10.putl i ⟨⟨q.gor.state, q.gor.permit⟩, q.act, q.pc, q.worked, q.ticket, q.first, q.told, ⟨q.own.since, q.own.starving, q.own.awake, c.own.rounds, c.own.old⟩⟩ ⟨⟨q.gor.state, q.gor.permit⟩, q.act, q.pc, q.worked, q.ticket, q.first, q.told, ⟨q.own.since, q.own.starving, q.own.awake, q.own.rounds, c.own.old⟩⟩ (show ({ s with cl := s.cl.set i ⟨⟨q.gor.state, q.gor.permit⟩, q.act, q.pc, q.worked, q.ticket, q.first, q.told, ⟨q.own.since, q.own.starving, q.own.awake, c.own.rounds, c.own.old⟩⟩ } : Sx).cl[i]? = _ from set_at_same hc) 11 (by decide) (.int .i64 q.own.rounds) rfl
 simp only [set2] at h11
 have h12 := h11.putl i ⟨⟨q.gor.state, q.gor.permit⟩, q.act, q.pc, q.worked, q.ticket, q.first, q.told, ⟨q.own.since, q.own.starving, q.own.awake, q.own.rounds, c.own.old⟩⟩ ⟨⟨q.gor.state, q.gor.permit⟩, q.act, q.pc, q.worked, q.ticket, q.first, q.told, ⟨q.own.since, q.own.starving, q.own.awake, q.own.rounds, q.own.old⟩⟩ (show ({ s with cl := s.cl.set i ⟨⟨q.gor.state, q.gor.permit⟩, q.act, q.pc, q.worked, q.ticket, q.first, q.told, ⟨q.own.since, q.own.starving, q.own.awake, q.own.rounds, c.own.old⟩⟩ } : Sx).cl[i]? = _ from set_at_same hc) 12 (by decide) (.int .i64 q.own.old) rfl
 simp only [set2] at h12
 exact h12
theorem St.mutexes {B : Nat} {k : Blk} {s : Sx} {w : World} (h : St B k s w) (hl : s.mu.length ≤ 1000) : kMutex.C w (some ⟨k.mb, 0, none⟩) s.mu.length s.mu := by
  refine ⟨rfl, by have : s.mu.length ≤ 9223372036854775807 := by omega
                  exact this, fun _ => ⟨_, rfl, fun i z hz => ⟨encMutex z, rfl, rfl, fun j u hu => ?_⟩⟩⟩
  rw [Addr.add_lit, Nat.zero_add]
  exact h.mcell hz j hu
theorem flatC_kept {α : Type} {sz : Nat} {enc : α → List Value} {h1 : ∀ x, (enc x).length = sz} {h2 : ∀ x, ∀ u ∈ enc x, u.oneCell' = true} {w W : World} {g n : Nat} {xs : List α} {S : Nat → Prop} (h : (flat sz enc h1 h2).C w (some ⟨g, 0, none⟩) n xs) (hk : Kept w W S) (hg : ¬ S g) : (flat sz enc h1 h2).C W (some ⟨g, 0, none⟩) n xs := by
 refine ⟨h.1, h.2.1, fun hn => ?_⟩
 obtain ⟨ad, e, hc⟩ := h.2.2 hn
 cases e
 refine ⟨_, rfl, fun j p hj => ?_⟩
 obtain ⟨c, hs, hr, hcell⟩ := hc j p hj
 refine ⟨c, hs, hr, fun i u hu => ?_⟩
 refine Go.Proofs.YtoimfknjfeencaaGreatDoorW.PrintWords.cell_kept (hcell i u hu) hk ?_
 rw [show ((⟨g, 0, none⟩ : Addr).add (j * (flat sz enc h1 h2).sz + i)).block = g by unfold Addr.add; split <;> rfl]
 exact hg
theorem world_of {B : Nat} {k : Blk} {s : Sx} {w : World} (h : St B k s w) {x x' : M.W} {Ap : Option Addr} {cp c1 c2 : Nat} (hp : ∀ W, Kept w W k.ex → (Kd.slice 49 kAct).C W Ap x.cl.length (x.cl.map (·.prog))) (hpc : x.cl.length ≤ cp) (hne : ∀ b, k.has b → ¬ k.ex b)
  (e1 : x'.cl.map (·.prog) = x.cl.map (·.prog)) (e2 : s.cl = x'.cl.map (·.c)) (e3 : s.mu = x'.mu) (e4 : s.tab = tableOf x'.sem) (e5 : s.now = x'.now) (e6 : s.stop = x'.stop) (e7 : s.pv = .slice Ap x.cl.length cp) (e8 : s.cv = .slice (some ⟨k.cb, 0, none⟩) x.cl.length c1) (e9 : s.mv = .slice (some ⟨k.mb, 0, none⟩) x.mu.length c2)
  (l1 : x.cl.length ≤ c1) (l2 : x.mu.length ≤ c2) (l3 : x'.mu.length = x.mu.length) (l8 : x.cl.length ≤ 8) (l4 : x.mu.length ≤ 1000) :
  WVS k.ex w (.agg #[.int .i64 s.now, s.pv, s.cv, s.mv, s.tv, .int .i64 s.stop]) x' := by
 have hlen : x'.cl.length = x.cl.length := by
  have := congrArg List.length e1
  simpa using this
 have hcl : s.cl.length = x.cl.length := by rw [e2, List.length_map, hlen]
 have hmu : s.mu.length = x.mu.length := by rw [e3, l3]
 obtain ⟨A, c, ht, hlt, _⟩ := h.tb w (Kept.refl _ _)
 refine ⟨Ap, some ⟨k.cb, 0, none⟩, some ⟨k.mb, 0, none⟩, A, cp, c1, c2, c, ?_, fun W hk => ?_⟩
 ·unfold wv
  rw [e5, e6, e7, e8, e9, ht, e4, hlen, l3]
 ·obtain ⟨A', c', ht', _, hC⟩ := h.tb W (hk.mono (fun b q => .inr q))
  rw [ht] at ht'
  cases ht'
  have hc := flatC_kept (h.clients (by omega)) hk (hne _ (.inr (.inr (.inr (.inr rfl)))))
  have hm := flatC_kept (h.mutexes (by omega)) hk (hne _ (.inr (.inr (.inr (.inl rfl)))))
  refine ⟨?_, by rw [hlen]; exact hpc, ?_, by rw [hlen]; exact l1, ?_, by rw [l3]; exact l2, ?_, by rw [← e4]; exact hlt⟩
  ·rw [hlen, e1]
   exact hp W hk
  ·rw [← e2, hlen, ← hcl]
   exact hc
  ·rw [← e3]
   exact hm
  ·rw [← e4]
   exact hC
theorem events_of {B : Nat} {k : Blk} {s : Sx} {w W : World} (h : St B k s w) (hx : ∀ b, k.ex b → b < B) (hk : Kept w W k.ex) : Sl kEvent W s.ev s.evs :=
 Sl.of_R (Kd.R_kept (Kd.R_bound h.ev) hk (fun b hb q => by have := hb.2.1; have := hx b q; omega))
theorem wake_prog (cl : List M.PC) : ∀ j, (M.wake cl j).map (·.prog) = cl.map (·.prog)
 | none => rfl
 | some j => by
  cases h : cl[j]? with
  | none => simp only [M.wake, h]
  | some z =>
   simp only [M.wake, h]
   rw [List.map_set]
   exact set_self (by rw [List.getElem?_map, h]; rfl)
theorem wake_c (cl : List M.PC) : ∀ j, (M.wake cl j).map (·.c) = wakeOf (cl.map (·.c)) j
 | none => rfl
 | some j => by
  cases h : cl[j]? with
  | none => simp only [M.wake, wakeOf, List.getElem?_map, h, Option.map_none]
  | some z =>
   simp only [M.wake, wakeOf, List.getElem?_map, h, Option.map_some]
   rw [List.map_set]
   rfl
theorem wake_row (cl : List M.PC) (i : Nat) (z : M.PC) (hz : cl[i]? = some z) (o : Option Nat) : ∃ y, (M.wake cl o)[i]? = some y ∧ y.prog = z.prog := by
 have h := congrArg (fun l => l[i]?) (wake_prog cl o)
 simp only [List.getElem?_map, hz, Option.map_some] at h
 obtain ⟨y, hy, e⟩ := Option.map_eq_some_iff.1 h
 exact ⟨y, hy, e⟩
theorem set_prog (cl : List M.PC) (i : Nat) (z : M.PC) (hz : cl[i]? = some z) (o : Option Nat) (c : M.Client) : ((M.wake cl o).set i ⟨z.prog, c⟩).map (·.prog) = cl.map (·.prog) := by
 obtain ⟨y, hy, e⟩ := wake_row cl i z hz o
 rw [List.map_set, ← wake_prog cl o]
 exact set_self (by rw [List.getElem?_map, hy, Option.map_some, e])
theorem set_c (cl : List M.PC) (i : Nat) (p : List M.Act) (o : Option Nat) (c : M.Client) : ((M.wake cl o).set i ⟨p, c⟩).map (·.c) = (wakeOf (cl.map (·.c)) o).set i c := by
 rw [List.map_set, wake_c]
def StepOk (S : Nat → Prop) (x : M.W) (who : Int) (w : World) (e : Ending) (w' : World) : Prop :=
 ∃ a0 a1 a2 a3 a4 a5 ve, e = .returned (.tuple #[.agg #[a0, a1, a2, a3, a4, a5], ve, .int .i64 0]) ∧ Below w.heap.size w w' ∧ WVS S w' (.agg #[a0, a1, a2, a3, a4, a5]) (M.step x who).1 ∧ ∀ W, Kept w' W S → Sl kEvent W ve (M.step x who).2
theorem step_stay {x : M.W} {who : Int} (h : x.stop ≠ 0 ∨ who < 0 ∨ (x.cl.length : Int) ≤ who ∨ ∃ z, x.cl[who.toNat]? = some z ∧ z.c.gor.state ≠ 0) : M.step x who = (x, []) := by
 unfold M.step
 by_cases h1 : x.stop ≠ 0 ∨ who < 0
 ·rw [if_pos h1]
 ·rw [if_neg h1]
  rcases h with h | h | h | ⟨z, hz, hs⟩
  ·exact absurd (.inl h) h1
  ·exact absurd (.inr h) h1
  ·rw [List.getElem?_eq_none (by omega)]
  ·rw [hz]
   simp [hs]
theorem step_go {x : M.W} {i : Nat} {z : M.PC} (h0 : x.stop = 0) (hz : x.cl[i]? = some z) (hr : z.c.gor.state = 0) : M.step x i = M.stepAt x i z := by
 unfold M.step
 rw [if_neg (by omega), Int.toNat_natCast, hz]
 simp [hr]
theorem step_stays (x : M.W) (g : M.Good x) (Ap Ac Am At : Option Addr) (cp cc cm ct : Nat) (w : World) (S : Nat → Prop) (hWS : ∀ W, Kept w W S → WP W x Ap Ac Am At cp cc cm ct) (hS : ∀ b, S b → b < w.heap.size) (who : Int) (hs : x.stop ≠ 0 ∨ (x.stop = 0 ∧ who < 0) ∨ (x.stop = 0 ∧ 0 ≤ who ∧ (x.cl.length : Int) ≤ who) ∨ ∃ (i : Nat) (z : M.PC), x.stop = 0 ∧ who = i ∧ x.cl[i]? = some z ∧ z.c.gor.state ≠ 0) :
  Calls Tryz.prog 9 #[wv x Ap Ac Am At cp cc cm ct, .int .i64 who] w (StepOk S x who w) := by
 have hstp : x.stop = 0 ∨ x.stop = 11 := g.stop
 have h := hWS w (Kept.refl _ _)
 have HWS := ak_ hWS
 clear hWS
 have HSB := ak_ hS
 clear hS
 have HW := ak_ h
 have P1 := ak_ (fun w' (hb : Below w.heap.size w w') => machRight_at x g Ap Ac Am At cp cc cm ct w' (h.below hb))
 have hu := Tryz.underlying29
 have hu44 := Tryz.underlying44
 have hu40 := Tryz.underlying40
 have hu49 := Tryz.underlying49
 have hu81 := Tryz.underlying81
 have G := ak_ g
 clear h g
 unfold wv at P1 ⊢
 have BK := ak_ (blk_alloc (blk_new w (.cells #[.int .i64 x.now, .slice Ap x.cl.length cp, .slice Ac x.cl.length cc, .slice Am x.mu.length cm, .slice At (tableOf x.sem).length ct, .int .i64 x.stop] 29)) (.cells #[.int .i64 0, .slice none 0 0, .slice none 0 0, .slice none 0 0, .slice none 0 0, .int .i64 0] 29))
 have BR0 := blk_new (w.alloc (.cells #[.int .i64 x.now, .slice Ap x.cl.length cp, .slice Ac x.cl.length cc, .slice Am x.mu.length cm, .slice At (tableOf x.sem).length ct, .int .i64 x.stop] 29)) (.cells #[.int .i64 0, .slice none 0 0, .slice none 0 0, .slice none 0 0, .slice none 0 0, .int .i64 0] 29)
 rw [World.size_alloc] at BR0
 have BR := ak_ BR0
 clear BR0
 have BB := ak_ (bel2 (bel2 (Below.refl _ w) (.cells #[.int .i64 x.now, .slice Ap x.cl.length cp, .slice Ac x.cl.length cc, .slice Am x.mu.length cm, .slice At (tableOf x.sem).length ct, .int .i64 x.stop] 29)) (.cells #[.int .i64 0, .slice none 0 0, .slice none 0 0, .slice none 0 0, .slice none 0 0, .int .i64 0] 29))
 have BF0 := blk_new w (.cells #[.int .i64 x.now, .slice Ap x.cl.length cp, .slice Ac x.cl.length cc, .slice Am x.mu.length cm, .slice At (tableOf x.sem).length ct, .int .i64 x.stop] 29)
 have HE := ak_ (step_stay (x := x) (who := who) (by
  rcases hs with q | ⟨_, q⟩ | ⟨_, _, q⟩ | ⟨i, z, _, rfl, hz, q⟩
  ·exact .inl q
  ·exact .inr (.inl q)
  ·exact .inr (.inr (.inl q))
  ·exact .inr (.inr (.inr ⟨z, by simpa using hz, q⟩))))
 have hcl : x.cl.length ≤ 8 := G.out.cl
 go_enter Tryz.func9, Tryz.ntmps9
 go_wp2_with fail
 refine (P1.out _ BB.out).mono ?_
 rintro e w2 ⟨rfl, hb2⟩
 have BK2 := ak_ (blk_below BK.out hb2)
 have BR2 := ak_ (blk_below BR.out hb2)
 have BB2 := ak_ (bel3 BB.out hb2)
 clear hb2 BK BB BR BF0 P1
 have a0 : w2.cell? ⟨w.heap.size, 0, none⟩ = some (.int .i64 x.now) := blk_cell BK2.out 0
 have a1 : w2.cell? ⟨w.heap.size, 1, none⟩ = some (.slice Ap x.cl.length cp) := blk_cell BK2.out 1
 have a2 : w2.cell? ⟨w.heap.size, 2, none⟩ = some (.slice Ac x.cl.length cc) := blk_cell BK2.out 2
 have a3 : w2.cell? ⟨w.heap.size, 3, none⟩ = some (.slice Am x.mu.length cm) := blk_cell BK2.out 3
 have a4 : w2.cell? ⟨w.heap.size, 4, none⟩ = some (.slice At (tableOf x.sem).length ct) := blk_cell BK2.out 4
 have a5 : w2.cell? ⟨w.heap.size, 5, none⟩ = some (.int .i64 x.stop) := blk_cell BK2.out 5
 have z0 : w2.cell? ⟨w.heap.size + 1, 0, none⟩ = some (.int .i64 0) := blk_cell BR2.out 0
 have fz0 : w2.frozen? ⟨w.heap.size + 1, 0, none⟩ = false := blk_frozen BR2.out 0
 have z1 : w2.cell? ⟨w.heap.size + 1, 1, none⟩ = some (.slice none 0 0) := blk_cell BR2.out 1
 have fz1 : w2.frozen? ⟨w.heap.size + 1, 1, none⟩ = false := blk_frozen BR2.out 1
 have z2 : w2.cell? ⟨w.heap.size + 1, 2, none⟩ = some (.slice none 0 0) := blk_cell BR2.out 2
 have fz2 : w2.frozen? ⟨w.heap.size + 1, 2, none⟩ = false := blk_frozen BR2.out 2
 have z3 : w2.cell? ⟨w.heap.size + 1, 3, none⟩ = some (.slice none 0 0) := blk_cell BR2.out 3
 have fz3 : w2.frozen? ⟨w.heap.size + 1, 3, none⟩ = false := blk_frozen BR2.out 3
 have z4 : w2.cell? ⟨w.heap.size + 1, 4, none⟩ = some (.slice none 0 0) := blk_cell BR2.out 4
 have fz4 : w2.frozen? ⟨w.heap.size + 1, 4, none⟩ = false := blk_frozen BR2.out 4
 have z5 : w2.cell? ⟨w.heap.size + 1, 5, none⟩ = some (.int .i64 0) := blk_cell BR2.out 5
 have fz5 : w2.frozen? ⟨w.heap.size + 1, 5, none⟩ = false := blk_frozen BR2.out 5
 have END : ∀ (e : Ending), e = .returned (.tuple #[.agg #[.int .i64 x.now, .slice Ap x.cl.length cp, .slice Ac x.cl.length cc, .slice Am x.mu.length cm, .slice At (tableOf x.sem).length ct, .int .i64 x.stop], .slice none 0 0, .int .i64 0]) → StepOk S x who w e ((((((w2.setCell ⟨w.heap.size + 1, 0, none⟩ (.int .i64 x.now)).setCell ⟨w.heap.size + 1, 1, none⟩ (.slice Ap x.cl.length cp)).setCell ⟨w.heap.size + 1, 2, none⟩ (.slice Ac x.cl.length cc)).setCell ⟨w.heap.size + 1, 3, none⟩ (.slice Am x.mu.length cm)).setCell ⟨w.heap.size + 1, 4, none⟩ (.slice At (tableOf x.sem).length ct)).setCell ⟨w.heap.size + 1, 5, none⟩ (.int .i64 x.stop)) := fun e he =>
  ⟨_, _, _, _, _, _, _, he, below6 BB2.out (Nat.le_succ w.heap.size) _ _ _ _ _ _, by rw [HE.out]; exact ⟨Ap, Ac, Am, At, cp, cc, cm, ct, rfl, fun W hk => HWS.out W ((Kept.of_below (below6 BB2.out (Nat.le_succ w.heap.size) _ _ _ _ _ _) S).then_ hk (fun _ q => .inl q))⟩, by rw [HE.out]; exact fun W _ => Sl.nil_ _ _⟩
 have EA := ak_ END
 have RS := ak_ (set6 BR2.out (.int .i64 x.now) (.slice Ap x.cl.length cp) (.slice Ac x.cl.length cc) (.slice Am x.mu.length cm) (.slice At (tableOf x.sem).length ct) (.int .i64 x.stop))
 clear END
 rcases hs with q | ⟨q0, q⟩ | ⟨q0, q1, q⟩ | ⟨i, z, q0, rfl, hz, q⟩
 ·have hb : (x.stop != 0) = true := by simpa using q
  go_wp2
  refine bodyPost_ret (results_ctt rfl _ _ (w.heap.size + 1) 29 _ (0, 0) _ rfl RS.out Tryz.underlying29 rfl (by kernel_rfl)) rfl ?_
  exact EA.out _ rfl
 ·rw [q0] at a5 EA RS
  go_wp2
  refine bodyPost_ret (results_ctt rfl _ _ (w.heap.size + 1) 29 _ (0, 0) _ rfl RS.out Tryz.underlying29 rfl (by kernel_rfl)) rfl ?_
  exact EA.out _ rfl
 ·rw [q0] at a5 EA RS
  go_wp2
  refine bodyPost_ret (results_ctt rfl _ _ (w.heap.size + 1) 29 _ (0, 0) _ rfl RS.out Tryz.underlying29 rfl (by kernel_rfl)) rfl ?_
  exact EA.out _ rfl
 ·rw [q0] at a5 EA RS
  have hlt := (List.getElem?_eq_some_iff.1 hz).1
  have hil : ¬ ((x.cl.length : Int) ≤ (i : Int)) := by omega
  have hil2 : (i : Int) < (x.cl.length : Int) := by omega
  obtain ⟨adc, hec, y0, yj⟩ := flat_cells HW.out.c i z.c (by rw [List.getElem?_map, hz]; rfl)
  cases hec
  have y0 := y0 _ rfl
  replace y0 := (BB2.out.cell (World.block_lt_of_cell? w _ y0)).trans y0
  clear yj hz
  have hb : (z.c.gor.state != 0) = true := by simpa using q
  go_wp2
  refine bodyPost_ret (results_ctt rfl _ _ (w.heap.size + 1) 29 _ (0, 0) _ rfl RS.out Tryz.underlying29 rfl (by kernel_rfl)) rfl ?_
  exact EA.out _ rfl
structure Ax (k : Blk) (s : Sx) (x : M.W) (i : Nat) (z : M.PC) : Prop where
 c : s.c = z.c
 mu : s.mu = x.mu
 cl : s.cl = x.cl.map (·.c)
 tab : s.tab = tableOf x.sem
 now : s.now = x.now
 who : s.who = (i : Int)
 ov : s.over = false
 ev : s.ev = .slice none 0 0
 evs : s.evs = []
 st : s.stop = 0
 pv : ∃ A n c, s.pv = .slice A n c
 cv : ∃ c, s.cv = .slice (some ⟨k.cb, 0, none⟩) s.cl.length c
 mv : ∃ A n c, s.mv = .slice A n c
 at_ : z.cur.kind ≠ 3 → s.at_ = z.cur.n ∧ s.mp = .pointer (some ⟨k.mb, z.cur.n.toNat * 3, none⟩)
structure Tl (s : Sx) (x : M.W) (i : Nat) (z : M.PC) (s1 : Sx) : Prop where
 act : s1.c.act = z.c.act
 gor : s1.over = true → s1.c.gor = ⟨0, false⟩
 now : s1.now = s.now
 pv : s1.pv = s.pv
 cv : s1.cv = s.cv
 mv : s1.mv = s.mv
 row : ∃ c, s1.cl[i]? = some c
 m : s1.mu = (M.stepAt x i z).1.mu
 t : s1.tab = tableOf (M.stepAt x i z).1.sem
 stop : s1.stop = (M.stepAt x i z).1.stop
 n : x.now = (M.stepAt x i z).1.now
 cl : (M.stepAt x i z).1.cl.map (·.c) = s1.cl.set i (M.fin z.prog s1.c s1.over)
 pr : (M.stepAt x i z).1.cl.map (·.prog) = x.cl.map (·.prog)
 evs : s1.evs = (M.stepAt x i z).2
 ml : (M.stepAt x i z).1.mu.length = x.mu.length
theorem run_any {B : Nat} {k : Blk} {s : Sx} {w : World} (h : St B k s w) {x : M.W} (g : M.Good x) {i : Nat} {z : M.PC} (a : Ax k s x i z) (hz : x.cl[i]? = some z) (hr : z.c.gor.state = 0) (hst : x.stop = 0) :
  Calls Tryz.prog 23 #[.pointer (some ⟨k.sp, 0, none⟩), .agg #[.int .i64 z.cur.kind, .int .i64 z.cur.n]] w (RunOk B k (Tl s x i z) w) := by
 have C := g.c i z hz
 have hlt : z.c.act < z.prog.length := by
  have := C.done
  have := C.a1
  omega
 have hok := M.cur_ok (g.progs i z hz) C.a0 hlt
 have hg : z.c.gor = ⟨0, false⟩ := by
  have h2 := C.permit
  cases hgg : z.c.gor with
  | mk a b =>
   rw [hgg] at hr h2
   simp only at hr h2
   rw [hr, h2]
 obtain ⟨k0, k3, n0, n3, n4⟩ := hok
 by_cases hk : z.cur.kind = 3
 ·rw [hk]
  have hw : 0 ≤ s.c.worked ∧ s.c.worked ≤ 1000000000 := by
   rw [a.c]
   have h1 := C.wk0
   have h2 := n3 hk
   have h3 := C.wk1
   omega
  refine (run_work h z.cur.n a.ov hw).mono ?_
  rintro e w' ⟨rfl, hb, s1, rfl, h1⟩
  refine ⟨rfl, hb, _, ?_, h1⟩
  have e1 : M.stepAt x i z = ({ x with cl := x.cl.set i ⟨z.prog, M.fin z.prog { z.c with worked := z.c.worked + 1 } (decide (z.cur.n ≤ z.c.worked + 1))⟩ }, []) := by
   unfold M.stepAt
   rw [if_pos hk]
  refine ⟨by simp only [a.c], by intro _; simp only [a.c]; exact hg, rfl, rfl, rfl, rfl, ?_, by rw [e1]; exact a.mu, by rw [e1]; exact a.tab, by rw [e1]; simp only [a.st, hst], by rw [e1], ?_, ?_, by rw [e1]; exact a.evs, by rw [e1]⟩
  ·exact ⟨z.c, by simp only [a.cl]; rw [List.getElem?_map, hz]; rfl⟩
  ·rw [e1]
   simp only [a.cl, a.c]
   rw [List.map_set]
  ·rw [e1]
   simp only []
   rw [List.map_set]
   exact set_self (by rw [List.getElem?_map, hz]; rfl)
 ·have hm : M.mx z.cur.n z = true := by
   unfold M.mx
   simp [hlt, hk]
  have hn : z.cur.n = (z.cur.n.toNat : Int) := by omega
  have m4 : z.cur.n.toNat < 4 := by have := n4 hk; omega
  obtain ⟨a1, a2⟩ := a.at_ hk
  have b : Bx k s x i z z.cur.n.toNat := ⟨a.c, a.mu, a.cl, a.tab, a.now, a.who, by rw [a1]; exact hn, a2, a.ov, a.ev, a.evs, a.st, a.pv, a.cv, a.mv⟩
  refine (run_mutex h g b hz hr m4 (by rw [← hn]; exact hm) z.cur.n hk).mono ?_
  rintro e w' ⟨rfl, hb, s1, hR, h1⟩
  refine ⟨rfl, hb, s1, ?_, h1⟩
  have F := M.atR_fine (M.runs x.cl) (at_of g hz hr m4 (by rw [← hn]; exact hm)) (by omega)
  obtain ⟨r, hr0⟩ : ∃ r, r = M.atR (M.runs x.cl) x.now i z.cur.kind z.c (x.mu.getD z.cur.n.toNat default) (x.sem.getD z.cur.n.toNat default) := ⟨_, rfl⟩
  rw [← hr0] at hR F
  have e1 : M.stepAt x i z = ({ x with cl := (M.wake x.cl r.wake).set i ⟨z.prog, M.fin z.prog r.c r.over⟩, mu := x.mu.set z.cur.n.toNat r.x, sem := x.sem.set z.cur.n.toNat r.s, stop := r.stop }, match r.ev with | none => [] | some k => [⟨i, k, z.cur.n⟩]) := by
   unfold M.stepAt
   rw [if_neg hk]
   simp only [← hr0]
   cases r.ev <;> rfl
  refine ⟨by rw [hR.c]; exact F.act, fun q => by rw [hR.c, F.gor (by rw [← hR.over]; exact q)]; exact hg, hR.now, hR.pv, hR.cv, hR.mv, ?_, by rw [e1, hR.mu, a.mu], by rw [e1, hR.tab], by rw [e1, hR.stop], by rw [e1], ?_, ?_, ?_, by rw [e1]; simp⟩
  ·rw [hR.cl, a.cl, ← wake_c]
   obtain ⟨y, hy, _⟩ := wake_row x.cl i z hz r.wake
   exact ⟨y.c, by rw [List.getElem?_map, hy]; rfl⟩
  ·rw [e1, hR.cl, a.cl, hR.c, hR.over]
   exact set_c _ _ _ _ _
  ·rw [e1]
   exact set_prog _ _ _ hz _ _
  ·rw [e1, hR.evs]
   unfold evsOf
   cases r.ev with
   | none => rfl
   | some kd => simp only [a.who, a1]
end Go.Proofs.YtoimfknjfeencaaGreatDoor.Hand
end
