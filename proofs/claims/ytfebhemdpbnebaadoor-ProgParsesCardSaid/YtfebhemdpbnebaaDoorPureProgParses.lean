/- The plain law of ProgParses: for all inputs the law function answers true: the programs of any text, or its first line that is wrong, and why, are as the document says. No conditions beyond those of the given statement. -/
import Derived.Test.YtfebhemdpbnebaaDoorPureProgParsesC
namespace Go.Proofs.YtfebhemdpbnebaaDoor.Pure
open Go.RowKit Go.Proofs.YtfebhemdpbnebaaDoor.PProgParses Go.Proofs.YtfebhemdpbnebaaDoorW.PrintWords Go.Proofs.YtfebhemdpbnebaaDoorW.PrintLast Go.Proofs.YtfebhemdpbnebaaDoorW.PrintMore Go.Proofs.YtfebhemdpbnebaaDoor.Hand
set_option linter.unusedVariables false
namespace ProgParsesAid

/-! ### Three acts -/
theorem numv_one (n : Int) (h0 : 0 ≤ n) (h1 : n < 10) (b : UInt8) (hb : b = UInt8.ofNat (48 + n.toNat)) : numv [b] = some n := by
  refine (numv_iff _ _).2 ⟨h0, by omega, ?_⟩
  rw [itoa_pos n h0, Lib.decDigits_one (by omega), hb]
theorem act_lock : actv [108, 111, 99, 107, 32, 48] = (0, 0, 0) := by
  unfold actv
  have hc : Lib.cut [108, 111, 99, 107, 32, 48] [32] = (kLock, [48], true) := by decide
  rw [hc]
  simp only []
  rw [show kindOf kLock = some 0 by decide]
  simp only []
  rw [if_neg (by decide), numv_one 0 (by decide) (by decide) 48 rfl]
  rfl
theorem act_work : actv [119, 111, 114, 107, 32, 53] = (3, 5, 0) := by
  unfold actv
  have hc : Lib.cut [119, 111, 114, 107, 32, 53] [32] = (kWork, [53], true) := by decide
  rw [hc]
  simp only []
  rw [show kindOf kWork = some 3 by decide]
  simp only []
  rw [if_neg (by decide), numv_one 5 (by decide) (by decide) 53 rfl]
  rfl
theorem act_unlock : actv [117, 110, 108, 111, 99, 107, 32, 48] = (2, 0, 0) := by
  unfold actv
  have hc : Lib.cut [117, 110, 108, 111, 99, 107, 32, 48] [32] = (kUnlock, [48], true) := by decide
  rw [hc]
  simp only []
  rw [show kindOf kUnlock = some 2 by decide]
  simp only []
  rw [if_neg (by decide), numv_one 0 (by decide) (by decide) 48 rfl]
  rfl
def three : ByteArray := ⟨#[108, 111, 99, 107, 32, 48, 59, 32, 119, 111, 114, 107, 32, 53, 59, 32, 117, 110, 108, 111, 99, 107, 32, 48]⟩
def pieces3 : List ByteArray := [⟨#[108, 111, 99, 107, 32, 48]⟩, ⟨#[119, 111, 114, 107, 32, 53]⟩, ⟨#[117, 110, 108, 111, 99, 107, 32, 48]⟩]
theorem acts3 (k : Nat) : prog_acts.f (k + 4) pieces3 = some ([(⟨0, 0⟩ : S32), ⟨3, 5⟩, ⟨2, 0⟩], 0) := by
  unfold prog_acts.f
  have e0 : rdOf ByteArray.empty pieces3 0 = ⟨#[108, 111, 99, 107, 32, 48]⟩ := rfl
  have e1 : rdOf ByteArray.empty pieces3 1 = ⟨#[119, 111, 114, 107, 32, 53]⟩ := rfl
  have e2 : rdOf ByteArray.empty pieces3 2 = ⟨#[117, 110, 108, 111, 99, 107, 32, 48]⟩ := rfl
  have hl : (pieces3.length : Int) = 3 := rfl
  have a0 : prog_act.f ⟨#[108, 111, 99, 107, 32, 48]⟩ = some (0, 0, 0) := (act_f _ (by decide)).trans (congrArg some act_lock)
  have a1 : prog_act.f ⟨#[119, 111, 114, 107, 32, 53]⟩ = some (3, 5, 0) := (act_f _ (by decide)).trans (congrArg some act_work)
  have a2 : prog_act.f ⟨#[117, 110, 108, 111, 99, 107, 32, 48]⟩ = some (2, 0, 0) := (act_f _ (by decide)).trans (congrArg some act_unlock)
  have w1 : wrap64 (0 + 1) = 1 := by (unfold wrap64; omega)
  have w2 : wrap64 (1 + 1) = 2 := by (unfold wrap64; omega)
  have w3 : wrap64 (2 + 1) = 3 := by (unfold wrap64; omega)
  rw [hl]
  simp only [prog_acts.l0, e0, e1, e2, a0, a1, a2, w1, w2, w3, hl, Option.bind_some]
  simp
theorem parse3 (k : Nat) : prog_Parse.f (k + 10) three = some ([[(⟨0, 0⟩ : S32), ⟨3, 5⟩, ⟨2, 0⟩]], 0, 0) := by
  unfold prog_Parse.f
  have hne : ¬ three.toList = ([] : List UInt8) := by rw [Lib.toList_data]; decide
  have hts : strings_TrimSuffix.f three (⟨#[10]⟩ : ByteArray) = some three := by
    unfold strings_TrimSuffix.f
    rw [if_pos (by decide)]
    rfl
  have hs1 : Lib.splitB ⟨#[10]⟩ 0 (Lib.countB three ⟨#[10]⟩) three = [three] := map_data_inj ((split1 three).trans (by decide))
  have hs2 : Lib.splitB ⟨#[59, 32]⟩ 0 (Lib.countB three ⟨#[59, 32]⟩) three = pieces3 := map_data_inj ((split2 three).trans (by simp [three, pieces3, cut2]))
  rw [if_neg (by decide), if_neg hne, hts]
  simp only [Option.bind_some]
  rw [split_some _ (by decide) _ (by decide), hs1]
  simp only [Option.bind_some, prog_Parse.j0]
  have hl : (([three] : List ByteArray).length : Int) = 1 := rfl
  have e0 : rdOf ByteArray.empty [three] 0 = three := rfl
  have w1 : wrap64 (0 + 1) = 1 := by (unfold wrap64; omega)
  rw [hl]
  simp only [prog_Parse.l0, e0, hne, split_some three (by decide) ⟨#[59, 32]⟩ (by decide), hs2, Option.bind_some, acts3, w1, hl, if_false]
  simp
theorem alive_f (k : Nat) : deadboltlaw12_alive.f (k + 10) = some true := by
  unfold deadboltlaw12_alive.f
  have hp := parse3 k
  unfold three at hp
  rw [hp]
  simp only [Option.bind_some]
  have ht : prog_Tidy.f (k + 10) [(⟨0, 0⟩ : S32), ⟨3, 5⟩, ⟨2, 0⟩] = some true := by
    have w1 : wrap64 (0 + 1) = 1 := by (unfold wrap64; omega)
    have w2 : wrap64 (1 + 1) = 2 := by (unfold wrap64; omega)
    have w3 : wrap64 (2 + 1) = 3 := by (unfold wrap64; omega)
    have r0 : rd_T32 [(⟨0, 0⟩ : S32), ⟨3, 5⟩, ⟨2, 0⟩] 0 = ⟨0, 0⟩ := rfl
    have r1 : rd_T32 [(⟨0, 0⟩ : S32), ⟨3, 5⟩, ⟨2, 0⟩] 1 = ⟨3, 5⟩ := rfl
    have r2 : rd_T32 [(⟨0, 0⟩ : S32), ⟨3, 5⟩, ⟨2, 0⟩] 2 = ⟨2, 0⟩ := rfl
    have q0 : rd [(0 : Int)] 0 = 0 := rfl
    unfold prog_Tidy.f
    simp only [prog_Tidy.l0, slices_Equal_int_int.f, slices_Equal_int_int.l0, List.length_cons, List.length_nil, w1, w2, w3, r0, r1, r2, q0]
    simp
  have hr : rd_L4 [[(⟨0, 0⟩ : S32), ⟨3, 5⟩, ⟨2, 0⟩]] 0 = [(⟨0, 0⟩ : S32), ⟨3, 5⟩, ⟨2, 0⟩] := rfl
  have r1 : rd_T32 [(⟨0, 0⟩ : S32), ⟨3, 5⟩, ⟨2, 0⟩] 1 = ⟨3, 5⟩ := rfl
  simp only [hr, r1, ht, Option.bind_some]
  simp

end ProgParsesAid
open ProgParsesAid
theorem ProgParses : deadboltlaw12_ProgParses.Pure := by
  intro a0 _
  refine ⟨30010, ?_⟩
  unfold deadboltlaw12_ProgParses.f
  have hm : 0 ≤ mn (a0.size : Int) 2100 ∧ mn (a0.size : Int) 2100 ≤ (a0.size : Int) ∧ mn (a0.size : Int) 2100 ≤ 2100 := by
    unfold mn
    split <;> omega
  rw [if_pos hm.1, if_pos hm.2.1, alive_f 30000]
  have hz : (a0.extract 0 (mn (a0.size : Int) 2100).toNat).size ≤ 2100 := by
    rw [ByteArray.size_extract]
    omega
  generalize a0.extract 0 (mn (a0.size : Int) 2100).toNat = s at hz
  obtain ⟨⟨r, n, e⟩, h1, h2⟩ := parse_eq s (by omega) 30010 30010 (by omega) (by omega)
  obtain ⟨hr, hm2⟩ := parse_len s 30010 r n e h1
  rw [h1, h2]
  simp only [Option.bind_some, if_true]
  rw [Same_self r 64 (by decide) hm2 (by omega) 30010 (by omega)]
  rfl

end Go.Proofs.YtfebhemdpbnebaaDoor.Pure
