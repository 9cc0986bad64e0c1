/- The plain law of ProgBack: for all inputs the law function answers true: what is printed, if it is not too long, is parsed as it was; what is parsed may be, and is printed, and parsed, as it was. No conditions beyond those of the given statement. -/
import Derived.Test.YtfebhemdpbnebaaDoorPureProgBackB
namespace Go.Proofs.YtfebhemdpbnebaaDoor.Pure
open Go.RowKit Go.Proofs.YtfebhemdpbnebaaDoor.PProgBack Go.Proofs.YtfebhemdpbnebaaDoorW.PrintWords Go.Proofs.YtfebhemdpbnebaaDoorW.PrintLast Go.Proofs.YtfebhemdpbnebaaDoorW.PrintMore Go.Proofs.YtfebhemdpbnebaaDoor.Hand
set_option linter.unusedVariables false
set_option linter.unusedSimpArgs false
namespace ProgBackAid


end ProgBackAid
open ProgBackAid
theorem back_j0 (x : ByteArray) (k : Nat) (hk : 20000 ≤ k) : deadboltlaw12_ProgBack.j0 (k + 1) x = some true := by
  simp only [deadboltlaw12_ProgBack.j0]
  rw [parse_v x k hk]
  simp only [Option.bind_some]
  obtain ⟨h1, h2⟩ := parseV_ok x.data.toList
  generalize parseV x.data.toList = r at h1 h2
  by_cases he : r.2.2 = 0
  · have hok := h1 he
    obtain ⟨z8, z64⟩ := ps_sizes r.1 hok
    rw [if_pos he]
    unfold prog_Print.f prog_Right.f
    rw [if_pos hok, alive_any k (by omega), hok]
    simp only [Option.bind_some, if_true]
    rw [parse_text r.1 hok k hk]
    simp only [Option.bind_some]
    by_cases hz : (textB r.1).size > 2000
    · rw [if_pos (by omega)]
    · rw [if_neg (by omega), if_neg hz]
      simp only [if_true]
      rw [Same_self r.1 64 (by decide) z64 (by omega) k (by omega)]
      rfl
  · rw [if_neg he, alive_any k (by omega), h2 he]
    rfl
theorem ProgBackAny (k : Nat) (hk : 20001 ≤ k) (l0 : List (List S32)) (a1 : ByteArray) : deadboltlaw12_ProgBack.f k l0 a1 = some true := by
  obtain ⟨x, h1, hx, hrows⟩ := few_f l0 k (by omega)
  have hj : ∀ s : ByteArray, deadboltlaw12_ProgBack.j0 k s = some true := fun s => by
    obtain ⟨k, rfl⟩ : ∃ q, k = q + 1 := ⟨k - 1, by omega⟩
    exact back_j0 s k (by omega)
  have hm := mn_nat a1.size 2100
  simp only [Int.cast_ofNat_Int] at hm
  unfold deadboltlaw12_ProgBack.f prog_Print.f
  rw [h1]
  simp only [Option.bind_some]
  rw [if_pos hm.1, if_pos hm.2.1, hj]
  by_cases hok : okPs x = true
  · obtain ⟨z8, z64⟩ := ps_sizes x hok
    rw [if_pos hok]
    simp only [if_true]
    rw [parse_text x hok k (by omega)]
    simp only [Option.bind_some]
    by_cases hz : (textB x).size > 2000
    · rw [if_pos hz, if_pos (by omega)]
      rfl
    · rw [if_neg hz, if_neg (by omega)]
      simp only [if_true]
      rw [Same_self x 64 (by decide) z64 (by omega) k (by omega)]
      rfl
  · rw [if_neg hok]
    rfl
theorem ProgBack (l0 : List (List S32)) (a1 : ByteArray) : deadboltlaw12_ProgBack.f (30000 + 10) l0 a1 = some true := ProgBackAny (30000 + 10) (by omega) l0 a1

end Go.Proofs.YtfebhemdpbnebaaDoor.Pure
