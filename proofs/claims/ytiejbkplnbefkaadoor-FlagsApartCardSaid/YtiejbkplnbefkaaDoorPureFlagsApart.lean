/- The plain law of FlagsApart: for all words and flags the law function answers true: two words are the same just if their flags are, and their texts; of unlike flags that may be the words are unlike. No conditions beyond those of the given statement. -/
import Derived.Test.YtiejbkplnbefkaaDoorPFlagsApartx2
import Derived.Test.YtiejbkplnbefkaaDoorPlain
namespace Go.Proofs.YtiejbkplnbefkaaDoor.Pure
open Go.RowKit Go.Proofs.YtiejbkplnbefkaaDoor.PFlagsApart Go.Proofs.YtiejbkplnbefkaaDoorW.PrintWords Go.Proofs.YtiejbkplnbefkaaDoorW.PrintLast Go.Proofs.YtiejbkplnbefkaaDoorW.PrintMore Go.Proofs.YtiejbkplnbefkaaDoor.Hand
namespace FlagsApartAid

theorem alive_f : deadboltlaw03_alive.f = some true := by
  unfold deadboltlaw03_alive.f flags_Text.f
  have h : isW 29 = true := by decide
  have h3 : Lib.itoa (29 / 8) = [51] := by
    show Lib.itoa 3 = [51]
    unfold Lib.itoa
    rw [if_neg (by omega)]
    exact Lib.decDigits_one (i := 3) (by omega)
  rw [if_pos h]
  simp only [Option.bind_some, if_true]
  rw [text_toList, h3]
  decide
theorem packs (a b c a' b' c' : Bool) (n n' : Int) (k : Nat) : deadboltlaw03_FlagsApart.j0 (k + 1) false a b c n a' b' c' n' = some true := by
  simp only [deadboltlaw03_FlagsApart.j0, Bool.false_eq_true, if_false, flags_Pack.f, Option.bind_some, alive_f, if_true]
  by_cases h : 0 ≤ n ∧ n ≤ 268435455
  · by_cases h' : 0 ≤ n' ∧ n' ≤ 268435455
    · simp only [if_pos h, if_pos h', if_true]
      rw [packed_eq]
      simp
    · simp only [if_pos h, if_neg h', if_true]
      simp
  · simp only [if_neg h]
    simp
theorem flags_same (v w : Int) : (bitOf v 0 == bitOf w 0 && (bitOf v 1 == bitOf w 1 && (bitOf v 2 == bitOf w 2 && (v / 8 == w / 8)))) = (v == w) := by
  rw [Bool.eq_iff_iff]
  simp only [Bool.and_eq_true, beq_iff_eq]
  constructor
  · rintro ⟨h0, h1, h2, h3⟩; exact word_eq v w h0 h1 h2 h3
  · rintro rfl; exact ⟨rfl, rfl, rfl, rfl⟩
theorem texts_same {v w : Int} (hv : isW v = true) (hw : isW w = true) : ((textOf v).toList == (textOf w).toList) = (v == w) := by
  rw [Bool.eq_iff_iff]
  simp only [beq_iff_eq]
  exact ⟨text_inj hv hw, fun h => by rw [h]⟩

end FlagsApartAid
open FlagsApartAid
theorem FlagsApart (a0 a1 : Int) (a2_0 a2_1 a2_2 : Bool) (a2_3 : Int) (a3_0 a3_1 a3_2 : Bool) (a3_3 : Int) : deadboltlaw03_FlagsApart.f 6 a0 a1 a2_0 a2_1 a2_2 a2_3 a3_0 a3_1 a3_2 a3_3 = some true := by
  unfold deadboltlaw03_FlagsApart.f flags_Unpack.f flags_Text.f
  simp only [Option.bind_some]
  by_cases hv : isW a0 = true
  · by_cases hw : isW a1 = true
    · simp only [if_pos hv, if_pos hw, if_true]
      rw [flags_same, texts_same hv hw]
      simp only [bne_self_eq_false, Bool.false_eq_true, if_false]
      exact packs _ _ _ _ _ _ _ _ 5
    · simp only [if_pos hv, if_neg hw, if_true]
      exact packs _ _ _ _ _ _ _ _ 5
  · simp only [if_neg hv]
    exact packs _ _ _ _ _ _ _ _ 5

end Go.Proofs.YtiejbkplnbefkaaDoor.Pure
