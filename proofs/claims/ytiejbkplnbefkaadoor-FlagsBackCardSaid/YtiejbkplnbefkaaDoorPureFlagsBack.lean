/- The plain law of FlagsBack: for all inputs the law function answers true: what is packed is unpacked as it was, a text is read as it was written, more who wait change no bit, and as many less are as before. No conditions beyond those of the given statement. -/
import Derived.Test.YtiejbkplnbefkaaDoorPFlagsBackx2
import Derived.Test.YtiejbkplnbefkaaDoorPlainB
namespace Go.Proofs.YtiejbkplnbefkaaDoor.Pure
open Go.RowKit Go.Proofs.YtiejbkplnbefkaaDoor.PFlagsBack Go.Proofs.YtiejbkplnbefkaaDoorW.PrintWords Go.Proofs.YtiejbkplnbefkaaDoorW.PrintLast Go.Proofs.YtiejbkplnbefkaaDoorW.PrintMore Go.Proofs.YtiejbkplnbefkaaDoor.Hand
namespace FlagsBackAid

theorem alive_f : deadboltlaw03_alive.f = some true := by
  unfold deadboltlaw03_alive.f flags_Text.f
  have h : isW 29 = true := by decide
  have h3 : Lib.itoa (29 / 8) = [51] := by
    show Lib.itoa 3 = [51]
    unfold Lib.itoa
    rw [if_neg (by omega)]
    exact Lib.decDigits_one (i := 3) (by omega)
  rw [if_pos h]
  simp only [Option.bind_some, if_true]
  rw [text_toList, h3]
  decide
theorem wr (x : Int) (h0 : -9223372036854775808 ≤ x) (h1 : x ≤ 9223372036854775807) : wrap64 x = x := by unfold wrap64; omega
theorem num_sum : ∀ a b c : Bool, (num a 1 ||| num b 2 ||| num c 4) = num a 1 + num b 2 + num c 4 := by decide
theorem bitv (a : Int) (i : Nat) (k : Nat) : ((num (bitOf a i) k : Nat) : Int) = a / 2 ^ i % 2 * k := by
  unfold num
  by_cases h : bitOf a i = true
  · rw [if_pos h, (bit_iff a i).1 h]; omega
  · rw [if_neg h]
    have := mt (bit_iff a i).2 h
    rcases Int.emod_two_eq (a / 2 ^ i) with e | e
    · rw [e]; omega
    · exact absurd e this
theorem packed (a : Int) : 8 * (a / 8) + ((num (bitOf a 0) 1 ||| num (bitOf a 1) 2 ||| num (bitOf a 2) 4 : Nat) : Int) = a := by
  rw [num_sum]
  have e0 := bitv a 0 1
  have e1 := bitv a 1 2
  have e2 := bitv a 2 4
  simp only [show (2 : Int) ^ 2 = 4 from rfl, show (2 : Int) ^ 1 = 2 from rfl, show (2 : Int) ^ 0 = 1 from rfl, Int.ediv_one] at e0 e1 e2
  omega
def waits (a d : Int) : Int × Int := if isW a = true then (if d > 268435455 - a / 8 then (0, 10) else if d < -(a / 8) then (0, 10) else (a + 8 * d, 0)) else (0, 1)
theorem waits_f (a d : Int) : flags_Waits.f a d = some (waits a d) := by
  unfold flags_Waits.f flags_Unpack.f waits
  simp only [Option.bind_some]
  by_cases h : isW a = true
  · have hr := (isW_iff a).1 h
    simp only [if_pos h, if_true]
    rw [wr (268435455 - a / 8) (by omega) (by omega), wr (-(a / 8)) (by omega) (by omega)]
    by_cases h1 : d > 268435455 - a / 8
    · rw [if_pos h1, if_pos h1]
    · rw [if_neg h1, if_neg h1]
      by_cases h2 : d < -(a / 8)
      · rw [if_pos h2, if_pos h2]
      · rw [if_neg h2, if_neg h2, wr (a / 8 + d) (by omega) (by omega)]
        unfold flags_Pack.f
        rw [if_pos (by omega)]
        simp only [Option.bind_some]
        have := packed a
        rw [show 8 * (a / 8 + d) + ((num (bitOf a 0) 1 ||| num (bitOf a 1) 2 ||| num (bitOf a 2) 4 : Nat) : Int) = a + 8 * d by omega]
  · simp only [if_neg h]
    rfl
theorem bits_more (a d : Int) : bitOf (a + 8 * d) 0 = bitOf a 0 ∧ bitOf (a + 8 * d) 1 = bitOf a 1 ∧ bitOf (a + 8 * d) 2 = bitOf a 2 := by
  refine ⟨?_, ?_, ?_⟩ <;> (unfold bitOf; congr 1; simp only [show (2 : Int) ^ 2 = 4 from rfl, show (2 : Int) ^ 1 = 2 from rfl, show (2 : Int) ^ 0 = 1 from rfl, Int.ediv_one]; omega)
theorem unpacked (b0 b1 b2 : Bool) (n : Int) (h : 0 ≤ n ∧ n ≤ 268435455) : flags_Unpack.f (8 * n + ((num b0 1 ||| num b1 2 ||| num b2 4 : Nat) : Int)) = some (b0, b1, b2, n, 0) := by
  have hw := pack_word b0 b1 b2 n h
  have hp := packed (8 * n + ((num b0 1 ||| num b1 2 ||| num b2 4 : Nat) : Int))
  have q := packed_eq (bitOf (8 * n + ((num b0 1 ||| num b1 2 ||| num b2 4 : Nat) : Int)) 0) (bitOf (8 * n + ((num b0 1 ||| num b1 2 ||| num b2 4 : Nat) : Int)) 1) (bitOf (8 * n + ((num b0 1 ||| num b1 2 ||| num b2 4 : Nat) : Int)) 2) b0 b1 b2 ((8 * n + ((num b0 1 ||| num b1 2 ||| num b2 4 : Nat) : Int)) / 8) n
  rw [beq_iff_eq.2 hp] at q
  have q' := q.symm
  simp only [Bool.and_eq_true, beq_iff_eq] at q'
  obtain ⟨e0, e1, e2, e3⟩ := q'
  unfold flags_Unpack.f
  rw [if_pos hw, e0, e1, e2, e3]
theorem j1_ok (k : Nat) (a d : Int) (h : isW a = true) : deadboltlaw03_FlagsBack.j1 (k + 1) a d false (bitOf a 0) (bitOf a 1) (bitOf a 2) (a / 8) = some true := by
  have hr := (isW_iff a).1 h
  simp only [deadboltlaw03_FlagsBack.j1]
  rw [if_neg (by decide), waits_f]
  simp only [Option.bind_some]
  unfold waits
  rw [if_pos h]
  by_cases h1 : d > 268435455 - a / 8
  · rw [if_pos h1]
    simp
  · rw [if_neg h1]
    by_cases h2 : d < -(a / 8)
    · rw [if_pos h2]
      simp
    · rw [if_neg h2]
      have hw : isW (a + 8 * d) = true := (isW_iff _).2 (by omega)
      have hm : (a + 8 * d) / 8 = a / 8 + d := by omega
      obtain ⟨e0, e1, e2⟩ := bits_more a d
      have hwt : flags_Waits.f (a + 8 * d) (wrap64 (-d)) = some (a, 0) := by
        rw [wr (-d) (by omega) (by omega), waits_f]
        unfold waits
        rw [if_pos hw, if_neg (by omega), if_neg (by omega)]
        congr 2
        omega
      have hu : flags_Unpack.f (a + 8 * d) = some (bitOf a 0, bitOf a 1, bitOf a 2, a / 8 + d, 0) := by
        unfold flags_Unpack.f
        rw [if_pos hw, e0, e1, e2, hm]
      simp only [if_true, hu, hwt, Option.bind_some]
      rw [wr (a / 8 + d) (by omega) (by omega)]
      simp
theorem j0_ok (k : Nat) (a d : Int) : deadboltlaw03_FlagsBack.j0 (k + 2) a d = some true := by
  simp only [deadboltlaw03_FlagsBack.j0]
  by_cases h : isW a = true
  · have hr := (isW_iff a).1 h
    have hu : flags_Unpack.f a = some (bitOf a 0, bitOf a 1, bitOf a 2, a / 8, 0) := by
      unfold flags_Unpack.f
      rw [if_pos h]
    have hp : flags_Pack.f (bitOf a 0) (bitOf a 1) (bitOf a 2) (a / 8) = some (a, 0) := by
      unfold flags_Pack.f
      rw [if_pos (by omega), packed]
    have ht : flags_Text.f a = some (textOf a, 0) := by
      unfold flags_Text.f
      rw [if_pos h]
    simp only [hu, Option.bind_some, if_true, hp, ht, parse_text a h, alive_f, Bool.not_true]
    exact j1_ok k a d h
  · have hu : flags_Unpack.f a = some (false, false, false, 0, 1) := by
      unfold flags_Unpack.f
      rw [if_neg h]
    simp only [hu, Option.bind_some, alive_f]
    simp

end FlagsBackAid
open FlagsBackAid
theorem FlagsBack (a0_0 a0_1 a0_2 : Bool) (a0_3 : Int) (a1 a2 : Int) : deadboltlaw03_FlagsBack.f 42001 a0_0 a0_1 a0_2 a0_3 a1 a2 = some true := by
  unfold deadboltlaw03_FlagsBack.f flags_Pack.f
  have hj := j0_ok 41999 a1 a2
  by_cases h : 0 ≤ a0_3 ∧ a0_3 ≤ 268435455
  · rw [if_pos h]
    simp only [Option.bind_some, if_true]
    rw [unpacked a0_0 a0_1 a0_2 a0_3 h]
    simp only [Option.bind_some, if_true, beq_self_eq_true, Bool.not_true, Bool.or_self, Bool.false_eq_true, if_false]
    exact hj
  · rw [if_neg h]
    simp only [Option.bind_some]
    rw [if_neg (by decide)]
    exact hj

end Go.Proofs.YtiejbkplnbefkaaDoor.Pure
