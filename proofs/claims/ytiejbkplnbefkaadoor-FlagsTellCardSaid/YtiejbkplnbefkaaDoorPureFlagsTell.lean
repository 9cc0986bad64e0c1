/- The plain law of FlagsTell: for all words and flags the law function answers true: any flags as a word, any word as flags, and as a text, and with any more who wait, is as the document says, or refused. No conditions beyond those of the given statement. -/
import Derived.Test.YtiejbkplnbefkaaDoorPFlagsTellx3
import Derived.Test.YtiejbkplnbefkaaDoorPlain
namespace Go.Proofs.YtiejbkplnbefkaaDoor.Pure
open Go.RowKit Go.Proofs.YtiejbkplnbefkaaDoor.PFlagsTell Go.Proofs.YtiejbkplnbefkaaDoorW.PrintWords Go.Proofs.YtiejbkplnbefkaaDoorW.PrintLast Go.Proofs.YtiejbkplnbefkaaDoorW.PrintMore Go.Proofs.YtiejbkplnbefkaaDoor.Hand
namespace FlagsTellAid

theorem alive_f : deadboltlaw03_alive.f = some true := by
  unfold deadboltlaw03_alive.f flags_Text.f
  have h : isW 29 = true := by decide
  have h3 : Lib.itoa (29 / 8) = [51] := by
    show Lib.itoa 3 = [51]
    unfold Lib.itoa
    rw [if_neg (by omega)]
    exact Lib.decDigits_one (i := 3) (by omega)
  rw [if_pos h]
  simp only [Option.bind_some, if_true]
  rw [text_toList, h3]
  decide
theorem wr (x : Int) (h0 : -9223372036854775808 ≤ x) (h1 : x ≤ 9223372036854775807) : wrap64 x = x := by unfold wrap64; omega
theorem num_sum : ∀ a b c : Bool, (num a 1 ||| num b 2 ||| num c 4) = num a 1 + num b 2 + num c 4 := by decide
theorem bitv (a : Int) (i : Nat) (k : Nat) : ((num (bitOf a i) k : Nat) : Int) = a / 2 ^ i % 2 * k := by
  unfold num
  by_cases h : bitOf a i = true
  · rw [if_pos h, (bit_iff a i).1 h]; omega
  · rw [if_neg h]
    have := mt (bit_iff a i).2 h
    rcases Int.emod_two_eq (a / 2 ^ i) with e | e
    · rw [e]; omega
    · exact absurd e this
theorem packed (a : Int) : 8 * (a / 8) + ((num (bitOf a 0) 1 ||| num (bitOf a 1) 2 ||| num (bitOf a 2) 4 : Nat) : Int) = a := by
  rw [num_sum]
  have e0 := bitv a 0 1
  have e1 := bitv a 1 2
  have e2 := bitv a 2 4
  simp only [show (2 : Int) ^ 2 = 4 from rfl, show (2 : Int) ^ 1 = 2 from rfl, show (2 : Int) ^ 0 = 1 from rfl, Int.ediv_one] at e0 e1 e2
  omega

def waits (a d : Int) : Int × Int := if isW a = true then (if d > 268435455 - a / 8 then (0, 10) else if d < -(a / 8) then (0, 10) else (a + 8 * d, 0)) else (0, 1)
theorem waits_f (a d : Int) : flags_Waits.f a d = some (waits a d) := by
  unfold flags_Waits.f flags_Unpack.f waits
  simp only [Option.bind_some]
  by_cases h : isW a = true
  · have hr := (isW_iff a).1 h
    simp only [if_pos h, if_true]
    rw [wr (268435455 - a / 8) (by omega) (by omega), wr (-(a / 8)) (by omega) (by omega)]
    by_cases h1 : d > 268435455 - a / 8
    · rw [if_pos h1, if_pos h1]
    · rw [if_neg h1, if_neg h1]
      by_cases h2 : d < -(a / 8)
      · rw [if_pos h2, if_pos h2]
      · rw [if_neg h2, if_neg h2, wr (a / 8 + d) (by omega) (by omega)]
        unfold flags_Pack.f
        rw [if_pos (by omega)]
        simp only [Option.bind_some]
        have := packed a
        rw [show 8 * (a / 8 + d) + ((num (bitOf a 0) 1 ||| num (bitOf a 1) 2 ||| num (bitOf a 2) 4 : Nat) : Int) = a + 8 * d by omega]
  · simp only [if_neg h]
    rfl

theorem digit_one (n : Int) (h0 : 0 ≤ n) (h1 : n < 10) : strOfNums ([(wrap64 (48 + n)) % 256] : List Int) = ⟨(Lib.decDigits n.toNat).toArray⟩ := by
  rw [Lib.decDigits_one (by omega), wr (48 + n) (by omega) (by omega)]
  show (⟨[UInt8.ofNat ((48 + n) % 256).toNat].toArray⟩ : ByteArray) = _
  rw [show ((48 + n) % 256).toNat = 48 + n.toNat by omega]
theorem ba_size (l : List UInt8) : (⟨l.toArray⟩ : ByteArray).size = l.length := by simp [ByteArray.size]
theorem digits_f (m : Nat) : ∀ (n : Int) (k : Nat), 0 ≤ n → n < 10 ^ m → m < k → m ≤ 30 → n ≤ 4294967296 → deadboltref03_digits.f k n = some ⟨(Lib.decDigits n.toNat).toArray⟩ := by
  induction m with
  | zero =>
    intro n k h0 h1 hk hm hb
    obtain ⟨k, rfl⟩ : ∃ j, k = j + 1 := ⟨k - 1, by omega⟩
    simp only [deadboltref03_digits.f]
    rw [if_pos (by omega), digit_one n h0 (by omega)]
  | succ m ih =>
    intro n k h0 h1 hk hm hb
    obtain ⟨k, rfl⟩ : ∃ j, k = j + 1 := ⟨k - 1, by omega⟩
    by_cases hn : n < 10
    · simp only [deadboltref03_digits.f]
      rw [if_pos hn, digit_one n h0 hn]
    · have e1 : Int.tdiv n 10 = n / 10 := Int.tdiv_eq_ediv_of_nonneg h0
      have e2 : Int.tmod n 10 = n % 10 := Int.tmod_eq_emod_of_nonneg h0
      have hp : (10 : Int) ^ (m + 1) = 10 ^ m * 10 := Int.pow_succ 10 m
      have hm0 : 0 < m := by
        rcases Nat.eq_zero_or_pos m with e | e
        · subst e; simp at h1; omega
        · exact e
      have hk2 : deadboltref03_digits.f k (n % 10) = some ⟨(Lib.decDigits (n % 10).toNat).toArray⟩ := by
        obtain ⟨k, rfl⟩ : ∃ j, k = j + 1 := ⟨k - 1, by omega⟩
        simp only [deadboltref03_digits.f]
        rw [if_pos (by omega), digit_one _ (by omega) (by omega)]
      simp only [deadboltref03_digits.f]
      rw [if_neg hn, e1, e2, wr (n / 10) (by omega) (by omega), ih (n / 10) k (by omega) (by omega) (by omega) (by omega) (by omega), hk2]
      simp only [Option.bind_some]
      have hl : (Lib.decDigits (n / 10).toNat).length ≤ 21 := by
        have h := Lib.itoa_length_le (n / 10) (by omega) (by omega)
        unfold Lib.itoa at h
        rwa [if_neg (by omega)] at h
      have hl2 : (Lib.decDigits (n % 10).toNat).length ≤ 21 := by
        have h := Lib.itoa_length_le (n % 10) (by omega) (by omega)
        unfold Lib.itoa at h
        rwa [if_neg (by omega)] at h
      rw [if_pos (by rw [ba_size, ba_size]; omega), ba_app]
      congr 3
      conv => rhs; rw [Lib.decDigits, dif_neg (show ¬ n.toNat < 10 by omega)]
      rw [show (n / 10).toNat = n.toNat / 10 by omega, show (n % 10).toNat = n.toNat % 10 by omega, Lib.decDigits_one (show n.toNat % 10 < 10 by omega)]

theorem unpack_f (a : Int) (h : isW a = true) : deadboltref03_Unpack.f a = some (bitOf a 0, bitOf a 1, bitOf a 2, a / 8) := by
  have hr := (isW_iff a).1 h
  unfold deadboltref03_Unpack.f
  rw [Int.tdiv_eq_ediv_of_nonneg hr.1, Int.tdiv_eq_ediv_of_nonneg hr.1, Int.tdiv_eq_ediv_of_nonneg hr.1, wr (a / 2) (by omega) (by omega), wr (a / 4) (by omega) (by omega), wr (a / 8) (by omega) (by omega)]
  rw [Int.tmod_eq_emod_of_nonneg hr.1, Int.tmod_eq_emod_of_nonneg (show 0 ≤ a / 2 by omega), Int.tmod_eq_emod_of_nonneg (show 0 ≤ a / 4 by omega)]
  have e0 : bitOf a 0 = (a % 2 == 1) := by unfold bitOf; rw [show (2 : Int) ^ 0 = 1 from rfl, Int.ediv_one]
  rw [e0]
  rfl
theorem sign_f (b : Bool) (c : UInt8) : deadboltref03_sign.f b ⟨#[c]⟩ = some ⟨[sign b c].toArray⟩ := by
  unfold deadboltref03_sign.f sign
  cases b <;> rfl
theorem text_f (a : Int) (h : isW a = true) (k : Nat) (hk : 20 < k) : deadboltref03_Text.f k a = some (textOf a) := by
  have hr := (isW_iff a).1 h
  unfold deadboltref03_Text.f
  rw [unpack_f a h]
  simp only [Option.bind_some]
  rw [sign_f, sign_f, sign_f, digits_f 10 (a / 8) k (by omega) (by omega) (by omega) (by omega) (by omega)]
  simp only [Option.bind_some]
  have hl : (Lib.decDigits (a / 8).toNat).length ≤ 21 := by
    have h := Lib.itoa_length_le (a / 8) (by omega) (by omega)
    unfold Lib.itoa at h
    rwa [if_neg (by omega)] at h
  rw [ba_app, ba_app, ba_app]
  simp only [ba_size]
  rw [if_pos (by simp), if_pos (by simp), if_pos (by simp; omega)]
  unfold textOf Lib.itoa
  rw [if_neg (by omega)]
  rfl
theorem word_f (a : Int) : deadboltref03_Word.f a = some (isW a) := by
  unfold deadboltref03_Word.f
  by_cases h : a ≥ 0
  · rw [if_pos h]
    congr 1
    rw [Bool.eq_iff_iff, isW_iff, decide_eq_true_iff]
    omega
  · rw [if_neg h]
    congr 1
    exact ((Bool.eq_false_iff).2 (fun q => h ((isW_iff a).1 q).1)).symm
theorem over_f (a d : Int) (h : isW a = true) : deadboltref03_Over.f a d = some (decide (d > 268435455 - a / 8 ∨ d < -(a / 8))) := by
  have hr := (isW_iff a).1 h
  unfold deadboltref03_Over.f
  rw [unpack_f a h]
  simp only [Option.bind_some]
  rw [wr (268435455 - a / 8) (by omega) (by omega), wr (-(a / 8)) (by omega) (by omega)]
  by_cases h1 : d > 268435455 - a / 8
  · rw [if_pos h1, decide_eq_true (Or.inl h1)]
  · rw [if_neg h1]
    congr 1
    exact decide_eq_decide.2 ⟨fun q => .inr q, fun q => q.resolve_left h1⟩

theorem tell_yes (a d : Int) (h : isW a = true) (k : Nat) (hk : 30 < k) :
    deadboltlaw03_FlagsTell.j0 (k + 2) a d 0 (textOf a) 0 (waits a d).1 (waits a d).2 (bitOf a 0) (bitOf a 1) (bitOf a 2) (a / 8) = some true := by
  have hr := (isW_iff a).1 h
  simp only [deadboltlaw03_FlagsTell.j0]
  rw [word_f, h]
  simp only [Option.bind_some, if_true]
  rw [unpack_f a h]
  simp only [Option.bind_some, beq_self_eq_true, Bool.not_true, Bool.or_self, Bool.false_eq_true, if_false]
  rw [text_f a h (k + 1) (by omega)]
  simp only [Option.bind_some, bne_self_eq_false, deadboltlaw03_FlagsTell.j1, Bool.false_eq_true, if_false]
  rw [over_f a d h]
  simp only [Option.bind_some]
  unfold waits
  rw [if_pos h]
  by_cases h1 : d > 268435455 - a / 8
  · rw [if_pos h1, decide_eq_true (Or.inl h1)]; simp
  · rw [if_neg h1]
    by_cases h2 : d < -(a / 8)
    · rw [if_pos h2, decide_eq_true (Or.inr h2)]; simp
    · rw [if_neg h2, decide_eq_false (fun q => q.elim h1 h2), wr (8 * d) (by omega) (by omega), wr (a + 8 * d) (by omega) (by omega)]
      simp
theorem tell_no (a d : Int) (h : isW a = false) (k : Nat) : deadboltlaw03_FlagsTell.j0 (k + 2) a d 1 ByteArray.empty 1 (waits a d).1 (waits a d).2 false false false 0 = some true := by
  simp only [deadboltlaw03_FlagsTell.j0]
  rw [word_f, h]
  have hw : waits a d = (0, 1) := by unfold waits; rw [h]; rfl
  rw [hw]
  simp only [Option.bind_some, Bool.false_eq_true, if_false]
  have he : ByteArray.empty.toList = [] := bytes_toList []
  rw [he]
  rfl
theorem tell_any (a d : Int) (k : Nat) (hk : 40 < k) :
    deadboltlaw03_FlagsTell.j0 k a d (if isW a = true then (bitOf a 0, bitOf a 1, bitOf a 2, a / 8, (0 : Int)) else (false, false, false, 0, 1)).2.2.2.2 (if isW a = true then (textOf a, (0 : Int)) else (ByteArray.empty, 1)).1 (if isW a = true then (textOf a, (0 : Int)) else (ByteArray.empty, 1)).2 (waits a d).1 (waits a d).2
      (if isW a = true then (bitOf a 0, bitOf a 1, bitOf a 2, a / 8, (0 : Int)) else (false, false, false, 0, 1)).1 (if isW a = true then (bitOf a 0, bitOf a 1, bitOf a 2, a / 8, (0 : Int)) else (false, false, false, 0, 1)).2.1 (if isW a = true then (bitOf a 0, bitOf a 1, bitOf a 2, a / 8, (0 : Int)) else (false, false, false, 0, 1)).2.2.1 (if isW a = true then (bitOf a 0, bitOf a 1, bitOf a 2, a / 8, (0 : Int)) else (false, false, false, 0, 1)).2.2.2.1 = some true := by
  obtain ⟨k, rfl⟩ : ∃ m, k = m + 2 := ⟨k - 2, by omega⟩
  by_cases h : isW a = true
  · simp only [if_pos h]
    exact tell_yes a d h k (by omega)
  · simp only [if_neg h]
    exact tell_no a d (by simpa using h) k
theorem may_f (b0 b1 b2 : Bool) (n : Int) : deadboltref03_May.f b0 b1 b2 n = some (decide (0 ≤ n ∧ n ≤ 268435455)) := by
  unfold deadboltref03_May.f
  by_cases h : n ≥ 0
  · rw [if_pos h]; congr 1; exact decide_eq_decide.2 (by omega)
  · rw [if_neg h, decide_eq_false (by omega)]
theorem bit_f (b : Bool) (k : Nat) : deadboltref03_bit.f b k = some ((num b k : Nat) : Int) := by
  unfold deadboltref03_bit.f num
  cases b <;> rfl
theorem refpack_f (b0 b1 b2 : Bool) (n : Int) (h : 0 ≤ n ∧ n ≤ 268435455) : deadboltref03_Pack.f b0 b1 b2 n = some (8 * n + ((num b0 1 ||| num b1 2 ||| num b2 4 : Nat) : Int)) := by
  have h1 := bit_f b0 1
  have h2 := bit_f b1 2
  have h4 := bit_f b2 4
  unfold deadboltref03_Pack.f
  rw [show (1 : Int) = ((1 : Nat) : Int) from rfl, show (2 : Int) = ((2 : Nat) : Int) from rfl, show (4 : Int) = ((4 : Nat) : Int) from rfl, h1, h2, h4]
  simp only [Option.bind_some]
  have q1 : num b0 1 ≤ 1 := by cases b0 <;> decide
  have q2 : num b1 2 ≤ 2 := by cases b1 <;> decide
  have q4 : num b2 4 ≤ 4 := by cases b2 <;> decide
  rw [num_sum, wr (8 * n) (by omega) (by omega), wr (((num b0 1 : Nat) : Int) + ((num b1 2 : Nat) : Int)) (by omega) (by omega), wr (((num b0 1 : Nat) : Int) + ((num b1 2 : Nat) : Int) + ((num b2 4 : Nat) : Int)) (by omega) (by omega), wr _ (by omega) (by omega)]
  congr 1
  omega

end FlagsTellAid
open FlagsTellAid
theorem FlagsTell (a0_0 a0_1 a0_2 : Bool) (a0_3 : Int) (a1 a2 : Int) : deadboltlaw03_FlagsTell.f 42001 a0_0 a0_1 a0_2 a0_3 a1 a2 = some true := by
  unfold deadboltlaw03_FlagsTell.f
  rw [waits_f, alive_f, may_f]
  simp only [flags_Pack.f, flags_Unpack.f, flags_Text.f, Option.bind_some, if_true]
  have hj := tell_any a1 a2 42001 (by omega)
  by_cases h : 0 ≤ a0_3 ∧ a0_3 ≤ 268435455
  · rw [decide_eq_true h, refpack_f _ _ _ _ h]
    simp only [if_pos h, Option.bind_some, if_true]
    exact hj
  · rw [decide_eq_false h]
    simp only [if_neg h, Bool.false_eq_true, if_false, if_true]
    exact hj

end Go.Proofs.YtiejbkplnbefkaaDoor.Pure
