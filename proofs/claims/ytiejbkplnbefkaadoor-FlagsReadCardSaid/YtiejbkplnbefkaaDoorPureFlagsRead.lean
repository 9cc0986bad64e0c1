/- The plain law of FlagsRead: for all inputs the law function answers true: the word of any text is as the document says, or refused. No conditions beyond those of the given statement. -/
import Derived.Test.YtiejbkplnbefkaaDoorPFlagsReadx3
import Derived.Test.YtiejbkplnbefkaaDoorPlainB
namespace Go.Proofs.YtiejbkplnbefkaaDoor.Pure
open Go.RowKit Go.Proofs.YtiejbkplnbefkaaDoor.PFlagsRead Go.Proofs.YtiejbkplnbefkaaDoorW.PrintWords Go.Proofs.YtiejbkplnbefkaaDoorW.PrintLast Go.Proofs.YtiejbkplnbefkaaDoorW.PrintMore Go.Proofs.YtiejbkplnbefkaaDoor.Hand
namespace FlagsReadAid

theorem alive_f : deadboltlaw03_alive.f = some true := by
  unfold deadboltlaw03_alive.f flags_Text.f
  have h : isW 29 = true := by decide
  have h3 : Lib.itoa (29 / 8) = [51] := by
    show Lib.itoa 3 = [51]
    unfold Lib.itoa
    rw [if_neg (by omega)]
    exact Lib.decDigits_one (i := 3) (by omega)
  rw [if_pos h]
  simp only [Option.bind_some, if_true]
  rw [text_toList, h3]
  decide
theorem wr (x : Int) (h0 : -9223372036854775808 ≤ x) (h1 : x ≤ 9223372036854775807) : wrap64 x = x := by unfold wrap64; omega
theorem num_sum : ∀ a b c : Bool, (num a 1 ||| num b 2 ||| num c 4) = num a 1 + num b 2 + num c 4 := by decide
theorem bitv (a : Int) (i : Nat) (k : Nat) : ((num (bitOf a i) k : Nat) : Int) = a / 2 ^ i % 2 * k := by
  unfold num
  by_cases h : bitOf a i = true
  · rw [if_pos h, (bit_iff a i).1 h]; omega
  · rw [if_neg h]
    have := mt (bit_iff a i).2 h
    rcases Int.emod_two_eq (a / 2 ^ i) with e | e
    · rw [e]; omega
    · exact absurd e this
theorem packed (a : Int) : 8 * (a / 8) + ((num (bitOf a 0) 1 ||| num (bitOf a 1) 2 ||| num (bitOf a 2) 4 : Nat) : Int) = a := by
  rw [num_sum]
  have e0 := bitv a 0 1
  have e1 := bitv a 1 2
  have e2 := bitv a 2 4
  simp only [show (2 : Int) ^ 2 = 4 from rfl, show (2 : Int) ^ 1 = 2 from rfl, show (2 : Int) ^ 0 = 1 from rfl, Int.ediv_one] at e0 e1 e2
  omega
theorem digit_one (n : Int) (h0 : 0 ≤ n) (h1 : n < 10) : strOfNums ([(wrap64 (48 + n)) % 256] : List Int) = ⟨(Lib.decDigits n.toNat).toArray⟩ := by
  rw [Lib.decDigits_one (by omega), wr (48 + n) (by omega) (by omega)]
  show (⟨[UInt8.ofNat ((48 + n) % 256).toNat].toArray⟩ : ByteArray) = _
  rw [show ((48 + n) % 256).toNat = 48 + n.toNat by omega]
theorem ba_size (l : List UInt8) : (⟨l.toArray⟩ : ByteArray).size = l.length := by simp [ByteArray.size]
theorem digits_f (m : Nat) : ∀ (n : Int) (k : Nat), 0 ≤ n → n < 10 ^ m → m < k → m ≤ 30 → n ≤ 4294967296 → deadboltref03_digits.f k n = some ⟨(Lib.decDigits n.toNat).toArray⟩ := by
  induction m with
  | zero =>
    intro n k h0 h1 hk hm hb
    obtain ⟨k, rfl⟩ : ∃ j, k = j + 1 := ⟨k - 1, by omega⟩
    simp only [deadboltref03_digits.f]
    rw [if_pos (by omega), digit_one n h0 (by omega)]
  | succ m ih =>
    intro n k h0 h1 hk hm hb
    obtain ⟨k, rfl⟩ : ∃ j, k = j + 1 := ⟨k - 1, by omega⟩
    by_cases hn : n < 10
    · simp only [deadboltref03_digits.f]
      rw [if_pos hn, digit_one n h0 hn]
    · have e1 : Int.tdiv n 10 = n / 10 := Int.tdiv_eq_ediv_of_nonneg h0
      have e2 : Int.tmod n 10 = n % 10 := Int.tmod_eq_emod_of_nonneg h0
      have hp : (10 : Int) ^ (m + 1) = 10 ^ m * 10 := Int.pow_succ 10 m
      have hm0 : 0 < m := by
        rcases Nat.eq_zero_or_pos m with e | e
        · subst e; simp at h1; omega
        · exact e
      have hk2 : deadboltref03_digits.f k (n % 10) = some ⟨(Lib.decDigits (n % 10).toNat).toArray⟩ := by
        obtain ⟨k, rfl⟩ : ∃ j, k = j + 1 := ⟨k - 1, by omega⟩
        simp only [deadboltref03_digits.f]
        rw [if_pos (by omega), digit_one _ (by omega) (by omega)]
      simp only [deadboltref03_digits.f]
      rw [if_neg hn, e1, e2, wr (n / 10) (by omega) (by omega), ih (n / 10) k (by omega) (by omega) (by omega) (by omega) (by omega), hk2]
      simp only [Option.bind_some]
      have hl : (Lib.decDigits (n / 10).toNat).length ≤ 21 := by
        have h := Lib.itoa_length_le (n / 10) (by omega) (by omega)
        unfold Lib.itoa at h
        rwa [if_neg (by omega)] at h
      have hl2 : (Lib.decDigits (n % 10).toNat).length ≤ 21 := by
        have h := Lib.itoa_length_le (n % 10) (by omega) (by omega)
        unfold Lib.itoa at h
        rwa [if_neg (by omega)] at h
      rw [if_pos (by rw [ba_size, ba_size]; omega), ba_app]
      congr 3
      conv => rhs; rw [Lib.decDigits, dif_neg (show ¬ n.toNat < 10 by omega)]
      rw [show (n / 10).toNat = n.toNat / 10 by omega, show (n % 10).toNat = n.toNat % 10 by omega, Lib.decDigits_one (show n.toNat % 10 < 10 by omega)]
theorem unpack_f (a : Int) (h : isW a = true) : deadboltref03_Unpack.f a = some (bitOf a 0, bitOf a 1, bitOf a 2, a / 8) := by
  have hr := (isW_iff a).1 h
  unfold deadboltref03_Unpack.f
  rw [Int.tdiv_eq_ediv_of_nonneg hr.1, Int.tdiv_eq_ediv_of_nonneg hr.1, Int.tdiv_eq_ediv_of_nonneg hr.1, wr (a / 2) (by omega) (by omega), wr (a / 4) (by omega) (by omega), wr (a / 8) (by omega) (by omega)]
  rw [Int.tmod_eq_emod_of_nonneg hr.1, Int.tmod_eq_emod_of_nonneg (show 0 ≤ a / 2 by omega), Int.tmod_eq_emod_of_nonneg (show 0 ≤ a / 4 by omega)]
  have e0 : bitOf a 0 = (a % 2 == 1) := by unfold bitOf; rw [show (2 : Int) ^ 0 = 1 from rfl, Int.ediv_one]
  rw [e0]
  rfl
theorem sign_f (b : Bool) (c : UInt8) : deadboltref03_sign.f b ⟨#[c]⟩ = some ⟨[sign b c].toArray⟩ := by
  unfold deadboltref03_sign.f sign
  cases b <;> rfl
theorem text_f (a : Int) (h : isW a = true) (k : Nat) (hk : 20 < k) : deadboltref03_Text.f k a = some (textOf a) := by
  have hr := (isW_iff a).1 h
  unfold deadboltref03_Text.f
  rw [unpack_f a h]
  simp only [Option.bind_some]
  rw [sign_f, sign_f, sign_f, digits_f 10 (a / 8) k (by omega) (by omega) (by omega) (by omega) (by omega)]
  simp only [Option.bind_some]
  have hl : (Lib.decDigits (a / 8).toNat).length ≤ 21 := by
    have h := Lib.itoa_length_le (a / 8) (by omega) (by omega)
    unfold Lib.itoa at h
    rwa [if_neg (by omega)] at h
  rw [ba_app, ba_app, ba_app]
  simp only [ba_size]
  rw [if_pos (by simp), if_pos (by simp), if_pos (by simp; omega)]
  unfold textOf Lib.itoa
  rw [if_neg (by omega)]
  rfl
theorem may_f (b0 b1 b2 : Bool) (n : Int) : deadboltref03_May.f b0 b1 b2 n = some (decide (0 ≤ n ∧ n ≤ 268435455)) := by
  unfold deadboltref03_May.f
  by_cases h : n ≥ 0
  · rw [if_pos h]; congr 1; exact decide_eq_decide.2 (by omega)
  · rw [if_neg h, decide_eq_false (by omega)]
theorem bit_f (b : Bool) (k : Nat) : deadboltref03_bit.f b k = some ((num b k : Nat) : Int) := by
  unfold deadboltref03_bit.f num
  cases b <;> rfl
theorem refpack_f (b0 b1 b2 : Bool) (n : Int) (h : 0 ≤ n ∧ n ≤ 268435455) : deadboltref03_Pack.f b0 b1 b2 n = some (8 * n + ((num b0 1 ||| num b1 2 ||| num b2 4 : Nat) : Int)) := by
  have h1 := bit_f b0 1
  have h2 := bit_f b1 2
  have h4 := bit_f b2 4
  unfold deadboltref03_Pack.f
  rw [show (1 : Int) = ((1 : Nat) : Int) from rfl, show (2 : Int) = ((2 : Nat) : Int) from rfl, show (4 : Int) = ((4 : Nat) : Int) from rfl, h1, h2, h4]
  simp only [Option.bind_some]
  have q1 : num b0 1 ≤ 1 := by cases b0 <;> decide
  have q2 : num b1 2 ≤ 2 := by cases b1 <;> decide
  have q4 : num b2 4 ≤ 4 := by cases b2 <;> decide
  rw [num_sum, wr (8 * n) (by omega) (by omega), wr (((num b0 1 : Nat) : Int) + ((num b1 2 : Nat) : Int)) (by omega) (by omega), wr (((num b0 1 : Nat) : Int) + ((num b1 2 : Nat) : Int) + ((num b2 4 : Nat) : Int)) (by omega) (by omega), wr _ (by omega) (by omega)]
  congr 1
  omega
theorem bt_sgn (s : ByteArray) (i : Nat) (c : UInt8) (m : Int) (h : i < s.size) (hm : m = (c.toNat : Int)) : (bt s (i : Int) == m) = sgn s i c := by
  unfold bt
  simp only [Int.toNat_natCast]
  rw [dif_pos h]
  exact sgn_at s i h c m hm
set_option linter.unusedVariables false in
theorem bt_get (s : ByteArray) (i : Nat) (h : i < s.data.toList.length) (h' : i < s.size) : bt s (i : Int) = (s.data.toList[i].toNat : Int) := by
  unfold bt
  simp only [Int.toNat_natCast]
  rw [dif_pos h']
  rfl
def pk (s : ByteArray) (m : Int) : Int := 8 * m + ((num (sgn s 0 76) 1 ||| num (sgn s 1 87) 2 ||| num (sgn s 2 83) 4 : Nat) : Int)
def fin (s : ByteArray) (m : Int) : Int × Bool := if m ≤ 268435455 then (if (textOf (pk s m)).toList = s.toList then (pk s m, true) else (0, false)) else (0, false)
def seen (s : ByteArray) : Option Nat → Int × Bool
  | some m => fin s m
  | none => (0, false)
theorem loop_f (s : ByteArray) (hs : s.size ≤ 12) (h3 : 3 < s.size) : ∀ (j i acc k : Nat), i + j = s.size → 3 ≤ i → acc < 10 ^ (i - 3) → j + 30 ≤ k →
    deadboltref03_Parse.l0 (k + 1) s (acc : Int) (i : Int) = some (seen s (Lib.decFrom acc (s.data.toList.drop i))) := by
  have hlen : s.data.toList.length = s.size := by rw [Array.length_toList]; rfl
  intro j
  induction j with
  | zero =>
    intro i acc k hi h3i ha hk
    simp only [deadboltref03_Parse.l0]
    rw [if_neg (by omega), if_pos (by omega), if_pos (by omega), if_pos (by omega)]
    have e0 := bt_sgn s 0 76 76 (by omega) rfl
    have e1 := bt_sgn s 1 87 87 (by omega) rfl
    have e2 := bt_sgn s 2 83 83 (by omega) rfl
    simp only [Int.cast_ofNat_Int] at e0 e1 e2
    rw [e0, e1, e2, may_f]
    rw [List.drop_eq_nil_of_le (by omega)]
    simp only [Option.bind_some, Lib.decFrom, seen]
    unfold fin
    by_cases hm : (acc : Int) ≤ 268435455
    · rw [decide_eq_true (by omega), if_pos rfl, if_pos hm, refpack_f _ _ _ _ (by omega)]
      simp only [Option.bind_some]
      have hw := pack_word (sgn s 0 76) (sgn s 1 87) (sgn s 2 83) (acc : Int) (by omega)
      rw [text_f _ hw k (by omega)]
      simp only [Option.bind_some]
      unfold pk
      split <;> rfl
    · rw [decide_eq_false (by omega), if_neg hm]
      rfl
  | succ j ih =>
    intro i acc k hi h3i ha hk
    have hp : 10 ^ (i - 3) ≤ 10 ^ 9 := Nat.pow_le_pow_right (by omega) (by omega)
    have hp2 : 10 ^ (i + 1 - 3) = 10 ^ (i - 3) * 10 := by rw [show i + 1 - 3 = (i - 3) + 1 by omega, Nat.pow_succ]
    have hin : i < s.data.toList.length := by omega
    have hb := bt_get s i hin (by omega)
    have hr := bt_range s (i : Int)
    rw [List.drop_eq_getElem_cons hin]
    generalize s.data.toList[i] = b at hb
    simp only [deadboltref03_Parse.l0]
    rw [if_pos (by omega), if_pos (by omega)]
    rw [hb] at hr ⊢
    simp only [Lib.decFrom]
    unfold Lib.digitVal
    by_cases h48 : (b.toNat : Int) < 48
    · rw [if_pos h48, if_neg (by omega)]
      rfl
    · rw [if_neg h48]
      by_cases h57 : (b.toNat : Int) > 57
      · rw [if_pos h57, if_neg (by omega)]
        rfl
      · rw [if_neg h57, if_pos (by omega)]
        simp only []
        obtain ⟨k, rfl⟩ : ∃ q, k = q + 1 := ⟨k - 1, by omega⟩
        have hq := ih (i + 1) (acc * 10 + (b.toNat - 48)) k (by omega) (by omega) (by omega) (by omega)
        have ea : wrap64 (wrap64 (10 * (acc : Int)) + ((b.toNat : Int) - 48) % 256) = ((acc * 10 + (b.toNat - 48) : Nat) : Int) := by
          rw [wr (10 * (acc : Int)) (by omega) (by omega), wr _ (by omega) (by omega)]
          omega
        have ei : wrap64 ((i : Int) + 1) = ((i + 1 : Nat) : Int) := by
          rw [wr _ (by omega) (by omega)]
          omega
        rw [ea, ei]
        exact hq
def refP (s : ByteArray) : Int × Bool := if 4 ≤ s.size ∧ s.size ≤ 12 then seen s (Lib.decFrom 0 (s.data.toList.drop 3)) else (0, false)
theorem ref_f (s : ByteArray) (k : Nat) (hk : 60 ≤ k) : deadboltref03_Parse.f (k + 2) s = some (refP s) := by
  unfold deadboltref03_Parse.f refP
  by_cases h4 : (s.size : Int) < 4
  · rw [if_pos h4, if_neg (by omega)]
    simp [deadboltref03_Parse.j0]
  · rw [if_neg h4]
    simp only [deadboltref03_Parse.j0]
    by_cases h12 : (s.size : Int) > 12
    · rw [decide_eq_true h12, if_pos rfl, if_neg (by omega)]
    · rw [decide_eq_false h12, if_neg (by decide), if_pos (by omega)]
      exact loop_f s (by omega) (by omega) (s.size - 3) 3 0 k (by omega) (by omega) (by decide) (by omega)
theorem fin_sound (s : ByteArray) (m n : Int) (hm : 0 ≤ m) (h : fin s m = (n, true)) : isW n = true ∧ s = textOf n := by
  unfold fin at h
  split at h
  · rename_i hl
    split at h
    · rename_i ht
      cases h
      exact ⟨pack_word _ _ _ m ⟨hm, hl⟩, (ba_ext ht).symm⟩
    · cases h
  · cases h
theorem ref_sound (s : ByteArray) (n : Int) (h : refP s = (n, true)) : isW n = true ∧ s = textOf n := by
  unfold refP at h
  split at h
  · cases hd : Lib.decFrom 0 (s.data.toList.drop 3) with
    | none => rw [hd] at h; cases h
    | some m => rw [hd] at h; exact fin_sound s m n (by omega) h
  · cases h
theorem ref_text (a : Int) (h : isW a = true) : refP (textOf a) = (a, true) := by
  have hr := (isW_iff a).1 h
  have hs := text_size a
  have hl := itoa_len (a / 8) (by omega) (by omega)
  have hp := itoa_ne (a / 8) (by omega)
  have hd : (textOf a).data.toList.drop 3 = Lib.itoa (a / 8) := by
    rw [text_data]
    rfl
  unfold refP
  rw [if_pos (by omega), hd, itoa_pos _ (by omega), dec_digits]
  unfold seen fin pk sgn
  rw [text_data]
  simp only [List.cons_append, List.nil_append, List.getElem?_cons_zero, List.getElem?_cons_succ]
  rw [sgn_text _ _ (by decide), sgn_text _ _ (by decide), sgn_text _ _ (by decide), show (((a / 8).toNat : Nat) : Int) = a / 8 by omega, packed, if_pos (by omega), if_pos rfl]

end FlagsReadAid
open FlagsReadAid
theorem FlagsRead (a0 : ByteArray) : deadboltlaw03_FlagsRead.f 102 a0 = some true := by
  unfold deadboltlaw03_FlagsRead.f
  have hm : 0 ≤ mn (a0.size : Int) 20 ∧ mn (a0.size : Int) 20 ≤ (a0.size : Int) ∧ mn (a0.size : Int) 20 ≤ 20 := by
    unfold mn
    split <;> omega
  rw [if_pos hm.1, if_pos hm.2.1, ref_f _ 100 (by omega), alive_f]
  have hz : (a0.extract 0 (mn (a0.size : Int) 20).toNat).size ≤ 20 := by
    rw [ByteArray.size_extract]
    omega
  generalize a0.extract 0 (mn (a0.size : Int) 20).toNat = s at hz
  obtain ⟨r1, r2, hp⟩ := parse_some s (by omega)
  rw [hp]
  simp only [Option.bind_some, if_true]
  rcases parse_sound s r1 r2 hp with ⟨rfl, hw, hs⟩ | ⟨rfl, rfl⟩
  · rw [hs, ref_text r1 hw]
    simp
  · rcases hr : refP s with ⟨n, b⟩
    cases b with
    | true =>
      obtain ⟨hw, hs⟩ := ref_sound s n hr
      rw [hs, parse_text n hw] at hp
      cases hp
    | false => simp

end Go.Proofs.YtiejbkplnbefkaaDoor.Pure
