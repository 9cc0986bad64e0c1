/- Plain lemmas on what flags.Parse tells: a word's text is read as the word, and whatever is read as a word is that word's text. No conditions but those that each lemma names. -/
import Derived.Test.YtiejbkplnbefkaaDoorParse
import Derived.Test.YtiejbkplnbefkaaDoorPlain
import Derived.Lib.AtoiTie
namespace Go.Proofs.YtiejbkplnbefkaaDoor.Hand
open Go.RowKit Go.Proofs.YtiejbkplnbefkaaDoorW.PrintWords Go.Proofs.YtiejbkplnbefkaaDoorW.PrintLast Go.Proofs.YtiejbkplnbefkaaDoorW.PrintMore

theorem digitVal_of (d : Nat) (h : d < 10) : Lib.digitVal (UInt8.ofNat (48 + d)) = some d := by
  unfold Lib.digitVal
  have e : (UInt8.ofNat (48 + d)).toNat = 48 + d := by simp only [UInt8.toNat_ofNat']; omega
  rw [e, if_pos (by omega)]
  congr 1
  omega
theorem decFrom_append : ∀ (l : List UInt8) (acc n d : Nat) (b : UInt8), Lib.decFrom acc l = some n → Lib.digitVal b = some d → Lib.decFrom acc (l ++ [b]) = some (n * 10 + d)
  | [], acc, n, d, b, h, hb => by
    simp only [Lib.decFrom, Option.some.injEq] at h
    subst h
    simp [Lib.decFrom, hb]
  | a :: t, acc, n, d, b, h, hb => by
    simp only [Lib.decFrom, List.cons_append] at h ⊢
    cases ha : Lib.digitVal a with
    | none => simp [ha] at h
    | some e =>
      simp only [ha] at h ⊢
      exact decFrom_append t _ n d b h hb
theorem dec_digits (u : Nat) : Lib.decFrom 0 (Lib.decDigits u) = some u := by
  induction u using Nat.strongRecOn with
  | _ u ih =>
    by_cases hu : u < 10
    · rw [Lib.decDigits_one hu]
      simp only [Lib.decFrom, digitVal_of u hu]
      simp
    · rw [Lib.decDigits, dif_neg hu, decFrom_append _ _ (u / 10) (u % 10) _ (ih (u / 10) (by omega)) (digitVal_of _ (by omega))]
      congr 1
      omega
theorem dig_len (m : Nat) : ∀ u, u < 10 ^ (m + 1) → (Lib.decDigits u).length ≤ m + 1 := by
  induction m with
  | zero =>
    intro u h
    rw [Lib.decDigits_one (by simpa using h)]
    simp
  | succ m ih =>
    intro u h
    by_cases hu : u < 10
    · rw [Lib.decDigits_one hu]
      simp
    · rw [Lib.decDigits, dif_neg hu, List.length_append]
      have := ih (u / 10) (by rw [Nat.pow_succ] at h; omega)
      simp only [List.length_cons, List.length_nil]
      omega
theorem itoa_pos (n : Int) (h0 : 0 ≤ n) : Lib.itoa n = Lib.decDigits n.toNat := by
  unfold Lib.itoa
  rw [if_neg (by omega)]
theorem itoa_len (n : Int) (h0 : 0 ≤ n) (h1 : n ≤ 268435455) : (Lib.itoa n).length ≤ 9 := by
  rw [itoa_pos n h0]
  exact dig_len 8 _ (by omega)
theorem atoi_itoa (n : Int) (h0 : 0 ≤ n) : Lib.atoi (Lib.itoa n) = some n := by
  rw [itoa_pos n h0]
  have hd := dec_digits n.toNat
  cases hl : Lib.decDigits n.toNat with
  | nil => exact absurd hl (decDigits_ne _)
  | cons b r =>
    rw [hl] at hd
    obtain ⟨d, hb⟩ := Lib.digit_of_decFrom _ _ _ hd 0 b rfl
    have h45 : b ≠ 45 := by
      rintro rfl
      simp [Lib.digitVal] at hb
    have h43 : b ≠ 43 := by
      rintro rfl
      simp [Lib.digitVal] at hb
    unfold Lib.atoi
    simp only []
    rw [if_neg (by simpa using h45), if_neg (by simpa using h43)]
    unfold Lib.decNat
    rw [if_neg (by simp), hd]
    simp only [Option.map_some]
    congr 1
    omega
theorem atoiAll_itoa (n : Int) (h0 : 0 ≤ n) (h1 : n ≤ 268435455) : Lib.atoiAll (Lib.itoa n) = .ok n := by
  rw [Lib.atoiAll_short _ (by have := itoa_len n h0 h1; omega), atoi_itoa n h0]
  rfl
theorem text_data (a : Int) : (textOf a).data.toList = [sign (bitOf a 0) 76, sign (bitOf a 1) 87, sign (bitOf a 2) 83] ++ Lib.itoa (a / 8) := by
  rw [← Lib.toList_data, text_toList]
theorem text_size (a : Int) : (textOf a).size = 3 + (Lib.itoa (a / 8)).length := by
  have := congrArg List.length (text_data a)
  simp only [List.length_append, List.length_cons, List.length_nil, Array.length_toList] at this
  exact this
theorem itoa_ne (n : Int) (h0 : 0 ≤ n) : 0 < (Lib.itoa n).length := by
  rw [itoa_pos n h0]
  exact List.length_pos_iff.2 (decDigits_ne _)
theorem text_rest (a : Int) : ((textOf a).extract 3 (textOf a).size).data.toList = Lib.itoa (a / 8) := by
  have h := text_data a
  have hs := text_size a
  rw [ByteArray.data_extract, Array.toList_extract, h, hs, List.extract_eq_take_drop]
  simp
theorem sgn_text (b : Bool) (c : UInt8) (hc : c ≠ 45) : ((some (sign b c) : Option UInt8) == some c) = b := by
  cases b
  · simp [sign, Ne.symm hc]
  · simp [sign]
theorem ba_ext {a b : ByteArray} (h : a.toList = b.toList) : a = b := by
  rw [Lib.toList_data, Lib.toList_data] at h
  have := Array.toList_inj.1 h
  cases a
  cases b
  simp_all
theorem num_sum' : ∀ a b c : Bool, (num a 1 ||| num b 2 ||| num c 4) = num a 1 + num b 2 + num c 4 := by decide
theorem bitv' (a : Int) (i : Nat) (k : Nat) : ((num (bitOf a i) k : Nat) : Int) = a / 2 ^ i % 2 * k := by
  unfold num
  by_cases h : bitOf a i = true
  · rw [if_pos h, (bit_iff a i).1 h]; omega
  · rw [if_neg h]
    have := mt (bit_iff a i).2 h
    rcases Int.emod_two_eq (a / 2 ^ i) with e | e
    · rw [e]; omega
    · exact absurd e this
theorem packed' (a : Int) : 8 * (a / 8) + ((num (bitOf a 0) 1 ||| num (bitOf a 1) 2 ||| num (bitOf a 2) 4 : Nat) : Int) = a := by
  rw [num_sum']
  have e0 := bitv' a 0 1
  have e1 := bitv' a 1 2
  have e2 := bitv' a 2 4
  simp only [show (2 : Int) ^ 2 = 4 from rfl, show (2 : Int) ^ 1 = 2 from rfl, show (2 : Int) ^ 0 = 1 from rfl, Int.ediv_one] at e0 e1 e2
  omega
theorem parse_text (a : Int) (h : isW a = true) : flags_Parse.f (textOf a) = some (a, 0) := by
  have hr := (isW_iff a).1 h
  have hs := text_size a
  have hl := itoa_len (a / 8) (by omega) (by omega)
  have hp := itoa_ne (a / 8) (by omega)
  unfold flags_Parse.f
  rw [if_pos (by omega), if_neg (by omega), text_rest, atoiAll_itoa _ (by omega) (by omega)]
  show told (textOf a) _ _ _ (a / 8) = _
  unfold sgn
  rw [text_data]
  simp only [List.cons_append, List.nil_append, List.getElem?_cons_zero, List.getElem?_cons_succ]
  rw [sgn_text _ _ (by decide), sgn_text _ _ (by decide), sgn_text _ _ (by decide)]
  unfold told flags_Pack.f flags_Text.f flags_Unpack.f
  rw [if_pos (by omega), packed']
  simp only [Option.bind_some, if_pos h, if_true, beq_self_eq_true, Bool.and_self]
theorem pack_word (b0 b1 b2 : Bool) (n : Int) (h : 0 ≤ n ∧ n ≤ 268435455) : isW (8 * n + ((num b0 1 ||| num b1 2 ||| num b2 4 : Nat) : Int)) = true := by
  rw [isW_iff, num_sum']
  cases b0 <;> cases b1 <;> cases b2 <;> simp [num] <;> omega
theorem told_sound (s : ByteArray) (b0 b1 b2 : Bool) (n r1 r2 : Int) (h : told s b0 b1 b2 n = some (r1, r2)) : (r2 = 0 ∧ isW r1 = true ∧ s = textOf r1) ∨ (r1 = 0 ∧ r2 = 9) := by
  unfold told flags_Pack.f at h
  by_cases hn : 0 ≤ n ∧ n ≤ 268435455
  · have hw := pack_word b0 b1 b2 n hn
    rw [if_pos hn] at h
    generalize 8 * n + ((num b0 1 ||| num b1 2 ||| num b2 4 : Nat) : Int) = a at h hw
    unfold flags_Text.f flags_Unpack.f at h
    simp only [Option.bind_some, if_pos hw, if_true] at h
    by_cases ht : (textOf a).toList = s.toList
    · rw [if_pos ht] at h
      split at h
      · cases h
        exact Or.inl ⟨rfl, hw, (ba_ext ht).symm⟩
      · cases h
        exact Or.inr ⟨rfl, rfl⟩
    · rw [if_neg ht] at h
      cases h
      exact Or.inr ⟨rfl, rfl⟩
  · rw [if_neg hn] at h
    unfold flags_Text.f at h
    simp only [Option.bind_some] at h
    rw [if_neg (by decide)] at h
    cases h
    exact Or.inr ⟨rfl, rfl⟩
theorem parse_sound (s : ByteArray) (r1 r2 : Int) (h : flags_Parse.f s = some (r1, r2)) : (r2 = 0 ∧ isW r1 = true ∧ s = textOf r1) ∨ (r1 = 0 ∧ r2 = 9) := by
  unfold flags_Parse.f at h
  split at h
  · split at h
    · cases h
      exact Or.inr ⟨rfl, rfl⟩
    · split at h
      · exact told_sound _ _ _ _ _ _ _ h
      · cases h
        exact Or.inr ⟨rfl, rfl⟩
  · cases h
theorem told_some (s : ByteArray) (b0 b1 b2 : Bool) (n : Int) : ∃ r, told s b0 b1 b2 n = some r := by
  unfold told flags_Pack.f flags_Text.f flags_Unpack.f
  simp only [Option.bind_some]
  repeat' split
  all_goals exact ⟨_, rfl⟩
theorem parse_some (s : ByteArray) (hs : s.size ≤ 281474976710656) : ∃ r1 r2, flags_Parse.f s = some (r1, r2) := by
  unfold flags_Parse.f
  rw [if_pos hs]
  split
  · exact ⟨_, _, rfl⟩
  · split
    · obtain ⟨⟨r1, r2⟩, h⟩ := told_some s (sgn s 0 76) (sgn s 1 87) (sgn s 2 83) _
      exact ⟨r1, r2, h⟩
    · exact ⟨_, _, rfl⟩

end Go.Proofs.YtiejbkplnbefkaaDoor.Hand
