/- Plain lemmas on words, their flags and their texts: a word's flags tell it, and so does its text. No conditions but those that each lemma names. -/
import Derived.Test.YtiejbkplnbefkaaDoorText
namespace Go.Proofs.YtiejbkplnbefkaaDoor.Hand
open Go.RowKit Go.Proofs.YtiejbkplnbefkaaDoorW.PrintWords Go.Proofs.YtiejbkplnbefkaaDoorW.PrintLast Go.Proofs.YtiejbkplnbefkaaDoorW.PrintMore

theorem isW_iff (a : Int) : isW a = true ↔ 0 ≤ a ∧ a < 2147483648 := by
  unfold isW
  rw [decide_eq_true_iff]
  omega
theorem bit_iff (a : Int) (i : Nat) : bitOf a i = true ↔ a / 2 ^ i % 2 = 1 := by unfold bitOf; exact beq_iff_eq
theorem bits_eq (v w : Int) (i : Nat) (h : bitOf v i = bitOf w i) : v / 2 ^ i % 2 = w / 2 ^ i % 2 := by
  have h1 := bit_iff v i
  have h2 := bit_iff w i
  rw [h] at h1
  generalize v / 2 ^ i = x at *
  generalize w / 2 ^ i = y at *
  rcases Int.emod_two_eq x with hx | hx <;> rcases Int.emod_two_eq y with hy | hy
  · omega
  · have := h1.1 (h2.2 hy); omega
  · have := h2.1 (h1.2 hx); omega
  · omega
theorem word_eq (v w : Int) (h0 : bitOf v 0 = bitOf w 0) (h1 : bitOf v 1 = bitOf w 1) (h2 : bitOf v 2 = bitOf w 2) (h3 : v / 8 = w / 8) : v = w := by
  have e0 := bits_eq v w 0 h0
  have e1 := bits_eq v w 1 h1
  have e2 := bits_eq v w 2 h2
  simp only [Int.ediv_one, show (2 : Int) ^ 2 = 4 from rfl, show (2 : Int) ^ 1 = 2 from rfl, show (2 : Int) ^ 0 = 1 from rfl] at e0 e1 e2
  omega

theorem decDigits_ne (u : Nat) : Lib.decDigits u ≠ [] := by
  rw [Lib.decDigits]
  split <;> simp
theorem ofNat_inj {a b : Nat} (ha : a < 256) (hb : b < 256) (h : UInt8.ofNat a = UInt8.ofNat b) : a = b := by
  have := congrArg UInt8.toNat h
  simp only [UInt8.toNat_ofNat'] at this
  omega
theorem decDigits_inj (u : Nat) : ∀ v, Lib.decDigits u = Lib.decDigits v → u = v := by
  induction u using Nat.strongRecOn with
  | _ u ih =>
    intro v h
    by_cases hu : u < 10
    · by_cases hv : v < 10
      · rw [Lib.decDigits_one hu, Lib.decDigits_one hv] at h
        have := ofNat_inj (by omega) (by omega) (List.cons.inj h).1
        omega
      · exfalso
        rw [Lib.decDigits_one hu, Lib.decDigits, dif_neg hv] at h
        have hl := congrArg List.length h
        have hp := List.length_pos_iff.2 (decDigits_ne (v / 10))
        rw [List.length_append] at hl
        simp only [List.length_cons, List.length_nil] at hl
        omega
    · by_cases hv : v < 10
      · exfalso
        rw [Lib.decDigits_one hv, Lib.decDigits, dif_neg hu] at h
        have hl := congrArg List.length h
        have hp := List.length_pos_iff.2 (decDigits_ne (u / 10))
        rw [List.length_append] at hl
        simp only [List.length_cons, List.length_nil] at hl
        omega
      · rw [Lib.decDigits, dif_neg hu] at h
        rw [show Lib.decDigits v = Lib.decDigits (v / 10) ++ [UInt8.ofNat (48 + v % 10)] by rw [Lib.decDigits, dif_neg hv]] at h
        obtain ⟨h1, h2⟩ := List.append_inj' h rfl
        have e1 := ih (u / 10) (by omega) (v / 10) h1
        have e2 := ofNat_inj (by omega) (by omega) (List.cons.inj h2).1
        omega
theorem itoa_inj {a b : Int} (ha : 0 ≤ a) (hb : 0 ≤ b) (h : Lib.itoa a = Lib.itoa b) : a = b := by
  unfold Lib.itoa at h
  rw [if_neg (by omega), if_neg (by omega)] at h
  have := decDigits_inj _ _ h
  omega

theorem bytes_toList (l : List UInt8) : (⟨l.toArray⟩ : ByteArray).toList = l := by
  rw [Lib.toList_data]
theorem text_toList (a : Int) : (textOf a).toList = [sign (bitOf a 0) 76, sign (bitOf a 1) 87, sign (bitOf a 2) 83] ++ Lib.itoa (a / 8) := by
  unfold textOf
  rw [bytes_toList]
theorem sign_inj {b c : Bool} {x : UInt8} (hx : x ≠ 45) (h : sign b x = sign c x) : b = c := by
  cases b <;> cases c <;> simp_all [sign]
theorem text_inj {v w : Int} (hv : isW v = true) (hw : isW w = true) (h : (textOf v).toList = (textOf w).toList) : v = w := by
  rw [text_toList, text_toList] at h
  simp only [List.cons_append, List.nil_append, List.cons.injEq] at h
  obtain ⟨h0, h1, h2, h3⟩ := h
  have q := (isW_iff v).1 hv
  have q' := (isW_iff w).1 hw
  exact word_eq v w (sign_inj (by decide) h0) (sign_inj (by decide) h1) (sign_inj (by decide) h2) (itoa_inj (by omega) (by omega) h3)
theorem packed_eq (a b c a' b' c' : Bool) (n n' : Int) :
    ((8 * n + ((num a 1 ||| num b 2 ||| num c 4 : Nat) : Int)) == (8 * n' + ((num a' 1 ||| num b' 2 ||| num c' 4 : Nat) : Int))) = (a == a' && (b == b' && (c == c' && (n == n')))) := by
  have hl : ∀ a b c : Bool, (num a 1 ||| num b 2 ||| num c 4) = num a 1 + num b 2 + num c 4 := by decide
  rw [hl, hl]
  cases a <;> cases b <;> cases c <;> cases a' <;> cases b' <;> cases c' <;> simp [num] <;> first | omega | (rw [Bool.eq_iff_iff]; simp; omega)

end Go.Proofs.YtiejbkplnbefkaaDoor.Hand
