/- The plain law of WordBits: for every kind and all numbers, the law function answers true: two words have the same digits just if they are the same, and one more turns the lowest one. No conditions beyond the numbers being of their kind. -/
import Derived.Test.YtdflcfdpkakboaaPWordBitsx1
import Derived.Test.YtdflcfdpkakboaaBits
namespace Go.Proofs.Ytdflcfdpkakboaa.Pure
open Go.RowKit Go.Proofs.Ytdflcfdpkakboaa.PWordBits Go.Proofs.YtdflcfdpkakboaaW.PrintWords Go.Proofs.YtdflcfdpkakboaaW.PrintLast Go.Proofs.Ytdflcfdpkakboaa.Hand
namespace WordBitsAid

theorem alive_f : deadboltlaw01_alive.f = some true := by
  simp [deadboltlaw01_alive.f, word_Add.f, word_Wrap.f, wrap64, wrap32]

def asWord (kd x : Int) : Int := if kd = 0 then wrap64 (wrap32 x) else if kd = 1 then x % 4294967296 else x

theorem wrap_f (kd x : Int) (h : kd = 0 ∨ kd = 1 ∨ kd = 2) : word_Wrap.f kd x = some (asWord kd x, 0) := by
  rcases h with rfl | rfl | rfl <;> simp [word_Wrap.f, asWord]

theorem asWord_idem (kd x : Int) : asWord kd (asWord kd x) = asWord kd x := by
  unfold asWord; split <;> (try split) <;> (try unfold wrap64 wrap32) <;> omega

theorem fits_f (kd x : Int) (h : kd = 0 ∨ kd = 1 ∨ kd = 2) : word_Fits.f kd (asWord kd x) = some true := by
  simp [word_Fits.f, wrap_f kd _ h, asWord_idem]

def wide (kd : Int) : Nat := if kd = 2 then 64 else 32

theorem bits_f (kd x : Int) (h : kd = 0 ∨ kd = 1 ∨ kd = 2) : word_Bits.f kd (asWord kd x) = some (⟨(bitsUp (wide kd) (asWord kd x) (wide kd)).toArray⟩, 0) := by
  simp only [word_Bits.f, fits_f kd x h, Option.bind_some, if_true, wide]
  split <;> rfl

theorem asWord_span (kd x : Int) (h : kd = 0 ∨ kd = 1 ∨ kd = 2) (b : -9223372036854775808 ≤ x ∧ x ≤ 9223372036854775807) :
    (kd = 0 ∧ -2147483648 ≤ asWord kd x ∧ asWord kd x ≤ 2147483647) ∨ (kd = 1 ∧ 0 ≤ asWord kd x ∧ asWord kd x ≤ 4294967295) ∨ (kd = 2 ∧ -9223372036854775808 ≤ asWord kd x ∧ asWord kd x ≤ 9223372036854775807) := by
  rcases h with rfl | rfl | rfl <;> simp [asWord] <;> (try unfold wrap64 wrap32) <;> omega

theorem words_inj (kd x y : Int) (h : kd = 0 ∨ kd = 1 ∨ kd = 2) (bx : -9223372036854775808 ≤ x ∧ x ≤ 9223372036854775807) (b_y : -9223372036854775808 ≤ y ∧ y ≤ 9223372036854775807)
    (he : bitsUp (wide kd) (asWord kd x) (wide kd) = bitsUp (wide kd) (asWord kd y) (wide kd)) : asWord kd x = asWord kd y := by
  obtain ⟨k, hk⟩ := bitsUp_inj _ _ _ he
  have h1 := asWord_span kd x h bx
  have h2 := asWord_span kd y h b_y
  generalize asWord kd x = p at *
  generalize asWord kd y = q at *
  rcases h with rfl | rfl | rfl <;> simp [wide] at hk <;> omega

theorem turned (kd x : Int) (h : kd = 0 ∨ kd = 1 ∨ kd = 2) : asWord kd (wrap64 (asWord kd x + 1)) % 2 ≠ asWord kd x % 2 := by
  rcases h with rfl | rfl | rfl <;> simp [asWord] <;> unfold wrap64 <;> (try unfold wrap32) <;> omega

theorem last_bit (n : Nat) (v : Int) (hn : 0 < n) : bt ⟨(bitsUp n v n).toArray⟩ ((n : Int) - 1) = if v % 2 = 1 then 49 else 48 := by
  have h1 : ((n : Int) - 1).toNat = n - 1 := by omega
  have h2 : ((n : Int) - 1).toNat < (⟨(bitsUp n v n).toArray⟩ : ByteArray).size := by rw [bytes_size, bitsUp_length]; omega
  have h3 : n - 1 < (bitsUp n v n).length := by rw [bitsUp_length]; omega
  have h4 : ((⟨(bitsUp n v n).toArray⟩ : ByteArray)[((n : Int) - 1).toNat]'h2) = (bitsUp n v n)[n - 1]'h3 := by
    simp only [h1]; rfl
  rw [← bt_at _ _ h2, h4, bitsUp_get, Nat.sub_self]
  unfold bitAt
  simp only [Int.pow_zero, Int.ediv_one]
  split <;> rfl

theorem all (kd a1 a2 : Int) (h : kd = 0 ∨ kd = 1 ∨ kd = 2) (b1 : -9223372036854775808 ≤ a1 ∧ a1 ≤ 9223372036854775807) (b2 : -9223372036854775808 ≤ a2 ∧ a2 ≤ 9223372036854775807) :
    ((bitsUp (wide kd) (asWord kd a1) (wide kd) == bitsUp (wide kd) (asWord kd a2) (wide kd)) == (asWord kd a1 == asWord kd a2)) = true := by
  by_cases e : asWord kd a1 = asWord kd a2
  · rw [e]; simp
  · have : ¬ bitsUp (wide kd) (asWord kd a1) (wide kd) = bitsUp (wide kd) (asWord kd a2) (wide kd) := fun q => e (words_inj kd a1 a2 h b1 b2 q)
    rw [beq_eq_false_iff_ne.2 this, beq_eq_false_iff_ne.2 e]; rfl

end WordBitsAid
open WordBitsAid

theorem WordBits : deadboltlaw01_WordBits.Pure := by
  intro a0 a1 a2 w0 w1 w2
  have b1 := wf_bd w1
  have b2 := wf_bd w2
  unfold deadboltlaw01_WordBits.f
  have hk := kind3 a0
  generalize Int.tmod (wrap64 (Int.tmod a0 3 + 3)) 3 = kd at *
  have hw : wide kd = 64 ∨ wide kd = 32 := by unfold wide; split <;> simp
  have hadd : word_Add.f kd (asWord kd a1) 1 = some (asWord kd (wrap64 (asWord kd a1 + 1)), 0) := by simp [word_Add.f, wrap_f kd _ hk]
  have ht := turned kd a1 hk
  have hall := all kd a1 a2 hk b1 b2
  have hl1 := last_bit (wide kd) (asWord kd a1) (by omega)
  have hl2 := last_bit (wide kd) (asWord kd (wrap64 (asWord kd a1 + 1))) (by omega)
  have hwr : wrap64 ((wide kd : Int) - 1) = (wide kd : Int) - 1 := by unfold wrap64; omega
  simp only [wrap_f kd _ hk, hadd, bits_f kd _ hk, Option.bind_some, if_true, bytes_size, bitsUp_length, bytes_toList, alive_f, hall, hwr, hl1, hl2]
  rw [if_neg (by omega), if_pos (by omega), if_pos (by omega)]
  generalize asWord kd (wrap64 (asWord kd a1 + 1)) = p at *
  generalize asWord kd a1 = q at *
  rcases Int.emod_two_eq p with hp | hp <;> rcases Int.emod_two_eq q with hq | hq <;> simp [hp, hq] at ht ⊢ <;> omega

end Go.Proofs.Ytdflcfdpkakboaa.Pure
