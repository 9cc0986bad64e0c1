/- Plain lemmas on the digits of words: what word.Bits writes tells numbers apart that lie within a word's span, and its last digit is the number's parity. No conditions but those that each lemma names. -/
import Derived.Test.YtdflcfdpkakboaaHand
import Derived.Lib.Strings
namespace Go.Proofs.Ytdflcfdpkakboaa.Hand
open Go.RowKit

theorem tmod_emod (x b : Int) : Int.tmod x b = if 0 ≤ x then x % b else -((-x) % b) := by
  split
  · rename_i h; exact Int.tmod_eq_emod_of_nonneg h
  · rename_i h
    have : Int.tmod x b = -(Int.tmod (-x) b) := by rw [Int.neg_tmod]; omega
    rw [this, Int.tmod_eq_emod_of_nonneg (by omega)]

theorem kind3 (a : Int) : Int.tmod (wrap64 (Int.tmod a 3 + 3)) 3 = 0 ∨ Int.tmod (wrap64 (Int.tmod a 3 + 3)) 3 = 1 ∨ Int.tmod (wrap64 (Int.tmod a 3 + 3)) 3 = 2 := by
  have h0 := tmod_emod a 3
  have h1 : wrap64 (Int.tmod a 3 + 3) = Int.tmod a 3 + 3 := by unfold wrap64; split at h0 <;> omega
  rw [h1, tmod_emod _ 3]
  split at h0 <;> split <;> omega

theorem wf_bd {a : Int} (w : (Lit.int .i64 a).wf = true) : -9223372036854775808 ≤ a ∧ a ≤ 9223372036854775807 := by
  have e : IntKind.i64.min = -9223372036854775808 := rfl
  simpa [Lit.wf, e] using w

theorem same_digits (n : Nat) : ∀ x y : Int, (∀ j : Nat, j < n → x / 2 ^ j % 2 = y / 2 ^ j % 2) → ∃ k : Int, x = y + k * 2 ^ n := by
  induction n with
  | zero => exact fun x y _ => ⟨x - y, by simp; omega⟩
  | succ n ih =>
    intro x y h
    obtain ⟨k, hk⟩ := ih (x / 2) (y / 2) (fun j hj => by
      have := h (j + 1) (by omega)
      rwa [Int.ediv_ediv_of_nonneg (by omega), Int.ediv_ediv_of_nonneg (by omega), Int.mul_comm, ← Int.pow_succ])
    have h0 := h 0 (by omega)
    simp only [Int.pow_zero, Int.ediv_one] at h0
    refine ⟨k, ?_⟩
    rw [Int.pow_succ, ← Int.mul_assoc]
    generalize k * 2 ^ n = t at *
    omega

theorem bitAt_inj (x y : Int) (j : Nat) (h : bitAt x j = bitAt y j) : x / 2 ^ j % 2 = y / 2 ^ j % 2 := by
  unfold bitAt at h
  generalize x / 2 ^ j = p at *
  generalize y / 2 ^ j = q at *
  by_cases hp : p % 2 = 1 <;> by_cases hq : q % 2 = 1 <;> simp [hp, hq] at h <;> omega

theorem bitsUp_length (n : Nat) (v : Int) (i : Nat) : (bitsUp n v i).length = i := by simp [bitsUp]

theorem bitsUp_get (n : Nat) (v : Int) (i t : Nat) (h : t < (bitsUp n v i).length) : (bitsUp n v i)[t] = bitAt v (n - 1 - t) := by simp [bitsUp]

theorem bitsUp_inj (n : Nat) (x y : Int) (h : bitsUp n x n = bitsUp n y n) : ∃ k : Int, x = y + k * 2 ^ n := by
  refine same_digits n x y fun j hj => bitAt_inj x y j ?_
  have h1 : (bitsUp n x n)[n - 1 - j]'(by simp [bitsUp_length]; omega) = (bitsUp n y n)[n - 1 - j]'(by simp [bitsUp_length]; omega) := by simp [h]
  rw [bitsUp_get, bitsUp_get, show n - 1 - (n - 1 - j) = j by omega] at h1
  exact h1

theorem bytes_inj {l m : List UInt8} (h : (⟨l.toArray⟩ : ByteArray) = ⟨m.toArray⟩) : l = m := by
  injection h with h
  simpa using h

theorem bytes_size (l : List UInt8) : (⟨l.toArray⟩ : ByteArray).size = l.length := by simp [ByteArray.size]

theorem bytes_toList (l : List UInt8) : (⟨l.toArray⟩ : ByteArray).toList = l := by
  rw [Lib.toList_data]

end Go.Proofs.Ytdflcfdpkakboaa.Hand
