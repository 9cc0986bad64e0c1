/- The plain law of WordTells: for all numbers, the law function answers true: which numbers are words, any number as a word, any two added, and the digits of any are as the reference says, or refused. No conditions beyond the numbers being of their kind. -/
import Derived.Test.YtdflcfdpkakboaaPWordTellsx1
import Derived.Test.YtdflcfdpkakboaaBits
namespace Go.Proofs.Ytdflcfdpkakboaa.Pure
open Go.RowKit Go.Proofs.Ytdflcfdpkakboaa.PWordTells Go.Proofs.YtdflcfdpkakboaaW.PrintWords Go.Proofs.YtdflcfdpkakboaaW.PrintLast Go.Proofs.Ytdflcfdpkakboaa.Hand
namespace WordTellsAid

theorem alive_f : deadboltlaw01_alive.f = some true := by
  simp [deadboltlaw01_alive.f, word_Add.f, word_Wrap.f, wrap64, wrap32]

def asWord (kd x : Int) : Int := if kd = 0 then wrap64 (wrap32 x) else if kd = 1 then x % 4294967296 else x

theorem wrap_f (kd x : Int) (h : kd = 0 ∨ kd = 1 ∨ kd = 2) : word_Wrap.f kd x = some (asWord kd x, 0) := by
  rcases h with rfl | rfl | rfl <;> simp [word_Wrap.f, asWord]

theorem wrap_no (kd x : Int) (h : ¬ (kd = 0 ∨ kd = 1 ∨ kd = 2)) : word_Wrap.f kd x = some (0, 1) := by
  unfold word_Wrap.f; rw [if_neg (by omega), if_neg (by omega), if_neg (by omega)]

theorem fits_f (kd x : Int) (h : kd = 0 ∨ kd = 1 ∨ kd = 2) : word_Fits.f kd x = some (asWord kd x == x) := by
  simp [word_Fits.f, wrap_f kd _ h]

theorem fits_no (kd x : Int) (h : ¬ (kd = 0 ∨ kd = 1 ∨ kd = 2)) : word_Fits.f kd x = some false := by
  simp [word_Fits.f, wrap_no kd _ h]

theorem kind_f (kd : Int) (h : kd = 0 ∨ kd = 1 ∨ kd = 2) : deadboltref01_Kind.f kd = some true := by
  unfold deadboltref01_Kind.f; rw [if_pos (by omega), decide_eq_true (by omega)]

theorem kind_no (kd : Int) (h : ¬ (kd = 0 ∨ kd = 1 ∨ kd = 2)) : deadboltref01_Kind.f kd = some false := by
  unfold deadboltref01_Kind.f
  by_cases h0 : kd ≥ 0
  · rw [if_pos h0, decide_eq_false (by omega)]
  · rw [if_neg h0]

theorem ref_rem (x : Int) : Int.tmod (wrap64 (Int.tmod x 4294967296 + 4294967296)) 4294967296 = x % 4294967296 := by
  have h0 := tmod_emod x 4294967296
  have h1 : wrap64 (Int.tmod x 4294967296 + 4294967296) = Int.tmod x 4294967296 + 4294967296 := by unfold wrap64; split at h0 <;> omega
  rw [h1, tmod_emod _ 4294967296]
  split at h0 <;> split <;> omega

theorem ref_wrap (kd x : Int) (h : kd = 0 ∨ kd = 1 ∨ kd = 2) : deadboltref01_Wrap.f kd x = some (asWord kd x) := by
  unfold deadboltref01_Wrap.f
  rw [ref_rem]
  rcases h with rfl | rfl | rfl
  · rw [if_neg (by omega), if_pos rfl]
    simp only [asWord, if_true]
    split <;> (congr 1; unfold wrap64; (try unfold wrap32); omega)
  · simp [asWord]
  · simp [asWord]

theorem ref_fits (kd x : Int) (h : kd = 0 ∨ kd = 1 ∨ kd = 2) : deadboltref01_Fits.f kd x = some (asWord kd x == x) := by
  simp [deadboltref01_Fits.f, kind_f kd h, ref_wrap kd x h]

theorem ref_fits_no (kd x : Int) (h : ¬ (kd = 0 ∨ kd = 1 ∨ kd = 2)) : deadboltref01_Fits.f kd x = some false := by
  simp [deadboltref01_Fits.f, kind_no kd h]

theorem ref_add (kd a b : Int) (h : kd = 0 ∨ kd = 1 ∨ kd = 2) : deadboltref01_Add.f kd a b = some (asWord kd (wrap64 (a + b))) := by
  unfold deadboltref01_Add.f
  rw [ref_wrap kd a h, ref_wrap kd b h]
  simp only [Option.bind_some]
  rw [ref_wrap kd _ h]
  simp only [Option.bind_some]
  rcases h with rfl | rfl | rfl
  · rw [if_neg (by omega)]; congr 1; simp [asWord]; unfold wrap64 wrap32; omega
  · rw [if_neg (by omega)]; congr 1; simp [asWord]; unfold wrap64; omega
  · rw [if_pos rfl]; congr 1; simp [asWord, IntKind.wrap_u64]; unfold wrap64; omega

theorem bitsUp_half (d : Nat) (u : Int) : bitsUp (d + 1) u (d + 1) = bitsUp d (u / 2) d ++ [bitAt u 0] := by
  rw [bitsUp_succ, show d + 1 - 1 - d = 0 by omega]
  congr 1
  unfold bitsUp
  apply List.map_congr_left
  intro t ht
  have ht : t < d := List.mem_range.1 ht
  unfold bitAt
  rw [Int.ediv_ediv_of_nonneg (by omega), Int.mul_comm, ← Int.pow_succ, show (d - 1 - t).succ = d + 1 - 1 - t by omega]

theorem ref_bits_loop (n : Nat) (hn : n ≤ 64) (d : Nat) : ∀ (k : Nat) (out : List UInt8) (u : Int) (i : Nat), i + d = n → out.length = i → d < k → 0 ≤ u → u < 18446744073709551616 →
    deadboltref01_Bits.l0 k n ⟨out.toArray⟩ u i = some ⟨(bitsUp d u d ++ out).toArray⟩ := by
  induction d with
  | zero =>
    intro k out u i hi ho hk h0 h1
    obtain ⟨k, rfl⟩ : ∃ m, k = m + 1 := ⟨k - 1, by omega⟩
    simp only [deadboltref01_Bits.l0]
    rw [if_neg (by omega)]
    simp [bitsUp]
  | succ d ih =>
    intro k out u i hi ho hk h0 h1
    obtain ⟨k, rfl⟩ : ∃ m, k = m + 1 := ⟨k - 1, by omega⟩
    have e1 : Int.tmod u 2 = u % 2 := Int.tmod_eq_emod_of_nonneg h0
    have e2 : IntKind.u64.wrap (Int.tdiv u 2) = u / 2 := by rw [Int.tdiv_eq_ediv_of_nonneg h0, IntKind.wrap_u64]; omega
    have e3 : wrap64 ((i : Int) + 1) = ((i + 1 : Nat) : Int) := by unfold wrap64; omega
    simp only [deadboltref01_Bits.l0]
    rw [e1, e2, e3, if_pos (by omega), bitsUp_half]
    have app : ∀ x : UInt8, (⟨#[x]⟩ : ByteArray) ++ (⟨out.toArray⟩ : ByteArray) = ⟨(x :: out).toArray⟩ := by
      intro x
      apply ByteArray.ext
      simp
    have hsz : 1 + (⟨out.toArray⟩ : ByteArray).size ≤ 9223372036854775807 := by rw [bytes_size]; omega
    by_cases hb : u % 2 = 1
    · rw [if_pos hb, if_pos hsz, app, ih k (49 :: out) (u / 2) (i + 1) (by omega) (by simp; omega) (by omega) (by omega) (by omega)]
      have : bitAt u 0 = 49 := by unfold bitAt; simp [hb]
      rw [this]; simp
    · rw [if_neg hb, if_pos hsz, app, ih k (48 :: out) (u / 2) (i + 1) (by omega) (by simp; omega) (by omega) (by omega) (by omega)]
      have : bitAt u 0 = 48 := by unfold bitAt; simp [hb]
      rw [this]; simp

theorem bitAt_wrap (x : Int) (j : Nat) (hj : j < 64) : bitAt (x % 18446744073709551616) j = bitAt x j := by
  have h1 : x = x % 18446744073709551616 + 2 ^ j * (2 * (2 ^ (63 - j) * (x / 18446744073709551616))) := by
    have h2 : (18446744073709551616 : Int) = 2 ^ j * (2 * 2 ^ (63 - j)) := by
      rw [← Int.mul_assoc, ← Int.pow_succ, ← Int.pow_add, show j + 1 + (63 - j) = 64 by omega]; rfl
    have h3 := Int.emod_add_mul_ediv x 18446744073709551616
    rw [← Int.mul_assoc 2, ← Int.mul_assoc, ← h2]
    omega
  unfold bitAt
  have h4 : x / 2 ^ j = x % 18446744073709551616 / 2 ^ j + 2 * (2 ^ (63 - j) * (x / 18446744073709551616)) := by
    have hp : (2 : Int) ^ j ≠ 0 := by
      have : (0 : Int) < 2 ^ j := Int.pow_pos (by omega)
      omega
    conv => lhs; rw [h1]
    rw [Int.add_mul_ediv_left _ _ hp]
  rw [h4]
  generalize x % 18446744073709551616 / 2 ^ j = p
  generalize 2 ^ (63 - j) * (x / 18446744073709551616) = q
  rw [show (p + 2 * q) % 2 = p % 2 by omega]

theorem bitsUp_wrap (n : Nat) (hn : n ≤ 64) (x : Int) : bitsUp n (x % 18446744073709551616) n = bitsUp n x n := by
  unfold bitsUp
  apply List.map_congr_left
  intro t ht
  have ht : t < n := List.mem_range.1 ht
  exact bitAt_wrap x _ (by omega)

theorem ref_bits (kd x : Int) : deadboltref01_Bits.f 66 kd x = some ⟨(if kd = 2 then bitsUp 64 x 64 else bitsUp 32 x 32).toArray⟩ := by
  unfold deadboltref01_Bits.f
  have h : ∀ n : Nat, n ≤ 64 → deadboltref01_Bits.j0 66 x n = some ⟨(bitsUp n x n).toArray⟩ := by
    intro n hn
    simp only [deadboltref01_Bits.j0]
    have := ref_bits_loop n hn n 65 [] (IntKind.u64.wrap x) 0 (by omega) rfl (by omega) (by rw [IntKind.wrap_u64]; omega) (by rw [IntKind.wrap_u64]; omega)
    rw [IntKind.wrap_u64, bitsUp_wrap n hn, List.append_nil] at this
    rw [IntKind.wrap_u64]
    exact this
  split
  · exact h 64 (by omega)
  · exact h 32 (by omega)

end WordTellsAid
open WordTellsAid

theorem WordTells : deadboltlaw01_WordTells.Pure := by
  intro a0 a1 a2 w0 w1 w2
  refine ⟨67, ?_⟩
  unfold deadboltlaw01_WordTells.f
  by_cases hk : a0 = 0 ∨ a0 = 1 ∨ a0 = 2
  · have hadd : word_Add.f a0 a1 a2 = some (asWord a0 (wrap64 (a1 + a2)), 0) := by simp [word_Add.f, wrap_f a0 _ hk]
    have hj1 : deadboltlaw01_WordTells.j1 66 a0 a1 a2 (asWord a0 a1) 0 (asWord a0 (wrap64 (a1 + a2))) 0 = some true := by
      simp only [deadboltlaw01_WordTells.j1, kind_f a0 hk, ref_wrap a0 _ hk, ref_add a0 _ _ hk, Option.bind_some, if_true]
      simp
    by_cases hf : asWord a0 a1 = a1
    · have hbits : word_Bits.f a0 a1 = some (⟨(if a0 = 2 then bitsUp 64 a1 64 else bitsUp 32 a1 32).toArray⟩, 0) := by
        simp only [word_Bits.f, fits_f a0 a1 hk, hf, beq_self_eq_true, Option.bind_some, if_true]
        split <;> rfl
      simp only [wrap_f a0 _ hk, hadd, hbits, fits_f a0 a1 hk, ref_fits a0 a1 hk, alive_f, Option.bind_some, bne_self_eq_false, Bool.false_eq_true, if_false, deadboltlaw01_WordTells.j0, ref_bits, hf, beq_self_eq_true, if_true, Bool.not_true]
      rw [hf] at hj1
      exact hj1
    · have hb : (asWord a0 a1 == a1) = false := beq_eq_false_iff_ne.2 hf
      have hbits : word_Bits.f a0 a1 = some (⟨#[]⟩, 1) := by simp [word_Bits.f, fits_f a0 a1 hk, hb]
      simp only [wrap_f a0 _ hk, hadd, hbits, fits_f a0 a1 hk, ref_fits a0 a1 hk, hb, alive_f, Option.bind_some, bne_self_eq_false, Bool.false_eq_true, if_false, deadboltlaw01_WordTells.j0, if_true, Bool.not_true]
      rw [if_pos (by rw [Lib.toList_data])]
      exact hj1
  · have hadd : word_Add.f a0 a1 a2 = some (0, 1) := by simp [word_Add.f, wrap_no a0 _ hk]
    have hbits : word_Bits.f a0 a1 = some (⟨#[]⟩, 1) := by simp [word_Bits.f, fits_no a0 a1 hk]
    simp only [wrap_no a0 _ hk, hadd, hbits, fits_no a0 a1 hk, ref_fits_no a0 a1 hk, alive_f, Option.bind_some, bne_self_eq_false, Bool.false_eq_true, if_false, deadboltlaw01_WordTells.j0, deadboltlaw01_WordTells.j1, kind_no a0 hk, if_true, Bool.not_true]
    rw [if_pos (by rw [Lib.toList_data])]
    simp

end Go.Proofs.Ytdflcfdpkakboaa.Pure
