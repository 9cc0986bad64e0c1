/- The plain law of WordSteps: for every kind and all numbers, the printed law function answers true: so many ones, added one by one, are as added at once, and taken away again they are nothing. No conditions beyond the numbers being of their kind. -/
import Derived.Test.YtdflcfdpkakboaaPWordStepsx1
namespace Go.Proofs.Ytdflcfdpkakboaa.Pure
open Go.RowKit Go.Proofs.Ytdflcfdpkakboaa.PWordSteps Go.Proofs.YtdflcfdpkakboaaW.PrintWords Go.Proofs.YtdflcfdpkakboaaW.PrintLast

theorem steps_kind (a : Int) : Int.tmod (wrap64 (Int.tmod a 3 + 3)) 3 = 0 ∨ Int.tmod (wrap64 (Int.tmod a 3 + 3)) 3 = 1 ∨ Int.tmod (wrap64 (Int.tmod a 3 + 3)) 3 = 2 := by
  have h1 : -3 < Int.tmod a 3 := by
    have := Int.lt_tmod_of_pos a (b := 3) (by omega); omega
  have h2 : Int.tmod a 3 < 3 := Int.tmod_lt_of_pos a (by omega)
  have h3 : wrap64 (Int.tmod a 3 + 3) = Int.tmod a 3 + 3 := by unfold wrap64; omega
  rw [h3, Int.tmod_eq_emod_of_nonneg (by omega)]
  omega

theorem steps_num (a : Int) : 0 ≤ Int.tmod (wrap64 (Int.tmod a 60 + 60)) 60 ∧ Int.tmod (wrap64 (Int.tmod a 60 + 60)) 60 < 60 := by
  have h1 : -60 < Int.tmod a 60 := by
    have := Int.lt_tmod_of_pos a (b := 60) (by omega); omega
  have h2 : Int.tmod a 60 < 60 := Int.tmod_lt_of_pos a (by omega)
  have h3 : wrap64 (Int.tmod a 60 + 60) = Int.tmod a 60 + 60 := by unfold wrap64; omega
  rw [h3, Int.tmod_eq_emod_of_nonneg (by omega)]
  omega

theorem steps_alive : deadboltlaw01_alive.f = some true := by
  simp [deadboltlaw01_alive.f, word_Add.f, word_Wrap.f, wrap64, wrap32]

/-- A number as a word of a kind. -/
def asWord (kd x : Int) : Int := if kd = 0 then wrap64 (wrap32 x) else if kd = 1 then x % 4294967296 else x

theorem wrap_f (kd x : Int) (h : kd = 0 ∨ kd = 1 ∨ kd = 2) : word_Wrap.f kd x = some (asWord kd x, 0) := by
  rcases h with rfl | rfl | rfl <;> simp [word_Wrap.f, asWord]

theorem add_f (kd x y : Int) (h : kd = 0 ∨ kd = 1 ∨ kd = 2) : word_Add.f kd x y = some (asWord kd (wrap64 (x + y)), 0) := by
  simp [word_Add.f, wrap_f kd _ h]

theorem asWord_idem (kd x : Int) : asWord kd (asWord kd x) = asWord kd x := by
  unfold asWord; split <;> (try split) <;> (try unfold wrap64 wrap32) <;> omega

theorem fits_f (kd x : Int) (h : kd = 0 ∨ kd = 1 ∨ kd = 2) : word_Fits.f kd (asWord kd x) = some true := by
  simp [word_Fits.f, wrap_f kd _ h, asWord_idem]

theorem asWord_next (kd a : Int) (i : Nat) (h : kd = 0 ∨ kd = 1 ∨ kd = 2) : asWord kd (wrap64 (asWord kd (wrap64 (a + i)) + 1)) = asWord kd (wrap64 (a + (i + 1 : Nat))) := by
  rcases h with rfl | rfl | rfl <;> simp [asWord] <;> unfold wrap64 <;> (try unfold wrap32) <;> omega

theorem asWord_ne (kd x : Int) (h : kd = 0 ∨ kd = 1 ∨ kd = 2) (b : -9223372036854775808 ≤ asWord kd x ∧ asWord kd x ≤ 9223372036854775807) : ¬ asWord kd (wrap64 (asWord kd x + 1)) = asWord kd x := by
  rcases h with rfl | rfl | rfl <;> simp [asWord] at * <;> unfold wrap64 at * <;> (try unfold wrap32 at *) <;> omega

theorem asWord_bd (kd x : Int) (h : kd = 0 ∨ kd = 1 ∨ kd = 2) (b : -9223372036854775808 ≤ x ∧ x ≤ 9223372036854775807) : -9223372036854775808 ≤ asWord kd x ∧ asWord kd x ≤ 9223372036854775807 := by
  rcases h with rfl | rfl | rfl <;> simp [asWord] <;> (try unfold wrap64 wrap32) <;> omega

theorem wrap64_bd (x : Int) : -9223372036854775808 ≤ wrap64 x ∧ wrap64 x ≤ 9223372036854775807 := by unfold wrap64; omega

theorem steps_loop (kd a : Int) (n : Nat) (hn : n < 60) (h : kd = 0 ∨ kd = 1 ∨ kd = 2) (ba : -9223372036854775808 ≤ a ∧ a ≤ 9223372036854775807) (d : Nat) : ∀ (k i : Nat), i + d = n → d < k →
    deadboltlaw01_WordSteps.l0 k kd a n (asWord kd a) (asWord kd (wrap64 (a + i))) n i = some true := by
  induction d with
  | zero =>
    intro k i hi hk
    obtain ⟨k, rfl⟩ : ∃ m, k = m + 1 := ⟨k - 1, by omega⟩
    obtain rfl : i = n := by omega
    simp only [deadboltlaw01_WordSteps.l0]
    rw [if_neg (by omega), add_f _ _ _ h, add_f _ _ _ h, steps_alive]
    simp only [Option.bind_some, if_true]
    have e : asWord kd (wrap64 (asWord kd (wrap64 (a + i)) + wrap64 (-i))) = asWord kd a := by
      rcases h with rfl | rfl | rfl <;> simp [asWord] <;> unfold wrap64 <;> (try unfold wrap32) <;> omega
    rw [e]; simp
  | succ d ih =>
    intro k i hi hk
    obtain ⟨k, rfl⟩ : ∃ m, k = m + 1 := ⟨k - 1, by omega⟩
    have ihh := ih k (i + 1) (by omega) (by omega)
    simp only [deadboltlaw01_WordSteps.l0]
    rw [if_pos (by omega), add_f _ _ _ h]
    simp only [Option.bind_some, if_true]
    rw [fits_f _ _ h]
    simp only [Option.bind_some, if_true]
    rw [if_neg (asWord_ne kd _ h (asWord_bd kd _ h (wrap64_bd _))), asWord_next kd a i h]
    have e : wrap64 ((i : Int) + 1) = ((i + 1 : Nat) : Int) := by unfold wrap64; omega
    rw [e]
    exact ihh

theorem WordSteps : deadboltlaw01_WordSteps.Pure := by
  intro a0 a1 a2 w0 w1 w2
  have b1 : -9223372036854775808 ≤ a1 ∧ a1 ≤ 9223372036854775807 := by
    have e : IntKind.i64.min = -9223372036854775808 := rfl
    simpa [Lit.wf, e] using w1
  refine ⟨61, ?_⟩
  unfold deadboltlaw01_WordSteps.f
  have hk := steps_kind a0
  have hn := steps_num a2
  generalize Int.tmod (wrap64 (Int.tmod a0 3 + 3)) 3 = kd at *
  generalize Int.tmod (wrap64 (Int.tmod a2 60 + 60)) 60 = n at *
  obtain ⟨m, rfl⟩ := Int.eq_ofNat_of_zero_le hn.1
  rw [wrap_f _ _ hk]
  simp only [Option.bind_some, if_true]
  have e := steps_loop kd a1 m (by omega) hk b1 m 61 0 (by omega) (by omega)
  have e0 : wrap64 (a1 + (0 : Nat)) = a1 := by unfold wrap64; omega
  rw [e0] at e
  exact e

end Go.Proofs.Ytdflcfdpkakboaa.Pure
