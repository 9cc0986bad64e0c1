/- The plain law of WordRound: for every kind and all numbers, the printed law function answers true: added words do not hang on order, nor on grouping, nor on whether they are wrapped ahead. No conditions beyond the numbers being of their kind. -/
import Derived.Test.YtdflcfdpkakboaaPWordRoundx1
namespace Go.Proofs.Ytdflcfdpkakboaa.Pure
open Go.RowKit Go.Proofs.Ytdflcfdpkakboaa.PWordRound Go.Proofs.YtdflcfdpkakboaaW.PrintWords Go.Proofs.YtdflcfdpkakboaaW.PrintLast

theorem round_kind (a : Int) : Int.tmod (wrap64 (Int.tmod a 3 + 3)) 3 = 0 ∨ Int.tmod (wrap64 (Int.tmod a 3 + 3)) 3 = 1 ∨ Int.tmod (wrap64 (Int.tmod a 3 + 3)) 3 = 2 := by
  have h1 : -3 < Int.tmod a 3 := by
    have := Int.lt_tmod_of_pos a (b := 3) (by omega); omega
  have h2 : Int.tmod a 3 < 3 := Int.tmod_lt_of_pos a (by omega)
  have h3 : wrap64 (Int.tmod a 3 + 3) = Int.tmod a 3 + 3 := by unfold wrap64; omega
  rw [h3, Int.tmod_eq_emod_of_nonneg (by omega)]
  omega

theorem round_bd {a : Int} (w : (Lit.int .i64 a).wf = true) : -9223372036854775808 ≤ a ∧ a ≤ 9223372036854775807 := by
  have e : IntKind.i64.min = -9223372036854775808 := rfl
  simpa [Lit.wf, e] using w

theorem round_alive : deadboltlaw01_alive.f = some true := by
  simp [deadboltlaw01_alive.f, word_Add.f, word_Wrap.f, wrap64, wrap32]

theorem WordRound : deadboltlaw01_WordRound.Pure := by
  intro a0 a1 a2 a3 w0 w1 w2 w3
  refine ⟨1, ?_⟩
  have b1 : -9223372036854775808 ≤ a1 ∧ a1 ≤ 9223372036854775807 := round_bd w1
  have b2 : -9223372036854775808 ≤ a2 ∧ a2 ≤ 9223372036854775807 := round_bd w2
  have b3 : -9223372036854775808 ≤ a3 ∧ a3 ≤ 9223372036854775807 := round_bd w3
  unfold deadboltlaw01_WordRound.f
  have hk := round_kind a0
  generalize Int.tmod (wrap64 (Int.tmod a0 3 + 3)) 3 = kd at *
  rcases hk with rfl | rfl | rfl
  · have e1 : wrap64 (wrap32 (wrap64 (a1 + a2))) = wrap64 (wrap32 (wrap64 (a2 + a1))) := by rw [Int.add_comm]
    have e2 : wrap64 (wrap32 (wrap64 (wrap64 (wrap32 (wrap64 (a1 + a2))) + a3))) = wrap64 (wrap32 (wrap64 (a1 + wrap64 (wrap32 (wrap64 (a2 + a3)))))) := by unfold wrap64 wrap32; omega
    have e3 : wrap64 (wrap32 (wrap64 (wrap32 a1))) = wrap64 (wrap32 a1) := by unfold wrap64 wrap32; omega
    have e4 : wrap64 (wrap32 (wrap64 (wrap64 (wrap32 a1) + a2))) = wrap64 (wrap32 (wrap64 (a1 + a2))) := by unfold wrap64 wrap32; omega
    have e5 : wrap64 (wrap32 (wrap64 (a1 + wrap64 (-a1)))) = 0 := by unfold wrap64 wrap32; omega
    have e6 : wrap64 (wrap32 (wrap64 (a1 + 0))) = wrap64 (wrap32 a1) := by unfold wrap64 wrap32; omega
    have e7 : ∀ x, wrap64 (wrap32 (wrap64 (wrap32 x))) = wrap64 (wrap32 x) := by intro x; unfold wrap64 wrap32; omega
    simp only [word_Add.f, word_Wrap.f, word_Fits.f, deadboltlaw01_WordRound.j0, round_alive, Option.bind_some, if_true, e3, e5, e6]
    rw [← e1]
    simp [e2, e4, e7]
  · have e1 : wrap64 (a1 + a2) % 4294967296 = wrap64 (a2 + a1) % 4294967296 := by rw [Int.add_comm]
    have e2 : wrap64 (wrap64 (a1 + a2) % 4294967296 + a3) % 4294967296 = wrap64 (a1 + wrap64 (a2 + a3) % 4294967296) % 4294967296 := by unfold wrap64; omega
    have e4 : wrap64 (a1 % 4294967296 + a2) % 4294967296 = wrap64 (a1 + a2) % 4294967296 := by unfold wrap64; omega
    have e5 : wrap64 (a1 + wrap64 (-a1)) % 4294967296 = 0 := by unfold wrap64; omega
    have e6 : wrap64 (a1 + 0) % 4294967296 = a1 % 4294967296 := by unfold wrap64; omega
    have e7 : ∀ x : Int, x % 4294967296 % 4294967296 = x % 4294967296 := by intro x; omega
    simp only [word_Add.f, word_Wrap.f, word_Fits.f, deadboltlaw01_WordRound.j0, round_alive, Option.bind_some, if_true, e5, e6]
    rw [← e1]
    simp [e2, e4]
  · have e1 : wrap64 (a1 + a2) = wrap64 (a2 + a1) := by rw [Int.add_comm]
    have e2 : wrap64 (wrap64 (a1 + a2) + a3) = wrap64 (a1 + wrap64 (a2 + a3)) := by unfold wrap64; omega
    have e5 : wrap64 (a1 + wrap64 (-a1)) = 0 := by unfold wrap64; omega
    have e6 : wrap64 (a1 + 0) = a1 := by unfold wrap64; omega
    simp only [word_Add.f, word_Wrap.f, word_Fits.f, deadboltlaw01_WordRound.j0, round_alive, Option.bind_some, if_true, e5, e6]
    rw [← e1]
    simp [e2]

end Go.Proofs.Ytdflcfdpkakboaa.Pure
