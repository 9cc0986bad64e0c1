/- The plain law of SpinDraws: for all tickets, the law function answers true: who draws has as many ahead as were out, and it is its turn when so many more are done. No conditions. -/
import Derived.Test.YtokobpgpdddndaaPSpinDrawsx1
import Derived.Test.YtokobpgpdddndaaSpin
namespace Go.Proofs.Ytokobpgpdddndaa.Pure
open Go.RowKit Go.Proofs.Ytokobpgpdddndaa.PSpinDraws Go.Proofs.YtokobpgpdddndaaW.PrintWords Go.Proofs.YtokobpgpdddndaaW.PrintLast Go.Proofs.Ytokobpgpdddndaa.Hand
namespace SpinDrawsAid

theorem alive_f : deadboltlaw06_alive.f = some true := by
  have h0 : okW 0 := ⟨by omega, by omega⟩
  have h1 : okW 4294967295 := ⟨by omega, by omega⟩
  simp [deadboltlaw06_alive.f, out_yes h0 h1, done_yes h0 h1]

theorem loop (n s : Int) (hn : okW n) (hs : okW s) (o : Nat) (ho : (n - s) % 4294967296 = o) (h50 : o ≤ 50) (d : Nat) : ∀ (k i : Nat), i + d = o → d < k →
    deadboltlaw06_SpinDraws.l0 k n o i ((n + 1) % 4294967296) ((s + i) % 4294967296) = some true := by
  have hn1 := hn.1; have hn2 := hn.2; have hs1 := hs.1; have hs2 := hs.2
  induction d with
  | zero =>
    intro k i hi hk
    obtain ⟨k, rfl⟩ : ∃ m, k = m + 1 := ⟨k - 1, by omega⟩
    simp only [deadboltlaw06_SpinDraws.l0]
    have e : (n == (s + i) % 4294967296) = true := beq_iff_eq.2 (by omega)
    rw [if_neg (by omega), turn_yes n (okW_mod _) (okW_mod _), e]
    rfl
  | succ d ih =>
    intro k i hi hk
    obtain ⟨k, rfl⟩ : ∃ m, k = m + 1 := ⟨k - 1, by omega⟩
    have ihh := ih k (i + 1) (by omega) (by omega)
    simp only [deadboltlaw06_SpinDraws.l0]
    have e : (n == (s + i) % 4294967296) = false := beq_eq_false_iff_ne.2 (by omega)
    have e1 : wrap64 ((i : Int) + 1) = ((i + 1 : Nat) : Int) := by unfold wrap64; omega
    have e2 : ((s + i) % 4294967296 + 1) % 4294967296 = (s + ((i + 1 : Nat) : Int)) % 4294967296 := by omega
    rw [if_pos (by omega), turn_yes n (okW_mod _) (okW_mod _), done_yes (okW_mod _) (okW_mod _) (by omega), e, e1, e2]
    simp only [Option.bind_some, if_true, Bool.false_eq_true, if_false]
    exact ihh

end SpinDrawsAid
open SpinDrawsAid

theorem SpinDraws (n s : Int) : deadboltlaw06_SpinDraws.f 60 n s = some true := by
  unfold deadboltlaw06_SpinDraws.f
  by_cases h : okW n ∧ okW s
  · obtain ⟨hn, hs⟩ := h
    have hn1 := hn.1; have hn2 := hn.2; have hs1 := hs.1; have hs2 := hs.2
    rw [out_yes hn hs]
    simp only [Option.bind_some, if_true]
    obtain ⟨o, ho⟩ : ∃ o : Nat, (n - s) % 4294967296 = o := ⟨((n - s) % 4294967296).toNat, by omega⟩
    by_cases h50 : (n - s) % 4294967296 > 50
    · rw [decide_eq_true h50]
      simp only [deadboltlaw06_SpinDraws.j0, if_true, alive_f, Option.bind_some]
    · rw [decide_eq_false h50]
      have e1 : (((n + 1) % 4294967296 - s) % 4294967296) = wrap64 ((n - s) % 4294967296 + 1) := by unfold wrap64; omega
      have hl := loop n s hn hs o ho (by omega) o 58 0 (by omega) (by omega)
      have e2 : (s + ((0 : Nat) : Int)) % 4294967296 = s := by omega
      rw [e2, ← ho] at hl
      simp only [deadboltlaw06_SpinDraws.j0, Bool.false_eq_true, if_false, draw_yes hn hs (by omega), Option.bind_some, out_yes (okW_mod (n + 1)) hs, e1, if_true, alive_f, Bool.not_true, deadboltlaw06_SpinDraws.j1]
      exact hl
  · rw [out_no h]
    simp [deadboltlaw06_SpinDraws.j0, alive_f]

end Go.Proofs.Ytokobpgpdddndaa.Pure
