/- The plain law of SpinTurns: for every number to begin at and every script, the law function answers true: tickets are served in the order in which they were drawn, each when all that were out ahead of it are done. No conditions. -/
import Derived.Test.YtokobpgpdddndaaPSpinTurnsx2
import Derived.Test.YtokobpgpdddndaaSpin
namespace Go.Proofs.Ytokobpgpdddndaa.Pure
open Go.RowKit Go.Proofs.Ytokobpgpdddndaa.PSpinTurns Go.Proofs.YtokobpgpdddndaaW.PrintWords Go.Proofs.YtokobpgpdddndaaW.PrintLast Go.Proofs.YtokobpgpdddndaaW.PrintMore Go.Proofs.Ytokobpgpdddndaa.Hand
namespace SpinTurnsAid

theorem alive_f : deadboltlaw06_alive.f = some true := by
  have h0 : okW 0 := ⟨by omega, by omega⟩
  have h1 : okW 4294967295 := ⟨by omega, by omega⟩
  simp [deadboltlaw06_alive.f, out_yes h0 h1, done_yes h0 h1]

/-- The tickets that are out: from the one that is served on. -/
def row (sv : Int) (n : Nat) : List Int := (List.range n).map fun (j : Nat) => (sv + (j : Int)) % 4294967296

theorem row_length (sv : Int) (n : Nat) : (row sv n).length = n := by simp [row]

theorem row_snoc (sv : Int) (n : Nat) : row sv n ++ [(sv + (n : Int)) % 4294967296] = row sv (n + 1) := by simp [row, List.range_succ]

theorem row_drop (sv : Int) (n : Nat) : (row sv (n + 1)).drop 1 = row ((sv + 1) % 4294967296) n := by
  unfold row
  rw [List.range_succ_eq_map, List.map_cons, List.drop_succ_cons, List.drop_zero, List.map_map]
  apply List.map_congr_left
  intro j _
  simp only [Function.comp]
  omega

theorem row_rd (sv : Int) (n i : Nat) (h : i < n) : rd (row sv n) i = (sv + (i : Int)) % 4294967296 := by
  unfold rd
  rw [List.getD_eq_getElem?_getD, Int.toNat_natCast, List.getElem?_eq_getElem (by rw [row_length]; exact h)]
  simp [row]

theorem ask (sv : Int) (hs : okW sv) (len : Nat) (hl : len ≤ 200) (x7 : List Int) (x35 : List Bool) (x36 x37 : Int) (nx : Int) (hn : okW nx) (e : Nat) : ∀ (i k : Nat), i + e = len →
    deadboltlaw06_SpinTurns.l1 (k + e + 1) x7 x35 x36 x37 (row sv len) len i nx sv = deadboltlaw06_SpinTurns.l0 k x7 x35 x36 (wrap64 (x37 + 1)) nx sv := by
  have hs1 := hs.1; have hs2 := hs.2
  induction e with
  | zero =>
    intro i k hi
    simp only [deadboltlaw06_SpinTurns.l1]
    rw [if_neg (by omega)]
  | succ e ih =>
    intro i k hi
    have e1 : wrap64 ((i : Int) + 1) = ((i + 1 : Nat) : Int) := by unfold wrap64; omega
    rw [show k + (e + 1) + 1 = (k + e + 1) + 1 by omega]
    simp only [deadboltlaw06_SpinTurns.l1]
    rw [if_pos (by omega), if_pos (by omega), if_pos (by rw [row_length]; omega), row_rd sv len i (by omega), turn_yes _ hn hs, e1]
    simp only [Option.bind_some, if_true]
    have e2 : (((sv + (i : Int)) % 4294967296 == sv) != ((i : Int) == 0)) = false := by
      by_cases h0 : i = 0
      · subst h0
        rw [beq_iff_eq.2 (show (sv + ((0 : Nat) : Int)) % 4294967296 = sv by omega)]; rfl
      · rw [beq_eq_false_iff_ne.2 (show ¬ (sv + (i : Int)) % 4294967296 = sv by omega), beq_eq_false_iff_ne.2 (show ¬ (i : Int) = 0 by omega)]; rfl
    rw [e2]
    simp only [Bool.false_eq_true, if_false]
    exact ih (i + 1) k (by omega)

theorem met (sv : Int) (hs : okW sv) (len : Nat) (hl : len ≤ 200) (x35 : List Bool) (x36 x37 : Int) (nx : Int) (hn : nx = (sv + (len : Int)) % 4294967296) (k : Nat) :
    deadboltlaw06_SpinTurns.j1 (k + len + 3) (row sv len) x35 x36 x37 nx sv = deadboltlaw06_SpinTurns.l0 k (row sv len) x35 x36 (wrap64 (x37 + 1)) nx sv := by
  have hs1 := hs.1; have hs2 := hs.2
  subst hn
  have ho : ((sv + (len : Int)) % 4294967296 - sv) % 4294967296 = len := by omega
  rw [show k + len + 3 = (k + len + 1) + 1 + 1 by omega]
  simp only [deadboltlaw06_SpinTurns.j1, out_yes (okW_mod (sv + (len : Int))) hs, Option.bind_some, if_true, ho, row_length, bne_self_eq_false, deadboltlaw06_SpinTurns.j2, Bool.false_eq_true, if_false]
  have := ask sv hs len hl (row sv len) x35 x36 x37 ((sv + (len : Int)) % 4294967296) (okW_mod _) len 0 k (by omega)
  exact this

theorem rounds (x35 : List Bool) (m : Nat) (hm : x35.length = m) (h200 : m ≤ 200) (d : Nat) : ∀ (i len : Nat) (sv : Int) (k : Nat), i + d = m → len ≤ i → okW sv → 210 * d < k →
    deadboltlaw06_SpinTurns.l0 k (row sv len) x35 m i ((sv + (len : Int)) % 4294967296) sv = some true := by
  induction d with
  | zero =>
    intro i len sv k hi hl hs hk
    obtain ⟨k, rfl⟩ : ∃ m, k = m + 1 := ⟨k - 1, by omega⟩
    simp only [deadboltlaw06_SpinTurns.l0]
    rw [if_neg (by omega), alive_f]; rfl
  | succ d ih =>
    intro i len sv k hi hl hs hk
    have hs1 := hs.1; have hs2 := hs.2
    obtain ⟨k, rfl⟩ : ∃ m, k = m + 1 := ⟨k - 1, by omega⟩
    have e1 : wrap64 ((i : Int) + 1) = ((i + 1 : Nat) : Int) := by unfold wrap64; omega
    simp only [deadboltlaw06_SpinTurns.l0]
    rw [if_pos (by omega), if_pos (by omega), if_pos (by omega)]
    by_cases hb : rdOf false x35 i = true
    · rw [if_pos hb, draw_yes (okW_mod _) hs (by omega)]
      simp only [Option.bind_some, if_true]
      rw [if_pos (by rw [row_length]; omega), row_snoc]
      have hnx : ((sv + (len : Int)) % 4294967296 + 1) % 4294967296 = (sv + ((len + 1 : Nat) : Int)) % 4294967296 := by omega
      rw [hnx]
      obtain ⟨k', rfl⟩ : ∃ k', k = k' + (len + 1) + 3 := ⟨k - (len + 1) - 3, by omega⟩
      rw [met sv hs (len + 1) (by omega) x35 m i _ rfl k', e1]
      exact ih (i + 1) (len + 1) sv k' (by omega) (by omega) hs (by omega)
    · rw [if_neg hb, row_length]
      by_cases h0 : len = 0
      · subst h0
        rw [done_none (okW_mod _) hs (by omega)]
        simp only [Option.bind_some]
        rw [if_pos (by omega), if_pos trivial, e1]
        exact ih (i + 1) 0 sv k (by omega) (by omega) hs (by omega)
      · rw [done_yes (okW_mod _) hs (by omega)]
        simp only [Option.bind_some]
        rw [if_neg (by omega), if_pos trivial, if_pos (by omega)]
        obtain ⟨l, rfl⟩ : ∃ l, len = l + 1 := ⟨len - 1, by omega⟩
        have hnx : (sv + ((l + 1 : Nat) : Int)) % 4294967296 = ((sv + 1) % 4294967296 + (l : Int)) % 4294967296 := by omega
        have hd : (row sv (l + 1)).drop (1 : Int).toNat = row ((sv + 1) % 4294967296) l := row_drop sv l
        rw [hd, hnx]
        obtain ⟨k', rfl⟩ : ∃ k', k = k' + l + 3 := ⟨k - l - 3, by omega⟩
        rw [met _ (okW_mod _) l (by omega) x35 m i _ rfl k', e1]
        exact ih (i + 1) l _ k' (by omega) (by omega) (okW_mod _) (by omega)

end SpinTurnsAid
open SpinTurnsAid

theorem SpinTurns (a0 : Int) (l1 : List Bool) : deadboltlaw06_SpinTurns.f 42001 a0 l1 = some true := by
  unfold deadboltlaw06_SpinTurns.f
  have hw : word_Wrap.f 1 a0 = some (a0 % 4294967296, 0) := by simp [word_Wrap.f]
  have hmn : 0 ≤ mn (l1.length : Int) 200 ∧ mn (l1.length : Int) 200 ≤ l1.length ∧ mn (l1.length : Int) 200 ≤ 200 := by unfold mn; split <;> omega
  rw [hw]
  simp only [Option.bind_some, if_true]
  rw [if_pos hmn.1, if_pos hmn.2.1]
  generalize hq : l1.take (mn (l1.length : Int) 200).toNat = q
  have hl : q.length ≤ 200 := by rw [← hq, List.length_take]; omega
  have h := rounds q q.length rfl hl q.length 0 0 (a0 % 4294967296) 42001 (by omega) (by omega) (okW_mod _) (by omega)
  have e : (a0 % 4294967296 + ((0 : Nat) : Int)) % 4294967296 = a0 % 4294967296 := by omega
  rw [e] at h
  exact h

end Go.Proofs.Ytokobpgpdddndaa.Pure
