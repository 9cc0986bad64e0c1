/- The plain law of ProgLines: for all inputs the law function answers true: two rows of programs, one text behind the other, are parsed as both, if they are not too many; and each line by itself is. No conditions beyond those of the given statement. -/
import Derived.Test.YtfebhemdpbnebaaDoorPureProgLinesB
namespace Go.Proofs.YtfebhemdpbnebaaDoor.Pure
open Go.RowKit Go.Proofs.YtfebhemdpbnebaaDoor.PProgLines Go.Proofs.YtfebhemdpbnebaaDoorW.PrintWords Go.Proofs.YtfebhemdpbnebaaDoorW.PrintLast Go.Proofs.YtfebhemdpbnebaaDoorW.PrintMore Go.Proofs.YtfebhemdpbnebaaDoor.Hand
set_option linter.unusedVariables false
set_option linter.unusedSimpArgs false
namespace ProgLinesAid


end ProgLinesAid
open ProgLinesAid
theorem text_app (a b : List (List S32)) : textL (a ++ b) = textL a ++ textL b := by
  unfold textL
  rw [List.map_append, List.flatten_append]
theorem lines_l0 (x : List (List S32)) (hok : okPs x = true) : ∀ (j i k : Nat), i + j = x.length → 20000 + j + 1 ≤ k → deadboltlaw12_ProgLines.l0 k x (x.length : Int) (i : Int) = some true := by
  obtain ⟨z8, z64⟩ := ps_sizes x hok
  obtain ⟨_, hall⟩ := okPs_all x hok
  intro j
  induction j with
  | zero =>
    intro i k hi hk
    obtain ⟨k, rfl⟩ : ∃ q, k = q + 1 := ⟨k - 1, by omega⟩
    simp only [deadboltlaw12_ProgLines.l0]
    rw [if_neg (by omega)]
  | succ j ih =>
    intro i k hi hk
    obtain ⟨k, rfl⟩ : ∃ q, k = q + 1 := ⟨k - 1, by omega⟩
    have hin : i < x.length := by omega
    have hp := hall _ (List.getElem_mem hin)
    have hpz := z64 _ (List.getElem_mem hin)
    have ho : okPs [x[i]] = true := by
      unfold okPs
      simp [hp]
    simp only [deadboltlaw12_ProgLines.l0]
    rw [if_pos (by omega), if_pos (by omega), if_pos (by omega), rdL_nat x i hin]
    unfold prog_Print.f
    rw [if_pos ho]
    simp only [Option.bind_some]
    have hz := text_size [x[i]] (by intro p h; rw [List.mem_singleton.1 h]; exact hp) 1 (Nat.le_refl _)
    have hz2 : (textB [x[i]]).size ≤ 1921 := by simpa using hz
    rw [parse_text _ ho k (by omega), if_neg (by omega)]
    simp only [Option.bind_some, if_true, List.length_cons, List.length_nil]
    have hr0 : rd_L4 [x[i]] 0 = x[i] := rfl
    rw [if_pos (by omega), if_pos (by omega), hr0, Acts_self _ (by omega) k (by omega)]
    simp only [Option.bind_some, if_true]
    rw [up1 i (by omega)]
    exact ih (i + 1) k (by omega) (by omega)
theorem lines_j1 (a : List (List S32)) (ha : okPs a = true) (m : Nat) (hm : 30001 ≤ m) : deadboltlaw12_ProgLines.j1 m a false = some true := by
  obtain ⟨za8, za64⟩ := ps_sizes a ha
  obtain ⟨k, rfl⟩ : ∃ q, m = q + 1 := ⟨m - 1, by omega⟩
  simp only [deadboltlaw12_ProgLines.j1, Bool.false_eq_true, if_false]
  exact lines_l0 a ha a.length 0 k (by omega) (by omega)
theorem lines_j0 (a b : List (List S32)) (ha : okPs a = true) (hb : okPs b = true) (hz : (textB a).size + (textB b).size ≤ 2000) (m : Nat) (hm : 30001 ≤ m) : deadboltlaw12_ProgLines.j0 (m + 1) a b (textB a) (textB b) false = some true := by
  obtain ⟨za8, za64⟩ := ps_sizes a ha
  obtain ⟨zb8, zb64⟩ := ps_sizes b hb
  obtain ⟨_, ea⟩ := okPs_all a ha
  obtain ⟨_, eb⟩ := okPs_all b hb
  have hall : (a ++ b).all okP = true := by
    rw [List.all_append, List.all_eq_true.2 ea, List.all_eq_true.2 eb]
    rfl
  have hd : (textB a ++ textB b).data.toList = textL (a ++ b) := by
    rw [ByteArray.data_append, Array.toList_append, text_data, text_data, text_app]
  have hlen : (textL (a ++ b)).length ≤ 2000 := by
    rw [← hd, len_data, ByteArray.size_append]
    exact hz
  simp only [deadboltlaw12_ProgLines.j0]
  rw [if_neg (by decide), if_pos (by omega), parse_v _ m (by omega), hd, parseV_text _ hall hlen, alive_any m (by omega), wr ((a.length : Int) + (b.length : Int)) (by omega) (by omega)]
  rw [Option.bind_some]
  simp only [Option.bind_some, List.length_append, List.nil_append, List.length_nil, Nat.zero_add, if_true]
  by_cases h8 : a.length + b.length ≤ 8
  · rw [if_neg (by omega), if_pos h8]
    simp only [if_true]
    rw [if_pos (by omega), if_pos (by omega), Same_self (a ++ b) 64 (by decide) (fun p hp => (List.mem_append.1 hp).elim (za64 p) (zb64 p)) (by rw [List.length_append]; omega) m (by rw [List.length_append]; omega)]
    simp only [Option.bind_some, if_true, Bool.not_true]
    exact lines_j1 a ha m (by omega)
  · rw [if_pos (by omega), if_neg h8]
    rfl
theorem ProgLinesAny (k : Nat) (hk : 30002 ≤ k) (l0 l1 : List (List S32)) : deadboltlaw12_ProgLines.f k l0 l1 = some true := by
  obtain ⟨a, h1, hx, hrows⟩ := few_f l0 k (by omega)
  obtain ⟨b, h2, hy, hrows2⟩ := few_f l1 k (by omega)
  have hj : ∀ (x0 x1 : List (List S32)) (s t : ByteArray), deadboltlaw12_ProgLines.j0 k x0 x1 s t true = some true := fun x0 x1 s t => by
    obtain ⟨k, rfl⟩ : ∃ q, k = q + 1 := ⟨k - 1, by omega⟩
    simp only [deadboltlaw12_ProgLines.j0, if_true]
    rw [alive_any k (by omega)]
    rfl
  unfold deadboltlaw12_ProgLines.f prog_Print.f
  rw [h1]
  simp only [Option.bind_some]
  rw [h2]
  simp only [Option.bind_some]
  by_cases ha : okPs a = true
  · rw [if_pos ha]
    by_cases hb : okPs b = true
    · rw [if_pos hb]
      simp only [if_true]
      obtain ⟨za8, _⟩ := ps_sizes a ha
      obtain ⟨zb8, _⟩ := ps_sizes b hb
      have qa := text_size a (okPs_all a ha).2 a.length (Nat.le_refl _)
      have qb := text_size b (okPs_all b hb).2 b.length (Nat.le_refl _)
      rw [List.take_length] at qa qb
      rw [wr _ (by omega) (by omega)]
      by_cases hz : (textB a).size + (textB b).size ≤ 2000
      · rw [decide_eq_false (by omega)]
        obtain ⟨k, rfl⟩ : ∃ q, k = q + 1 := ⟨k - 1, by omega⟩
        exact lines_j0 a b ha hb hz k (by omega)
      · rw [decide_eq_true (by omega)]
        exact hj _ _ _ _
    · rw [if_neg hb]
      exact hj _ _ _ _
  · rw [if_neg ha]
    by_cases hb : okPs b = true
    · rw [if_pos hb]
      exact hj _ _ _ _
    · rw [if_neg hb]
      exact hj _ _ _ _
theorem ProgLines (l0 l1 : List (List S32)) : deadboltlaw12_ProgLines.f (31000 + 10) l0 l1 = some true := ProgLinesAny (31000 + 10) (by omega) l0 l1

end Go.Proofs.YtfebhemdpbnebaaDoor.Pure
