/- The plain law of ProgPrints: for all inputs the law function answers true: what may be printed, its text, and whether it is tidy, is as the reference says. No conditions beyond those of the given statement. -/
import Derived.Test.YtfebhemdpbnebaaDoorPureProgPrintsA
namespace Go.Proofs.YtfebhemdpbnebaaDoor.Pure
open Go.RowKit Go.Proofs.YtfebhemdpbnebaaDoor.PProgPrints Go.Proofs.YtfebhemdpbnebaaDoorW.PrintWords Go.Proofs.YtfebhemdpbnebaaDoorW.PrintLast Go.Proofs.YtfebhemdpbnebaaDoorW.PrintMore Go.Proofs.YtfebhemdpbnebaaDoor.Hand
set_option linter.unusedVariables false
set_option linter.unusedSimpArgs false
namespace ProgPrintsAid

/-! ### The reference's Tidy -/
theorem rtidy_l (L : List S32) (hn : L.length ≤ 9000000) : ∀ (j i k : Nat) (x : Int) (h : Option Int) (b : Bool), i + j = L.length → ((h = none ∧ b = false) ∨ (h = some x ∧ b = true)) → 2 * j + 1 ≤ k → deadboltref12_Tidy.l0 k x b L (L.length : Int) (i : Int) = some (tidyL h (L.drop i)) := by
  intro j
  induction j with
  | zero =>
    intro i k x h b hi hb hk
    obtain ⟨k, rfl⟩ : ∃ q, k = q + 1 := ⟨k - 1, by omega⟩
    simp only [deadboltref12_Tidy.l0]
    rw [if_neg (by omega), List.drop_eq_nil_of_le (by omega), tidyL]
    rcases hb with ⟨rfl, rfl⟩ | ⟨rfl, rfl⟩ <;> rfl
  | succ j ih =>
    intro i k x h b hi hb hk
    obtain ⟨k, rfl⟩ : ∃ q, k = q + 2 := ⟨k - 2, by omega⟩
    have hin : i < L.length := by omega
    have hlt : (i : Int) < (L.length : Int) := by omega
    have h0 : (0 : Int) ≤ (i : Int) := by omega
    rw [List.drop_eq_getElem_cons hin, tidyL, deadboltref12_Tidy.l0]
    simp only [hlt, h0, if_true, rdT_nat L i hin]
    have ei := up1 i (by omega)
    generalize L[i] = a
    by_cases h1 : a.f0 = 1
    · rw [if_pos h1, if_pos h1]
      simp only [deadboltref12_Tidy.j1, if_true]
    · rw [if_neg h1, if_neg h1]
      by_cases hz : a.f0 = 0
      · rw [if_pos hz, if_pos hz]
        have h2 : ¬ a.f0 = 2 := by omega
        rcases hb with ⟨rfl, rfl⟩ | ⟨rfl, rfl⟩
        · simp only [Bool.false_eq_true, if_false, h2, deadboltref12_Tidy.j1, hz, if_true, Option.isSome_none, ei]
          rw [if_neg (by decide)]
          exact ih (i + 1) k a.f1 (some a.f1) true (by omega) (.inr ⟨rfl, rfl⟩) (by omega)
        · simp only [if_true, deadboltref12_Tidy.j1, Option.isSome_some]
      · rw [if_neg hz, if_neg hz]
        by_cases h2 : a.f0 = 2
        · rw [if_pos h2, if_pos h2]
          rcases hb with ⟨rfl, rfl⟩ | ⟨rfl, rfl⟩
          · simp only [Bool.false_eq_true, if_false, deadboltref12_Tidy.j1, if_true]
            simp
          · simp only [if_true]
            by_cases he : a.f1 = x
            · have e1 : (a.f1 != x) = false := by rw [he]; simp
              have e2 : some x = some a.f1 := by rw [he]
              rw [if_pos e2, e1]
              simp only [deadboltref12_Tidy.j1, Bool.false_eq_true, if_false, hz, h2, if_true, ei]
              exact ih (i + 1) k x none false (by omega) (.inl ⟨rfl, rfl⟩) (by omega)
            · have e1 : (a.f1 != x) = true := by simpa using he
              have e2 : ¬ some x = some a.f1 := fun q => he (Option.some.inj q).symm
              rw [if_neg e2, e1]
              simp only [deadboltref12_Tidy.j1, if_true]
        · rw [if_neg h2, if_neg h2]
          simp only [deadboltref12_Tidy.j1, Bool.false_eq_true, if_false, hz, h2, ei]
          exact ih (i + 1) k x h b (by omega) hb (by omega)
theorem RTidy_f (L : List S32) (hn : L.length ≤ 9000000) (k : Nat) (hk : 2 * L.length + 1 ≤ k) : deadboltref12_Tidy.f k L = some (tidyL none L) := by
  unfold deadboltref12_Tidy.f
  exact rtidy_l L hn L.length 0 k (-1) none false (by omega) (.inl ⟨rfl, rfl⟩) hk
/-! ### The reference's Right -/
theorem right_l1 (x X : List (List S32)) (p : List S32) (ix : Int) (v : Bool) (K : Nat) (hp : p.length ≤ 9000000) (hnext : ∀ k, K ≤ k → deadboltref12_Right.l0 k x X (X.length : Int) (wrap64 (ix + 1)) = some v) :
    ∀ (j i k : Nat), i + j = p.length → K + j + 1 ≤ k → deadboltref12_Right.l1 k x p X (X.length : Int) ix p (p.length : Int) (i : Int) = some ((p.drop i).all okA && (decide (p.length ≤ 64) && v)) := by
  intro j
  induction j with
  | zero =>
    intro i k hi hk
    obtain ⟨k, rfl⟩ : ∃ q, k = q + 1 := ⟨k - 1, by omega⟩
    simp only [deadboltref12_Right.l1]
    rw [if_neg (by omega), List.drop_eq_nil_of_le (by omega)]
    by_cases h : (p.length : Int) > 64
    · rw [if_pos h, decide_eq_false (show ¬ p.length ≤ 64 by omega)]
      rfl
    · rw [if_neg h, decide_eq_true (show p.length ≤ 64 by omega), hnext k (by omega)]
      rfl
  | succ j ih =>
    intro i k hi hk
    obtain ⟨k, rfl⟩ : ∃ q, k = q + 1 := ⟨k - 1, by omega⟩
    have hin : i < p.length := by omega
    simp only [deadboltref12_Right.l1]
    rw [if_pos (by omega), if_pos (by omega), if_pos (by omega), rdT_nat p i hin, Act_f, List.drop_eq_getElem_cons hin, List.all_cons, up1 i (by omega)]
    simp only [Option.bind_some]
    have ho : okA p[i] = isActP p[i].f0 p[i].f1 := rfl
    rw [ho]
    cases isActP p[i].f0 p[i].f1
    · rfl
    · rw [if_pos rfl, ih (i + 1) k (by omega) (by omega), Bool.true_and]
theorem right_l0 (x X : List (List S32)) (hX : X.length ≤ 10) (hrows : ∀ p ∈ X, p.length ≤ 70) : ∀ (j i k : Nat), i + j = X.length → 80 * j + 1 ≤ k → deadboltref12_Right.l0 k x X (X.length : Int) (i : Int) = some ((X.drop i).all okP && decide (x.length ≤ 8)) := by
  intro j
  induction j with
  | zero =>
    intro i k hi hk
    obtain ⟨k, rfl⟩ : ∃ q, k = q + 1 := ⟨k - 1, by omega⟩
    simp only [deadboltref12_Right.l0]
    rw [if_neg (by omega), List.drop_eq_nil_of_le (by omega)]
    congr 1
    rw [List.all_nil, Bool.true_and]
    exact decide_eq_decide.2 (by omega)
  | succ j ih =>
    intro i k hi hk
    obtain ⟨k, rfl⟩ : ∃ q, k = q + 1 := ⟨k - 1, by omega⟩
    have hin : i < X.length := by omega
    have hr := hrows _ (List.getElem_mem hin)
    simp only [deadboltref12_Right.l0]
    rw [if_pos (by omega), if_pos (by omega), if_pos (by omega), rdL_nat X i hin]
    have h1 := right_l1 x X X[i] (i : Int) ((X.drop (i + 1)).all okP && decide (x.length ≤ 8)) (80 * j + 1) (by omega) (fun k hk => by rw [up1 i (by omega)]; exact ih (i + 1) k (by omega) hk) (X[i]).length 0 k (by omega) (by omega)
    rw [List.drop_eq_getElem_cons hin, List.all_cons]
    refine h1.trans ?_
    rw [List.drop_zero]
    congr 1
    unfold okP
    generalize List.all _ okA = u
    cases u <;> cases decide ((X[i]).length ≤ 64) <;> rfl
theorem RRight_f (x : List (List S32)) (hx : x.length ≤ 10) (hrows : ∀ p ∈ x, p.length ≤ 70) (k : Nat) (hk : 900 ≤ k) : deadboltref12_Right.f k x = some (okPs x) := by
  unfold deadboltref12_Right.f
  refine (right_l0 x x hx hrows x.length 0 k (by omega) (by omega)).trans ?_
  unfold okPs
  rw [List.drop_zero, Bool.and_comm]
/-! ### The reference's Print -/
theorem word_rd (n : Int) (h0 : 0 ≤ n) (h3 : n ≤ 3) : rdOf ByteArray.empty ([(⟨#[108, 111, 99, 107]⟩ : ByteArray), (⟨#[116, 114, 121]⟩ : ByteArray), (⟨#[117, 110, 108, 111, 99, 107]⟩ : ByteArray), (⟨#[119, 111, 114, 107]⟩ : ByteArray)] : List ByteArray) n = wordB n := by
  obtain h | h | h | h : n = 0 ∨ n = 1 ∨ n = 2 ∨ n = 3 := by omega
  all_goals (subst h; rfl)
def tailB : List S32 → ByteArray
  | [] => ⟨#[]⟩
  | a :: r => (⟨#[59, 32]⟩ : ByteArray) ++ pieceB a ++ tailB r
theorem tailB_data : ∀ p : List S32, (tailB p).data.toList = Lib.joinTail [59, 32] ((p.map pieceB).map (·.data.toList))
  | [] => rfl
  | a :: r => by
    rw [tailB, ByteArray.data_append, ByteArray.data_append, Array.toList_append, Array.toList_append, tailB_data r]
    rfl
theorem joinB_cons (a : S32) (r : List S32) : joinB (a :: r) = pieceB a ++ tailB r := by
  refine ba_ext ?_
  rw [ByteArray.data_append, Array.toList_append, tailB_data]
  show Lib.join _ _ = _
  rw [List.map_cons, List.map_cons, Lib.join_cons]
theorem tail_size : ∀ p : List S32, p.all okA = true → (tailB p).size ≤ 30 * p.length
  | [], _ => by decide
  | a :: r, h => by
    rw [List.all_cons, Bool.and_eq_true] at h
    have h1 := tail_size r h.2
    have h2 := piece_size a h.1
    rw [tailB, ByteArray.size_append, ByteArray.size_append, List.length_cons]
    have h3 : (⟨#[59, 32]⟩ : ByteArray).size = 2 := rfl
    omega
theorem dig_f (a : S32) (h : okA a = true) (k : Nat) (hk : 10 ≤ k) : deadboltref12_digits.f k a.f1 = some ⟨(Lib.itoa a.f1).toArray⟩ := by
  obtain ⟨_, h0, h1⟩ := okA_bounds a h
  rw [digits_f 4 a.f1 k h0 (by omega) (by omega) (by omega) (by omega), itoa_pos _ h0]
theorem empty_app (s : ByteArray) : s ++ (⟨#[]⟩ : ByteArray) = s := by
  refine ba_ext ?_
  rw [ByteArray.data_append, Array.toList_append]
  exact List.append_nil _
theorem print_l1 (X : List (List S32)) (p : List S32) (ix : Int) (K : Nat) (M : Nat) (v : ByteArray → ByteArray) (hp : p.length ≤ 70) (hM : M ≤ 9000000) (hall : p.all okA = true) (hnext : ∀ k s, K ≤ k → s.size ≤ M + 1 → deadboltref12_Print.l0 k s X (X.length : Int) (wrap64 (ix + 1)) = some (v s)) :
    ∀ (j i k : Nat) (s : ByteArray), i + j = p.length → 0 < i → K + j + 20 ≤ k → s.size + 30 * j ≤ M → deadboltref12_Print.l1 k s X (X.length : Int) ix p (p.length : Int) (i : Int) = some (v (s ++ tailB (p.drop i) ++ ⟨#[10]⟩)) := by
  have h10 : (⟨#[10]⟩ : ByteArray).size = 1 := rfl
  have h32 : (⟨#[32]⟩ : ByteArray).size = 1 := rfl
  have h59 : (⟨#[59, 32]⟩ : ByteArray).size = 2 := rfl
  intro j
  induction j with
  | zero =>
    intro i k s hi hi0 hk hs
    obtain ⟨k, rfl⟩ : ∃ q, k = q + 1 := ⟨k - 1, by omega⟩
    simp only [deadboltref12_Print.l1]
    rw [if_neg (by omega), if_pos (by omega), List.drop_eq_nil_of_le (by omega), tailB, empty_app]
    exact hnext k _ (by omega) (by rw [ByteArray.size_append]; omega)
  | succ j ih =>
    intro i k s hi hi0 hk hs
    obtain ⟨k, rfl⟩ : ∃ q, k = q + 1 := ⟨k - 1, by omega⟩
    have hin : i < p.length := by omega
    have ho : okA p[i] = true := List.all_eq_true.1 hall _ (List.getElem_mem hin)
    obtain ⟨⟨b0, b3⟩, _, _⟩ := okA_bounds _ ho
    have hpz := piece_size _ ho
    have hpe : pieceB p[i] = wordB (p[i]).f0 ++ (⟨#[32]⟩ : ByteArray) ++ ⟨(Lib.itoa (p[i]).f1).toArray⟩ := rfl
    have hpz' := hpz
    rw [hpe, ByteArray.size_append, ByteArray.size_append] at hpz'
    simp only [deadboltref12_Print.l1]
    rw [if_pos (by omega), if_pos (by omega), if_pos (by omega), if_pos (by omega), if_pos (by omega), rdT_nat p i hin]
    unfold deadboltref12_words.f
    simp only [Option.bind_some]
    rw [if_pos b0, if_pos (by simp only [List.length_cons, List.length_nil]; omega), word_rd _ b0 b3, dig_f _ ho k (by omega)]
    simp only [Option.bind_some, ByteArray.size_append]
    rw [if_pos (by omega), if_pos (by omega), if_pos (by omega), up1 i (by omega), ih (i + 1) k _ (by omega) (by omega) (by omega) (by simp only [ByteArray.size_append]; omega)]
    rw [List.drop_eq_getElem_cons hin, tailB, hpe]
    simp only [ByteArray.append_assoc]
theorem print_row (X : List (List S32)) (p : List S32) (ix : Int) (K : Nat) (M : Nat) (v : ByteArray → ByteArray) (hp : p.length ≤ 70) (hM : M ≤ 9000000) (hall : p.all okA = true) (hnext : ∀ k s, K ≤ k → s.size ≤ M + 1 → deadboltref12_Print.l0 k s X (X.length : Int) (wrap64 (ix + 1)) = some (v s))
    (k : Nat) (s : ByteArray) (hk : K + p.length + 22 ≤ k) (hs : s.size + 30 * p.length ≤ M) : deadboltref12_Print.l1 k s X (X.length : Int) ix p (p.length : Int) 0 = some (v (s ++ lineB p)) := by
  have h10 : (⟨#[10]⟩ : ByteArray).size = 1 := rfl
  have h32 : (⟨#[32]⟩ : ByteArray).size = 1 := rfl
  obtain ⟨k, rfl⟩ : ∃ q, k = q + 1 := ⟨k - 1, by omega⟩
  match p, hp, hall, hk, hs with
  | [], hp, hall, hk, hs =>
    simp only [deadboltref12_Print.l1, List.length_nil]
    rw [if_neg (by omega), if_pos (by omega)]
    have e : lineB [] = ⟨#[10]⟩ := rfl
    rw [e]
    exact hnext k _ (by omega) (by rw [ByteArray.size_append]; simp only [List.length_nil] at hs; omega)
  | a :: r, hp, hall, hk, hs =>
    have ho : okA a = true := List.all_eq_true.1 hall _ List.mem_cons_self
    obtain ⟨⟨b0, b3⟩, _, _⟩ := okA_bounds _ ho
    have hpz := piece_size _ ho
    have hpe : pieceB a = wordB a.f0 ++ (⟨#[32]⟩ : ByteArray) ++ ⟨(Lib.itoa a.f1).toArray⟩ := rfl
    have hpz' := hpz
    rw [hpe, ByteArray.size_append, ByteArray.size_append] at hpz'
    have hr0 : rd_T32 (a :: r) 0 = a := rfl
    simp only [List.length_cons] at hp hk hs
    have hlen : ((a :: r).length : Int) = (r.length : Int) + 1 := by simp
    simp only [deadboltref12_Print.l1, hr0]
    rw [if_pos (by omega), if_pos (by omega), if_pos (by omega), if_neg (by omega)]
    unfold deadboltref12_words.f
    simp only [Option.bind_some]
    rw [if_pos b0, if_pos (by simp only [List.length_cons, List.length_nil]; omega), word_rd _ b0 b3, dig_f _ ho k (by omega)]
    simp only [Option.bind_some, ByteArray.size_append]
    have hw1 : wrap64 (0 + 1) = ((1 : Nat) : Int) := by (unfold wrap64; omega)
    rw [if_pos (by omega), if_pos (by omega), if_pos (by omega), hw1]
    refine (print_l1 X (a :: r) ix K M v (by simp only [List.length_cons]; omega) hM hall hnext r.length 1 k _ (by simp only [List.length_cons]; omega) (by omega) (by omega) (by simp only [ByteArray.size_append]; omega)).trans ?_
    have e : lineB (a :: r) = joinB (a :: r) ++ ⟨#[10]⟩ := rfl
    rw [e, joinB_cons, hpe]
    simp only [ByteArray.append_assoc, List.drop_succ_cons, List.drop_zero]
theorem print_l0 (X : List (List S32)) (hX : okPs X = true) : ∀ (j i k : Nat) (s : ByteArray), i + j = X.length → 100 * j + 1 ≤ k → s.size + 2200 * j ≤ 100000 → deadboltref12_Print.l0 k s X (X.length : Int) (i : Int) = some ((X.drop i).foldl (fun s p => s ++ lineB p) s) := by
  obtain ⟨h8, hrows⟩ := okPs_all X hX
  intro j
  induction j with
  | zero =>
    intro i k s hi hk hs
    obtain ⟨k, rfl⟩ : ∃ q, k = q + 1 := ⟨k - 1, by omega⟩
    simp only [deadboltref12_Print.l0]
    rw [if_neg (by omega), List.drop_eq_nil_of_le (by omega)]
    rfl
  | succ j ih =>
    intro i k s hi hk hs
    obtain ⟨k, rfl⟩ : ∃ q, k = q + 1 := ⟨k - 1, by omega⟩
    have hin : i < X.length := by omega
    obtain ⟨hr, hall⟩ := okP_all _ (hrows _ (List.getElem_mem hin))
    simp only [deadboltref12_Print.l0]
    rw [if_pos (by omega), if_pos (by omega), if_pos (by omega), rdL_nat X i hin, List.drop_eq_getElem_cons hin, List.foldl_cons]
    have hn : ∀ k s, 100 * j + 1 ≤ k → s.size ≤ 100000 - 2200 * j - 1 + 1 → deadboltref12_Print.l0 k s X (X.length : Int) (wrap64 ((i : Int) + 1)) = some ((fun s => (X.drop (i + 1)).foldl (fun s p => s ++ lineB p) s) s) := fun k s hk hz => by
      rw [up1 i (by omega)]
      exact ih (i + 1) k s (by omega) hk (by omega)
    exact print_row X X[i] (i : Int) (100 * j + 1) (100000 - 2200 * j - 1) (fun s => (X.drop (i + 1)).foldl (fun s p => s ++ lineB p) s) (by omega) (by omega) (List.all_eq_true.2 hall) hn k s (by omega) (by omega)
theorem RPrint_f (X : List (List S32)) (hX : okPs X = true) (k : Nat) (hk : 900 ≤ k) : deadboltref12_Print.f k X = some (textB X) := by
  obtain ⟨h8, hrows⟩ := okPs_all X hX
  unfold deadboltref12_Print.f
  have h0 : (⟨#[]⟩ : ByteArray).size = 0 := rfl
  refine (print_l0 X hX X.length 0 k _ (by omega) (by omega) (by omega)).trans ?_
  rw [List.drop_zero]
  rfl
/-! ### The law -/
theorem law_l0 (x : List (List S32)) (hx : x.length ≤ 10) (hrows : ∀ p ∈ x, p.length ≤ 70) (x3 : ByteArray) (x4 : Int) (h34 : (x3, x4) = if okPs x = true then (textB x, 0) else (⟨#[]⟩, 1)) : ∀ (j i k : Nat), i + j = x.length → 2000 + j ≤ k → deadboltlaw12_ProgPrints.l0 k x x3 x4 x (x.length : Int) (i : Int) = some true := by
  intro j
  induction j with
  | zero =>
    intro i k hi hk
    obtain ⟨k, rfl⟩ : ∃ q, k = q + 2 := ⟨k - 2, by omega⟩
    simp only [deadboltlaw12_ProgPrints.l0]
    rw [if_neg (by omega), RRight_f x hx hrows (k + 1) (by omega), alive_any (k + 1) (by omega)]
    unfold prog_Right.f
    simp only [Option.bind_some, bne_self_eq_false, Bool.false_eq_true, if_false, deadboltlaw12_ProgPrints.j1, Bool.not_true]
    rw [RRight_f x hx hrows k (by omega)]
    simp only [Option.bind_some]
    by_cases ho : okPs x = true
    · rw [if_pos ho] at h34
      cases h34
      rw [if_pos ho, if_pos rfl, RPrint_f x ho k (by omega)]
      simp only [Option.bind_some, beq_self_eq_true]
    · rw [if_neg ho] at h34
      cases h34
      rw [if_neg ho, if_pos rfl, Lib.toList_data]
      rfl
  | succ j ih =>
    intro i k hi hk
    obtain ⟨k, rfl⟩ : ∃ q, k = q + 1 := ⟨k - 1, by omega⟩
    have hin : i < x.length := by omega
    have hr := hrows _ (List.getElem_mem hin)
    simp only [deadboltlaw12_ProgPrints.l0]
    rw [if_pos (by omega), if_pos (by omega), if_pos (by omega), rdL_nat x i hin, Tidy_f _ (by omega) k (by omega), RTidy_f _ (by omega) k (by omega)]
    simp only [Option.bind_some, bne_self_eq_false, Bool.false_eq_true, if_false]
    rw [up1 i (by omega)]
    exact ih (i + 1) k (by omega) (by omega)

end ProgPrintsAid
open ProgPrintsAid
theorem ProgPrintsAny (k : Nat) (hk : 3000 ≤ k) (l0 : List (List S32)) : deadboltlaw12_ProgPrints.f k l0 = some true := by
  obtain ⟨x, h1, hx, hrows⟩ := few_f l0 k (by omega)
  unfold deadboltlaw12_ProgPrints.f prog_Print.f
  rw [h1]
  simp only [Option.bind_some]
  exact law_l0 x hx hrows _ _ rfl x.length 0 k (by omega) (by omega)
theorem ProgPrints (l0 : List (List S32)) : deadboltlaw12_ProgPrints.f (3000 + 10) l0 = some true := ProgPrintsAny (3000 + 10) (by omega) l0

end Go.Proofs.YtfebhemdpbnebaaDoor.Pure
