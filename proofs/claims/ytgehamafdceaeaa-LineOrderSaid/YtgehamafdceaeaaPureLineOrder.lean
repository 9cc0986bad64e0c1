/- The plain law of LineOrder: for all lines and numbers the law function answers true: whoever comes last is popped behind all that were there, and whoever comes first ahead of them, and those keep their order. No conditions beyond those of the given statement. -/
import Derived.Test.YtgehamafdceaeaaPLineOrderx2
namespace Go.Proofs.Ytgehamafdceaeaa.Pure
open Go.RowKit Go.Proofs.Ytgehamafdceaeaa.PLineOrder Go.Proofs.YtgehamafdceaeaaW.PrintWords Go.Proofs.YtgehamafdceaeaaW.PrintLast Go.Proofs.YtgehamafdceaeaaW.PrintMore Go.Proofs.Ytgehamafdceaeaa.Hand
namespace LineOrderAid

theorem one64 (i : Nat) (h : i ≤ 100000) : wrap64 ((i : Int) + 1) = ((i + 1 : Nat) : Int) := by unfold wrap64; omega

theorem few_f (l : List Int) : deadboltlaw07_few.f l = some (l.take 70) := by
  have hm : 0 ≤ mn (l.length : Int) 70 ∧ mn (l.length : Int) 70 ≤ l.length := by unfold mn; split <;> omega
  unfold deadboltlaw07_few.f
  rw [if_pos hm.1, if_pos hm.2]
  congr 1
  unfold mn
  split
  · rfl
  · rename_i h
    rw [List.take_of_length_le (by omega), List.take_of_length_le (by omega)]

theorem drop_cons (l : List Int) (i : Nat) (h : i < l.length) : l.drop i = rd l i :: l.drop (i + 1) := by rw [List.drop_eq_getElem_cons h, rd_get l i h]

theorem index_loop (l : List Int) (x : Int) (hl : l.length ≤ 1000) (d : Nat) : ∀ (i k : Nat), i + d = l.length → d < k → slices_Index_int_int.l0 k l x l.length i = some (if x ∈ l.drop i then ((i + (l.drop i).idxOf x : Nat) : Int) else -1) := by
  induction d with
  | zero =>
    intro i k hi hk
    obtain ⟨k, rfl⟩ : ∃ m, k = m + 1 := ⟨k - 1, by omega⟩
    simp only [slices_Index_int_int.l0]
    rw [if_neg (by omega), List.drop_eq_nil_of_le (by omega)]
    simp
  | succ d ih =>
    intro i k hi hk
    obtain ⟨k, rfl⟩ : ∃ m, k = m + 1 := ⟨k - 1, by omega⟩
    simp only [slices_Index_int_int.l0]
    rw [if_pos (by omega), if_pos (by omega), if_pos (by omega), drop_cons l i (by omega), one64 i (by omega)]
    by_cases hx : x = rd l i
    · rw [if_pos hx, ← hx]; simp
    · have hx' : ¬ rd l i = x := fun q => hx q.symm
      rw [if_neg hx, ih (i + 1) k (by omega) (by omega)]
      by_cases hm : x ∈ l.drop (i + 1)
      · rw [if_pos hm, if_pos (List.mem_cons_of_mem _ hm), show (rd l i :: l.drop (i + 1)).idxOf x = (l.drop (i + 1)).idxOf x + 1 from by rw [List.idxOf_cons, show (rd l i == x) = false from beq_eq_false_iff_ne.2 hx']; rfl]
        congr 1
        omega
      · rw [if_neg hm, if_neg (by simp [hx, hm])]

theorem index_f (l : List Int) (x : Int) (hl : l.length ≤ 1000) (k : Nat) (hk : l.length < k) : slices_Index_int_int.f k l x = some (if x ∈ l then (l.idxOf x : Int) else -1) := by
  have h := index_loop l x hl l.length 0 k (by omega) hk
  unfold slices_Index_int_int.f
  simpa using h

theorem contains_f (l : List Int) (x : Int) (hl : l.length ≤ 1000) (k : Nat) (hk : l.length < k) : slices_Contains_int_int.f k l x = some (decide (x ∈ l)) := by
  unfold slices_Contains_int_int.f
  rw [index_f l x hl k hk]
  simp only [Option.bind_some]
  by_cases h : x ∈ l
  · rw [if_pos h, decide_eq_true h, decide_eq_true (by omega)]
  · rw [if_neg h, decide_eq_false h, decide_eq_false (by omega)]

theorem place_f (l : List Int) (who : Int) (hl : l.length ≤ 1000) (k : Nat) (hk : l.length + 1 < k) :
    line_Place.f k l who = some (if okLine l = true ∧ 0 ≤ who then (if who ∈ l then ((l.idxOf who : Int), 0) else (0, 4)) else (0, 1)) := by
  obtain ⟨k, rfl⟩ : ∃ m, k = m + 1 := ⟨k - 1, by omega⟩
  unfold line_Place.f line_Right.f
  simp only [Option.bind_some, line_Place.j0]
  by_cases ho : okLine l = true
  · rw [if_pos ho]
    by_cases hw : 0 ≤ who
    · rw [decide_eq_false (by omega), if_pos (show okLine l = true ∧ 0 ≤ who from ⟨ho, hw⟩), index_f l who hl k (by omega)]
      simp only [Bool.false_eq_true, if_false, Option.bind_some]
      by_cases h : who ∈ l
      · rw [if_pos h, if_pos h, if_neg (by omega)]
      · rw [if_neg h, if_neg h, if_pos (by omega)]
    · rw [decide_eq_true (by omega), if_neg (show ¬ (okLine l = true ∧ 0 ≤ who) from fun q => hw q.2)]; simp
  · rw [if_neg ho, if_neg (show ¬ (okLine l = true ∧ 0 ≤ who) from fun q => ho q.1)]; simp

theorem joined_f (a b : List Int) (ha : a.length ≤ 1000) (hb : b.length ≤ 1000) (k : Nat) (hk : 2 < k) : line_joined.f k [a, b] = some (a ++ b) := by
  obtain ⟨k, rfl⟩ : ∃ m, k = m + 3 := ⟨k - 3, by omega⟩
  have w1 : wrap64 (0 + 1) = 1 := by unfold wrap64; omega
  have w2 : wrap64 (1 + 1) = 2 := by unfold wrap64; omega
  have r0 : rd_L1 [a, b] 0 = a := rfl
  have r1 : rd_L1 [a, b] 1 = b := rfl
  have l2 : (([a, b] : List (List Int)).length : Int) = 2 := rfl
  have h1 : ([] : List Int).length + a.length < 17592186044416 := by simp; omega
  have h2 : ([] ++ a : List Int).length + b.length < 17592186044416 := by simp; omega
  simp only [line_joined.f, line_joined.l0, l2]
  rw [if_pos (by omega), if_pos (by omega), if_pos (by omega), r0, if_pos h1, w1, if_pos (by omega), if_pos (by omega), if_pos (by omega), r1, if_pos h2, w2, if_neg (by omega)]
  rfl

theorem okLine_len {l : List Int} (h : okLine l = true) : l.length ≤ 64 := (of_decide_eq_true h).2.2
theorem okLine_nodup {l : List Int} (h : okLine l = true) : l.Nodup := (of_decide_eq_true h).1
theorem okLine_pos {l : List Int} (h : okLine l = true) : ∀ x ∈ l, 0 ≤ x := (of_decide_eq_true h).2.1
theorem okLine_mk {l : List Int} (h1 : l.Nodup) (h2 : ∀ x ∈ l, 0 ≤ x) (h3 : l.length ≤ 64) : okLine l = true := decide_eq_true ⟨h1, h2, h3⟩

/-- What Push hands back. -/
def pushed (l : List Int) (who : Int) (first : Bool) : List Int × Int :=
  if okLine l = true ∧ 0 ≤ who then (if who ∈ l then ([], 7) else if l.length = 64 then ([], 5) else (if first = true then who :: l else l ++ [who], 0)) else ([], 1)

theorem push_f (l : List Int) (who : Int) (first : Bool) (hl : l.length ≤ 1000) (k : Nat) (hk : l.length + 5 < k) : line_Push.f k l who first = some (pushed l who first) := by
  obtain ⟨k, rfl⟩ : ∃ m, k = m + 1 := ⟨k - 1, by omega⟩
  unfold line_Push.f line_Right.f pushed
  simp only [Option.bind_some, line_Push.j0]
  by_cases ho : okLine l = true
  · rw [if_pos ho]
    by_cases hw : 0 ≤ who
    · rw [decide_eq_false (by omega), if_pos (show okLine l = true ∧ 0 ≤ who from ⟨ho, hw⟩), contains_f l who hl k (by omega)]
      simp only [Bool.false_eq_true, if_false, Option.bind_some]
      by_cases h : who ∈ l
      · rw [if_pos h, decide_eq_true h]; simp
      · rw [if_neg h, decide_eq_false h]
        simp only [Bool.false_eq_true, if_false]
        by_cases h64 : l.length = 64
        · rw [if_pos h64, if_pos (by omega)]
        · rw [if_neg h64, if_neg (by omega)]
          have hlen := okLine_len ho
          rw [joined_f [who] l (by simp) hl k (by omega), joined_f l [who] hl (by simp) k (by omega)]
          cases first <;> simp
    · rw [decide_eq_true (by omega), if_neg (show ¬ (okLine l = true ∧ 0 ≤ who) from fun q => hw q.2)]; simp
  · rw [if_neg ho, if_neg (show ¬ (okLine l = true ∧ 0 ≤ who) from fun q => ho q.1)]; simp

theorem alive_f (k : Nat) (hk : 20 ≤ k) : deadboltlaw07_alive.f k = some true := by
  have h1 : pushed [4, 2] 7 true = ([7, 4, 2], 0) := by decide
  have h2 : okLine [7, 4, 2] = true := by decide
  have h3 : ([7, 4, 2] : List Int).idxOf 2 = 2 := by decide
  unfold deadboltlaw07_alive.f
  rw [push_f _ _ _ (by simp) k (by simp; omega), h1]
  simp only [Option.bind_some]
  rw [place_f _ _ (by simp) k (by simp; omega), if_pos (show okLine [7, 4, 2] = true ∧ (0 : Int) ≤ 2 from ⟨h2, by omega⟩), if_pos (by decide), h3]
  rfl

theorem okLine_sub {l a : List Int} (h : okLine l = true) (hs : a.Sublist l) : okLine a = true :=
  okLine_mk (List.Pairwise.sublist hs (okLine_nodup h)) (fun x hx => okLine_pos h x (hs.subset hx)) (Nat.le_trans hs.length_le (okLine_len h))

theorem pop_f (l : List Int) : line_Pop.f l = some (if okLine l = true then (if l = [] then ([], 0, 4) else (l.drop 1, rd l 0, 0)) else ([], 0, 1)) := by
  unfold line_Pop.f line_Right.f
  simp only [Option.bind_some]
  by_cases ho : okLine l = true
  · rw [if_pos ho, if_pos ho]
    cases l with
    | nil => simp
    | cons x r =>
      have hl : ((x :: r).length : Int) = (r.length : Int) + 1 := by simp
      rw [if_neg (by omega), if_pos (by omega), if_pos (by omega), if_neg (by simp)]
  · rw [if_neg ho, if_neg ho]

theorem same_loop (a b : List Int) (hab : a.length = b.length) (hl : a.length ≤ 1000) (d : Nat) : ∀ (i k : Nat), i + d = a.length → d < k → deadboltref07_Same.l0 k a b a.length i = some (decide (a.drop i = b.drop i)) := by
  induction d with
  | zero =>
    intro i k hi hk
    obtain ⟨k, rfl⟩ : ∃ m, k = m + 1 := ⟨k - 1, by omega⟩
    simp only [deadboltref07_Same.l0]
    rw [if_neg (by omega), List.drop_eq_nil_of_le (by omega), List.drop_eq_nil_of_le (by omega)]
    simp
  | succ d ih =>
    intro i k hi hk
    obtain ⟨k, rfl⟩ : ∃ m, k = m + 1 := ⟨k - 1, by omega⟩
    simp only [deadboltref07_Same.l0]
    rw [if_pos (by omega), if_pos (by omega), if_pos (by omega), if_pos (by omega), one64 i (by omega), drop_cons a i (by omega), drop_cons b i (by omega)]
    by_cases h : rd a i = rd b i
    · rw [if_pos h, ih (i + 1) k (by omega) (by omega), h]
      simp
    · rw [if_neg h, decide_eq_false (fun q => h (List.cons.inj q).1)]

theorem same_f (a b : List Int) (hl : a.length ≤ 1000) (k : Nat) (hk : a.length < k) : deadboltref07_Same.f k a b = some (decide (a = b)) := by
  unfold deadboltref07_Same.f
  by_cases hab : a.length = b.length
  · rw [if_pos (by omega)]
    have h := same_loop a b hab hl a.length 0 k (by omega) hk
    simpa using h
  · rw [if_neg (by omega), decide_eq_false (fun q => hab (by rw [q]))]

theorem tmod_emod (x b : Int) : Int.tmod x b = if 0 ≤ x then x % b else -((-x) % b) := by
  split
  · rename_i h; exact Int.tmod_eq_emod_of_nonneg h
  · rename_i h
    have : Int.tmod x b = -(Int.tmod (-x) b) := by rw [Int.neg_tmod]; omega
    rw [this, Int.tmod_eq_emod_of_nonneg (by omega)]

theorem small (x : Int) : 0 ≤ Int.tmod (wrap64 (Int.tmod x 1000 + 1000)) 1000 := by
  have h := tmod_emod x 1000
  have h1 : wrap64 (Int.tmod x 1000 + 1000) = Int.tmod x 1000 + 1000 := by unfold wrap64; split at h <;> omega
  rw [h1, tmod_emod _ 1000]
  split at h <;> split <;> omega

theorem ok_cons {l : List Int} {x : Int} (h : okLine l = true) (hm : ¬ x ∈ l) (hx : 0 ≤ x) (h64 : l.length ≠ 64) : okLine (x :: l) = true :=
  okLine_mk (List.nodup_cons.2 ⟨hm, okLine_nodup h⟩) (fun y hy => by
    rcases List.mem_cons.1 hy with e | e
    · rw [e]; exact hx
    · exact okLine_pos h y e) (by have := okLine_len h; simp; omega)

theorem ok_snoc {l : List Int} {x : Int} (h : okLine l = true) (hm : ¬ x ∈ l) (hx : 0 ≤ x) (h64 : l.length ≠ 64) : okLine (l ++ [x]) = true :=
  okLine_mk (by
    rw [List.nodup_append]
    refine ⟨okLine_nodup h, by simp, fun y hy z hz => ?_⟩
    rw [List.mem_singleton.1 hz]
    exact fun q => hm (q ▸ hy)) (fun y hy => by
    rcases List.mem_append.1 hy with e | e
    · exact okLine_pos h y e
    · rw [List.mem_singleton.1 e]; exact hx) (by have := okLine_len h; simp; omega)

/-- All are popped, in their order. -/
theorem pops (front l back : List Int) (hok : okLine (front ++ l ++ back) = true) (d : Nat) : ∀ (i k : Nat), i + d = (front ++ l ++ back).length → d + 90 < k →
    deadboltlaw07_LineOrder.l1 k l front back ((front ++ l ++ back).drop i) ((front ++ l ++ back).take i) ((front ++ l ++ back).length : Int) i = some true := by
  have hlen := okLine_len hok
  have hl2 : (front ++ l ++ back).length = front.length + l.length + back.length := by simp; omega
  induction d with
  | zero =>
    intro i k hi hk
    obtain ⟨k, rfl⟩ : ∃ m, k = m + 1 := ⟨k - 1, by omega⟩
    have h1 : (front ++ l ++ back).drop i = [] := List.drop_eq_nil_of_le (by omega)
    have h2 : (front ++ l ++ back).take i = front ++ l ++ back := List.take_of_length_le (by omega)
    have h0 : okLine [] = true := by decide
    rw [h1, h2]
    simp only [deadboltlaw07_LineOrder.l1]
    rw [if_neg (by omega), pop_f, if_pos h0, if_pos rfl, alive_f k (by omega)]
    simp only [Option.bind_some, if_true, List.nil_append, List.length_append, List.length_nil]
    rw [if_pos (by omega), if_pos (by omega), if_pos (by omega), same_f _ _ (by omega) k (by omega)]
    simp
  | succ d ih =>
    intro i k hi hk
    obtain ⟨k, rfl⟩ : ∃ m, k = m + 1 := ⟨k - 1, by omega⟩
    have hlt : i < (front ++ l ++ back).length := by omega
    have ihh := ih (i + 1) k (by omega) (by omega)
    have hok2 : okLine ((front ++ l ++ back).drop i) = true := okLine_sub hok (List.drop_sublist i _)
    have hcons := drop_cons (front ++ l ++ back) i hlt
    have hne : ¬ (front ++ l ++ back).drop i = [] := by rw [hcons]; simp
    have hd1 : ((front ++ l ++ back).drop i).drop 1 = (front ++ l ++ back).drop (i + 1) := by rw [List.drop_drop]
    have hr0 : rd ((front ++ l ++ back).drop i) 0 = rd (front ++ l ++ back) i := by rw [hcons]; rfl
    simp only [deadboltlaw07_LineOrder.l1]
    rw [if_pos (by omega), pop_f, if_pos hok2, if_neg hne]
    simp only [Option.bind_some, if_true]
    rw [if_pos (by rw [List.length_take]; omega), hd1, hr0, ← take_one _ i hlt, one64 i (by omega)]
    exact ihh

theorem comes (l q : List Int) (hq : q.length ≤ 20) (d : Nat) : ∀ (i k : Nat) (front back : List Int), i + d = q.length → 2 * d + 200 < k → okLine (front ++ l ++ back) = true →
    deadboltlaw07_LineOrder.l0 k l front back (front ++ l ++ back) q q.length i = some true := by
  induction d with
  | zero =>
    intro i k front back hi hk hok
    have hlen := okLine_len hok
    have hl2 : (front ++ l ++ back).length = front.length + l.length + back.length := by simp; omega
    obtain ⟨k, rfl⟩ : ∃ m, k = m + 1 := ⟨k - 1, by omega⟩
    simp only [deadboltlaw07_LineOrder.l0]
    rw [if_neg (by omega)]
    simp only [Option.bind_some, List.length_nil, List.length_append, Nat.zero_add]
    rw [if_pos (by omega), if_pos (by omega), if_pos (by omega)]
    have h := pops front l back hok (front ++ l ++ back).length 0 k (by omega) (by omega)
    simp only [List.drop_zero, List.take_zero, List.length_append] at h
    exact h
  | succ d ih =>
    intro i k front back hi hk hok
    have hlen := okLine_len hok
    have hl2 : (front ++ l ++ back).length = front.length + l.length + back.length := by simp; omega
    obtain ⟨k, rfl⟩ : ∃ m, k = m + 2 := ⟨k - 2, by omega⟩
    have hx := small (rd q i)
    have hodd : Int.tmod (i : Int) 2 = (i : Int) % 2 := Int.tmod_eq_emod_of_nonneg (by omega)
    rw [show k + 2 = (k + 1) + 1 by omega]
    simp only [deadboltlaw07_LineOrder.l0]
    rw [if_pos (by omega), if_pos (by omega), if_pos (by omega), hodd]
    generalize Int.tmod (wrap64 (Int.tmod (rd q i) 1000 + 1000)) 1000 = x at *
    rw [push_f _ x _ (by omega) (k + 1) (by omega)]
    simp only [Option.bind_some]
    unfold pushed
    rw [if_pos (show okLine (front ++ l ++ back) = true ∧ 0 ≤ x from ⟨hok, hx⟩)]
    by_cases hm : x ∈ front ++ l ++ back
    · rw [if_pos hm]
      simp only [if_true, deadboltlaw07_LineOrder.j1, one64 i (show i ≤ 100000 by omega)]
      exact ih (i + 1) k front back (by omega) (by omega) hok
    · rw [if_neg hm]
      by_cases h64 : (front ++ l ++ back).length = 64
      · rw [if_pos h64]
        simp only [show ¬ (5 : Int) = 7 by omega, if_false, beq_self_eq_true, deadboltlaw07_LineOrder.j1, if_true, one64 i (show i ≤ 100000 by omega)]
        exact ih (i + 1) k front back (by omega) (by omega) hok
      · rw [if_neg h64]
        have e05 : ((0 : Int) == 5) = false := by decide
        simp only [show ¬ (0 : Int) = 7 by omega, if_false, e05, deadboltlaw07_LineOrder.j1, Bool.false_eq_true, if_true, one64 i (show i ≤ 100000 by omega), hodd]
        by_cases ho : (i : Int) % 2 = 1
        · rw [if_pos ho, if_pos (beq_iff_eq.2 ho)]
          simp only [Option.bind_some]
          rw [if_pos (by simp; omega)]
          have h := ih (i + 1) k (x :: front) back (by omega) (by omega) (by
            have := ok_cons hok hm hx h64
            simpa using this)
          simpa using h
        · have ho2 : ¬ (((i : Int) % 2 == 1) = true) := by simpa using ho
          have hb : back.length < 17592186044416 := by omega
          rw [if_neg ho, if_neg ho2, if_pos hb]
          have h := ih (i + 1) k front (back ++ [x]) (by omega) (by omega) (by
            have := ok_snoc hok hm hx h64
            simpa using this)
          simpa using h

end LineOrderAid
open LineOrderAid

theorem LineOrder : deadboltlaw07_LineOrder.Pure := by
  intro l0 l1 _ _ _ _ _ _
  refine ⟨300, ?_⟩
  unfold deadboltlaw07_LineOrder.f
  rw [few_f]
  simp only [Option.bind_some, line_Right.f]
  generalize l0.take 70 = l at *
  by_cases hok : okLine l = true
  · rw [if_pos hok]
    have hmn : 0 ≤ mn (l1.length : Int) 20 ∧ mn (l1.length : Int) 20 ≤ l1.length ∧ mn (l1.length : Int) 20 ≤ 20 := by unfold mn; split <;> omega
    rw [if_pos hmn.1, if_pos hmn.2.1]
    generalize hq : l1.take (mn (l1.length : Int) 20).toNat = q
    have hl : q.length ≤ 20 := by rw [← hq, List.length_take]; omega
    have h := comes l q hl q.length 0 300 [] [] (by omega) (by omega) (by simpa using hok)
    simpa using h
  · rw [if_neg hok, alive_f 300 (by omega)]; rfl

end Go.Proofs.Ytgehamafdceaeaa.Pure
