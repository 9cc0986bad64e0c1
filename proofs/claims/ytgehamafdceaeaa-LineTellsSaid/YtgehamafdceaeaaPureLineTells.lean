/- The plain law of LineTells: for all lines and numbers the law function answers true: which lines may be, and any with one more, without the next one, or without any one, and how many are ahead of that, is as the document says, or refused. No conditions beyond those of the given statement. -/
import Derived.Test.YtgehamafdceaeaaPLineTellsx4
namespace Go.Proofs.Ytgehamafdceaeaa.Pure
open Go.RowKit Go.Proofs.Ytgehamafdceaeaa.PLineTells Go.Proofs.YtgehamafdceaeaaW.PrintWords Go.Proofs.YtgehamafdceaeaaW.PrintLast Go.Proofs.YtgehamafdceaeaaW.PrintMore Go.Proofs.Ytgehamafdceaeaa.Hand
namespace LineTellsAid

theorem one64 (i : Nat) (h : i ≤ 100000) : wrap64 ((i : Int) + 1) = ((i + 1 : Nat) : Int) := by unfold wrap64; omega

theorem few_f (l : List Int) : deadboltlaw07_few.f l = some (l.take 70) := by
  have hm : 0 ≤ mn (l.length : Int) 70 ∧ mn (l.length : Int) 70 ≤ l.length := by unfold mn; split <;> omega
  unfold deadboltlaw07_few.f
  rw [if_pos hm.1, if_pos hm.2]
  congr 1
  unfold mn
  split
  · rfl
  · rename_i h
    rw [List.take_of_length_le (by omega), List.take_of_length_le (by omega)]

theorem drop_cons (l : List Int) (i : Nat) (h : i < l.length) : l.drop i = rd l i :: l.drop (i + 1) := by rw [List.drop_eq_getElem_cons h, rd_get l i h]

theorem index_loop (l : List Int) (x : Int) (hl : l.length ≤ 1000) (d : Nat) : ∀ (i k : Nat), i + d = l.length → d < k → slices_Index_int_int.l0 k l x l.length i = some (if x ∈ l.drop i then ((i + (l.drop i).idxOf x : Nat) : Int) else -1) := by
  induction d with
  | zero =>
    intro i k hi hk
    obtain ⟨k, rfl⟩ : ∃ m, k = m + 1 := ⟨k - 1, by omega⟩
    simp only [slices_Index_int_int.l0]
    rw [if_neg (by omega), List.drop_eq_nil_of_le (by omega)]
    simp
  | succ d ih =>
    intro i k hi hk
    obtain ⟨k, rfl⟩ : ∃ m, k = m + 1 := ⟨k - 1, by omega⟩
    simp only [slices_Index_int_int.l0]
    rw [if_pos (by omega), if_pos (by omega), if_pos (by omega), drop_cons l i (by omega), one64 i (by omega)]
    by_cases hx : x = rd l i
    · rw [if_pos hx, ← hx]; simp
    · have hx' : ¬ rd l i = x := fun q => hx q.symm
      rw [if_neg hx, ih (i + 1) k (by omega) (by omega)]
      by_cases hm : x ∈ l.drop (i + 1)
      · rw [if_pos hm, if_pos (List.mem_cons_of_mem _ hm), show (rd l i :: l.drop (i + 1)).idxOf x = (l.drop (i + 1)).idxOf x + 1 from by rw [List.idxOf_cons, show (rd l i == x) = false from beq_eq_false_iff_ne.2 hx']; rfl]
        congr 1
        omega
      · rw [if_neg hm, if_neg (by simp [hx, hm])]

theorem index_f (l : List Int) (x : Int) (hl : l.length ≤ 1000) (k : Nat) (hk : l.length < k) : slices_Index_int_int.f k l x = some (if x ∈ l then (l.idxOf x : Int) else -1) := by
  have h := index_loop l x hl l.length 0 k (by omega) hk
  unfold slices_Index_int_int.f
  simpa using h

theorem contains_f (l : List Int) (x : Int) (hl : l.length ≤ 1000) (k : Nat) (hk : l.length < k) : slices_Contains_int_int.f k l x = some (decide (x ∈ l)) := by
  unfold slices_Contains_int_int.f
  rw [index_f l x hl k hk]
  simp only [Option.bind_some]
  by_cases h : x ∈ l
  · rw [if_pos h, decide_eq_true h, decide_eq_true (by omega)]
  · rw [if_neg h, decide_eq_false h, decide_eq_false (by omega)]

theorem place_f (l : List Int) (who : Int) (hl : l.length ≤ 1000) (k : Nat) (hk : l.length + 1 < k) :
    line_Place.f k l who = some (if okLine l = true ∧ 0 ≤ who then (if who ∈ l then ((l.idxOf who : Int), 0) else (0, 4)) else (0, 1)) := by
  obtain ⟨k, rfl⟩ : ∃ m, k = m + 1 := ⟨k - 1, by omega⟩
  unfold line_Place.f line_Right.f
  simp only [Option.bind_some, line_Place.j0]
  by_cases ho : okLine l = true
  · rw [if_pos ho]
    by_cases hw : 0 ≤ who
    · rw [decide_eq_false (by omega), if_pos (show okLine l = true ∧ 0 ≤ who from ⟨ho, hw⟩), index_f l who hl k (by omega)]
      simp only [Bool.false_eq_true, if_false, Option.bind_some]
      by_cases h : who ∈ l
      · rw [if_pos h, if_pos h, if_neg (by omega)]
      · rw [if_neg h, if_neg h, if_pos (by omega)]
    · rw [decide_eq_true (by omega), if_neg (show ¬ (okLine l = true ∧ 0 ≤ who) from fun q => hw q.2)]; simp
  · rw [if_neg ho, if_neg (show ¬ (okLine l = true ∧ 0 ≤ who) from fun q => ho q.1)]; simp

theorem joined_f (a b : List Int) (ha : a.length ≤ 1000) (hb : b.length ≤ 1000) (k : Nat) (hk : 2 < k) : line_joined.f k [a, b] = some (a ++ b) := by
  obtain ⟨k, rfl⟩ : ∃ m, k = m + 3 := ⟨k - 3, by omega⟩
  have w1 : wrap64 (0 + 1) = 1 := by unfold wrap64; omega
  have w2 : wrap64 (1 + 1) = 2 := by unfold wrap64; omega
  have r0 : rd_L1 [a, b] 0 = a := rfl
  have r1 : rd_L1 [a, b] 1 = b := rfl
  have l2 : (([a, b] : List (List Int)).length : Int) = 2 := rfl
  have h1 : ([] : List Int).length + a.length < 17592186044416 := by simp; omega
  have h2 : ([] ++ a : List Int).length + b.length < 17592186044416 := by simp; omega
  simp only [line_joined.f, line_joined.l0, l2]
  rw [if_pos (by omega), if_pos (by omega), if_pos (by omega), r0, if_pos h1, w1, if_pos (by omega), if_pos (by omega), if_pos (by omega), r1, if_pos h2, w2, if_neg (by omega)]
  rfl

theorem okLine_len {l : List Int} (h : okLine l = true) : l.length ≤ 64 := (of_decide_eq_true h).2.2
theorem okLine_nodup {l : List Int} (h : okLine l = true) : l.Nodup := (of_decide_eq_true h).1
theorem okLine_pos {l : List Int} (h : okLine l = true) : ∀ x ∈ l, 0 ≤ x := (of_decide_eq_true h).2.1
theorem okLine_mk {l : List Int} (h1 : l.Nodup) (h2 : ∀ x ∈ l, 0 ≤ x) (h3 : l.length ≤ 64) : okLine l = true := decide_eq_true ⟨h1, h2, h3⟩

/-- What Push hands back. -/
def pushed (l : List Int) (who : Int) (first : Bool) : List Int × Int :=
  if okLine l = true ∧ 0 ≤ who then (if who ∈ l then ([], 7) else if l.length = 64 then ([], 5) else (if first = true then who :: l else l ++ [who], 0)) else ([], 1)

theorem push_f (l : List Int) (who : Int) (first : Bool) (hl : l.length ≤ 1000) (k : Nat) (hk : l.length + 5 < k) : line_Push.f k l who first = some (pushed l who first) := by
  obtain ⟨k, rfl⟩ : ∃ m, k = m + 1 := ⟨k - 1, by omega⟩
  unfold line_Push.f line_Right.f pushed
  simp only [Option.bind_some, line_Push.j0]
  by_cases ho : okLine l = true
  · rw [if_pos ho]
    by_cases hw : 0 ≤ who
    · rw [decide_eq_false (by omega), if_pos (show okLine l = true ∧ 0 ≤ who from ⟨ho, hw⟩), contains_f l who hl k (by omega)]
      simp only [Bool.false_eq_true, if_false, Option.bind_some]
      by_cases h : who ∈ l
      · rw [if_pos h, decide_eq_true h]; simp
      · rw [if_neg h, decide_eq_false h]
        simp only [Bool.false_eq_true, if_false]
        by_cases h64 : l.length = 64
        · rw [if_pos h64, if_pos (by omega)]
        · rw [if_neg h64, if_neg (by omega)]
          have hlen := okLine_len ho
          rw [joined_f [who] l (by simp) hl k (by omega), joined_f l [who] hl (by simp) k (by omega)]
          cases first <;> simp
    · rw [decide_eq_true (by omega), if_neg (show ¬ (okLine l = true ∧ 0 ≤ who) from fun q => hw q.2)]; simp
  · rw [if_neg ho, if_neg (show ¬ (okLine l = true ∧ 0 ≤ who) from fun q => ho q.1)]; simp

theorem alive_f (k : Nat) (hk : 20 ≤ k) : deadboltlaw07_alive.f k = some true := by
  have h1 : pushed [4, 2] 7 true = ([7, 4, 2], 0) := by decide
  have h2 : okLine [7, 4, 2] = true := by decide
  have h3 : ([7, 4, 2] : List Int).idxOf 2 = 2 := by decide
  unfold deadboltlaw07_alive.f
  rw [push_f _ _ _ (by simp) k (by simp; omega), h1]
  simp only [Option.bind_some]
  rw [place_f _ _ (by simp) k (by simp; omega), if_pos (show okLine [7, 4, 2] = true ∧ (0 : Int) ≤ 2 from ⟨h2, by omega⟩), if_pos (by decide), h3]
  rfl

theorem okLine_sub {l a : List Int} (h : okLine l = true) (hs : a.Sublist l) : okLine a = true :=
  okLine_mk (List.Pairwise.sublist hs (okLine_nodup h)) (fun x hx => okLine_pos h x (hs.subset hx)) (Nat.le_trans hs.length_le (okLine_len h))

/-- What Drop hands back. -/
def dropped (l : List Int) (who : Int) : List Int × Int :=
  if okLine l = true ∧ 0 ≤ who then (if who ∈ l then (l.take (l.idxOf who) ++ l.drop (l.idxOf who + 1), 0) else ([], 4)) else ([], 1)

theorem drop_f (l : List Int) (who : Int) (hl : l.length ≤ 1000) (k : Nat) (hk : l.length + 5 < k) : line_Drop.f k l who = some (dropped l who) := by
  unfold line_Drop.f dropped
  rw [place_f l who hl k (by omega)]
  simp only [Option.bind_some]
  by_cases ho : okLine l = true ∧ 0 ≤ who
  · rw [if_pos ho, if_pos ho]
    by_cases h : who ∈ l
    · have hi := List.idxOf_lt_length_of_mem h
      rw [if_pos h, if_pos h]
      simp only [if_true]
      rw [if_pos (by omega), if_pos (by omega), one64 _ (by omega), if_pos (by omega), if_pos (by omega), Int.toNat_natCast, Int.toNat_natCast, joined_f _ _ (by rw [List.length_take]; omega) (by rw [List.length_drop]; omega) k (by omega)]
      rfl
    · rw [if_neg h, if_neg h]; simp
  · rw [if_neg ho, if_neg ho]; simp

theorem idx_nodup {a : List Int} (h : a.Nodup) (t : Nat) (ht : t < a.length) : a.idxOf a[t] = t := by
  have hm : a[t] ∈ a := List.getElem_mem ht
  have hi := List.idxOf_lt_length_of_mem hm
  have he : a[a.idxOf a[t]] = a[t] := List.getElem_idxOf hi
  rcases Nat.lt_trichotomy (a.idxOf a[t]) t with h' | h' | h'
  · exact absurd he (List.pairwise_iff_getElem.1 h _ _ hi ht h')
  · exact h'
  · exact absurd he.symm (List.pairwise_iff_getElem.1 h _ _ ht hi h')

theorem cut_sub (l : List Int) (i : Nat) : (l.take i ++ l.drop (i + 1)).Sublist l := by
  have h1 : (l.drop (i + 1)).Sublist (l.drop i) := by
    rw [show l.drop (i + 1) = (l.drop i).drop 1 by rw [List.drop_drop]]
    exact List.drop_sublist 1 _
  have h2 := List.Sublist.append (List.Sublist.refl (l.take i)) h1
  rwa [List.take_append_drop] at h2

theorem pop_f (l : List Int) : line_Pop.f l = some (if okLine l = true then (if l = [] then ([], 0, 4) else (l.drop 1, rd l 0, 0)) else ([], 0, 1)) := by
  unfold line_Pop.f line_Right.f
  simp only [Option.bind_some]
  by_cases ho : okLine l = true
  · rw [if_pos ho, if_pos ho]
    cases l with
    | nil => simp
    | cons x r =>
      have hl : ((x :: r).length : Int) = (r.length : Int) + 1 := by simp
      rw [if_neg (by omega), if_pos (by omega), if_pos (by omega), if_neg (by simp)]
  · rw [if_neg ho, if_neg ho]

theorem same_loop (a b : List Int) (hab : a.length = b.length) (hl : a.length ≤ 1000) (d : Nat) : ∀ (i k : Nat), i + d = a.length → d < k → deadboltref07_Same.l0 k a b a.length i = some (decide (a.drop i = b.drop i)) := by
  induction d with
  | zero =>
    intro i k hi hk
    obtain ⟨k, rfl⟩ : ∃ m, k = m + 1 := ⟨k - 1, by omega⟩
    simp only [deadboltref07_Same.l0]
    rw [if_neg (by omega), List.drop_eq_nil_of_le (by omega), List.drop_eq_nil_of_le (by omega)]
    simp
  | succ d ih =>
    intro i k hi hk
    obtain ⟨k, rfl⟩ : ∃ m, k = m + 1 := ⟨k - 1, by omega⟩
    simp only [deadboltref07_Same.l0]
    rw [if_pos (by omega), if_pos (by omega), if_pos (by omega), if_pos (by omega), one64 i (by omega), drop_cons a i (by omega), drop_cons b i (by omega)]
    by_cases h : rd a i = rd b i
    · rw [if_pos h, ih (i + 1) k (by omega) (by omega), h]
      simp
    · rw [if_neg h, decide_eq_false (fun q => h (List.cons.inj q).1)]

theorem same_f (a b : List Int) (hl : a.length ≤ 1000) (k : Nat) (hk : a.length < k) : deadboltref07_Same.f k a b = some (decide (a = b)) := by
  unfold deadboltref07_Same.f
  by_cases hab : a.length = b.length
  · rw [if_pos (by omega)]
    have h := same_loop a b hab hl a.length 0 k (by omega) hk
    simpa using h
  · rw [if_neg (by omega), decide_eq_false (fun q => hab (by rw [q]))]

theorem refplace_f (l : List Int) (x : Int) (hl : l.length ≤ 1000) (k : Nat) (hk : l.length < k) : deadboltref07_Place.f k l x = some (if x ∈ l then (l.idxOf x : Int) else -1) := by
  have h := deadboltref07_Right.place_loop l x (by omega) l.length 0 k (by omega) hk
  unfold deadboltref07_Place.f
  simpa using h

theorem without_loop (l : List Int) (x : Int) (hl : l.length ≤ 1000) (d : Nat) : ∀ (i k : Nat) (out : List Int), i + d = l.length → out.length ≤ i → d < k →
    deadboltref07_Without.l0 k x out l l.length i = some (out ++ (l.drop i).filter (fun y => !(y == x))) := by
  induction d with
  | zero =>
    intro i k out hi ho hk
    obtain ⟨k, rfl⟩ : ∃ m, k = m + 1 := ⟨k - 1, by omega⟩
    simp only [deadboltref07_Without.l0]
    rw [if_neg (by omega), List.drop_eq_nil_of_le (by omega)]
    simp
  | succ d ih =>
    intro i k out hi ho hk
    obtain ⟨k, rfl⟩ : ∃ m, k = m + 1 := ⟨k - 1, by omega⟩
    simp only [deadboltref07_Without.l0]
    rw [if_pos (by omega), if_pos (by omega), if_pos (by omega), one64 i (by omega), drop_cons l i (by omega)]
    by_cases hx : rd l i = x
    · rw [if_pos hx, ih (i + 1) k out (by omega) (by omega) (by omega)]
      simp [hx]
    · rw [if_neg hx, if_pos (by omega), ih (i + 1) k _ (by omega) (by simp; omega) (by omega)]
      simp [hx]

theorem without_f (l : List Int) (x : Int) (hl : l.length ≤ 1000) (k : Nat) (hk : l.length < k) : deadboltref07_Without.f k l x = some (l.filter (fun y => !(y == x))) := by
  have h := without_loop l x hl l.length 0 k [] (by omega) (by simp) hk
  unfold deadboltref07_Without.f
  simpa using h

theorem filter_cut (l : List Int) (x : Int) (hn : l.Nodup) (hm : x ∈ l) : l.filter (fun y => !(y == x)) = l.take (l.idxOf x) ++ l.drop (l.idxOf x + 1) := by
  have hi := List.idxOf_lt_length_of_mem hm
  have he : l[l.idxOf x] = x := List.getElem_idxOf hi
  have h1 : l = l.take (l.idxOf x) ++ x :: l.drop (l.idxOf x + 1) := by
    conv => lhs; rw [← List.take_append_drop (l.idxOf x) l, List.drop_eq_getElem_cons hi, he]
  have hnot : ∀ y, y ∈ l.take (l.idxOf x) ++ l.drop (l.idxOf x + 1) → ¬ y = x := by
    intro y hy q
    subst q
    rcases List.mem_append.1 hy with h | h
    · obtain ⟨t, ht, hq⟩ := List.mem_take_iff_getElem.1 h
      exact List.pairwise_iff_getElem.1 hn t (l.idxOf y) (by omega) hi (by omega) (hq.trans he.symm)
    · obtain ⟨t, ht, hq⟩ := List.mem_drop_iff_getElem.1 h
      exact List.pairwise_iff_getElem.1 hn (l.idxOf y) (l.idxOf y + 1 + t) hi (by omega) (by omega) (he.trans hq.symm)
  generalize l.idxOf x = i at *
  conv => lhs; rw [h1]
  rw [List.filter_append, List.filter_cons_of_neg (by simp), List.filter_eq_self.2 (fun y hy => by simpa using hnot y (List.mem_append.2 (.inl hy))), List.filter_eq_self.2 (fun y hy => by simpa using hnot y (List.mem_append.2 (.inr hy)))]

theorem refpush_f (l : List Int) (x : Int) (first : Bool) (hl : l.length ≤ 1000) : deadboltref07_Push.f l x first = some (if first = true then x :: l else l ++ [x]) := by
  unfold deadboltref07_Push.f
  simp only [Option.bind_some, List.nil_append, List.length_nil, List.length_cons, Nat.zero_add]
  cases first with
  | true => simp; omega
  | false =>
    simp only [Bool.false_eq_true, if_false]
    simp; omega

theorem place_err {l : List Int} {x : Int} (h : ¬ (okLine l = true ∧ 0 ≤ x)) : pushed l x true = ([], 1) ∧ pushed l x false = ([], 1) ∧ dropped l x = ([], 1) := by
  refine ⟨?_, ?_, ?_⟩ <;> simp [pushed, dropped, h]

/-- The last part: what Push tells where nobody of that number is there. -/
theorem j3_yes (l : List Int) (x : Int) (first : Bool) (hl : l.length ≤ 70) (h : okLine l = true ∧ 0 ≤ x) (hm : ¬ x ∈ l) (k : Nat) (hk : 80 ≤ k) :
    deadboltlaw07_LineTells.j3 k l x first (pushed l x first).1 (pushed l x first).2 false = some true := by
  obtain ⟨k, rfl⟩ : ∃ m, k = m + 1 := ⟨k - 1, by omega⟩
  have hlen := okLine_len h.1
  have hp : pushed l x first = if l.length = 64 then ([], 5) else (if first = true then x :: l else l ++ [x], 0) := by
    simp only [pushed, if_pos h, if_neg hm]
  rw [hp]
  simp only [deadboltlaw07_LineTells.j3, Bool.false_eq_true, if_false]
  by_cases h64 : l.length = 64
  · rw [if_pos h64, if_pos (by omega)]; simp
  · rw [if_neg h64, if_neg (by omega), refpush_f l x first (by omega)]
    simp only [if_true, Option.bind_some]
    rw [same_f _ _ (by split <;> simp <;> omega) k (by split <;> simp <;> omega)]
    simp

theorem j2_yes (l : List Int) (x : Int) (first : Bool) (hl : l.length ≤ 70) (h : okLine l = true ∧ 0 ≤ x) (k : Nat) (hk : 90 ≤ k) :
    deadboltlaw07_LineTells.j2 k l x first (pushed l x first).1 (pushed l x first).2 (dropped l x).1 (dropped l x).2 (if x ∈ l then ((l.idxOf x : Int), 0) else ((0 : Int), (4 : Int))).1 (if x ∈ l then ((l.idxOf x : Int), (0 : Int)) else ((0 : Int), 4)).2 false = some true := by
  obtain ⟨k, rfl⟩ : ∃ m, k = m + 1 := ⟨k - 1, by omega⟩
  have hlen := okLine_len h.1
  simp only [deadboltlaw07_LineTells.j2, Bool.false_eq_true, if_false]
  rw [refplace_f l x (by omega) k (by omega)]
  simp only [Option.bind_some]
  by_cases hm : x ∈ l
  · have hp : pushed l x first = ([], 7) := by unfold pushed; rw [if_pos h, if_pos hm]
    have hd : dropped l x = (l.take (l.idxOf x) ++ l.drop (l.idxOf x + 1), 0) := by unfold dropped; rw [if_pos h, if_pos hm]
    have hlc : (l.take (l.idxOf x) ++ l.drop (l.idxOf x + 1)).length ≤ 1000 := by rw [List.length_append, List.length_take, List.length_drop]; omega
    have hlk : (l.take (l.idxOf x) ++ l.drop (l.idxOf x + 1)).length < k := by rw [List.length_append, List.length_take, List.length_drop]; omega
    rw [if_pos hm, if_pos hm, if_pos (by omega), hp, hd, without_f l x (by omega) k (by omega), filter_cut l x (okLine_nodup h.1) hm]
    simp only [if_true, Option.bind_some]
    rw [same_f _ _ hlc k hlk]
    simp
  · have hd : dropped l x = ([], 4) := by unfold dropped; rw [if_pos h, if_neg hm]
    have h3 := j3_yes l x first hl h hm k (by omega)
    rw [if_neg hm, if_neg hm, if_neg (by omega), hd]
    simp only [if_true]
    rw [if_pos (by simp)]
    exact h3

theorem j2_no (l : List Int) (x : Int) (first : Bool) (h : ¬ (okLine l = true ∧ 0 ≤ x)) (k : Nat) (hk : 1 ≤ k) :
    deadboltlaw07_LineTells.j2 k l x first (pushed l x first).1 (pushed l x first).2 (dropped l x).1 (dropped l x).2 0 1 true = some true := by
  obtain ⟨k, rfl⟩ : ∃ m, k = m + 1 := ⟨k - 1, by omega⟩
  obtain ⟨h1, h2, h3⟩ := place_err h
  have hp : pushed l x first = ([], 1) := by cases first <;> assumption
  rw [hp, h3]
  simp [deadboltlaw07_LineTells.j2]

theorem j1_yes (l : List Int) (x : Int) (first : Bool) (hl : l.length ≤ 70) (k : Nat) (hk : 91 ≤ k) (n h : Int) (hp : (if okLine l = true ∧ 0 ≤ x then (if x ∈ l then ((l.idxOf x : Int), (0 : Int)) else (0, 4)) else (0, 1)) = (n, h)) :
    deadboltlaw07_LineTells.j1 k l x first (pushed l x first).1 (pushed l x first).2 (dropped l x).1 (dropped l x).2 n h (okLine l) = some true := by
  obtain ⟨k, rfl⟩ : ∃ m, k = m + 1 := ⟨k - 1, by omega⟩
  simp only [deadboltlaw07_LineTells.j1]
  by_cases hc : okLine l = true ∧ 0 ≤ x
  · rw [if_pos hc] at hp
    have h2 := j2_yes l x first hl hc k (by omega)
    rw [hp] at h2
    rw [if_pos hc.1, decide_eq_false (by omega)]
    exact h2
  · rw [if_neg hc] at hp
    simp only [Prod.mk.injEq] at hp
    obtain ⟨rfl, rfl⟩ := hp
    have h2 := j2_no l x first hc k (by omega)
    by_cases ho : okLine l = true
    · rw [if_pos ho, decide_eq_true (show x < 0 by
        rcases Int.lt_or_le x 0 with h' | h'
        · exact h'
        · exact absurd ⟨ho, h'⟩ hc)]
      exact h2
    · rw [if_neg ho]
      exact h2

end LineTellsAid
open LineTellsAid

theorem LineTells : deadboltlaw07_LineTells.Pure := by
  intro l0 x first _ _ _ _
  refine ⟨100, ?_⟩
  have hl : (l0.take 70).length ≤ 70 := by rw [List.length_take]; omega
  unfold deadboltlaw07_LineTells.f
  rw [few_f]
  simp only [Option.bind_some]
  generalize l0.take 70 = l at *
  rw [push_f l x first (by omega) 100 (by omega), pop_f l, drop_f l x (by omega) 100 (by omega), place_f l x (by omega) 100 (by omega), alive_f 100 (by omega)]
  simp only [Option.bind_some, deadboltref07_Right.f, line_Right.f, bne_self_eq_false, Bool.false_eq_true, if_false, Bool.not_true]
  obtain ⟨n, h, hp⟩ : ∃ n h : Int, (if okLine l = true ∧ 0 ≤ x then (if x ∈ l then ((l.idxOf x : Int), (0 : Int)) else (0, 4)) else (0, 1)) = (n, h) := ⟨_, _, rfl⟩
  have h1 := j1_yes l x first hl 99 (by omega) n h hp
  rw [hp]
  simp only [deadboltlaw07_LineTells.j0, Bool.false_eq_true, if_false]
  by_cases ho : okLine l = true
  · rw [if_pos ho, if_pos ho]
    cases l with
    | nil =>
      simp only [if_true, List.length_nil]
      exact h1
    | cons y r =>
      have hlr : r.length ≤ 69 := by simpa using hl
      rw [if_neg (show ¬ ((y :: r) = []) by simp), if_neg (show ¬ (((y :: r).length : Int) = 0) by simp only [List.length_cons]; omega)]
      simp only [if_true, List.drop_succ_cons, List.drop_zero]
      rw [if_pos (show (0 : Int) < ((y :: r).length : Int) by simp only [List.length_cons]; omega), if_pos (show (1 : Int) ≤ ((y :: r).length : Int) by simp only [List.length_cons]; omega), same_f r r (by omega) 99 (by omega)]
      simp only [decide_true, Option.bind_some, if_true]
      exact h1
  · rw [if_neg ho, if_neg ho]
    simp only [if_true, List.length_nil]
    exact h1

end Go.Proofs.Ytgehamafdceaeaa.Pure
