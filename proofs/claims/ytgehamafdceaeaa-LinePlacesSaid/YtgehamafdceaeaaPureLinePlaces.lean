/- The plain law of LinePlaces: for all lines and numbers the law function answers true: who has so many ahead is popped as that; without one of those ahead it has one less, and without one behind as many. No conditions beyond those of the given statement. -/
import Derived.Test.YtgehamafdceaeaaPLinePlacesx2
namespace Go.Proofs.Ytgehamafdceaeaa.Pure
open Go.RowKit Go.Proofs.Ytgehamafdceaeaa.PLinePlaces Go.Proofs.YtgehamafdceaeaaW.PrintWords Go.Proofs.YtgehamafdceaeaaW.PrintLast Go.Proofs.YtgehamafdceaeaaW.PrintMore Go.Proofs.Ytgehamafdceaeaa.Hand
namespace LinePlacesAid

theorem one64 (i : Nat) (h : i ≤ 100000) : wrap64 ((i : Int) + 1) = ((i + 1 : Nat) : Int) := by unfold wrap64; omega

theorem few_f (l : List Int) : deadboltlaw07_few.f l = some (l.take 70) := by
  have hm : 0 ≤ mn (l.length : Int) 70 ∧ mn (l.length : Int) 70 ≤ l.length := by unfold mn; split <;> omega
  unfold deadboltlaw07_few.f
  rw [if_pos hm.1, if_pos hm.2]
  congr 1
  unfold mn
  split
  · rfl
  · rename_i h
    rw [List.take_of_length_le (by omega), List.take_of_length_le (by omega)]

theorem drop_cons (l : List Int) (i : Nat) (h : i < l.length) : l.drop i = rd l i :: l.drop (i + 1) := by rw [List.drop_eq_getElem_cons h, rd_get l i h]

theorem index_loop (l : List Int) (x : Int) (hl : l.length ≤ 1000) (d : Nat) : ∀ (i k : Nat), i + d = l.length → d < k → slices_Index_int_int.l0 k l x l.length i = some (if x ∈ l.drop i then ((i + (l.drop i).idxOf x : Nat) : Int) else -1) := by
  induction d with
  | zero =>
    intro i k hi hk
    obtain ⟨k, rfl⟩ : ∃ m, k = m + 1 := ⟨k - 1, by omega⟩
    simp only [slices_Index_int_int.l0]
    rw [if_neg (by omega), List.drop_eq_nil_of_le (by omega)]
    simp
  | succ d ih =>
    intro i k hi hk
    obtain ⟨k, rfl⟩ : ∃ m, k = m + 1 := ⟨k - 1, by omega⟩
    simp only [slices_Index_int_int.l0]
    rw [if_pos (by omega), if_pos (by omega), if_pos (by omega), drop_cons l i (by omega), one64 i (by omega)]
    by_cases hx : x = rd l i
    · rw [if_pos hx, ← hx]; simp
    · have hx' : ¬ rd l i = x := fun q => hx q.symm
      rw [if_neg hx, ih (i + 1) k (by omega) (by omega)]
      by_cases hm : x ∈ l.drop (i + 1)
      · rw [if_pos hm, if_pos (List.mem_cons_of_mem _ hm), show (rd l i :: l.drop (i + 1)).idxOf x = (l.drop (i + 1)).idxOf x + 1 from by rw [List.idxOf_cons, show (rd l i == x) = false from beq_eq_false_iff_ne.2 hx']; rfl]
        congr 1
        omega
      · rw [if_neg hm, if_neg (by simp [hx, hm])]

theorem index_f (l : List Int) (x : Int) (hl : l.length ≤ 1000) (k : Nat) (hk : l.length < k) : slices_Index_int_int.f k l x = some (if x ∈ l then (l.idxOf x : Int) else -1) := by
  have h := index_loop l x hl l.length 0 k (by omega) hk
  unfold slices_Index_int_int.f
  simpa using h

theorem contains_f (l : List Int) (x : Int) (hl : l.length ≤ 1000) (k : Nat) (hk : l.length < k) : slices_Contains_int_int.f k l x = some (decide (x ∈ l)) := by
  unfold slices_Contains_int_int.f
  rw [index_f l x hl k hk]
  simp only [Option.bind_some]
  by_cases h : x ∈ l
  · rw [if_pos h, decide_eq_true h, decide_eq_true (by omega)]
  · rw [if_neg h, decide_eq_false h, decide_eq_false (by omega)]

theorem place_f (l : List Int) (who : Int) (hl : l.length ≤ 1000) (k : Nat) (hk : l.length + 1 < k) :
    line_Place.f k l who = some (if okLine l = true ∧ 0 ≤ who then (if who ∈ l then ((l.idxOf who : Int), 0) else (0, 4)) else (0, 1)) := by
  obtain ⟨k, rfl⟩ : ∃ m, k = m + 1 := ⟨k - 1, by omega⟩
  unfold line_Place.f line_Right.f
  simp only [Option.bind_some, line_Place.j0]
  by_cases ho : okLine l = true
  · rw [if_pos ho]
    by_cases hw : 0 ≤ who
    · rw [decide_eq_false (by omega), if_pos (show okLine l = true ∧ 0 ≤ who from ⟨ho, hw⟩), index_f l who hl k (by omega)]
      simp only [Bool.false_eq_true, if_false, Option.bind_some]
      by_cases h : who ∈ l
      · rw [if_pos h, if_pos h, if_neg (by omega)]
      · rw [if_neg h, if_neg h, if_pos (by omega)]
    · rw [decide_eq_true (by omega), if_neg (show ¬ (okLine l = true ∧ 0 ≤ who) from fun q => hw q.2)]; simp
  · rw [if_neg ho, if_neg (show ¬ (okLine l = true ∧ 0 ≤ who) from fun q => ho q.1)]; simp

theorem joined_f (a b : List Int) (ha : a.length ≤ 1000) (hb : b.length ≤ 1000) (k : Nat) (hk : 2 < k) : line_joined.f k [a, b] = some (a ++ b) := by
  obtain ⟨k, rfl⟩ : ∃ m, k = m + 3 := ⟨k - 3, by omega⟩
  have w1 : wrap64 (0 + 1) = 1 := by unfold wrap64; omega
  have w2 : wrap64 (1 + 1) = 2 := by unfold wrap64; omega
  have r0 : rd_L1 [a, b] 0 = a := rfl
  have r1 : rd_L1 [a, b] 1 = b := rfl
  have l2 : (([a, b] : List (List Int)).length : Int) = 2 := rfl
  have h1 : ([] : List Int).length + a.length < 17592186044416 := by simp; omega
  have h2 : ([] ++ a : List Int).length + b.length < 17592186044416 := by simp; omega
  simp only [line_joined.f, line_joined.l0, l2]
  rw [if_pos (by omega), if_pos (by omega), if_pos (by omega), r0, if_pos h1, w1, if_pos (by omega), if_pos (by omega), if_pos (by omega), r1, if_pos h2, w2, if_neg (by omega)]
  rfl

theorem okLine_len {l : List Int} (h : okLine l = true) : l.length ≤ 64 := (of_decide_eq_true h).2.2
theorem okLine_nodup {l : List Int} (h : okLine l = true) : l.Nodup := (of_decide_eq_true h).1
theorem okLine_pos {l : List Int} (h : okLine l = true) : ∀ x ∈ l, 0 ≤ x := (of_decide_eq_true h).2.1
theorem okLine_mk {l : List Int} (h1 : l.Nodup) (h2 : ∀ x ∈ l, 0 ≤ x) (h3 : l.length ≤ 64) : okLine l = true := decide_eq_true ⟨h1, h2, h3⟩

/-- What Push hands back. -/
def pushed (l : List Int) (who : Int) (first : Bool) : List Int × Int :=
  if okLine l = true ∧ 0 ≤ who then (if who ∈ l then ([], 7) else if l.length = 64 then ([], 5) else (if first = true then who :: l else l ++ [who], 0)) else ([], 1)

theorem push_f (l : List Int) (who : Int) (first : Bool) (hl : l.length ≤ 1000) (k : Nat) (hk : l.length + 5 < k) : line_Push.f k l who first = some (pushed l who first) := by
  obtain ⟨k, rfl⟩ : ∃ m, k = m + 1 := ⟨k - 1, by omega⟩
  unfold line_Push.f line_Right.f pushed
  simp only [Option.bind_some, line_Push.j0]
  by_cases ho : okLine l = true
  · rw [if_pos ho]
    by_cases hw : 0 ≤ who
    · rw [decide_eq_false (by omega), if_pos (show okLine l = true ∧ 0 ≤ who from ⟨ho, hw⟩), contains_f l who hl k (by omega)]
      simp only [Bool.false_eq_true, if_false, Option.bind_some]
      by_cases h : who ∈ l
      · rw [if_pos h, decide_eq_true h]; simp
      · rw [if_neg h, decide_eq_false h]
        simp only [Bool.false_eq_true, if_false]
        by_cases h64 : l.length = 64
        · rw [if_pos h64, if_pos (by omega)]
        · rw [if_neg h64, if_neg (by omega)]
          have hlen := okLine_len ho
          rw [joined_f [who] l (by simp) hl k (by omega), joined_f l [who] hl (by simp) k (by omega)]
          cases first <;> simp
    · rw [decide_eq_true (by omega), if_neg (show ¬ (okLine l = true ∧ 0 ≤ who) from fun q => hw q.2)]; simp
  · rw [if_neg ho, if_neg (show ¬ (okLine l = true ∧ 0 ≤ who) from fun q => ho q.1)]; simp

theorem alive_f (k : Nat) (hk : 20 ≤ k) : deadboltlaw07_alive.f k = some true := by
  have h1 : pushed [4, 2] 7 true = ([7, 4, 2], 0) := by decide
  have h2 : okLine [7, 4, 2] = true := by decide
  have h3 : ([7, 4, 2] : List Int).idxOf 2 = 2 := by decide
  unfold deadboltlaw07_alive.f
  rw [push_f _ _ _ (by simp) k (by simp; omega), h1]
  simp only [Option.bind_some]
  rw [place_f _ _ (by simp) k (by simp; omega), if_pos (show okLine [7, 4, 2] = true ∧ (0 : Int) ≤ 2 from ⟨h2, by omega⟩), if_pos (by decide), h3]
  rfl

/-- What Drop hands back. -/
def dropped (l : List Int) (who : Int) : List Int × Int :=
  if okLine l = true ∧ 0 ≤ who then (if who ∈ l then (l.take (l.idxOf who) ++ l.drop (l.idxOf who + 1), 0) else ([], 4)) else ([], 1)

theorem drop_f (l : List Int) (who : Int) (hl : l.length ≤ 1000) (k : Nat) (hk : l.length + 5 < k) : line_Drop.f k l who = some (dropped l who) := by
  unfold line_Drop.f dropped
  rw [place_f l who hl k (by omega)]
  simp only [Option.bind_some]
  by_cases ho : okLine l = true ∧ 0 ≤ who
  · rw [if_pos ho, if_pos ho]
    by_cases h : who ∈ l
    · have hi := List.idxOf_lt_length_of_mem h
      rw [if_pos h, if_pos h]
      simp only [if_true]
      rw [if_pos (by omega), if_pos (by omega), one64 _ (by omega), if_pos (by omega), if_pos (by omega), Int.toNat_natCast, Int.toNat_natCast, joined_f _ _ (by rw [List.length_take]; omega) (by rw [List.length_drop]; omega) k (by omega)]
      rfl
    · rw [if_neg h, if_neg h]; simp
  · rw [if_neg ho, if_neg ho]; simp

theorem idx_nodup {a : List Int} (h : a.Nodup) (t : Nat) (ht : t < a.length) : a.idxOf a[t] = t := by
  have hm : a[t] ∈ a := List.getElem_mem ht
  have hi := List.idxOf_lt_length_of_mem hm
  have he : a[a.idxOf a[t]] = a[t] := List.getElem_idxOf hi
  rcases Nat.lt_trichotomy (a.idxOf a[t]) t with h' | h' | h'
  · exact absurd he (List.pairwise_iff_getElem.1 h _ _ hi ht h')
  · exact h'
  · exact absurd he.symm (List.pairwise_iff_getElem.1 h _ _ ht hi h')

theorem cut_sub (l : List Int) (i : Nat) : (l.take i ++ l.drop (i + 1)).Sublist l := by
  have h1 : (l.drop (i + 1)).Sublist (l.drop i) := by
    rw [show l.drop (i + 1) = (l.drop i).drop 1 by rw [List.drop_drop]]
    exact List.drop_sublist 1 _
  have h2 := List.Sublist.append (List.Sublist.refl (l.take i)) h1
  rwa [List.take_append_drop] at h2

theorem okLine_sub {l a : List Int} (h : okLine l = true) (hs : a.Sublist l) : okLine a = true :=
  okLine_mk (List.Pairwise.sublist hs (okLine_nodup h)) (fun x hx => okLine_pos h x (hs.subset hx)) (Nat.le_trans hs.length_le (okLine_len h))

theorem tmod_emod (x b : Int) : Int.tmod x b = if 0 ≤ x then x % b else -((-x) % b) := by
  split
  · rename_i h; exact Int.tmod_eq_emod_of_nonneg h
  · rename_i h
    have : Int.tmod x b = -(Int.tmod (-x) b) := by rw [Int.neg_tmod]; omega
    rw [this, Int.tmod_eq_emod_of_nonneg (by omega)]

theorem within (x : Int) (n : Nat) (h0 : 0 < n) (h1 : n ≤ 1000) : 0 ≤ Int.tmod (wrap64 (Int.tmod x (n : Int) + (n : Int))) (n : Int) ∧ Int.tmod (wrap64 (Int.tmod x (n : Int) + (n : Int))) (n : Int) < n := by
  have a1 : -(n : Int) < Int.tmod x n ∧ Int.tmod x n < n := by
    have h := tmod_emod x n
    have e1 := Int.emod_nonneg x (show (n : Int) ≠ 0 by omega)
    have e2 := Int.emod_lt_of_pos x (show (0 : Int) < n by omega)
    have e3 := Int.emod_nonneg (-x) (show (n : Int) ≠ 0 by omega)
    have e4 := Int.emod_lt_of_pos (-x) (show (0 : Int) < n by omega)
    split at h <;> omega
  have a2 : wrap64 (Int.tmod x n + n) = Int.tmod x n + n := by unfold wrap64; omega
  rw [a2, Int.tmod_eq_emod_of_nonneg (by omega)]
  exact ⟨Int.emod_nonneg _ (by omega), Int.emod_lt_of_pos _ (by omega)⟩

/-- Who stood at place t, in the line without the one at place o. -/
theorem cut_get (l : List Int) (hn : l.Nodup) (t o : Nat) (ht : t < l.length) (ho : o < l.length) (hne : t ≠ o) :
    l[t] ∈ (l.take o ++ l.drop (o + 1)) ∧ (l.take o ++ l.drop (o + 1)).idxOf l[t] = if o < t then t - 1 else t := by
  have hlen : (l.take o ++ l.drop (o + 1)).length = l.length - 1 := by rw [List.length_append, List.length_take, List.length_drop]; omega
  have hna := List.Pairwise.sublist (cut_sub l o) hn
  by_cases h : o < t
  · rw [if_pos h]
    have hq : t - 1 < (l.take o ++ l.drop (o + 1)).length := by omega
    have he : (l.take o ++ l.drop (o + 1))[t - 1] = l[t] := by
      rw [List.getElem_append_right (by rw [List.length_take]; omega)]
      simp only [List.getElem_drop, List.length_take]
      congr 1
      omega
    refine ⟨he ▸ List.getElem_mem hq, ?_⟩
    have := idx_nodup hna (t - 1) hq
    rwa [he] at this
  · rw [if_neg h]
    have hq : t < (l.take o ++ l.drop (o + 1)).length := by omega
    have he : (l.take o ++ l.drop (o + 1))[t] = l[t] := by
      rw [List.getElem_append_left (by rw [List.length_take]; omega), List.getElem_take]
    refine ⟨he ▸ List.getElem_mem hq, ?_⟩
    have := idx_nodup hna t hq
    rwa [he] at this

theorem cut_not (l : List Int) (hn : l.Nodup) (o : Nat) (ho : o < l.length) : ¬ l[o] ∈ (l.take o ++ l.drop (o + 1)) := by
  intro hm
  rcases List.mem_append.1 hm with h | h
  · obtain ⟨t, ht, he⟩ := List.mem_take_iff_getElem.1 h
    exact List.pairwise_iff_getElem.1 hn t o (by omega) ho (by omega) he
  · obtain ⟨t, ht, he⟩ := List.mem_drop_iff_getElem.1 h
    exact List.pairwise_iff_getElem.1 hn o (o + 1 + t) ho (by omega) (by omega) (by rw [← he])

end LinePlacesAid
open LinePlacesAid

theorem LinePlaces : deadboltlaw07_LinePlaces.Pure := by
  intro l0 a1 a2 _ _ _ _ _
  refine ⟨100, ?_⟩
  have hl : (l0.take 70).length ≤ 70 := by rw [List.length_take]; omega
  unfold deadboltlaw07_LinePlaces.f
  rw [few_f]
  simp only [Option.bind_some, line_Right.f]
  generalize l0.take 70 = l at *
  by_cases hz : okLine l = true ∧ l.length ≠ 0
  · obtain ⟨hok, hne⟩ := hz
    rw [if_pos hok, beq_eq_false_iff_ne.2 (show ¬ (l.length : Int) = 0 by omega)]
    simp only [deadboltlaw07_LinePlaces.j0, Bool.false_eq_true, if_false]
    rw [if_neg (by omega)]
    have ht := within a1 l.length (by omega) (by omega)
    have ho := within a2 l.length (by omega) (by omega)
    generalize Int.tmod (wrap64 (Int.tmod a1 (l.length : Int) + (l.length : Int))) (l.length : Int) = ti at *
    generalize Int.tmod (wrap64 (Int.tmod a2 (l.length : Int) + (l.length : Int))) (l.length : Int) = oi at *
    obtain ⟨t, rfl⟩ := Int.eq_ofNat_of_zero_le ht.1
    obtain ⟨o, rfl⟩ := Int.eq_ofNat_of_zero_le ho.1
    have htl : t < l.length := by omega
    have hol : o < l.length := by omega
    have hn := okLine_nodup hok
    have hmt : rd l t ∈ l := by rw [rd_get l t htl]; exact List.getElem_mem htl
    have hmo : rd l o ∈ l := by rw [rd_get l o hol]; exact List.getElem_mem hol
    have hpt : 0 ≤ rd l t := okLine_pos hok _ hmt
    have hpo : 0 ≤ rd l o := okLine_pos hok _ hmo
    have hit : l.idxOf (rd l t) = t := by rw [rd_get l t htl]; exact idx_nodup hn t htl
    have hio : l.idxOf (rd l o) = o := by rw [rd_get l o hol]; exact idx_nodup hn o hol
    have hd : dropped l (rd l o) = (l.take o ++ l.drop (o + 1), 0) := by
      unfold dropped
      rw [if_pos ⟨hok, hpo⟩, if_pos hmo, hio]
    have hla : (l.take o ++ l.drop (o + 1)).length = l.length - 1 := by rw [List.length_append, List.length_take, List.length_drop]; omega
    have hoka : okLine (l.take o ++ l.drop (o + 1)) = true := okLine_sub hok (cut_sub l o)
    have hw : wrap64 ((l.length : Int) - 1) = (l.length : Int) - 1 := by unfold wrap64; omega
    rw [if_pos ht.1, if_pos ht.2, place_f l (rd l t) (by omega) 99 (by omega), if_pos (show okLine l = true ∧ 0 ≤ rd l t from ⟨hok, hpt⟩), if_pos hmt, hit]
    simp only [Option.bind_some]
    rw [if_pos ho.1, if_pos ho.2, drop_f l (rd l o) (by omega) 99 (by omega), hd]
    simp only [Option.bind_some, if_true, hw]
    rw [if_pos (by rw [hla]; omega), alive_f 99 (by omega)]
    simp only [Option.bind_some, Bool.not_true, deadboltlaw07_LinePlaces.j1, Bool.false_eq_true, if_false]
    rw [if_pos ht.1, if_pos ht.2, place_f _ (rd l t) (by omega) 98 (by omega), if_pos (show okLine (l.take o ++ l.drop (o + 1)) = true ∧ 0 ≤ rd l t from ⟨hoka, hpt⟩)]
    simp only [Option.bind_some]
    by_cases hto : t = o
    · subst hto
      have hnot := cut_not l hn t htl
      rw [← rd_get l t htl] at hnot
      rw [if_neg hnot]
      simp
    · obtain ⟨hm, hi⟩ := cut_get l hn t o htl hol hto
      rw [← rd_get l t htl] at hm hi
      have hne2 : ¬ (t : Int) = (o : Int) := by omega
      rw [if_pos hm, hi, if_neg hne2]
      by_cases hlt : o < t
      · have hw2 : wrap64 ((t : Int) - 1) = ((t - 1 : Nat) : Int) := by unfold wrap64; omega
        rw [if_pos (show (o : Int) < (t : Int) by omega), if_pos hlt, hw2]
        simp
      · rw [if_neg (show ¬ (o : Int) < (t : Int) by omega), if_neg hlt]
        simp
  · by_cases hok : okLine l = true
    · have h0 : l.length = 0 := by
        by_cases h : l.length = 0
        · exact h
        · exact absurd ⟨hok, h⟩ hz
      rw [if_pos hok, beq_iff_eq.2 (show (l.length : Int) = 0 by omega)]
      simp only [deadboltlaw07_LinePlaces.j0, if_true]
      rw [alive_f 99 (by omega)]; rfl
    · rw [if_neg hok]
      simp only [deadboltlaw07_LinePlaces.j0, if_true]
      rw [alive_f 99 (by omega)]; rfl

end Go.Proofs.Ytgehamafdceaeaa.Pure
