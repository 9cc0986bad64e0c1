/- Plain lemmas on texts of programs: what act tells, in lists of bytes; a line cut at each ';' with a blank, a text cut at each byte 10. No conditions but those that each lemma names. -/
import Derived.Test.YtfebhemdpbnebaaDoorSplit
import Derived.Lib.AtoiTie
import Derived.Lib.ItoaLen
namespace Go.Proofs.YtfebhemdpbnebaaDoor.Hand
open Go.RowKit Go.Proofs.YtfebhemdpbnebaaDoorW.PrintWords Go.Proofs.YtfebhemdpbnebaaDoorW.PrintLast Go.Proofs.YtfebhemdpbnebaaDoorW.PrintMore

/-! ### Numbers -/
theorem decDigits_ne (u : Nat) : Lib.decDigits u ≠ [] := by
  rw [Lib.decDigits]
  split <;> simp
theorem digitVal_of (d : Nat) (h : d < 10) : Lib.digitVal (UInt8.ofNat (48 + d)) = some d := by
  unfold Lib.digitVal
  have e : (UInt8.ofNat (48 + d)).toNat = 48 + d := by simp only [UInt8.toNat_ofNat']; omega
  rw [e, if_pos (by omega)]
  congr 1
  omega
theorem decFrom_append : ∀ (l : List UInt8) (acc n d : Nat) (b : UInt8), Lib.decFrom acc l = some n → Lib.digitVal b = some d → Lib.decFrom acc (l ++ [b]) = some (n * 10 + d)
  | [], acc, n, d, b, h, hb => by
    simp only [Lib.decFrom, Option.some.injEq] at h
    subst h
    simp [Lib.decFrom, hb]
  | a :: t, acc, n, d, b, h, hb => by
    simp only [Lib.decFrom, List.cons_append] at h ⊢
    cases ha : Lib.digitVal a with
    | none => simp [ha] at h
    | some e =>
      simp only [ha] at h ⊢
      exact decFrom_append t _ n d b h hb
theorem dec_digits (u : Nat) : Lib.decFrom 0 (Lib.decDigits u) = some u := by
  induction u using Nat.strongRecOn with
  | _ u ih =>
    by_cases hu : u < 10
    · rw [Lib.decDigits_one hu]
      simp only [Lib.decFrom, digitVal_of u hu]
      simp
    · rw [Lib.decDigits, dif_neg hu, decFrom_append _ _ (u / 10) (u % 10) _ (ih (u / 10) (by omega)) (digitVal_of _ (by omega))]
      congr 1
      omega
theorem dig_len (m : Nat) : ∀ u, u < 10 ^ (m + 1) → (Lib.decDigits u).length ≤ m + 1 := by
  induction m with
  | zero =>
    intro u h
    rw [Lib.decDigits_one (by simpa using h)]
    simp
  | succ m ih =>
    intro u h
    by_cases hu : u < 10
    · rw [Lib.decDigits_one hu]
      simp
    · rw [Lib.decDigits, dif_neg hu, List.length_append]
      have := ih (u / 10) (by rw [Nat.pow_succ] at h; omega)
      simp only [List.length_cons, List.length_nil]
      omega
theorem itoa_pos (n : Int) (h0 : 0 ≤ n) : Lib.itoa n = Lib.decDigits n.toNat := by
  unfold Lib.itoa
  rw [if_neg (by omega)]
theorem itoa_len (n : Int) (h0 : 0 ≤ n) (h1 : n ≤ 999999) : (Lib.itoa n).length ≤ 6 := by
  rw [itoa_pos n h0]
  exact dig_len 5 _ (by omega)
theorem itoa_one (n : Int) (h0 : 0 ≤ n) : 0 < (Lib.itoa n).length := by
  rw [itoa_pos n h0]
  exact List.length_pos_iff.2 (decDigits_ne _)
theorem atoi_itoa (n : Int) (h0 : 0 ≤ n) : Lib.atoi (Lib.itoa n) = some n := by
  rw [itoa_pos n h0]
  have hd := dec_digits n.toNat
  cases hl : Lib.decDigits n.toNat with
  | nil => exact absurd hl (decDigits_ne _)
  | cons b r =>
    rw [hl] at hd
    obtain ⟨d, hb⟩ := Lib.digit_of_decFrom _ _ _ hd 0 b rfl
    have h45 : b ≠ 45 := by
      rintro rfl
      simp [Lib.digitVal] at hb
    have h43 : b ≠ 43 := by
      rintro rfl
      simp [Lib.digitVal] at hb
    unfold Lib.atoi
    simp only []
    rw [if_neg (by simpa using h45), if_neg (by simpa using h43)]
    unfold Lib.decNat
    rw [if_neg (by simp), hd]
    simp only [Option.map_some]
    congr 1
    omega
theorem atoiAll_itoa (n : Int) (h0 : 0 ≤ n) (h1 : n ≤ 999999) : Lib.atoiAll (Lib.itoa n) = .ok n := by
  rw [Lib.atoiAll_short _ (by have := itoa_len n h0 h1; omega), atoi_itoa n h0]
  rfl
/-- The number of at most six digits that a text is. -/
def numv (l : List UInt8) : Option Int := match Lib.atoiAll l with
  | .ok n => if n < 0 ∨ 999999 < n ∨ Lib.itoa n ≠ l then none else some n
  | _ => none
theorem numv_iff (l : List UInt8) (n : Int) : numv l = some n ↔ 0 ≤ n ∧ n ≤ 999999 ∧ l = Lib.itoa n := by
  constructor
  · intro h
    unfold numv at h
    split at h
    · split at h
      · cases h
      · rename_i hc
        cases h
        refine ⟨?_, ?_, ?_⟩
        · exact Int.not_lt.1 fun q => hc (Or.inl q)
        · exact Int.not_lt.1 fun q => hc (Or.inr (Or.inl q))
        · exact (Classical.not_not.1 fun q => hc (Or.inr (Or.inr q))).symm
    · cases h
  · rintro ⟨h0, h1, rfl⟩
    unfold numv
    rw [atoiAll_itoa n h0 h1]
    simp only []
    rw [if_neg (fun q => q.elim (by omega) (fun q => q.elim (by omega) (fun q => q rfl)))]

/-! ### What act tells -/
def actv (l : List UInt8) : Int × Int × Int := match kindOf (Lib.cut l [32]).1 with
  | none => (0, 0, 8)
  | some k => if (Lib.cut l [32]).2.1 = [] then (0, 0, 8) else match numv (Lib.cut l [32]).2.1 with
    | none => (0, 0, 9)
    | some n => if isActP k n = true then (k, n, 0) else (0, 0, 3)
theorem act_f (s : ByteArray) (h : s.size ≤ 4096) : prog_act.f s = some (actv s.data.toList) := by
  unfold prog_act.f actv
  rw [if_pos h]
  congr 1
  cases kindOf (Lib.cut s.data.toList [32]).1 with
  | none => rfl
  | some k =>
    simp only []
    by_cases hr : (Lib.cut s.data.toList [32]).2.1 = []
    · rw [if_pos hr, if_pos hr]
    · rw [if_neg hr, if_neg hr]
      unfold numv
      cases Lib.atoiAll (Lib.cut s.data.toList [32]).2.1 with
      | ok n =>
        simp only []
        by_cases hc : n < 0 ∨ 999999 < n ∨ Lib.itoa n ≠ (Lib.cut s.data.toList [32]).2.1
        · rw [if_pos hc, if_pos hc]
        · rw [if_neg hc, if_neg hc]
      | range => rfl
      | _ => rfl
/-- Cut at the first blank: what stands ahead bears none. -/
theorem cut_blank : ∀ (l : List UInt8), (Lib.cut l [32] = (l, [], false) ∧ 32 ∉ l) ∨ ∃ a b, Lib.cut l [32] = (a, b, true) ∧ l = a ++ 32 :: b ∧ 32 ∉ a
  | [] => Or.inl ⟨rfl, by simp⟩
  | c :: l => by
    by_cases hc : c = 32
    · subst hc
      refine Or.inr ⟨[], l, ?_, rfl, by simp⟩
      unfold Lib.cut
      have hx : Lib.index (32 :: l) [32] = 0 := by
        rw [Lib.index]
        simp [List.isPrefixOf]
      rw [hx]
      rfl
    · have hp : ([32] : List UInt8).isPrefixOf (c :: l) = false := by simp [List.isPrefixOf, Ne.symm hc]
      have hix : Lib.index (c :: l) [32] = if Lib.index l [32] == -1 then -1 else Lib.index l [32] + 1 := by rw [Lib.index, hp]; simp
      have hge := Lib.index_ge l [32]
      rcases cut_blank l with ⟨hl, hn⟩ | ⟨a, b, hl, he, hn⟩
      · refine Or.inl ⟨?_, by simp [hn, Ne.symm hc]⟩
        unfold Lib.cut at hl ⊢
        by_cases h0 : 0 ≤ Lib.index l [32]
        · rw [if_pos h0] at hl
          simp at hl
        · have hv : Lib.index (c :: l) [32] = -1 := by rw [hix, if_pos (by rw [beq_iff_eq]; omega)]
          rw [hv]
          rfl
      · refine Or.inr ⟨c :: a, b, ?_, by rw [he]; rfl, by simp [hn, Ne.symm hc]⟩
        unfold Lib.cut at hl ⊢
        by_cases h0 : 0 ≤ Lib.index l [32]
        · rw [if_pos h0] at hl
          obtain ⟨j, hj⟩ : ∃ j : Nat, Lib.index l [32] = j := ⟨(Lib.index l [32]).toNat, by omega⟩
          rw [hj] at hl
          simp only [Int.toNat_natCast, List.length_cons, List.length_nil, Prod.mk.injEq] at hl
          have hv : Lib.index (c :: l) [32] = ((j + 1 : Nat) : Int) := by
            rw [hix, if_neg (by simp only [beq_iff_eq]; omega), hj]
            rfl
          rw [hv, if_pos (by omega), Int.toNat_natCast]
          simp only [List.take_succ_cons, List.length_cons, List.length_nil, Prod.mk.injEq, List.cons.injEq, true_and, and_true]
          refine ⟨hl.1, ?_⟩
          rw [show j + 1 + (0 + 1) = (j + (0 + 1)) + 1 by omega, List.drop_succ_cons]
          exact hl.2.1
        · rw [if_neg h0] at hl
          simp at hl
/-- A word and a blank ahead of something: just if it is what stands ahead of the first blank. -/
theorem ahead_iff (w l : List UInt8) (hw : 32 ∉ w) : (w.length + 1 < l.length ∧ l.take (w.length + 1) = w ++ [32]) ↔ ((Lib.cut l [32]).1 = w ∧ (Lib.cut l [32]).2.1 ≠ []) := by
  rcases cut_blank l with ⟨hl, hn⟩ | ⟨a, b, hl, he, hn⟩
  · rw [hl]
    simp only [ne_eq, not_true_eq_false, and_false, iff_false, not_and]
    intro _ ht
    refine hn ?_
    have : (32 : UInt8) ∈ l.take (w.length + 1) := by rw [ht]; simp
    exact List.mem_of_mem_take this
  · rw [hl]
    simp only
    constructor
    · rintro ⟨hlen, ht⟩
      have hl2 : l = w ++ 32 :: l.drop (w.length + 1) := by
        conv => lhs; rw [← List.take_append_drop (w.length + 1) l, ht]
        simp
      have hu : ∀ (a w : List UInt8) (b d : List UInt8), 32 ∉ a → 32 ∉ w → a ++ 32 :: b = w ++ 32 :: d → a = w ∧ b = d := by
        intro a
        induction a with
        | nil =>
          intro w b d _ hw h
          cases w with
          | nil => simp at h; exact ⟨rfl, h⟩
          | cons x w => simp at h; exact absurd h.1 (fun q => hw (by rw [← q]; simp))
        | cons y a ih =>
          intro w b d ha hw h
          cases w with
          | nil => simp at h; exact absurd h.1 (fun q => ha (by rw [q]; simp))
          | cons x w =>
            simp only [List.cons_append, List.cons.injEq] at h
            obtain ⟨e1, e2⟩ := ih w b d (fun q => ha (by simp [q])) (fun q => hw (by simp [q])) h.2
            exact ⟨by rw [h.1, e1], e2⟩
      rw [he] at hl2
      obtain ⟨e1, e2⟩ := hu a w b _ hn hw hl2
      refine ⟨e1, ?_⟩
      rw [e2]
      intro q
      rw [← he] at q
      have := congrArg List.length q
      simp only [List.length_drop, List.length_nil] at this
      omega
    · rintro ⟨rfl, hb⟩
      rw [he]
      have : 0 < b.length := List.length_pos_iff.2 hb
      refine ⟨by simp; omega, ?_⟩
      rw [show a ++ 32 :: b = (a ++ [32]) ++ b by simp]
      exact List.take_left' (by simp)

/-! ### Cutting -/
/-- A text cut at each byte 10. -/
def cut1 : List UInt8 → List UInt8 → List (List UInt8)
  | cur, [] => [cur]
  | cur, b :: r => if b = 10 then cur :: cut1 [] r else cut1 (cur ++ [b]) r
/-- A text's lines: a last one that is empty not with them. -/
def lin : List UInt8 → List UInt8 → List (List UInt8)
  | cur, [] => if cur = [] then [] else [cur]
  | cur, b :: r => if b = 10 then cur :: lin [] r else lin (cur ++ [b]) r
/-- A line cut at each ';' with a blank. -/
def cut2 (cur : List UInt8) : List UInt8 → List (List UInt8)
  | [] => [cur]
  | [b] => [cur ++ [b]]
  | a :: b :: r => if a = 59 ∧ b = 32 then cur :: cut2 [] r else cut2 (cur ++ [a]) (b :: r)
termination_by l => l.length
theorem index_cons (c : UInt8) (l sub : List UInt8) (hp : sub.isPrefixOf (c :: l) = false) : Lib.index (c :: l) sub = if Lib.index l sub = -1 then -1 else Lib.index l sub + 1 := by
  rw [Lib.index, hp]
  by_cases h : Lib.index l sub = -1
  · simp [h]
  · simp [h]
theorem cut1_index : ∀ (l cur : List UInt8), cut1 cur l = if Lib.index l [10] = -1 then [cur ++ l] else (cur ++ l.take (Lib.index l [10]).toNat) :: cut1 [] (l.drop ((Lib.index l [10]).toNat + 1))
  | [], cur => by
    have h : Lib.index [] [10] = -1 := rfl
    rw [h, if_pos rfl]
    simp [cut1]
  | b :: r, cur => by
    by_cases hb : b = 10
    · subst hb
      have h : Lib.index (10 :: r) [10] = 0 := by rw [Lib.index]; simp [List.isPrefixOf]
      rw [h, if_neg (by decide)]
      simp [cut1]
    · have hp : ([10] : List UInt8).isPrefixOf (b :: r) = false := by simp [List.isPrefixOf, Ne.symm hb]
      have hx := index_cons b r [10] hp
      have hge := Lib.index_ge r [10]
      rw [cut1, if_neg hb, cut1_index r (cur ++ [b])]
      by_cases h : Lib.index r [10] = -1
      · rw [if_pos h]
        rw [if_pos h] at hx
        rw [if_pos hx]
        simp
      · rw [if_neg h]
        rw [if_neg h] at hx
        rw [if_neg (by omega), hx, show (Lib.index r [10] + 1).toNat = (Lib.index r [10]).toNat + 1 by omega]
        simp
theorem cut2_index (n : Nat) : ∀ (l cur : List UInt8), l.length ≤ n → cut2 cur l = if Lib.index l [59, 32] = -1 then [cur ++ l] else (cur ++ l.take (Lib.index l [59, 32]).toNat) :: cut2 [] (l.drop ((Lib.index l [59, 32]).toNat + 2)) := by
  induction n with
  | zero =>
    intro l cur hl
    have : l = [] := List.length_eq_zero_iff.1 (by omega)
    subst this
    have h : Lib.index [] [59, 32] = -1 := rfl
    rw [h, if_pos rfl]
    simp [cut2]
  | succ n ih =>
    intro l cur hl
    match l, hl with
    | [], _ =>
      have h : Lib.index [] [59, 32] = -1 := rfl
      rw [h, if_pos rfl]
      simp [cut2]
    | [b], _ =>
      have h : Lib.index [b] [59, 32] = -1 := by
        rw [index_cons b [] [59, 32] (by simp [List.isPrefixOf])]
        rfl
      rw [h, if_pos rfl]
      simp [cut2]
    | a :: b :: r, hl =>
      by_cases hab : a = 59 ∧ b = 32
      · obtain ⟨rfl, rfl⟩ := hab
        have h : Lib.index (59 :: 32 :: r) [59, 32] = 0 := by rw [Lib.index]; simp [List.isPrefixOf]
        rw [h, if_neg (by decide), cut2, if_pos ⟨rfl, rfl⟩]
        simp
      · have hp : ([59, 32] : List UInt8).isPrefixOf (a :: b :: r) = false := by
          simp only [List.isPrefixOf, Bool.and_true, Bool.and_eq_false_iff, beq_eq_false_iff_ne, ne_eq]
          by_cases h1 : a = 59
          · exact Or.inr fun q => hab ⟨h1, q.symm⟩
          · exact Or.inl (Ne.symm h1)
        have hx := index_cons a (b :: r) [59, 32] hp
        have hge := Lib.index_ge (b :: r) [59, 32]
        rw [cut2, if_neg hab, ih (b :: r) (cur ++ [a]) (by simp only [List.length_cons] at hl ⊢; omega)]
        by_cases h : Lib.index (b :: r) [59, 32] = -1
        · rw [if_pos h]
          rw [if_pos h] at hx
          rw [if_pos hx]
          simp
        · rw [if_neg h]
          rw [if_neg h] at hx
          rw [if_neg (by omega), hx, show (Lib.index (b :: r) [59, 32] + 1).toNat = (Lib.index (b :: r) [59, 32]).toNat + 1 by omega]
          rw [show (Lib.index (b :: r) [59, 32]).toNat + 1 + 2 = ((Lib.index (b :: r) [59, 32]).toNat + 2) + 1 by omega, List.drop_succ_cons, List.take_succ_cons]
          simp
theorem ext_data (s : ByteArray) (a b : Nat) : (s.extract a b).data.toList = (s.data.toList.drop a).take (b - a) := by
  rw [ByteArray.data_extract, Array.toList_extract, List.extract_eq_take_drop]
theorem splitB_cut (f : List UInt8 → List (List UInt8)) (sep : ByteArray) (h1 : 1 ≤ sep.size) (hf : ∀ l, f l = if Lib.index l sep.data.toList = -1 then [l] else l.take (Lib.index l sep.data.toList).toNat :: f (l.drop ((Lib.index l sep.data.toList).toNat + sep.size))) :
    ∀ (k : Nat) (s : ByteArray), Lib.countB s sep = k → (Lib.splitB sep 0 k s).map (·.data.toList) = f s.data.toList
  | 0, s, hk => by
    rcases Lib.indexB_cases s sep with hix | ⟨i, hix, hroom⟩
    · rw [Lib.splitB_zero, hf, if_pos hix]
      rfl
    · have := Lib.countB_hit s sep i h1 hix
      omega
  | k + 1, s, hk => by
    rcases Lib.indexB_cases s sep with hix | ⟨i, hix, hroom⟩
    · have := Lib.countB_miss s sep hix
      omega
    · have hc := Lib.countB_hit s sep i h1 hix
      have hi' : Lib.index s.data.toList sep.data.toList = (i : Int) := hix
      rw [Lib.splitB_hit sep 0 k s i hix, List.map_cons, splitB_cut f sep h1 hf k _ (by omega), hf s.data.toList, if_neg (by omega), hi', Int.toNat_natCast, ext_data, ext_data]
      simp only [List.drop_zero, Nat.sub_zero, Nat.add_zero]
      congr 2
      rw [List.take_of_length_le]
      rw [List.length_drop, Array.length_toList]
      exact Nat.le_refl _
theorem split1 (s : ByteArray) : (Lib.splitB ⟨#[10]⟩ 0 (Lib.countB s ⟨#[10]⟩) s).map (·.data.toList) = cut1 [] s.data.toList :=
  splitB_cut (cut1 []) ⟨#[10]⟩ (by decide) (fun l => by have h := cut1_index l []; simp only [List.nil_append] at h; exact h) _ s rfl
theorem split2 (s : ByteArray) : (Lib.splitB ⟨#[59, 32]⟩ 0 (Lib.countB s ⟨#[59, 32]⟩) s).map (·.data.toList) = cut2 [] s.data.toList :=
  splitB_cut (cut2 []) ⟨#[59, 32]⟩ (by decide) (fun l => by have h := cut2_index l.length l [] (Nat.le_refl _); simp only [List.nil_append] at h; exact h) _ s rfl
theorem suf_one (q : List UInt8) (x : UInt8) : Lib.hasSuffix (q ++ [x]) [10] = (x == 10) := by
  unfold Lib.hasSuffix
  simp [List.isSuffixOf, List.isPrefixOf, Bool.beq_comm]
theorem trim_cons (b : UInt8) (r : List UInt8) (h : r ≠ []) : Lib.trimSuffix (b :: r) [10] = b :: Lib.trimSuffix r [10] := by
  obtain ⟨q, x, rfl⟩ := (List.eq_nil_or_concat r).resolve_left h
  rw [List.concat_eq_append]
  unfold Lib.trimSuffix
  rw [suf_one, show b :: (q ++ [x]) = (b :: q) ++ [x] from rfl, suf_one]
  by_cases hx : x = 10
  · subst hx
    simp
  · rw [if_neg (by simpa using hx), if_neg (by simpa using hx)]
    rfl
theorem lin_cut : ∀ (l cur : List UInt8), l ≠ [] → lin cur l = cut1 cur (Lib.trimSuffix l [10])
  | [], _, h => absurd rfl h
  | [b], cur, _ => by
    by_cases hb : b = 10
    · subst hb
      have : Lib.trimSuffix [10] [10] = [] := by decide
      rw [this]
      simp [lin, cut1]
    · have : Lib.trimSuffix [b] [10] = [b] := by
        unfold Lib.trimSuffix
        rw [show ([b] : List UInt8) = [] ++ [b] from rfl, suf_one, if_neg (by simpa using hb)]
      rw [this]
      simp [lin, cut1, hb]
  | b :: c :: r, cur, _ => by
    rw [trim_cons b (c :: r) (by simp), lin, cut1]
    by_cases hb : b = 10
    · rw [if_pos hb, if_pos hb, lin_cut (c :: r) [] (by simp)]
    · rw [if_neg hb, if_neg hb, lin_cut (c :: r) _ (by simp)]
theorem ba_ext {a b : ByteArray} (h : a.data.toList = b.data.toList) : a = b := by
  have := Array.toList_inj.1 h
  cases a
  cases b
  simp_all
theorem map_data_inj : ∀ {a b : List ByteArray}, a.map (·.data.toList) = b.map (·.data.toList) → a = b
  | [], [], _ => rfl
  | [], _ :: _, h => by simp at h
  | _ :: _, [], h => by simp at h
  | x :: a, y :: b, h => by
    simp only [List.map_cons, List.cons.injEq] at h
    rw [ba_ext h.1, map_data_inj h.2]
end Go.Proofs.YtfebhemdpbnebaaDoor.Hand
