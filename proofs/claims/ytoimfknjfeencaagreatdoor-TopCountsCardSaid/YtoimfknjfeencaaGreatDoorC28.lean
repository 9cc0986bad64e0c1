/- Part of the walk of a law of the top, and what it leans on (PlainP, AliveText, Alive, Short, TopM, Queued, Counts, Arr4, Counts2). No conditions beyond those that each lemma names. -/
import Derived.Test.YtoimfknjfeencaaGreatDoorZ05
import Derived.Test.YtoimfknjfeencaaGreatDoorC27
import Derived.Test.YtoimfknjfeencaaGreatDoorZ09
import Derived.Test.YtoimfknjfeencaaGreatDoorC26
import Derived.Test.YtoimfknjfeencaaGreatDoorZ07
import Derived.Test.YtoimfknjfeencaaGreatDoorZ08
import Derived.Test.YtoimfknjfeencaaGreatDoorZ17
import Derived.Test.YtoimfknjfeencaaGreatDoorZ06
import Derived.Lib.AtoiTie
import Derived.Lib.ItoaLen
import Derived.Lib.IndexBytes
set_option linter.unusedVariables false
set_option linter.unusedSimpArgs false
set_option maxHeartbeats 8000000
set_option maxRecDepth 100000
section
namespace Go.Proofs.YtoimfknjfeencaaGreatDoor.Hand
open Go.RowKit Go.Proofs.YtoimfknjfeencaaGreatDoorW.PrintWords Go.Proofs.YtoimfknjfeencaaGreatDoorW.PrintLast Go.Proofs.YtoimfknjfeencaaGreatDoorW.PrintMore
theorem decDigits_ne (u : Nat) : Lib.decDigits u ≠ [] := by
 rw [Lib.decDigits]
 split <;> simp
theorem digitVal_of (d : Nat) (h : d < 10) : Lib.digitVal (UInt8.ofNat (48 + d)) = some d := by
 unfold Lib.digitVal
 have e : (UInt8.ofNat (48 + d)).toNat = 48 + d := by simp only [UInt8.toNat_ofNat']; omega
 rw [e, if_pos (by omega)]
 congr 1
 omega
theorem decFrom_append : ∀ (l : List UInt8) (acc n d : Nat) (b : UInt8), Lib.decFrom acc l = some n → Lib.digitVal b = some d → Lib.decFrom acc (l ++ [b]) = some (n * 10 + d)
 | [], acc, n, d, b, h, hb => by
  simp only [Lib.decFrom, Option.some.injEq] at h
  subst h
  simp [Lib.decFrom, hb]
 | a :: t, acc, n, d, b, h, hb => by
  simp only [Lib.decFrom, List.cons_append] at h ⊢
  cases ha : Lib.digitVal a with
  | none => simp [ha] at h
  | some e =>
   simp only [ha] at h ⊢
   exact decFrom_append t _ n d b h hb
theorem dec_digits (u : Nat) : Lib.decFrom 0 (Lib.decDigits u) = some u := by
 induction u using Nat.strongRecOn with
 | _ u ih =>
  by_cases hu : u < 10
  ·rw [Lib.decDigits_one hu]
   simp only [Lib.decFrom, digitVal_of u hu]
   simp
  ·rw [Lib.decDigits, dif_neg hu, decFrom_append _ _ (u / 10) (u % 10) _ (ih (u / 10) (by omega)) (digitVal_of _ (by omega))]
   congr 1
   omega
theorem dig_len (m : Nat) : ∀ u, u < 10 ^ (m + 1) → (Lib.decDigits u).length ≤ m + 1 := by
 induction m with
 | zero =>
  intro u h
  rw [Lib.decDigits_one (by simpa using h)]
  simp
 | succ m ih =>
  intro u h
  by_cases hu : u < 10
  ·rw [Lib.decDigits_one hu]
   simp
  ·rw [Lib.decDigits, dif_neg hu, List.length_append]
   have := ih (u / 10) (by rw [Nat.pow_succ] at h; omega)
   simp only [List.length_cons, List.length_nil]
   omega
theorem itoa_pos (n : Int) (h0 : 0 ≤ n) : Lib.itoa n = Lib.decDigits n.toNat := by
 unfold Lib.itoa
 rw [if_neg (by omega)]
theorem itoa_len (n : Int) (h0 : 0 ≤ n) (h1 : n ≤ 999999) : (Lib.itoa n).length ≤ 6 := by
 rw [itoa_pos n h0]
 exact dig_len 5 _ (by omega)
theorem atoi_itoa (n : Int) (h0 : 0 ≤ n) : Lib.atoi (Lib.itoa n) = some n := by
 rw [itoa_pos n h0]
 have hd := dec_digits n.toNat
 cases hl : Lib.decDigits n.toNat with
 | nil => exact absurd hl (decDigits_ne _)
 | cons b r =>
  rw [hl] at hd
  obtain ⟨d, hb⟩ := Lib.digit_of_decFrom _ _ _ hd 0 b rfl
  have h45 : b ≠ 45 := by
   rintro rfl
   simp [Lib.digitVal] at hb
  have h43 : b ≠ 43 := by
   rintro rfl
   simp [Lib.digitVal] at hb
  unfold Lib.atoi
  simp only []
  rw [if_neg (by simpa using h45), if_neg (by simpa using h43)]
  unfold Lib.decNat
  rw [if_neg (by simp), hd]
  simp only [Option.map_some]
  congr 1
  omega
theorem atoiAll_itoa (n : Int) (h0 : 0 ≤ n) (h1 : n ≤ 999999) : Lib.atoiAll (Lib.itoa n) = .ok n := by
 rw [Lib.atoiAll_short _ (by have := itoa_len n h0 h1; omega), atoi_itoa n h0]
 rfl
def numv (l : List UInt8) : Option Int := match Lib.atoiAll l with
 | .ok n => if n < 0 ∨ 999999 < n ∨ Lib.itoa n ≠ l then none else some n
 | _ => none
theorem numv_iff (l : List UInt8) (n : Int) : numv l = some n ↔ 0 ≤ n ∧ n ≤ 999999 ∧ l = Lib.itoa n := by
 constructor
 ·intro h
  unfold numv at h
  split at h
  ·split at h
   ·cases h
   ·rename_i hc
    cases h
    refine ⟨?_, ?_, ?_⟩
    ·exact Int.not_lt.1 fun q => hc (Or.inl q)
    ·exact Int.not_lt.1 fun q => hc (Or.inr (Or.inl q))
    ·exact (Classical.not_not.1 fun q => hc (Or.inr (Or.inr q))).symm
  ·cases h
 ·rintro ⟨h0, h1, rfl⟩
  unfold numv
  rw [atoiAll_itoa n h0 h1]
  simp only []
  rw [if_neg (fun q => q.elim (by omega) (fun q => q.elim (by omega) (fun q => q rfl)))]
def actv (l : List UInt8) : Int × Int × Int := match kindOf (Lib.cut l [32]).1 with
 | none => (0, 0, 8)
 | some k => if (Lib.cut l [32]).2.1 = [] then (0, 0, 8) else match numv (Lib.cut l [32]).2.1 with
  | none => (0, 0, 9)
  | some n => if isActP k n = true then (k, n, 0) else (0, 0, 3)
theorem act_f (s : ByteArray) (h : s.size ≤ 4096) : prog_act.f s = some (actv s.data.toList) := by
 unfold prog_act.f actv
 rw [if_pos h]
 congr 1
 cases kindOf (Lib.cut s.data.toList [32]).1 with
 | none => rfl
 | some k =>
  simp only []
  by_cases hr : (Lib.cut s.data.toList [32]).2.1 = []
  ·rw [if_pos hr, if_pos hr]
  ·rw [if_neg hr, if_neg hr]
   unfold numv
   cases Lib.atoiAll (Lib.cut s.data.toList [32]).2.1 with
   | ok n =>
    simp only []
    by_cases hc : n < 0 ∨ 999999 < n ∨ Lib.itoa n ≠ (Lib.cut s.data.toList [32]).2.1
    ·rw [if_pos hc, if_pos hc]
    ·rw [if_neg hc, if_neg hc]
   | range => rfl
   | _ => rfl
def cut1 : List UInt8 → List UInt8 → List (List UInt8)
 | cur, [] => [cur]
 | cur, b :: r => if b = 10 then cur :: cut1 [] r else cut1 (cur ++ [b]) r
def cut2 (cur : List UInt8) : List UInt8 → List (List UInt8)
 | [] => [cur]
 | [b] => [cur ++ [b]]
 | a :: b :: r => if a = 59 ∧ b = 32 then cur :: cut2 [] r else cut2 (cur ++ [a]) (b :: r)
termination_by l => l.length
theorem index_cons (c : UInt8) (l sub : List UInt8) (hp : sub.isPrefixOf (c :: l) = false) : Lib.index (c :: l) sub = if Lib.index l sub = -1 then -1 else Lib.index l sub + 1 := by
 rw [Lib.index, hp]
 by_cases h : Lib.index l sub = -1
 ·simp [h]
 ·simp [h]
theorem cut1_index : ∀ (l cur : List UInt8), cut1 cur l = if Lib.index l [10] = -1 then [cur ++ l] else (cur ++ l.take (Lib.index l [10]).toNat) :: cut1 [] (l.drop ((Lib.index l [10]).toNat + 1))
 | [], cur => by
  have h : Lib.index [] [10] = -1 := rfl
  rw [h, if_pos rfl]
  simp [cut1]
 | b :: r, cur => by
  by_cases hb : b = 10
  ·subst hb
   have h : Lib.index (10 :: r) [10] = 0 := by rw [Lib.index]; simp [List.isPrefixOf]
   rw [h, if_neg (by decide)]
   simp [cut1]
  ·have hp : ([10] : List UInt8).isPrefixOf (b :: r) = false := by simp [List.isPrefixOf, Ne.symm hb]
   have hx := index_cons b r [10] hp
   have hge := Lib.index_ge r [10]
   rw [cut1, if_neg hb, cut1_index r (cur ++ [b])]
   by_cases h : Lib.index r [10] = -1
   ·rw [if_pos h]
    rw [if_pos h] at hx
    rw [if_pos hx]
    simp
   ·rw [if_neg h]
    rw [if_neg h] at hx
    rw [if_neg (by omega), hx, show (Lib.index r [10] + 1).toNat = (Lib.index r [10]).toNat + 1 by omega]
    simp
theorem cut2_index (n : Nat) : ∀ (l cur : List UInt8), l.length ≤ n → cut2 cur l = if Lib.index l [59, 32] = -1 then [cur ++ l] else (cur ++ l.take (Lib.index l [59, 32]).toNat) :: cut2 [] (l.drop ((Lib.index l [59, 32]).toNat + 2)) := by
 induction n with
 | zero =>
  intro l cur hl
  have : l = [] := List.length_eq_zero_iff.1 (by omega)
  subst this
  have h : Lib.index [] [59, 32] = -1 := rfl
  rw [h, if_pos rfl]
  simp [cut2]
 | succ n ih =>
  intro l cur hl
  match l, hl with
  | [], _ =>
   have h : Lib.index [] [59, 32] = -1 := rfl
   rw [h, if_pos rfl]
   simp [cut2]
  | [b], _ =>
   have h : Lib.index [b] [59, 32] = -1 := by
    rw [index_cons b [] [59, 32] (by simp [List.isPrefixOf])]
    rfl
   rw [h, if_pos rfl]
   simp [cut2]
  | a :: b :: r, hl =>
   by_cases hab : a = 59 ∧ b = 32
   ·obtain ⟨rfl, rfl⟩ := hab
    have h : Lib.index (59 :: 32 :: r) [59, 32] = 0 := by rw [Lib.index]; simp [List.isPrefixOf]
    rw [h, if_neg (by decide), cut2, if_pos ⟨rfl, rfl⟩]
    simp
   ·have hp : ([59, 32] : List UInt8).isPrefixOf (a :: b :: r) = false := by
     simp only [List.isPrefixOf, Bool.and_true, Bool.and_eq_false_iff, beq_eq_false_iff_ne, ne_eq]
     by_cases h1 : a = 59
     ·exact Or.inr fun q => hab ⟨h1, q.symm⟩
     ·exact Or.inl (Ne.symm h1)
    have hx := index_cons a (b :: r) [59, 32] hp
    have hge := Lib.index_ge (b :: r) [59, 32]
    rw [cut2, if_neg hab, ih (b :: r) (cur ++ [a]) (by simp only [List.length_cons] at hl ⊢; omega)]
    by_cases h : Lib.index (b :: r) [59, 32] = -1
    ·rw [if_pos h]
     rw [if_pos h] at hx
     rw [if_pos hx]
     simp
    ·rw [if_neg h]
     rw [if_neg h] at hx
     rw [if_neg (by omega), hx, show (Lib.index (b :: r) [59, 32] + 1).toNat = (Lib.index (b :: r) [59, 32]).toNat + 1 by omega]
     rw [show (Lib.index (b :: r) [59, 32]).toNat + 1 + 2 = ((Lib.index (b :: r) [59, 32]).toNat + 2) + 1 by omega, List.drop_succ_cons, List.take_succ_cons]
     simp
theorem ext_data (s : ByteArray) (a b : Nat) : (s.extract a b).data.toList = (s.data.toList.drop a).take (b - a) := by
 rw [ByteArray.data_extract, Array.toList_extract, List.extract_eq_take_drop]
theorem splitB_cut (f : List UInt8 → List (List UInt8)) (sep : ByteArray) (h1 : 1 ≤ sep.size) (hf : ∀ l, f l = if Lib.index l sep.data.toList = -1 then [l] else l.take (Lib.index l sep.data.toList).toNat :: f (l.drop ((Lib.index l sep.data.toList).toNat + sep.size))) :
  ∀ (k : Nat) (s : ByteArray), Lib.countB s sep = k → (Lib.splitB sep 0 k s).map (·.data.toList) = f s.data.toList
 | 0, s, hk => by
  rcases Lib.indexB_cases s sep with hix | ⟨i, hix, hroom⟩
  ·rw [Lib.splitB_zero, hf, if_pos hix]
   rfl
  ·have := Lib.countB_hit s sep i h1 hix
   omega
 | k + 1, s, hk => by
  rcases Lib.indexB_cases s sep with hix | ⟨i, hix, hroom⟩
  ·have := Lib.countB_miss s sep hix
   omega
  ·have hc := Lib.countB_hit s sep i h1 hix
   have hi' : Lib.index s.data.toList sep.data.toList = (i : Int) := hix
   rw [Lib.splitB_hit sep 0 k s i hix, List.map_cons, splitB_cut f sep h1 hf k _ (by omega), hf s.data.toList, if_neg (by omega), hi', Int.toNat_natCast, ext_data, ext_data]
   simp only [List.drop_zero, Nat.sub_zero, Nat.add_zero]
   congr 2
   rw [List.take_of_length_le]
   rw [List.length_drop, Array.length_toList]
   exact Nat.le_refl _
theorem split1 (s : ByteArray) : (Lib.splitB ⟨#[10]⟩ 0 (Lib.countB s ⟨#[10]⟩) s).map (·.data.toList) = cut1 [] s.data.toList :=
 splitB_cut (cut1 []) ⟨#[10]⟩ (by decide) (fun l => by have h := cut1_index l []; simp only [List.nil_append] at h; exact h) _ s rfl
theorem split2 (s : ByteArray) : (Lib.splitB ⟨#[59, 32]⟩ 0 (Lib.countB s ⟨#[59, 32]⟩) s).map (·.data.toList) = cut2 [] s.data.toList :=
 splitB_cut (cut2 []) ⟨#[59, 32]⟩ (by decide) (fun l => by have h := cut2_index l.length l [] (Nat.le_refl _); simp only [List.nil_append] at h; exact h) _ s rfl
theorem ba_ext {a b : ByteArray} (h : a.data.toList = b.data.toList) : a = b := by
 have := Array.toList_inj.1 h
 cases a
 cases b
 simp_all
theorem map_data_inj : ∀ {a b : List ByteArray}, a.map (·.data.toList) = b.map (·.data.toList) → a = b
 | [], [], _ => rfl
 | [], _ :: _, h => by simp at h
 | _ :: _, [], h => by simp at h
 | x :: a, y :: b, h => by
  simp only [List.map_cons, List.cons.injEq] at h
  rw [ba_ext h.1, map_data_inj h.2]
end Go.Proofs.YtoimfknjfeencaaGreatDoor.Hand
end
section
namespace Go.Proofs.YtoimfknjfeencaaGreatDoor.Hand
open Go Go.RowKit Go.Proofs.YtoimfknjfeencaaGreatDoorW.PrintWords Go.Proofs.YtoimfknjfeencaaGreatDoorW.PrintLast Go.Proofs.YtoimfknjfeencaaGreatDoorW.PrintMore
theorem split_some (s : ByteArray) (h : s.size ≤ 4096) (sep : ByteArray) (h1 : 1 ≤ sep.size) : strings_Split.f s sep = some (Lib.splitB sep 0 (Lib.countB s sep) s) := by
 unfold strings_Split.f
 rw [if_pos ⟨h, h1⟩]
theorem numv_one (n : Int) (h0 : 0 ≤ n) (h1 : n < 10) (b : UInt8) (hb : b = UInt8.ofNat (48 + n.toNat)) : numv [b] = some n := by
 refine (numv_iff _ _).2 ⟨h0, by omega, ?_⟩
 rw [itoa_pos n h0, Lib.decDigits_one (by omega), hb]
theorem act_lock : actv [108, 111, 99, 107, 32, 48] = (0, 0, 0) := by
 unfold actv
 have hc : Lib.cut [108, 111, 99, 107, 32, 48] [32] = (kLock, [48], true) := by decide
 rw [hc]
 simp only []
 rw [show kindOf kLock = some 0 by decide]
 simp only []
 rw [if_neg (by decide), numv_one 0 (by decide) (by decide) 48 rfl]
 rfl
theorem act_work : actv [119, 111, 114, 107, 32, 50] = (3, 2, 0) := by
 unfold actv
 have hc : Lib.cut [119, 111, 114, 107, 32, 50] [32] = (kWork, [50], true) := by decide
 rw [hc]
 simp only []
 rw [show kindOf kWork = some 3 by decide]
 simp only []
 rw [if_neg (by decide), numv_one 2 (by decide) (by decide) 50 rfl]
 rfl
theorem act_unlock : actv [117, 110, 108, 111, 99, 107, 32, 48] = (2, 0, 0) := by
 unfold actv
 have hc : Lib.cut [117, 110, 108, 111, 99, 107, 32, 48] [32] = (kUnlock, [48], true) := by decide
 rw [hc]
 simp only []
 rw [show kindOf kUnlock = some 2 by decide]
 simp only []
 rw [if_neg (by decide), numv_one 0 (by decide) (by decide) 48 rfl]
 rfl
def three : ByteArray := ⟨#[108, 111, 99, 107, 32, 48, 59, 32, 119, 111, 114, 107, 32, 50, 59, 32, 117, 110, 108, 111, 99, 107, 32, 48]⟩
def pieces3 : List ByteArray := [⟨#[108, 111, 99, 107, 32, 48]⟩, ⟨#[119, 111, 114, 107, 32, 50]⟩, ⟨#[117, 110, 108, 111, 99, 107, 32, 48]⟩]
theorem acts3 (k : Nat) : prog_acts.f (k + 4) pieces3 = some ([(⟨0, 0⟩ : S49), ⟨3, 2⟩, ⟨2, 0⟩], 0) := by
 unfold prog_acts.f
 have e0 : rdOf ByteArray.empty pieces3 0 = ⟨#[108, 111, 99, 107, 32, 48]⟩ := rfl
 have e1 : rdOf ByteArray.empty pieces3 1 = ⟨#[119, 111, 114, 107, 32, 50]⟩ := rfl
 have e2 : rdOf ByteArray.empty pieces3 2 = ⟨#[117, 110, 108, 111, 99, 107, 32, 48]⟩ := rfl
 have hl : (pieces3.length : Int) = 3 := rfl
 have a0 : prog_act.f ⟨#[108, 111, 99, 107, 32, 48]⟩ = some (0, 0, 0) := (act_f _ (by decide)).trans (congrArg some act_lock)
 have a1 : prog_act.f ⟨#[119, 111, 114, 107, 32, 50]⟩ = some (3, 2, 0) := (act_f _ (by decide)).trans (congrArg some act_work)
 have a2 : prog_act.f ⟨#[117, 110, 108, 111, 99, 107, 32, 48]⟩ = some (2, 0, 0) := (act_f _ (by decide)).trans (congrArg some act_unlock)
 have w1 : wrap64 (0 + 1) = 1 := by (unfold wrap64; omega)
 have w2 : wrap64 (1 + 1) = 2 := by (unfold wrap64; omega)
 have w3 : wrap64 (2 + 1) = 3 := by (unfold wrap64; omega)
 rw [hl]
 simp only [prog_acts.l0, e0, e1, e2, a0, a1, a2, w1, w2, w3, hl, Option.bind_some]
 simp
theorem parse3 (k : Nat) : prog_Parse.f (k + 10) three = some ([[(⟨0, 0⟩ : S49), ⟨3, 2⟩, ⟨2, 0⟩]], 0, 0) := by
 unfold prog_Parse.f
 have hne : ¬ three.toList = ([] : List UInt8) := by rw [Lib.toList_data]; decide
 have hts : strings_TrimSuffix.f three (⟨#[10]⟩ : ByteArray) = some three := by
  unfold strings_TrimSuffix.f
  rw [if_pos (by decide)]
  rfl
 have hs1 : Lib.splitB ⟨#[10]⟩ 0 (Lib.countB three ⟨#[10]⟩) three = [three] := map_data_inj ((split1 three).trans (by decide))
 have hs2 : Lib.splitB ⟨#[59, 32]⟩ 0 (Lib.countB three ⟨#[59, 32]⟩) three = pieces3 := map_data_inj ((split2 three).trans (by simp [three, pieces3, cut2]))
 rw [if_neg (by decide), if_neg hne, hts]
 simp only [Option.bind_some]
 rw [split_some _ (by decide) _ (by decide), hs1]
 simp only [Option.bind_some, prog_Parse.j0]
 have hl : (([three] : List ByteArray).length : Int) = 1 := rfl
 have e0 : rdOf ByteArray.empty [three] 0 = three := rfl
 have w1 : wrap64 (0 + 1) = 1 := by (unfold wrap64; omega)
 rw [hl]
 simp only [prog_Parse.l0, e0, hne, split_some three (by decide) ⟨#[59, 32]⟩ (by decide), hs2, Option.bind_some, acts3, w1, hl, if_false]
 simp
def aliveL : List (List M.Act) := [[⟨0, 0⟩, ⟨3, 2⟩, ⟨2, 0⟩]]
theorem alive_done : doneB (goW (M.new aliveL) [(0, 0), (0, 0), (0, 0), (0, 0)]) = true := by decide +kernel
theorem alive_len : (goH (M.new aliveL) 0 [(0, 0), (0, 0), (0, 0), (0, 0)]).length = 2 := by decide +kernel
theorem alive_ok : okPs (aliveL.map (·.map toS)) = true := by decide
def TrueOk (w : World) (e : Ending) (w' : World) : Prop := e = .returned (.bool true) ∧ Below w.heap.size w w'
theorem zeros_C {W : World} {g t : Nat} (hg : W.heap[g]? = some (.cells #[.int .i64 0, .int .i64 0, .int .i64 0, .int .i64 0] t (0, 0))) : (Kd.int .i64).C W (some ⟨g, 0, none⟩) 4 [0, 0, 0, 0] := ints_C (l := [0, 0, 0, 0]) hg (fun i x h => by
 have hi := (List.getElem?_eq_some_iff.1 h).1
 simp at hi
 match i, hi with
 | 0, _ => cases h; rfl
 | 1, _ => cases h; rfl
 | 2, _ => cases h; rfl
 | 3, _ => cases h; rfl) (by simp)
theorem alive7 (w : World) (hL : Laid w) : Calls Tryz.prog 7 #[] w (TrueOk w) := by
 have P1 := ak_ (prog_Parse.calls (0 + 10) three _ _ _ w (parse3 0) hL)
 have hu := Tryz.underlying29
 unfold three at P1
 clear hL
 go_enter Tryz.func7, Tryz.ntmps7
 go_wp2_with fail
 refine P1.out.mono ?_
 rintro e w2 ⟨v, rfl, hS, hb2⟩
 obtain ⟨A, c, rfl, hl, hF⟩ := Kd.S_V hS (base' := 0)
 have hV : Kd.V (Kd.slice 49 k49) 47 w2 0 (fun _ => True) (.slice A 1 c) [[(⟨0, 0⟩ : S49), ⟨3, 2⟩, ⟨2, 0⟩]] := ⟨A, c, rfl, hl, hF⟩
 have HB2 := ak_ (bel2 hb2 (.cells #[.int .i64 0, .int .i64 0, .int .i64 0, .int .i64 0] 3))
 have HK := (Kept.refl w2 (fun _ => False)).alloc (.cells #[.int .i64 0, .int .i64 0, .int .i64 0, .int .i64 0] 3)
 have PP := play_calls A c aliveL (w2.alloc (.cells #[.int .i64 0, .int .i64 0, .int .i64 0, .int .i64 0] 3)) (fun _ => False) (fun W hk => CC_of (Kd.C_kept_ownV hV (fun _ _ q => q) W (HK.then_ hk (fun _ q => .inl q)))) (fun b q => q.elim) hl alive_ok (some ⟨w2.heap.size, 0, none⟩) 4 [0, 0, 0, 0] (by decide) (zeros_C (blk_new w2 _)) (by decide)
 have hpk : [0, 0, 0, 0].map pickOf = [(0, 0), (0, 0), (0, 0), (0, 0)] := by decide
 rw [hpk] at PP
 have P2 : Aside0 (Calls Tryz.prog 14 #[.slice A 1 c, .slice (some ⟨w2.heap.size, 0, none⟩) 4 4] (w2.alloc (.cells #[.int .i64 0, .int .i64 0, .int .i64 0, .int .i64 0] 3)) (PlayOk (fun _ => False) (M.new aliveL) [(0, 0), (0, 0), (0, 0), (0, 0)] (w2.alloc (.cells #[.int .i64 0, .int .i64 0, .int .i64 0, .int .i64 0] 3)))) := ⟨PP⟩
 clear hb2 hS hV hF PP HK P1 hl hpk
 simp only [List.length_cons, List.length_nil]
 go_wp2_with fail
 refine P2.out.mono ?_
 rintro e w3 ⟨a0, a1, a2, a3, a4, a5, Ae, ce, rfl, hb3, Ap, Ac, Am, At, cp, cc, cm, ct, e7, hP⟩
 obtain ⟨rfl, rfl, rfl, rfl, rfl, rfl⟩ := wv_inj e7
 have g0 : M.Good (goW (M.new aliveL) [(0, 0), (0, 0), (0, 0), (0, 0)]) := good_go (fun p hp => by
  simp at hp
  rw [hp]
  exact .inl ⟨rfl, by decide, by decide⟩) (good_new alive_ok)
 have hd0 := alive_done
 rw [alive_len]
 obtain ⟨y, hy⟩ : ∃ y, y = goW (M.new aliveL) [(0, 0), (0, 0), (0, 0), (0, 0)] := ⟨_, rfl⟩
 rw [← hy] at hP g0 hd0 ⊢
 have HB3 := ak_ (bel2 (bel3 HB2.out hb3) (.cells #[.int .i64 y.now, .slice Ap y.cl.length cp, .slice Ac y.cl.length cc, .slice Am y.mu.length cm, .slice At (tableOf y.sem).length ct, .int .i64 y.stop] 29))
 have HT3 := ak_ (blk_new w3 (.cells #[.int .i64 y.now, .slice Ap y.cl.length cp, .slice Ac y.cl.length cc, .slice Am y.mu.length cm, .slice At (tableOf y.sem).length ct, .int .i64 y.stop] 29))
 have PD := done19 y g0 (wv y Ap Ac Am At cp cc cm ct) (w3.alloc (.cells #[.int .i64 y.now, .slice Ap y.cl.length cp, .slice Ac y.cl.length cc, .slice Am y.mu.length cm, .slice At (tableOf y.sem).length ct, .int .i64 y.stop] 29)) ⟨Ap, Ac, Am, At, cp, cc, cm, ct, rfl, hP _ ((Kept.refl w3 (fun _ => False)).alloc (.cells #[.int .i64 y.now, .slice Ap y.cl.length cp, .slice Ac y.cl.length cc, .slice Am y.mu.length cm, .slice At (tableOf y.sem).length ct, .int .i64 y.stop] 29))⟩
 rw [hd0] at PD
 unfold wv at PD
 have P3 := ak_ PD
 clear e7 hb3 hP g0 hd0 hy PD P2 HB2
 go_upto_region 3 with fail
 have v0 : (w3.alloc (.cells #[.int .i64 y.now, .slice Ap y.cl.length cp, .slice Ac y.cl.length cc, .slice Am y.mu.length cm, .slice At (tableOf y.sem).length ct, .int .i64 y.stop] 29)).cell? ⟨w3.heap.size, 0, none⟩ = some (.int .i64 y.now) := blk_cell HT3.out 0
 have v1 : (w3.alloc (.cells #[.int .i64 y.now, .slice Ap y.cl.length cp, .slice Ac y.cl.length cc, .slice Am y.mu.length cm, .slice At (tableOf y.sem).length ct, .int .i64 y.stop] 29)).cell? ⟨w3.heap.size, 1, none⟩ = some (.slice Ap y.cl.length cp) := blk_cell HT3.out 1
 have v2 : (w3.alloc (.cells #[.int .i64 y.now, .slice Ap y.cl.length cp, .slice Ac y.cl.length cc, .slice Am y.mu.length cm, .slice At (tableOf y.sem).length ct, .int .i64 y.stop] 29)).cell? ⟨w3.heap.size, 2, none⟩ = some (.slice Ac y.cl.length cc) := blk_cell HT3.out 2
 have v3 : (w3.alloc (.cells #[.int .i64 y.now, .slice Ap y.cl.length cp, .slice Ac y.cl.length cc, .slice Am y.mu.length cm, .slice At (tableOf y.sem).length ct, .int .i64 y.stop] 29)).cell? ⟨w3.heap.size, 3, none⟩ = some (.slice Am y.mu.length cm) := blk_cell HT3.out 3
 have v4 : (w3.alloc (.cells #[.int .i64 y.now, .slice Ap y.cl.length cp, .slice Ac y.cl.length cc, .slice Am y.mu.length cm, .slice At (tableOf y.sem).length ct, .int .i64 y.stop] 29)).cell? ⟨w3.heap.size, 4, none⟩ = some (.slice At (tableOf y.sem).length ct) := blk_cell HT3.out 4
 have v5 : (w3.alloc (.cells #[.int .i64 y.now, .slice Ap y.cl.length cp, .slice Ac y.cl.length cc, .slice Am y.mu.length cm, .slice At (tableOf y.sem).length ct, .int .i64 y.stop] 29)).cell? ⟨w3.heap.size, 5, none⟩ = some (.int .i64 y.stop) := blk_cell HT3.out 5
 go_wp2_with fail
 refine P3.out.mono ?_
 rintro e w4 ⟨rfl, hb4⟩
 have HB4 := ak_ (bel3 HB3.out hb4)
 clear hb4 P3 HB3
 go_wp2
 go_ret
 exact ⟨rfl, HB4.out⟩
end Go.Proofs.YtoimfknjfeencaaGreatDoor.Hand
end
section
namespace Go.Proofs.YtoimfknjfeencaaGreatDoor.Hand
open Go.RowKit Go.Proofs.YtoimfknjfeencaaGreatDoorW.PrintWords Go.Proofs.YtoimfknjfeencaaGreatDoorW.PrintLast Go.Proofs.YtoimfknjfeencaaGreatDoorW.PrintMore
section
attribute [local go_sem] max2_int min2_int max_two min_two
def upMost (v : Int) : Int := if v < -5000000 then -5000000 else v
def shortOf (l : List Int) (n : Nat) : List Int := (l.take n).map upMost
theorem shortOf_len (l : List Int) (n : Nat) : (shortOf l n).length = min n l.length := by unfold shortOf; rw [List.length_map, List.length_take]
def ShortOk (xs : List Int) (w : World) (e : Ending) (w' : World) : Prop := ∃ v, e = .returned v ∧ Kd.R (Kd.int .i64) 3 w' w.heap.size (fun _ => True) v xs ∧ Below w.heap.size w w'
theorem short8 (A : Option Addr) (c : Nat) (l : List Int) (n : Nat) (w : World) (hC0 : (Kd.int .i64).C w A l.length l) (hc : l.length ≤ c) (hn : n ≤ 1000) :
  Calls Tryz.prog 8 #[.slice A l.length c, .int .i64 n] w (ShortOk (shortOf l n) w) := by
 have hl9 : l.length ≤ 9223372036854775807 := hC0.2.1
 have HC := ak_ hC0
 clear hC0
 by_cases hq : n < l.length
 ·have h1 : (n : Int) < (l.length : Int) := by omega
  have h2 : n ≤ l.length := by omega
  have HE := ak_ (show shortOf l n = (l.take n).map upMost by unfold shortOf; rfl)
  go_enter Tryz.func8, Tryz.ntmps8
  go_wp2
  go_loopg [5, 15] (n) (fun g v5 v15 wx => Aside0 (Below w.heap.size w wx) ∧ ∃ i : Nat, i + g = n ∧ v15 = .int .i64 i ∧ Aside0 (Kd.R (Kd.int .i64) 3 wx w.heap.size (fun _ => True) v5 ((l.take i).map upMost)))
  case atStart => exact ⟨⟨Below.refl _ _⟩, 0, by omega, rfl, ⟨Kd.R_nil _ _ _ _ _⟩⟩
  case round =>
   obtain ⟨HB, i, hig, rfl, HO⟩ := hrel
   cases gk with
   | zero =>
    have hi : i = n := by omega
    have hnot : ¬ ((i : Int) < ((n : Nat) : Int)) := by omega
    subst hi
    go_wp2
    go_ret
    exact ⟨_, rfl, by rw [HE.out]; exact HO.out, HB.out⟩
   | succ go =>
    have hlt : i < l.length := by omega
    obtain ⟨x, hx⟩ : ∃ x, l[i]? = some x := ⟨_, List.getElem?_eq_getElem hlt⟩
    obtain ⟨ad, hea, y0⟩ := int_cells HC.out i x hx
    cases hea
    replace y0 := (HB.out.cell (World.block_lt_of_cell? w _ y0)).trans y0
    have hil : (i : Int) < ((n : Nat) : Int) := by omega
    have hrl : ((l.take i).map upMost).length = i := by rw [List.length_map, List.length_take]; omega
    have HRL := ak_ hrl
    clear hrl
    by_cases hz : x < -5000000
    ·have HEX := ak_ (show (l.take (i + 1)).map upMost = (l.take i).map upMost ++ [-5000000] by
      rw [List.take_succ_eq_append_getElem hlt, List.map_append]
      rw [List.getElem?_eq_getElem hlt] at hx
      cases hx
      simp [upMost, hz])
     clear hx
     go_wp2_with (first | (at_builtin; refine Kd.R_append (Kd.int .i64) (w0 := w) w.heap.size rfl (.tmp 19) (.tmp 22) 23 3 (.int .i64 0) 8 rfl Tryz.underlying23 info3T rfl (by decide) (by omega) _ ((l.take i).map upMost) (-5000000 : Int) [.int .i64 (-5000000)] (fun _ => True) (fun _ => False) rfl ?aX ?aP (fun _ hk => hk.elim) ?aF ?aO ?aB ?aS ?aL ?_; (case aX => simp [Act.eval]); (case aP => exact rfl); (case aB => exact HB.out); (case aF => exact (fun _ _ => trivial)); (case aO => exact HO.out); (case aS => exact HB.out.size); (case aL => rw [HRL.out]; omega); intro v5 w10 ho hb hg hat; have HO5 := ak_ ho; have HB5 := ak_ hb; clear ho hb hg hat))
     go_roundg go
     case rel => exact ⟨HB5, i + 1, by omega, by go_num, ⟨by rw [HEX.out]; exact HO5.out⟩⟩
     case measure => omega
    ·have HEX := ak_ (show (l.take (i + 1)).map upMost = (l.take i).map upMost ++ [x] by
      rw [List.take_succ_eq_append_getElem hlt, List.map_append]
      rw [List.getElem?_eq_getElem hlt] at hx
      cases hx
      simp [upMost, hz])
     clear hx
     go_wp2_with (first | (at_builtin; refine Kd.R_append (Kd.int .i64) (w0 := w) w.heap.size rfl (.tmp 19) (.tmp 22) 23 3 (.int .i64 0) 8 rfl Tryz.underlying23 info3T rfl (by decide) (by omega) _ ((l.take i).map upMost) (x : Int) [.int .i64 (x)] (fun _ => True) (fun _ => False) rfl ?aX ?aP (fun _ hk => hk.elim) ?aF ?aO ?aB ?aS ?aL ?_; (case aX => simp [Act.eval]); (case aP => exact rfl); (case aB => exact HB.out); (case aF => exact (fun _ _ => trivial)); (case aO => exact HO.out); (case aS => exact HB.out.size); (case aL => rw [HRL.out]; omega); intro v5 w10 ho hb hg hat; have HO5 := ak_ ho; have HB5 := ak_ hb; clear ho hb hg hat))
     go_roundg go
     case rel => exact ⟨HB5, i + 1, by omega, by go_num, ⟨by rw [HEX.out]; exact HO5.out⟩⟩
     case measure => omega
 ·have h1 : ¬ ((n : Int) < (l.length : Int)) := by omega
  have HE := ak_ (show shortOf l n = (l.take l.length).map upMost by unfold shortOf; rw [List.take_length, List.take_of_length_le (by omega)])
  go_enter Tryz.func8, Tryz.ntmps8
  go_wp2
  go_loopg [5, 15] (l.length) (fun g v5 v15 wx => Aside0 (Below w.heap.size w wx) ∧ ∃ i : Nat, i + g = l.length ∧ v15 = .int .i64 i ∧ Aside0 (Kd.R (Kd.int .i64) 3 wx w.heap.size (fun _ => True) v5 ((l.take i).map upMost)))
  case atStart => exact ⟨⟨Below.refl _ _⟩, 0, by omega, rfl, ⟨Kd.R_nil _ _ _ _ _⟩⟩
  case round =>
   obtain ⟨HB, i, hig, rfl, HO⟩ := hrel
   cases gk with
   | zero =>
    have hi : i = l.length := by omega
    have hnot : ¬ ((i : Int) < ((l.length : Nat) : Int)) := by omega
    subst hi
    go_wp2
    go_ret
    exact ⟨_, rfl, by rw [HE.out]; exact HO.out, HB.out⟩
   | succ go =>
    have hlt : i < l.length := by omega
    obtain ⟨x, hx⟩ : ∃ x, l[i]? = some x := ⟨_, List.getElem?_eq_getElem hlt⟩
    obtain ⟨ad, hea, y0⟩ := int_cells HC.out i x hx
    cases hea
    replace y0 := (HB.out.cell (World.block_lt_of_cell? w _ y0)).trans y0
    have hil : (i : Int) < ((l.length : Nat) : Int) := by omega
    have hrl : ((l.take i).map upMost).length = i := by rw [List.length_map, List.length_take]; omega
    have HRL := ak_ hrl
    clear hrl
    by_cases hz : x < -5000000
    ·have HEX := ak_ (show (l.take (i + 1)).map upMost = (l.take i).map upMost ++ [-5000000] by
      rw [List.take_succ_eq_append_getElem hlt, List.map_append]
      rw [List.getElem?_eq_getElem hlt] at hx
      cases hx
      simp [upMost, hz])
     clear hx
     go_wp2_with (first | (at_builtin; refine Kd.R_append (Kd.int .i64) (w0 := w) w.heap.size rfl (.tmp 19) (.tmp 22) 23 3 (.int .i64 0) 8 rfl Tryz.underlying23 info3T rfl (by decide) (by omega) _ ((l.take i).map upMost) (-5000000 : Int) [.int .i64 (-5000000)] (fun _ => True) (fun _ => False) rfl ?aX ?aP (fun _ hk => hk.elim) ?aF ?aO ?aB ?aS ?aL ?_; (case aX => simp [Act.eval]); (case aP => exact rfl); (case aB => exact HB.out); (case aF => exact (fun _ _ => trivial)); (case aO => exact HO.out); (case aS => exact HB.out.size); (case aL => rw [HRL.out]; omega); intro v5 w10 ho hb hg hat; have HO5 := ak_ ho; have HB5 := ak_ hb; clear ho hb hg hat))
     go_roundg go
     case rel => exact ⟨HB5, i + 1, by omega, by go_num, ⟨by rw [HEX.out]; exact HO5.out⟩⟩
     case measure => omega
    ·have HEX := ak_ (show (l.take (i + 1)).map upMost = (l.take i).map upMost ++ [x] by
      rw [List.take_succ_eq_append_getElem hlt, List.map_append]
      rw [List.getElem?_eq_getElem hlt] at hx
      cases hx
      simp [upMost, hz])
     clear hx
     go_wp2_with (first | (at_builtin; refine Kd.R_append (Kd.int .i64) (w0 := w) w.heap.size rfl (.tmp 19) (.tmp 22) 23 3 (.int .i64 0) 8 rfl Tryz.underlying23 info3T rfl (by decide) (by omega) _ ((l.take i).map upMost) (x : Int) [.int .i64 (x)] (fun _ => True) (fun _ => False) rfl ?aX ?aP (fun _ hk => hk.elim) ?aF ?aO ?aB ?aS ?aL ?_; (case aX => simp [Act.eval]); (case aP => exact rfl); (case aB => exact HB.out); (case aF => exact (fun _ _ => trivial)); (case aO => exact HO.out); (case aS => exact HB.out.size); (case aL => rw [HRL.out]; omega); intro v5 w10 ho hb hg hat; have HO5 := ak_ ho; have HB5 := ak_ hb; clear ho hb hg hat))
     go_roundg go
     case rel => exact ⟨HB5, i + 1, by omega, by go_num, ⟨by rw [HEX.out]; exact HO5.out⟩⟩
     case measure => omega
end
end Go.Proofs.YtoimfknjfeencaaGreatDoor.Hand
end
section
namespace Go.Proofs.YtoimfknjfeencaaGreatDoor.Hand
open Go Go.RowKit Go.Proofs.YtoimfknjfeencaaGreatDoorW.PrintWords Go.Proofs.YtoimfknjfeencaaGreatDoorW.PrintLast Go.Proofs.YtoimfknjfeencaaGreatDoorW.PrintMore
theorem heap49 : Kd.Heap (Kd.slice 49 k49) := Kd.heap_slice 49 (Kd.heap_iso _ (Kd.heap_pair (Kd.heap_int .i64) (Kd.heap_int .i64)))
def actsOf (l : List (List S49)) : List (List M.Act) := l.map (·.map ofS)
theorem actsOf_len (l : List (List S49)) : (actsOf l).length = l.length := List.length_map _
end Go.Proofs.YtoimfknjfeencaaGreatDoor.Hand
end
section
namespace Go.Proofs.YtoimfknjfeencaaGreatDoor.Hand
open Go.RowKit Go.Proofs.YtoimfknjfeencaaGreatDoorW.PrintWords Go.Proofs.YtoimfknjfeencaaGreatDoorW.PrintLast Go.Proofs.YtoimfknjfeencaaGreatDoorW.PrintMore
def inLine (who : Int) (s : Spot) : Nat := if who ∈ s.line then 1 else 0
def linesOf (who : Int) : List Spot → Nat
 | [] => 0
 | s :: r => inLine who s + linesOf who r
theorem linesOf_append (who : Int) : ∀ (a b : List Spot), linesOf who (a ++ b) = linesOf who a + linesOf who b
 | [], b => by simp [linesOf]
 | s :: r, b => by
  show inLine who s + linesOf who (r ++ b) = inLine who s + linesOf who r + linesOf who b
  rw [linesOf_append who r b]
  omega
theorem linesOf_le (who : Int) : ∀ l : List Spot, linesOf who l ≤ l.length
 | [] => Nat.le_refl _
 | s :: r => by
  have := linesOf_le who r
  have : inLine who s ≤ 1 := by unfold inLine; split <;> omega
  show inLine who s + linesOf who r ≤ r.length + 1
  omega
theorem see26 (a c : Int) (A : Option Addr) (cap : Nat) (l : List Int) (who k : Int) (wb nb B : Nat) (w : World) (hC : (Kd.int .i64).C w A l.length l) (hc : l.length ≤ cap) (hl : l.length ≤ 1000) (hw : w.cell? ⟨wb, 0, none⟩ = some (.int .i64 who)) (hn : w.heap[nb]? = some (.cells #[.int .i64 k] 3 (0, 0))) (hB : B ≤ nb) (hk : 0 ≤ k ∧ k ≤ 1000) :
  Calls Tryz.prog 26 #[.agg #[.int .i64 a, .int .i64 c, .slice A l.length cap], .pointer (some ⟨wb, 0, none⟩), .pointer (some ⟨nb, 0, none⟩)] w fun e w' => e = .returned (.tuple #[]) ∧ w'.heap[nb]? = some (.cells #[.int .i64 (k + (if who ∈ l then 1 else 0))] 3 (0, 0)) ∧ Below B w w' := by
 have hu87 := Tryz.underlying87
 have HN := ak_ (blk_alloc hn (.cells #[.int .i64 a, .int .i64 c, .slice A l.length cap] 87))
 have hz := blk_lt hn
 have HB := ak_ ((Below.refl B w).alloc (by omega) (.cells #[.int .i64 a, .int .i64 c, .slice A l.length cap] 87))
 have HC := ak_ (Kd.C_alloc hC (.cells #[.int .i64 a, .int .i64 c, .slice A l.length cap] 87))
 have HF := ak_ (contains_f l who hl (l.length + 1) (by omega))
 have hwr : IntKind.i64.wrap (k + 1) = k + 1 := by rw [IntKind.wrap_i64]; omega
 have hww : (w.alloc (.cells #[.int .i64 a, .int .i64 c, .slice A l.length cap] 87)).cell? ⟨wb, 0, none⟩ = some (.int .i64 who) := (World.cell?_alloc_some w _ _ (by rw [hw]; rfl)).trans hw
 clear hC hn hw
 go_enter Tryz.func26, Tryz.ntmps26
 go_wp2_with fail
 refine (slices_Contains_int_int.calls _ A cap l who (decide (who ∈ l)) _ HC.out hc HF.out).mono ?_
 rintro e w1 ⟨rfl, nd, rfl⟩
 have HN2 := ak_ (blk_drewN HN.out nd)
 have HB2 := ak_ (pw_below_drewN HB.out nd)
 clear HN HB HC hww
 generalize ((w.alloc (.cells #[.int .i64 a, .int .i64 c, .slice A l.length cap] 87)).drewN nd) = W at *
 have n0 : W.cell? ⟨nb, 0, none⟩ = some (.int .i64 k) := blk_cell HN2.out 0
 have f0 : W.frozen? ⟨nb, 0, none⟩ = false := blk_frozen HN2.out 0
 by_cases q : who ∈ l
 ·rw [decide_eq_true q]
  go_wp2
  go_end0
  exact ⟨rfl, blk_put HN2.out 0 _ rfl, HB2.out.setCell (p := ⟨nb, 0, none⟩) hB _⟩
 ·rw [decide_eq_false q]
  go_wp2
  go_end0
  exact ⟨rfl, HN2.out, HB2.out⟩
theorem queued10 (A : Option Addr) (c : Nat) (t : List Spot) (who : Int) (w : World) (hC0 : kSpot.C w A t.length t) (hc : t.length ≤ c) (h : OkTab t) (h0 : 0 ≤ who) (hl : ∀ s ∈ t, s.line.length ≤ 64) :
  Calls Tryz.prog 10 #[.slice A t.length c, .int .i64 who] w fun e w' => e = .returned (.tuple #[.int .i64 (linesOf who t), .int .i64 0]) ∧ Below w.heap.size w w' := by
 have HC := ak_ hC0
 have ht64 : t.length ≤ 64 := h.len
 have P2 := ak_ (fun w' (hb : Below w.heap.size w w') => rootRight_yes A c t w' (Kd.C_below hC0 hb) hc h)
 have HL := ak_ hl
 clear hC0 h hl
 have hu87 := Tryz.underlying87
 have hmf : ∀ (fn : Fn) (first cap : Array Value) (w : World), (Instr.makeFunc fn first cap).run Tryz.prog w = .ok (.func fn first cap) w := fun _ _ _ _ => rfl
 have hwho : (who < 0) = False := eq_false (by omega)
 have BW := blk_new w (.cells #[.int .i64 who] 3)
 have BB := ak_ (bel2 (Below.refl _ w) (.cells #[.int .i64 who] 3))
 go_enter Tryz.func10, Tryz.ntmps10
 go_wp2_with fail
 refine (P2.out _ BB.out).mono ?_
 rintro e w2 ⟨rfl, hb2⟩
 have BW2 := blk_below BW hb2
 have BB2 := bel3 BB.out hb2
 have x0 : w2.cell? ⟨w.heap.size, 0, none⟩ = some (.int .i64 who) := blk_cell BW2 0
 have HW3 := ak_ (blk_alloc BW2 (.cells #[.int .i64 0] 3))
 have HN3 := ak_ (blk_new w2 (.cells #[.int .i64 0] 3))
 have HB3 := ak_ (bel2 BB2 (.cells #[.int .i64 0] 3))
 have hz2 : w.heap.size < w2.heap.size := blk_lt BW2
 clear hb2 BB BW
 go_wp2
 clear BW2 BB2 x0
 generalize w2.alloc (.cells #[.int .i64 0] 3) = W3 at *
 go_loopg [20] t.length (fun g v20 wx => Aside0 (Below w.heap.size w wx) ∧ ∃ i : Nat, i + g = t.length ∧ v20 = .int .i64 i ∧ Aside0 (wx.heap[w.heap.size]? = some (.cells #[.int .i64 who] 3 (0, 0))) ∧ Aside0 (wx.heap[w2.heap.size]? = some (.cells #[.int .i64 (linesOf who (t.take i))] 3 (0, 0))))
 case atStart => exact ⟨HB3, 0, by omega, rfl, HW3, HN3⟩
 case round =>
  obtain ⟨HB, i, hig, rfl, HW, HN⟩ := hrel
  cases gk with
  | zero =>
   have hi : i = t.length := by omega
   have hnot : ¬ ((i : Int) < (t.length : Int)) := by omega
   subst hi
   have n0 : wr.cell? ⟨w2.heap.size, 0, none⟩ = some (.int .i64 (linesOf who (t.take t.length))) := blk_cell HN.out 0
   rw [List.take_length] at n0
   go_wp2
   go_ret2
   exact ⟨rfl, HB.out⟩
  | succ go =>
   have hlt : i < t.length := by omega
   obtain ⟨s, hs⟩ : ∃ s, t[i]? = some s := ⟨_, List.getElem?_eq_getElem hlt⟩
   obtain ⟨ad, A0, c0, hea, y0, y1, y2, l0, g0⟩ := spot_cells HC.out i s hs
   cases hea
   have hbk := World.block_lt_of_cell? w _ y0
   replace y0 := (HB.out.cell hbk).trans y0
   replace y1 := (HB.out.cell (p := ⟨(ad.add (i * 3)).block, (ad.add (i * 3)).off + 1, none⟩) hbk).trans y1
   replace y2 := (HB.out.cell (p := ⟨(ad.add (i * 3)).block, (ad.add (i * 3)).off + 2, none⟩) hbk).trans y2
   have hil : (i : Int) < (t.length : Int) := by omega
   have hle := linesOf_le who (t.take i)
   rw [List.length_take] at hle
   have HS := ak_ (show linesOf who (t.take (i + 1)) = linesOf who (t.take i) + inLine who s by
    rw [List.take_succ_eq_append_getElem hlt, linesOf_append]
    rw [List.getElem?_eq_getElem hlt] at hs
    cases hs
    simp [linesOf])
   have HSE := ak_ (fun W (hb : Below wr.heap.size wr W) => see26 s.addr s.count A0 c0 s.line who (linesOf who (t.take i)) w.heap.size w2.heap.size w2.heap.size W (Kd.C_below (Kd.C_below g0 HB.out) hb) l0 (by have := HL.out s (List.mem_of_getElem? hs); omega) (blk_cell (blk_below HW.out hb) 0) (blk_below HN.out hb) (Nat.le_refl _) (by omega))
   have HB4 := ak_ (below_alloc (Below.refl wr.heap.size wr) (.cells #[.int .i64 s.addr, .int .i64 s.count, .slice A0 s.line.length c0] 87))
   have HW4 := ak_ (blk_alloc HW.out (.cells #[.int .i64 s.addr, .int .i64 s.count, .slice A0 s.line.length c0] 87))
   clear hs g0 hle
   go_wp2_with fail
   refine (HSE.out _ HB4.out).mono ?_
   rintro e w4 ⟨rfl, hn4, hb4⟩
   have HW5 := ak_ ((hb4.block _ hz2).trans HW4.out)
   have HN5 := ak_ hn4
   have HB5 := ak_ ((bel2 HB.out (.cells #[.int .i64 s.addr, .int .i64 s.count, .slice A0 s.line.length c0] 87)).trans (hb4.mono (by omega)))
   clear hn4 hb4
   go_wp2
   go_roundg go
   case rel => exact ⟨HB5, i + 1, by omega, by go_num, HW5, ⟨by rw [HN5.out, HS.out]; unfold inLine; split <;> simp⟩⟩
   case measure => omega
end Go.Proofs.YtoimfknjfeencaaGreatDoor.Hand
end
section
namespace Go.Proofs.YtoimfknjfeencaaGreatDoor.Hand
open Go.RowKit
def sumL (k : Nat) : List M.Sem → Nat
 | [] => 0
 | s :: r => (if k ∈ s.line then 1 else 0) + sumL k r
theorem in_spot (k : Nat) (s : M.Sem) (m : Nat) : linesOf (k : Int) (spotOf s m) = if k ∈ s.line then 1 else 0 := by
 unfold spotOf
 split
 ·rename_i h
  rw [h.2]
  simp [linesOf]
 ·have e : ((k : Int) ∈ s.line.map Int.ofNat) ↔ k ∈ s.line := by
   rw [List.mem_map]
   exact ⟨fun ⟨a, h, e⟩ => by have e2 : a = k := Int.ofNat.inj e; rw [← e2]; exact h, fun h => ⟨k, h, rfl⟩⟩
  show inLine (k : Int) _ + 0 = _
  unfold inLine
  rw [Nat.add_zero]
  by_cases q : k ∈ s.line
  ·rw [if_pos q, if_pos (e.2 q)]
  ·rw [if_neg q, if_neg (fun h => q (e.1 h))]
theorem lines_from (k : Nat) : ∀ (l : List M.Sem) (m : Nat), linesOf (k : Int) (tableFrom l m) = sumL k l
 | [], m => rfl
 | s :: r, m => by
  unfold tableFrom sumL
  rw [linesOf_append, in_spot, lines_from k r (m + 1)]
theorem mx_n {m : Int} {z : M.PC} (h : M.isL m z = true) : z.cur.n = m := by
 unfold M.isL M.mx at h
 simp only [Bool.and_eq_true, beq_iff_eq] at h
 exact h.1.2
theorem lines_own {x : M.W} (g : M.Good x) {k : Nat} {z : M.PC} (hk : x.cl[k]? = some z) : linesOf (k : Int) (tableOf x.sem) = if M.isL z.cur.n z = true then 1 else 0 := by
 unfold tableOf
 rw [lines_from]
 have hs := g.sem
 have hi := g.inv
 have hm : ∀ m : Nat, m < 4 → (k ∈ (x.sem.getD m default).line ↔ M.isL (m : Int) z = true) := by
  intro m h4
  refine ((hi m h4).line.mem k).trans ?_
  constructor
  ·rintro ⟨y, hy, h⟩
   rw [hk] at hy
   cases hy
   exact h
  ·exact fun h => ⟨z, hk, h⟩
 match hq : x.sem, hs with
 | [s0, s1, s2, s3], _ =>
  rw [hq] at hm
  have h0 := hm 0 (by decide)
  have h1 := hm 1 (by decide)
  have h2 := hm 2 (by decide)
  have h3 := hm 3 (by decide)
  simp only [List.getD_cons_zero, List.getD_cons_succ] at h0 h1 h2 h3
  show sumL k [s0, s1, s2, s3] = _
  unfold sumL sumL sumL sumL sumL
  simp only [h0, h1, h2, h3]
  by_cases q : M.isL z.cur.n z = true
  ·rw [if_pos q]
   have hpc := g.progs k z hk
   have hc := g.c k z hk
   have hr : 0 ≤ z.cur.n ∧ z.cur.n < 4 := by
    have q2 := q
    unfold M.isL M.mx at q2
    simp only [Bool.and_eq_true, decide_eq_true_eq, Bool.not_eq_true', beq_eq_false_iff_ne] at q2
    have := M.cur_ok hpc hc.a0 q2.1.1.1
    have h3 := this.2.2.2.2 q2.1.1.2
    exact ⟨this.2.2.1, by omega⟩
   have key : ∀ m : Int, M.isL m z = true ↔ m = z.cur.n := fun m => ⟨fun h => (mx_n h).symm, fun h => by rw [h]; exact q⟩
   simp only [key]
   rcases (show z.cur.n = 0 ∨ z.cur.n = 1 ∨ z.cur.n = 2 ∨ z.cur.n = 3 by omega) with e | e | e | e <;> rw [e] <;> decide
  ·rw [if_neg q]
   have key : ∀ m : Int, ¬ (M.isL m z = true) := fun m h => q (by rw [mx_n h]; exact h)
   simp [key]
theorem parked_iff {x : M.W} (g : M.Good x) {k : Nat} {z : M.PC} (hk : x.cl[k]? = some z) : z.c.gor.state = 1 ↔ (linesOf (k : Int) (tableOf x.sem) = 1 ∧ z.c.pc = 7) := by
 rw [lines_own g hk]
 have hc := g.c k z hk
 constructor
 ·intro h
  have h7 := hc.park h
  refine ⟨?_, h7⟩
  rw [if_pos]
  rcases hc.pc with h0 | ⟨hlt, ⟨hkd, _⟩ | ⟨_, h9⟩ | ⟨_, h10, _⟩⟩
  ·omega
  ·unfold M.isL M.mx
   simp [h7, h, hkd, hlt]
  ·omega
  ·omega
 ·rintro ⟨h, h7⟩
  by_cases q : M.isL z.cur.n z = true
  ·unfold M.isL at q
   simp only [Bool.and_eq_true, Bool.or_eq_true, beq_iff_eq, h7] at q
   rcases q.2 with ⟨h6, _⟩ | ⟨_, hs⟩
   ·cases h6
   ·exact hs
  ·rw [if_neg q] at h
   cases h
theorem lines_le {x : M.W} (g : M.Good x) {m : Nat} (hm : m < 4) : M.cnt (M.isL m) x.cl ≤ (x.mu.getD m default).word / 8 + 1 := by
 have hw := (g.inv m hm).word
 have hlr : M.cnt (M.isL m) x.cl ≤ M.cnt (M.isR m) x.cl := by
  have : ∀ l : List M.PC, M.cnt (M.isL m) l ≤ M.cnt (M.isR m) l := by
   intro l
   induction l with
   | nil => exact Int.le_refl _
   | cons z r ih =>
    simp only [M.cnt]
    have : M.isL m z = true → M.isR m z = true := by
     unfold M.isL M.isR
     simp only [Bool.and_eq_true, Bool.or_eq_true, beq_iff_eq]
     rintro ⟨h, h2⟩
     exact ⟨h, by rcases h2 with ⟨h, _⟩ | ⟨h, _⟩ <;> simp [h]⟩
    cases hl : M.isL m z with
    | false => have := M.b2i_lo (M.isR m z); rw [show M.b2i false = 0 from rfl]; omega
    | true => rw [this hl]; omega
  exact this x.cl
 by_cases q : (x.mu.getD m default).word / 4 % 2 = 1 ∧ (x.mu.getD m default).word % 2 = 0
 ·have := (hw.hand q.1 q.2).2.2
  omega
 ·obtain ⟨_, h2, h3⟩ := hw.free q
  have := M.cnt_lo (M.isA m) x.cl
  omega
end Go.Proofs.YtoimfknjfeencaaGreatDoor.Hand
end
section
namespace Go.Proofs.YtoimfknjfeencaaGreatDoor.Hand
open Go.RowKit Go.Proofs.YtoimfknjfeencaaGreatDoorW.PrintWords Go.Proofs.YtoimfknjfeencaaGreatDoorW.PrintLast Go.Proofs.YtoimfknjfeencaaGreatDoorW.PrintMore
def arr4 (o : Nat → Int) : Array Value := #[.int .i64 (o 0), .int .i64 (o 1), .int .i64 (o 2), .int .i64 (o 3)]
def up4 (o : Nat → Int) (j : Nat) (v : Int) : Nat → Int := fun i => if i = j then v else o i
theorem arr4_get (o : Nat → Int) : ∀ j : Nat, j < 4 → (arr4 o)[j]? = some (.int .i64 (o j))
 | 0, _ => rfl
 | 1, _ => rfl
 | 2, _ => rfl
 | 3, _ => rfl
theorem arr4_set (o : Nat → Int) (v : Int) : ∀ j : Nat, j < 4 → (arr4 o).setIfInBounds j (.int .i64 v) = arr4 (up4 o j v)
 | 0, _ => rfl
 | 1, _ => rfl
 | 2, _ => rfl
 | 3, _ => rfl
theorem arr4_congr {o o' : Nat → Int} (h : ∀ j : Nat, j < 4 → o j = o' j) : arr4 o = arr4 o' := by
 unfold arr4
 rw [h 0 (by decide), h 1 (by decide), h 2 (by decide), h 3 (by decide)]
theorem arr4_cell {w : World} {g t : Nat} {o : Nat → Int} (h : w.heap[g]? = some (.cells (arr4 o) t (0, 0))) {j : Nat} (hj : j < 4) : w.cell? ⟨g, j, none⟩ = some (.int .i64 (o j)) := by
 rw [blk_cell h j]
 exact arr4_get o j hj
theorem cnt_snoc (f : M.PC → Bool) (z : M.PC) : ∀ l : List M.PC, M.cnt f (l ++ [z]) = M.cnt f l + M.b2i (f z)
 | [] => by simp only [List.nil_append, M.cnt]; omega
 | y :: r => by
  have := cnt_snoc f z r
  simp only [List.cons_append, M.cnt]
  omega
theorem cnt_take (f : M.PC → Bool) {l : List M.PC} {k : Nat} {z : M.PC} (h : l[k]? = some z) : M.cnt f (l.take (k + 1)) = M.cnt f (l.take k) + M.b2i (f z) := by
 obtain ⟨hk, e⟩ := List.getElem?_eq_some_iff.1 h
 rw [List.take_succ_eq_append_getElem hk, e, cnt_snoc]
def outs (l : List M.PC) (k : Nat) : Nat → Int := fun m => M.cnt (M.isOut (m : Int)) (l.take k)
def lins (l : List M.PC) (k : Nat) : Nat → Int := fun m => M.cnt (M.isL (m : Int)) (l.take k)
theorem outs_lo (l : List M.PC) (k m : Nat) : 0 ≤ outs l k m := M.cnt_lo _ _
theorem lins_lo (l : List M.PC) (k m : Nat) : 0 ≤ lins l k m := M.cnt_lo _ _
theorem outs_hi (l : List M.PC) (k m : Nat) : outs l k m ≤ (l.length : Int) := by
 have := M.cnt_hi (M.isOut (m : Int)) (l.take k)
 have h2 : (l.take k).length ≤ l.length := by rw [List.length_take]; omega
 unfold outs
 omega
theorem lins_hi (l : List M.PC) (k m : Nat) : lins l k m ≤ (l.length : Int) := by
 have := M.cnt_hi (M.isL (m : Int)) (l.take k)
 have h2 : (l.take k).length ≤ l.length := by rw [List.length_take]; omega
 unfold lins
 omega
theorem mx_idle {z : M.PC} (h : z.c.act = (z.prog.length : Int) ∨ z.cur.kind = 3) (m : Int) : M.mx m z = false := by
 unfold M.mx
 rcases h with h | h <;> simp [h]
theorem outs_idle {l : List M.PC} {k : Nat} {z : M.PC} (hz : l[k]? = some z) (h : z.c.act = (z.prog.length : Int) ∨ z.cur.kind = 3) : arr4 (outs l k) = arr4 (outs l (k + 1)) := arr4_congr (fun j _ => by
 unfold outs
 rw [cnt_take _ hz, (M.None_.of_mx (mx_idle h j)).out, M.b2i_f]
 omega)
theorem lins_idle {l : List M.PC} {k : Nat} {z : M.PC} (hz : l[k]? = some z) (h : z.c.act = (z.prog.length : Int) ∨ z.cur.kind = 3) : arr4 (lins l k) = arr4 (lins l (k + 1)) := arr4_congr (fun j _ => by
 unfold lins
 rw [cnt_take _ hz, (M.None_.of_mx (mx_idle h j)).l, M.b2i_f]
 omega)
def outPc (p : Int) : Bool := p == 4 || p == 5 || p == 6 || p == 13 || p == 14 || p == 15
theorem mx_at {z : M.PC} {j : Nat} (hlt : z.c.act < (z.prog.length : Int)) (hk : z.cur.kind ≠ 3) (hn : z.cur.n = (j : Int)) (i : Nat) : M.mx (i : Int) z = decide (i = j) := by
 unfold M.mx
 by_cases q : i = j
 ·subst q
  simp [hlt, hk, hn]
 ·have : ¬ (z.cur.n = (i : Int)) := by omega
  simp [this, q]
theorem outs_on {l : List M.PC} {k : Nat} {z : M.PC} (hz : l[k]? = some z) {j : Nat} (hlt : z.c.act < (z.prog.length : Int)) (hk : z.cur.kind ≠ 3) (hn : z.cur.n = (j : Int)) (hp : outPc z.c.pc = true) : arr4 (up4 (outs l k) j (outs l k j + 1)) = arr4 (outs l (k + 1)) := arr4_congr (fun i _ => by
 have e : M.isOut (i : Int) z = decide (i = j) := by
  unfold outPc at hp
  unfold M.isOut
  rw [mx_at hlt hk hn i, hp, Bool.and_true]
 unfold up4 outs
 rw [cnt_take _ hz, e]
 by_cases q : i = j
 ·subst q
  simp [M.b2i]
 ·simp [q, M.b2i])
theorem outs_off {l : List M.PC} {k : Nat} {z : M.PC} (hz : l[k]? = some z) (hp : outPc z.c.pc = false) : arr4 (outs l k) = arr4 (outs l (k + 1)) := arr4_congr (fun i _ => by
 have e : M.isOut (i : Int) z = false := by
  unfold outPc at hp
  unfold M.isOut
  rw [hp, Bool.and_false]
 unfold outs
 rw [cnt_take _ hz, e, M.b2i_f]
 omega)
theorem lins_on {x : M.W} (g : M.Good x) {k : Nat} {z : M.PC} (hz : x.cl[k]? = some z) {j : Nat} (hlt : z.c.act < (z.prog.length : Int)) (hk : z.cur.kind ≠ 3) (hn : z.cur.n = (j : Int)) : arr4 (up4 (lins x.cl k) j (lins x.cl k j + (linesOf (k : Int) (tableOf x.sem) : Nat))) = arr4 (lins x.cl (k + 1)) := arr4_congr (fun i _ => by
 unfold up4 lins
 rw [cnt_take _ hz]
 by_cases q : i = j
 ·subst q
  rw [if_pos rfl, lines_own g hz, hn]
  cases M.isL (i : Int) z <;> rfl
 ·have e : M.isL (i : Int) z = false := by
   unfold M.isL
   rw [mx_at hlt hk hn i, decide_eq_false q, Bool.false_and]
  rw [if_neg q, e, M.b2i_f]
  omega)
theorem lines_le1 {x : M.W} (g : M.Good x) {k : Nat} {z : M.PC} (hk : x.cl[k]? = some z) : linesOf (k : Int) (tableOf x.sem) ≤ 1 := by
 rw [lines_own g hk]
 split <;> omega
theorem outs_all {x : M.W} (g : M.Good x) {m : Nat} (hm : m < 4) {mu : M.Mutex} (hu : x.mu[m]? = some mu) : (mu.line.next - mu.line.serve) % 4294967296 = outs x.cl x.cl.length m := by
 unfold outs
 have h := (g.inv m hm).tick.out
 rw [List.getD_eq_getElem?_getD, hu] at h
 rw [List.take_length]
 exact h.symm
theorem lins_all {x : M.W} (g : M.Good x) {m : Nat} (hm : m < 4) {mu : M.Mutex} (hu : x.mu[m]? = some mu) : lins x.cl x.cl.length m ≤ mu.word / 8 + 1 := by
 unfold lins
 have h := lines_le g hm
 rw [List.getD_eq_getElem?_getD, hu] at h
 rw [List.take_length]
 exact h
theorem line_64 {x : M.W} (g : M.Good x) : ∀ s ∈ tableOf x.sem, s.line.length ≤ 64 := by
 intro s hs
 obtain ⟨k, y, hk, _, rfl⟩ := mem_tableFrom _ _ _ hs
 have hm := (sem_of g k y hk).1
 have := nodup_len x.cl.length y.line hm.line.nodup (line_lt hm)
 have := g.cl
 simp only [List.length_map]
 omega
theorem outPc_ways (p : Int) : (outPc p = true ∧ (p = 4 ∨ p = 5 ∨ p = 6 ∨ p = 13 ∨ p = 14 ∨ p = 15)) ∨ (outPc p = false ∧ (p == 4) = false ∧ (p == 5) = false ∧ (p == 6) = false ∧ (p == 13) = false ∧ (p == 14) = false ∧ (p == 15) = false) := by
 unfold outPc
 by_cases e : p = 4 ∨ p = 5 ∨ p = 6 ∨ p = 13 ∨ p = 14 ∨ p = 15
 ·refine .inl ⟨?_, e⟩
  rcases e with e | e | e | e | e | e <;> rw [e] <;> rfl
 ·refine .inr ?_
  have e4 : (p == 4) = false := by simp; omega
  have e5 : (p == 5) = false := by simp; omega
  have e6 : (p == 6) = false := by simp; omega
  have e13 : (p == 13) = false := by simp; omega
  have e14 : (p == 14) = false := by simp; omega
  have e15 : (p == 15) = false := by simp; omega
  rw [e4, e5, e6, e13, e14, e15]
  exact ⟨rfl, rfl, rfl, rfl, rfl, rfl, rfl⟩
theorem park_ways {x : M.W} (g : M.Good x) {k : Nat} {z : M.PC} (hk : x.cl[k]? = some z) {ln : Nat} (hl : ln = linesOf (k : Int) (tableOf x.sem)) : (ln = 0 ∧ (z.c.gor.state == 1) = false) ∨ (ln = 1 ∧ (z.c.gor.state == 1) = (z.c.pc == 7)) := by
 have hle := lines_le1 g hk
 have hpk := parked_iff g hk
 rw [← hl] at hle hpk
 rcases (show ln = 0 ∨ ln = 1 by omega) with e | e
 ·refine .inl ⟨e, ?_⟩
  rw [beq_eq_false_iff_ne]
  intro h
  have := (hpk.1 h).1
  omega
 ·refine .inr ⟨e, ?_⟩
  rw [Bool.eq_iff_iff, beq_iff_eq, beq_iff_eq]
  exact hpk.trans ⟨fun h => h.2, fun h => ⟨e, h⟩⟩
abbrev cO (c : M.Client) : Obj := .cells #[.int .i64 c.gor.state, .bool c.gor.permit, .int .i64 c.act, .int .i64 c.pc, .int .i64 c.worked, .int .i64 c.ticket, .bool c.first, .bool c.told, .int .i64 c.own.since, .bool c.own.starving, .bool c.own.awake, .int .i64 c.own.rounds, .int .i64 c.own.old] 44
abbrev mO (u : M.Mutex) : Obj := .cells #[.int .i64 u.word, .int .i64 u.line.next, .int .i64 u.line.serve] 53
abbrev fO (v : Int) : Obj := .cells #[.bool (bitOf v 0), .bool (bitOf v 1), .bool (bitOf v 2), .int .i64 (v / 8)] 56
abbrev zO : Obj := .cells #[.int .i64 0, .int .i64 0, .int .i64 0, .int .i64 0] 38
abbrev pO (a b : Int) : Obj := .cells #[.int .i64 a, .int .i64 b] 49
abbrev pW (w : World) (g : Nat) (y : M.W) (Ap Ac Am At : Option Addr) (cp cc cm ct : Nat) : World := (((((w.setCell ⟨g, 0, none⟩ (.int .i64 y.now)).setCell ⟨g, 1, none⟩ (.slice Ap y.cl.length cp)).setCell ⟨g, 2, none⟩ (.slice Ac y.cl.length cc)).setCell ⟨g, 3, none⟩ (.slice Am y.mu.length cm)).setCell ⟨g, 4, none⟩ (.slice At (tableOf y.sem).length ct)).setCell ⟨g, 5, none⟩ (.int .i64 y.stop)
theorem world_put {w wr w5 : World} {g base : Nat} {xs : List Int} {v a b c d e f : Value} {y : M.W} {Ap Ac Am At : Option Addr} {cp cc cm ct : Nat} (hb : Below wr.heap.size wr w5) (hB : Below w.heap.size w wr) (hg : w.heap.size ≤ g) (hV : wr.heap[g]? = some (.cells #[a, b, c, d, e, f] 29 (0, 0))) (hR : (Kd.int .i64).R 3 wr base (fun _ => True) v xs) (hP : ∀ W, Kept w5 W (fun q => q = g) → WP W y Ap Ac Am At cp cc cm ct) :
  (∀ W, Kept (pW (w5.alloc (wO y Ap Ac Am At cp cc cm ct)) g y Ap Ac Am At cp cc cm ct) W (fun q => q = g) → WP W y Ap Ac Am At cp cc cm ct) ∧ Below w.heap.size w (pW (w5.alloc (wO y Ap Ac Am At cp cc cm ct)) g y Ap Ac Am At cp cc cm ct) ∧ (pW (w5.alloc (wO y Ap Ac Am At cp cc cm ct)) g y Ap Ac Am At cp cc cm ct).heap[g]? = some (wO y Ap Ac Am At cp cc cm ct) ∧ (Kd.int .i64).R 3 (pW (w5.alloc (wO y Ap Ac Am At cp cc cm ct)) g y Ap Ac Am At cp cc cm ct) base (fun _ => True) v xs ∧ (w5.alloc (wO y Ap Ac Am At cp cc cm ct)).heap[g]? = some (.cells #[a, b, c, d, e, f] 29 (0, 0)) := by
 have h6 := blk_alloc (blk_below hV hb) (wO y Ap Ac Am At cp cc cm ct)
 have hk : Kept w5 (pW (w5.alloc (wO y Ap Ac Am At cp cc cm ct)) g y Ap Ac Am At cp cc cm ct) (fun q => q = g) := ((Kept.refl w5 (fun q => q = g)).alloc (wO y Ap Ac Am At cp cc cm ct)).then_ (kept6 (S := fun q => q = g) g rfl _ _ _ _ _ _) (fun _ q => .inl q)
 exact ⟨fun W h => hP W (hk.then_ h (fun _ q => .inl q)), below6 (bel2 (bel3 hB hb) _) hg _ _ _ _ _ _, set6 h6 _ _ _ _ _ _, R_set6 (Kd.R_alloc (Kd.R_below hR hb) _) h6 (by decide) _ _ _ _ _ _, h6⟩
theorem box_cells {w : World} {g : Nat} {a b c d e f : Value} (h : w.heap[g]? = some (.cells #[a, b, c, d, e, f] 29 (0, 0))) : w.cell? ⟨g, 0, none⟩ = some a ∧ w.cell? ⟨g, 1, none⟩ = some b ∧ w.cell? ⟨g, 2, none⟩ = some c ∧ w.cell? ⟨g, 3, none⟩ = some d ∧ w.cell? ⟨g, 4, none⟩ = some e ∧ w.cell? ⟨g, 5, none⟩ = some f ∧ w.frozen? ⟨g, 0, none⟩ = false ∧ w.frozen? ⟨g, 1, none⟩ = false ∧ w.frozen? ⟨g, 2, none⟩ = false ∧ w.frozen? ⟨g, 3, none⟩ = false ∧ w.frozen? ⟨g, 4, none⟩ = false ∧ w.frozen? ⟨g, 5, none⟩ = false :=
 ⟨blk_cell h 0, blk_cell h 1, blk_cell h 2, blk_cell h 3, blk_cell h 4, blk_cell h 5, blk_frozen h 0, blk_frozen h 1, blk_frozen h 2, blk_frozen h 3, blk_frozen h 4, blk_frozen h 5⟩
theorem cell_alloc {w : World} {a : Addr} {v : Value} (h : w.cell? a = some v) (o : Obj) : (w.alloc o).cell? a = some v := (World.cell?_alloc_some w a o (by rw [h]; rfl)).trans h
theorem flat_below {α : Type} {sz : Nat} {enc : α → List Value} {h1 : ∀ x, (enc x).length = sz} {h2 : ∀ x, ∀ u ∈ enc x, u.oneCell' = true} {w W : World} {A : Option Addr} {n : Nat} {xs : List α} (h : (flat sz enc h1 h2).C w A n xs) (hb : Below w.heap.size w W) (i : Nat) (x : α) (hx : xs[i]? = some x) :
  ∃ ad, A = some ad ∧ (∀ u, (enc x)[0]? = some u → W.cell? (ad.add (i * sz)) = some u) ∧ ∀ j u, 0 < j → (enc x)[j]? = some u → W.cell? ⟨(ad.add (i * sz)).block, (ad.add (i * sz)).off + j, none⟩ = some u := flat_cells (Kd.C_below h hb) i x hx
end Go.Proofs.YtoimfknjfeencaaGreatDoor.Hand
end
