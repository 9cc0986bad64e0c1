/- Part of the walk of a law of the top, and what it leans on (PlainP, AliveText, Alive, Short, TopM, Open). No conditions beyond those that each lemma names. -/
import Derived.Test.YtoimfknjfeencaaGreatDoorZ05
import Derived.Test.YtoimfknjfeencaaGreatDoorZ28
import Derived.Test.YtoimfknjfeencaaGreatDoorZ09
import Derived.Test.YtoimfknjfeencaaGreatDoorZ27
import Derived.Test.YtoimfknjfeencaaGreatDoorZ07
import Derived.Test.YtoimfknjfeencaaGreatDoorZ08
import Derived.Test.YtoimfknjfeencaaGreatDoorZ04
import Derived.Lib.AtoiTie
import Derived.Lib.ItoaLen
import Derived.Lib.IndexBytes
import Derived.Below
import Derived.ChangeSame
import Derived.Deep.Fields
import Derived.Deep.Slices
import Derived.ProofKit
set_option linter.unusedVariables false
set_option linter.unusedSimpArgs false
set_option maxHeartbeats 8000000
set_option maxRecDepth 100000
section
namespace Go.Proofs.YtoimfknjfeencaaGreatDoor.Hand
open Go.RowKit Go.Proofs.YtoimfknjfeencaaGreatDoorW.PrintWords Go.Proofs.YtoimfknjfeencaaGreatDoorW.PrintLast Go.Proofs.YtoimfknjfeencaaGreatDoorW.PrintMore
theorem decDigits_ne (u : Nat) : Lib.decDigits u ≠ [] := by
 rw [Lib.decDigits]
 split <;> simp
theorem digitVal_of (d : Nat) (h : d < 10) : Lib.digitVal (UInt8.ofNat (48 + d)) = some d := by
 unfold Lib.digitVal
 have e : (UInt8.ofNat (48 + d)).toNat = 48 + d := by simp only [UInt8.toNat_ofNat']; omega
 rw [e, if_pos (by omega)]
 congr 1
 omega
theorem decFrom_append : ∀ (l : List UInt8) (acc n d : Nat) (b : UInt8), Lib.decFrom acc l = some n → Lib.digitVal b = some d → Lib.decFrom acc (l ++ [b]) = some (n * 10 + d)
 | [], acc, n, d, b, h, hb => by
  simp only [Lib.decFrom, Option.some.injEq] at h
  subst h
  simp [Lib.decFrom, hb]
 | a :: t, acc, n, d, b, h, hb => by
  simp only [Lib.decFrom, List.cons_append] at h ⊢
  cases ha : Lib.digitVal a with
  | none => simp [ha] at h
  | some e =>
   simp only [ha] at h ⊢
   exact decFrom_append t _ n d b h hb
theorem dec_digits (u : Nat) : Lib.decFrom 0 (Lib.decDigits u) = some u := by
 induction u using Nat.strongRecOn with
 | _ u ih =>
  by_cases hu : u < 10
  ·rw [Lib.decDigits_one hu]
   simp only [Lib.decFrom, digitVal_of u hu]
   simp
  ·rw [Lib.decDigits, dif_neg hu, decFrom_append _ _ (u / 10) (u % 10) _ (ih (u / 10) (by omega)) (digitVal_of _ (by omega))]
   congr 1
   omega
theorem dig_len (m : Nat) : ∀ u, u < 10 ^ (m + 1) → (Lib.decDigits u).length ≤ m + 1 := by
 induction m with
 | zero =>
  intro u h
  rw [Lib.decDigits_one (by simpa using h)]
  simp
 | succ m ih =>
  intro u h
  by_cases hu : u < 10
  ·rw [Lib.decDigits_one hu]
   simp
  ·rw [Lib.decDigits, dif_neg hu, List.length_append]
   have := ih (u / 10) (by rw [Nat.pow_succ] at h; omega)
   simp only [List.length_cons, List.length_nil]
   omega
theorem itoa_pos (n : Int) (h0 : 0 ≤ n) : Lib.itoa n = Lib.decDigits n.toNat := by
 unfold Lib.itoa
 rw [if_neg (by omega)]
theorem itoa_len (n : Int) (h0 : 0 ≤ n) (h1 : n ≤ 999999) : (Lib.itoa n).length ≤ 6 := by
 rw [itoa_pos n h0]
 exact dig_len 5 _ (by omega)
theorem atoi_itoa (n : Int) (h0 : 0 ≤ n) : Lib.atoi (Lib.itoa n) = some n := by
 rw [itoa_pos n h0]
 have hd := dec_digits n.toNat
 cases hl : Lib.decDigits n.toNat with
 | nil => exact absurd hl (decDigits_ne _)
 | cons b r =>
  rw [hl] at hd
  obtain ⟨d, hb⟩ := Lib.digit_of_decFrom _ _ _ hd 0 b rfl
  have h45 : b ≠ 45 := by
   rintro rfl
   simp [Lib.digitVal] at hb
  have h43 : b ≠ 43 := by
   rintro rfl
   simp [Lib.digitVal] at hb
  unfold Lib.atoi
  simp only []
  rw [if_neg (by simpa using h45), if_neg (by simpa using h43)]
  unfold Lib.decNat
  rw [if_neg (by simp), hd]
  simp only [Option.map_some]
  congr 1
  omega
theorem atoiAll_itoa (n : Int) (h0 : 0 ≤ n) (h1 : n ≤ 999999) : Lib.atoiAll (Lib.itoa n) = .ok n := by
 rw [Lib.atoiAll_short _ (by have := itoa_len n h0 h1; omega), atoi_itoa n h0]
 rfl
def numv (l : List UInt8) : Option Int := match Lib.atoiAll l with
 | .ok n => if n < 0 ∨ 999999 < n ∨ Lib.itoa n ≠ l then none else some n
 | _ => none
theorem numv_iff (l : List UInt8) (n : Int) : numv l = some n ↔ 0 ≤ n ∧ n ≤ 999999 ∧ l = Lib.itoa n := by
 constructor
 ·intro h
  unfold numv at h
  split at h
  ·split at h
   ·cases h
   ·rename_i hc
    cases h
    refine ⟨?_, ?_, ?_⟩
    ·exact Int.not_lt.1 fun q => hc (Or.inl q)
    ·exact Int.not_lt.1 fun q => hc (Or.inr (Or.inl q))
    ·exact (Classical.not_not.1 fun q => hc (Or.inr (Or.inr q))).symm
  ·cases h
 ·rintro ⟨h0, h1, rfl⟩
  unfold numv
  rw [atoiAll_itoa n h0 h1]
  simp only []
  rw [if_neg (fun q => q.elim (by omega) (fun q => q.elim (by omega) (fun q => q rfl)))]
def actv (l : List UInt8) : Int × Int × Int := match kindOf (Lib.cut l [32]).1 with
 | none => (0, 0, 8)
 | some k => if (Lib.cut l [32]).2.1 = [] then (0, 0, 8) else match numv (Lib.cut l [32]).2.1 with
  | none => (0, 0, 9)
  | some n => if isActP k n = true then (k, n, 0) else (0, 0, 3)
theorem act_f (s : ByteArray) (h : s.size ≤ 4096) : prog_act.f s = some (actv s.data.toList) := by
 unfold prog_act.f actv
 rw [if_pos h]
 congr 1
 cases kindOf (Lib.cut s.data.toList [32]).1 with
 | none => rfl
 | some k =>
  simp only []
  by_cases hr : (Lib.cut s.data.toList [32]).2.1 = []
  ·rw [if_pos hr, if_pos hr]
  ·rw [if_neg hr, if_neg hr]
   unfold numv
   cases Lib.atoiAll (Lib.cut s.data.toList [32]).2.1 with
   | ok n =>
    simp only []
    by_cases hc : n < 0 ∨ 999999 < n ∨ Lib.itoa n ≠ (Lib.cut s.data.toList [32]).2.1
    ·rw [if_pos hc, if_pos hc]
    ·rw [if_neg hc, if_neg hc]
   | range => rfl
   | _ => rfl
def cut1 : List UInt8 → List UInt8 → List (List UInt8)
 | cur, [] => [cur]
 | cur, b :: r => if b = 10 then cur :: cut1 [] r else cut1 (cur ++ [b]) r
def cut2 (cur : List UInt8) : List UInt8 → List (List UInt8)
 | [] => [cur]
 | [b] => [cur ++ [b]]
 | a :: b :: r => if a = 59 ∧ b = 32 then cur :: cut2 [] r else cut2 (cur ++ [a]) (b :: r)
termination_by l => l.length
theorem index_cons (c : UInt8) (l sub : List UInt8) (hp : sub.isPrefixOf (c :: l) = false) : Lib.index (c :: l) sub = if Lib.index l sub = -1 then -1 else Lib.index l sub + 1 := by
 rw [Lib.index, hp]
 by_cases h : Lib.index l sub = -1
 ·simp [h]
 ·simp [h]
theorem cut1_index : ∀ (l cur : List UInt8), cut1 cur l = if Lib.index l [10] = -1 then [cur ++ l] else (cur ++ l.take (Lib.index l [10]).toNat) :: cut1 [] (l.drop ((Lib.index l [10]).toNat + 1))
 | [], cur => by
  have h : Lib.index [] [10] = -1 := rfl
  rw [h, if_pos rfl]
  simp [cut1]
 | b :: r, cur => by
  by_cases hb : b = 10
  ·subst hb
   have h : Lib.index (10 :: r) [10] = 0 := by rw [Lib.index]; simp [List.isPrefixOf]
   rw [h, if_neg (by decide)]
   simp [cut1]
  ·have hp : ([10] : List UInt8).isPrefixOf (b :: r) = false := by simp [List.isPrefixOf, Ne.symm hb]
   have hx := index_cons b r [10] hp
   have hge := Lib.index_ge r [10]
   rw [cut1, if_neg hb, cut1_index r (cur ++ [b])]
   by_cases h : Lib.index r [10] = -1
   ·rw [if_pos h]
    rw [if_pos h] at hx
    rw [if_pos hx]
    simp
   ·rw [if_neg h]
    rw [if_neg h] at hx
    rw [if_neg (by omega), hx, show (Lib.index r [10] + 1).toNat = (Lib.index r [10]).toNat + 1 by omega]
    simp
theorem cut2_index (n : Nat) : ∀ (l cur : List UInt8), l.length ≤ n → cut2 cur l = if Lib.index l [59, 32] = -1 then [cur ++ l] else (cur ++ l.take (Lib.index l [59, 32]).toNat) :: cut2 [] (l.drop ((Lib.index l [59, 32]).toNat + 2)) := by
 induction n with
 | zero =>
  intro l cur hl
  have : l = [] := List.length_eq_zero_iff.1 (by omega)
  subst this
  have h : Lib.index [] [59, 32] = -1 := rfl
  rw [h, if_pos rfl]
  simp [cut2]
 | succ n ih =>
  intro l cur hl
  match l, hl with
  | [], _ =>
   have h : Lib.index [] [59, 32] = -1 := rfl
   rw [h, if_pos rfl]
   simp [cut2]
  | [b], _ =>
   have h : Lib.index [b] [59, 32] = -1 := by
    rw [index_cons b [] [59, 32] (by simp [List.isPrefixOf])]
    rfl
   rw [h, if_pos rfl]
   simp [cut2]
  | a :: b :: r, hl =>
   by_cases hab : a = 59 ∧ b = 32
   ·obtain ⟨rfl, rfl⟩ := hab
    have h : Lib.index (59 :: 32 :: r) [59, 32] = 0 := by rw [Lib.index]; simp [List.isPrefixOf]
    rw [h, if_neg (by decide), cut2, if_pos ⟨rfl, rfl⟩]
    simp
   ·have hp : ([59, 32] : List UInt8).isPrefixOf (a :: b :: r) = false := by
     simp only [List.isPrefixOf, Bool.and_true, Bool.and_eq_false_iff, beq_eq_false_iff_ne, ne_eq]
     by_cases h1 : a = 59
     ·exact Or.inr fun q => hab ⟨h1, q.symm⟩
     ·exact Or.inl (Ne.symm h1)
    have hx := index_cons a (b :: r) [59, 32] hp
    have hge := Lib.index_ge (b :: r) [59, 32]
    rw [cut2, if_neg hab, ih (b :: r) (cur ++ [a]) (by simp only [List.length_cons] at hl ⊢; omega)]
    by_cases h : Lib.index (b :: r) [59, 32] = -1
    ·rw [if_pos h]
     rw [if_pos h] at hx
     rw [if_pos hx]
     simp
    ·rw [if_neg h]
     rw [if_neg h] at hx
     rw [if_neg (by omega), hx, show (Lib.index (b :: r) [59, 32] + 1).toNat = (Lib.index (b :: r) [59, 32]).toNat + 1 by omega]
     rw [show (Lib.index (b :: r) [59, 32]).toNat + 1 + 2 = ((Lib.index (b :: r) [59, 32]).toNat + 2) + 1 by omega, List.drop_succ_cons, List.take_succ_cons]
     simp
theorem ext_data (s : ByteArray) (a b : Nat) : (s.extract a b).data.toList = (s.data.toList.drop a).take (b - a) := by
 rw [ByteArray.data_extract, Array.toList_extract, List.extract_eq_take_drop]
theorem splitB_cut (f : List UInt8 → List (List UInt8)) (sep : ByteArray) (h1 : 1 ≤ sep.size) (hf : ∀ l, f l = if Lib.index l sep.data.toList = -1 then [l] else l.take (Lib.index l sep.data.toList).toNat :: f (l.drop ((Lib.index l sep.data.toList).toNat + sep.size))) :
  ∀ (k : Nat) (s : ByteArray), Lib.countB s sep = k → (Lib.splitB sep 0 k s).map (·.data.toList) = f s.data.toList
 | 0, s, hk => by
  rcases Lib.indexB_cases s sep with hix | ⟨i, hix, hroom⟩
  ·rw [Lib.splitB_zero, hf, if_pos hix]
   rfl
  ·have := Lib.countB_hit s sep i h1 hix
   omega
 | k + 1, s, hk => by
  rcases Lib.indexB_cases s sep with hix | ⟨i, hix, hroom⟩
  ·have := Lib.countB_miss s sep hix
   omega
  ·have hc := Lib.countB_hit s sep i h1 hix
   have hi' : Lib.index s.data.toList sep.data.toList = (i : Int) := hix
   rw [Lib.splitB_hit sep 0 k s i hix, List.map_cons, splitB_cut f sep h1 hf k _ (by omega), hf s.data.toList, if_neg (by omega), hi', Int.toNat_natCast, ext_data, ext_data]
   simp only [List.drop_zero, Nat.sub_zero, Nat.add_zero]
   congr 2
   rw [List.take_of_length_le]
   rw [List.length_drop, Array.length_toList]
   exact Nat.le_refl _
theorem split1 (s : ByteArray) : (Lib.splitB ⟨#[10]⟩ 0 (Lib.countB s ⟨#[10]⟩) s).map (·.data.toList) = cut1 [] s.data.toList :=
 splitB_cut (cut1 []) ⟨#[10]⟩ (by decide) (fun l => by have h := cut1_index l []; simp only [List.nil_append] at h; exact h) _ s rfl
theorem split2 (s : ByteArray) : (Lib.splitB ⟨#[59, 32]⟩ 0 (Lib.countB s ⟨#[59, 32]⟩) s).map (·.data.toList) = cut2 [] s.data.toList :=
 splitB_cut (cut2 []) ⟨#[59, 32]⟩ (by decide) (fun l => by have h := cut2_index l.length l [] (Nat.le_refl _); simp only [List.nil_append] at h; exact h) _ s rfl
theorem ba_ext {a b : ByteArray} (h : a.data.toList = b.data.toList) : a = b := by
 have := Array.toList_inj.1 h
 cases a
 cases b
 simp_all
theorem map_data_inj : ∀ {a b : List ByteArray}, a.map (·.data.toList) = b.map (·.data.toList) → a = b
 | [], [], _ => rfl
 | [], _ :: _, h => by simp at h
 | _ :: _, [], h => by simp at h
 | x :: a, y :: b, h => by
  simp only [List.map_cons, List.cons.injEq] at h
  rw [ba_ext h.1, map_data_inj h.2]
end Go.Proofs.YtoimfknjfeencaaGreatDoor.Hand
end
section
namespace Go.Proofs.YtoimfknjfeencaaGreatDoor.Hand
open Go Go.RowKit Go.Proofs.YtoimfknjfeencaaGreatDoorW.PrintWords Go.Proofs.YtoimfknjfeencaaGreatDoorW.PrintLast Go.Proofs.YtoimfknjfeencaaGreatDoorW.PrintMore
theorem split_some (s : ByteArray) (h : s.size ≤ 4096) (sep : ByteArray) (h1 : 1 ≤ sep.size) : strings_Split.f s sep = some (Lib.splitB sep 0 (Lib.countB s sep) s) := by
 unfold strings_Split.f
 rw [if_pos ⟨h, h1⟩]
theorem numv_one (n : Int) (h0 : 0 ≤ n) (h1 : n < 10) (b : UInt8) (hb : b = UInt8.ofNat (48 + n.toNat)) : numv [b] = some n := by
 refine (numv_iff _ _).2 ⟨h0, by omega, ?_⟩
 rw [itoa_pos n h0, Lib.decDigits_one (by omega), hb]
theorem act_lock : actv [108, 111, 99, 107, 32, 48] = (0, 0, 0) := by
 unfold actv
 have hc : Lib.cut [108, 111, 99, 107, 32, 48] [32] = (kLock, [48], true) := by decide
 rw [hc]
 simp only []
 rw [show kindOf kLock = some 0 by decide]
 simp only []
 rw [if_neg (by decide), numv_one 0 (by decide) (by decide) 48 rfl]
 rfl
theorem act_work : actv [119, 111, 114, 107, 32, 50] = (3, 2, 0) := by
 unfold actv
 have hc : Lib.cut [119, 111, 114, 107, 32, 50] [32] = (kWork, [50], true) := by decide
 rw [hc]
 simp only []
 rw [show kindOf kWork = some 3 by decide]
 simp only []
 rw [if_neg (by decide), numv_one 2 (by decide) (by decide) 50 rfl]
 rfl
theorem act_unlock : actv [117, 110, 108, 111, 99, 107, 32, 48] = (2, 0, 0) := by
 unfold actv
 have hc : Lib.cut [117, 110, 108, 111, 99, 107, 32, 48] [32] = (kUnlock, [48], true) := by decide
 rw [hc]
 simp only []
 rw [show kindOf kUnlock = some 2 by decide]
 simp only []
 rw [if_neg (by decide), numv_one 0 (by decide) (by decide) 48 rfl]
 rfl
def three : ByteArray := ⟨#[108, 111, 99, 107, 32, 48, 59, 32, 119, 111, 114, 107, 32, 50, 59, 32, 117, 110, 108, 111, 99, 107, 32, 48]⟩
def pieces3 : List ByteArray := [⟨#[108, 111, 99, 107, 32, 48]⟩, ⟨#[119, 111, 114, 107, 32, 50]⟩, ⟨#[117, 110, 108, 111, 99, 107, 32, 48]⟩]
theorem acts3 (k : Nat) : prog_acts.f (k + 4) pieces3 = some ([(⟨0, 0⟩ : S49), ⟨3, 2⟩, ⟨2, 0⟩], 0) := by
 unfold prog_acts.f
 have e0 : rdOf ByteArray.empty pieces3 0 = ⟨#[108, 111, 99, 107, 32, 48]⟩ := rfl
 have e1 : rdOf ByteArray.empty pieces3 1 = ⟨#[119, 111, 114, 107, 32, 50]⟩ := rfl
 have e2 : rdOf ByteArray.empty pieces3 2 = ⟨#[117, 110, 108, 111, 99, 107, 32, 48]⟩ := rfl
 have hl : (pieces3.length : Int) = 3 := rfl
 have a0 : prog_act.f ⟨#[108, 111, 99, 107, 32, 48]⟩ = some (0, 0, 0) := (act_f _ (by decide)).trans (congrArg some act_lock)
 have a1 : prog_act.f ⟨#[119, 111, 114, 107, 32, 50]⟩ = some (3, 2, 0) := (act_f _ (by decide)).trans (congrArg some act_work)
 have a2 : prog_act.f ⟨#[117, 110, 108, 111, 99, 107, 32, 48]⟩ = some (2, 0, 0) := (act_f _ (by decide)).trans (congrArg some act_unlock)
 have w1 : wrap64 (0 + 1) = 1 := by (unfold wrap64; omega)
 have w2 : wrap64 (1 + 1) = 2 := by (unfold wrap64; omega)
 have w3 : wrap64 (2 + 1) = 3 := by (unfold wrap64; omega)
 rw [hl]
 simp only [prog_acts.l0, e0, e1, e2, a0, a1, a2, w1, w2, w3, hl, Option.bind_some]
 simp
theorem parse3 (k : Nat) : prog_Parse.f (k + 10) three = some ([[(⟨0, 0⟩ : S49), ⟨3, 2⟩, ⟨2, 0⟩]], 0, 0) := by
 unfold prog_Parse.f
 have hne : ¬ three.toList = ([] : List UInt8) := by rw [Lib.toList_data]; decide
 have hts : strings_TrimSuffix.f three (⟨#[10]⟩ : ByteArray) = some three := by
  unfold strings_TrimSuffix.f
  rw [if_pos (by decide)]
  rfl
 have hs1 : Lib.splitB ⟨#[10]⟩ 0 (Lib.countB three ⟨#[10]⟩) three = [three] := map_data_inj ((split1 three).trans (by decide))
 have hs2 : Lib.splitB ⟨#[59, 32]⟩ 0 (Lib.countB three ⟨#[59, 32]⟩) three = pieces3 := map_data_inj ((split2 three).trans (by simp [three, pieces3, cut2]))
 rw [if_neg (by decide), if_neg hne, hts]
 simp only [Option.bind_some]
 rw [split_some _ (by decide) _ (by decide), hs1]
 simp only [Option.bind_some, prog_Parse.j0]
 have hl : (([three] : List ByteArray).length : Int) = 1 := rfl
 have e0 : rdOf ByteArray.empty [three] 0 = three := rfl
 have w1 : wrap64 (0 + 1) = 1 := by (unfold wrap64; omega)
 rw [hl]
 simp only [prog_Parse.l0, e0, hne, split_some three (by decide) ⟨#[59, 32]⟩ (by decide), hs2, Option.bind_some, acts3, w1, hl, if_false]
 simp
def aliveL : List (List M.Act) := [[⟨0, 0⟩, ⟨3, 2⟩, ⟨2, 0⟩]]
theorem alive_done : doneB (goW (M.new aliveL) [(0, 0), (0, 0), (0, 0), (0, 0)]) = true := by decide +kernel
theorem alive_len : (goH (M.new aliveL) 0 [(0, 0), (0, 0), (0, 0), (0, 0)]).length = 2 := by decide +kernel
theorem alive_ok : okPs (aliveL.map (·.map toS)) = true := by decide
def TrueOk (w : World) (e : Ending) (w' : World) : Prop := e = .returned (.bool true) ∧ Below w.heap.size w w'
theorem zeros_C {W : World} {g t : Nat} (hg : W.heap[g]? = some (.cells #[.int .i64 0, .int .i64 0, .int .i64 0, .int .i64 0] t (0, 0))) : (Kd.int .i64).C W (some ⟨g, 0, none⟩) 4 [0, 0, 0, 0] := ints_C (l := [0, 0, 0, 0]) hg (fun i x h => by
 have hi := (List.getElem?_eq_some_iff.1 h).1
 simp at hi
 match i, hi with
 | 0, _ => cases h; rfl
 | 1, _ => cases h; rfl
 | 2, _ => cases h; rfl
 | 3, _ => cases h; rfl) (by simp)
theorem alive7 (w : World) (hL : Laid w) : Calls Tryz.prog 7 #[] w (TrueOk w) := by
 have P1 := ak_ (prog_Parse.calls (0 + 10) three _ _ _ w (parse3 0) hL)
 have hu := Tryz.underlying29
 unfold three at P1
 clear hL
 go_enter Tryz.func7, Tryz.ntmps7
 go_wp2_with fail
 refine P1.out.mono ?_
 rintro e w2 ⟨v, rfl, hS, hb2⟩
 obtain ⟨A, c, rfl, hl, hF⟩ := Kd.S_V hS (base' := 0)
 have hV : Kd.V (Kd.slice 49 k49) 47 w2 0 (fun _ => True) (.slice A 1 c) [[(⟨0, 0⟩ : S49), ⟨3, 2⟩, ⟨2, 0⟩]] := ⟨A, c, rfl, hl, hF⟩
 have HB2 := ak_ (bel2 hb2 (.cells #[.int .i64 0, .int .i64 0, .int .i64 0, .int .i64 0] 3))
 have HK := (Kept.refl w2 (fun _ => False)).alloc (.cells #[.int .i64 0, .int .i64 0, .int .i64 0, .int .i64 0] 3)
 have PP := play_calls A c aliveL (w2.alloc (.cells #[.int .i64 0, .int .i64 0, .int .i64 0, .int .i64 0] 3)) (fun _ => False) (fun W hk => CC_of (Kd.C_kept_ownV hV (fun _ _ q => q) W (HK.then_ hk (fun _ q => .inl q)))) (fun b q => q.elim) hl alive_ok (some ⟨w2.heap.size, 0, none⟩) 4 [0, 0, 0, 0] (by decide) (zeros_C (blk_new w2 _)) (by decide)
 have hpk : [0, 0, 0, 0].map pickOf = [(0, 0), (0, 0), (0, 0), (0, 0)] := by decide
 rw [hpk] at PP
 have P2 : Aside0 (Calls Tryz.prog 14 #[.slice A 1 c, .slice (some ⟨w2.heap.size, 0, none⟩) 4 4] (w2.alloc (.cells #[.int .i64 0, .int .i64 0, .int .i64 0, .int .i64 0] 3)) (PlayOk (fun _ => False) (M.new aliveL) [(0, 0), (0, 0), (0, 0), (0, 0)] (w2.alloc (.cells #[.int .i64 0, .int .i64 0, .int .i64 0, .int .i64 0] 3)))) := ⟨PP⟩
 clear hb2 hS hV hF PP HK P1 hl hpk
 simp only [List.length_cons, List.length_nil]
 go_wp2_with fail
 refine P2.out.mono ?_
 rintro e w3 ⟨a0, a1, a2, a3, a4, a5, Ae, ce, rfl, hb3, Ap, Ac, Am, At, cp, cc, cm, ct, e7, hP⟩
 obtain ⟨rfl, rfl, rfl, rfl, rfl, rfl⟩ := wv_inj e7
 have g0 : M.Good (goW (M.new aliveL) [(0, 0), (0, 0), (0, 0), (0, 0)]) := good_go (fun p hp => by
  simp at hp
  rw [hp]
  exact .inl ⟨rfl, by decide, by decide⟩) (good_new alive_ok)
 have hd0 := alive_done
 rw [alive_len]
 obtain ⟨y, hy⟩ : ∃ y, y = goW (M.new aliveL) [(0, 0), (0, 0), (0, 0), (0, 0)] := ⟨_, rfl⟩
 rw [← hy] at hP g0 hd0 ⊢
 have HB3 := ak_ (bel2 (bel3 HB2.out hb3) (.cells #[.int .i64 y.now, .slice Ap y.cl.length cp, .slice Ac y.cl.length cc, .slice Am y.mu.length cm, .slice At (tableOf y.sem).length ct, .int .i64 y.stop] 29))
 have HT3 := ak_ (blk_new w3 (.cells #[.int .i64 y.now, .slice Ap y.cl.length cp, .slice Ac y.cl.length cc, .slice Am y.mu.length cm, .slice At (tableOf y.sem).length ct, .int .i64 y.stop] 29))
 have PD := done19 y g0 (wv y Ap Ac Am At cp cc cm ct) (w3.alloc (.cells #[.int .i64 y.now, .slice Ap y.cl.length cp, .slice Ac y.cl.length cc, .slice Am y.mu.length cm, .slice At (tableOf y.sem).length ct, .int .i64 y.stop] 29)) ⟨Ap, Ac, Am, At, cp, cc, cm, ct, rfl, hP _ ((Kept.refl w3 (fun _ => False)).alloc (.cells #[.int .i64 y.now, .slice Ap y.cl.length cp, .slice Ac y.cl.length cc, .slice Am y.mu.length cm, .slice At (tableOf y.sem).length ct, .int .i64 y.stop] 29))⟩
 rw [hd0] at PD
 unfold wv at PD
 have P3 := ak_ PD
 clear e7 hb3 hP g0 hd0 hy PD P2 HB2
 go_upto_region 3 with fail
 have v0 : (w3.alloc (.cells #[.int .i64 y.now, .slice Ap y.cl.length cp, .slice Ac y.cl.length cc, .slice Am y.mu.length cm, .slice At (tableOf y.sem).length ct, .int .i64 y.stop] 29)).cell? ⟨w3.heap.size, 0, none⟩ = some (.int .i64 y.now) := blk_cell HT3.out 0
 have v1 : (w3.alloc (.cells #[.int .i64 y.now, .slice Ap y.cl.length cp, .slice Ac y.cl.length cc, .slice Am y.mu.length cm, .slice At (tableOf y.sem).length ct, .int .i64 y.stop] 29)).cell? ⟨w3.heap.size, 1, none⟩ = some (.slice Ap y.cl.length cp) := blk_cell HT3.out 1
 have v2 : (w3.alloc (.cells #[.int .i64 y.now, .slice Ap y.cl.length cp, .slice Ac y.cl.length cc, .slice Am y.mu.length cm, .slice At (tableOf y.sem).length ct, .int .i64 y.stop] 29)).cell? ⟨w3.heap.size, 2, none⟩ = some (.slice Ac y.cl.length cc) := blk_cell HT3.out 2
 have v3 : (w3.alloc (.cells #[.int .i64 y.now, .slice Ap y.cl.length cp, .slice Ac y.cl.length cc, .slice Am y.mu.length cm, .slice At (tableOf y.sem).length ct, .int .i64 y.stop] 29)).cell? ⟨w3.heap.size, 3, none⟩ = some (.slice Am y.mu.length cm) := blk_cell HT3.out 3
 have v4 : (w3.alloc (.cells #[.int .i64 y.now, .slice Ap y.cl.length cp, .slice Ac y.cl.length cc, .slice Am y.mu.length cm, .slice At (tableOf y.sem).length ct, .int .i64 y.stop] 29)).cell? ⟨w3.heap.size, 4, none⟩ = some (.slice At (tableOf y.sem).length ct) := blk_cell HT3.out 4
 have v5 : (w3.alloc (.cells #[.int .i64 y.now, .slice Ap y.cl.length cp, .slice Ac y.cl.length cc, .slice Am y.mu.length cm, .slice At (tableOf y.sem).length ct, .int .i64 y.stop] 29)).cell? ⟨w3.heap.size, 5, none⟩ = some (.int .i64 y.stop) := blk_cell HT3.out 5
 go_wp2_with fail
 refine P3.out.mono ?_
 rintro e w4 ⟨rfl, hb4⟩
 have HB4 := ak_ (bel3 HB3.out hb4)
 clear hb4 P3 HB3
 go_wp2
 go_ret
 exact ⟨rfl, HB4.out⟩
end Go.Proofs.YtoimfknjfeencaaGreatDoor.Hand
end
section
namespace Go.Proofs.YtoimfknjfeencaaGreatDoor.Hand
open Go.RowKit Go.Proofs.YtoimfknjfeencaaGreatDoorW.PrintWords Go.Proofs.YtoimfknjfeencaaGreatDoorW.PrintLast Go.Proofs.YtoimfknjfeencaaGreatDoorW.PrintMore
section
attribute [local go_sem] max2_int min2_int max_two min_two
def upMost (v : Int) : Int := if v < -5000000 then -5000000 else v
def shortOf (l : List Int) (n : Nat) : List Int := (l.take n).map upMost
theorem shortOf_len (l : List Int) (n : Nat) : (shortOf l n).length = min n l.length := by unfold shortOf; rw [List.length_map, List.length_take]
theorem shortOf_in (l : List Int) (n : Nat) (hwf : ∀ z ∈ l, -9223372036854775808 ≤ z ∧ z ≤ 9223372036854775807) : ∀ z ∈ shortOf l n, -9223372036854775808 ≤ z ∧ z ≤ 9223372036854775807 := by
 intro z hz
 unfold shortOf at hz
 obtain ⟨y, hy, rfl⟩ := List.mem_map.1 hz
 have := hwf y (List.mem_of_mem_take hy)
 unfold upMost
 split <;> omega
def ShortOk (xs : List Int) (w : World) (e : Ending) (w' : World) : Prop := ∃ v, e = .returned v ∧ Kd.R (Kd.int .i64) 3 w' w.heap.size (fun _ => True) v xs ∧ Below w.heap.size w w'
theorem short8 (A : Option Addr) (c : Nat) (l : List Int) (n : Nat) (w : World) (hC0 : (Kd.int .i64).C w A l.length l) (hc : l.length ≤ c) (hn : n ≤ 1000) :
  Calls Tryz.prog 8 #[.slice A l.length c, .int .i64 n] w (ShortOk (shortOf l n) w) := by
 have hl9 : l.length ≤ 9223372036854775807 := hC0.2.1
 have HC := ak_ hC0
 clear hC0
 by_cases hq : n < l.length
 ·have h1 : (n : Int) < (l.length : Int) := by omega
  have h2 : n ≤ l.length := by omega
  have HE := ak_ (show shortOf l n = (l.take n).map upMost by unfold shortOf; rfl)
  go_enter Tryz.func8, Tryz.ntmps8
  go_wp2
  go_loopg [5, 15] (n) (fun g v5 v15 wx => Aside0 (Below w.heap.size w wx) ∧ ∃ i : Nat, i + g = n ∧ v15 = .int .i64 i ∧ Aside0 (Kd.R (Kd.int .i64) 3 wx w.heap.size (fun _ => True) v5 ((l.take i).map upMost)))
  case atStart => exact ⟨⟨Below.refl _ _⟩, 0, by omega, rfl, ⟨Kd.R_nil _ _ _ _ _⟩⟩
  case round =>
   obtain ⟨HB, i, hig, rfl, HO⟩ := hrel
   cases gk with
   | zero =>
    have hi : i = n := by omega
    have hnot : ¬ ((i : Int) < ((n : Nat) : Int)) := by omega
    subst hi
    go_wp2
    go_ret
    exact ⟨_, rfl, by rw [HE.out]; exact HO.out, HB.out⟩
   | succ go =>
    have hlt : i < l.length := by omega
    obtain ⟨x, hx⟩ : ∃ x, l[i]? = some x := ⟨_, List.getElem?_eq_getElem hlt⟩
    obtain ⟨ad, hea, y0⟩ := int_cells HC.out i x hx
    cases hea
    replace y0 := (HB.out.cell (World.block_lt_of_cell? w _ y0)).trans y0
    have hil : (i : Int) < ((n : Nat) : Int) := by omega
    have hrl : ((l.take i).map upMost).length = i := by rw [List.length_map, List.length_take]; omega
    have HRL := ak_ hrl
    clear hrl
    by_cases hz : x < -5000000
    ·have HEX := ak_ (show (l.take (i + 1)).map upMost = (l.take i).map upMost ++ [-5000000] by
      rw [List.take_succ_eq_append_getElem hlt, List.map_append]
      rw [List.getElem?_eq_getElem hlt] at hx
      cases hx
      simp [upMost, hz])
     clear hx
     go_wp2_with (first | (at_builtin; refine Kd.R_append (Kd.int .i64) (w0 := w) w.heap.size rfl (.tmp 19) (.tmp 22) 23 3 (.int .i64 0) 8 rfl Tryz.underlying23 info3T rfl (by decide) (by omega) _ ((l.take i).map upMost) (-5000000 : Int) [.int .i64 (-5000000)] (fun _ => True) (fun _ => False) rfl ?aX ?aP (fun _ hk => hk.elim) ?aF ?aO ?aB ?aS ?aL ?_; (case aX => simp [Act.eval]); (case aP => exact rfl); (case aB => exact HB.out); (case aF => exact (fun _ _ => trivial)); (case aO => exact HO.out); (case aS => exact HB.out.size); (case aL => rw [HRL.out]; omega); intro v5 w10 ho hb hg hat; have HO5 := ak_ ho; have HB5 := ak_ hb; clear ho hb hg hat))
     go_roundg go
     case rel => exact ⟨HB5, i + 1, by omega, by go_num, ⟨by rw [HEX.out]; exact HO5.out⟩⟩
     case measure => omega
    ·have HEX := ak_ (show (l.take (i + 1)).map upMost = (l.take i).map upMost ++ [x] by
      rw [List.take_succ_eq_append_getElem hlt, List.map_append]
      rw [List.getElem?_eq_getElem hlt] at hx
      cases hx
      simp [upMost, hz])
     clear hx
     go_wp2_with (first | (at_builtin; refine Kd.R_append (Kd.int .i64) (w0 := w) w.heap.size rfl (.tmp 19) (.tmp 22) 23 3 (.int .i64 0) 8 rfl Tryz.underlying23 info3T rfl (by decide) (by omega) _ ((l.take i).map upMost) (x : Int) [.int .i64 (x)] (fun _ => True) (fun _ => False) rfl ?aX ?aP (fun _ hk => hk.elim) ?aF ?aO ?aB ?aS ?aL ?_; (case aX => simp [Act.eval]); (case aP => exact rfl); (case aB => exact HB.out); (case aF => exact (fun _ _ => trivial)); (case aO => exact HO.out); (case aS => exact HB.out.size); (case aL => rw [HRL.out]; omega); intro v5 w10 ho hb hg hat; have HO5 := ak_ ho; have HB5 := ak_ hb; clear ho hb hg hat))
     go_roundg go
     case rel => exact ⟨HB5, i + 1, by omega, by go_num, ⟨by rw [HEX.out]; exact HO5.out⟩⟩
     case measure => omega
 ·have h1 : ¬ ((n : Int) < (l.length : Int)) := by omega
  have HE := ak_ (show shortOf l n = (l.take l.length).map upMost by unfold shortOf; rw [List.take_length, List.take_of_length_le (by omega)])
  go_enter Tryz.func8, Tryz.ntmps8
  go_wp2
  go_loopg [5, 15] (l.length) (fun g v5 v15 wx => Aside0 (Below w.heap.size w wx) ∧ ∃ i : Nat, i + g = l.length ∧ v15 = .int .i64 i ∧ Aside0 (Kd.R (Kd.int .i64) 3 wx w.heap.size (fun _ => True) v5 ((l.take i).map upMost)))
  case atStart => exact ⟨⟨Below.refl _ _⟩, 0, by omega, rfl, ⟨Kd.R_nil _ _ _ _ _⟩⟩
  case round =>
   obtain ⟨HB, i, hig, rfl, HO⟩ := hrel
   cases gk with
   | zero =>
    have hi : i = l.length := by omega
    have hnot : ¬ ((i : Int) < ((l.length : Nat) : Int)) := by omega
    subst hi
    go_wp2
    go_ret
    exact ⟨_, rfl, by rw [HE.out]; exact HO.out, HB.out⟩
   | succ go =>
    have hlt : i < l.length := by omega
    obtain ⟨x, hx⟩ : ∃ x, l[i]? = some x := ⟨_, List.getElem?_eq_getElem hlt⟩
    obtain ⟨ad, hea, y0⟩ := int_cells HC.out i x hx
    cases hea
    replace y0 := (HB.out.cell (World.block_lt_of_cell? w _ y0)).trans y0
    have hil : (i : Int) < ((l.length : Nat) : Int) := by omega
    have hrl : ((l.take i).map upMost).length = i := by rw [List.length_map, List.length_take]; omega
    have HRL := ak_ hrl
    clear hrl
    by_cases hz : x < -5000000
    ·have HEX := ak_ (show (l.take (i + 1)).map upMost = (l.take i).map upMost ++ [-5000000] by
      rw [List.take_succ_eq_append_getElem hlt, List.map_append]
      rw [List.getElem?_eq_getElem hlt] at hx
      cases hx
      simp [upMost, hz])
     clear hx
     go_wp2_with (first | (at_builtin; refine Kd.R_append (Kd.int .i64) (w0 := w) w.heap.size rfl (.tmp 19) (.tmp 22) 23 3 (.int .i64 0) 8 rfl Tryz.underlying23 info3T rfl (by decide) (by omega) _ ((l.take i).map upMost) (-5000000 : Int) [.int .i64 (-5000000)] (fun _ => True) (fun _ => False) rfl ?aX ?aP (fun _ hk => hk.elim) ?aF ?aO ?aB ?aS ?aL ?_; (case aX => simp [Act.eval]); (case aP => exact rfl); (case aB => exact HB.out); (case aF => exact (fun _ _ => trivial)); (case aO => exact HO.out); (case aS => exact HB.out.size); (case aL => rw [HRL.out]; omega); intro v5 w10 ho hb hg hat; have HO5 := ak_ ho; have HB5 := ak_ hb; clear ho hb hg hat))
     go_roundg go
     case rel => exact ⟨HB5, i + 1, by omega, by go_num, ⟨by rw [HEX.out]; exact HO5.out⟩⟩
     case measure => omega
    ·have HEX := ak_ (show (l.take (i + 1)).map upMost = (l.take i).map upMost ++ [x] by
      rw [List.take_succ_eq_append_getElem hlt, List.map_append]
      rw [List.getElem?_eq_getElem hlt] at hx
      cases hx
      simp [upMost, hz])
     clear hx
     go_wp2_with (first | (at_builtin; refine Kd.R_append (Kd.int .i64) (w0 := w) w.heap.size rfl (.tmp 19) (.tmp 22) 23 3 (.int .i64 0) 8 rfl Tryz.underlying23 info3T rfl (by decide) (by omega) _ ((l.take i).map upMost) (x : Int) [.int .i64 (x)] (fun _ => True) (fun _ => False) rfl ?aX ?aP (fun _ hk => hk.elim) ?aF ?aO ?aB ?aS ?aL ?_; (case aX => simp [Act.eval]); (case aP => exact rfl); (case aB => exact HB.out); (case aF => exact (fun _ _ => trivial)); (case aO => exact HO.out); (case aS => exact HB.out.size); (case aL => rw [HRL.out]; omega); intro v5 w10 ho hb hg hat; have HO5 := ak_ ho; have HB5 := ak_ hb; clear ho hb hg hat))
     go_roundg go
     case rel => exact ⟨HB5, i + 1, by omega, by go_num, ⟨by rw [HEX.out]; exact HO5.out⟩⟩
     case measure => omega
end
end Go.Proofs.YtoimfknjfeencaaGreatDoor.Hand
end
section
namespace Go.Proofs.YtoimfknjfeencaaGreatDoor.Hand
open Go Go.RowKit Go.Proofs.YtoimfknjfeencaaGreatDoorW.PrintWords Go.Proofs.YtoimfknjfeencaaGreatDoorW.PrintLast Go.Proofs.YtoimfknjfeencaaGreatDoorW.PrintMore
theorem small_sum (p b : Int) (h0 : 0 ≤ b) (h1 : b < p) (h2 : p ≤ 128) : wrap64 (b + p) = b + p := by unfold wrap64; omega
theorem pow_small {x : Int} (h0 : 0 ≤ x) (h8 : x < 8) : (2 : Int) ^ x.toNat ≤ 128 ∧ wrap64 ((2 : Int) ^ x.toNat) = 2 ^ x.toNat := pow_le8 ⟨x.toNat, by omega⟩
theorem heap49 : Kd.Heap (Kd.slice 49 k49) := Kd.heap_slice 49 (Kd.heap_iso _ (Kd.heap_pair (Kd.heap_int .i64) (Kd.heap_int .i64)))
def actsOf (l : List (List S49)) : List (List M.Act) := l.map (·.map ofS)
theorem actsOf_to (l : List (List S49)) : (actsOf l).map (·.map toS) = l := by
 unfold actsOf
 rw [List.map_map]
 conv => rhs; rw [← List.map_id l]
 apply List.map_congr_left
 intro p _
 show (p.map ofS).map toS = p
 rw [List.map_map]
 conv => rhs; rw [← List.map_id p]
 apply List.map_congr_left
 intro a _
 rfl
theorem actsOf_len (l : List (List S49)) : (actsOf l).length = l.length := List.length_map _
theorem masks_top (A0 : Option Addr) (c0 : Nat) (l : List (List S49)) (As : Option Addr) (cs : Nat) (zs : List Int) (w : World) (hL : Laid w)
  (hC : Kd.C (Kd.slice 49 k49) w A0 l.length l) (hc : l.length ≤ c0) (hp : ∀ p ∈ l, p.length ≤ 9223372036854775807) (hCz : (Kd.int .i64).C w As zs.length zs) (hcz : zs.length ≤ cs) (hwf : ∀ z ∈ zs, -9223372036854775808 ≤ z ∧ z ≤ 9223372036854775807) :
  Calls Tryz.prog 4 #[.slice A0 l.length c0, .slice As zs.length cs] w (TrueOk w) := by
 have P1 := ak_ (few6 A0 c0 l w hc (Kd.F_mono (Kd.C_F heap49 hC) (fun _ _ => trivial)) hp)
 have HL := ak_ hL
 have HCZ := ak_ hCz
 have HWF := ak_ hwf
 have hu := Tryz.underlying29
 have hu44 := Tryz.underlying44
 have hu40 := Tryz.underlying40
 clear hL hC hc hp hCz hwf
 go_enter Tryz.func4, Tryz.ntmps4
 go_wp2_with fail
 refine P1.out.mono ?_
 rintro e w1 ⟨A1, c1, rfl, hl1, hF1, hb1⟩
 obtain ⟨L, hLe⟩ : ∃ L, L = fewOf l := ⟨_, rfl⟩
 rw [← hLe] at hl1 hF1 ⊢
 have HB1 := ak_ (bel3 (Below.refl _ w) hb1)
 have HF1 := ak_ hF1
 have P2 := ak_ (short8 As cs zs 300 w1 (Kd.C_below HCZ.out hb1) hcz (by decide))
 clear hLe hF1 P1 hb1
 go_wp2_with fail
 refine P2.out.mono ?_
 rintro e w2 ⟨v2, rfl, hR2, hb2⟩
 obtain ⟨A2, c2, rfl, hl2, hC2⟩ := Kd.R_reads hR2
 have hlen2 := shortOf_len zs 300
 have hwf2 := shortOf_in zs 300 HWF.out
 obtain ⟨xs, hxs⟩ : ∃ xs, xs = shortOf zs 300 := ⟨_, rfl⟩
 rw [← hxs] at hR2 hl2 hC2 hlen2 hwf2 ⊢
 have h300 : xs.length ≤ 300 := by omega
 have HB2 := ak_ (bel3 HB1.out hb2)
 have HF2 := ak_ (Kd.F_below HF1.out hb2)
 have HC2 := ak_ hC2
 have HW2 := ak_ hwf2
 have HL2 := ak_ hl2
 clear hxs hR2 hC2 hb2 hlen2 hwf2 P2 HB1 HF1 HCZ HWF hcz hl2
 have e1 : L.length = (actsOf L).length := (actsOf_len L).symm
 have hCA : ∀ W, Kept w2 W (fun _ => False) → (Kd.slice 49 kAct).C W A1 L.length (actsOf L) := fun W hk => CC_of (Kd.F_now (Kd.F_kept HF2.out hk (fun _ _ q => q)))
 have hLL : okPs L = okPs ((actsOf L).map (·.map toS)) := by rw [actsOf_to]
 obtain ⟨LA, hLA⟩ : ∃ LA, LA = actsOf L := ⟨_, rfl⟩
 rw [e1, ← hLA] at hl1
 rw [← hLA, e1, ← hLA] at hCA
 rw [← hLA] at hLL
 have hLg : L.length = LA.length := by rw [hLA]; exact e1
 rw [hLg]
 have HCA := ak_ hCA
 clear hLA hLg e1 hCA
 have hmn : xs.length ≤ 20000 := by omega
 by_cases hok : okPs (LA.map (·.map toS)) = true
 ·have P3 := ak_ (masks_calls A1 c1 LA w2 HCA.out hl1 hok A2 c2 xs hmn HC2.out HW2.out)
  have HOK := ak_ hok
  clear hLL hok hmn
  go_wp2_with fail
  refine P3.out.mono ?_
  rintro e w3 ⟨v3, rfl, ⟨A3, c3, rfl, hl3, hC3⟩, hb3⟩
  have hml := masksTo_len (M.new LA) (xs.map pickOf) (xs.map pickOf).length
  rw [List.length_map] at hml hl3 hC3
  obtain ⟨ms, hms⟩ : ∃ ms, ms = masksTo (M.new LA) (xs.map pickOf) xs.length := ⟨_, rfl⟩
  rw [List.length_map, ← hms]
  rw [← hms] at hml hl3 hC3
  rw [hml] at hC3 hl3 ⊢
  have HMS := ak_ hms
  have HB3 := ak_ (bel3 HB2.out hb3)
  have HF3 := ak_ (fun (W : World) (hk : Kept w3 W (fun _ => False)) => HCA.out W ((Kept.of_below hb3 (fun _ => False)).then_ hk (fun _ q => .inl q)))
  have HC3 := ak_ hC3
  have HX3 := ak_ (Kd.C_below HC2.out hb3)
  clear hb3 hC3 P3 hms HB2 HF2 HC2 HCA hml hl3
  have hK4 : (Kd.int .i64).C (w3.alloc (.cells #[.int .i64 0, .int .i64 ((xs.length : Int) / 2), .int .i64 ((xs.length : Int) - 1)] 3)) (some ⟨w3.heap.size, 0, none⟩) 3 [0, (xs.length : Int) / 2, (xs.length : Int) - 1] := ints_C (l := [0, (xs.length : Int) / 2, (xs.length : Int) - 1]) (blk_new w3 _) (fun i x h => by
   have hi := (List.getElem?_eq_some_iff.1 h).1
   simp at hi
   match i, hi with
   | 0, _ => cases h; rfl
   | 1, _ => cases h; rfl
   | 2, _ => cases h; rfl) (by simp)
  have HK4 := ak_ hK4
  have HB4 := ak_ (bel2 HB3.out (.cells #[.int .i64 0, .int .i64 ((xs.length : Int) / 2), .int .i64 ((xs.length : Int) - 1)] 3))
  have HF4 := ak_ (fun (W : World) (hk : Kept (w3.alloc (.cells #[.int .i64 0, .int .i64 ((xs.length : Int) / 2), .int .i64 ((xs.length : Int) - 1)] 3)) W (fun _ => False)) => HF3.out W (((Kept.refl w3 (fun _ => False)).alloc (.cells #[.int .i64 0, .int .i64 ((xs.length : Int) / 2), .int .i64 ((xs.length : Int) - 1)] 3)).then_ hk (fun _ q => .inl q)))
  have HC4 := ak_ (Kd.C_alloc HC3.out (.cells #[.int .i64 0, .int .i64 ((xs.length : Int) / 2), .int .i64 ((xs.length : Int) - 1)] 3))
  have HX4 := ak_ (Kd.C_alloc HX3.out (.cells #[.int .i64 0, .int .i64 ((xs.length : Int) / 2), .int .i64 ((xs.length : Int) - 1)] 3))
  obtain ⟨ks, hks⟩ : ∃ ks, ks = [0, (xs.length : Int) / 2, (xs.length : Int) - 1] := ⟨_, rfl⟩
  rw [← hks] at HK4
  have hkl : ks.length = 3 := by rw [hks]; rfl
  clear hK4 HB3 HF3 HC3 HX3
  go_wp2_with fail
  clear hks
  generalize w3.alloc (.cells #[.int .i64 0, .int .i64 ((xs.length : Int) / 2), .int .i64 ((xs.length : Int) - 1)] 3) = W4 at *
  go_loopg [52] 3 (fun g v52 wx => Aside0 (Below W4.heap.size W4 wx) ∧ ∃ i : Nat, i + g = 3 ∧ v52 = .int .i64 i)
  case atStart => exact ⟨⟨Below.refl _ _⟩, 0, by omega, rfl⟩
  case round =>
   obtain ⟨HB, i, hig, rfl⟩ := hrel
   have HBw := ak_ (bel3 HB4.out HB.out)
   cases gk with
   | zero =>
    have hi : i = 3 := by omega
    have hnot : ¬ ((i : Int) < 3) := by omega
    have P4 := ak_ (alive7 wr (HL.out.below (Below.mono HBw.out (Nat.le_refl _))))
    subst hi
    go_wp2_with fail
    refine P4.out.mono ?_
    rintro e w4 ⟨rfl, hb4⟩
    have HB9 := ak_ (bel3 HBw.out hb4)
    clear hb4 P4
    go_wp2
    go_ret
    exact ⟨rfl, HB9.out⟩
   | succ go =>
    have hlt : i < ks.length := by omega
    obtain ⟨kk, hkk⟩ : ∃ kk, ks[i]? = some kk := ⟨_, List.getElem?_eq_getElem hlt⟩
    obtain ⟨ad, hea, y0⟩ := int_cells HK4.out i kk hkk
    cases hea
    replace y0 := (HB.out.cell (World.block_lt_of_cell? W4 _ y0)).trans y0
    rw [Addr.add_lit, Nat.zero_add] at y0
    have hil : (i : Int) < 3 := by omega
    by_cases hk : kk < 0 ∨ (xs.length : Int) ≤ kk
    ·rcases hk with hk | hk
     ·clear hkk
      go_wp2
      go_roundg go
      case rel => exact ⟨HB, i + 1, by omega, by go_num⟩
      case measure => omega
     ·have hk0 : ¬ (kk < 0) := by omega
      clear hkk
      go_wp2
      go_roundg go
      case rel => exact ⟨HB, i + 1, by omega, by go_num⟩
      case measure => omega
    ·obtain ⟨k, hkn⟩ : ∃ k : Nat, kk = (k : Int) := ⟨kk.toNat, by omega⟩
     subst hkn
     have hk1 : k < xs.length := by omega
     have hk2 : (k : Int) < (xs.length : Int) := by omega
     have hk3 : ¬ ((k : Int) < 0) := by omega
     have hkc : k ≤ c2 := by have := HL2.out; omega
     have hlt2 : (xs.take k).length = k := by rw [List.length_take]; omega
     have hCT := Kd.C_take (Kd.C_below HX4.out HB.out) (show k ≤ xs.length by omega)
     have PP := play_calls A1 c1 LA wr (fun _ => False) (fun W hw => HF4.out W ((Kept.of_below HB.out (fun _ => False)).then_ hw (fun _ q => .inl q))) (fun b q => q.elim) hl1 HOK.out A2 c2 (xs.take k) (by omega) hCT (fun q hq => HW2.out q (List.mem_of_mem_take hq))
     rw [hlt2] at PP
     have PPL := ak_ PP
     have GY0 := ak_ (show M.Good (goW (M.new LA) ((xs.take k).map pickOf)) from good_go (fun p hp => by
      obtain ⟨v, _, rfl⟩ := List.mem_map.1 hp
      exact okPick_of v) (good_new HOK.out))
     have hmk : ms[k]? = some (maskOf (goW (M.new LA) ((xs.take k).map pickOf))) := by
      rw [HMS.out, masksTo_at _ _ _ k hk1, List.map_take]
     have HMK := ak_ hmk
     clear hk hkk hlt2 hCT PP hmk
     go_wp2_with fail
     refine PPL.out.mono ?_
     rintro e w5 ⟨a0, a1, a2, a3, a4, a5, Ae, ce, rfl, hb5, Ap, Ac, Am, At, cp, cc, cm, ct, e7, hP⟩
     obtain ⟨rfl, rfl, rfl, rfl, rfl, rfl⟩ := wv_inj e7
     obtain ⟨y, hy⟩ : ∃ y, y = goW (M.new LA) ((xs.take k).map pickOf) := ⟨_, rfl⟩
     rw [← hy] at hP GY0 HMK ⊢
     have HB6 := ak_ (bel2 (bel3 HB.out hb5) (.cells #[.int .i64 y.now, .slice Ap y.cl.length cp, .slice Ac y.cl.length cc, .slice Am y.mu.length cm, .slice At (tableOf y.sem).length ct, .int .i64 y.stop] 29))
     have HT6 := ak_ (blk_new w5 (.cells #[.int .i64 y.now, .slice Ap y.cl.length cp, .slice Ac y.cl.length cc, .slice Am y.mu.length cm, .slice At (tableOf y.sem).length ct, .int .i64 y.stop] 29))
     have hC6 := (hP _ ((Kept.refl w5 (fun _ => False)).alloc (.cells #[.int .i64 y.now, .slice Ap y.cl.length cp, .slice Ac y.cl.length cc, .slice Am y.mu.length cm, .slice At (tableOf y.sem).length ct, .int .i64 y.stop] 29))).c
     have e8 : y.cl.length = (y.cl.map (·.c)).length := (List.length_map _).symm
     have hG : ∀ g ∈ y.cl.map (·.c.gor), okGor g := by
      intro q hq
      obtain ⟨z, hz, rfl⟩ := List.mem_map.1 hq
      obtain ⟨t, ht⟩ := List.getElem?_of_mem hz
      exact okGor_of (GY0.out.c t z ht)
     have H8 := ak_ GY0.out.cl
     have E8 := ak_ e8
     have HG6 := ak_ hG
     have HC6 := ak_ hC6
     clear e8 hG hC6 hb5 e7 hP PPL hy HB HBw
     go_upto_region 10 with fail
     obtain ⟨l9, hl9⟩ : ∃ l9, l9 = y.cl.map (·.c) := ⟨_, rfl⟩
     have hl9n : y.cl.length = l9.length := by rw [hl9, List.length_map]
     have v2 : (w5.alloc (.cells #[.int .i64 y.now, .slice Ap y.cl.length cp, .slice Ac y.cl.length cc, .slice Am y.mu.length cm, .slice At (tableOf y.sem).length ct, .int .i64 y.stop] 29)).cell? ⟨w5.heap.size, 2, none⟩ = some (.slice Ac l9.length cc) := by rw [← hl9n]; exact blk_cell HT6.out 2
     have hc6 : kClient.C (w5.alloc (.cells #[.int .i64 y.now, .slice Ap y.cl.length cp, .slice Ac y.cl.length cc, .slice Am y.mu.length cm, .slice At (tableOf y.sem).length ct, .int .i64 y.stop] 29)) Ac l9.length l9 := by rw [← hl9n, hl9]; exact HC6.out
     have hG9 : ∀ g ∈ l9.map (·.gor), okGor g := by rw [hl9, List.map_map]; exact HG6.out
     have hmq : maskOf y = pows (runList (l9.map (·.gor)) (l9.map (·.gor)).length) := by rw [hl9, List.map_map]; rfl
     have h89 : l9.length ≤ 8 := by have := H8.out; omega
     have HG9 := ak_ hG9
     have HMQ := ak_ hmq
     clear HC6 HT6 HG6 E8 H8
     have HC6 := ak_ hc6
     clear hl9 hl9n hc6 hG9 hmq
     generalize w5.alloc (.cells #[.int .i64 y.now, .slice Ap y.cl.length cp, .slice Ac y.cl.length cc, .slice Am y.mu.length cm, .slice At (tableOf y.sem).length ct, .int .i64 y.stop] 29) = W6 at *
     go_wp2_with fail
     go_loopg [12, 76] l9.length (fun g v12 v76 wx => Aside0 (Below W6.heap.size W6 wx) ∧ ∃ i : Nat, i + g = l9.length ∧ v76 = .int .i64 i ∧ Aside0 (Kd.R kGor 40 wx W6.heap.size (fun _ => True) v12 ((l9.take i).map (·.gor))))
     case atStart => exact ⟨⟨Below.refl _ _⟩, 0, by omega, rfl, ⟨Kd.R_nil _ _ _ _ _⟩⟩
     case round =>
      obtain ⟨HBi, j, hjg, rfl, HO⟩ := hrel
      cases gk with
      | zero =>
       have hj : j = l9.length := by omega
       have hnotj : ¬ ((j : Int) < (l9.length : Int)) := by omega
       subst hj
       have HO9 := HO.out
       rw [List.take_length] at HO9
       obtain ⟨gl, hgle⟩ : ∃ gl, gl = l9.map (·.gor) := ⟨_, rfl⟩
       have hgl8 : gl.length ≤ 8 := by rw [hgle, List.length_map]; exact h89
       have hG9 := HG9.out
       have hMQ := HMQ.out
       rw [← hgle] at HO9 hG9 hMQ
       obtain ⟨A9, c9, rfl, hl9c, hC9⟩ := Kd.R_reads HO9
       have P5 := ak_ (runnable_yes A9 c9 gl wr hC9 hgl8 hG9)
       obtain ⟨gs, hgs⟩ : ∃ gs, gs = runList gl gl.length := ⟨_, rfl⟩
       have hgl : gs.length ≤ 8 := by rw [hgs]; have := runList_len gl gl.length; omega
       have hgm : ∀ (k : Nat) (g : Int), gs[k]? = some g → 0 ≤ g ∧ g < 8 ∧ 0 ≤ pows (gs.take k) ∧ pows (gs.take k) < 2 ^ g.toNat := by
        intro k g hk
        rw [hgs] at hk ⊢
        have h1 := mem_runList _ _ g (List.mem_of_getElem? hk)
        have h2 := pows_take _ _ k g hk
        omega
       rw [← hgs] at P5 hMQ
       have HGM := ak_ hgm
       have HMQ2 := ak_ hMQ
       have HB7 := ak_ (bel3 HB6.out HBi.out)
       clear hgs hgm HO9 hC9 hG9 HO hgle hMQ HMQ HG9 HC6 v2 HB6
       go_wp2_with fail
       refine P5.out.mono ?_
       rintro e w8 ⟨v8, rfl, ⟨A8, c8, rfl, hl8, hC8⟩, hb8⟩
       have HB8 := ak_ (bel3 HB7.out hb8)
       have HC8 := ak_ hC8
       clear hb8 hC8 P5 HB7 HBi
       go_wp2
       go_loopg [17, 99] gs.length (fun g v17 v99 wx => Aside0 (Below W4.heap.size W4 wx ∧ wx.heap = w8.heap) ∧ ∃ i : Nat, i + g = gs.length ∧ v99 = .int .i64 i ∧ v17 = .int .i64 (pows (gs.take i)))
       case atStart => exact ⟨⟨HB8.out, rfl⟩, 0, by omega, rfl, rfl⟩
       case round =>
        obtain ⟨HBs, t, htg, rfl, rfl⟩ := hrel
        cases gk with
        | zero =>
         have hi : t = gs.length := by omega
         have hnot : ¬ ((t : Int) < (gs.length : Int)) := by omega
         subst hi
         rw [List.take_length, ← HMQ2.out]
         obtain ⟨ad3, he3, m0⟩ := int_cells HC4.out k (maskOf y) HMK.out
         cases he3
         replace m0 := (HBs.out.1.cell (World.block_lt_of_cell? W4 _ m0)).trans m0
         have HBe := ak_ HBs.out.1
         go_wp2
         go_roundg go
         case rel => exact ⟨HBe, i + 1, by omega, by go_num⟩
         case measure => omega
        | succ gt =>
         have hltt : t < gs.length := by omega
         obtain ⟨x, hx⟩ : ∃ x, gs[t]? = some x := ⟨_, List.getElem?_eq_getElem hltt⟩
         have hilt : (t : Int) < (gs.length : Int) := by omega
         obtain ⟨m0, m8, mb0, mb1⟩ := HGM.out t x hx
         obtain ⟨ad, hea, y0⟩ := int_cells HC8.out t x hx
         cases hea
         have y9 : wr.cell? (ad.add t) = some (.int .i64 x) := by
          rw [← y0]
          unfold World.cell?
          rw [HBs.out.2]
         have hpw1 := (pow_small m0 m8).1
         have hpw2 := (pow_small m0 m8).2
         have hsum := small_sum _ _ mb0 mb1 hpw1
         have HTK := ak_ (show pows (gs.take (t + 1)) = pows (gs.take t) + 2 ^ x.toNat by
          rw [List.take_succ_eq_append_getElem hltt, pows_snoc]
          rw [List.getElem?_eq_getElem hltt] at hx
          cases hx
          rfl)
         clear hx y0 hpw1 mb0 mb1
         go_wp2
         go_roundg gt
         case rel => exact ⟨⟨HBs.out.1, HBs.out.2⟩, t + 1, by omega, by go_num, by rw [HTK.out, hsum]⟩
         case measure => omega
      | succ gj =>
       have hltj : j < l9.length := by omega
       obtain ⟨x, hx⟩ : ∃ x, l9[j]? = some x := ⟨_, List.getElem?_eq_getElem hltj⟩
       obtain ⟨ad, he, h0, hj⟩ := flat_cells HC6.out j x hx
       cases he
       have y0 := h0 _ rfl
       have y1 := hj 1 _ (by decide) rfl
       have y2 := hj 2 _ (by decide) rfl
       have y3 := hj 3 _ (by decide) rfl
       have y4 := hj 4 _ (by decide) rfl
       have y5 := hj 5 _ (by decide) rfl
       have y6 := hj 6 _ (by decide) rfl
       have y7 := hj 7 _ (by decide) rfl
       have y8 := hj 8 _ (by decide) rfl
       have y9 := hj 9 _ (by decide) rfl
       have y10 := hj 10 _ (by decide) rfl
       have y11 := hj 11 _ (by decide) rfl
       have y12 := hj 12 _ (by decide) rfl
       clear h0 hj
       replace y0 := (HBi.out.cell (World.block_lt_of_cell? W6 _ y0)).trans y0
       replace y1 := (HBi.out.cell (World.block_lt_of_cell? W6 _ y1)).trans y1
       replace y2 := (HBi.out.cell (World.block_lt_of_cell? W6 _ y2)).trans y2
       replace y3 := (HBi.out.cell (World.block_lt_of_cell? W6 _ y3)).trans y3
       replace y4 := (HBi.out.cell (World.block_lt_of_cell? W6 _ y4)).trans y4
       replace y5 := (HBi.out.cell (World.block_lt_of_cell? W6 _ y5)).trans y5
       replace y6 := (HBi.out.cell (World.block_lt_of_cell? W6 _ y6)).trans y6
       replace y7 := (HBi.out.cell (World.block_lt_of_cell? W6 _ y7)).trans y7
       replace y8 := (HBi.out.cell (World.block_lt_of_cell? W6 _ y8)).trans y8
       replace y9 := (HBi.out.cell (World.block_lt_of_cell? W6 _ y9)).trans y9
       replace y10 := (HBi.out.cell (World.block_lt_of_cell? W6 _ y10)).trans y10
       replace y11 := (HBi.out.cell (World.block_lt_of_cell? W6 _ y11)).trans y11
       replace y12 := (HBi.out.cell (World.block_lt_of_cell? W6 _ y12)).trans y12
       have hilj : (j : Int) < (l9.length : Int) := by omega
       have HEj := ak_ (show (l9.take (j + 1)).map (·.gor) = (l9.take j).map (·.gor) ++ [x.gor] by rw [List.take_succ_eq_append_getElem hltj, List.map_append]; rw [List.getElem?_eq_getElem hltj] at hx; cases hx; rfl)
       have hlenj : ((l9.take j).map (·.gor)).length = j := by rw [List.length_map, List.length_take]; omega
       have HLj := ak_ hlenj
       clear hx hlenj
       have HWj := ak_ (HBi.out.alloc HBi.out.size (.cells #[.int .i64 x.gor.state, .bool x.gor.permit, .int .i64 x.act, .int .i64 x.pc, .int .i64 x.worked, .int .i64 x.ticket, .bool x.first, .bool x.told, .int .i64 x.own.since, .bool x.own.starving, .bool x.own.awake, .int .i64 x.own.rounds, .int .i64 x.own.old] 44))
       go_wp2_with (first | (at_builtin; refine Kd.R_append kGor (w0 := W6) W6.heap.size rfl (.tmp 80) (.tmp 83) 65 40 (.agg #[.int .i64 0, .bool false]) 16 rfl Tryz.underlying65 info40T rfl (by decide) (by omega) _ ((l9.take j).map (·.gor)) x.gor [.int .i64 x.gor.state, .bool x.gor.permit] (fun _ => True) (fun _ => False) rfl ?aX ?aP (fun _ hk => hk.elim) ?aF ?aO ?aB ?aS ?aL ?_; (case aX => simp [Act.eval]); (case aP => exact rfl); (case aB => exact HWj.out); (case aF => exact (fun _ _ => trivial)); (case aO => exact Kd.R_alloc HO.out _); (case aS => exact HWj.out.size); (case aL => rw [HLj.out]; omega); intro v5 w10 ho hb hg hat; have HOj := ak_ ho; have HBj := ak_ hb; clear ho hb hg hat))
       go_roundg gj
       case rel => exact ⟨HBj, j + 1, by omega, by go_num, ⟨by rw [HEj.out]; exact HOj.out⟩⟩
       case measure => omega
 ·have P3 := ak_ (masks_bad A1 c1 LA w2 (HCA.out w2 (Kept.refl _ _)) hl1 (by simpa using hok) A2 c2 xs hmn)
  clear hLL hok hmn
  go_wp2_with fail
  refine P3.out.mono ?_
  rintro e w3 ⟨rfl, hb3⟩
  have HB3 := ak_ (bel3 HB2.out hb3)
  have P4 := ak_ (alive7 w3 (HL.out.below (Below.mono HB3.out (Nat.le_refl _))))
  clear hb3 P3
  go_wp2_with fail
  refine P4.out.mono ?_
  rintro e w4 ⟨rfl, hb4⟩
  have HB4 := ak_ (bel3 HB3.out hb4)
  clear hb4 P4
  go_wp2
  go_ret
  exact ⟨rfl, HB4.out⟩
end Go.Proofs.YtoimfknjfeencaaGreatDoor.Hand
end
section
namespace Go.Proofs.YtoimfknjfeencaaGreatDoor.Hand
open Go.RowKit Go.ChangeShapes Go.WideShapes Go.Deep Go.Proofs.YtoimfknjfeencaaGreatDoorW.PrintWords Go.Proofs.YtoimfknjfeencaaGreatDoorW.PrintLast
section
section
variable {H : Type} {enc : TypeId × Value → H} {P : Program} {w : World} {base : Nat} {spare : Nat → Bool} {held : Bool}
theorem C_of_trod {α : Type} (d : Kd α) (Q : α → Prop) {t e : TypeId} {fuel : Nat} {A : Option Addr} {len cap : Nat} {x : DataW H × List MemPlace} (ht : P.underlying t = some (.slice e)) (hsz : P.cellsOf e = d.sz)
  (hel : ∀ n cs y, cs.length = d.sz → DataW.trod enc P w base spare held n e cs = some y → ∃ p, d.K w p cs ∧ Q p) (h : DataW.trod enc P w base spare held fuel t [.slice A len cap] = some x) :
  ∃ xs : List α, d.C w A len xs ∧ xs.length = len ∧ len ≤ cap ∧ len ≤ maxLen ∧ ∀ p ∈ xs, Q p := by
 rcases open_slice ht h with ⟨hcs, _⟩ | ⟨a, len', cap', m, n, D, Pl, hcs, _, hl, hm, hmm, _, hi⟩
 ·simp at hcs
  obtain ⟨rfl, rfl, rfl⟩ := hcs
  exact ⟨[], ⟨rfl, by omega, fun h => by omega⟩, rfl, by omega, by omega, fun p hp => by simp at hp⟩
 ·simp at hcs
  obtain ⟨rfl, rfl, rfl⟩ := hcs
  have hle : len ≤ m := by rw [hmm]; split <;> omega
  have key : ∀ k, k ≤ len → ∃ xs : List α, xs.length = k ∧ (∀ p ∈ xs, Q p) ∧ ∀ j p, xs[j]? = some p → ∃ c : List Value, c.length = d.sz ∧ d.K w p c ∧ ∀ i u, c[i]? = some u → w.cell? (a.add (j * d.sz + i)) = some u := by
   intro k
   induction k with
   | zero => exact fun _ => ⟨[], rfl, fun p hp => by simp at hp, fun j p hj => by simp at hj⟩
   | succ k ih =>
    intro hk
    obtain ⟨xs, hx, hq, hc⟩ := ih (by omega)
    obtain ⟨cs', hc', ht'⟩ := hi k (by omega)
    obtain ⟨_, hcl, hat⟩ := World.cells?_some hc'
    rw [hsz] at hcl hat hc'
    obtain ⟨p, hK, hQ⟩ := hel _ _ _ hcl ht'
    refine ⟨xs ++ [p], by simp [hx], ?_, ?_⟩
    ·intro q hq'
     rcases List.mem_append.1 hq' with h' | h'
     ·exact hq q h'
     ·rw [List.mem_singleton.1 h']; exact hQ
    ·intro j q hj
     rcases Nat.lt_or_ge j xs.length with hjl | hjl
     ·rw [List.getElem?_append_left hjl] at hj
      exact hc j q hj
     ·have hjk : j = k := by
       have := (List.getElem?_eq_some_iff.1 hj).1
       simp [hx] at this
       omega
      subst hjk
      rw [List.getElem?_append_right hjl, hx, Nat.sub_self] at hj
      have hj : p = q := by simpa using hj
      subst hj
      refine ⟨cs', hcl, hK, fun i u hu => ?_⟩
      have hil : i < d.sz := by rw [← hcl]; exact (List.getElem?_eq_some_iff.1 hu).1
      rw [← Go.Deep.add_add, hat i hil, hu]
  obtain ⟨xs, hx, hq, hc⟩ := key len (Nat.le_refl _)
  have hmax : len ≤ maxLen := by omega
  exact ⟨xs, ⟨hx, by unfold maxLen at hmax; omega, fun _ => ⟨a, rfl, hc⟩⟩, hx, hl, hmax, hq⟩
end
end
end Go.Proofs.YtoimfknjfeencaaGreatDoor.Hand
end
