/- Part A of the plain law of ProgPrints: what the functions tell, in plain Lean. Conditions: bounds on the sizes, as each lemma names them. -/
import Derived.Test.YtfebhemdpbnebaaDoorPProgPrintsx9
import Derived.Test.YtfebhemdpbnebaaDoorPlain
import Derived.Lib.IndexBytes
namespace Go.Proofs.YtfebhemdpbnebaaDoor.Pure
open Go.RowKit Go.Proofs.YtfebhemdpbnebaaDoor.PProgPrints Go.Proofs.YtfebhemdpbnebaaDoorW.PrintWords Go.Proofs.YtfebhemdpbnebaaDoorW.PrintLast Go.Proofs.YtfebhemdpbnebaaDoorW.PrintMore Go.Proofs.YtfebhemdpbnebaaDoor.Hand
set_option linter.unusedVariables false
set_option linter.unusedSimpArgs false
namespace ProgPrintsAid

theorem wr (x : Int) (h0 : -9223372036854775808 ≤ x) (h1 : x ≤ 9223372036854775807) : wrap64 x = x := by unfold wrap64; omega
theorem len_data (s : ByteArray) : s.data.toList.length = s.size := by rw [Array.length_toList]; rfl
theorem bt_get (s : ByteArray) (i : Nat) (h : i < s.data.toList.length) : bt s (i : Int) = (s.data.toList[i].toNat : Int) := by
  have h' : i < s.size := by rw [← len_data]; exact h
  unfold bt
  simp only [Int.toNat_natCast]
  rw [dif_pos h']
  rfl
theorem rdOf_get (L : List ByteArray) (i : Nat) (h : i < L.length) : rdOf ByteArray.empty L (i : Int) = L[i] := by
  unfold rdOf
  rw [Int.toNat_natCast, List.getD_eq_getElem?_getD, List.getElem?_eq_getElem h]
  rfl
theorem bytes_toList (l : List UInt8) : (⟨l.toArray⟩ : ByteArray).toList = l := by
  rw [Lib.toList_data]
theorem ba_size (l : List UInt8) : (⟨l.toArray⟩ : ByteArray).size = l.length := by simp [ByteArray.size]
theorem ba_app (x y : List UInt8) : (⟨x.toArray⟩ : ByteArray) ++ ⟨y.toArray⟩ = ⟨(x ++ y).toArray⟩ := by
  apply ByteArray.ext
  simp [ByteArray.data_append]
theorem digit_one (n : Int) (h0 : 0 ≤ n) (h1 : n < 10) : strOfNums ([(wrap64 (48 + n)) % 256] : List Int) = ⟨(Lib.decDigits n.toNat).toArray⟩ := by
  rw [Lib.decDigits_one (by omega), wr (48 + n) (by omega) (by omega)]
  show (⟨[UInt8.ofNat ((48 + n) % 256).toNat].toArray⟩ : ByteArray) = _
  rw [show ((48 + n) % 256).toNat = 48 + n.toNat by omega]
theorem digits_f (m : Nat) : ∀ (n : Int) (k : Nat), 0 ≤ n → n < 10 ^ m → m < k → m ≤ 30 → n ≤ 4294967296 → deadboltref12_digits.f k n = some ⟨(Lib.decDigits n.toNat).toArray⟩ := by
  induction m with
  | zero =>
    intro n k h0 h1 hk hm hb
    obtain ⟨k, rfl⟩ : ∃ j, k = j + 1 := ⟨k - 1, by omega⟩
    simp only [deadboltref12_digits.f]
    rw [if_pos (by omega), digit_one n h0 (by omega)]
  | succ m ih =>
    intro n k h0 h1 hk hm hb
    obtain ⟨k, rfl⟩ : ∃ j, k = j + 1 := ⟨k - 1, by omega⟩
    by_cases hn : n < 10
    · simp only [deadboltref12_digits.f]
      rw [if_pos hn, digit_one n h0 hn]
    · have e1 : Int.tdiv n 10 = n / 10 := Int.tdiv_eq_ediv_of_nonneg h0
      have e2 : Int.tmod n 10 = n % 10 := Int.tmod_eq_emod_of_nonneg h0
      have hp : (10 : Int) ^ (m + 1) = 10 ^ m * 10 := Int.pow_succ 10 m
      have hm0 : 0 < m := by
        rcases Nat.eq_zero_or_pos m with e | e
        · subst e; simp at h1; omega
        · exact e
      have hk2 : deadboltref12_digits.f k (n % 10) = some ⟨(Lib.decDigits (n % 10).toNat).toArray⟩ := by
        obtain ⟨k, rfl⟩ : ∃ j, k = j + 1 := ⟨k - 1, by omega⟩
        simp only [deadboltref12_digits.f]
        rw [if_pos (by omega), digit_one _ (by omega) (by omega)]
      simp only [deadboltref12_digits.f]
      rw [if_neg hn, e1, e2, wr (n / 10) (by omega) (by omega), ih (n / 10) k (by omega) (by omega) (by omega) (by omega) (by omega), hk2]
      simp only [Option.bind_some]
      have hl : (Lib.decDigits (n / 10).toNat).length ≤ 21 := by
        have h := Lib.itoa_length_le (n / 10) (by omega) (by omega)
        unfold Lib.itoa at h
        rwa [if_neg (by omega)] at h
      have hl2 : (Lib.decDigits (n % 10).toNat).length ≤ 21 := by
        have h := Lib.itoa_length_le (n % 10) (by omega) (by omega)
        unfold Lib.itoa at h
        rwa [if_neg (by omega)] at h
      rw [if_pos (by rw [ba_size, ba_size]; omega), ba_app]
      congr 3
      conv => rhs; rw [Lib.decDigits, dif_neg (show ¬ n.toNat < 10 by omega)]
      rw [show (n / 10).toNat = n.toNat / 10 by omega, show (n % 10).toNat = n.toNat % 10 by omega, Lib.decDigits_one (show n.toNat % 10 < 10 by omega)]
theorem split_some (s : ByteArray) (h : s.size ≤ 4096) (sep : ByteArray) (h1 : 1 ≤ sep.size) : strings_Split.f s sep = some (Lib.splitB sep 0 (Lib.countB s sep) s) := by
  unfold strings_Split.f
  rw [if_pos ⟨h, h1⟩]
/-! ### Three acts -/
theorem numv_one (n : Int) (h0 : 0 ≤ n) (h1 : n < 10) (b : UInt8) (hb : b = UInt8.ofNat (48 + n.toNat)) : numv [b] = some n := by
  refine (numv_iff _ _).2 ⟨h0, by omega, ?_⟩
  rw [itoa_pos n h0, Lib.decDigits_one (by omega), hb]
theorem act_lock : actv [108, 111, 99, 107, 32, 48] = (0, 0, 0) := by
  unfold actv
  have hc : Lib.cut [108, 111, 99, 107, 32, 48] [32] = (kLock, [48], true) := by decide
  rw [hc]
  simp only []
  rw [show kindOf kLock = some 0 by decide]
  simp only []
  rw [if_neg (by decide), numv_one 0 (by decide) (by decide) 48 rfl]
  rfl
theorem act_work : actv [119, 111, 114, 107, 32, 53] = (3, 5, 0) := by
  unfold actv
  have hc : Lib.cut [119, 111, 114, 107, 32, 53] [32] = (kWork, [53], true) := by decide
  rw [hc]
  simp only []
  rw [show kindOf kWork = some 3 by decide]
  simp only []
  rw [if_neg (by decide), numv_one 5 (by decide) (by decide) 53 rfl]
  rfl
theorem act_unlock : actv [117, 110, 108, 111, 99, 107, 32, 48] = (2, 0, 0) := by
  unfold actv
  have hc : Lib.cut [117, 110, 108, 111, 99, 107, 32, 48] [32] = (kUnlock, [48], true) := by decide
  rw [hc]
  simp only []
  rw [show kindOf kUnlock = some 2 by decide]
  simp only []
  rw [if_neg (by decide), numv_one 0 (by decide) (by decide) 48 rfl]
  rfl
def three : ByteArray := ⟨#[108, 111, 99, 107, 32, 48, 59, 32, 119, 111, 114, 107, 32, 53, 59, 32, 117, 110, 108, 111, 99, 107, 32, 48]⟩
def pieces3 : List ByteArray := [⟨#[108, 111, 99, 107, 32, 48]⟩, ⟨#[119, 111, 114, 107, 32, 53]⟩, ⟨#[117, 110, 108, 111, 99, 107, 32, 48]⟩]
theorem acts3 (k : Nat) : prog_acts.f (k + 4) pieces3 = some ([(⟨0, 0⟩ : S32), ⟨3, 5⟩, ⟨2, 0⟩], 0) := by
  unfold prog_acts.f
  have e0 : rdOf ByteArray.empty pieces3 0 = ⟨#[108, 111, 99, 107, 32, 48]⟩ := rfl
  have e1 : rdOf ByteArray.empty pieces3 1 = ⟨#[119, 111, 114, 107, 32, 53]⟩ := rfl
  have e2 : rdOf ByteArray.empty pieces3 2 = ⟨#[117, 110, 108, 111, 99, 107, 32, 48]⟩ := rfl
  have hl : (pieces3.length : Int) = 3 := rfl
  have a0 : prog_act.f ⟨#[108, 111, 99, 107, 32, 48]⟩ = some (0, 0, 0) := (act_f _ (by decide)).trans (congrArg some act_lock)
  have a1 : prog_act.f ⟨#[119, 111, 114, 107, 32, 53]⟩ = some (3, 5, 0) := (act_f _ (by decide)).trans (congrArg some act_work)
  have a2 : prog_act.f ⟨#[117, 110, 108, 111, 99, 107, 32, 48]⟩ = some (2, 0, 0) := (act_f _ (by decide)).trans (congrArg some act_unlock)
  have w1 : wrap64 (0 + 1) = 1 := by (unfold wrap64; omega)
  have w2 : wrap64 (1 + 1) = 2 := by (unfold wrap64; omega)
  have w3 : wrap64 (2 + 1) = 3 := by (unfold wrap64; omega)
  rw [hl]
  simp only [prog_acts.l0, e0, e1, e2, a0, a1, a2, w1, w2, w3, hl, Option.bind_some]
  simp
theorem parse3 (k : Nat) : prog_Parse.f (k + 10) three = some ([[(⟨0, 0⟩ : S32), ⟨3, 5⟩, ⟨2, 0⟩]], 0, 0) := by
  unfold prog_Parse.f
  have hne : ¬ three.toList = ([] : List UInt8) := by rw [Lib.toList_data]; decide
  have hts : strings_TrimSuffix.f three (⟨#[10]⟩ : ByteArray) = some three := by
    unfold strings_TrimSuffix.f
    rw [if_pos (by decide)]
    rfl
  have hs1 : Lib.splitB ⟨#[10]⟩ 0 (Lib.countB three ⟨#[10]⟩) three = [three] := map_data_inj ((split1 three).trans (by decide))
  have hs2 : Lib.splitB ⟨#[59, 32]⟩ 0 (Lib.countB three ⟨#[59, 32]⟩) three = pieces3 := map_data_inj ((split2 three).trans (by simp [three, pieces3, cut2]))
  rw [if_neg (by decide), if_neg hne, hts]
  simp only [Option.bind_some]
  rw [split_some _ (by decide) _ (by decide), hs1]
  simp only [Option.bind_some, prog_Parse.j0]
  have hl : (([three] : List ByteArray).length : Int) = 1 := rfl
  have e0 : rdOf ByteArray.empty [three] 0 = three := rfl
  have w1 : wrap64 (0 + 1) = 1 := by (unfold wrap64; omega)
  rw [hl]
  simp only [prog_Parse.l0, e0, hne, split_some three (by decide) ⟨#[59, 32]⟩ (by decide), hs2, Option.bind_some, acts3, w1, hl, if_false]
  simp
theorem alive_f (k : Nat) : deadboltlaw12_alive.f (k + 10) = some true := by
  unfold deadboltlaw12_alive.f
  have hp := parse3 k
  unfold three at hp
  rw [hp]
  simp only [Option.bind_some]
  have ht : prog_Tidy.f (k + 10) [(⟨0, 0⟩ : S32), ⟨3, 5⟩, ⟨2, 0⟩] = some true := by
    have w1 : wrap64 (0 + 1) = 1 := by (unfold wrap64; omega)
    have w2 : wrap64 (1 + 1) = 2 := by (unfold wrap64; omega)
    have w3 : wrap64 (2 + 1) = 3 := by (unfold wrap64; omega)
    have r0 : rd_T32 [(⟨0, 0⟩ : S32), ⟨3, 5⟩, ⟨2, 0⟩] 0 = ⟨0, 0⟩ := rfl
    have r1 : rd_T32 [(⟨0, 0⟩ : S32), ⟨3, 5⟩, ⟨2, 0⟩] 1 = ⟨3, 5⟩ := rfl
    have r2 : rd_T32 [(⟨0, 0⟩ : S32), ⟨3, 5⟩, ⟨2, 0⟩] 2 = ⟨2, 0⟩ := rfl
    have q0 : rd [(0 : Int)] 0 = 0 := rfl
    unfold prog_Tidy.f
    simp only [prog_Tidy.l0, slices_Equal_int_int.f, slices_Equal_int_int.l0, List.length_cons, List.length_nil, w1, w2, w3, r0, r1, r2, q0]
    simp
  have hr : rd_L4 [[(⟨0, 0⟩ : S32), ⟨3, 5⟩, ⟨2, 0⟩]] 0 = [(⟨0, 0⟩ : S32), ⟨3, 5⟩, ⟨2, 0⟩] := rfl
  have r1 : rd_T32 [(⟨0, 0⟩ : S32), ⟨3, 5⟩, ⟨2, 0⟩] 1 = ⟨3, 5⟩ := rfl
  simp only [hr, r1, ht, Option.bind_some]
  simp
/-! ### Tidy -/
theorem wr' (x : Int) (h0 : -9223372036854775808 ≤ x) (h1 : x ≤ 9223372036854775807) : wrap64 x = x := by unfold wrap64; omega
def tidyL : Option Int → List S32 → Bool
  | h, [] => h.isNone
  | h, a :: r => if a.f0 = 1 then false else if a.f0 = 0 then (if h.isSome = true then false else tidyL (some a.f1) r) else if a.f0 = 2 then (if h = some a.f1 then tidyL none r else false) else tidyL h r
theorem equal_one (x : List Int) (n : Int) (hx : x.length ≤ 1) (k : Nat) : slices_Equal_int_int.f (k + 2) x [n] = some (decide (x.head? = some n)) := by
  unfold slices_Equal_int_int.f
  match x, hx with
  | [], _ =>
    rw [if_neg (by simp)]
    simp
  | [m], _ =>
    rw [if_pos (by simp)]
    have w1 : wrap64 1 = 1 := by (unfold wrap64; omega)
    have q0 : rd [m] 0 = m := rfl
    have q1 : rd [n] 0 = n := rfl
    by_cases h : m = n
    · simp [slices_Equal_int_int.l0, w1, q0, q1, h]
    · simp [slices_Equal_int_int.l0, w1, q0, q1, h]
theorem rdT_get (L : List S32) (i : Nat) (h : i < L.length) : rd_T32 L (i : Int) = L[i] := by
  unfold rd_T32
  rw [Int.toNat_natCast, List.getD_eq_getElem?_getD, List.getElem?_eq_getElem h]
  rfl
theorem tidy_l (L : List S32) (hn : L.length ≤ 9000000000) : ∀ (j i k : Nat) (x : List Int), i + j = L.length → x.length ≤ 1 → j + 5 ≤ k → prog_Tidy.l0 k x L (L.length : Int) (i : Int) = some (tidyL x.head? (L.drop i)) := by
  intro j
  induction j with
  | zero =>
    intro i k x hi hx hk
    obtain ⟨k, rfl⟩ : ∃ q, k = q + 1 := ⟨k - 1, by omega⟩
    simp only [prog_Tidy.l0]
    rw [if_neg (by omega), List.drop_eq_nil_of_le (by omega), tidyL]
    match x, hx with
    | [], _ => rfl
    | [m], _ => rfl
  | succ j ih =>
    intro i k x hi hx hk
    obtain ⟨k, rfl⟩ : ∃ q, k = q + 3 := ⟨k - 3, by omega⟩
    have hin : i < L.length := by omega
    have hlt : (i : Int) < (L.length : Int) := by omega
    have h0 : (0 : Int) ≤ (i : Int) := by omega
    have ei : wrap64 ((i : Int) + 1) = ((i + 1 : Nat) : Int) := by
      rw [wr' _ (by omega) (by omega)]
      omega
    rw [List.drop_eq_getElem_cons hin, tidyL, prog_Tidy.l0]
    simp only [hlt, h0, if_true, rdT_get L i hin, ei]
    by_cases h1 : L[i].f0 = 1
    · rw [if_pos h1, if_pos h1]
    · rw [if_neg h1, if_neg h1]
      by_cases hz : L[i].f0 = 0
      · rw [if_pos hz, if_pos hz]
        match x, hx with
        | [], _ =>
          rw [if_neg (by simp), if_neg (by simp)]
          exact ih (i + 1) (k + 2) [L[i].f1] (by omega) (by simp) (by omega)
        | [m], _ =>
          rw [if_pos (by simp), if_pos (by simp)]
      · rw [if_neg hz, if_neg hz]
        by_cases h2 : L[i].f0 = 2
        · rw [if_pos h2, if_pos h2, equal_one x _ hx k]
          simp only [Option.bind_some]
          by_cases he : x.head? = some L[i].f1
          · rw [if_pos he, decide_eq_true he, if_pos rfl]
            exact ih (i + 1) (k + 2) [] (by omega) (by simp) (by omega)
          · rw [if_neg he, decide_eq_false he]
            rfl
        · rw [if_neg h2, if_neg h2]
          exact ih (i + 1) (k + 2) x (by omega) hx (by omega)
theorem Tidy_f (L : List S32) (hn : L.length ≤ 9000000000) (k : Nat) (hk : L.length + 5 ≤ k) : prog_Tidy.f k L = some (tidyL none L) := by
  unfold prog_Tidy.f
  exact tidy_l L hn L.length 0 k [] (by omega) (by simp) (by omega)
theorem tidy_app : ∀ (a b : List S32) (h : Option Int), tidyL h a = true → tidyL h (a ++ b) = tidyL none b
  | [], b, h, q => by
    cases h with
    | none => rfl
    | some n => simp [tidyL] at q
  | x :: a, b, h, q => by
    rw [List.cons_append, tidyL]
    rw [tidyL] at q
    split at q
    · cases q
    · split at q
      · split at q
        · cases q
        · rename_i h1 h0 hs
          rw [if_neg h1, if_pos h0, if_neg hs]
          exact tidy_app a b _ q
      · split at q
        · split at q
          · rename_i h1 h0 h2 he
            rw [if_neg h1, if_neg h0, if_pos h2, if_pos he]
            exact tidy_app a b _ q
          · cases q
        · rename_i h1 h0 h2
          rw [if_neg h1, if_neg h0, if_neg h2]
          exact tidy_app a b _ q
theorem tidy_work (n : Int) : ∀ (p q : List S32) (h : Option Int), tidyL h (p ++ (⟨3, n⟩ : S32) :: q) = tidyL h (p ++ q)
  | [], q, h => by
    rw [List.nil_append, List.nil_append, tidyL]
    simp
  | x :: p, q, h => by
    rw [List.cons_append, List.cons_append, tidyL, tidyL, tidy_work n p q, tidy_work n p q, tidy_work n p q]
theorem tidy_open (n : Int) : ∀ (a : List S32) (h : Option Int), tidyL h (a ++ [(⟨0, n⟩ : S32)]) = false
  | [], h => by
    rw [List.nil_append, tidyL]
    cases h <;> simp [tidyL]
  | x :: a, h => by
    rw [List.cons_append, tidyL, tidy_open n a, tidy_open n a, tidy_open n a]
    simp
theorem tidy_shut (n : Int) : tidyL none [(⟨0, n⟩ : S32), ⟨2, n⟩] = true := by
  simp [tidyL]
/-! ### An act that may be -/
theorem Act_f (k n : Int) : deadboltref12_Act.f k n = some (isActP k n) := by
  unfold deadboltref12_Act.f isActP
  by_cases h3 : k = 3
  · rw [if_pos h3, if_pos h3]
    by_cases h0 : n ≥ 0
    · rw [if_pos h0]; congr 1; exact decide_eq_decide.2 (by omega)
    · rw [if_neg h0]; congr 1; exact (decide_eq_false (by omega)).symm
  · rw [if_neg h3, if_neg h3]
    by_cases hk : k ≥ 0
    · rw [if_pos hk]
      by_cases hk2 : k ≤ 2
      · rw [if_pos hk2]
        by_cases h0 : n ≥ 0
        · rw [if_pos h0]; congr 1; exact decide_eq_decide.2 (by omega)
        · rw [if_neg h0]; congr 1; exact (decide_eq_false (by omega)).symm
      · rw [if_neg hk2]; congr 1; exact (decide_eq_false (by omega)).symm
    · rw [if_neg hk]; congr 1; exact (decide_eq_false (by omega)).symm
/-! ### The few rows that a law looks at -/
theorem rdL_nat (L : List (List S32)) (i : Nat) (h : i < L.length) : rd_L4 L (i : Int) = L[i] := rdL_at L i h
theorem rdT_nat (L : List S32) (i : Nat) (h : i < L.length) : rd_T32 L (i : Int) = L[i] := rdT_at L i h
theorem up1 (i : Nat) (h : i ≤ 9000000000) : wrap64 ((i : Int) + 1) = ((i + 1 : Nat) : Int) := by
  rw [wr _ (by omega) (by omega)]
  omega
theorem mn_nat (n m : Nat) : 0 ≤ mn (n : Int) (m : Int) ∧ mn (n : Int) (m : Int) ≤ (n : Int) ∧ mn (n : Int) (m : Int) ≤ (m : Int) := by
  unfold mn
  split <;> omega
theorem few_l (L : List (List S32)) (hn : L.length ≤ 10) : ∀ (j i k : Nat) (x : List (List S32)), i + j = L.length → x.length = i → j < k → (∀ p ∈ x, p.length ≤ 70) →
    ∃ y, deadboltlaw12_few.l0 k x L (L.length : Int) (i : Int) = some y ∧ y.length ≤ 10 ∧ ∀ p ∈ y, p.length ≤ 70 := by
  intro j
  induction j with
  | zero =>
    intro i k x hi hx hk hm
    obtain ⟨k, rfl⟩ : ∃ q, k = q + 1 := ⟨k - 1, by omega⟩
    simp only [deadboltlaw12_few.l0]
    rw [if_neg (by omega)]
    exact ⟨x, rfl, by omega, hm⟩
  | succ j ih =>
    intro i k x hi hx hk hm
    obtain ⟨k, rfl⟩ : ∃ q, k = q + 1 := ⟨k - 1, by omega⟩
    have hin : i < L.length := by omega
    have hz := mn_nat (L[i]).length 70
    simp only [Int.cast_ofNat_Int] at hz
    simp only [deadboltlaw12_few.l0]
    rw [if_pos (by omega), if_pos (by omega), if_pos (by omega), rdL_nat L i hin, if_pos hz.1, if_pos hz.2.1, if_pos (by omega), up1 i (by omega)]
    refine ih (i + 1) k _ (by omega) (by simp [hx]) (by omega) (fun p hp => ?_)
    rcases List.mem_append.1 hp with hp | hp
    · exact hm p hp
    · rw [List.mem_singleton.1 hp, List.length_take]
      omega
theorem few_f (l : List (List S32)) (k : Nat) (hk : 11 ≤ k) : ∃ y, deadboltlaw12_few.f k l = some y ∧ y.length ≤ 10 ∧ ∀ p ∈ y, p.length ≤ 70 := by
  unfold deadboltlaw12_few.f
  have hz := mn_nat l.length 10
  simp only [Int.cast_ofNat_Int] at hz
  rw [if_pos hz.1, if_pos hz.2.1]
  simp only [Option.bind_some]
  have hl : (l.take (mn (l.length : Int) 10).toNat).length ≤ 10 := by rw [List.length_take]; omega
  exact few_l _ hl _ 0 k [] (Nat.zero_add _) rfl (by omega) (by simp)
theorem alive_any (k : Nat) (hk : 10 ≤ k) : deadboltlaw12_alive.f k = some true := by
  obtain ⟨k, rfl⟩ : ∃ q, k = q + 10 := ⟨k - 10, by omega⟩
  exact alive_f k

end ProgPrintsAid

end Go.Proofs.YtfebhemdpbnebaaDoor.Pure
