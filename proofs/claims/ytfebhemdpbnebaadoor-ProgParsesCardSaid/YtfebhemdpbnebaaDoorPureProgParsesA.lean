/- Part A of the plain law of ProgParses: what the functions tell, in plain Lean. Conditions: bounds on the sizes, as each lemma names them. -/
import Derived.Test.YtfebhemdpbnebaaDoorPProgParsesx8
import Derived.Test.YtfebhemdpbnebaaDoorPlain
import Derived.Lib.IndexBytes
namespace Go.Proofs.YtfebhemdpbnebaaDoor.Pure
open Go.RowKit Go.Proofs.YtfebhemdpbnebaaDoor.PProgParses Go.Proofs.YtfebhemdpbnebaaDoorW.PrintWords Go.Proofs.YtfebhemdpbnebaaDoorW.PrintLast Go.Proofs.YtfebhemdpbnebaaDoorW.PrintMore Go.Proofs.YtfebhemdpbnebaaDoor.Hand
set_option linter.unusedVariables false
namespace ProgParsesAid

theorem wr (x : Int) (h0 : -9223372036854775808 ≤ x) (h1 : x ≤ 9223372036854775807) : wrap64 x = x := by unfold wrap64; omega
theorem len_data (s : ByteArray) : s.data.toList.length = s.size := by rw [Array.length_toList]; rfl
theorem bt_get (s : ByteArray) (i : Nat) (h : i < s.data.toList.length) : bt s (i : Int) = (s.data.toList[i].toNat : Int) := by
  have h' : i < s.size := by rw [← len_data]; exact h
  unfold bt
  simp only [Int.toNat_natCast]
  rw [dif_pos h']
  rfl
theorem rdOf_get (L : List ByteArray) (i : Nat) (h : i < L.length) : rdOf ByteArray.empty L (i : Int) = L[i] := by
  unfold rdOf
  rw [Int.toNat_natCast, List.getD_eq_getElem?_getD, List.getElem?_eq_getElem h]
  rfl
theorem bytes_toList (l : List UInt8) : (⟨l.toArray⟩ : ByteArray).toList = l := by
  rw [Lib.toList_data]
theorem ba_size (l : List UInt8) : (⟨l.toArray⟩ : ByteArray).size = l.length := by simp [ByteArray.size]
theorem ba_app (x y : List UInt8) : (⟨x.toArray⟩ : ByteArray) ++ ⟨y.toArray⟩ = ⟨(x ++ y).toArray⟩ := by
  apply ByteArray.ext
  simp [ByteArray.data_append]
theorem digit_one (n : Int) (h0 : 0 ≤ n) (h1 : n < 10) : strOfNums ([(wrap64 (48 + n)) % 256] : List Int) = ⟨(Lib.decDigits n.toNat).toArray⟩ := by
  rw [Lib.decDigits_one (by omega), wr (48 + n) (by omega) (by omega)]
  show (⟨[UInt8.ofNat ((48 + n) % 256).toNat].toArray⟩ : ByteArray) = _
  rw [show ((48 + n) % 256).toNat = 48 + n.toNat by omega]
theorem digits_f (m : Nat) : ∀ (n : Int) (k : Nat), 0 ≤ n → n < 10 ^ m → m < k → m ≤ 30 → n ≤ 4294967296 → deadboltref12_digits.f k n = some ⟨(Lib.decDigits n.toNat).toArray⟩ := by
  induction m with
  | zero =>
    intro n k h0 h1 hk hm hb
    obtain ⟨k, rfl⟩ : ∃ j, k = j + 1 := ⟨k - 1, by omega⟩
    simp only [deadboltref12_digits.f]
    rw [if_pos (by omega), digit_one n h0 (by omega)]
  | succ m ih =>
    intro n k h0 h1 hk hm hb
    obtain ⟨k, rfl⟩ : ∃ j, k = j + 1 := ⟨k - 1, by omega⟩
    by_cases hn : n < 10
    · simp only [deadboltref12_digits.f]
      rw [if_pos hn, digit_one n h0 hn]
    · have e1 : Int.tdiv n 10 = n / 10 := Int.tdiv_eq_ediv_of_nonneg h0
      have e2 : Int.tmod n 10 = n % 10 := Int.tmod_eq_emod_of_nonneg h0
      have hp : (10 : Int) ^ (m + 1) = 10 ^ m * 10 := Int.pow_succ 10 m
      have hm0 : 0 < m := by
        rcases Nat.eq_zero_or_pos m with e | e
        · subst e; simp at h1; omega
        · exact e
      have hk2 : deadboltref12_digits.f k (n % 10) = some ⟨(Lib.decDigits (n % 10).toNat).toArray⟩ := by
        obtain ⟨k, rfl⟩ : ∃ j, k = j + 1 := ⟨k - 1, by omega⟩
        simp only [deadboltref12_digits.f]
        rw [if_pos (by omega), digit_one _ (by omega) (by omega)]
      simp only [deadboltref12_digits.f]
      rw [if_neg hn, e1, e2, wr (n / 10) (by omega) (by omega), ih (n / 10) k (by omega) (by omega) (by omega) (by omega) (by omega), hk2]
      simp only [Option.bind_some]
      have hl : (Lib.decDigits (n / 10).toNat).length ≤ 21 := by
        have h := Lib.itoa_length_le (n / 10) (by omega) (by omega)
        unfold Lib.itoa at h
        rwa [if_neg (by omega)] at h
      have hl2 : (Lib.decDigits (n % 10).toNat).length ≤ 21 := by
        have h := Lib.itoa_length_le (n % 10) (by omega) (by omega)
        unfold Lib.itoa at h
        rwa [if_neg (by omega)] at h
      rw [if_pos (by rw [ba_size, ba_size]; omega), ba_app]
      congr 3
      conv => rhs; rw [Lib.decDigits, dif_neg (show ¬ n.toNat < 10 by omega)]
      rw [show (n / 10).toNat = n.toNat / 10 by omega, show (n % 10).toNat = n.toNat % 10 by omega, Lib.decDigits_one (show n.toNat % 10 < 10 by omega)]
/-! ### The reference's act -/
def seen (l : List UInt8) : Option Nat → Int × Bool
  | some m => (m, Lib.decDigits m == l)
  | none => (0, false)
theorem number_l (s : ByteArray) (hs : s.size ≤ 6) : ∀ (j i acc k : Nat), i + j = s.size → acc < 10 ^ i → j + 30 ≤ k →
    deadboltref12_number.l0 (k + 1) s (acc : Int) (i : Int) = some (seen s.data.toList (Lib.decFrom acc (s.data.toList.drop i))) := by
  have hlen := len_data s
  intro j
  induction j with
  | zero =>
    intro i acc k hi ha hk
    have hp : 10 ^ i ≤ 10 ^ 6 := Nat.pow_le_pow_right (by omega) (by omega)
    simp only [deadboltref12_number.l0]
    rw [if_neg (by omega), List.drop_eq_nil_of_le (by omega), digits_f 6 (acc : Int) k (by omega) (by omega) (by omega) (by omega) (by omega)]
    simp only [Option.bind_some, Lib.decFrom, seen, Int.toNat_natCast]
    rw [bytes_toList, Lib.toList_data]
  | succ j ih =>
    intro i acc k hi ha hk
    have hp : 10 ^ i ≤ 10 ^ 6 := Nat.pow_le_pow_right (by omega) (by omega)
    have hp2 : 10 ^ (i + 1) = 10 ^ i * 10 := Nat.pow_succ _ _
    have hin : i < s.data.toList.length := by omega
    have hb := bt_get s i hin
    have hr := bt_range s (i : Int)
    rw [List.drop_eq_getElem_cons hin]
    generalize s.data.toList[i] = b at hb
    simp only [deadboltref12_number.l0]
    rw [if_pos (by omega), if_pos (by omega)]
    rw [hb] at hr ⊢
    simp only [Lib.decFrom]
    unfold Lib.digitVal
    by_cases h48 : (b.toNat : Int) < 48
    · rw [if_pos h48, if_neg (by omega)]
      rfl
    · rw [if_neg h48]
      by_cases h57 : (b.toNat : Int) > 57
      · rw [if_pos h57, if_neg (by omega)]
        rfl
      · rw [if_neg h57, if_pos (by omega)]
        simp only []
        obtain ⟨k, rfl⟩ : ∃ q, k = q + 1 := ⟨k - 1, by omega⟩
        have hq := ih (i + 1) (acc * 10 + (b.toNat - 48)) k (by omega) (by omega) (by omega)
        have ea : wrap64 (wrap64 (10 * (acc : Int)) + ((b.toNat : Int) - 48) % 256) = ((acc * 10 + (b.toNat - 48) : Nat) : Int) := by
          rw [wr (10 * (acc : Int)) (by omega) (by omega), wr _ (by omega) (by omega)]
          omega
        have ei : wrap64 ((i : Int) + 1) = ((i + 1 : Nat) : Int) := by
          rw [wr _ (by omega) (by omega)]
          omega
        rw [ea, ei]
        exact hq
def refNum (l : List UInt8) : Int × Bool := if 1 ≤ l.length ∧ l.length ≤ 6 then seen l (Lib.decFrom 0 l) else (0, false)
theorem number_f (s : ByteArray) (k : Nat) (hk : 60 ≤ k) : deadboltref12_number.f (k + 2) s = some (refNum s.data.toList) := by
  unfold deadboltref12_number.f refNum
  rw [len_data]
  by_cases h1 : (s.size : Int) < 1
  · rw [if_pos h1, if_neg (by omega)]
    simp [deadboltref12_number.j0]
  · rw [if_neg h1]
    simp only [deadboltref12_number.j0]
    by_cases h6 : (s.size : Int) > 6
    · rw [decide_eq_true h6, if_pos rfl, if_neg (by omega)]
    · rw [decide_eq_false h6, if_neg (by decide), if_pos (by omega)]
      exact number_l s (by omega) s.size 0 0 k (by omega) (by decide) (by omega)
theorem refNum_numv (l : List UInt8) : ((refNum l).2 = true → numv l = some (refNum l).1) ∧ ((refNum l).2 = false → numv l = none) := by
  have hnone : ∀ (P : Prop), (∀ n, numv l = some n → False) → numv l = none := by
    intro _ h
    cases hv : numv l with
    | none => rfl
    | some n => exact (h n hv).elim
  have hdig : ∀ n, numv l = some n → Lib.decFrom 0 l = some n.toNat ∧ l = Lib.decDigits n.toNat ∧ 1 ≤ l.length ∧ l.length ≤ 6 := by
    intro n hv
    obtain ⟨h0, h1, he⟩ := (numv_iff l n).1 hv
    have hlen := itoa_len n h0 h1
    have hone := itoa_one n h0
    rw [he, itoa_pos n h0] at *
    exact ⟨dec_digits _, rfl, hone, hlen⟩
  unfold refNum
  by_cases hl : 1 ≤ l.length ∧ l.length ≤ 6
  · rw [if_pos hl]
    cases hd : Lib.decFrom 0 l with
    | none =>
      refine ⟨fun h => (by simp [seen] at h), fun _ => hnone True fun n hv => ?_⟩
      rw [(hdig n hv).1] at hd
      cases hd
    | some m =>
      simp only [seen]
      refine ⟨fun h => ?_, fun h => hnone True fun n hv => ?_⟩
      · have he : Lib.decDigits m = l := by simpa using h
        have hm : m < 1000000 := by
          refine Classical.byContradiction fun q => ?_
          have h7 : ∀ (u : Nat), 1000000 ≤ u → 7 ≤ (Lib.decDigits u).length := by
            intro u hu
            rw [Lib.decDigits_length]
            have := Lib.lt_pow_nDigits u
            refine Classical.byContradiction fun q => ?_
            have : 10 ^ Lib.nDigits u ≤ 10 ^ 6 := Nat.pow_le_pow_right (by omega) (by omega)
            omega
          have := h7 m (by omega)
          rw [he] at this
          omega
        refine (numv_iff l _).2 ⟨by omega, by omega, ?_⟩
        rw [itoa_pos _ (by omega), Int.toNat_natCast, he]
      · obtain ⟨h1, h2, _, _⟩ := hdig n hv
        rw [h1] at hd
        cases hd
        rw [← h2] at h
        simp at h
  · rw [if_neg hl]
    refine ⟨fun h => (by cases h), fun _ => hnone True fun n hv => ?_⟩
    obtain ⟨_, _, h1, h2⟩ := hdig n hv
    exact hl ⟨h1, h2⟩
theorem Act_f (k n : Int) : deadboltref12_Act.f k n = some (isActP k n) := by
  unfold deadboltref12_Act.f isActP
  by_cases h3 : k = 3
  · rw [if_pos h3, if_pos h3]
    by_cases h0 : n ≥ 0
    · rw [if_pos h0]; congr 1; exact decide_eq_decide.2 (by omega)
    · rw [if_neg h0]; congr 1; exact (decide_eq_false (by omega)).symm
  · rw [if_neg h3, if_neg h3]
    by_cases hk : k ≥ 0
    · rw [if_pos hk]
      by_cases hk2 : k ≤ 2
      · rw [if_pos hk2]
        by_cases h0 : n ≥ 0
        · rw [if_pos h0]; congr 1; exact decide_eq_decide.2 (by omega)
        · rw [if_neg h0]; congr 1; exact (decide_eq_false (by omega)).symm
      · rw [if_neg hk2]; congr 1; exact (decide_eq_false (by omega)).symm
    · rw [if_neg hk]; congr 1; exact (decide_eq_false (by omega)).symm
/-- What is told of a number behind a word. -/
def numres (k : Int) (r : List UInt8) : Int × Int × Int := match numv r with
  | none => (0, 0, 9)
  | some n => if isActP k n = true then (k, n, 0) else (0, 0, 3)
def theWords : List ByteArray := [⟨#[108, 111, 99, 107]⟩, ⟨#[116, 114, 121]⟩, ⟨#[117, 110, 108, 111, 99, 107]⟩, ⟨#[119, 111, 114, 107]⟩]
theorem act_step (s : ByteArray) (hs : s.size ≤ 4096) (i : Nat) (w : ByteArray) (k : Nat) (hk : 100 ≤ k) (hi : i < 4) (hw : rdOf ByteArray.empty theWords (i : Int) = w) (hwz : w.size ≤ 6) :
    deadboltref12_act.l0 (k + 2) s theWords 4 (i : Int) = if w.size + 1 < s.size ∧ s.data.toList.take (w.size + 1) = w.data.toList ++ [32] then some (numres i (s.data.toList.drop (w.size + 1))) else deadboltref12_act.l0 k s theWords 4 ((i + 1 : Nat) : Int) := by
  have hlen := len_data s
  have ei : wrap64 ((i : Int) + 1) = ((i + 1 : Nat) : Int) := by
    rw [wr _ (by omega) (by omega)]
    omega
  have ew : wrap64 ((w.size : Int) + 1) = ((w.size + 1 : Nat) : Int) := by
    rw [wr _ (by omega) (by omega)]
    omega
  simp only [deadboltref12_act.l0]
  rw [hw, ew, if_pos (by omega), if_pos (by omega), if_pos (show (i : Int) < (theWords.length : Int) by show (i : Int) < 4; omega)]
  simp only [Int.toNat_natCast]
  by_cases hsz : (s.size : Int) ≤ ((w.size + 1 : Nat) : Int)
  · rw [if_pos hsz, if_neg (by omega)]
    simp only [deadboltref12_act.j1, if_true, ei]
  · rw [if_neg hsz, if_pos (by omega), if_pos (by omega), if_pos (by omega)]
    have ht : (s.extract 0 (w.size + 1)).toList = s.data.toList.take (w.size + 1) := by rw [Lib.toList_data, ext_data]; simp
    have hw2 : (w ++ (⟨#[32]⟩ : ByteArray)).toList = w.data.toList ++ [32] := by rw [Lib.toList_data, ByteArray.data_append]; simp
    rw [ht, hw2]
    by_cases he : s.data.toList.take (w.size + 1) = w.data.toList ++ [32]
    · rw [if_pos ⟨by omega, he⟩, he]
      simp only [deadboltref12_act.j1, bne_self_eq_false, Bool.false_eq_true, if_false]
      rw [ew, if_pos (by omega), if_pos (by omega)]
      obtain ⟨k, rfl⟩ : ∃ q, k = q + 2 := ⟨k - 2, by omega⟩
      simp only [Int.toNat_natCast]
      rw [number_f _ k (by omega)]
      have hd : (s.extract (w.size + 1) s.size).data.toList = s.data.toList.drop (w.size + 1) := Lib.extract_to_end s _
      rw [hd]
      simp only [Option.bind_some]
      have hn := refNum_numv (s.data.toList.drop (w.size + 1))
      unfold numres
      by_cases hb : (refNum (s.data.toList.drop (w.size + 1))).2 = true
      · rw [if_pos hb, hn.1 hb, Act_f]
        simp only [Option.bind_some]
        split <;> rfl
      · rw [if_neg hb, hn.2 (by simpa using hb)]
    · rw [if_neg (fun q => he q.2)]
      have hne : (s.data.toList.take (w.size + 1) != w.data.toList ++ [32]) = true := by simpa using he
      rw [hne]
      simp only [deadboltref12_act.j1, if_true, ei]
theorem rest_eq (w l : List UInt8) (h : (Lib.cut l [32]).1 = w ∧ (Lib.cut l [32]).2.1 ≠ []) : l.drop (w.length + 1) = (Lib.cut l [32]).2.1 := by
  rcases cut_blank l with ⟨hl, _⟩ | ⟨a, b, hl, he, _⟩
  · rw [hl] at h
    exact absurd rfl h.2
  · rw [hl] at h ⊢
    obtain ⟨rfl, _⟩ := h
    conv => lhs; rw [he]
    simp
theorem act_ref (s : ByteArray) (hs : s.size ≤ 4096) (k : Nat) (hk : 120 ≤ k) : deadboltref12_act.f (k + 9) s = some (actv s.data.toList) := by
  unfold deadboltref12_act.f deadboltref12_words.f
  simp only [Option.bind_some]
  show deadboltref12_act.l0 (k + 7 + 2) s theWords 4 ((0 : Nat) : Int) = _
  have st : ∀ (i : Nat) (w : ByteArray) (wl : List UInt8) (k : Nat), 100 ≤ k → i < 4 → rdOf ByteArray.empty theWords (i : Int) = w → w.data.toList = wl → wl.length ≤ 6 → 32 ∉ wl →
      deadboltref12_act.l0 (k + 2) s theWords 4 (i : Int) = if (Lib.cut s.data.toList [32]).1 = wl ∧ (Lib.cut s.data.toList [32]).2.1 ≠ [] then some (numres i (Lib.cut s.data.toList [32]).2.1) else deadboltref12_act.l0 k s theWords 4 ((i + 1 : Nat) : Int) := by
    intro i w wl k hk hi hw hwl h6 h32
    subst hwl
    have hz := len_data w
    rw [act_step s hs i w k hk hi hw (by omega)]
    have hiff := ahead_iff w.data.toList s.data.toList h32
    rw [hz, len_data s] at hiff
    by_cases hc : (Lib.cut s.data.toList [32]).1 = w.data.toList ∧ (Lib.cut s.data.toList [32]).2.1 ≠ []
    · rw [if_pos hc, if_pos (hiff.2 hc), ← hz, rest_eq _ _ hc]
    · rw [if_neg hc, if_neg (fun q => hc (hiff.1 q))]
  rw [st 0 ⟨#[108, 111, 99, 107]⟩ kLock (k + 7) (by omega) (by decide) rfl rfl (by decide) (by decide)]
  rw [show k + 7 = k + 5 + 2 from rfl, st 1 ⟨#[116, 114, 121]⟩ kTry (k + 5) (by omega) (by decide) rfl rfl (by decide) (by decide)]
  rw [show k + 5 = k + 3 + 2 from rfl, st 2 ⟨#[117, 110, 108, 111, 99, 107]⟩ kUnlock (k + 3) (by omega) (by decide) rfl rfl (by decide) (by decide)]
  rw [show k + 3 = k + 1 + 2 from rfl, st 3 ⟨#[119, 111, 114, 107]⟩ kWork (k + 1) (by omega) (by decide) rfl rfl (by decide) (by decide)]
  have hend : deadboltref12_act.l0 (k + 1) s theWords 4 ((3 + 1 : Nat) : Int) = some (0, 0, 8) := by
    simp only [deadboltref12_act.l0]
    rw [if_neg (by decide)]
  rw [hend]
  unfold actv kindOf numres
  by_cases hr : (Lib.cut s.data.toList [32]).2.1 = []
  · simp only [hr, ne_eq, not_true_eq_false, and_false, if_false, if_true]
    split <;> rfl
  · simp only [ne_eq, hr, not_false_eq_true, and_true, if_false]
    by_cases h0 : (Lib.cut s.data.toList [32]).1 = kLock
    · simp only [if_pos h0]
      rfl
    · simp only [if_neg h0]
      by_cases h1 : (Lib.cut s.data.toList [32]).1 = kTry
      · simp only [if_pos h1]
        rfl
      · simp only [if_neg h1]
        by_cases h2 : (Lib.cut s.data.toList [32]).1 = kUnlock
        · simp only [if_pos h2]
          rfl
        · simp only [if_neg h2]
          by_cases h3 : (Lib.cut s.data.toList [32]).1 = kWork
          · simp only [if_pos h3]
            rfl
          · simp only [if_neg h3]

end ProgParsesAid

end Go.Proofs.YtfebhemdpbnebaaDoor.Pure
