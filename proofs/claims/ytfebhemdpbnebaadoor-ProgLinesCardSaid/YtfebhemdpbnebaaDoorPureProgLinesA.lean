/- Part A of the plain law of ProgLines: what the functions tell, in plain Lean. Conditions: bounds on the sizes, as each lemma names them. -/
import Derived.Test.YtfebhemdpbnebaaDoorPProgLinesx7
import Derived.Test.YtfebhemdpbnebaaDoorPlain
import Derived.Lib.IndexBytes
namespace Go.Proofs.YtfebhemdpbnebaaDoor.Pure
open Go.RowKit Go.Proofs.YtfebhemdpbnebaaDoor.PProgLines Go.Proofs.YtfebhemdpbnebaaDoorW.PrintWords Go.Proofs.YtfebhemdpbnebaaDoorW.PrintLast Go.Proofs.YtfebhemdpbnebaaDoorW.PrintMore Go.Proofs.YtfebhemdpbnebaaDoor.Hand
set_option linter.unusedVariables false
set_option linter.unusedSimpArgs false
namespace ProgLinesAid

theorem wr (x : Int) (h0 : -9223372036854775808 ≤ x) (h1 : x ≤ 9223372036854775807) : wrap64 x = x := by unfold wrap64; omega
theorem len_data (s : ByteArray) : s.data.toList.length = s.size := by rw [Array.length_toList]; rfl
theorem bt_get (s : ByteArray) (i : Nat) (h : i < s.data.toList.length) : bt s (i : Int) = (s.data.toList[i].toNat : Int) := by
  have h' : i < s.size := by rw [← len_data]; exact h
  unfold bt
  simp only [Int.toNat_natCast]
  rw [dif_pos h']
  rfl
theorem rdOf_get (L : List ByteArray) (i : Nat) (h : i < L.length) : rdOf ByteArray.empty L (i : Int) = L[i] := by
  unfold rdOf
  rw [Int.toNat_natCast, List.getD_eq_getElem?_getD, List.getElem?_eq_getElem h]
  rfl
theorem bytes_toList (l : List UInt8) : (⟨l.toArray⟩ : ByteArray).toList = l := by
  rw [Lib.toList_data]
theorem ba_size (l : List UInt8) : (⟨l.toArray⟩ : ByteArray).size = l.length := by simp [ByteArray.size]
theorem ba_app (x y : List UInt8) : (⟨x.toArray⟩ : ByteArray) ++ ⟨y.toArray⟩ = ⟨(x ++ y).toArray⟩ := by
  apply ByteArray.ext
  simp [ByteArray.data_append]
theorem split_some (s : ByteArray) (h : s.size ≤ 4096) (sep : ByteArray) (h1 : 1 ≤ sep.size) : strings_Split.f s sep = some (Lib.splitB sep 0 (Lib.countB s sep) s) := by
  unfold strings_Split.f
  rw [if_pos ⟨h, h1⟩]
/-! ### Three acts -/
theorem numv_one (n : Int) (h0 : 0 ≤ n) (h1 : n < 10) (b : UInt8) (hb : b = UInt8.ofNat (48 + n.toNat)) : numv [b] = some n := by
  refine (numv_iff _ _).2 ⟨h0, by omega, ?_⟩
  rw [itoa_pos n h0, Lib.decDigits_one (by omega), hb]
theorem act_lock : actv [108, 111, 99, 107, 32, 48] = (0, 0, 0) := by
  unfold actv
  have hc : Lib.cut [108, 111, 99, 107, 32, 48] [32] = (kLock, [48], true) := by decide
  rw [hc]
  simp only []
  rw [show kindOf kLock = some 0 by decide]
  simp only []
  rw [if_neg (by decide), numv_one 0 (by decide) (by decide) 48 rfl]
  rfl
theorem act_work : actv [119, 111, 114, 107, 32, 53] = (3, 5, 0) := by
  unfold actv
  have hc : Lib.cut [119, 111, 114, 107, 32, 53] [32] = (kWork, [53], true) := by decide
  rw [hc]
  simp only []
  rw [show kindOf kWork = some 3 by decide]
  simp only []
  rw [if_neg (by decide), numv_one 5 (by decide) (by decide) 53 rfl]
  rfl
theorem act_unlock : actv [117, 110, 108, 111, 99, 107, 32, 48] = (2, 0, 0) := by
  unfold actv
  have hc : Lib.cut [117, 110, 108, 111, 99, 107, 32, 48] [32] = (kUnlock, [48], true) := by decide
  rw [hc]
  simp only []
  rw [show kindOf kUnlock = some 2 by decide]
  simp only []
  rw [if_neg (by decide), numv_one 0 (by decide) (by decide) 48 rfl]
  rfl
def three : ByteArray := ⟨#[108, 111, 99, 107, 32, 48, 59, 32, 119, 111, 114, 107, 32, 53, 59, 32, 117, 110, 108, 111, 99, 107, 32, 48]⟩
def pieces3 : List ByteArray := [⟨#[108, 111, 99, 107, 32, 48]⟩, ⟨#[119, 111, 114, 107, 32, 53]⟩, ⟨#[117, 110, 108, 111, 99, 107, 32, 48]⟩]
theorem acts3 (k : Nat) : prog_acts.f (k + 4) pieces3 = some ([(⟨0, 0⟩ : S32), ⟨3, 5⟩, ⟨2, 0⟩], 0) := by
  unfold prog_acts.f
  have e0 : rdOf ByteArray.empty pieces3 0 = ⟨#[108, 111, 99, 107, 32, 48]⟩ := rfl
  have e1 : rdOf ByteArray.empty pieces3 1 = ⟨#[119, 111, 114, 107, 32, 53]⟩ := rfl
  have e2 : rdOf ByteArray.empty pieces3 2 = ⟨#[117, 110, 108, 111, 99, 107, 32, 48]⟩ := rfl
  have hl : (pieces3.length : Int) = 3 := rfl
  have a0 : prog_act.f ⟨#[108, 111, 99, 107, 32, 48]⟩ = some (0, 0, 0) := (act_f _ (by decide)).trans (congrArg some act_lock)
  have a1 : prog_act.f ⟨#[119, 111, 114, 107, 32, 53]⟩ = some (3, 5, 0) := (act_f _ (by decide)).trans (congrArg some act_work)
  have a2 : prog_act.f ⟨#[117, 110, 108, 111, 99, 107, 32, 48]⟩ = some (2, 0, 0) := (act_f _ (by decide)).trans (congrArg some act_unlock)
  have w1 : wrap64 (0 + 1) = 1 := by (unfold wrap64; omega)
  have w2 : wrap64 (1 + 1) = 2 := by (unfold wrap64; omega)
  have w3 : wrap64 (2 + 1) = 3 := by (unfold wrap64; omega)
  rw [hl]
  simp only [prog_acts.l0, e0, e1, e2, a0, a1, a2, w1, w2, w3, hl, Option.bind_some]
  simp
theorem parse3 (k : Nat) : prog_Parse.f (k + 10) three = some ([[(⟨0, 0⟩ : S32), ⟨3, 5⟩, ⟨2, 0⟩]], 0, 0) := by
  unfold prog_Parse.f
  have hne : ¬ three.toList = ([] : List UInt8) := by rw [Lib.toList_data]; decide
  have hts : strings_TrimSuffix.f three (⟨#[10]⟩ : ByteArray) = some three := by
    unfold strings_TrimSuffix.f
    rw [if_pos (by decide)]
    rfl
  have hs1 : Lib.splitB ⟨#[10]⟩ 0 (Lib.countB three ⟨#[10]⟩) three = [three] := map_data_inj ((split1 three).trans (by decide))
  have hs2 : Lib.splitB ⟨#[59, 32]⟩ 0 (Lib.countB three ⟨#[59, 32]⟩) three = pieces3 := map_data_inj ((split2 three).trans (by simp [three, pieces3, cut2]))
  rw [if_neg (by decide), if_neg hne, hts]
  simp only [Option.bind_some]
  rw [split_some _ (by decide) _ (by decide), hs1]
  simp only [Option.bind_some, prog_Parse.j0]
  have hl : (([three] : List ByteArray).length : Int) = 1 := rfl
  have e0 : rdOf ByteArray.empty [three] 0 = three := rfl
  have w1 : wrap64 (0 + 1) = 1 := by (unfold wrap64; omega)
  rw [hl]
  simp only [prog_Parse.l0, e0, hne, split_some three (by decide) ⟨#[59, 32]⟩ (by decide), hs2, Option.bind_some, acts3, w1, hl, if_false]
  simp
theorem alive_f (k : Nat) : deadboltlaw12_alive.f (k + 10) = some true := by
  unfold deadboltlaw12_alive.f
  have hp := parse3 k
  unfold three at hp
  rw [hp]
  simp only [Option.bind_some]
  have ht : prog_Tidy.f (k + 10) [(⟨0, 0⟩ : S32), ⟨3, 5⟩, ⟨2, 0⟩] = some true := by
    have w1 : wrap64 (0 + 1) = 1 := by (unfold wrap64; omega)
    have w2 : wrap64 (1 + 1) = 2 := by (unfold wrap64; omega)
    have w3 : wrap64 (2 + 1) = 3 := by (unfold wrap64; omega)
    have r0 : rd_T32 [(⟨0, 0⟩ : S32), ⟨3, 5⟩, ⟨2, 0⟩] 0 = ⟨0, 0⟩ := rfl
    have r1 : rd_T32 [(⟨0, 0⟩ : S32), ⟨3, 5⟩, ⟨2, 0⟩] 1 = ⟨3, 5⟩ := rfl
    have r2 : rd_T32 [(⟨0, 0⟩ : S32), ⟨3, 5⟩, ⟨2, 0⟩] 2 = ⟨2, 0⟩ := rfl
    have q0 : rd [(0 : Int)] 0 = 0 := rfl
    unfold prog_Tidy.f
    simp only [prog_Tidy.l0, slices_Equal_int_int.f, slices_Equal_int_int.l0, List.length_cons, List.length_nil, w1, w2, w3, r0, r1, r2, q0]
    simp
  have hr : rd_L4 [[(⟨0, 0⟩ : S32), ⟨3, 5⟩, ⟨2, 0⟩]] 0 = [(⟨0, 0⟩ : S32), ⟨3, 5⟩, ⟨2, 0⟩] := rfl
  have r1 : rd_T32 [(⟨0, 0⟩ : S32), ⟨3, 5⟩, ⟨2, 0⟩] 1 = ⟨3, 5⟩ := rfl
  simp only [hr, r1, ht, Option.bind_some]
  simp
/-! ### The same -/
theorem acts_self (a : List S32) (ha : a.length ≤ 9000000000) : ∀ (j i k : Nat), i + j = a.length → j + 1 ≤ k → deadboltref12_Acts.l0 k a a (a.length : Int) (i : Int) = some true := by
  intro j
  induction j with
  | zero =>
    intro i k hi hk
    obtain ⟨k, rfl⟩ : ∃ q, k = q + 1 := ⟨k - 1, by omega⟩
    simp only [deadboltref12_Acts.l0]
    rw [if_neg (by omega)]
  | succ j ih =>
    intro i k hi hk
    obtain ⟨k, rfl⟩ : ∃ q, k = q + 1 := ⟨k - 1, by omega⟩
    have hlt : (i : Int) < (a.length : Int) := by omega
    have h0 : (0 : Int) ≤ (i : Int) := by omega
    simp only [deadboltref12_Acts.l0, hlt, h0, if_true]
    rw [if_neg (by simp), wr ((i : Int) + 1) (by omega) (by omega), show (i : Int) + 1 = ((i + 1 : Nat) : Int) by omega]
    exact ih (i + 1) k (by omega) (by omega)
theorem Acts_self (a : List S32) (ha : a.length ≤ 9000000000) (k : Nat) (hk : a.length + 1 ≤ k) : deadboltref12_Acts.f k a a = some true := by
  unfold deadboltref12_Acts.f
  rw [if_pos rfl]
  exact acts_self a ha a.length 0 k (by omega) (by omega)
theorem rdL_get (L : List (List S32)) (i : Nat) (h : i < L.length) : rd_L4 L (i : Int) = L[i] := by
  unfold rd_L4
  rw [Int.toNat_natCast, List.getD_eq_getElem?_getD, List.getElem?_eq_getElem h]
  rfl
theorem same_self (L : List (List S32)) (n : Nat) (hn : n ≤ 9000000000) (hL : ∀ a ∈ L, a.length ≤ n) (hl : L.length ≤ 9000000000) : ∀ (j i k : Nat), i + j = L.length → j + n + 2 ≤ k → deadboltref12_Same.l0 k L L (L.length : Int) (i : Int) = some true := by
  intro j
  induction j with
  | zero =>
    intro i k hi hk
    obtain ⟨k, rfl⟩ : ∃ q, k = q + 1 := ⟨k - 1, by omega⟩
    simp only [deadboltref12_Same.l0]
    rw [if_neg (by omega)]
  | succ j ih =>
    intro i k hi hk
    obtain ⟨k, rfl⟩ : ∃ q, k = q + 1 := ⟨k - 1, by omega⟩
    have hin : i < L.length := by omega
    have hz := hL L[i] (List.getElem_mem hin)
    have hlt : (i : Int) < (L.length : Int) := by omega
    have h0 : (0 : Int) ≤ (i : Int) := by omega
    simp only [deadboltref12_Same.l0, hlt, h0, if_true]
    rw [rdL_get L i hin, Acts_self _ (by omega) k (by omega)]
    simp only [Option.bind_some, if_true]
    rw [wr ((i : Int) + 1) (by omega) (by omega), show (i : Int) + 1 = ((i + 1 : Nat) : Int) by omega]
    exact ih (i + 1) k (by omega) (by omega)
theorem Same_self (L : List (List S32)) (n : Nat) (hn : n ≤ 9000000000) (hL : ∀ a ∈ L, a.length ≤ n) (hl : L.length ≤ 9000000000) (k : Nat) (hk : L.length + n + 2 ≤ k) : deadboltref12_Same.f k L L = some true := by
  unfold deadboltref12_Same.f
  rw [if_pos rfl]
  exact same_self L n hn hL hl L.length 0 k (by omega) (by omega)
/-! ### The few rows that a law looks at -/
theorem rdL_nat (L : List (List S32)) (i : Nat) (h : i < L.length) : rd_L4 L (i : Int) = L[i] := rdL_at L i h
theorem rdT_nat (L : List S32) (i : Nat) (h : i < L.length) : rd_T32 L (i : Int) = L[i] := rdT_at L i h
theorem up1 (i : Nat) (h : i ≤ 9000000000) : wrap64 ((i : Int) + 1) = ((i + 1 : Nat) : Int) := by
  rw [wr _ (by omega) (by omega)]
  omega
theorem mn_nat (n m : Nat) : 0 ≤ mn (n : Int) (m : Int) ∧ mn (n : Int) (m : Int) ≤ (n : Int) ∧ mn (n : Int) (m : Int) ≤ (m : Int) := by
  unfold mn
  split <;> omega
theorem few_l (L : List (List S32)) (hn : L.length ≤ 10) : ∀ (j i k : Nat) (x : List (List S32)), i + j = L.length → x.length = i → j < k → (∀ p ∈ x, p.length ≤ 70) →
    ∃ y, deadboltlaw12_few.l0 k x L (L.length : Int) (i : Int) = some y ∧ y.length ≤ 10 ∧ ∀ p ∈ y, p.length ≤ 70 := by
  intro j
  induction j with
  | zero =>
    intro i k x hi hx hk hm
    obtain ⟨k, rfl⟩ : ∃ q, k = q + 1 := ⟨k - 1, by omega⟩
    simp only [deadboltlaw12_few.l0]
    rw [if_neg (by omega)]
    exact ⟨x, rfl, by omega, hm⟩
  | succ j ih =>
    intro i k x hi hx hk hm
    obtain ⟨k, rfl⟩ : ∃ q, k = q + 1 := ⟨k - 1, by omega⟩
    have hin : i < L.length := by omega
    have hz := mn_nat (L[i]).length 70
    simp only [Int.cast_ofNat_Int] at hz
    simp only [deadboltlaw12_few.l0]
    rw [if_pos (by omega), if_pos (by omega), if_pos (by omega), rdL_nat L i hin, if_pos hz.1, if_pos hz.2.1, if_pos (by omega), up1 i (by omega)]
    refine ih (i + 1) k _ (by omega) (by simp [hx]) (by omega) (fun p hp => ?_)
    rcases List.mem_append.1 hp with hp | hp
    · exact hm p hp
    · rw [List.mem_singleton.1 hp, List.length_take]
      omega
theorem few_f (l : List (List S32)) (k : Nat) (hk : 11 ≤ k) : ∃ y, deadboltlaw12_few.f k l = some y ∧ y.length ≤ 10 ∧ ∀ p ∈ y, p.length ≤ 70 := by
  unfold deadboltlaw12_few.f
  have hz := mn_nat l.length 10
  simp only [Int.cast_ofNat_Int] at hz
  rw [if_pos hz.1, if_pos hz.2.1]
  simp only [Option.bind_some]
  have hl : (l.take (mn (l.length : Int) 10).toNat).length ≤ 10 := by rw [List.length_take]; omega
  exact few_l _ hl _ 0 k [] (Nat.zero_add _) rfl (by omega) (by simp)
theorem alive_any (k : Nat) (hk : 10 ≤ k) : deadboltlaw12_alive.f k = some true := by
  obtain ⟨k, rfl⟩ : ∃ q, k = q + 10 := ⟨k - 10, by omega⟩
  exact alive_f k

end ProgLinesAid

end Go.Proofs.YtfebhemdpbnebaaDoor.Pure
