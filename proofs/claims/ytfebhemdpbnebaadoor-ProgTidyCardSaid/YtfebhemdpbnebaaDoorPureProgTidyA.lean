/- Part A of the plain law of ProgTidy: what the functions tell, in plain Lean. Conditions: bounds on the sizes, as each lemma names them. -/
import Derived.Test.YtfebhemdpbnebaaDoorPProgTidyx7
import Derived.Test.YtfebhemdpbnebaaDoorPlain
import Derived.Lib.IndexBytes
namespace Go.Proofs.YtfebhemdpbnebaaDoor.Pure
open Go.RowKit Go.Proofs.YtfebhemdpbnebaaDoor.PProgTidy Go.Proofs.YtfebhemdpbnebaaDoorW.PrintWords Go.Proofs.YtfebhemdpbnebaaDoorW.PrintLast Go.Proofs.YtfebhemdpbnebaaDoorW.PrintMore Go.Proofs.YtfebhemdpbnebaaDoor.Hand
set_option linter.unusedVariables false
set_option linter.unusedSimpArgs false
namespace ProgTidyAid

theorem split_some (s : ByteArray) (h : s.size ≤ 4096) (sep : ByteArray) (h1 : 1 ≤ sep.size) : strings_Split.f s sep = some (Lib.splitB sep 0 (Lib.countB s sep) s) := by
  unfold strings_Split.f
  rw [if_pos ⟨h, h1⟩]
/-! ### Three acts -/
theorem numv_one (n : Int) (h0 : 0 ≤ n) (h1 : n < 10) (b : UInt8) (hb : b = UInt8.ofNat (48 + n.toNat)) : numv [b] = some n := by
  refine (numv_iff _ _).2 ⟨h0, by omega, ?_⟩
  rw [itoa_pos n h0, Lib.decDigits_one (by omega), hb]
theorem act_lock : actv [108, 111, 99, 107, 32, 48] = (0, 0, 0) := by
  unfold actv
  have hc : Lib.cut [108, 111, 99, 107, 32, 48] [32] = (kLock, [48], true) := by decide
  rw [hc]
  simp only []
  rw [show kindOf kLock = some 0 by decide]
  simp only []
  rw [if_neg (by decide), numv_one 0 (by decide) (by decide) 48 rfl]
  rfl
theorem act_work : actv [119, 111, 114, 107, 32, 53] = (3, 5, 0) := by
  unfold actv
  have hc : Lib.cut [119, 111, 114, 107, 32, 53] [32] = (kWork, [53], true) := by decide
  rw [hc]
  simp only []
  rw [show kindOf kWork = some 3 by decide]
  simp only []
  rw [if_neg (by decide), numv_one 5 (by decide) (by decide) 53 rfl]
  rfl
theorem act_unlock : actv [117, 110, 108, 111, 99, 107, 32, 48] = (2, 0, 0) := by
  unfold actv
  have hc : Lib.cut [117, 110, 108, 111, 99, 107, 32, 48] [32] = (kUnlock, [48], true) := by decide
  rw [hc]
  simp only []
  rw [show kindOf kUnlock = some 2 by decide]
  simp only []
  rw [if_neg (by decide), numv_one 0 (by decide) (by decide) 48 rfl]
  rfl
def three : ByteArray := ⟨#[108, 111, 99, 107, 32, 48, 59, 32, 119, 111, 114, 107, 32, 53, 59, 32, 117, 110, 108, 111, 99, 107, 32, 48]⟩
def pieces3 : List ByteArray := [⟨#[108, 111, 99, 107, 32, 48]⟩, ⟨#[119, 111, 114, 107, 32, 53]⟩, ⟨#[117, 110, 108, 111, 99, 107, 32, 48]⟩]
theorem acts3 (k : Nat) : prog_acts.f (k + 4) pieces3 = some ([(⟨0, 0⟩ : S32), ⟨3, 5⟩, ⟨2, 0⟩], 0) := by
  unfold prog_acts.f
  have e0 : rdOf ByteArray.empty pieces3 0 = ⟨#[108, 111, 99, 107, 32, 48]⟩ := rfl
  have e1 : rdOf ByteArray.empty pieces3 1 = ⟨#[119, 111, 114, 107, 32, 53]⟩ := rfl
  have e2 : rdOf ByteArray.empty pieces3 2 = ⟨#[117, 110, 108, 111, 99, 107, 32, 48]⟩ := rfl
  have hl : (pieces3.length : Int) = 3 := rfl
  have a0 : prog_act.f ⟨#[108, 111, 99, 107, 32, 48]⟩ = some (0, 0, 0) := (act_f _ (by decide)).trans (congrArg some act_lock)
  have a1 : prog_act.f ⟨#[119, 111, 114, 107, 32, 53]⟩ = some (3, 5, 0) := (act_f _ (by decide)).trans (congrArg some act_work)
  have a2 : prog_act.f ⟨#[117, 110, 108, 111, 99, 107, 32, 48]⟩ = some (2, 0, 0) := (act_f _ (by decide)).trans (congrArg some act_unlock)
  have w1 : wrap64 (0 + 1) = 1 := by (unfold wrap64; omega)
  have w2 : wrap64 (1 + 1) = 2 := by (unfold wrap64; omega)
  have w3 : wrap64 (2 + 1) = 3 := by (unfold wrap64; omega)
  rw [hl]
  simp only [prog_acts.l0, e0, e1, e2, a0, a1, a2, w1, w2, w3, hl, Option.bind_some]
  simp
theorem parse3 (k : Nat) : prog_Parse.f (k + 10) three = some ([[(⟨0, 0⟩ : S32), ⟨3, 5⟩, ⟨2, 0⟩]], 0, 0) := by
  unfold prog_Parse.f
  have hne : ¬ three.toList = ([] : List UInt8) := by rw [Lib.toList_data]; decide
  have hts : strings_TrimSuffix.f three (⟨#[10]⟩ : ByteArray) = some three := by
    unfold strings_TrimSuffix.f
    rw [if_pos (by decide)]
    rfl
  have hs1 : Lib.splitB ⟨#[10]⟩ 0 (Lib.countB three ⟨#[10]⟩) three = [three] := map_data_inj ((split1 three).trans (by decide))
  have hs2 : Lib.splitB ⟨#[59, 32]⟩ 0 (Lib.countB three ⟨#[59, 32]⟩) three = pieces3 := map_data_inj ((split2 three).trans (by simp [three, pieces3, cut2]))
  rw [if_neg (by decide), if_neg hne, hts]
  simp only [Option.bind_some]
  rw [split_some _ (by decide) _ (by decide), hs1]
  simp only [Option.bind_some, prog_Parse.j0]
  have hl : (([three] : List ByteArray).length : Int) = 1 := rfl
  have e0 : rdOf ByteArray.empty [three] 0 = three := rfl
  have w1 : wrap64 (0 + 1) = 1 := by (unfold wrap64; omega)
  rw [hl]
  simp only [prog_Parse.l0, e0, hne, split_some three (by decide) ⟨#[59, 32]⟩ (by decide), hs2, Option.bind_some, acts3, w1, hl, if_false]
  simp
theorem alive_f (k : Nat) : deadboltlaw12_alive.f (k + 10) = some true := by
  unfold deadboltlaw12_alive.f
  have hp := parse3 k
  unfold three at hp
  rw [hp]
  simp only [Option.bind_some]
  have ht : prog_Tidy.f (k + 10) [(⟨0, 0⟩ : S32), ⟨3, 5⟩, ⟨2, 0⟩] = some true := by
    have w1 : wrap64 (0 + 1) = 1 := by (unfold wrap64; omega)
    have w2 : wrap64 (1 + 1) = 2 := by (unfold wrap64; omega)
    have w3 : wrap64 (2 + 1) = 3 := by (unfold wrap64; omega)
    have r0 : rd_T32 [(⟨0, 0⟩ : S32), ⟨3, 5⟩, ⟨2, 0⟩] 0 = ⟨0, 0⟩ := rfl
    have r1 : rd_T32 [(⟨0, 0⟩ : S32), ⟨3, 5⟩, ⟨2, 0⟩] 1 = ⟨3, 5⟩ := rfl
    have r2 : rd_T32 [(⟨0, 0⟩ : S32), ⟨3, 5⟩, ⟨2, 0⟩] 2 = ⟨2, 0⟩ := rfl
    have q0 : rd [(0 : Int)] 0 = 0 := rfl
    unfold prog_Tidy.f
    simp only [prog_Tidy.l0, slices_Equal_int_int.f, slices_Equal_int_int.l0, List.length_cons, List.length_nil, w1, w2, w3, r0, r1, r2, q0]
    simp
  have hr : rd_L4 [[(⟨0, 0⟩ : S32), ⟨3, 5⟩, ⟨2, 0⟩]] 0 = [(⟨0, 0⟩ : S32), ⟨3, 5⟩, ⟨2, 0⟩] := rfl
  have r1 : rd_T32 [(⟨0, 0⟩ : S32), ⟨3, 5⟩, ⟨2, 0⟩] 1 = ⟨3, 5⟩ := rfl
  simp only [hr, r1, ht, Option.bind_some]
  simp
/-! ### Tidy -/
theorem wr' (x : Int) (h0 : -9223372036854775808 ≤ x) (h1 : x ≤ 9223372036854775807) : wrap64 x = x := by unfold wrap64; omega
def tidyL : Option Int → List S32 → Bool
  | h, [] => h.isNone
  | h, a :: r => if a.f0 = 1 then false else if a.f0 = 0 then (if h.isSome = true then false else tidyL (some a.f1) r) else if a.f0 = 2 then (if h = some a.f1 then tidyL none r else false) else tidyL h r
theorem equal_one (x : List Int) (n : Int) (hx : x.length ≤ 1) (k : Nat) : slices_Equal_int_int.f (k + 2) x [n] = some (decide (x.head? = some n)) := by
  unfold slices_Equal_int_int.f
  match x, hx with
  | [], _ =>
    rw [if_neg (by simp)]
    simp
  | [m], _ =>
    rw [if_pos (by simp)]
    have w1 : wrap64 1 = 1 := by (unfold wrap64; omega)
    have q0 : rd [m] 0 = m := rfl
    have q1 : rd [n] 0 = n := rfl
    by_cases h : m = n
    · simp [slices_Equal_int_int.l0, w1, q0, q1, h]
    · simp [slices_Equal_int_int.l0, w1, q0, q1, h]
theorem rdT_get (L : List S32) (i : Nat) (h : i < L.length) : rd_T32 L (i : Int) = L[i] := by
  unfold rd_T32
  rw [Int.toNat_natCast, List.getD_eq_getElem?_getD, List.getElem?_eq_getElem h]
  rfl
theorem tidy_l (L : List S32) (hn : L.length ≤ 9000000000) : ∀ (j i k : Nat) (x : List Int), i + j = L.length → x.length ≤ 1 → j + 5 ≤ k → prog_Tidy.l0 k x L (L.length : Int) (i : Int) = some (tidyL x.head? (L.drop i)) := by
  intro j
  induction j with
  | zero =>
    intro i k x hi hx hk
    obtain ⟨k, rfl⟩ : ∃ q, k = q + 1 := ⟨k - 1, by omega⟩
    simp only [prog_Tidy.l0]
    rw [if_neg (by omega), List.drop_eq_nil_of_le (by omega), tidyL]
    match x, hx with
    | [], _ => rfl
    | [m], _ => rfl
  | succ j ih =>
    intro i k x hi hx hk
    obtain ⟨k, rfl⟩ : ∃ q, k = q + 3 := ⟨k - 3, by omega⟩
    have hin : i < L.length := by omega
    have hlt : (i : Int) < (L.length : Int) := by omega
    have h0 : (0 : Int) ≤ (i : Int) := by omega
    have ei : wrap64 ((i : Int) + 1) = ((i + 1 : Nat) : Int) := by
      rw [wr' _ (by omega) (by omega)]
      omega
    rw [List.drop_eq_getElem_cons hin, tidyL, prog_Tidy.l0]
    simp only [hlt, h0, if_true, rdT_get L i hin, ei]
    by_cases h1 : L[i].f0 = 1
    · rw [if_pos h1, if_pos h1]
    · rw [if_neg h1, if_neg h1]
      by_cases hz : L[i].f0 = 0
      · rw [if_pos hz, if_pos hz]
        match x, hx with
        | [], _ =>
          rw [if_neg (by simp), if_neg (by simp)]
          exact ih (i + 1) (k + 2) [L[i].f1] (by omega) (by simp) (by omega)
        | [m], _ =>
          rw [if_pos (by simp), if_pos (by simp)]
      · rw [if_neg hz, if_neg hz]
        by_cases h2 : L[i].f0 = 2
        · rw [if_pos h2, if_pos h2, equal_one x _ hx k]
          simp only [Option.bind_some]
          by_cases he : x.head? = some L[i].f1
          · rw [if_pos he, decide_eq_true he, if_pos rfl]
            exact ih (i + 1) (k + 2) [] (by omega) (by simp) (by omega)
          · rw [if_neg he, decide_eq_false he]
            rfl
        · rw [if_neg h2, if_neg h2]
          exact ih (i + 1) (k + 2) x (by omega) hx (by omega)
theorem Tidy_f (L : List S32) (hn : L.length ≤ 9000000000) (k : Nat) (hk : L.length + 5 ≤ k) : prog_Tidy.f k L = some (tidyL none L) := by
  unfold prog_Tidy.f
  exact tidy_l L hn L.length 0 k [] (by omega) (by simp) (by omega)
theorem tidy_app : ∀ (a b : List S32) (h : Option Int), tidyL h a = true → tidyL h (a ++ b) = tidyL none b
  | [], b, h, q => by
    cases h with
    | none => rfl
    | some n => simp [tidyL] at q
  | x :: a, b, h, q => by
    rw [List.cons_append, tidyL]
    rw [tidyL] at q
    split at q
    · cases q
    · split at q
      · split at q
        · cases q
        · rename_i h1 h0 hs
          rw [if_neg h1, if_pos h0, if_neg hs]
          exact tidy_app a b _ q
      · split at q
        · split at q
          · rename_i h1 h0 h2 he
            rw [if_neg h1, if_neg h0, if_pos h2, if_pos he]
            exact tidy_app a b _ q
          · cases q
        · rename_i h1 h0 h2
          rw [if_neg h1, if_neg h0, if_neg h2]
          exact tidy_app a b _ q
theorem tidy_work (n : Int) : ∀ (p q : List S32) (h : Option Int), tidyL h (p ++ (⟨3, n⟩ : S32) :: q) = tidyL h (p ++ q)
  | [], q, h => by
    rw [List.nil_append, List.nil_append, tidyL]
    simp
  | x :: p, q, h => by
    rw [List.cons_append, List.cons_append, tidyL, tidyL, tidy_work n p q, tidy_work n p q, tidy_work n p q]
theorem tidy_open (n : Int) : ∀ (a : List S32) (h : Option Int), tidyL h (a ++ [(⟨0, n⟩ : S32)]) = false
  | [], h => by
    rw [List.nil_append, tidyL]
    cases h <;> simp [tidyL]
  | x :: a, h => by
    rw [List.cons_append, tidyL, tidy_open n a, tidy_open n a, tidy_open n a]
    simp
theorem tidy_shut (n : Int) : tidyL none [(⟨0, n⟩ : S32), ⟨2, n⟩] = true := by
  simp [tidyL]

end ProgTidyAid

end Go.Proofs.YtfebhemdpbnebaaDoor.Pure
