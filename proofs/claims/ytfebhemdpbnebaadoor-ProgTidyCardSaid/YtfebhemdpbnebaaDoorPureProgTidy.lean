/- The plain law of ProgTidy: for all inputs the law function answers true: two tidy programs, one behind the other, are tidy, and so is one within whose work more is done; with a mutex that is locked, and not unlocked, it is not. No conditions beyond those of the given statement. -/
import Derived.Test.YtfebhemdpbnebaaDoorPureProgTidyA
namespace Go.Proofs.YtfebhemdpbnebaaDoor.Pure
open Go.RowKit Go.Proofs.YtfebhemdpbnebaaDoor.PProgTidy Go.Proofs.YtfebhemdpbnebaaDoorW.PrintWords Go.Proofs.YtfebhemdpbnebaaDoorW.PrintLast Go.Proofs.YtfebhemdpbnebaaDoorW.PrintMore Go.Proofs.YtfebhemdpbnebaaDoor.Hand
set_option linter.unusedVariables false
set_option linter.unusedSimpArgs false
namespace ProgTidyAid

theorem at_bounds (x : Int) (n : Nat) (hn : n ≤ 70) :
    wrap64 ((n : Int) + 1) = (n : Int) + 1 ∧ 0 ≤ Int.tmod (wrap64 (wrap64 (Int.tmod x ((n : Int) + 1) + (n : Int)) + 1)) ((n : Int) + 1) ∧ Int.tmod (wrap64 (wrap64 (Int.tmod x ((n : Int) + 1) + (n : Int)) + 1)) ((n : Int) + 1) ≤ (n : Int) := by
  have hm : (0 : Int) < (n : Int) + 1 := by omega
  have h1 := Int.tmod_lt_of_pos x hm
  have h2 := Int.lt_tmod_of_pos x hm
  refine ⟨wr' _ (by omega) (by omega), ?_⟩
  rw [wr' (Int.tmod x ((n : Int) + 1) + (n : Int)) (by omega) (by omega), wr' _ (by omega) (by omega)]
  have h3 : 0 ≤ Int.tmod x ((n : Int) + 1) + (n : Int) + 1 := by omega
  have h4 := Int.tmod_lt_of_pos (Int.tmod x ((n : Int) + 1) + (n : Int) + 1) hm
  have h5 := Int.tmod_nonneg ((n : Int) + 1) h3
  omega
theorem j0_ok (a : List S32) (ha : a.length ≤ 70) (x2 x3 : Int) (k : Nat) (hk : 500 ≤ k) : deadboltlaw12_ProgTidy.j0 (k + 1) a x2 x3 (tidyL none a) false = some true := by
  obtain ⟨hw, h0, h1⟩ := at_bounds x2 a.length ha
  simp only [deadboltlaw12_ProgTidy.j0]
  rw [if_neg (by decide), hw, if_neg (by omega)]
  generalize Int.tmod (wrap64 (wrap64 (Int.tmod x2 ((a.length : Int) + 1) + (a.length : Int)) + 1)) ((a.length : Int) + 1) = t at h0 h1
  obtain ⟨t, rfl⟩ : ∃ u : Nat, t = u := ⟨t.toNat, by omega⟩
  simp only [Option.bind_some, Int.toNat_natCast, List.nil_append, List.length_nil, List.length_cons, List.length_append, List.length_take, List.length_drop]
  rw [if_pos h0, if_pos h1, if_pos (by omega), if_pos (by omega), if_pos (by omega), if_pos (by omega), if_pos (by omega), if_pos (by omega), if_pos (by omega)]
  have e1 : (a.take t ++ [(⟨3, x3⟩ : S32)] ++ a.drop t) = a.take t ++ (⟨3, x3⟩ : S32) :: a.drop t := by simp
  have t1 : prog_Tidy.f k (a.take t ++ [(⟨3, x3⟩ : S32)] ++ a.drop t) = some (tidyL none a) := by
    rw [Tidy_f _ (by simp; omega) k (by simp; omega), e1, tidy_work, List.take_append_drop]
  have t2 : prog_Tidy.f k (a ++ [(⟨0, x3⟩ : S32)]) = some false := by
    rw [Tidy_f _ (by simp; omega) k (by simp; omega), tidy_open]
  rw [t1]
  simp only [Option.bind_some, beq_self_eq_true, if_true, t2, Bool.false_eq_true, if_false]
  by_cases hx : tidyL none a = true
  · rw [if_pos hx]
    have e2 : a ++ [(⟨0, x3⟩ : S32)] ++ [(⟨2, x3⟩ : S32)] = a ++ [(⟨0, x3⟩ : S32), ⟨2, x3⟩] := by simp
    rw [Tidy_f _ (by simp; omega) k (by simp; omega), e2, tidy_app a _ none hx, tidy_shut]
    rfl
  · rw [if_neg hx]

end ProgTidyAid
open ProgTidyAid
theorem ProgTidyAny (k : Nat) (hk : 600 ≤ k) (hal : deadboltlaw12_alive.f k = some true) (hj0 : ∀ (a : List S32) (x2 x3 : Int), a.length ≤ 70 → deadboltlaw12_ProgTidy.j0 k a x2 x3 (tidyL none a) false = some true) (l0 l1 : List S32) (a2 a3 : Int) : deadboltlaw12_ProgTidy.f k l0 l1 a2 a3 = some true := by
  have hm : ∀ n : Nat, 0 ≤ mn (n : Int) 70 ∧ mn (n : Int) 70 ≤ (n : Int) ∧ mn (n : Int) 70 ≤ 70 := by
    intro n
    unfold mn
    split <;> omega
  have m0 := hm l0.length
  have m1 := hm l1.length
  unfold deadboltlaw12_ProgTidy.f
  rw [if_pos m0.1, if_pos m0.2.1]
  simp only [Option.bind_some]
  rw [if_pos m1.1, if_pos m1.2.1]
  have z0 : (l0.take (mn (l0.length : Int) 70).toNat).length ≤ 70 := by rw [List.length_take]; omega
  have z1 : (l1.take (mn (l1.length : Int) 70).toNat).length ≤ 70 := by rw [List.length_take]; omega
  generalize l0.take (mn (l0.length : Int) 70).toNat = a at z0
  generalize l1.take (mn (l1.length : Int) 70).toNat = b at z1
  simp only [List.nil_append, List.length_nil, Nat.zero_add]
  rw [if_pos (by omega), if_pos (by omega), Tidy_f a (by omega) k (by omega), Tidy_f b (by omega) k (by omega), hal]
  simp only [Option.bind_some, Bool.not_true]
  have hj := hj0 a a2 a3 z0
  by_cases hx : tidyL none a = true
  · rw [if_pos hx, Tidy_f _ (by rw [List.length_append]; omega) k (by rw [List.length_append]; omega), tidy_app a b none hx]
    simp only [Option.bind_some]
    rw [if_neg (by simp)]
    exact hj
  · rw [if_neg hx]
    exact hj
theorem ProgTidy (l0 l1 : List S32) (a2 a3 : Int) : deadboltlaw12_ProgTidy.f (1000 + 10) l0 l1 a2 a3 = some true :=
  ProgTidyAny (1000 + 10) (by omega) (alive_f 1000) (fun a x2 x3 h => j0_ok a h x2 x3 1009 (by omega)) l0 l1 a2 a3

end Go.Proofs.YtfebhemdpbnebaaDoor.Pure
