/- The plain law of CellOrder: for all memories and numbers the law function answers true: accesses to two cells make no difference by their order. No conditions beyond those of the given statement. -/
import Derived.Test.YtdecbngdmnmokaaPCellOrderx2
namespace Go.Proofs.Ytdecbngdmnmokaa.Pure
open Go.RowKit Go.Proofs.Ytdecbngdmnmokaa.PCellOrder Go.Proofs.YtdecbngdmnmokaaW.PrintWords Go.Proofs.YtdecbngdmnmokaaW.PrintLast Go.Proofs.YtdecbngdmnmokaaW.PrintMore Go.Proofs.Ytdecbngdmnmokaa.Hand
namespace CellOrderAid

theorem few_f (l : List S44) : deadboltlaw02_few.f l = some (l.take 70) := by
  unfold deadboltlaw02_few.f mn
  by_cases h : (70 : Int) < (l.length : Int)
  · rw [if_pos h, if_pos (by omega), if_pos (by omega)]; rfl
  · rw [if_neg h, if_pos (by omega), if_pos (by omega)]
    rw [Int.toNat_natCast, List.take_of_length_le (Nat.le_refl _), List.take_of_length_le (by omega)]

theorem one64 (i : Nat) (h : i ≤ 1000) : wrap64 ((i : Int) + 1) = ((i + 1 : Nat) : Int) := by unfold wrap64; omega

theorem same_loop (l : List S44) (hl : l.length ≤ 1000) (d : Nat) : ∀ (i k : Nat), i + d = l.length → d < k → deadboltref02_Same.l0 k l l l.length i = some true := by
  induction d with
  | zero =>
    intro i k hi hk
    obtain ⟨k, rfl⟩ : ∃ m, k = m + 1 := ⟨k - 1, by omega⟩
    simp only [deadboltref02_Same.l0]
    rw [if_neg (by omega)]
  | succ d ih =>
    intro i k hi hk
    obtain ⟨k, rfl⟩ : ∃ m, k = m + 1 := ⟨k - 1, by omega⟩
    simp only [deadboltref02_Same.l0]
    rw [if_pos (by omega), if_pos (by omega), if_pos (by omega), if_pos (by omega), if_neg (by simp), one64 i (by omega)]
    exact ih (i + 1) k (by omega) (by omega)
theorem same_f (l : List S44) (hl : l.length ≤ 1000) (k : Nat) (hk : l.length < k) : deadboltref02_Same.f k l l = some true := by
  unfold deadboltref02_Same.f
  rw [if_pos rfl]
  exact same_loop l hl l.length 0 k (by omega) hk

theorem alive_f : deadboltlaw02_alive.f = some true := by decide +kernel

/-! words -/
theorem wrapped_again (k v : Int) : wrapped k (wrapped k v) = wrapped k v := by
  unfold wrapped
  split
  · unfold wrap64 wrap32; omega
  · split
    · omega
    · split
      · rfl
      · rfl
theorem wrapped_two (k x a b : Int) : wrapped k (wrap64 (wrapped k (wrap64 (x + a)) + b)) = wrapped k (wrap64 (wrapped k (wrap64 (x + b)) + a)) := by
  unfold wrapped
  split
  · unfold wrap64 wrap32; omega
  · split
    · unfold wrap64; omega
    · split
      · unfold wrap64; omega
      · rfl

/-! memories -/
theorem set_self (l : List S44) (i : Nat) (h : i < l.length) : l.set i ⟨(rd_T44 l i).f0, (rd_T44 l i).f1⟩ = l := by
  rw [rd_get l i h]
  exact List.set_getElem_self h
theorem rd_set_same (l : List S44) (i : Nat) (c : S44) (h : i < l.length) : rd_T44 (l.set i c) i = c := by
  rw [rd_get _ i (by rw [List.length_set]; exact h)]
  simp
theorem rd_set_other (l : List S44) (i j : Nat) (c : S44) (hj : j < l.length) (hij : i ≠ j) : rd_T44 (l.set i c) j = rd_T44 l j := by
  rw [rd_get _ j (by rw [List.length_set]; exact hj), rd_get l j hj, List.getElem_set_ne hij]
theorem ok_len {l : List S44} (h : okMem l = true) : l.length ≤ 64 := by
  unfold okMem at h
  rw [Bool.and_eq_true] at h
  exact of_decide_eq_true h.1
theorem ok_fits {l : List S44} (h : okMem l = true) (i : Nat) (hi : i < l.length) : fits (rd_T44 l i) = true := by
  unfold okMem allFit at h
  rw [Bool.and_eq_true, List.all_eq_true] at h
  rw [rd_get l i hi]
  exact h.2 _ (List.getElem_mem hi)
theorem fits_err {c : S44} (h : fits c = true) : wrapErr c.f0 = 0 ∧ wrapped c.f0 c.f1 = c.f1 := by
  unfold fits at h
  split at h
  · exact ⟨by assumption, beq_iff_eq.1 h⟩
  · exact absurd h (by simp)
theorem fits_word (k v : Int) (h : wrapErr k = 0) : fits ⟨k, wrapped k v⟩ = true := by
  unfold fits
  rw [if_pos h]
  exact beq_iff_eq.2 (wrapped_again k v)
theorem ok_set {l : List S44} (h : okMem l = true) (i : Nat) (hi : i < l.length) (v : Int) : okMem (l.set i ⟨(rd_T44 l i).f0, wrapped (rd_T44 l i).f0 v⟩) = true := by
  have hf := fits_word (rd_T44 l i).f0 v (fits_err (ok_fits h i hi)).1
  unfold okMem allFit at h ⊢
  rw [Bool.and_eq_true, List.all_eq_true] at h ⊢
  refine ⟨by rw [List.length_set]; exact h.1, fun x hx => ?_⟩
  rcases List.mem_or_eq_of_mem_set hx with hx | rfl
  · exact h.2 x hx
  · exact hf

/-! accesses -/
theorem load_in {l : List S44} (h : okMem l = true) (i : Nat) (hi : i < l.length) : cell_Load.f l i = some ((rd_T44 l i).f1, 0) := by
  unfold cell_Load.f
  rw [if_pos h, if_pos ⟨by omega, by omega⟩]
theorem swap_in {l : List S44} (h : okMem l = true) (i : Nat) (hi : i < l.length) (v : Int) : cell_Swap.f l i v = some (l.set i ⟨(rd_T44 l i).f0, wrapped (rd_T44 l i).f0 v⟩, (rd_T44 l i).f1, 0) := by
  unfold cell_Swap.f
  rw [if_pos h, if_pos ⟨by omega, by omega⟩, Int.toNat_natCast]
theorem add_in {l : List S44} (h : okMem l = true) (i : Nat) (hi : i < l.length) (d : Int) : cell_Add.f l i d = some (l.set i ⟨(rd_T44 l i).f0, wrapped (rd_T44 l i).f0 (wrap64 ((rd_T44 l i).f1 + d))⟩, wrapped (rd_T44 l i).f0 (wrap64 ((rd_T44 l i).f1 + d)), 0) := by
  unfold cell_Add.f
  rw [if_pos h, if_pos ⟨by omega, by omega⟩, Int.toNat_natCast]
theorem cas_in {l : List S44} (h : okMem l = true) (i : Nat) (hi : i < l.length) (old v : Int) (ho : wrapped (rd_T44 l i).f0 old = (rd_T44 l i).f1) : cell_Cas.f l i old v = some (l.set i ⟨(rd_T44 l i).f0, wrapped (rd_T44 l i).f0 v⟩, true, 0) := by
  unfold cell_Cas.f
  rw [if_pos h, if_pos ⟨by omega, by omega⟩, Int.toNat_natCast, if_pos ho, beq_iff_eq.2 ho]

theorem order_l (l : List S44) (hl : l.length ≤ 70) (at_ other v d : Int) (k : Nat) (hk : 100 < k) :
    ((cell_Swap.f l at_ v).bind fun bt120 => ((cell_Add.f l other d).bind fun bt125 => (if bt120.2.2 = 0 then (if bt125.2.2 = 0 then (deadboltlaw02_CellOrder.j0 k at_ other v d bt120.1 bt125.1 bt125.2.1 (at_ == other)) else (deadboltlaw02_CellOrder.j0 k at_ other v d bt120.1 bt125.1 bt125.2.1 true)) else (deadboltlaw02_CellOrder.j0 k at_ other v d bt120.1 bt125.1 bt125.2.1 true)))) = some true := by
  obtain ⟨k, rfl⟩ : ∃ m, k = m + 1 := ⟨k - 1, by omega⟩
  have hj : ∀ a b n, deadboltlaw02_CellOrder.j0 (k + 1) at_ other v d a b n true = some true := by
    intro a b n
    simp only [deadboltlaw02_CellOrder.j0, if_true]
    rw [alive_f]; rfl
  obtain ⟨s, hs⟩ : ∃ s, cell_Swap.f l at_ v = some s := ⟨_, rfl⟩
  obtain ⟨a, ha⟩ : ∃ a, cell_Add.f l other d = some a := ⟨_, rfl⟩
  rw [hs, ha]
  simp only [Option.bind_some]
  by_cases h1 : s.2.2 = 0
  · by_cases h2 : a.2.2 = 0
    · rw [if_pos h1, if_pos h2]
      by_cases he : at_ = other
      · rw [beq_iff_eq.2 he]; exact hj _ _ _
      · rw [beq_eq_false_iff_ne.2 he]
        -- both are answered
        have hok : okMem l = true := by
          cases q : okMem l with
          | true => rfl
          | false =>
            unfold cell_Swap.f at hs
            rw [if_neg (by rw [q]; simp)] at hs
            obtain rfl := Option.some.inj hs
            exact absurd h1 (by simp)
        have hr1 : 0 ≤ at_ ∧ at_ < (l.length : Int) := by
          apply Decidable.byContradiction
          intro q
          unfold cell_Swap.f at hs
          rw [if_pos hok, if_neg q] at hs
          obtain rfl := Option.some.inj hs
          exact absurd h1 (by simp)
        have hr2 : 0 ≤ other ∧ other < (l.length : Int) := by
          apply Decidable.byContradiction
          intro q
          unfold cell_Add.f at ha
          rw [if_pos hok, if_neg q] at ha
          obtain rfl := Option.some.inj ha
          exact absurd h2 (by simp)
        obtain ⟨i, rfl⟩ : ∃ i : Nat, at_ = i := ⟨at_.toNat, by omega⟩
        obtain ⟨j, rfl⟩ : ∃ j : Nat, other = j := ⟨other.toNat, by omega⟩
        have hi : i < l.length := by omega
        have hjl : j < l.length := by omega
        have hij : i ≠ j := fun q => he (by rw [q])
        rw [swap_in hok i hi] at hs
        rw [add_in hok j hjl] at ha
        obtain rfl := Option.some.inj hs
        obtain rfl := Option.some.inj ha
        have hoka := ok_set hok i hi v
        have hokb := ok_set hok j hjl (wrap64 ((rd_T44 l j).f1 + d))
        simp only [deadboltlaw02_CellOrder.j0, Bool.false_eq_true, if_false]
        rw [add_in hoka j (by rw [List.length_set]; exact hjl), swap_in hokb i (by rw [List.length_set]; exact hi)]
        simp only [Option.bind_some]
        rw [rd_set_other l i j _ hjl hij, rd_set_other l j i _ hi (Ne.symm hij)]
        have hokx := ok_set hoka j (by rw [List.length_set]; exact hjl) (wrap64 ((rd_T44 l j).f1 + d))
        rw [rd_set_other l i j _ hjl hij] at hokx
        have hjx : j < (l.set i ⟨(rd_T44 l i).f0, wrapped (rd_T44 l i).f0 v⟩).length := by rw [List.length_set]; exact hjl
        have hrx := rd_set_same (l.set i ⟨(rd_T44 l i).f0, wrapped (rd_T44 l i).f0 v⟩) j ⟨(rd_T44 l j).f0, wrapped (rd_T44 l j).f0 (wrap64 ((rd_T44 l j).f1 + d))⟩ hjx
        rw [cas_in hokx j (by rw [List.length_set]; exact hjx) _ _ (by rw [hrx]; exact wrapped_again _ _)]
        simp only [Option.bind_some, alive_f, if_true]
        rw [List.set_comm _ _ hij, same_f _ (by simp only [List.length_set]; omega) k (by simp only [List.length_set]; omega)]
        rfl
    · rw [if_pos h1, if_neg h2]; exact hj _ _ _
  · rw [if_neg h1]; exact hj _ _ _

end CellOrderAid
open CellOrderAid
theorem CellOrder (l0 : List S44) (a1 a2 a3 a4 : Int) : deadboltlaw02_CellOrder.f 42001 l0 a1 a2 a3 a4 = some true := by
  unfold deadboltlaw02_CellOrder.f
  rw [few_f]
  simp only [Option.bind_some]
  exact order_l (l0.take 70) (by rw [List.length_take]; omega) a1 a2 a3 a4 42001 (by omega)

end Go.Proofs.Ytdecbngdmnmokaa.Pure
