/- The plain law of CellApart: for all memories and numbers the law function answers true: an access changes its cell alone; swapped back all is as it was; what is loaded is compared as it is, and stored; two adds make no difference by their order. No conditions beyond those of the given statement. -/
import Derived.Test.YtdecbngdmnmokaaPCellApartx3
namespace Go.Proofs.Ytdecbngdmnmokaa.Pure
open Go.RowKit Go.Proofs.Ytdecbngdmnmokaa.PCellApart Go.Proofs.YtdecbngdmnmokaaW.PrintWords Go.Proofs.YtdecbngdmnmokaaW.PrintLast Go.Proofs.YtdecbngdmnmokaaW.PrintMore Go.Proofs.Ytdecbngdmnmokaa.Hand
namespace CellApartAid

theorem few_f (l : List S44) : deadboltlaw02_few.f l = some (l.take 70) := by
  unfold deadboltlaw02_few.f mn
  by_cases h : (70 : Int) < (l.length : Int)
  · rw [if_pos h, if_pos (by omega), if_pos (by omega)]; rfl
  · rw [if_neg h, if_pos (by omega), if_pos (by omega)]
    rw [Int.toNat_natCast, List.take_of_length_le (Nat.le_refl _), List.take_of_length_le (by omega)]

theorem one64 (i : Nat) (h : i ≤ 1000) : wrap64 ((i : Int) + 1) = ((i + 1 : Nat) : Int) := by unfold wrap64; omega

theorem same_loop (l : List S44) (hl : l.length ≤ 1000) (d : Nat) : ∀ (i k : Nat), i + d = l.length → d < k → deadboltref02_Same.l0 k l l l.length i = some true := by
  induction d with
  | zero =>
    intro i k hi hk
    obtain ⟨k, rfl⟩ : ∃ m, k = m + 1 := ⟨k - 1, by omega⟩
    simp only [deadboltref02_Same.l0]
    rw [if_neg (by omega)]
  | succ d ih =>
    intro i k hi hk
    obtain ⟨k, rfl⟩ : ∃ m, k = m + 1 := ⟨k - 1, by omega⟩
    simp only [deadboltref02_Same.l0]
    rw [if_pos (by omega), if_pos (by omega), if_pos (by omega), if_pos (by omega), if_neg (by simp), one64 i (by omega)]
    exact ih (i + 1) k (by omega) (by omega)
theorem same_f (l : List S44) (hl : l.length ≤ 1000) (k : Nat) (hk : l.length < k) : deadboltref02_Same.f k l l = some true := by
  unfold deadboltref02_Same.f
  rw [if_pos rfl]
  exact same_loop l hl l.length 0 k (by omega) hk

theorem alive_f : deadboltlaw02_alive.f = some true := by decide +kernel

/-! words -/
theorem wrapped_again (k v : Int) : wrapped k (wrapped k v) = wrapped k v := by
  unfold wrapped
  split
  · unfold wrap64 wrap32; omega
  · split
    · omega
    · split
      · rfl
      · rfl
theorem wrapped_two (k x a b : Int) : wrapped k (wrap64 (wrapped k (wrap64 (x + a)) + b)) = wrapped k (wrap64 (wrapped k (wrap64 (x + b)) + a)) := by
  unfold wrapped
  split
  · unfold wrap64 wrap32; omega
  · split
    · unfold wrap64; omega
    · split
      · unfold wrap64; omega
      · rfl

/-! memories -/
theorem set_self (l : List S44) (i : Nat) (h : i < l.length) : l.set i ⟨(rd_T44 l i).f0, (rd_T44 l i).f1⟩ = l := by
  rw [rd_get l i h]
  exact List.set_getElem_self h
theorem rd_set_same (l : List S44) (i : Nat) (c : S44) (h : i < l.length) : rd_T44 (l.set i c) i = c := by
  rw [rd_get _ i (by rw [List.length_set]; exact h)]
  simp
theorem rd_set_other (l : List S44) (i j : Nat) (c : S44) (hj : j < l.length) (hij : i ≠ j) : rd_T44 (l.set i c) j = rd_T44 l j := by
  rw [rd_get _ j (by rw [List.length_set]; exact hj), rd_get l j hj, List.getElem_set_ne hij]
theorem ok_len {l : List S44} (h : okMem l = true) : l.length ≤ 64 := by
  unfold okMem at h
  rw [Bool.and_eq_true] at h
  exact of_decide_eq_true h.1
theorem ok_fits {l : List S44} (h : okMem l = true) (i : Nat) (hi : i < l.length) : fits (rd_T44 l i) = true := by
  unfold okMem allFit at h
  rw [Bool.and_eq_true, List.all_eq_true] at h
  rw [rd_get l i hi]
  exact h.2 _ (List.getElem_mem hi)
theorem fits_err {c : S44} (h : fits c = true) : wrapErr c.f0 = 0 ∧ wrapped c.f0 c.f1 = c.f1 := by
  unfold fits at h
  split at h
  · exact ⟨by assumption, beq_iff_eq.1 h⟩
  · exact absurd h (by simp)
theorem fits_word (k v : Int) (h : wrapErr k = 0) : fits ⟨k, wrapped k v⟩ = true := by
  unfold fits
  rw [if_pos h]
  exact beq_iff_eq.2 (wrapped_again k v)
theorem ok_set {l : List S44} (h : okMem l = true) (i : Nat) (hi : i < l.length) (v : Int) : okMem (l.set i ⟨(rd_T44 l i).f0, wrapped (rd_T44 l i).f0 v⟩) = true := by
  have hf := fits_word (rd_T44 l i).f0 v (fits_err (ok_fits h i hi)).1
  unfold okMem allFit at h ⊢
  rw [Bool.and_eq_true, List.all_eq_true] at h ⊢
  refine ⟨by rw [List.length_set]; exact h.1, fun x hx => ?_⟩
  rcases List.mem_or_eq_of_mem_set hx with hx | rfl
  · exact h.2 x hx
  · exact hf

/-! accesses -/
theorem load_in {l : List S44} (h : okMem l = true) (i : Nat) (hi : i < l.length) : cell_Load.f l i = some ((rd_T44 l i).f1, 0) := by
  unfold cell_Load.f
  rw [if_pos h, if_pos ⟨by omega, by omega⟩]
theorem swap_in {l : List S44} (h : okMem l = true) (i : Nat) (hi : i < l.length) (v : Int) : cell_Swap.f l i v = some (l.set i ⟨(rd_T44 l i).f0, wrapped (rd_T44 l i).f0 v⟩, (rd_T44 l i).f1, 0) := by
  unfold cell_Swap.f
  rw [if_pos h, if_pos ⟨by omega, by omega⟩, Int.toNat_natCast]
theorem add_in {l : List S44} (h : okMem l = true) (i : Nat) (hi : i < l.length) (d : Int) : cell_Add.f l i d = some (l.set i ⟨(rd_T44 l i).f0, wrapped (rd_T44 l i).f0 (wrap64 ((rd_T44 l i).f1 + d))⟩, wrapped (rd_T44 l i).f0 (wrap64 ((rd_T44 l i).f1 + d)), 0) := by
  unfold cell_Add.f
  rw [if_pos h, if_pos ⟨by omega, by omega⟩, Int.toNat_natCast]
theorem cas_in {l : List S44} (h : okMem l = true) (i : Nat) (hi : i < l.length) (old v : Int) (ho : wrapped (rd_T44 l i).f0 old = (rd_T44 l i).f1) : cell_Cas.f l i old v = some (l.set i ⟨(rd_T44 l i).f0, wrapped (rd_T44 l i).f0 v⟩, true, 0) := by
  unfold cell_Cas.f
  rw [if_pos h, if_pos ⟨by omega, by omega⟩, Int.toNat_natCast, if_pos ho, beq_iff_eq.2 ho]

theorem in_of_load {l : List S44} {at_ x : Int} (h : cell_Load.f l at_ = some (x, 0)) : okMem l = true ∧ ∃ i : Nat, at_ = i ∧ i < l.length ∧ x = (rd_T44 l i).f1 := by
  unfold cell_Load.f at h
  by_cases hok : okMem l = true
  · rw [if_pos hok] at h
    by_cases hr : 0 ≤ at_ ∧ at_ < (l.length : Int)
    · rw [if_pos hr] at h
      obtain ⟨i, rfl⟩ : ∃ i : Nat, at_ = i := ⟨at_.toNat, by omega⟩
      simp only [Option.some.injEq, Prod.mk.injEq] at h
      exact ⟨hok, i, rfl, by omega, h.1.symm⟩
    · rw [if_neg hr] at h
      exact absurd h (by simp)
  · rw [if_neg hok] at h
    exact absurd h (by simp)
theorem load_bad {l : List S44} {at_ x e : Int} (h : cell_Load.f l at_ = some (x, e)) (he : ¬ e = 0) : x = 0 := by
  unfold cell_Load.f at h
  split at h
  · split at h
    · simp only [Option.some.injEq, Prod.mk.injEq] at h; exact absurd h.2.symm he
    · simp only [Option.some.injEq, Prod.mk.injEq] at h; exact h.1.symm
  · simp only [Option.some.injEq, Prod.mk.injEq] at h; exact h.1.symm
theorem set_set (l : List S44) (i : Nat) (a b : S44) : (l.set i a).set i b = l.set i b := List.set_set ..

/-- what is loaded from two memories that are as long and may both be, and are the same but at one place -/
theorem load_other {l : List S44} (hok : okMem l = true) (i : Nat) (hi : i < l.length) (v : Int) (other : Int) (k : Nat) :
    deadboltlaw02_CellApart.j1 (k + 1) l i other (l.set i ⟨(rd_T44 l i).f0, wrapped (rd_T44 l i).f0 v⟩) false = some true := by
  simp only [deadboltlaw02_CellApart.j1, Bool.false_eq_true, if_false]
  have ho2 := ok_set hok i hi v
  by_cases hr : 0 ≤ other ∧ other < (l.length : Int)
  · obtain ⟨j, rfl⟩ : ∃ j : Nat, other = j := ⟨other.toNat, by omega⟩
    have hj : j < l.length := by omega
    rw [load_in hok j hj, load_in ho2 j (by rw [List.length_set]; exact hj), alive_f]
    simp only [Option.bind_some, if_true]
    by_cases he : (j : Int) = (i : Int)
    · rw [if_pos he]
    · rw [if_neg he, rd_set_other l i j _ hj (by omega)]
      simp
  · have h1 : cell_Load.f l other = some (0, 3) := by unfold cell_Load.f; rw [if_pos hok, if_neg hr]
    have h2 : cell_Load.f (l.set i ⟨(rd_T44 l i).f0, wrapped (rd_T44 l i).f0 v⟩) other = some (0, 3) := by
      unfold cell_Load.f; rw [if_pos ho2, if_neg (by rw [List.length_set]; exact hr)]
    rw [h1, h2, alive_f]
    simp only [Option.bind_some, if_true]
    split <;> simp

theorem adds {l : List S44} (hok : okMem l = true) (i : Nat) (hi : i < l.length) (other v d : Int) (k : Nat) (hk : 90 < k) :
    deadboltlaw02_CellApart.j0 (k + 2) l i other v d false = some true := by
  have hlen := ok_len hok
  simp only [deadboltlaw02_CellApart.j0, Bool.false_eq_true, if_false]
  have h1 := ok_set hok i hi (wrap64 ((rd_T44 l i).f1 + v))
  have h2 := ok_set hok i hi (wrap64 ((rd_T44 l i).f1 + d))
  rw [add_in hok i hi, add_in hok i hi]
  simp only [Option.bind_some]
  rw [add_in h1 i (by rw [List.length_set]; exact hi), add_in h2 i (by rw [List.length_set]; exact hi)]
  simp only [Option.bind_some, if_true]
  rw [rd_set_same _ _ _ hi, rd_set_same _ _ _ hi]
  simp only [set_set]
  rw [wrapped_two (rd_T44 l i).f0 (rd_T44 l i).f1 d v, if_pos rfl, same_f _ (by rw [List.length_set]; omega) (k + 1) (by rw [List.length_set]; omega)]
  simp only [Option.bind_some, Bool.not_true]
  exact load_other hok i hi _ other k

theorem apart_l (l : List S44) (hl : l.length ≤ 70) (at_ other v d : Int) (k : Nat) (hk : 100 < k) :
    ((cell_Load.f l at_).bind fun bt120 => (if bt120.2 = 0 then ((cell_Swap.f l at_ v).bind fun bt123 => ((cell_Swap.f bt123.1 at_ bt123.2.1).bind fun bt128 => ((cell_Cas.f l at_ bt120.1 v).bind fun bt133 => ((cell_Load.f bt123.1 at_).bind fun bt138 => (if bt123.2.2 = 0 then (if bt128.2.2 = 0 then (if bt133.2.2 = 0 then (if bt138.2 = 0 then (if bt123.2.1 = bt120.1 then (if bt128.2.1 = bt138.1 then (if bt133.2.1 = true then ((deadboltref02_Same.f k bt123.1 bt133.1).bind fun t140 => (if t140 = true then ((deadboltref02_Same.f k bt128.1 l).bind fun t141 => (if t141 = true then ((cell_Right.f bt123.1).bind fun t142 => (deadboltlaw02_CellApart.j0 k l at_ other v d (!t142))) else (deadboltlaw02_CellApart.j0 k l at_ other v d true))) else (deadboltlaw02_CellApart.j0 k l at_ other v d true))) else (deadboltlaw02_CellApart.j0 k l at_ other v d true)) else (deadboltlaw02_CellApart.j0 k l at_ other v d true)) else (deadboltlaw02_CellApart.j0 k l at_ other v d true)) else (deadboltlaw02_CellApart.j0 k l at_ other v d true)) else (deadboltlaw02_CellApart.j0 k l at_ other v d true)) else (deadboltlaw02_CellApart.j0 k l at_ other v d true)) else (deadboltlaw02_CellApart.j0 k l at_ other v d true)))))) else ((deadboltlaw02_alive.f).bind fun t122 => (if t122 = true then (some (bt120.1 == 0)) else (some false))))) = some true := by
  obtain ⟨k, rfl⟩ : ∃ m, k = m + 2 := ⟨k - 2, by omega⟩
  obtain ⟨⟨x, e⟩, hs⟩ : ∃ s, cell_Load.f l at_ = some s := ⟨_, rfl⟩
  rw [hs]
  simp only [Option.bind_some]
  by_cases he : e = 0
  · subst he
    obtain ⟨hok, i, rfl, hi, rfl⟩ := in_of_load hs
    have hf := fits_err (ok_fits hok i hi)
    have ha := ok_set hok i hi v
    rw [if_pos rfl, swap_in hok i hi]
    simp only [Option.bind_some]
    rw [swap_in ha i (by rw [List.length_set]; exact hi), cas_in hok i hi _ _ hf.2, load_in ha i (by rw [List.length_set]; exact hi)]
    simp only [Option.bind_some, if_true]
    rw [rd_set_same _ _ _ hi, set_set, hf.2, set_self l i hi, same_f _ (by rw [List.length_set]; omega) (k + 2) (by rw [List.length_set]; omega), same_f l (by omega) (k + 2) (by omega)]
    simp only [Option.bind_some, if_true, cell_Right.f, ha, Bool.not_true]
    exact adds hok i hi other v d k (by omega)
  · rw [if_neg he, alive_f, load_bad hs he]
    simp

end CellApartAid
open CellApartAid
theorem CellApart (l0 : List S44) (a1 a2 a3 a4 : Int) : deadboltlaw02_CellApart.f 42001 l0 a1 a2 a3 a4 = some true := by
  unfold deadboltlaw02_CellApart.f
  rw [few_f]
  simp only [Option.bind_some]
  exact apart_l (l0.take 70) (by rw [List.length_take]; omega) a1 a2 a3 a4 42001 (by omega)

end Go.Proofs.Ytdecbngdmnmokaa.Pure
