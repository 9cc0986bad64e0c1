/- The plain law of CellTells: for all memories and numbers the law function answers true: which memories may be, and any access to any cell of any, is as the document says, or refused. No conditions beyond those of the given statement. -/
import Derived.Test.YtdecbngdmnmokaaPCellTellsx4
namespace Go.Proofs.Ytdecbngdmnmokaa.Pure
open Go.RowKit Go.Proofs.Ytdecbngdmnmokaa.PCellTells Go.Proofs.YtdecbngdmnmokaaW.PrintWords Go.Proofs.YtdecbngdmnmokaaW.PrintLast Go.Proofs.YtdecbngdmnmokaaW.PrintMore Go.Proofs.Ytdecbngdmnmokaa.Hand
namespace CellTellsAid

theorem few_f (l : List S44) : deadboltlaw02_few.f l = some (l.take 70) := by
  unfold deadboltlaw02_few.f mn
  by_cases h : (70 : Int) < (l.length : Int)
  · rw [if_pos h, if_pos (by omega), if_pos (by omega)]; rfl
  · rw [if_neg h, if_pos (by omega), if_pos (by omega)]
    rw [Int.toNat_natCast, List.take_of_length_le (Nat.le_refl _), List.take_of_length_le (by omega)]

theorem one64 (i : Nat) (h : i ≤ 1000) : wrap64 ((i : Int) + 1) = ((i + 1 : Nat) : Int) := by unfold wrap64; omega

theorem same_loop (l : List S44) (hl : l.length ≤ 1000) (d : Nat) : ∀ (i k : Nat), i + d = l.length → d < k → deadboltref02_Same.l0 k l l l.length i = some true := by
  induction d with
  | zero =>
    intro i k hi hk
    obtain ⟨k, rfl⟩ : ∃ m, k = m + 1 := ⟨k - 1, by omega⟩
    simp only [deadboltref02_Same.l0]
    rw [if_neg (by omega)]
  | succ d ih =>
    intro i k hi hk
    obtain ⟨k, rfl⟩ : ∃ m, k = m + 1 := ⟨k - 1, by omega⟩
    simp only [deadboltref02_Same.l0]
    rw [if_pos (by omega), if_pos (by omega), if_pos (by omega), if_pos (by omega), if_neg (by simp), one64 i (by omega)]
    exact ih (i + 1) k (by omega) (by omega)
theorem same_f (l : List S44) (hl : l.length ≤ 1000) (k : Nat) (hk : l.length < k) : deadboltref02_Same.f k l l = some true := by
  unfold deadboltref02_Same.f
  rw [if_pos rfl]
  exact same_loop l hl l.length 0 k (by omega) hk

theorem alive_f : deadboltlaw02_alive.f = some true := by decide +kernel

/-! words -/
theorem wrapped_again (k v : Int) : wrapped k (wrapped k v) = wrapped k v := by
  unfold wrapped
  split
  · unfold wrap64 wrap32; omega
  · split
    · omega
    · split
      · rfl
      · rfl
theorem wrapped_two (k x a b : Int) : wrapped k (wrap64 (wrapped k (wrap64 (x + a)) + b)) = wrapped k (wrap64 (wrapped k (wrap64 (x + b)) + a)) := by
  unfold wrapped
  split
  · unfold wrap64 wrap32; omega
  · split
    · unfold wrap64; omega
    · split
      · unfold wrap64; omega
      · rfl

/-! memories -/
theorem set_self (l : List S44) (i : Nat) (h : i < l.length) : l.set i ⟨(rd_T44 l i).f0, (rd_T44 l i).f1⟩ = l := by
  rw [rd_get l i h]
  exact List.set_getElem_self h
theorem rd_set_same (l : List S44) (i : Nat) (c : S44) (h : i < l.length) : rd_T44 (l.set i c) i = c := by
  rw [rd_get _ i (by rw [List.length_set]; exact h)]
  simp
theorem rd_set_other (l : List S44) (i j : Nat) (c : S44) (hj : j < l.length) (hij : i ≠ j) : rd_T44 (l.set i c) j = rd_T44 l j := by
  rw [rd_get _ j (by rw [List.length_set]; exact hj), rd_get l j hj, List.getElem_set_ne hij]
theorem ok_len {l : List S44} (h : okMem l = true) : l.length ≤ 64 := by
  unfold okMem at h
  rw [Bool.and_eq_true] at h
  exact of_decide_eq_true h.1
theorem ok_fits {l : List S44} (h : okMem l = true) (i : Nat) (hi : i < l.length) : fits (rd_T44 l i) = true := by
  unfold okMem allFit at h
  rw [Bool.and_eq_true, List.all_eq_true] at h
  rw [rd_get l i hi]
  exact h.2 _ (List.getElem_mem hi)
theorem fits_err {c : S44} (h : fits c = true) : wrapErr c.f0 = 0 ∧ wrapped c.f0 c.f1 = c.f1 := by
  unfold fits at h
  split at h
  · exact ⟨by assumption, beq_iff_eq.1 h⟩
  · exact absurd h (by simp)
theorem fits_word (k v : Int) (h : wrapErr k = 0) : fits ⟨k, wrapped k v⟩ = true := by
  unfold fits
  rw [if_pos h]
  exact beq_iff_eq.2 (wrapped_again k v)
theorem ok_set {l : List S44} (h : okMem l = true) (i : Nat) (hi : i < l.length) (v : Int) : okMem (l.set i ⟨(rd_T44 l i).f0, wrapped (rd_T44 l i).f0 v⟩) = true := by
  have hf := fits_word (rd_T44 l i).f0 v (fits_err (ok_fits h i hi)).1
  unfold okMem allFit at h ⊢
  rw [Bool.and_eq_true, List.all_eq_true] at h ⊢
  refine ⟨by rw [List.length_set]; exact h.1, fun x hx => ?_⟩
  rcases List.mem_or_eq_of_mem_set hx with hx | rfl
  · exact h.2 x hx
  · exact hf

/-! accesses -/
theorem load_in {l : List S44} (h : okMem l = true) (i : Nat) (hi : i < l.length) : cell_Load.f l i = some ((rd_T44 l i).f1, 0) := by
  unfold cell_Load.f
  rw [if_pos h, if_pos ⟨by omega, by omega⟩]
theorem swap_in {l : List S44} (h : okMem l = true) (i : Nat) (hi : i < l.length) (v : Int) : cell_Swap.f l i v = some (l.set i ⟨(rd_T44 l i).f0, wrapped (rd_T44 l i).f0 v⟩, (rd_T44 l i).f1, 0) := by
  unfold cell_Swap.f
  rw [if_pos h, if_pos ⟨by omega, by omega⟩, Int.toNat_natCast]
theorem add_in {l : List S44} (h : okMem l = true) (i : Nat) (hi : i < l.length) (d : Int) : cell_Add.f l i d = some (l.set i ⟨(rd_T44 l i).f0, wrapped (rd_T44 l i).f0 (wrap64 ((rd_T44 l i).f1 + d))⟩, wrapped (rd_T44 l i).f0 (wrap64 ((rd_T44 l i).f1 + d)), 0) := by
  unfold cell_Add.f
  rw [if_pos h, if_pos ⟨by omega, by omega⟩, Int.toNat_natCast]
theorem cas_in {l : List S44} (h : okMem l = true) (i : Nat) (hi : i < l.length) (old v : Int) (ho : wrapped (rd_T44 l i).f0 old = (rd_T44 l i).f1) : cell_Cas.f l i old v = some (l.set i ⟨(rd_T44 l i).f0, wrapped (rd_T44 l i).f0 v⟩, true, 0) := by
  unfold cell_Cas.f
  rw [if_pos h, if_pos ⟨by omega, by omega⟩, Int.toNat_natCast, if_pos ho, beq_iff_eq.2 ho]

theorem tmod_emod (x b : Int) : Int.tmod x b = if 0 ≤ x then x % b else -((-x) % b) := by
  split
  · rename_i h; exact Int.tmod_eq_emod_of_nonneg h
  · rename_i h
    have : Int.tmod x b = -(Int.tmod (-x) b) := by rw [Int.neg_tmod]; omega
    rw [this, Int.tmod_eq_emod_of_nonneg (by omega)]
/-! the document's words -/
theorem wrapErr_kind (kd : Int) : wrapErr kd = 0 ↔ (kd = 0 ∨ kd = 1 ∨ kd = 2) := by
  unfold wrapErr
  split
  · simp [*]
  · split
    · simp [*]
    · split
      · simp [*]
      · simp [*]
theorem ref_rem (x : Int) : Int.tmod (wrap64 (Int.tmod x 4294967296 + 4294967296)) 4294967296 = x % 4294967296 := by
  have h0 := tmod_emod x 4294967296
  have h1 : wrap64 (Int.tmod x 4294967296 + 4294967296) = Int.tmod x 4294967296 + 4294967296 := by unfold wrap64; split at h0 <;> omega
  rw [h1, tmod_emod _ 4294967296]
  split at h0 <;> split <;> omega
theorem ref_wrap (kd x : Int) (h : wrapErr kd = 0) : deadboltref01_Wrap.f kd x = some (wrapped kd x) := by
  have h := (wrapErr_kind kd).1 h
  unfold deadboltref01_Wrap.f
  rw [ref_rem]
  rcases h with rfl | rfl | rfl
  · rw [if_neg (by omega), if_pos rfl]
    simp only [wrapped, if_true]
    split <;> (congr 1; unfold wrap64; (try unfold wrap32); omega)
  · simp [wrapped]
  · simp [wrapped]
theorem kind_f (kd : Int) : deadboltref01_Kind.f kd = some (decide (wrapErr kd = 0)) := by
  unfold deadboltref01_Kind.f
  by_cases h : wrapErr kd = 0
  · have h' := (wrapErr_kind kd).1 h
    rw [if_pos (by omega), decide_eq_true (by omega), decide_eq_true h]
  · have h' : ¬ (kd = 0 ∨ kd = 1 ∨ kd = 2) := fun q => h ((wrapErr_kind kd).2 q)
    rw [decide_eq_false h]
    by_cases h0 : kd ≥ 0
    · rw [if_pos h0, decide_eq_false (by omega)]
    · rw [if_neg h0]
theorem ref_fits (c : S44) : deadboltref01_Fits.f c.f0 c.f1 = some (fits c) := by
  unfold deadboltref01_Fits.f fits
  rw [kind_f]
  by_cases h : wrapErr c.f0 = 0
  · simp only [Option.bind_some]
    rw [decide_eq_true h, if_pos rfl, if_pos h, ref_wrap _ _ h]
    rfl
  · simp only [Option.bind_some]
    rw [decide_eq_false h, if_neg (by simp), if_neg h]
theorem ref_add (kd a b : Int) (h : wrapErr kd = 0) : deadboltref01_Add.f kd a b = some (wrapped kd (wrap64 (a + b))) := by
  unfold deadboltref01_Add.f
  rw [ref_wrap kd a h, ref_wrap kd b h]
  simp only [Option.bind_some]
  rw [ref_wrap kd _ h]
  simp only [Option.bind_some]
  rcases (wrapErr_kind kd).1 h with rfl | rfl | rfl
  · rw [if_neg (by omega)]; congr 1; simp [wrapped]; unfold wrap64 wrap32; omega
  · rw [if_neg (by omega)]; congr 1; simp [wrapped]; unfold wrap64; omega
  · rw [if_pos rfl]; congr 1; simp [wrapped, IntKind.wrap_u64]; unfold wrap64; omega

/-! the document's Right, Store -/
theorem right_loop (l : List S44) (hl : l.length ≤ 1000) (d : Nat) : ∀ (i k : Nat), i + d = l.length → d < k → (∀ t : Nat, t < i → fits (rd_T44 l t) = true) → deadboltref02_Right.l0 k l l l.length i = some (okMem l) := by
  induction d with
  | zero =>
    intro i k hi hk hd
    obtain ⟨k, rfl⟩ : ∃ m, k = m + 1 := ⟨k - 1, by omega⟩
    simp only [deadboltref02_Right.l0]
    rw [if_neg (by omega)]
    have := all_end l (fun t ht => hd t (by omega))
    unfold okMem
    rw [this, Bool.and_true]
    congr 1
    exact decide_eq_decide.2 (by omega)
  | succ d ih =>
    intro i k hi hk hd
    obtain ⟨k, rfl⟩ : ∃ m, k = m + 1 := ⟨k - 1, by omega⟩
    simp only [deadboltref02_Right.l0]
    rw [if_pos (by omega), if_pos (by omega), if_pos (by omega), ref_fits, one64 i (by omega)]
    simp only [Option.bind_some]
    by_cases hf : fits (rd_T44 l i) = true
    · rw [if_pos hf]
      exact ih (i + 1) k (by omega) (by omega) (all_at l i (by omega) hd hf)
    · rw [if_neg hf]
      have := all_not l i (by omega) (by simpa using hf)
      unfold okMem
      rw [this, Bool.and_false]
theorem right_f (l : List S44) (hl : l.length ≤ 1000) (k : Nat) (hk : l.length < k) : deadboltref02_Right.f k l = some (okMem l) := by
  unfold deadboltref02_Right.f
  exact right_loop l hl l.length 0 k (by omega) hk (fun t ht => absurd ht (by omega))

theorem take_next (T : List S44) (i : Nat) (h : i < T.length) : T.take (i + 1) = T.take i ++ [T[i]] := List.take_succ_eq_append_getElem h
theorem store_loop (l : List S44) (hl : l.length ≤ 1000) (a : Nat) (v : Int) (ha : a < l.length) (hw : wrapErr (rd_T44 l a).f0 = 0) (T : List S44) (hT : T = l.set a ⟨(rd_T44 l a).f0, wrapped (rd_T44 l a).f0 v⟩) (d : Nat) :
    ∀ (i k : Nat), i + d = l.length → d < k → deadboltref02_Store.l0 k a v (T.take i) l l.length i = some T := by
  have hTl : T.length = l.length := by rw [hT, List.length_set]
  induction d with
  | zero =>
    intro i k hi hk
    obtain ⟨k, rfl⟩ : ∃ m, k = m + 1 := ⟨k - 1, by omega⟩
    simp only [deadboltref02_Store.l0]
    rw [if_neg (by omega), List.take_of_length_le (by omega)]
  | succ d ih =>
    intro i k hi hk
    obtain ⟨k, rfl⟩ : ∃ m, k = m + 1 := ⟨k - 1, by omega⟩
    have hlt : (T.take i).length < 8796093022208 := by rw [List.length_take]; omega
    have hiT : i < T.length := by omega
    simp only [deadboltref02_Store.l0]
    rw [if_pos (by omega), if_pos (by omega), if_pos (by omega), one64 i (by omega)]
    by_cases he : (i : Int) = (a : Int)
    · have he' : i = a := by omega
      subst he'
      rw [if_pos rfl, ref_wrap _ _ hw]
      simp only [Option.bind_some]
      rw [if_pos hlt]
      have : T.take i ++ [(⟨(rd_T44 l i).f0, wrapped (rd_T44 l i).f0 v⟩ : S44)] = T.take (i + 1) := by
        rw [take_next T i hiT]
        congr 2
        subst hT
        simp
      rw [this]
      exact ih (i + 1) k (by omega) (by omega)
    · rw [if_neg he, if_pos hlt]
      have : T.take i ++ [(⟨(rd_T44 l i).f0, (rd_T44 l i).f1⟩ : S44)] = T.take (i + 1) := by
        rw [take_next T i hiT]
        congr 2
        subst hT
        rw [List.getElem_set_ne (by omega), rd_get l i (by omega)]
      rw [this]
      exact ih (i + 1) k (by omega) (by omega)
theorem store_f (l : List S44) (hl : l.length ≤ 1000) (a : Nat) (v : Int) (ha : a < l.length) (hw : wrapErr (rd_T44 l a).f0 = 0) (k : Nat) (hk : l.length < k) :
    deadboltref02_Store.f k l a v = some (l.set a ⟨(rd_T44 l a).f0, wrapped (rd_T44 l a).f0 v⟩) := by
  have h := store_loop l hl a v ha hw _ rfl l.length 0 k (by omega) hk
  unfold deadboltref02_Store.f
  exact h
theorem why_f (l : List S44) (hl : l.length ≤ 1000) (a : Int) (k : Nat) (hk : l.length < k) : deadboltref02_Why.f k l a = some (if okMem l = true then (if 0 ≤ a ∧ a < (l.length : Int) then 0 else 3) else 1) := by
  unfold deadboltref02_Why.f
  rw [right_f l hl k hk]
  simp only [Option.bind_some]
  by_cases ho : okMem l = true
  · rw [if_pos ho, if_pos ho]
    by_cases h1 : a < 0
    · rw [if_pos h1, if_neg (by omega)]
    · rw [if_neg h1]
      by_cases h2 : a ≥ (l.length : Int)
      · rw [if_pos h2, if_neg (by omega)]
      · rw [if_neg h2, if_pos (by omega)]
  · rw [if_neg ho, if_neg ho]

/-! the law -/
theorem tells_in {l : List S44} (hl : l.length ≤ 70) (hok : okMem l = true) (i : Nat) (hi : i < l.length) (v old : Int) (k : Nat) (hk : 90 < k) :
    deadboltlaw02_CellTells.j0 (k + 2) l i v old (rd_T44 l i).f1 0 (l.set i ⟨(rd_T44 l i).f0, wrapped (rd_T44 l i).f0 v⟩) 0
      (l.set i ⟨(rd_T44 l i).f0, wrapped (rd_T44 l i).f0 (wrap64 ((rd_T44 l i).f1 + v))⟩) (wrapped (rd_T44 l i).f0 (wrap64 ((rd_T44 l i).f1 + v))) 0
      (l.set i ⟨(rd_T44 l i).f0, wrapped (rd_T44 l i).f0 v⟩) (rd_T44 l i).f1 0
      (l.set i ⟨(rd_T44 l i).f0, if wrapped (rd_T44 l i).f0 old = (rd_T44 l i).f1 then wrapped (rd_T44 l i).f0 v else (rd_T44 l i).f1⟩) (wrapped (rd_T44 l i).f0 old == (rd_T44 l i).f1) 0 false = some true := by
  have hf := fits_err (ok_fits hok i hi)
  have hs := fun v => store_f l (by omega) i v hi hf.1 (k + 1) (by omega)
  have hsl : ∀ c : S44, deadboltref02_Same.f (k + 1) (l.set i c) (l.set i c) = some true := fun c => same_f _ (by rw [List.length_set]; omega) _ (by rw [List.length_set]; omega)
  have hsl0 : ∀ c : S44, deadboltref02_Same.f k (l.set i c) (l.set i c) = some true := fun c => same_f _ (by rw [List.length_set]; omega) _ (by rw [List.length_set]; omega)
  have hadd : deadboltref02_Add.f (k + 1) l i v = some (l.set i ⟨(rd_T44 l i).f0, wrapped (rd_T44 l i).f0 (wrap64 ((rd_T44 l i).f1 + v))⟩, wrapped (rd_T44 l i).f0 (wrap64 ((rd_T44 l i).f1 + v))) := by
    unfold deadboltref02_Add.f
    rw [if_pos (by omega), if_pos (by omega), ref_add _ _ _ hf.1]
    simp only [Option.bind_some]
    rw [hs, wrapped_again]
    rfl
  have hcas : deadboltref02_Cas.f (k + 1) l i old v = some (l.set i ⟨(rd_T44 l i).f0, if wrapped (rd_T44 l i).f0 old = (rd_T44 l i).f1 then wrapped (rd_T44 l i).f0 v else (rd_T44 l i).f1⟩, wrapped (rd_T44 l i).f0 old == (rd_T44 l i).f1) := by
    unfold deadboltref02_Cas.f
    rw [if_pos (by omega), if_pos (by omega), ref_wrap _ _ hf.1]
    simp only [Option.bind_some]
    by_cases h : wrapped (rd_T44 l i).f0 old = (rd_T44 l i).f1
    · rw [if_pos h.symm, hs, if_pos h, beq_iff_eq.2 h]; rfl
    · rw [if_neg (Ne.symm h), if_neg h, beq_eq_false_iff_ne.2 h, set_self l i hi]
  simp only [deadboltlaw02_CellTells.j0, Bool.false_eq_true, if_false]
  rw [why_f l (by omega) i (k + 1) (by omega), if_pos hok, if_pos ⟨by omega, by omega⟩]
  simp only [Option.bind_some, if_true]
  rw [hadd, hcas, hs]
  simp only [Option.bind_some]
  rw [if_pos (show (0 : Int) ≤ (i : Int) by omega), if_pos (show (i : Int) < (l.length : Int) by omega), hsl]
  simp only [Option.bind_some, Bool.not_true, deadboltlaw02_CellTells.j1, Bool.false_eq_true, if_false]
  rw [hsl0, hsl0, hsl0]
  simp

theorem tells_out {l : List S44} (hl : l.length ≤ 70) (at_ v old : Int) (e : Int) (he : ¬ e = 0) (hw : (if okMem l = true then (if 0 ≤ at_ ∧ at_ < (l.length : Int) then 0 else 3) else 1) = e) (k : Nat) (hk : 90 < k) :
    deadboltlaw02_CellTells.j0 (k + 2) l at_ v old 0 e [] e [] 0 e [] 0 e [] false e false = some true := by
  simp only [deadboltlaw02_CellTells.j0, Bool.false_eq_true, if_false]
  rw [why_f l (by omega) at_ (k + 1) (by omega), hw]
  simp only [Option.bind_some]
  rw [if_neg he]
  simp

end CellTellsAid
open CellTellsAid
theorem tells_l (l : List S44) (hl : l.length ≤ 70) (a1 a2 a3 : Int) (k : Nat) (hk : 100 < k) :
    ((cell_Load.f l a1).bind fun bt158 => ((cell_Store.f l a1 a2).bind fun bt160 => ((cell_Add.f l a1 a2).bind fun bt164 => ((cell_Swap.f l a1 a2).bind fun bt169 => ((cell_Cas.f l a1 a3 a2).bind fun bt174 => ((cell_Right.f l).bind fun t179 => ((deadboltref02_Right.f k l).bind fun t180 => (if (t179 != t180) = true then (deadboltlaw02_CellTells.j0 k l a1 a2 a3 bt158.1 bt158.2 bt160.1 bt160.2 bt164.1 bt164.2.1 bt164.2.2 bt169.1 bt169.2.1 bt169.2.2 bt174.1 bt174.2.1 bt174.2.2 true) else ((deadboltlaw02_alive.f).bind fun t181 => (deadboltlaw02_CellTells.j0 k l a1 a2 a3 bt158.1 bt158.2 bt160.1 bt160.2 bt164.1 bt164.2.1 bt164.2.2 bt169.1 bt169.2.1 bt169.2.2 bt174.1 bt174.2.1 bt174.2.2 (!t181))))))))))) = some true := by
  obtain ⟨k, rfl⟩ : ∃ m, k = m + 2 := ⟨k - 2, by omega⟩
  rw [right_f l (by omega) (k + 2) (by omega)]
  simp only [cell_Store.f, cell_Load.f, cell_Add.f, cell_Swap.f, cell_Cas.f, cell_Right.f, Option.bind_some, bne_self_eq_false, Bool.false_eq_true, if_false, alive_f, Bool.not_true]
  by_cases ho : okMem l = true
  · simp only [if_pos ho]
    by_cases hr : 0 ≤ a1 ∧ a1 < (l.length : Int)
    · simp only [if_pos hr]
      obtain ⟨i, rfl⟩ : ∃ i : Nat, a1 = i := ⟨a1.toNat, by omega⟩
      simp only [Int.toNat_natCast]
      exact tells_in hl ho i (by omega) a2 a3 k (by omega)
    · simp only [if_neg hr]
      exact tells_out hl a1 a2 a3 3 (by omega) (by rw [if_pos ho, if_neg hr]) k (by omega)
  · simp only [if_neg ho]
    exact tells_out hl a1 a2 a3 1 (by omega) (by rw [if_neg ho]) k (by omega)
theorem CellTells (l0 : List S44) (a1 a2 a3 : Int) : deadboltlaw02_CellTells.f 42001 l0 a1 a2 a3 = some true := by
  unfold deadboltlaw02_CellTells.f
  rw [few_f]
  simp only [Option.bind_some]
  exact tells_l (l0.take 70) (by rw [List.length_take]; omega) a1 a2 a3 42001 (by omega)

end Go.Proofs.Ytdecbngdmnmokaa.Pure
