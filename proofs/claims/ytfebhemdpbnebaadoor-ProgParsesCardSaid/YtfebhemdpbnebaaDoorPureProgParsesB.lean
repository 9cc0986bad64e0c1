/- Part B of the plain law of ProgParses: what the functions tell, in plain Lean. Conditions: bounds on the sizes, as each lemma names them. -/
import Derived.Test.YtfebhemdpbnebaaDoorPureProgParsesA
namespace Go.Proofs.YtfebhemdpbnebaaDoor.Pure
open Go.RowKit Go.Proofs.YtfebhemdpbnebaaDoor.PProgParses Go.Proofs.YtfebhemdpbnebaaDoorW.PrintWords Go.Proofs.YtfebhemdpbnebaaDoorW.PrintLast Go.Proofs.YtfebhemdpbnebaaDoorW.PrintMore Go.Proofs.YtfebhemdpbnebaaDoor.Hand
set_option linter.unusedVariables false
namespace ProgParsesAid

/-! ### Lines and pieces -/
theorem cut2_bound (n : Nat) : ∀ (l cur : List UInt8), l.length ≤ n → (cut2 cur l).length ≤ l.length + 1 ∧ ∀ p ∈ cut2 cur l, p.length ≤ cur.length + l.length := by
  induction n with
  | zero =>
    intro l cur hl
    have : l = [] := List.length_eq_zero_iff.1 (by omega)
    subst this
    simp [cut2]
  | succ n ih =>
    intro l cur hl
    match l, hl with
    | [], _ => simp [cut2]
    | [b], _ => simp [cut2]
    | a :: b :: r, hl =>
      simp only [List.length_cons] at hl
      rw [cut2]
      split
      · obtain ⟨h1, h2⟩ := ih r [] (by omega)
        refine ⟨by simp only [List.length_cons]; omega, fun p hp => ?_⟩
        rcases List.mem_cons.1 hp with rfl | hp
        · simp
        · have := h2 p hp
          simp only [List.length_cons, List.length_nil] at this ⊢
          omega
      · obtain ⟨h1, h2⟩ := ih (b :: r) (cur ++ [a]) (by simp only [List.length_cons]; omega)
        refine ⟨by simp only [List.length_cons] at h1 ⊢; omega, fun p hp => ?_⟩
        have := h2 p hp
        simp only [List.length_cons, List.length_append, List.length_nil] at this ⊢
        omega
theorem cut1_bound : ∀ (l cur : List UInt8), (cut1 cur l).length ≤ l.length + 1 ∧ ∀ p ∈ cut1 cur l, p.length ≤ cur.length + l.length
  | [], cur => by simp [cut1]
  | b :: r, cur => by
    rw [cut1]
    split
    · obtain ⟨h1, h2⟩ := cut1_bound r []
      refine ⟨by simp only [List.length_cons]; omega, fun p hp => ?_⟩
      rcases List.mem_cons.1 hp with rfl | hp
      · simp
      · have := h2 p hp
        simp only [List.length_cons, List.length_nil] at this ⊢
        omega
    · obtain ⟨h1, h2⟩ := cut1_bound r (cur ++ [b])
      refine ⟨by simp only [List.length_cons] at h1 ⊢; omega, fun p hp => ?_⟩
      have := h2 p hp
      simp only [List.length_cons, List.length_append, List.length_nil] at this ⊢
      omega
theorem take_snoc (l : List UInt8) (i f : Nat) (hf : f ≤ i) (hi : i < l.length) : (l.drop f).take (i + 1 - f) = (l.drop f).take (i - f) ++ [l[i]] := by
  rw [show i + 1 - f = (i - f) + 1 by omega, List.take_succ_eq_append_getElem (by rw [List.length_drop]; omega)]
  congr 2
  rw [List.getElem_drop]
  congr 1
  omega
theorem byte_is (b : UInt8) (m : Int) (n : Nat) (hn : n < 256) (hm : m = (n : Int)) : ((b.toNat : Int) = m) ↔ b = UInt8.ofNat n := by
  subst hm
  constructor
  · intro h
    apply UInt8.toNat_inj.1
    rw [UInt8.toNat_ofNat']
    omega
  · rintro rfl
    rw [UInt8.toNat_ofNat']
    omega
theorem lines_l (s : ByteArray) (hs : s.size ≤ 4096) : ∀ (j i f k : Nat) (acc : List ByteArray), i + j = s.size → f ≤ i → acc.length ≤ i → j + 2 ≤ k →
    ∃ R, deadboltref12_lines.l0 k s acc (f : Int) (i : Int) = some (acc ++ R) ∧ R.map (·.data.toList) = lin ((s.data.toList.drop f).take (i - f)) (s.data.toList.drop i) := by
  have hlen := len_data s
  intro j
  induction j with
  | zero =>
    intro i f k acc hi hf ha hk
    obtain ⟨k, rfl⟩ : ∃ q, k = q + 1 := ⟨k - 1, by omega⟩
    simp only [deadboltref12_lines.l0]
    rw [if_neg (by omega), List.drop_eq_nil_of_le (show s.data.toList.length ≤ i by omega)]
    have hd : (s.data.toList.drop f).take (i - f) = s.data.toList.drop f := List.take_of_length_le (by rw [List.length_drop]; omega)
    rw [hd, lin]
    by_cases hfs : (f : Int) < (s.size : Int)
    · rw [if_pos hfs, if_pos (by omega), if_pos (by omega), if_pos (by omega)]
      refine ⟨_, rfl, ?_⟩
      have hne : s.data.toList.drop f ≠ [] := by
        intro q
        have := congrArg List.length q
        rw [List.length_drop] at this
        simp only [List.length_nil] at this
        omega
      rw [if_neg hne]
      simp only [List.map_cons, List.map_nil, Int.toNat_natCast]
      rw [Lib.extract_to_end]
    · rw [if_neg hfs]
      refine ⟨[], by rw [List.append_nil], ?_⟩
      rw [List.drop_eq_nil_of_le (by omega), if_pos rfl]
      rfl
  | succ j ih =>
    intro i f k acc hi hf ha hk
    obtain ⟨k, rfl⟩ : ∃ q, k = q + 1 := ⟨k - 1, by omega⟩
    have hin : i < s.data.toList.length := by omega
    have hb := bt_get s i hin
    have ei : wrap64 ((i : Int) + 1) = ((i + 1 : Nat) : Int) := by
      rw [wr _ (by omega) (by omega)]
      omega
    have hc : (s.data.toList.drop i) = s.data.toList[i] :: s.data.toList.drop (i + 1) := List.drop_eq_getElem_cons hin
    have hsn := take_snoc s.data.toList i f hf hin
    rw [hc, lin]
    simp only [deadboltref12_lines.l0]
    rw [if_pos (by omega), if_pos (by omega), hb, ei]
    have h10 := byte_is s.data.toList[i] 10 10 (by decide) rfl
    by_cases he : s.data.toList[i] = 10
    · rw [if_pos (h10.2 he), if_pos (by omega), if_pos (by omega), if_pos (by omega), if_pos (by omega), if_pos he]
      obtain ⟨R, h1, h2⟩ := ih (i + 1) (i + 1) k (acc ++ [s.extract (f : Int).toNat (i : Int).toNat]) (by omega) (Nat.le_refl _) (by simp; omega) (by omega)
      refine ⟨s.extract (f : Int).toNat (i : Int).toNat :: R, by rw [h1]; simp, ?_⟩
      rw [List.map_cons, h2, ext_data]
      simp
    · rw [if_neg (fun q => he (h10.1 q)), if_neg he]
      obtain ⟨R, h1, h2⟩ := ih (i + 1) f k acc (by omega) (by omega) (by omega) (by omega)
      refine ⟨R, h1, ?_⟩
      rw [h2, hsn]
theorem lines_f (s : ByteArray) (hs : s.size ≤ 4096) (k : Nat) (hk : 4100 ≤ k) : ∃ R, deadboltref12_lines.f k s = some R ∧ R.map (·.data.toList) = lin [] s.data.toList := by
  obtain ⟨R, h1, h2⟩ := lines_l s hs s.size 0 0 k [] (by omega) (Nat.le_refl _) (Nat.le_refl _) (by omega)
  refine ⟨R, h1, ?_⟩
  rw [h2]
  simp
theorem cut2_nil (cur : List UInt8) : cut2 cur [] = [cur] := by rw [cut2]
theorem cut2_one (cur : List UInt8) (b : UInt8) : cut2 cur [b] = [cur ++ [b]] := by rw [cut2]
theorem cut2_two (cur : List UInt8) (a b : UInt8) (r : List UInt8) : cut2 cur (a :: b :: r) = if a = 59 ∧ b = 32 then cur :: cut2 [] r else cut2 (cur ++ [a]) (b :: r) := by rw [cut2]
/-- What the loop over pieces tells from a place on. -/
def PT (s : ByteArray) (k f i : Nat) (acc : List ByteArray) : Prop :=
  ∃ R, deadboltref12_pieces.l0 k s acc (f : Int) (i : Int) = some (acc ++ R) ∧ R.map (·.data.toList) = cut2 ((s.data.toList.drop f).take (i - f)) (s.data.toList.drop i)
theorem pieces_end (s : ByteArray) (hs : s.size ≤ 4096) (j i f k : Nat) (acc : List ByteArray) (hj : j ≤ 1) (hi : i + j = s.size) (hf : f ≤ i) (ha : acc.length ≤ i) : PT s (k + 1) f i acc := by
  have hlen := len_data s
  have ei : wrap64 ((i : Int) + 1) = ((i + 1 : Nat) : Int) := by
    rw [wr _ (by omega) (by omega)]
    omega
  unfold PT
  simp only [deadboltref12_pieces.l0]
  rw [ei, if_neg (by omega), if_pos (by omega), if_pos (by omega), if_pos (by omega)]
  refine ⟨_, rfl, ?_⟩
  simp only [List.map_cons, List.map_nil, Int.toNat_natCast]
  rw [Lib.extract_to_end]
  by_cases h0 : j = 0
  · rw [List.drop_eq_nil_of_le (show s.data.toList.length ≤ i by omega), cut2_nil, List.take_of_length_le (by rw [List.length_drop]; omega)]
  · have hin : i < s.data.toList.length := by omega
    rw [List.drop_eq_getElem_cons hin, List.drop_eq_nil_of_le (show s.data.toList.length ≤ i + 1 by omega), cut2_one, ← take_snoc s.data.toList i f hf hin, List.take_of_length_le (by rw [List.length_drop]; omega)]
theorem step1 (i : Nat) (h : i ≤ 5000) : wrap64 ((i : Int) + 1) = ((i + 1 : Nat) : Int) := by
  rw [wr _ (by omega) (by omega)]
  omega
theorem step2 (i : Nat) (h : i ≤ 5000) : wrap64 ((i : Int) + 2) = ((i + 2 : Nat) : Int) := by
  rw [wr _ (by omega) (by omega)]
  omega
theorem pieces_step (s : ByteArray) (hs : s.size ≤ 4096) (i f k : Nat) (acc : List ByteArray) (hi : i + 1 < s.size) (hf : f ≤ i) (ha : acc.length ≤ i) (h1 : PT s k f (i + 1) acc) (h2 : PT s k (i + 2) (i + 2) (acc ++ [s.extract f i])) : PT s (k + 1) f i acc := by
  have hlen := len_data s
  have hin : i < s.data.toList.length := by omega
  have hin1 : i + 1 < s.data.toList.length := by omega
  obtain ⟨a, hb, hsn, hdl⟩ : ∃ a, bt s (i : Int) = (a.toNat : Int) ∧ (s.data.toList.drop f).take (i + 1 - f) = (s.data.toList.drop f).take (i - f) ++ [a] ∧ s.data.toList.drop i = a :: s.data.toList.drop (i + 1) := ⟨_, bt_get s i hin, take_snoc s.data.toList i f hf hin, List.drop_eq_getElem_cons hin⟩
  obtain ⟨b, hb1, hdl1⟩ : ∃ b, bt s ((i + 1 : Nat) : Int) = (b.toNat : Int) ∧ s.data.toList.drop (i + 1) = b :: s.data.toList.drop (i + 2) := ⟨_, bt_get s (i + 1) hin1, List.drop_eq_getElem_cons hin1⟩
  have ei := Aside0.mk (step1 i (by omega))
  have ei1 := Aside0.mk (step1 (i + 1) (by omega))
  have ei2 := Aside0.mk (step2 i (by omega))
  have h59 := byte_is a 59 59 (by decide) rfl
  have h32 := byte_is b 32 32 (by decide) rfl
  obtain ⟨R1, g1, m1⟩ := h1
  obtain ⟨R2, g2, m2⟩ := h2
  rw [hsn, hdl1] at m1
  rw [Nat.sub_self, List.take_zero] at m2
  unfold PT
  rw [hdl, hdl1, cut2_two]
  simp only [deadboltref12_pieces.l0]
  rw [ei.out, if_pos (by omega), if_pos (by omega), if_pos (by omega), hb, ei1.out, ei2.out]
  by_cases he : a = 59
  · rw [if_pos (h59.2 he), if_pos (by omega), hb1]
    by_cases he2 : b = 32
    · rw [if_pos (h32.2 he2), if_pos (by omega), if_pos (by omega), if_pos (by omega), if_pos (by omega), if_pos ⟨he, he2⟩]
      refine ⟨s.extract f i :: R2, ?_, ?_⟩
      · simp only [Int.toNat_natCast]
        rw [g2]
        simp
      · rw [List.map_cons, m2, ext_data]
    · rw [if_neg (fun q => he2 (h32.1 q)), if_neg (fun q => he2 q.2)]
      exact ⟨R1, g1, m1⟩
  · rw [if_neg (fun q => he (h59.1 q)), if_neg (fun q => he q.1)]
    exact ⟨R1, g1, m1⟩
theorem pieces_l (s : ByteArray) (hs : s.size ≤ 4096) (n : Nat) : ∀ (j i f k : Nat) (acc : List ByteArray), j ≤ n → i + j = s.size → f ≤ i → acc.length ≤ i → j + 2 ≤ k → PT s k f i acc := by
  induction n with
  | zero =>
    intro j i f k acc hj hi hf ha hk
    obtain ⟨k, rfl⟩ : ∃ q, k = q + 1 := ⟨k - 1, by omega⟩
    exact pieces_end s hs j i f k acc (by omega) hi hf ha
  | succ n ih =>
    intro j i f k acc hj hi hf ha hk
    obtain ⟨k, rfl⟩ : ∃ q, k = q + 1 := ⟨k - 1, by omega⟩
    by_cases hj1 : j ≤ 1
    · exact pieces_end s hs j i f k acc hj1 hi hf ha
    · exact pieces_step s hs i f k acc (by omega) hf ha (ih (j - 1) (i + 1) f k acc (by omega) (by omega) (by omega) (by omega) (by omega)) (ih (j - 2) (i + 2) (i + 2) k _ (by omega) (by omega) (Nat.le_refl _) (by rw [List.length_append]; simp only [List.length_cons, List.length_nil]; omega) (by omega))
theorem pieces_f (s : ByteArray) (hs : s.size ≤ 4096) (k : Nat) (hk : 4100 ≤ k) : ∃ R, deadboltref12_pieces.f k s = some R ∧ R.map (·.data.toList) = cut2 [] s.data.toList := by
  obtain ⟨R, h1, h2⟩ := pieces_l s hs s.size s.size 0 0 k [] (Nat.le_refl _) (by omega) (Nat.le_refl _) (Nat.le_refl _) (by omega)
  refine ⟨R, h1, ?_⟩
  rw [h2]
  simp

end ProgParsesAid

end Go.Proofs.YtfebhemdpbnebaaDoor.Pure
