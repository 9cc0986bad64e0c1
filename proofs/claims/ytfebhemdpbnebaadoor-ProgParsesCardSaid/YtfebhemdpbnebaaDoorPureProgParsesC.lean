/- Part C of the plain law of ProgParses: what the functions tell, in plain Lean. Conditions: bounds on the sizes, as each lemma names them. -/
import Derived.Test.YtfebhemdpbnebaaDoorPureProgParsesB
namespace Go.Proofs.YtfebhemdpbnebaaDoor.Pure
open Go.RowKit Go.Proofs.YtfebhemdpbnebaaDoor.PProgParses Go.Proofs.YtfebhemdpbnebaaDoorW.PrintWords Go.Proofs.YtfebhemdpbnebaaDoorW.PrintLast Go.Proofs.YtfebhemdpbnebaaDoorW.PrintMore Go.Proofs.YtfebhemdpbnebaaDoor.Hand
set_option linter.unusedVariables false
namespace ProgParsesAid

/-! ### Programs -/
theorem acts_eq (L : List ByteArray) (hL : ∀ x ∈ L, x.size ≤ 4096) (hn : L.length ≤ 4100) : ∀ (j i k1 k2 : Nat) (acc : List S32), i + j = L.length → acc.length = i → j + 200 ≤ k1 → j + 200 ≤ k2 →
    ∃ r, prog_acts.l0 k1 acc L (L.length : Int) (i : Int) = some r ∧ deadboltref12_program.l0 k2 acc L (L.length : Int) (i : Int) = some r := by
  intro j
  induction j with
  | zero =>
    intro i k1 k2 acc hi ha h1 h2
    obtain ⟨k1, rfl⟩ : ∃ q, k1 = q + 1 := ⟨k1 - 1, by omega⟩
    obtain ⟨k2, rfl⟩ : ∃ q, k2 = q + 1 := ⟨k2 - 1, by omega⟩
    refine ⟨(acc, 0), ?_, ?_⟩
    · simp only [prog_acts.l0]
      rw [if_neg (by omega)]
    · simp only [deadboltref12_program.l0]
      rw [if_neg (by omega)]
  | succ j ih =>
    intro i k1 k2 acc hi ha h1 h2
    obtain ⟨k1, rfl⟩ : ∃ q, k1 = q + 1 := ⟨k1 - 1, by omega⟩
    obtain ⟨k2, rfl⟩ : ∃ q, k2 = q + 1 := ⟨k2 - 1, by omega⟩
    have hin : i < L.length := by omega
    have hx := rdOf_get L i hin
    have hz := hL L[i] (List.getElem_mem hin)
    simp only [prog_acts.l0, deadboltref12_program.l0]
    have hlt : (i : Int) < (L.length : Int) := by omega
    have h0 : (0 : Int) ≤ (i : Int) := by omega
    simp only [hlt, h0, if_true]
    rw [hx, ha]
    by_cases h64 : (i : Int) = 64
    · rw [if_pos h64, if_pos h64]
      exact ⟨_, rfl, rfl⟩
    · rw [if_neg h64, if_neg h64, act_f _ hz]
      obtain ⟨k3, rfl⟩ : ∃ q, k2 = q + 9 := ⟨k2 - 9, by omega⟩
      rw [act_ref _ hz k3 (by omega)]
      simp only [Option.bind_some]
      by_cases he : (actv L[i].data.toList).2.2 = 0
      · rw [if_pos he, if_pos he, if_pos (by omega), if_pos (by omega), wr ((i : Int) + 1) (by omega) (by omega), show (i : Int) + 1 = ((i + 1 : Nat) : Int) by omega]
        exact ih (i + 1) k1 (k3 + 9) _ (by omega) (by rw [List.length_append, ha]; rfl) (by omega) (by omega)
      · rw [if_neg he, if_neg he]
        exact ⟨_, rfl, rfl⟩
theorem split_some (s : ByteArray) (h : s.size ≤ 4096) (sep : ByteArray) (h1 : 1 ≤ sep.size) : strings_Split.f s sep = some (Lib.splitB sep 0 (Lib.countB s sep) s) := by
  unfold strings_Split.f
  rw [if_pos ⟨h, h1⟩]
/-- What prog tells of a line. -/
def lineP (k : Nat) (s : ByteArray) : Option ((List S32) × Int) :=
  if s.toList = ([] : List UInt8) then prog_acts.f k ([] : List ByteArray) else (strings_Split.f s (⟨#[59, 32]⟩ : ByteArray)).bind fun t => prog_acts.f k t
theorem mem_sizes {L : List ByteArray} {l : List UInt8} {n : Nat} (hm : ∀ p ∈ L.map (·.data.toList), p.length ≤ n) : ∀ x ∈ L, x.size ≤ n := by
  intro x hx
  have := hm _ (List.mem_map.2 ⟨x, hx, rfl⟩)
  rwa [len_data] at this
theorem line_eq (s : ByteArray) (h : s.size ≤ 4096) (k1 k2 : Nat) (h1 : 9000 ≤ k1) (h2 : 9000 ≤ k2) : ∃ r, lineP k1 s = some r ∧ deadboltref12_program.f k2 s = some r := by
  unfold lineP deadboltref12_program.f
  simp only [Option.bind_some]
  by_cases he : s.toList = ([] : List UInt8)
  · rw [if_pos he, if_pos he]
    refine ⟨([], 0), ?_, rfl⟩
    obtain ⟨k1, rfl⟩ : ∃ q, k1 = q + 1 := ⟨k1 - 1, by omega⟩
    unfold prog_acts.f
    simp only [prog_acts.l0, List.length_nil]
    rw [if_neg (by decide)]
  · rw [if_neg he, if_neg he, split_some s h _ (by decide)]
    obtain ⟨R, hR, hm⟩ := pieces_f s h k2 (by omega)
    rw [hR]
    simp only [Option.bind_some]
    have hs2 := split2 s
    rw [← hm] at hs2
    rw [map_data_inj hs2]
    obtain ⟨b1, b2⟩ := cut2_bound s.data.toList.length s.data.toList [] (Nat.le_refl _)
    rw [← hm] at b1 b2
    rw [List.length_map, len_data] at b1
    simp only [List.length_nil, Nat.zero_add, len_data] at b2
    have hsz : ∀ x ∈ R, x.size ≤ 4096 := fun x hx => Nat.le_trans (mem_sizes (l := s.data.toList) b2 x hx) h
    obtain ⟨r, g1, g2⟩ := acts_eq R hsz (by omega) R.length 0 k1 k2 [] (by omega) rfl (by omega) (by omega)
    exact ⟨r, g1, g2⟩
theorem parse_step (L : List ByteArray) (i k1 : Nat) (acc : List (List S32)) (hin : i < L.length) : prog_Parse.l0 (k1 + 1) acc L (L.length : Int) (i : Int) = if (i : Int) = 8 then some (([] : List (List S32)), (i : Int), 5) else (lineP k1 L[i]).bind fun bt => if bt.2 = 0 then (if acc.length < 5864062014805 then prog_Parse.l0 k1 (acc ++ [bt.1]) L (L.length : Int) (wrap64 ((i : Int) + 1)) else none) else some (([] : List (List S32)), (i : Int), bt.2) := by
  have hx := rdOf_get L i hin
  have hlt : (i : Int) < (L.length : Int) := by omega
  have h0 : (0 : Int) ≤ (i : Int) := by omega
  simp only [prog_Parse.l0, hlt, h0, if_true]
  rw [hx]
  unfold lineP
  by_cases h8 : (i : Int) = 8
  · rw [if_pos h8, if_pos h8]
  · rw [if_neg h8, if_neg h8]
    by_cases he : L[i].toList = ([] : List UInt8)
    · rw [if_pos he, if_pos he]
    · rw [if_neg he, if_neg he, Option.bind_assoc]
theorem rows_eq (L : List ByteArray) (hL : ∀ x ∈ L, x.size ≤ 4096) (hn : L.length ≤ 4100) : ∀ (j i k1 k2 : Nat) (acc : List (List S32)), i + j = L.length → acc.length ≤ i → j + 10000 ≤ k1 → j + 10000 ≤ k2 →
    ∃ r, prog_Parse.l0 k1 acc L (L.length : Int) (i : Int) = some r ∧ deadboltref12_Parse.l0 k2 acc L (L.length : Int) (i : Int) = some r := by
  intro j
  induction j with
  | zero =>
    intro i k1 k2 acc hi ha h1 h2
    obtain ⟨k1, rfl⟩ : ∃ q, k1 = q + 1 := ⟨k1 - 1, by omega⟩
    obtain ⟨k2, rfl⟩ : ∃ q, k2 = q + 1 := ⟨k2 - 1, by omega⟩
    refine ⟨(acc, 0, 0), ?_, ?_⟩
    · simp only [prog_Parse.l0]
      rw [if_neg (by omega)]
    · simp only [deadboltref12_Parse.l0]
      rw [if_neg (by omega)]
  | succ j ih =>
    intro i k1 k2 acc hi ha h1 h2
    obtain ⟨k1, rfl⟩ : ∃ q, k1 = q + 1 := ⟨k1 - 1, by omega⟩
    obtain ⟨k2, rfl⟩ : ∃ q, k2 = q + 1 := ⟨k2 - 1, by omega⟩
    have hin : i < L.length := by omega
    have hx := rdOf_get L i hin
    have hz := hL L[i] (List.getElem_mem hin)
    obtain ⟨⟨p, e⟩, g1, g2⟩ := line_eq L[i] hz k1 k2 (by omega) (by omega)
    rw [parse_step L i k1 acc hin]
    have hlt : (i : Int) < (L.length : Int) := by omega
    have h0 : (0 : Int) ≤ (i : Int) := by omega
    simp only [deadboltref12_Parse.l0, hlt, h0, if_true]
    rw [hx]
    by_cases h8 : (i : Int) = 8
    · rw [if_pos h8, if_pos h8]
      exact ⟨_, rfl, rfl⟩
    · rw [if_neg h8, if_neg h8, g1, g2]
      simp only [Option.bind_some]
      by_cases he : e = 0
      · rw [if_pos he, if_pos he, if_pos (by omega), if_pos (by omega), wr ((i : Int) + 1) (by omega) (by omega), show (i : Int) + 1 = ((i + 1 : Nat) : Int) by omega]
        exact ih (i + 1) k1 k2 _ (by omega) (by rw [List.length_append]; simp only [List.length_cons, List.length_nil]; omega) (by omega) (by omega)
      · rw [if_neg he, if_neg he]
        exact ⟨_, rfl, rfl⟩
theorem parse_eq (s : ByteArray) (h : s.size ≤ 4096) (k1 k2 : Nat) (h1 : 20000 ≤ k1) (h2 : 20000 ≤ k2) : ∃ r, prog_Parse.f k1 s = some r ∧ deadboltref12_Parse.f k2 s = some r := by
  unfold prog_Parse.f deadboltref12_Parse.f
  by_cases h20 : (s.size : Int) > 2000
  · rw [if_pos h20, if_pos h20]
    exact ⟨_, rfl, rfl⟩
  · rw [if_neg h20, if_neg h20]
    obtain ⟨R, hR, hm⟩ := lines_f s h k2 (by omega)
    rw [hR]
    simp only [Option.bind_some]
    obtain ⟨k1, rfl⟩ : ∃ q, k1 = q + 1 := ⟨k1 - 1, by omega⟩
    by_cases he : s.toList = ([] : List UInt8)
    · rw [if_pos he]
      rw [Lib.toList_data] at he
      rw [he] at hm
      have hR0 : R = [] := by
        cases R with
        | nil => rfl
        | cons a b => simp [lin] at hm
      subst hR0
      simp only [prog_Parse.j0]
      exact rows_eq [] (fun x hx => by cases hx) (by decide) 0 0 k1 k2 [] rfl (Nat.le_refl _) (by omega) (by omega)
    · rw [if_neg he]
      rw [Lib.toList_data] at he
      have ht : (Lib.trimSuffix s.data.toList [10]).length ≤ s.size := by
        unfold Lib.trimSuffix
        rw [← len_data]
        split
        · rw [List.length_take]; omega
        · exact Nat.le_refl _
      have hts : strings_TrimSuffix.f s (⟨#[10]⟩ : ByteArray) = some ⟨(Lib.trimSuffix s.data.toList [10]).toArray⟩ := by
        unfold strings_TrimSuffix.f
        rw [if_pos (by omega)]
      rw [hts]
      simp only [Option.bind_some]
      rw [split_some _ (by rw [ba_size]; omega) _ (by decide)]
      simp only [Option.bind_some]
      have hs1 := split1 ⟨(Lib.trimSuffix s.data.toList [10]).toArray⟩
      have hd : (⟨(Lib.trimSuffix s.data.toList [10]).toArray⟩ : ByteArray).data.toList = Lib.trimSuffix s.data.toList [10] := rfl
      rw [hd, ← lin_cut s.data.toList [] he, ← hm] at hs1
      rw [map_data_inj hs1]
      obtain ⟨b1, b2⟩ := cut1_bound (Lib.trimSuffix s.data.toList [10]) []
      rw [← lin_cut s.data.toList [] he, ← hm] at b1 b2
      rw [List.length_map] at b1
      simp only [List.length_nil, Nat.zero_add] at b2
      have hsz : ∀ x ∈ R, x.size ≤ 4096 := fun x hx => by
        have := mem_sizes (l := s.data.toList) b2 x hx
        omega
      simp only [prog_Parse.j0]
      exact rows_eq R hsz (by omega) R.length 0 k1 k2 [] (by omega) (Nat.le_refl _) (by omega) (by omega)
/-! ### The same -/
theorem acts_self (a : List S32) (ha : a.length ≤ 9000000000) : ∀ (j i k : Nat), i + j = a.length → j + 1 ≤ k → deadboltref12_Acts.l0 k a a (a.length : Int) (i : Int) = some true := by
  intro j
  induction j with
  | zero =>
    intro i k hi hk
    obtain ⟨k, rfl⟩ : ∃ q, k = q + 1 := ⟨k - 1, by omega⟩
    simp only [deadboltref12_Acts.l0]
    rw [if_neg (by omega)]
  | succ j ih =>
    intro i k hi hk
    obtain ⟨k, rfl⟩ : ∃ q, k = q + 1 := ⟨k - 1, by omega⟩
    have hlt : (i : Int) < (a.length : Int) := by omega
    have h0 : (0 : Int) ≤ (i : Int) := by omega
    simp only [deadboltref12_Acts.l0, hlt, h0, if_true]
    rw [if_neg (by simp), wr ((i : Int) + 1) (by omega) (by omega), show (i : Int) + 1 = ((i + 1 : Nat) : Int) by omega]
    exact ih (i + 1) k (by omega) (by omega)
theorem Acts_self (a : List S32) (ha : a.length ≤ 9000000000) (k : Nat) (hk : a.length + 1 ≤ k) : deadboltref12_Acts.f k a a = some true := by
  unfold deadboltref12_Acts.f
  rw [if_pos rfl]
  exact acts_self a ha a.length 0 k (by omega) (by omega)
theorem rdL_get (L : List (List S32)) (i : Nat) (h : i < L.length) : rd_L4 L (i : Int) = L[i] := by
  unfold rd_L4
  rw [Int.toNat_natCast, List.getD_eq_getElem?_getD, List.getElem?_eq_getElem h]
  rfl
theorem same_self (L : List (List S32)) (n : Nat) (hn : n ≤ 9000000000) (hL : ∀ a ∈ L, a.length ≤ n) (hl : L.length ≤ 9000000000) : ∀ (j i k : Nat), i + j = L.length → j + n + 2 ≤ k → deadboltref12_Same.l0 k L L (L.length : Int) (i : Int) = some true := by
  intro j
  induction j with
  | zero =>
    intro i k hi hk
    obtain ⟨k, rfl⟩ : ∃ q, k = q + 1 := ⟨k - 1, by omega⟩
    simp only [deadboltref12_Same.l0]
    rw [if_neg (by omega)]
  | succ j ih =>
    intro i k hi hk
    obtain ⟨k, rfl⟩ : ∃ q, k = q + 1 := ⟨k - 1, by omega⟩
    have hin : i < L.length := by omega
    have hz := hL L[i] (List.getElem_mem hin)
    have hlt : (i : Int) < (L.length : Int) := by omega
    have h0 : (0 : Int) ≤ (i : Int) := by omega
    simp only [deadboltref12_Same.l0, hlt, h0, if_true]
    rw [rdL_get L i hin, Acts_self _ (by omega) k (by omega)]
    simp only [Option.bind_some, if_true]
    rw [wr ((i : Int) + 1) (by omega) (by omega), show (i : Int) + 1 = ((i + 1 : Nat) : Int) by omega]
    exact ih (i + 1) k (by omega) (by omega)
theorem Same_self (L : List (List S32)) (n : Nat) (hn : n ≤ 9000000000) (hL : ∀ a ∈ L, a.length ≤ n) (hl : L.length ≤ 9000000000) (k : Nat) (hk : L.length + n + 2 ≤ k) : deadboltref12_Same.f k L L = some true := by
  unfold deadboltref12_Same.f
  rw [if_pos rfl]
  exact same_self L n hn hL hl L.length 0 k (by omega) (by omega)
/-! ### How much is parsed -/
theorem acts_len (L : List ByteArray) (hn : L.length ≤ 4100) : ∀ (j i k : Nat) (acc p : List S32) (e : Int), i + j = L.length → acc.length = i → i ≤ 64 → prog_acts.l0 k acc L (L.length : Int) (i : Int) = some (p, e) → p.length ≤ 64 := by
  intro j
  induction j with
  | zero =>
    intro i k acc p e hi ha h64 h
    cases k with
    | zero => simp [prog_acts.l0] at h
    | succ k =>
      simp only [prog_acts.l0] at h
      rw [if_neg (by omega)] at h
      cases h
      omega
  | succ j ih =>
    intro i k acc p e hi ha h64 h
    cases k with
    | zero => simp [prog_acts.l0] at h
    | succ k =>
      have hlt : (i : Int) < (L.length : Int) := by omega
      have h0 : (0 : Int) ≤ (i : Int) := by omega
      simp only [prog_acts.l0, hlt, h0, if_true] at h
      by_cases hc : (i : Int) = 64
      · rw [if_pos hc] at h
        cases h
        exact Nat.zero_le _
      · rw [if_neg hc] at h
        obtain ⟨x, hx, h⟩ := Option.bind_eq_some_iff.1 h
        split at h
        · split at h
          · rw [wr ((i : Int) + 1) (by omega) (by omega), show (i : Int) + 1 = ((i + 1 : Nat) : Int) by omega] at h
            exact ih (i + 1) k _ p e (by omega) (by rw [List.length_append, ha]; rfl) (by omega) h
          · cases h
        · cases h
          exact Nat.zero_le _
theorem split_len (s sep : ByteArray) (t : List ByteArray) (h : strings_Split.f s sep = some t) : t.length ≤ 4097 := by
  unfold strings_Split.f at h
  split at h
  · rename_i hc
    cases h
    have := Lib.splitB_length_le sep 0 (Lib.countB s sep) s
    have := Lib.countB_le sep hc.2 _ s (Nat.le_refl _)
    omega
  · cases h
theorem line_len (s : ByteArray) (k : Nat) (p : List S32) (e : Int) (h : lineP k s = some (p, e)) : p.length ≤ 64 := by
  unfold lineP at h
  split at h
  · exact acts_len [] (by decide) 0 0 k [] p e rfl rfl (by decide) h
  · obtain ⟨t, ht, h⟩ := Option.bind_eq_some_iff.1 h
    have := split_len _ _ t ht
    exact acts_len t (by omega) t.length 0 k [] p e (by omega) rfl (by decide) h
theorem rows_len (L : List ByteArray) (hn : L.length ≤ 4100) : ∀ (j i k : Nat) (acc r : List (List S32)) (n e : Int), i + j = L.length → acc.length = i → i ≤ 8 → (∀ a ∈ acc, a.length ≤ 64) → prog_Parse.l0 k acc L (L.length : Int) (i : Int) = some (r, n, e) → r.length ≤ 8 ∧ ∀ a ∈ r, a.length ≤ 64 := by
  intro j
  induction j with
  | zero =>
    intro i k acc r n e hi ha h8 hm h
    cases k with
    | zero => simp [prog_Parse.l0] at h
    | succ k =>
      simp only [prog_Parse.l0] at h
      rw [if_neg (by omega)] at h
      cases h
      exact ⟨by omega, hm⟩
  | succ j ih =>
    intro i k acc r n e hi ha h8 hm h
    cases k with
    | zero => simp [prog_Parse.l0] at h
    | succ k =>
      rw [parse_step L i k acc (by omega)] at h
      by_cases hc : (i : Int) = 8
      · rw [if_pos hc] at h
        cases h
        exact ⟨Nat.zero_le _, fun a q => by cases q⟩
      · rw [if_neg hc] at h
        obtain ⟨⟨p, x⟩, hx, h⟩ := Option.bind_eq_some_iff.1 h
        have hp := line_len _ _ _ _ hx
        split at h
        · split at h
          · rw [wr ((i : Int) + 1) (by omega) (by omega), show (i : Int) + 1 = ((i + 1 : Nat) : Int) by omega] at h
            refine ih (i + 1) k _ r n e (by omega) (by rw [List.length_append, ha]; rfl) (by omega) (fun a q => ?_) h
            rcases List.mem_append.1 q with q | q
            · exact hm a q
            · rw [List.mem_singleton.1 q]; exact hp
          · cases h
        · cases h
          exact ⟨Nat.zero_le _, fun a q => by cases q⟩
theorem parse_len (s : ByteArray) (k : Nat) (r : List (List S32)) (n e : Int) (h : prog_Parse.f k s = some (r, n, e)) : r.length ≤ 8 ∧ ∀ a ∈ r, a.length ≤ 64 := by
  have hj : ∀ (L : List ByteArray), L.length ≤ 4100 → prog_Parse.j0 k L = some (r, n, e) → r.length ≤ 8 ∧ ∀ a ∈ r, a.length ≤ 64 := by
    intro L hL h
    cases k with
    | zero => simp [prog_Parse.j0] at h
    | succ k =>
      simp only [prog_Parse.j0] at h
      exact rows_len L hL L.length 0 k [] r n e (by omega) rfl (by decide) (fun a q => by cases q) h
  unfold prog_Parse.f at h
  split at h
  · cases h
    exact ⟨Nat.zero_le _, fun a q => by cases q⟩
  · split at h
    · exact hj [] (by decide) h
    · obtain ⟨t, _, h⟩ := Option.bind_eq_some_iff.1 h
      obtain ⟨L, hL, h⟩ := Option.bind_eq_some_iff.1 h
      have := split_len _ _ L hL
      exact hj L (by omega) h

end ProgParsesAid

end Go.Proofs.YtfebhemdpbnebaaDoor.Pure
