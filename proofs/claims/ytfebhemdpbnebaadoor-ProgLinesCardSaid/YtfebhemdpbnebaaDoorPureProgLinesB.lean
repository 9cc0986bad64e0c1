/- Part B of the plain law of ProgLines: what the functions tell, in plain Lean. Conditions: bounds on the sizes, as each lemma names them. -/
import Derived.Test.YtfebhemdpbnebaaDoorPureProgLinesA
namespace Go.Proofs.YtfebhemdpbnebaaDoor.Pure
open Go.RowKit Go.Proofs.YtfebhemdpbnebaaDoor.PProgLines Go.Proofs.YtfebhemdpbnebaaDoorW.PrintWords Go.Proofs.YtfebhemdpbnebaaDoorW.PrintLast Go.Proofs.YtfebhemdpbnebaaDoorW.PrintMore Go.Proofs.YtfebhemdpbnebaaDoor.Hand
set_option linter.unusedVariables false
set_option linter.unusedSimpArgs false
namespace ProgLinesAid

/-! ### Lines and pieces -/
theorem cut2_bound (n : Nat) : ∀ (l cur : List UInt8), l.length ≤ n → (cut2 cur l).length ≤ l.length + 1 ∧ ∀ p ∈ cut2 cur l, p.length ≤ cur.length + l.length := by
  induction n with
  | zero =>
    intro l cur hl
    have : l = [] := List.length_eq_zero_iff.1 (by omega)
    subst this
    simp [cut2]
  | succ n ih =>
    intro l cur hl
    match l, hl with
    | [], _ => simp [cut2]
    | [b], _ => simp [cut2]
    | a :: b :: r, hl =>
      simp only [List.length_cons] at hl
      rw [cut2]
      split
      · obtain ⟨h1, h2⟩ := ih r [] (by omega)
        refine ⟨by simp only [List.length_cons]; omega, fun p hp => ?_⟩
        rcases List.mem_cons.1 hp with rfl | hp
        · simp
        · have := h2 p hp
          simp only [List.length_cons, List.length_nil] at this ⊢
          omega
      · obtain ⟨h1, h2⟩ := ih (b :: r) (cur ++ [a]) (by simp only [List.length_cons]; omega)
        refine ⟨by simp only [List.length_cons] at h1 ⊢; omega, fun p hp => ?_⟩
        have := h2 p hp
        simp only [List.length_cons, List.length_append, List.length_nil] at this ⊢
        omega
theorem cut1_bound : ∀ (l cur : List UInt8), (cut1 cur l).length ≤ l.length + 1 ∧ ∀ p ∈ cut1 cur l, p.length ≤ cur.length + l.length
  | [], cur => by simp [cut1]
  | b :: r, cur => by
    rw [cut1]
    split
    · obtain ⟨h1, h2⟩ := cut1_bound r []
      refine ⟨by simp only [List.length_cons]; omega, fun p hp => ?_⟩
      rcases List.mem_cons.1 hp with rfl | hp
      · simp
      · have := h2 p hp
        simp only [List.length_cons, List.length_nil] at this ⊢
        omega
    · obtain ⟨h1, h2⟩ := cut1_bound r (cur ++ [b])
      refine ⟨by simp only [List.length_cons] at h1 ⊢; omega, fun p hp => ?_⟩
      have := h2 p hp
      simp only [List.length_cons, List.length_append, List.length_nil] at this ⊢
      omega
/-- What prog tells of a line. -/
def lineP (k : Nat) (s : ByteArray) : Option ((List S32) × Int) :=
  if s.toList = ([] : List UInt8) then prog_acts.f k ([] : List ByteArray) else (strings_Split.f s (⟨#[59, 32]⟩ : ByteArray)).bind fun t => prog_acts.f k t
theorem mem_sizes {L : List ByteArray} {l : List UInt8} {n : Nat} (hm : ∀ p ∈ L.map (·.data.toList), p.length ≤ n) : ∀ x ∈ L, x.size ≤ n := by
  intro x hx
  have := hm _ (List.mem_map.2 ⟨x, hx, rfl⟩)
  rwa [len_data] at this
theorem parse_step (L : List ByteArray) (i k1 : Nat) (acc : List (List S32)) (hin : i < L.length) : prog_Parse.l0 (k1 + 1) acc L (L.length : Int) (i : Int) = if (i : Int) = 8 then some (([] : List (List S32)), (i : Int), 5) else (lineP k1 L[i]).bind fun bt => if bt.2 = 0 then (if acc.length < 5864062014805 then prog_Parse.l0 k1 (acc ++ [bt.1]) L (L.length : Int) (wrap64 ((i : Int) + 1)) else none) else some (([] : List (List S32)), (i : Int), bt.2) := by
  have hx := rdOf_get L i hin
  have hlt : (i : Int) < (L.length : Int) := by omega
  have h0 : (0 : Int) ≤ (i : Int) := by omega
  simp only [prog_Parse.l0, hlt, h0, if_true]
  rw [hx]
  unfold lineP
  by_cases h8 : (i : Int) = 8
  · rw [if_pos h8, if_pos h8]
  · rw [if_neg h8, if_neg h8]
    by_cases he : L[i].toList = ([] : List UInt8)
    · rw [if_pos he, if_pos he]
    · rw [if_neg he, if_neg he, Option.bind_assoc]
/-! ### What Parse tells, in plain Lean -/
def actsV : Nat → List S32 → List (List UInt8) → List S32 × Int
  | _, acc, [] => (acc, 0)
  | i, acc, p :: r => if i = 64 then ([], 2) else if (actv p).2.2 = 0 then actsV (i + 1) (acc ++ [(⟨(actv p).1, (actv p).2.1⟩ : S32)]) r else ([], (actv p).2.2)
def lineV (l : List UInt8) : List S32 × Int := if l = [] then ([], 0) else actsV 0 [] (cut2 [] l)
def rowsV : Nat → List (List S32) → List (List UInt8) → List (List S32) × Int × Int
  | _, acc, [] => (acc, 0, 0)
  | i, acc, l :: r => if i = 8 then ([], 8, 5) else if (lineV l).2 = 0 then rowsV (i + 1) (acc ++ [(lineV l).1]) r else ([], (i : Int), (lineV l).2)
def parseV (l : List UInt8) : List (List S32) × Int × Int := if l.length > 2000 then ([], 0, 2) else rowsV 0 [] (lin [] l)
theorem acts_v (L : List ByteArray) (hL : ∀ x ∈ L, x.size ≤ 4096) (hn : L.length ≤ 4100) : ∀ (j i k1 : Nat) (acc : List S32), i + j = L.length → acc.length = i → j + 1 ≤ k1 →
    prog_acts.l0 k1 acc L (L.length : Int) (i : Int) = some (actsV i acc ((L.drop i).map (·.data.toList))) := by
  intro j
  induction j with
  | zero =>
    intro i k1 acc hi ha h1
    obtain ⟨k1, rfl⟩ : ∃ q, k1 = q + 1 := ⟨k1 - 1, by omega⟩
    simp only [prog_acts.l0]
    rw [if_neg (by omega), List.drop_eq_nil_of_le (by omega)]
    rfl
  | succ j ih =>
    intro i k1 acc hi ha h1
    obtain ⟨k1, rfl⟩ : ∃ q, k1 = q + 1 := ⟨k1 - 1, by omega⟩
    have hin : i < L.length := by omega
    have hx := rdOf_get L i hin
    have hz := hL L[i] (List.getElem_mem hin)
    simp only [prog_acts.l0]
    have hlt : (i : Int) < (L.length : Int) := by omega
    have h0 : (0 : Int) ≤ (i : Int) := by omega
    simp only [hlt, h0, if_true]
    rw [hx, ha, List.drop_eq_getElem_cons hin, List.map_cons, actsV]
    by_cases h64 : i = 64
    · rw [if_pos (by omega), if_pos h64]
    · rw [if_neg (by omega), if_neg h64, act_f _ hz]
      simp only [Option.bind_some]
      by_cases he : (actv L[i].data.toList).2.2 = 0
      · rw [if_pos he, if_pos he, if_pos (by omega), wr ((i : Int) + 1) (by omega) (by omega), show (i : Int) + 1 = ((i + 1 : Nat) : Int) by omega]
        exact ih (i + 1) k1 _ (by omega) (by rw [List.length_append, ha]; rfl) (by omega)
      · rw [if_neg he, if_neg he]
theorem line_v (s : ByteArray) (h : s.size ≤ 4096) (k1 : Nat) (h1 : 9000 ≤ k1) : lineP k1 s = some (lineV s.data.toList) := by
  unfold lineP lineV
  rw [Lib.toList_data]
  by_cases he : s.data.toList = ([] : List UInt8)
  · rw [if_pos he, if_pos he]
    obtain ⟨k1, rfl⟩ : ∃ q, k1 = q + 1 := ⟨k1 - 1, by omega⟩
    unfold prog_acts.f
    simp only [prog_acts.l0, List.length_nil]
    rw [if_neg (by decide)]
  · rw [if_neg he, if_neg he, split_some s h _ (by decide)]
    simp only [Option.bind_some]
    have hs2 := split2 s
    generalize Lib.splitB ⟨#[59, 32]⟩ 0 (Lib.countB s ⟨#[59, 32]⟩) s = R at hs2
    obtain ⟨b1, b2⟩ := cut2_bound s.data.toList.length s.data.toList [] (Nat.le_refl _)
    rw [← hs2] at b1 b2 ⊢
    rw [List.length_map, len_data] at b1
    simp only [List.length_nil, Nat.zero_add, len_data] at b2
    have hsz : ∀ x ∈ R, x.size ≤ 4096 := fun x hx => Nat.le_trans (mem_sizes (l := s.data.toList) b2 x hx) h
    exact acts_v R hsz (by omega) R.length 0 k1 [] (by omega) rfl (by omega)
theorem rows_v (L : List ByteArray) (hL : ∀ x ∈ L, x.size ≤ 4096) (hn : L.length ≤ 4100) : ∀ (j i k1 : Nat) (acc : List (List S32)), i + j = L.length → acc.length = i → j + 10000 ≤ k1 →
    prog_Parse.l0 k1 acc L (L.length : Int) (i : Int) = some (rowsV i acc ((L.drop i).map (·.data.toList))) := by
  intro j
  induction j with
  | zero =>
    intro i k1 acc hi ha h1
    obtain ⟨k1, rfl⟩ : ∃ q, k1 = q + 1 := ⟨k1 - 1, by omega⟩
    simp only [prog_Parse.l0]
    rw [if_neg (by omega), List.drop_eq_nil_of_le (by omega)]
    rfl
  | succ j ih =>
    intro i k1 acc hi ha h1
    obtain ⟨k1, rfl⟩ : ∃ q, k1 = q + 1 := ⟨k1 - 1, by omega⟩
    have hin : i < L.length := by omega
    have hz := hL L[i] (List.getElem_mem hin)
    rw [parse_step L i k1 acc hin, List.drop_eq_getElem_cons hin, List.map_cons, rowsV]
    by_cases h8 : i = 8
    · rw [if_pos (by omega), if_pos h8]
      subst h8
      rfl
    · rw [if_neg (by omega), if_neg h8, line_v L[i] hz k1 (by omega)]
      simp only [Option.bind_some]
      by_cases he : (lineV L[i].data.toList).2 = 0
      · rw [if_pos he, if_pos he, if_pos (by omega), wr ((i : Int) + 1) (by omega) (by omega), show (i : Int) + 1 = ((i + 1 : Nat) : Int) by omega]
        exact ih (i + 1) k1 _ (by omega) (by rw [List.length_append]; simp only [List.length_cons, List.length_nil]; omega) (by omega)
      · rw [if_neg he, if_neg he]
theorem parse_v (s : ByteArray) (k1 : Nat) (h1 : 20000 ≤ k1) : prog_Parse.f k1 s = some (parseV s.data.toList) := by
  unfold prog_Parse.f parseV
  have hlen := len_data s
  by_cases h20 : s.size > 2000
  · rw [if_pos (by omega), if_pos (by omega)]
  · rw [if_neg (show ¬ (s.size : Int) > 2000 by omega), if_neg (show ¬ s.data.toList.length > 2000 by omega)]
    obtain ⟨k1, rfl⟩ : ∃ q, k1 = q + 1 := ⟨k1 - 1, by omega⟩
    rw [Lib.toList_data]
    by_cases he : s.data.toList = ([] : List UInt8)
    · rw [if_pos he, he]
      simp only [prog_Parse.j0]
      exact rows_v [] (fun x hx => by cases hx) (by decide) 0 0 k1 [] rfl rfl (by omega)
    · rw [if_neg he]
      have ht : (Lib.trimSuffix s.data.toList [10]).length ≤ s.size := by
        unfold Lib.trimSuffix
        rw [← len_data]
        split
        · rw [List.length_take]; omega
        · exact Nat.le_refl _
      have hts : strings_TrimSuffix.f s (⟨#[10]⟩ : ByteArray) = some ⟨(Lib.trimSuffix s.data.toList [10]).toArray⟩ := by
        unfold strings_TrimSuffix.f
        rw [if_pos (by omega)]
      rw [hts]
      simp only [Option.bind_some]
      rw [split_some _ (by rw [ba_size]; omega) _ (by decide)]
      simp only [Option.bind_some]
      have hs1 := split1 ⟨(Lib.trimSuffix s.data.toList [10]).toArray⟩
      have hd : (⟨(Lib.trimSuffix s.data.toList [10]).toArray⟩ : ByteArray).data.toList = Lib.trimSuffix s.data.toList [10] := rfl
      rw [hd, ← lin_cut s.data.toList [] he] at hs1
      generalize Lib.splitB ⟨#[10]⟩ 0 (Lib.countB ⟨(Lib.trimSuffix s.data.toList [10]).toArray⟩ ⟨#[10]⟩) ⟨(Lib.trimSuffix s.data.toList [10]).toArray⟩ = R at hs1
      obtain ⟨b1, b2⟩ := cut1_bound (Lib.trimSuffix s.data.toList [10]) []
      rw [← lin_cut s.data.toList [] he, ← hs1] at b1 b2
      rw [List.length_map] at b1
      simp only [List.length_nil, Nat.zero_add] at b2
      have hsz : ∀ x ∈ R, x.size ≤ 4096 := fun x hx => by
        have := mem_sizes (l := s.data.toList) b2 x hx
        omega
      simp only [prog_Parse.j0]
      rw [← hs1]
      exact rows_v R hsz (by omega) R.length 0 k1 [] (by omega) rfl (by omega)
/-! ### What is parsed may be -/
theorem actv_ok (l : List UInt8) (h : (actv l).2.2 = 0) : isActP (actv l).1 (actv l).2.1 = true := by
  unfold actv at h ⊢
  cases hk : kindOf (Lib.cut l [32]).1 with
  | none => rw [hk] at h; simp at h
  | some k =>
    rw [hk] at h
    simp only at h ⊢
    by_cases hr : (Lib.cut l [32]).2.1 = []
    · rw [if_pos hr] at h
      simp at h
    · rw [if_neg hr] at h ⊢
      cases hv : numv (Lib.cut l [32]).2.1 with
      | none => rw [hv] at h; simp at h
      | some n =>
        rw [hv] at h
        simp only at h ⊢
        by_cases hi : isActP k n = true
        · rw [if_pos hi]
          exact hi
        · rw [if_neg hi] at h
          simp at h
theorem actsV_ok : ∀ (L : List (List UInt8)) (i : Nat) (acc : List S32), acc.length = i → i ≤ 64 → acc.all okA = true → ((actsV i acc L).2 = 0 → okP (actsV i acc L).1 = true)
  | [], i, acc, ha, h64, hok => fun _ => by
    rw [actsV]
    unfold okP
    rw [hok, decide_eq_true (show acc.length ≤ 64 by omega)]
    rfl
  | p :: r, i, acc, ha, h64, hok => by
    rw [actsV]
    by_cases hc : i = 64
    · rw [if_pos hc]
      intro h
      simp at h
    · rw [if_neg hc]
      by_cases he : (actv p).2.2 = 0
      · rw [if_pos he]
        refine actsV_ok r (i + 1) _ (by rw [List.length_append, ha]; rfl) (by omega) ?_
        rw [List.all_append, hok]
        have hq : okA (⟨(actv p).1, (actv p).2.1⟩ : S32) = true := actv_ok p he
        simp [hq]
      · rw [if_neg he]
        exact fun h => absurd h he
theorem lineV_ok (l : List UInt8) (h : (lineV l).2 = 0) : okP (lineV l).1 = true := by
  unfold lineV at h ⊢
  by_cases he : l = []
  · rw [if_pos he]
    rfl
  · rw [if_neg he] at h ⊢
    exact actsV_ok _ 0 [] rfl (by decide) rfl h
theorem rowsV_ok : ∀ (L : List (List UInt8)) (i : Nat) (acc : List (List S32)), acc.length = i → i ≤ 8 → acc.all okP = true → ((rowsV i acc L).2.2 = 0 → okPs (rowsV i acc L).1 = true) ∧ ((rowsV i acc L).2.2 ≠ 0 → (rowsV i acc L).1 = [])
  | [], i, acc, ha, h8, hok => ⟨fun _ => by
    rw [rowsV]
    unfold okPs
    rw [hok, decide_eq_true (show acc.length ≤ 8 by omega)]
    rfl, fun h => absurd rfl h⟩
  | p :: r, i, acc, ha, h8, hok => by
    rw [rowsV]
    by_cases hc : i = 8
    · rw [if_pos hc]
      exact ⟨fun h => by simp at h, fun _ => rfl⟩
    · rw [if_neg hc]
      by_cases he : (lineV p).2 = 0
      · rw [if_pos he]
        refine rowsV_ok r (i + 1) _ (by rw [List.length_append, ha]; rfl) (by omega) ?_
        rw [List.all_append, hok]
        simp [lineV_ok p he]
      · rw [if_neg he]
        exact ⟨fun h => absurd h he, fun _ => rfl⟩
theorem parseV_ok (l : List UInt8) : ((parseV l).2.2 = 0 → okPs (parseV l).1 = true) ∧ ((parseV l).2.2 ≠ 0 → (parseV l).1 = []) := by
  unfold parseV
  split
  · exact ⟨fun h => by simp at h, fun _ => rfl⟩
  · exact rowsV_ok _ 0 [] rfl (by decide) rfl
/-! ### What is printed is parsed as it was -/
def wordL (k : Int) : List UInt8 := if k = 0 then kLock else if k = 1 then kTry else if k = 2 then kUnlock else kWork
def pieceL (a : S32) : List UInt8 := wordL a.f0 ++ 32 :: Lib.itoa a.f1
def joinL (p : List S32) : List UInt8 := Lib.join (p.map pieceL) [59, 32]
def textL (l : List (List S32)) : List UInt8 := (l.map fun p => joinL p ++ [10]).flatten
theorem word_data (k : Int) : (wordB k).data.toList = wordL k := by
  unfold wordB wordL
  split
  · rfl
  · split
    · rfl
    · split <;> rfl
theorem piece_data (a : S32) : (pieceB a).data.toList = pieceL a := by
  unfold pieceB pieceL
  rw [ByteArray.data_append, ByteArray.data_append, Array.toList_append, Array.toList_append, word_data]
  simp
theorem join_data (p : List S32) : (joinB p).data.toList = joinL p := by
  unfold joinB joinL
  rw [List.map_map]
  have : ((fun x : ByteArray => x.data.toList) ∘ pieceB) = pieceL := funext piece_data
  rw [this]
theorem text_data (l : List (List S32)) : (textB l).data.toList = textL l := by
  unfold textB textL
  have h : ∀ (l : List (List S32)) (s : ByteArray), (l.foldl (fun s p => s ++ lineB p) s).data.toList = s.data.toList ++ (l.map fun p => joinL p ++ [10]).flatten := by
    intro l
    induction l with
    | nil => intro s; simp
    | cons p r ih =>
      intro s
      rw [List.foldl_cons, ih, ByteArray.data_append, Array.toList_append]
      have e : (lineB p).data.toList = joinL p ++ [10] := by
        show (joinB p ++ (⟨#[10]⟩ : ByteArray)).data.toList = _
        rw [ByteArray.data_append, Array.toList_append, join_data]
      rw [e]
      simp
  rw [h l ⟨#[]⟩]
  rfl
/-- A piece's bytes: none is a line's end, none a ';'. -/
theorem dec_bytes (u : Nat) (b : UInt8) (h : b ∈ Lib.decDigits u) : b ≠ 10 ∧ b ≠ 59 := by
  induction u using Nat.strongRecOn with
  | _ u ih =>
    have hd : ∀ d : Nat, d < 10 → UInt8.ofNat (48 + d) ≠ 10 ∧ UInt8.ofNat (48 + d) ≠ 59 := by decide
    by_cases hu : u < 10
    · rw [Lib.decDigits_one hu] at h
      rw [List.mem_singleton.1 h]
      exact hd u hu
    · rw [Lib.decDigits, dif_neg hu] at h
      rcases List.mem_append.1 h with h | h
      · exact ih (u / 10) (by omega) h
      · rw [List.mem_singleton.1 h]
        exact hd (u % 10) (by omega)
theorem piece_bytes (a : S32) (ha : okA a = true) : ∀ b ∈ pieceL a, b ≠ 10 ∧ b ≠ 59 := by
  intro b hb
  obtain ⟨_, h0, _⟩ := okA_bounds a ha
  have hw : ∀ k : Int, ∀ b ∈ wordL k, b ≠ 10 ∧ b ≠ 59 := by
    intro k
    unfold wordL
    split
    · decide
    · split
      · decide
      · split <;> decide
  unfold pieceL at hb
  rcases List.mem_append.1 hb with hb | hb
  · exact hw _ b hb
  · rcases List.mem_cons.1 hb with rfl | hb
    · decide
    · rw [itoa_pos _ h0] at hb
      exact dec_bytes _ b hb
theorem word_blank (k : Int) : 32 ∉ wordL k := by
  unfold wordL
  split
  · decide
  · split
    · decide
    · split <;> decide
theorem word_kind (k : Int) (h0 : 0 ≤ k) (h3 : k ≤ 3) : kindOf (wordL k) = some k := by
  obtain h | h | h | h : k = 0 ∨ k = 1 ∨ k = 2 ∨ k = 3 := by omega
  all_goals (subst h; decide)
theorem blank_split (w d : List UInt8) (hw : 32 ∉ w) : Lib.cut (w ++ 32 :: d) [32] = (w, d, true) := by
  rcases cut_blank (w ++ 32 :: d) with ⟨_, h⟩ | ⟨a, b, hl, he, ha⟩
  · exact absurd (List.mem_append_right _ List.mem_cons_self) h
  · rw [hl]
    have key : ∀ (w a : List UInt8), 32 ∉ w → 32 ∉ a → w ++ 32 :: d = a ++ 32 :: b → w = a ∧ d = b := by
      intro w
      induction w with
      | nil =>
        intro a _ ha h
        cases a with
        | nil => simp at h; exact ⟨rfl, h⟩
        | cons x a =>
          simp only [List.nil_append, List.cons_append, List.cons.injEq] at h
          exact absurd (h.1 ▸ List.mem_cons_self) ha
      | cons y w ih =>
        intro a hw ha h
        cases a with
        | nil =>
          simp only [List.nil_append, List.cons_append, List.cons.injEq] at h
          exact absurd (h.1 ▸ List.mem_cons_self) hw
        | cons x a =>
          simp only [List.cons_append, List.cons.injEq] at h
          obtain ⟨rfl, h⟩ := h
          obtain ⟨rfl, rfl⟩ := ih a (fun q => hw (List.mem_cons_of_mem _ q)) (fun q => ha (List.mem_cons_of_mem _ q)) h
          exact ⟨rfl, rfl⟩
    obtain ⟨rfl, rfl⟩ := key w a hw ha he
    rfl
theorem actv_piece (a : S32) (ha : okA a = true) : actv (pieceL a) = (a.f0, a.f1, 0) := by
  obtain ⟨⟨b0, b3⟩, h0, h1⟩ := okA_bounds a ha
  unfold actv pieceL
  rw [blank_split _ _ (word_blank _)]
  simp only [word_kind _ b0 b3]
  have hd := itoa_one a.f1 h0
  rw [if_neg (fun q => by rw [q] at hd; simp at hd), (numv_iff _ a.f1).2 ⟨h0, by omega, rfl⟩]
  simp only
  rw [if_pos (show isActP a.f0 a.f1 = true from ha)]
theorem cut2_none : ∀ (x cur : List UInt8), 59 ∉ x → cut2 cur x = [cur ++ x]
  | [], cur, _ => by rw [cut2, List.append_nil]
  | [b], cur, _ => by rw [cut2]
  | a :: b :: r, cur, h => by
    rw [cut2, if_neg (fun (q : a = 59 ∧ b = 32) => h (q.1 ▸ List.mem_cons_self)), cut2_none (b :: r) (cur ++ [a]) (fun q => h (List.mem_cons_of_mem _ q))]
    simp
theorem cut2_sep (rest : List UInt8) : ∀ (x cur : List UInt8), 59 ∉ x → cut2 cur (x ++ 59 :: 32 :: rest) = (cur ++ x) :: cut2 [] rest
  | [], cur, _ => by
    rw [List.nil_append, cut2, if_pos ⟨rfl, rfl⟩, List.append_nil]
  | [b], cur, h => by
    rw [List.cons_append, List.nil_append, cut2, if_neg (fun (q : b = 59 ∧ (59 : UInt8) = 32) => h (q.1 ▸ List.mem_cons_self)), cut2, if_pos ⟨rfl, rfl⟩]
  | a :: b :: r, cur, h => by
    rw [List.cons_append, List.cons_append, cut2, if_neg (fun (q : a = 59 ∧ b = 32) => h (q.1 ▸ List.mem_cons_self))]
    have := cut2_sep rest (b :: r) (cur ++ [a]) (fun q => h (List.mem_cons_of_mem _ q))
    rw [List.cons_append] at this
    rw [this]
    simp
theorem cut2_join : ∀ (x : List UInt8) (r : List (List UInt8)), 59 ∉ x → (∀ y ∈ r, 59 ∉ y) → cut2 [] (Lib.join (x :: r) [59, 32]) = x :: r
  | x, [], hx, _ => by
    rw [Lib.join_one, cut2_none x [] hx]
    rfl
  | x, y :: r, hx, hr => by
    have e : Lib.join (x :: y :: r) [59, 32] = x ++ 59 :: 32 :: Lib.join (y :: r) [59, 32] := by
      rw [Lib.join_cons, Lib.join_cons]
      simp [Lib.joinTail]
    rw [e, cut2_sep _ x [] hx, cut2_join y r (hr y List.mem_cons_self) (fun z hz => hr z (List.mem_cons_of_mem _ hz))]
    rfl
theorem actsV_pieces : ∀ (q : List S32) (i : Nat) (acc : List S32), i + q.length ≤ 64 → q.all okA = true → actsV i acc (q.map pieceL) = (acc ++ q, 0)
  | [], i, acc, _, _ => by rw [List.map_nil, actsV, List.append_nil]
  | a :: r, i, acc, h, hok => by
    rw [List.all_cons, Bool.and_eq_true] at hok
    simp only [List.length_cons] at h
    rw [List.map_cons, actsV, if_neg (by omega), actv_piece a hok.1, if_pos rfl, actsV_pieces r (i + 1) _ (by omega) hok.2]
    simp
theorem lineV_join (p : List S32) (hp : okP p = true) : lineV (joinL p) = (p, 0) := by
  obtain ⟨h64, hall⟩ := okP_all p hp
  unfold lineV
  cases p with
  | nil => rw [if_pos (by rfl)]
  | cons a r =>
    have ha := hall a List.mem_cons_self
    have e : joinL (a :: r) = Lib.join (pieceL a :: r.map pieceL) [59, 32] := rfl
    rw [if_neg ?_, e, cut2_join _ _ (fun q => (piece_bytes a ha 59 q).2 rfl) ?_]
    · exact actsV_pieces (a :: r) 0 [] (by omega) (List.all_eq_true.2 hall)
    · intro y hy q
      obtain ⟨c, hc, rfl⟩ := List.mem_map.1 hy
      exact (piece_bytes c (hall c (List.mem_cons_of_mem _ hc)) 59 q).2 rfl
    · intro q
      rw [e, Lib.join_cons] at q
      have := (List.append_eq_nil_iff.1 q).1
      unfold pieceL at this
      simp at this
theorem join_bytes (p : List S32) (hp : okP p = true) : 10 ∉ joinL p := by
  obtain ⟨_, hall⟩ := okP_all p hp
  cases p with
  | nil => exact fun q => by cases q
  | cons a r =>
    have e : joinL (a :: r) = Lib.join (pieceL a :: r.map pieceL) [59, 32] := rfl
    rw [e, Lib.join_cons]
    intro q
    rcases List.mem_append.1 q with q | q
    · exact (piece_bytes a (hall a List.mem_cons_self) 10 q).1 rfl
    · unfold Lib.joinTail at q
      obtain ⟨y, hy, q⟩ := List.mem_flatten.1 q
      obtain ⟨z, hz, rfl⟩ := List.mem_map.1 hy
      obtain ⟨c, hc, rfl⟩ := List.mem_map.1 hz
      rcases List.mem_append.1 q with q | q
      · revert q; decide
      · exact (piece_bytes c (hall c (List.mem_cons_of_mem _ hc)) 10 q).1 rfl
theorem lin_line (rest : List UInt8) : ∀ (x cur : List UInt8), 10 ∉ x → lin cur (x ++ 10 :: rest) = (cur ++ x) :: lin [] rest
  | [], cur, _ => by rw [List.nil_append, lin, if_pos rfl, List.append_nil]
  | b :: r, cur, h => by
    rw [List.cons_append, lin, if_neg (fun (q : b = 10) => h (q ▸ List.mem_cons_self)), lin_line rest r _ (fun q => h (List.mem_cons_of_mem _ q))]
    simp
theorem lin_text : ∀ (l : List (List S32)), l.all okP = true → lin [] (textL l) = l.map joinL
  | [], _ => rfl
  | p :: r, h => by
    rw [List.all_cons, Bool.and_eq_true] at h
    have e : textL (p :: r) = joinL p ++ 10 :: textL r := by
      unfold textL
      rw [List.map_cons, List.flatten_cons]
      simp
    rw [e, lin_line _ _ [] (join_bytes p h.1), lin_text r h.2]
    rfl
theorem rowsV_joins : ∀ (q : List (List S32)) (i : Nat) (acc : List (List S32)), i ≤ 8 → q.all okP = true → rowsV i acc (q.map joinL) = if i + q.length ≤ 8 then (acc ++ q, 0, 0) else ([], 8, 5)
  | [], i, acc, h, _ => by
    rw [List.map_nil, rowsV, if_pos (by simpa using h), List.append_nil]
  | p :: r, i, acc, h, hok => by
    rw [List.all_cons, Bool.and_eq_true] at hok
    rw [List.map_cons, rowsV, List.length_cons]
    by_cases h8 : i = 8
    · rw [if_pos h8, if_neg (by omega)]
    · rw [if_neg h8, lineV_join p hok.1, if_pos rfl, rowsV_joins r (i + 1) _ (by omega) hok.2]
      have e : acc ++ [p] ++ r = acc ++ p :: r := by simp
      rw [e]
      by_cases hz : i + 1 + r.length ≤ 8
      · rw [if_pos hz, if_pos (by omega)]
      · rw [if_neg hz, if_neg (by omega)]
theorem parseV_text (l : List (List S32)) (h : l.all okP = true) (hz : (textL l).length ≤ 2000) : parseV (textL l) = if l.length ≤ 8 then (l, 0, 0) else ([], 8, 5) := by
  unfold parseV
  rw [if_neg (by omega), lin_text l h, rowsV_joins l 0 [] (by decide) h, Nat.zero_add, List.nil_append]
theorem parse_text (l : List (List S32)) (h : okPs l = true) (k : Nat) (hk : 20000 ≤ k) : prog_Parse.f k (textB l) = some (if (textB l).size > 2000 then ([], 0, 2) else (l, 0, 0)) := by
  have hz : (textL l).length = (textB l).size := by rw [← text_data, len_data]
  unfold okPs at h
  rw [Bool.and_eq_true, decide_eq_true_iff] at h
  rw [parse_v _ k hk, text_data]
  by_cases h2 : (textB l).size > 2000
  · rw [if_pos h2]
    unfold parseV
    rw [if_pos (by omega)]
  · rw [if_neg h2, parseV_text l h.2 (by omega), if_pos h.1]
theorem ps_sizes (l : List (List S32)) (h : okPs l = true) : l.length ≤ 8 ∧ ∀ p ∈ l, p.length ≤ 64 := by
  obtain ⟨h8, hall⟩ := okPs_all l h
  exact ⟨h8, fun p hp => (okP_all p (hall p hp)).1⟩

end ProgLinesAid

end Go.Proofs.YtfebhemdpbnebaaDoor.Pure
