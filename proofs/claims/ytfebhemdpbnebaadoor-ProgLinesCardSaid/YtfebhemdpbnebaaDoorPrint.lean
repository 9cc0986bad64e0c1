/- The machine side of the package prog, fifth text: Print: the text of programs that may be, or ErrArg. It asks that the world holds what strconv wants. -/
import Derived.Test.YtfebhemdpbnebaaDoorBuild
import Derived.Lib.ItoaLen
namespace Go.Proofs.YtfebhemdpbnebaaDoor.Hand
open Go.RowKit Go.Proofs.YtfebhemdpbnebaaDoorW.PrintWords Go.Proofs.YtfebhemdpbnebaaDoorW.PrintLast Go.Proofs.YtfebhemdpbnebaaDoorW.PrintMore
set_option linter.unusedVariables false
set_option linter.unusedSimpArgs false
theorem info9 : (Tryd.prog.info? 9).map (fun i => (i.zero, i.size, i.bytes)) = some (some (.string ⟨#[]⟩), 1, 16) := by kernel_rfl
def Print_T12 : Bool × List (List Nat × List Nat) := (true, [([], []), ([], []), ([1], [1]), ([2], [2]), ([3], [3]), ([4], [4]), ([], []), ([6], [6]), ([7], [7]), ([5, 8], [5, 8]), ([9], [9]), ([0, 10, 8], [0, 10]), ([11, 11, 0, 1, 2, 3, 4, 5, 6, 7, 8, 9, 10, 11], [0, 11])])
def Print_B12 : List Nat := [0, 0, 2, 6, 14, 30, 0, 64, 192, 510, 1022, 2047, 4095]
theorem Print_tab12 : rtab .any (opsOf Tryd.f14 12) = Print_T12 := by kernel_rfl
theorem Print_bits12 : waitsOk Print_T12.2 Print_B12 = true := by kernel_rfl
/-- A kind's word. -/
def wordB (k : Int) : ByteArray := if k = 0 then ⟨#[108, 111, 99, 107]⟩ else if k = 1 then ⟨#[116, 114, 121]⟩ else if k = 2 then ⟨#[117, 110, 108, 111, 99, 107]⟩ else ⟨#[119, 111, 114, 107]⟩
/-- An act's text. -/
def pieceB (a : S32) : ByteArray := wordB a.f0 ++ ⟨#[32]⟩ ++ ⟨(Lib.itoa a.f1).toArray⟩
/-- A program's line. -/
def lineB (p : List S32) : ByteArray := ⟨(Lib.join ((p.map pieceB).map (·.data.toList)) [59, 32]).toArray⟩ ++ ⟨#[10]⟩
def textB (l : List (List S32)) : ByteArray := l.foldl (fun s p => s ++ lineB p) ⟨#[]⟩
def wordsObj : Obj := .cells #[.string ⟨#[108, 111, 99, 107]⟩, .string ⟨#[116, 114, 121]⟩, .string ⟨#[117, 110, 108, 111, 99, 107]⟩, .string ⟨#[119, 111, 114, 107]⟩] 50

theorem okA_bounds (a : S32) (h : okA a = true) : (0 ≤ a.f0 ∧ a.f0 ≤ 3) ∧ 0 ≤ a.f1 ∧ a.f1 ≤ 1000 := by
  unfold okA isActP at h
  split at h
  · have := of_decide_eq_true h
    omega
  · have := of_decide_eq_true h
    omega
theorem joins_le (n : Nat) : ∀ xs : List (List UInt8), (∀ x ∈ xs, x.length ≤ n) → (Lib.join xs [59, 32]).length ≤ xs.length * (n + 2)
  | [], _ => by simp [Lib.join]
  | [x], h => by
    have := h x (by simp)
    simp [Lib.join]
    omega
  | x :: y :: r, h => by
    have h1 := h x (by simp)
    have h2 := joins_le n (y :: r) (fun z hz => h z (by simp [hz]))
    have e : Lib.join (x :: y :: r) [59, 32] = x ++ ([59, 32] ++ Lib.join (y :: r) [59, 32]) := by simp [Lib.join, List.intercalate_cons_cons]
    rw [e]
    simp only [List.length_append, List.length_cons, List.length_nil] at h2 ⊢
    have e2 : (r.length + 1 + 1) * (n + 2) = (r.length + 1) * (n + 2) + (n + 2) := Nat.succ_mul _ _
    omega
theorem ba_len (s : ByteArray) : s.data.toList.length = s.size := by rw [Array.length_toList]; rfl
theorem piece_size (a : S32) (h : okA a = true) : (pieceB a).size ≤ 28 := by
  obtain ⟨_, h1, h2⟩ := okA_bounds a h
  have hl := Lib.itoa_length_le a.f1 (by omega) (by omega)
  have hw : (wordB a.f0).size ≤ 6 := by
    unfold wordB
    repeat' split
    all_goals decide
  have hi : (⟨(Lib.itoa a.f1).toArray⟩ : ByteArray).size = (Lib.itoa a.f1).length := by simp [ByteArray.size]
  have h32 : (⟨#[32]⟩ : ByteArray).size = 1 := rfl
  unfold pieceB
  rw [ByteArray.size_append, ByteArray.size_append, hi, h32]
  omega
theorem okP_all (p : List S32) (h : okP p = true) : p.length ≤ 64 ∧ ∀ a ∈ p, okA a = true := by
  unfold okP at h
  simp only [Bool.and_eq_true, decide_eq_true_iff, List.all_eq_true] at h
  exact h
theorem okPs_all (l : List (List S32)) (h : okPs l = true) : l.length ≤ 8 ∧ ∀ p ∈ l, okP p = true := by
  unfold okPs at h
  simp only [Bool.and_eq_true, decide_eq_true_iff, List.all_eq_true] at h
  exact h
def joinB (p : List S32) : ByteArray := ⟨(Lib.join ((p.map pieceB).map (·.data.toList)) [59, 32]).toArray⟩
theorem join_size (p : List S32) (h : okP p = true) : (joinB p).size ≤ 1920 := by
  obtain ⟨h1, h2⟩ := okP_all p h
  have hj := joins_le 28 ((p.map pieceB).map (·.data.toList)) (fun x hx => by
    obtain ⟨s, hs, rfl⟩ := List.mem_map.1 hx
    obtain ⟨a, ha, rfl⟩ := List.mem_map.1 hs
    rw [ba_len]
    exact piece_size a (h2 a ha))
  have hz : (joinB p).size = (Lib.join ((p.map pieceB).map (·.data.toList)) [59, 32]).length := by simp [joinB, ByteArray.size]
  rw [hz]
  simp only [List.length_map] at hj
  omega
theorem textB_snoc (l : List (List S32)) (p : List S32) : textB (l ++ [p]) = textB l ++ lineB p := by
  unfold textB
  rw [List.foldl_append]
  rfl
theorem textB_take (l : List (List S32)) (i : Nat) (h : i < l.length) : textB (l.take (i + 1)) = textB (l.take i) ++ lineB l[i] := by
  rw [List.take_succ_eq_append_getElem h, textB_snoc]
theorem line_size (p : List S32) (h : okP p = true) : (lineB p).size ≤ 1921 := by
  have := join_size p h
  show (joinB p ++ (⟨#[10]⟩ : ByteArray)).size ≤ 1921
  rw [ByteArray.size_append]
  have h32 : (⟨#[10]⟩ : ByteArray).size = 1 := rfl
  omega
theorem text_size (l : List (List S32)) (h : ∀ p ∈ l, okP p = true) : ∀ i, i ≤ l.length → (textB (l.take i)).size ≤ i * 1921
  | 0, _ => by
    have : (textB (l.take 0)).size = 0 := rfl
    omega
  | i + 1, hi => by
    have h1 := text_size l h i (by omega)
    have h2 := line_size l[i] (h _ (List.getElem_mem (by omega)))
    rw [textB_take l i (by omega), ByteArray.size_append, Nat.succ_mul]
    omega
theorem join_any (v : Value) (xs : List ByteArray) (base : Nat) (w : World) (h : Kd.R Kd.string 9 w base (fun _ => True) v xs) (hn : xs.length ≤ 64) (hlen : (Lib.join (xs.map (·.data.toList)) [59, 32]).length ≤ 140737488355328) :
    Calls Tryd.prog 28 #[v, .string ⟨#[59, 32]⟩] w fun e w' => e = .returned (.string ⟨(Lib.join (xs.map (·.data.toList)) [59, 32]).toArray⟩) ∧ Below w.heap.size w w' := by
  obtain ⟨_, inner, hown, hreps⟩ := h
  obtain ⟨hl, hown⟩ := hown
  rcases hown with ⟨rfl, h0⟩ | ⟨g, cap, cur, rfl, hb, hg, hnc, hcm, hcs, htk⟩
  · have hx : xs = [] := List.length_eq_zero_iff.1 h0
    subst hx
    refine (Tryd.strings_Join_none none 0 ⟨#[59, 32]⟩ w).mono ?_
    rintro e w' ⟨rfl, rfl⟩
    exact ⟨rfl, Below.refl _ _⟩
  · refine (Tryd.strings_Join g 0 cap xs ⟨#[59, 32]⟩ w (fun j x hx => ?_) (blk_lt hg) (by omega) hnc hlen)
    have hj := hreps.2 j x hx
    have hjl : j < xs.length := (List.getElem?_eq_some_iff.1 hx).1
    have hi : inner[j]? = some (.string x) := by
      have h1 : ((inner.drop (j * 1)).take 1) = [Value.string x] := hj
      rw [Nat.mul_one] at h1
      have h2 : ((inner.drop j).take 1)[0]? = some (Value.string x) := by rw [h1]; rfl
      simpa using h2
    have hcur : cur[j]? = some (.string x) := by
      rw [← htk] at hi
      rw [List.getElem?_take] at hi
      split at hi
      · simpa using hi
      · cases hi
    rw [Nat.zero_add]
    exact (blk_cell hg j).trans hcur
theorem builder_below {B b : Nat} {bs : List Value} {w w' : World} (h : Lib.IsBuilder 54 5 B b bs w) (hb : Below w.heap.size w w') : Lib.IsBuilder 54 5 B b bs w' := by
  rcases h with ⟨h1, v, h2, h3, h4⟩ | ⟨h1, v, h2, h3, h4⟩
  · exact .inl ⟨h1, v, blk_below h2 hb, pw_own_below h3 hb, h4⟩
  · exact .inr ⟨h1, v, blk_below h2 hb, pw_own_below h3 hb, h4⟩
set_option maxHeartbeats 2000000 in
set_option maxRecDepth 100000 in
theorem Print_walk (A : Option Addr) (c : Nat) (l : List (List S32)) (w : World) (hC0 : Kd.C (Kd.slice 32 k32) w A l.length l) (hc0 : l.length ≤ c) (hL : Laid w) (hok : okPs l = true)
   (hR : ∀ w, Kd.C (Kd.slice 32 k32) w A l.length l → Calls Tryd.prog 16 #[.slice A l.length c] w fun e w' => e = .returned (.bool true) ∧ Below w.heap.size w w') :
    Calls Tryd.prog 14 #[.slice A l.length c] w fun e w' => e = .returned (.tuple #[.string (textB l), .int .i64 0]) ∧ Below w.heap.size w w' := by
  have HC := Aside0.mk hC0
  have HL := Aside0.mk hL
  have HOK := Aside0.mk hok
  clear hC0 hL hok
  go_enter Tryd.func14, Tryd.ntmps14
  go_wp2_with (go_at_call 16; refine (hR _ HC.out).mono ?_; rintro e w1 ⟨rfl, hb1⟩)
  have HB1 := Aside0.mk hb1
  clear hb1
  go_loopg [17] l.length (fun g v17 wx => ∃ i : Nat, i + g = l.length ∧ v17 = .int .i64 i ∧ Aside0 (Below w.heap.size w wx) ∧ Aside0 (wx.heap[w1.heap.size]? = some wordsObj) ∧ Aside0 (Lib.IsBuilder 54 5 (w1.heap.size + 1) (w1.heap.size + 1) (Lib.strCells (textB (l.take i))) wx))
  case atStart =>
    refine ⟨0, by omega, rfl, ⟨below_alloc (below_alloc HB1.out _) _⟩, ⟨blk_alloc (blk_new w1 wordsObj) _⟩, ⟨?_⟩⟩
    have h := Lib.fresh_isBuilder 54 5 (w1.alloc wordsObj)
    have h2 : Lib.IsBuilder 54 5 (w1.heap.size + 1) (w1.heap.size + 1) [] ((w1.alloc wordsObj).alloc (.cells #[.pointer none, .slice none 0 0] 54)) := by simpa using h
    exact h2
  case round =>
    obtain ⟨i, hig, rfl, HBx, HW, HBu⟩ := hrel
    cases gk with
    | zero =>
      have hi : i = l.length := by omega
      have hnot : ¬ ((i : Int) < (l.length : Int)) := by omega
      have HBF := HBu.out
      rw [hi, List.take_length] at HBF
      have hbl : w1.heap.size + 1 < wr.heap.size := by rcases HBF with ⟨_, v, h2, _⟩ | ⟨_, v, h2, _⟩ <;> exact blk_lt h2
      have HBG := Aside0.mk HBF
      have hsz1 := HB1.out.size
      clear HBF hi
      go_wp2_with fail
      refine (Tryd.Builder_String_any (w1.heap.size + 1) (w1.heap.size + 1) (textB l).data.toList wr HBG.out (by omega)).mono ?_
      rintro e w5 ⟨rfl, hb5⟩
      go_wp2_with fail
      go_ret2
      exact ⟨rfl, HBx.out.trans (hb5.mono (by omega))⟩
    | succ go =>
      have hlt : i < l.length := by omega
      have hil : (i : Int) < (l.length : Int) := by omega
      obtain ⟨ad, A1, c1, he, hx0, hle1, hK1⟩ := at_L4 HC.out (i : Int) (by omega) (by omega)
      cases he
      rw [Int.toNat_natCast] at hx0
      replace hx0 := (HBx.out.cell (World.block_lt_of_cell? w _ hx0)).trans hx0
      have HK1 := Aside0.mk (Kd.C_below hK1 HBx.out)
      clear hK1
      have HOP := Aside0.mk (show okP (rd_L4 l (i : Int)) = true by rw [rdL_at l i hlt]; exact (okPs_all l HOK.out).2 _ (List.getElem_mem hlt))
      have HPL := Aside0.mk (rdL_at l i hlt)
      generalize rd_L4 l (i : Int) = p at *
      obtain ⟨wx, hwx⟩ : ∃ wx, wx = wr := ⟨_, rfl⟩
      subst hwx
      go_wp2
      go_loopg [8, 23] p.length (fun g v8 v23 wy => ∃ j : Nat, j + g = p.length ∧ v23 = .int .i64 j ∧ Aside0 (Kd.R Kd.string 9 wy wx.heap.size (fun _ => True) v8 ((p.take j).map pieceB)) ∧ Aside0 (Below wx.heap.size wx wy))
      case atStart => exact ⟨0, by omega, rfl, ⟨Kd.R_nil _ _ _ _ _⟩, ⟨Below.refl _ _⟩⟩
      case round =>
        obtain ⟨j, hjg, rfl, HO, HBy⟩ := hrel
        cases gk with
        | zero =>
          have hj : j = p.length := by omega
          have hnot : ¬ ((j : Int) < (p.length : Int)) := by omega
          have HOj := HO.out
          rw [hj, List.take_length] at HOj
          have hp64 := (okP_all p HOP.out).1
          have hjs := join_size p HOP.out
          have hjz : (joinB p).size = (Lib.join ((p.map pieceB).map (·.data.toList)) [59, 32]).length := by simp [joinB, ByteArray.size]
          obtain ⟨J, hJ⟩ : ∃ J : ByteArray, J = joinB p := ⟨_, rfl⟩
          have JN : Aside0 (Calls Tryd.prog 28 #[u8, .string ⟨#[59, 32]⟩] wr fun e w' => e = .returned (.string J) ∧ Below wr.heap.size wr w') := ⟨by
            rw [hJ]
            exact join_any u8 (p.map pieceB) wx.heap.size wr HOj (by rw [List.length_map]; exact hp64) (by rw [← hjz]; omega)⟩
          rw [← hJ] at hjs
          have HJ := Aside0.mk hJ
          have hsum : (9223372036854775807 < J.size + 1) = False := by simp only [eq_iff_iff, iff_false]; omega
          have hbl : w1.heap.size + 1 < wx.heap.size := by rcases HBu.out with ⟨_, v, h2, _⟩ | ⟨_, v, h2, _⟩ <;> exact blk_lt h2
          have hts := text_size l (okPs_all l HOK.out).2 i (by omega)
          have hl8 := (okPs_all l HOK.out).1
          have hz1 : (J ++ (⟨#[10]⟩ : ByteArray)).size = J.size + 1 := by rw [ByteArray.size_append]; rfl
          clear hJ HOj hj hjz
          go_wp2_with fail
          refine JN.out.mono ?_
          rintro e w5 ⟨rfl, hb5⟩
          have HB5 := Aside0.mk (HBy.out.trans (hb5.mono HBy.out.size))
          have hs5 := HB5.out.size
          clear hb5
          go_wp2_with fail
          refine (WriteString (w1.heap.size + 1) (w1.heap.size + 1) _ (J ++ (⟨#[10]⟩ : ByteArray)) w5 (builder_below HBu.out HB5.out) (by rw [Lib.strCells_length]; omega) (by omega)).mono ?_
          rintro e w6 ⟨rfl, hB6, hb6⟩
          have HB6 := Aside0.mk hB6
          have HC6 := Aside0.mk hb6
          clear hB6 hb6
          go_wp2_with fail
          go_roundg go
          case rel =>
            have hsz1 := HB1.out.size
            refine ⟨i + 1, by omega, by go_num, ⟨HBx.out.trans ((HB5.out.mono HBx.out.size).trans (HC6.out.mono (by omega)))⟩, ⟨(HC6.out.block _ (by omega)).trans ((HB5.out.block _ (by omega)).trans HW.out)⟩, ⟨.inr ?_⟩⟩
            rw [textB_take l i hlt, ← HPL.out]
            have e1 : Lib.strCells (textB (l.take i) ++ lineB p) = Lib.strCells (textB (l.take i)) ++ Lib.strCells (J ++ (⟨#[10]⟩ : ByteArray)) := by
              rw [HJ.out]
              show Lib.strCells (textB (l.take i) ++ lineB p) = Lib.strCells (textB (l.take i)) ++ Lib.strCells (lineB p)
              unfold Lib.strCells
              rw [ByteArray.data_append, Array.toList_append, List.map_append]
            rw [e1]
            exact HB6.out
          case measure => omega
        | succ gi =>
          have hjlt : j < p.length := by omega
          have hjl : (j : Int) < (p.length : Int) := by omega
          obtain ⟨ad1, he1, hy0, hy1⟩ := at_T32 HK1.out (j : Int) (by omega) (by omega)
          cases he1
          rw [Int.toNat_natCast] at hy0 hy1
          replace hy0 := (HBy.out.cell (World.block_lt_of_cell? wx _ hy0)).trans hy0
          replace hy1 := (HBy.out.cell (World.block_lt_of_cell? wx _ hy1)).trans hy1
          have hokA : okA (rd_T32 p (j : Int)) = true := by rw [rdT_at p j hjlt]; exact (okP_all p HOP.out).2 _ (List.getElem_mem hjlt)
          have HWy : Aside0 (wr.heap[w1.heap.size]? = some wordsObj) := ⟨(HBy.out.block _ (blk_lt HW.out)).trans HW.out⟩
          have hap := Aside0.mk (rdT_at p j hjlt)
          have hob : ∀ k, u8.ownBlock = some k → wx.heap.size ≤ k ∧ k < wr.heap.size := fun k e => by have := (Kd.R_bound HO.out).1 k e; exact ⟨this.2.1, this.2.2.1⟩
          generalize rd_T32 p (j : Int) = a at *
          have hk : 0 ≤ a.f0 ∧ a.f0 ≤ 3 := (okA_bounds a hokA).1
          have hp64 : p.length ≤ 64 := (okP_all p HOP.out).1
          have hn : 0 ≤ a.f1 ∧ a.f1 ≤ 1000 := (okA_bounds a hokA).2
          have BA := Aside0.mk (blk_new wr (.cells #[.int .i64 a.f0, .int .i64 a.f1] 32))
          have BW := Aside0.mk (blk_alloc HWy.out (.cells #[.int .i64 a.f0, .int .i64 a.f1] 32))
          have HB2 := Aside0.mk (HBy.out.alloc HBy.out.size (.cells #[.int .i64 a.f0, .int .i64 a.f1] 32))
          rcases (show a.f0 = 0 ∨ a.f0 = 1 ∨ a.f0 = 2 ∨ a.f0 = 3 by omega) with hk0 | hk0 | hk0 | hk0
          · rw [hk0] at hy0 BA BW HB2
            have BAd := Aside0.mk (blk_drew BA.out)
            have BWd := Aside0.mk (blk_drew BW.out)
            have HB2d := Aside0.mk (below_drew HB2.out)
            have HOd := Aside0.mk (Kd.R_drew (Kd.R_alloc HO.out (.cells #[.int .i64 0, .int .i64 a.f1] 32)))
            have hlen : (Lib.itoa a.f1).length ≤ 21 := Lib.itoa_length_le a.f1 (by omega) (by omega)
            have hsum : (9223372036854775807 < 5 + (Lib.itoa a.f1).length) = False := by simp only [eq_iff_iff, iff_false]; omega
            go_wp2_with fail
            refine start_ (n := 13) (S := (fun w' => w'.cell? ⟨wr.heap.size, 0, none⟩ = some (.int .i64 0) ∧ w'.cell? ⟨wr.heap.size, 1, none⟩ = some (.int .i64 a.f1) ∧ w'.cell? ⟨w1.heap.size, 0, none⟩ = some (.string (⟨#[108, 111, 99, 107]⟩ : ByteArray)))) (ds := []) #[false, false, false, false, false, false, false, false, false, false, false, false, false] (by kernel_rfl) rfl rfl ⟨blk_cell BAd.out 0, blk_cell BAd.out 1, blk_cell BWd.out 0⟩ (fun hHeld => ?_); refine with_tabW Print_tab12 Print_bits12 (fun HT_ HW_ => ?_)
            generalize (wr.alloc (.cells #[.int .i64 0, .int .i64 a.f1] 32)).drew = W2 at BAd BWd HB2d HOd hHeld ⊢
            refine pure_ (i := 0) (N := some 27) (v := ?_) (a' := ?_) #[true, false, false, false, false, false, false, false, false, false, false, false, false] rfl rfl (any_of HT_.out (by kernel_rfl)) (fun _ _ _ h => h) (Or.inl ⟨by rfl, ?_⟩) ?_ ?_
            rotate_left
            · intro w'
              go_simp
              with_reducible rfl
            rotate_left
            · simp only [Act.put, List.setIfInBounds_toArray, List.set_cons_zero, List.set_cons_succ, i64_w, i32_w]
              rfl
            refine pure_ (i := 1) (N := some 28) (v := ?_) (a' := ?_) #[true, true, false, false, false, false, false, false, false, false, false, false, false] rfl rfl (any_of HT_.out (by kernel_rfl)) (fun _ _ _ h => h) (Or.inl ⟨by rfl, ?_⟩) ?_ ?_
            rotate_left
            · intro w'
              go_simp
              with_reducible rfl
            rotate_left
            · simp only [Act.put, List.setIfInBounds_toArray, List.set_cons_zero, List.set_cons_succ, i64_w, i32_w]
              rfl
            refine take_ (i := 2) (N := some 29) (v := ?_) (a' := ?_) #[true, true, true, false, false, false, false, false, false, false, false, false, false] rfl rfl (take_ofW HT_.out HW_.out (by kernel_rfl)) (fun _ _ _ h => h) (Or.inl ⟨by rfl, ?_⟩) hHeld ?_ ?_
            rotate_left
            · rintro w' ⟨s0, s1, s2⟩
              go_simp
              with_reducible rfl
            rotate_left
            · simp only [Act.put, List.setIfInBounds_toArray, List.set_cons_zero, List.set_cons_succ, i64_w, i32_w]
              rfl
            refine pure_ (i := 3) (N := some 30) (v := ?_) (a' := ?_) #[true, true, true, true, false, false, false, false, false, false, false, false, false] rfl rfl (any_of HT_.out (by kernel_rfl)) (fun _ _ _ h => h) (Or.inl ⟨by rfl, ?_⟩) ?_ ?_
            rotate_left
            · intro w'
              go_simp
              with_reducible rfl
            rotate_left
            · simp only [Act.put, List.setIfInBounds_toArray, List.set_cons_zero, List.set_cons_succ, i64_w, i32_w]
              rfl
            refine take_ (i := 4) (N := some 31) (v := ?_) (a' := ?_) #[true, true, true, true, true, false, false, false, false, false, false, false, false] rfl rfl (take_ofW HT_.out HW_.out (by kernel_rfl)) (fun _ _ _ h => h) (Or.inl ⟨by rfl, ?_⟩) hHeld ?_ ?_
            rotate_left
            · rintro w' ⟨s0, s1, s2⟩
              go_simp
              with_reducible rfl
            rotate_left
            · simp only [Act.put, List.setIfInBounds_toArray, List.set_cons_zero, List.set_cons_succ, i64_w, i32_w]
              rfl
            refine pure_ (i := 5) (N := some 32) (v := ?_) (a' := ?_) #[true, true, true, true, true, true, false, false, false, false, false, false, false] rfl rfl (any_of HT_.out (by kernel_rfl)) (fun _ _ _ h => h) (Or.inl ⟨by rfl, ?_⟩) ?_ ?_
            rotate_left
            · intro w'
              go_simp
              with_reducible rfl
            rotate_left
            · simp only [Act.put, List.setIfInBounds_toArray, List.set_cons_zero, List.set_cons_succ, i64_w, i32_w]
              rfl
            refine pure_ (i := 6) (N := some 33) (v := ?_) (a' := ?_) #[true, true, true, true, true, true, true, false, false, false, false, false, false] rfl rfl (any_of HT_.out (by kernel_rfl)) (fun _ _ _ h => h) (Or.inl ⟨by rfl, ?_⟩) ?_ ?_
            rotate_left
            · intro w'
              go_simp
              with_reducible rfl
            rotate_left
            · simp only [Act.put, List.setIfInBounds_toArray, List.set_cons_zero, List.set_cons_succ, i64_w, i32_w]
              rfl
            refine take_ (i := 7) (N := some 34) (v := ?_) (a' := ?_) #[true, true, true, true, true, true, true, true, false, false, false, false, false] rfl rfl (take_ofW HT_.out HW_.out (by kernel_rfl)) (fun _ _ _ h => h) (Or.inl ⟨by rfl, ?_⟩) hHeld ?_ ?_
            rotate_left
            · rintro w' ⟨s0, s1, s2⟩
              go_simp
              with_reducible rfl
            rotate_left
            · simp only [Act.put, List.setIfInBounds_toArray, List.set_cons_zero, List.set_cons_succ, i64_w, i32_w]
              rfl
            refine one_ (i := 8) (N := some 35) #[true, true, true, true, true, true, true, true, true, false, false, false, false] rfl rfl (one_of HT_.out (by kernel_rfl)) (by decide) (fun K hK => ?_)
            refine goes_ Tryd.func26 (by kernel_rfl) rfl #[.int .i64 a.f1] (by rfl) rfl rfl (by (try simp only [List.map_toArray, List.map_cons, List.map_nil]); first | done | rfl) ?_
            with_reducible refine (itoa_any a.f1 (by omega) (by omega) _ (HL.out.below (HBx.out.trans (HB2d.out.mono HBx.out.size)))).mono ?_
            rintro e w5 ⟨rfl, hb5⟩
            refine ⟨_, rfl, ?_⟩
            have BA5 := Aside0.mk (blk_below BAd.out hb5)
            have BW5 := Aside0.mk (blk_below BWd.out hb5)
            have HO5 := Aside0.mk (Kd.R_below HOd.out hb5)
            have HB5 := Aside0.mk (HB2d.out.trans (hb5.mono HB2d.out.size))
            clear hb5
            refine hK.out _ _ ⟨blk_cell BA5.out 0, blk_cell BA5.out 1, blk_cell BW5.out 0⟩ (fun hHeld => ?_)
            clear hK K
            refine norm_ (a' := ?_) ?_ ?_
            rotate_left
            · show Act.put _ (some 35) _ = _
              simp only [Act.put, List.setIfInBounds_toArray, List.set_cons_zero, List.set_cons_succ, i64_w, i32_w]
              rfl
            refine pure_ (i := 9) (N := some 36) (v := ?_) (a' := ?_) #[true, true, true, true, true, true, true, true, true, true, false, false, false] rfl rfl (any_of HT_.out (by kernel_rfl)) (fun _ _ _ h => h) (Or.inl ⟨by rfl, ?_⟩) ?_ ?_
            rotate_left
            · intro w'
              go_simp
              with_reducible rfl
            rotate_left
            · simp only [Act.put, List.setIfInBounds_toArray, List.set_cons_zero, List.set_cons_succ, i64_w, i32_w]
              rfl
            refine one_ (i := 10) (N := some 37) #[true, true, true, true, true, true, true, true, true, true, true, false, false] rfl rfl (one_of HT_.out (by kernel_rfl)) (by decide) (fun K hK => ?_)
            refine event_step (by rfl) (v := .slice (some ⟨w5.heap.size, 0, none⟩) 1 1) (w1 := w5.alloc (.cells #[.string ((⟨#[108, 111, 99, 107]⟩ : ByteArray) ++ (⟨#[32]⟩ : ByteArray) ++ (⟨(Lib.itoa a.f1).toArray⟩ : ByteArray))] 9)) (by first | (go_simp; done) | (go_simp; rfl)) ?_
            have BA6 := Aside0.mk (blk_alloc BA5.out (.cells #[.string ((⟨#[108, 111, 99, 107]⟩ : ByteArray) ++ (⟨#[32]⟩ : ByteArray) ++ (⟨(Lib.itoa a.f1).toArray⟩ : ByteArray))] 9))
            have BW6 := Aside0.mk (blk_alloc BW5.out (.cells #[.string ((⟨#[108, 111, 99, 107]⟩ : ByteArray) ++ (⟨#[32]⟩ : ByteArray) ++ (⟨(Lib.itoa a.f1).toArray⟩ : ByteArray))] 9))
            refine hK.out _ _ ⟨blk_cell BA6.out 0, blk_cell BA6.out 1, blk_cell BW6.out 0⟩ (fun hHeld => ?_)
            clear hK K
            refine norm_ (a' := ?_) ?_ ?_
            rotate_left
            · show Act.put _ (some 37) _ = _
              simp only [Act.put, List.setIfInBounds_toArray, List.set_cons_zero, List.set_cons_succ, i64_w, i32_w]
              rfl
            refine one_ (i := 11) (N := some 38) #[true, true, true, true, true, true, true, true, true, true, true, true, false] rfl rfl (one_of HT_.out (by kernel_rfl)) (by decide) (fun K hK => ?_)
            refine Kd.R_append_step Kd.string (w0 := wx) (W := w5) wx.heap.size (by rfl) (.tmp 27) (.tmp 37) 41 9 (.string ⟨#[]⟩) 16 rfl Tryd.underlying41 info9 rfl (by decide) (by omega) _ ((p.take j).map pieceB) ((⟨#[108, 111, 99, 107]⟩ : ByteArray) ++ (⟨#[32]⟩ : ByteArray) ++ (⟨(Lib.itoa a.f1).toArray⟩ : ByteArray)) [.string ((⟨#[108, 111, 99, 107]⟩ : ByteArray) ++ (⟨#[32]⟩ : ByteArray) ++ (⟨(Lib.itoa a.f1).toArray⟩ : ByteArray))] (fun _ => True) (fun _ => False) rfl rfl rfl (fun _ hk => hk.elim) (fun _ _ => trivial) HO5.out HB5.out HB5.out.size (by simp only [List.length_map, List.length_take]; omega) ?_
            intro v1 w6 ho6 hb6 hg6 hat6
            have BA7 := Aside0.mk ((hg6.block _ (blk_lt BA5.out) (fun e => by have := hob _ e.symm; omega)).trans BA5.out)
            have BW7 := Aside0.mk ((hg6.block _ (blk_lt BW5.out) (fun e => by have := hob _ e.symm; have := blk_lt HW.out; omega)).trans BW5.out)
            have HO6 := Aside0.mk ho6
            have HB6 := Aside0.mk hb6
            clear ho6 hb6 hg6 hat6
            refine hK.out _ _ ⟨blk_cell BA7.out 0, blk_cell BA7.out 1, blk_cell BW7.out 0⟩ (fun hHeld => ?_)
            clear hK K
            refine norm_ (a' := ?_) ?_ ?_
            rotate_left
            · show Act.put _ (some 38) _ = _
              simp only [Act.put, List.setIfInBounds_toArray, List.set_cons_zero, List.set_cons_succ, i64_w, i32_w]
              rfl
            refine pure_ (i := 12) (N := some 8) (v := ?_) (a' := ?_) #[true, true, true, true, true, true, true, true, true, true, true, true, true] rfl rfl (any_of HT_.out (by kernel_rfl)) (fun _ _ _ h => h) (Or.inl ⟨by rfl, ?_⟩) ?_ ?_
            rotate_left
            · intro w'
              go_simp
              with_reducible rfl
            rotate_left
            · simp only [Act.put, List.setIfInBounds_toArray, List.set_cons_zero, List.set_cons_succ, i64_w, i32_w]
              rfl
            refine done_ (done_of HT_.out (by kernel_rfl)) ?_
            try go_wp2
            go_roundg gi
            case rel =>
              refine ⟨j + 1, by omega, by go_num, ⟨?_⟩, ⟨HB6.out⟩⟩
              have e1 : (p.take (j + 1)).map pieceB = (p.take j).map pieceB ++ [((⟨#[108, 111, 99, 107]⟩ : ByteArray) ++ (⟨#[32]⟩ : ByteArray) ++ (⟨(Lib.itoa a.f1).toArray⟩ : ByteArray))] := by
                rw [List.take_succ_eq_append_getElem hjlt, List.map_append, ← hap.out, List.map_cons, List.map_nil]
                unfold pieceB
                rw [hk0]
                rfl
              rw [e1]
              exact HO6.out
            case measure => omega
          · rw [hk0] at hy0 BA BW HB2
            have BAd := Aside0.mk (blk_drew BA.out)
            have BWd := Aside0.mk (blk_drew BW.out)
            have HB2d := Aside0.mk (below_drew HB2.out)
            have HOd := Aside0.mk (Kd.R_drew (Kd.R_alloc HO.out (.cells #[.int .i64 1, .int .i64 a.f1] 32)))
            have hlen : (Lib.itoa a.f1).length ≤ 21 := Lib.itoa_length_le a.f1 (by omega) (by omega)
            have hsum : (9223372036854775807 < 4 + (Lib.itoa a.f1).length) = False := by simp only [eq_iff_iff, iff_false]; omega
            go_wp2_with fail
            refine start_ (n := 13) (S := (fun w' => w'.cell? ⟨wr.heap.size, 0, none⟩ = some (.int .i64 1) ∧ w'.cell? ⟨wr.heap.size, 1, none⟩ = some (.int .i64 a.f1) ∧ w'.cell? ⟨w1.heap.size, 1, none⟩ = some (.string (⟨#[116, 114, 121]⟩ : ByteArray)))) (ds := []) #[false, false, false, false, false, false, false, false, false, false, false, false, false] (by kernel_rfl) rfl rfl ⟨blk_cell BAd.out 0, blk_cell BAd.out 1, blk_cell BWd.out 1⟩ (fun hHeld => ?_); refine with_tabW Print_tab12 Print_bits12 (fun HT_ HW_ => ?_)
            generalize (wr.alloc (.cells #[.int .i64 1, .int .i64 a.f1] 32)).drew = W2 at BAd BWd HB2d HOd hHeld ⊢
            refine pure_ (i := 0) (N := some 27) (v := ?_) (a' := ?_) #[true, false, false, false, false, false, false, false, false, false, false, false, false] rfl rfl (any_of HT_.out (by kernel_rfl)) (fun _ _ _ h => h) (Or.inl ⟨by rfl, ?_⟩) ?_ ?_
            rotate_left
            · intro w'
              go_simp
              with_reducible rfl
            rotate_left
            · simp only [Act.put, List.setIfInBounds_toArray, List.set_cons_zero, List.set_cons_succ, i64_w, i32_w]
              rfl
            refine pure_ (i := 1) (N := some 28) (v := ?_) (a' := ?_) #[true, true, false, false, false, false, false, false, false, false, false, false, false] rfl rfl (any_of HT_.out (by kernel_rfl)) (fun _ _ _ h => h) (Or.inl ⟨by rfl, ?_⟩) ?_ ?_
            rotate_left
            · intro w'
              go_simp
              with_reducible rfl
            rotate_left
            · simp only [Act.put, List.setIfInBounds_toArray, List.set_cons_zero, List.set_cons_succ, i64_w, i32_w]
              rfl
            refine take_ (i := 2) (N := some 29) (v := ?_) (a' := ?_) #[true, true, true, false, false, false, false, false, false, false, false, false, false] rfl rfl (take_ofW HT_.out HW_.out (by kernel_rfl)) (fun _ _ _ h => h) (Or.inl ⟨by rfl, ?_⟩) hHeld ?_ ?_
            rotate_left
            · rintro w' ⟨s0, s1, s2⟩
              go_simp
              with_reducible rfl
            rotate_left
            · simp only [Act.put, List.setIfInBounds_toArray, List.set_cons_zero, List.set_cons_succ, i64_w, i32_w]
              rfl
            refine pure_ (i := 3) (N := some 30) (v := ?_) (a' := ?_) #[true, true, true, true, false, false, false, false, false, false, false, false, false] rfl rfl (any_of HT_.out (by kernel_rfl)) (fun _ _ _ h => h) (Or.inl ⟨by rfl, ?_⟩) ?_ ?_
            rotate_left
            · intro w'
              go_simp
              with_reducible rfl
            rotate_left
            · simp only [Act.put, List.setIfInBounds_toArray, List.set_cons_zero, List.set_cons_succ, i64_w, i32_w]
              rfl
            refine take_ (i := 4) (N := some 31) (v := ?_) (a' := ?_) #[true, true, true, true, true, false, false, false, false, false, false, false, false] rfl rfl (take_ofW HT_.out HW_.out (by kernel_rfl)) (fun _ _ _ h => h) (Or.inl ⟨by rfl, ?_⟩) hHeld ?_ ?_
            rotate_left
            · rintro w' ⟨s0, s1, s2⟩
              go_simp
              with_reducible rfl
            rotate_left
            · simp only [Act.put, List.setIfInBounds_toArray, List.set_cons_zero, List.set_cons_succ, i64_w, i32_w]
              rfl
            refine pure_ (i := 5) (N := some 32) (v := ?_) (a' := ?_) #[true, true, true, true, true, true, false, false, false, false, false, false, false] rfl rfl (any_of HT_.out (by kernel_rfl)) (fun _ _ _ h => h) (Or.inl ⟨by rfl, ?_⟩) ?_ ?_
            rotate_left
            · intro w'
              go_simp
              with_reducible rfl
            rotate_left
            · simp only [Act.put, List.setIfInBounds_toArray, List.set_cons_zero, List.set_cons_succ, i64_w, i32_w]
              rfl
            refine pure_ (i := 6) (N := some 33) (v := ?_) (a' := ?_) #[true, true, true, true, true, true, true, false, false, false, false, false, false] rfl rfl (any_of HT_.out (by kernel_rfl)) (fun _ _ _ h => h) (Or.inl ⟨by rfl, ?_⟩) ?_ ?_
            rotate_left
            · intro w'
              go_simp
              with_reducible rfl
            rotate_left
            · simp only [Act.put, List.setIfInBounds_toArray, List.set_cons_zero, List.set_cons_succ, i64_w, i32_w]
              rfl
            refine take_ (i := 7) (N := some 34) (v := ?_) (a' := ?_) #[true, true, true, true, true, true, true, true, false, false, false, false, false] rfl rfl (take_ofW HT_.out HW_.out (by kernel_rfl)) (fun _ _ _ h => h) (Or.inl ⟨by rfl, ?_⟩) hHeld ?_ ?_
            rotate_left
            · rintro w' ⟨s0, s1, s2⟩
              go_simp
              with_reducible rfl
            rotate_left
            · simp only [Act.put, List.setIfInBounds_toArray, List.set_cons_zero, List.set_cons_succ, i64_w, i32_w]
              rfl
            refine one_ (i := 8) (N := some 35) #[true, true, true, true, true, true, true, true, true, false, false, false, false] rfl rfl (one_of HT_.out (by kernel_rfl)) (by decide) (fun K hK => ?_)
            refine goes_ Tryd.func26 (by kernel_rfl) rfl #[.int .i64 a.f1] (by rfl) rfl rfl (by (try simp only [List.map_toArray, List.map_cons, List.map_nil]); first | done | rfl) ?_
            with_reducible refine (itoa_any a.f1 (by omega) (by omega) _ (HL.out.below (HBx.out.trans (HB2d.out.mono HBx.out.size)))).mono ?_
            rintro e w5 ⟨rfl, hb5⟩
            refine ⟨_, rfl, ?_⟩
            have BA5 := Aside0.mk (blk_below BAd.out hb5)
            have BW5 := Aside0.mk (blk_below BWd.out hb5)
            have HO5 := Aside0.mk (Kd.R_below HOd.out hb5)
            have HB5 := Aside0.mk (HB2d.out.trans (hb5.mono HB2d.out.size))
            clear hb5
            refine hK.out _ _ ⟨blk_cell BA5.out 0, blk_cell BA5.out 1, blk_cell BW5.out 1⟩ (fun hHeld => ?_)
            clear hK K
            refine norm_ (a' := ?_) ?_ ?_
            rotate_left
            · show Act.put _ (some 35) _ = _
              simp only [Act.put, List.setIfInBounds_toArray, List.set_cons_zero, List.set_cons_succ, i64_w, i32_w]
              rfl
            refine pure_ (i := 9) (N := some 36) (v := ?_) (a' := ?_) #[true, true, true, true, true, true, true, true, true, true, false, false, false] rfl rfl (any_of HT_.out (by kernel_rfl)) (fun _ _ _ h => h) (Or.inl ⟨by rfl, ?_⟩) ?_ ?_
            rotate_left
            · intro w'
              go_simp
              with_reducible rfl
            rotate_left
            · simp only [Act.put, List.setIfInBounds_toArray, List.set_cons_zero, List.set_cons_succ, i64_w, i32_w]
              rfl
            refine one_ (i := 10) (N := some 37) #[true, true, true, true, true, true, true, true, true, true, true, false, false] rfl rfl (one_of HT_.out (by kernel_rfl)) (by decide) (fun K hK => ?_)
            refine event_step (by rfl) (v := .slice (some ⟨w5.heap.size, 0, none⟩) 1 1) (w1 := w5.alloc (.cells #[.string ((⟨#[116, 114, 121]⟩ : ByteArray) ++ (⟨#[32]⟩ : ByteArray) ++ (⟨(Lib.itoa a.f1).toArray⟩ : ByteArray))] 9)) (by first | (go_simp; done) | (go_simp; rfl)) ?_
            have BA6 := Aside0.mk (blk_alloc BA5.out (.cells #[.string ((⟨#[116, 114, 121]⟩ : ByteArray) ++ (⟨#[32]⟩ : ByteArray) ++ (⟨(Lib.itoa a.f1).toArray⟩ : ByteArray))] 9))
            have BW6 := Aside0.mk (blk_alloc BW5.out (.cells #[.string ((⟨#[116, 114, 121]⟩ : ByteArray) ++ (⟨#[32]⟩ : ByteArray) ++ (⟨(Lib.itoa a.f1).toArray⟩ : ByteArray))] 9))
            refine hK.out _ _ ⟨blk_cell BA6.out 0, blk_cell BA6.out 1, blk_cell BW6.out 1⟩ (fun hHeld => ?_)
            clear hK K
            refine norm_ (a' := ?_) ?_ ?_
            rotate_left
            · show Act.put _ (some 37) _ = _
              simp only [Act.put, List.setIfInBounds_toArray, List.set_cons_zero, List.set_cons_succ, i64_w, i32_w]
              rfl
            refine one_ (i := 11) (N := some 38) #[true, true, true, true, true, true, true, true, true, true, true, true, false] rfl rfl (one_of HT_.out (by kernel_rfl)) (by decide) (fun K hK => ?_)
            refine Kd.R_append_step Kd.string (w0 := wx) (W := w5) wx.heap.size (by rfl) (.tmp 27) (.tmp 37) 41 9 (.string ⟨#[]⟩) 16 rfl Tryd.underlying41 info9 rfl (by decide) (by omega) _ ((p.take j).map pieceB) ((⟨#[116, 114, 121]⟩ : ByteArray) ++ (⟨#[32]⟩ : ByteArray) ++ (⟨(Lib.itoa a.f1).toArray⟩ : ByteArray)) [.string ((⟨#[116, 114, 121]⟩ : ByteArray) ++ (⟨#[32]⟩ : ByteArray) ++ (⟨(Lib.itoa a.f1).toArray⟩ : ByteArray))] (fun _ => True) (fun _ => False) rfl rfl rfl (fun _ hk => hk.elim) (fun _ _ => trivial) HO5.out HB5.out HB5.out.size (by simp only [List.length_map, List.length_take]; omega) ?_
            intro v1 w6 ho6 hb6 hg6 hat6
            have BA7 := Aside0.mk ((hg6.block _ (blk_lt BA5.out) (fun e => by have := hob _ e.symm; omega)).trans BA5.out)
            have BW7 := Aside0.mk ((hg6.block _ (blk_lt BW5.out) (fun e => by have := hob _ e.symm; have := blk_lt HW.out; omega)).trans BW5.out)
            have HO6 := Aside0.mk ho6
            have HB6 := Aside0.mk hb6
            clear ho6 hb6 hg6 hat6
            refine hK.out _ _ ⟨blk_cell BA7.out 0, blk_cell BA7.out 1, blk_cell BW7.out 1⟩ (fun hHeld => ?_)
            clear hK K
            refine norm_ (a' := ?_) ?_ ?_
            rotate_left
            · show Act.put _ (some 38) _ = _
              simp only [Act.put, List.setIfInBounds_toArray, List.set_cons_zero, List.set_cons_succ, i64_w, i32_w]
              rfl
            refine pure_ (i := 12) (N := some 8) (v := ?_) (a' := ?_) #[true, true, true, true, true, true, true, true, true, true, true, true, true] rfl rfl (any_of HT_.out (by kernel_rfl)) (fun _ _ _ h => h) (Or.inl ⟨by rfl, ?_⟩) ?_ ?_
            rotate_left
            · intro w'
              go_simp
              with_reducible rfl
            rotate_left
            · simp only [Act.put, List.setIfInBounds_toArray, List.set_cons_zero, List.set_cons_succ, i64_w, i32_w]
              rfl
            refine done_ (done_of HT_.out (by kernel_rfl)) ?_
            try go_wp2
            go_roundg gi
            case rel =>
              refine ⟨j + 1, by omega, by go_num, ⟨?_⟩, ⟨HB6.out⟩⟩
              have e1 : (p.take (j + 1)).map pieceB = (p.take j).map pieceB ++ [((⟨#[116, 114, 121]⟩ : ByteArray) ++ (⟨#[32]⟩ : ByteArray) ++ (⟨(Lib.itoa a.f1).toArray⟩ : ByteArray))] := by
                rw [List.take_succ_eq_append_getElem hjlt, List.map_append, ← hap.out, List.map_cons, List.map_nil]
                unfold pieceB
                rw [hk0]
                rfl
              rw [e1]
              exact HO6.out
            case measure => omega
          · rw [hk0] at hy0 BA BW HB2
            have BAd := Aside0.mk (blk_drew BA.out)
            have BWd := Aside0.mk (blk_drew BW.out)
            have HB2d := Aside0.mk (below_drew HB2.out)
            have HOd := Aside0.mk (Kd.R_drew (Kd.R_alloc HO.out (.cells #[.int .i64 2, .int .i64 a.f1] 32)))
            have hlen : (Lib.itoa a.f1).length ≤ 21 := Lib.itoa_length_le a.f1 (by omega) (by omega)
            have hsum : (9223372036854775807 < 7 + (Lib.itoa a.f1).length) = False := by simp only [eq_iff_iff, iff_false]; omega
            go_wp2_with fail
            refine start_ (n := 13) (S := (fun w' => w'.cell? ⟨wr.heap.size, 0, none⟩ = some (.int .i64 2) ∧ w'.cell? ⟨wr.heap.size, 1, none⟩ = some (.int .i64 a.f1) ∧ w'.cell? ⟨w1.heap.size, 2, none⟩ = some (.string (⟨#[117, 110, 108, 111, 99, 107]⟩ : ByteArray)))) (ds := []) #[false, false, false, false, false, false, false, false, false, false, false, false, false] (by kernel_rfl) rfl rfl ⟨blk_cell BAd.out 0, blk_cell BAd.out 1, blk_cell BWd.out 2⟩ (fun hHeld => ?_); refine with_tabW Print_tab12 Print_bits12 (fun HT_ HW_ => ?_)
            generalize (wr.alloc (.cells #[.int .i64 2, .int .i64 a.f1] 32)).drew = W2 at BAd BWd HB2d HOd hHeld ⊢
            refine pure_ (i := 0) (N := some 27) (v := ?_) (a' := ?_) #[true, false, false, false, false, false, false, false, false, false, false, false, false] rfl rfl (any_of HT_.out (by kernel_rfl)) (fun _ _ _ h => h) (Or.inl ⟨by rfl, ?_⟩) ?_ ?_
            rotate_left
            · intro w'
              go_simp
              with_reducible rfl
            rotate_left
            · simp only [Act.put, List.setIfInBounds_toArray, List.set_cons_zero, List.set_cons_succ, i64_w, i32_w]
              rfl
            refine pure_ (i := 1) (N := some 28) (v := ?_) (a' := ?_) #[true, true, false, false, false, false, false, false, false, false, false, false, false] rfl rfl (any_of HT_.out (by kernel_rfl)) (fun _ _ _ h => h) (Or.inl ⟨by rfl, ?_⟩) ?_ ?_
            rotate_left
            · intro w'
              go_simp
              with_reducible rfl
            rotate_left
            · simp only [Act.put, List.setIfInBounds_toArray, List.set_cons_zero, List.set_cons_succ, i64_w, i32_w]
              rfl
            refine take_ (i := 2) (N := some 29) (v := ?_) (a' := ?_) #[true, true, true, false, false, false, false, false, false, false, false, false, false] rfl rfl (take_ofW HT_.out HW_.out (by kernel_rfl)) (fun _ _ _ h => h) (Or.inl ⟨by rfl, ?_⟩) hHeld ?_ ?_
            rotate_left
            · rintro w' ⟨s0, s1, s2⟩
              go_simp
              with_reducible rfl
            rotate_left
            · simp only [Act.put, List.setIfInBounds_toArray, List.set_cons_zero, List.set_cons_succ, i64_w, i32_w]
              rfl
            refine pure_ (i := 3) (N := some 30) (v := ?_) (a' := ?_) #[true, true, true, true, false, false, false, false, false, false, false, false, false] rfl rfl (any_of HT_.out (by kernel_rfl)) (fun _ _ _ h => h) (Or.inl ⟨by rfl, ?_⟩) ?_ ?_
            rotate_left
            · intro w'
              go_simp
              with_reducible rfl
            rotate_left
            · simp only [Act.put, List.setIfInBounds_toArray, List.set_cons_zero, List.set_cons_succ, i64_w, i32_w]
              rfl
            refine take_ (i := 4) (N := some 31) (v := ?_) (a' := ?_) #[true, true, true, true, true, false, false, false, false, false, false, false, false] rfl rfl (take_ofW HT_.out HW_.out (by kernel_rfl)) (fun _ _ _ h => h) (Or.inl ⟨by rfl, ?_⟩) hHeld ?_ ?_
            rotate_left
            · rintro w' ⟨s0, s1, s2⟩
              go_simp
              with_reducible rfl
            rotate_left
            · simp only [Act.put, List.setIfInBounds_toArray, List.set_cons_zero, List.set_cons_succ, i64_w, i32_w]
              rfl
            refine pure_ (i := 5) (N := some 32) (v := ?_) (a' := ?_) #[true, true, true, true, true, true, false, false, false, false, false, false, false] rfl rfl (any_of HT_.out (by kernel_rfl)) (fun _ _ _ h => h) (Or.inl ⟨by rfl, ?_⟩) ?_ ?_
            rotate_left
            · intro w'
              go_simp
              with_reducible rfl
            rotate_left
            · simp only [Act.put, List.setIfInBounds_toArray, List.set_cons_zero, List.set_cons_succ, i64_w, i32_w]
              rfl
            refine pure_ (i := 6) (N := some 33) (v := ?_) (a' := ?_) #[true, true, true, true, true, true, true, false, false, false, false, false, false] rfl rfl (any_of HT_.out (by kernel_rfl)) (fun _ _ _ h => h) (Or.inl ⟨by rfl, ?_⟩) ?_ ?_
            rotate_left
            · intro w'
              go_simp
              with_reducible rfl
            rotate_left
            · simp only [Act.put, List.setIfInBounds_toArray, List.set_cons_zero, List.set_cons_succ, i64_w, i32_w]
              rfl
            refine take_ (i := 7) (N := some 34) (v := ?_) (a' := ?_) #[true, true, true, true, true, true, true, true, false, false, false, false, false] rfl rfl (take_ofW HT_.out HW_.out (by kernel_rfl)) (fun _ _ _ h => h) (Or.inl ⟨by rfl, ?_⟩) hHeld ?_ ?_
            rotate_left
            · rintro w' ⟨s0, s1, s2⟩
              go_simp
              with_reducible rfl
            rotate_left
            · simp only [Act.put, List.setIfInBounds_toArray, List.set_cons_zero, List.set_cons_succ, i64_w, i32_w]
              rfl
            refine one_ (i := 8) (N := some 35) #[true, true, true, true, true, true, true, true, true, false, false, false, false] rfl rfl (one_of HT_.out (by kernel_rfl)) (by decide) (fun K hK => ?_)
            refine goes_ Tryd.func26 (by kernel_rfl) rfl #[.int .i64 a.f1] (by rfl) rfl rfl (by (try simp only [List.map_toArray, List.map_cons, List.map_nil]); first | done | rfl) ?_
            with_reducible refine (itoa_any a.f1 (by omega) (by omega) _ (HL.out.below (HBx.out.trans (HB2d.out.mono HBx.out.size)))).mono ?_
            rintro e w5 ⟨rfl, hb5⟩
            refine ⟨_, rfl, ?_⟩
            have BA5 := Aside0.mk (blk_below BAd.out hb5)
            have BW5 := Aside0.mk (blk_below BWd.out hb5)
            have HO5 := Aside0.mk (Kd.R_below HOd.out hb5)
            have HB5 := Aside0.mk (HB2d.out.trans (hb5.mono HB2d.out.size))
            clear hb5
            refine hK.out _ _ ⟨blk_cell BA5.out 0, blk_cell BA5.out 1, blk_cell BW5.out 2⟩ (fun hHeld => ?_)
            clear hK K
            refine norm_ (a' := ?_) ?_ ?_
            rotate_left
            · show Act.put _ (some 35) _ = _
              simp only [Act.put, List.setIfInBounds_toArray, List.set_cons_zero, List.set_cons_succ, i64_w, i32_w]
              rfl
            refine pure_ (i := 9) (N := some 36) (v := ?_) (a' := ?_) #[true, true, true, true, true, true, true, true, true, true, false, false, false] rfl rfl (any_of HT_.out (by kernel_rfl)) (fun _ _ _ h => h) (Or.inl ⟨by rfl, ?_⟩) ?_ ?_
            rotate_left
            · intro w'
              go_simp
              with_reducible rfl
            rotate_left
            · simp only [Act.put, List.setIfInBounds_toArray, List.set_cons_zero, List.set_cons_succ, i64_w, i32_w]
              rfl
            refine one_ (i := 10) (N := some 37) #[true, true, true, true, true, true, true, true, true, true, true, false, false] rfl rfl (one_of HT_.out (by kernel_rfl)) (by decide) (fun K hK => ?_)
            refine event_step (by rfl) (v := .slice (some ⟨w5.heap.size, 0, none⟩) 1 1) (w1 := w5.alloc (.cells #[.string ((⟨#[117, 110, 108, 111, 99, 107]⟩ : ByteArray) ++ (⟨#[32]⟩ : ByteArray) ++ (⟨(Lib.itoa a.f1).toArray⟩ : ByteArray))] 9)) (by first | (go_simp; done) | (go_simp; rfl)) ?_
            have BA6 := Aside0.mk (blk_alloc BA5.out (.cells #[.string ((⟨#[117, 110, 108, 111, 99, 107]⟩ : ByteArray) ++ (⟨#[32]⟩ : ByteArray) ++ (⟨(Lib.itoa a.f1).toArray⟩ : ByteArray))] 9))
            have BW6 := Aside0.mk (blk_alloc BW5.out (.cells #[.string ((⟨#[117, 110, 108, 111, 99, 107]⟩ : ByteArray) ++ (⟨#[32]⟩ : ByteArray) ++ (⟨(Lib.itoa a.f1).toArray⟩ : ByteArray))] 9))
            refine hK.out _ _ ⟨blk_cell BA6.out 0, blk_cell BA6.out 1, blk_cell BW6.out 2⟩ (fun hHeld => ?_)
            clear hK K
            refine norm_ (a' := ?_) ?_ ?_
            rotate_left
            · show Act.put _ (some 37) _ = _
              simp only [Act.put, List.setIfInBounds_toArray, List.set_cons_zero, List.set_cons_succ, i64_w, i32_w]
              rfl
            refine one_ (i := 11) (N := some 38) #[true, true, true, true, true, true, true, true, true, true, true, true, false] rfl rfl (one_of HT_.out (by kernel_rfl)) (by decide) (fun K hK => ?_)
            refine Kd.R_append_step Kd.string (w0 := wx) (W := w5) wx.heap.size (by rfl) (.tmp 27) (.tmp 37) 41 9 (.string ⟨#[]⟩) 16 rfl Tryd.underlying41 info9 rfl (by decide) (by omega) _ ((p.take j).map pieceB) ((⟨#[117, 110, 108, 111, 99, 107]⟩ : ByteArray) ++ (⟨#[32]⟩ : ByteArray) ++ (⟨(Lib.itoa a.f1).toArray⟩ : ByteArray)) [.string ((⟨#[117, 110, 108, 111, 99, 107]⟩ : ByteArray) ++ (⟨#[32]⟩ : ByteArray) ++ (⟨(Lib.itoa a.f1).toArray⟩ : ByteArray))] (fun _ => True) (fun _ => False) rfl rfl rfl (fun _ hk => hk.elim) (fun _ _ => trivial) HO5.out HB5.out HB5.out.size (by simp only [List.length_map, List.length_take]; omega) ?_
            intro v1 w6 ho6 hb6 hg6 hat6
            have BA7 := Aside0.mk ((hg6.block _ (blk_lt BA5.out) (fun e => by have := hob _ e.symm; omega)).trans BA5.out)
            have BW7 := Aside0.mk ((hg6.block _ (blk_lt BW5.out) (fun e => by have := hob _ e.symm; have := blk_lt HW.out; omega)).trans BW5.out)
            have HO6 := Aside0.mk ho6
            have HB6 := Aside0.mk hb6
            clear ho6 hb6 hg6 hat6
            refine hK.out _ _ ⟨blk_cell BA7.out 0, blk_cell BA7.out 1, blk_cell BW7.out 2⟩ (fun hHeld => ?_)
            clear hK K
            refine norm_ (a' := ?_) ?_ ?_
            rotate_left
            · show Act.put _ (some 38) _ = _
              simp only [Act.put, List.setIfInBounds_toArray, List.set_cons_zero, List.set_cons_succ, i64_w, i32_w]
              rfl
            refine pure_ (i := 12) (N := some 8) (v := ?_) (a' := ?_) #[true, true, true, true, true, true, true, true, true, true, true, true, true] rfl rfl (any_of HT_.out (by kernel_rfl)) (fun _ _ _ h => h) (Or.inl ⟨by rfl, ?_⟩) ?_ ?_
            rotate_left
            · intro w'
              go_simp
              with_reducible rfl
            rotate_left
            · simp only [Act.put, List.setIfInBounds_toArray, List.set_cons_zero, List.set_cons_succ, i64_w, i32_w]
              rfl
            refine done_ (done_of HT_.out (by kernel_rfl)) ?_
            try go_wp2
            go_roundg gi
            case rel =>
              refine ⟨j + 1, by omega, by go_num, ⟨?_⟩, ⟨HB6.out⟩⟩
              have e1 : (p.take (j + 1)).map pieceB = (p.take j).map pieceB ++ [((⟨#[117, 110, 108, 111, 99, 107]⟩ : ByteArray) ++ (⟨#[32]⟩ : ByteArray) ++ (⟨(Lib.itoa a.f1).toArray⟩ : ByteArray))] := by
                rw [List.take_succ_eq_append_getElem hjlt, List.map_append, ← hap.out, List.map_cons, List.map_nil]
                unfold pieceB
                rw [hk0]
                rfl
              rw [e1]
              exact HO6.out
            case measure => omega
          · rw [hk0] at hy0 BA BW HB2
            have BAd := Aside0.mk (blk_drew BA.out)
            have BWd := Aside0.mk (blk_drew BW.out)
            have HB2d := Aside0.mk (below_drew HB2.out)
            have HOd := Aside0.mk (Kd.R_drew (Kd.R_alloc HO.out (.cells #[.int .i64 3, .int .i64 a.f1] 32)))
            have hlen : (Lib.itoa a.f1).length ≤ 21 := Lib.itoa_length_le a.f1 (by omega) (by omega)
            have hsum : (9223372036854775807 < 5 + (Lib.itoa a.f1).length) = False := by simp only [eq_iff_iff, iff_false]; omega
            go_wp2_with fail
            refine start_ (n := 13) (S := (fun w' => w'.cell? ⟨wr.heap.size, 0, none⟩ = some (.int .i64 3) ∧ w'.cell? ⟨wr.heap.size, 1, none⟩ = some (.int .i64 a.f1) ∧ w'.cell? ⟨w1.heap.size, 3, none⟩ = some (.string (⟨#[119, 111, 114, 107]⟩ : ByteArray)))) (ds := []) #[false, false, false, false, false, false, false, false, false, false, false, false, false] (by kernel_rfl) rfl rfl ⟨blk_cell BAd.out 0, blk_cell BAd.out 1, blk_cell BWd.out 3⟩ (fun hHeld => ?_); refine with_tabW Print_tab12 Print_bits12 (fun HT_ HW_ => ?_)
            generalize (wr.alloc (.cells #[.int .i64 3, .int .i64 a.f1] 32)).drew = W2 at BAd BWd HB2d HOd hHeld ⊢
            refine pure_ (i := 0) (N := some 27) (v := ?_) (a' := ?_) #[true, false, false, false, false, false, false, false, false, false, false, false, false] rfl rfl (any_of HT_.out (by kernel_rfl)) (fun _ _ _ h => h) (Or.inl ⟨by rfl, ?_⟩) ?_ ?_
            rotate_left
            · intro w'
              go_simp
              with_reducible rfl
            rotate_left
            · simp only [Act.put, List.setIfInBounds_toArray, List.set_cons_zero, List.set_cons_succ, i64_w, i32_w]
              rfl
            refine pure_ (i := 1) (N := some 28) (v := ?_) (a' := ?_) #[true, true, false, false, false, false, false, false, false, false, false, false, false] rfl rfl (any_of HT_.out (by kernel_rfl)) (fun _ _ _ h => h) (Or.inl ⟨by rfl, ?_⟩) ?_ ?_
            rotate_left
            · intro w'
              go_simp
              with_reducible rfl
            rotate_left
            · simp only [Act.put, List.setIfInBounds_toArray, List.set_cons_zero, List.set_cons_succ, i64_w, i32_w]
              rfl
            refine take_ (i := 2) (N := some 29) (v := ?_) (a' := ?_) #[true, true, true, false, false, false, false, false, false, false, false, false, false] rfl rfl (take_ofW HT_.out HW_.out (by kernel_rfl)) (fun _ _ _ h => h) (Or.inl ⟨by rfl, ?_⟩) hHeld ?_ ?_
            rotate_left
            · rintro w' ⟨s0, s1, s2⟩
              go_simp
              with_reducible rfl
            rotate_left
            · simp only [Act.put, List.setIfInBounds_toArray, List.set_cons_zero, List.set_cons_succ, i64_w, i32_w]
              rfl
            refine pure_ (i := 3) (N := some 30) (v := ?_) (a' := ?_) #[true, true, true, true, false, false, false, false, false, false, false, false, false] rfl rfl (any_of HT_.out (by kernel_rfl)) (fun _ _ _ h => h) (Or.inl ⟨by rfl, ?_⟩) ?_ ?_
            rotate_left
            · intro w'
              go_simp
              with_reducible rfl
            rotate_left
            · simp only [Act.put, List.setIfInBounds_toArray, List.set_cons_zero, List.set_cons_succ, i64_w, i32_w]
              rfl
            refine take_ (i := 4) (N := some 31) (v := ?_) (a' := ?_) #[true, true, true, true, true, false, false, false, false, false, false, false, false] rfl rfl (take_ofW HT_.out HW_.out (by kernel_rfl)) (fun _ _ _ h => h) (Or.inl ⟨by rfl, ?_⟩) hHeld ?_ ?_
            rotate_left
            · rintro w' ⟨s0, s1, s2⟩
              go_simp
              with_reducible rfl
            rotate_left
            · simp only [Act.put, List.setIfInBounds_toArray, List.set_cons_zero, List.set_cons_succ, i64_w, i32_w]
              rfl
            refine pure_ (i := 5) (N := some 32) (v := ?_) (a' := ?_) #[true, true, true, true, true, true, false, false, false, false, false, false, false] rfl rfl (any_of HT_.out (by kernel_rfl)) (fun _ _ _ h => h) (Or.inl ⟨by rfl, ?_⟩) ?_ ?_
            rotate_left
            · intro w'
              go_simp
              with_reducible rfl
            rotate_left
            · simp only [Act.put, List.setIfInBounds_toArray, List.set_cons_zero, List.set_cons_succ, i64_w, i32_w]
              rfl
            refine pure_ (i := 6) (N := some 33) (v := ?_) (a' := ?_) #[true, true, true, true, true, true, true, false, false, false, false, false, false] rfl rfl (any_of HT_.out (by kernel_rfl)) (fun _ _ _ h => h) (Or.inl ⟨by rfl, ?_⟩) ?_ ?_
            rotate_left
            · intro w'
              go_simp
              with_reducible rfl
            rotate_left
            · simp only [Act.put, List.setIfInBounds_toArray, List.set_cons_zero, List.set_cons_succ, i64_w, i32_w]
              rfl
            refine take_ (i := 7) (N := some 34) (v := ?_) (a' := ?_) #[true, true, true, true, true, true, true, true, false, false, false, false, false] rfl rfl (take_ofW HT_.out HW_.out (by kernel_rfl)) (fun _ _ _ h => h) (Or.inl ⟨by rfl, ?_⟩) hHeld ?_ ?_
            rotate_left
            · rintro w' ⟨s0, s1, s2⟩
              go_simp
              with_reducible rfl
            rotate_left
            · simp only [Act.put, List.setIfInBounds_toArray, List.set_cons_zero, List.set_cons_succ, i64_w, i32_w]
              rfl
            refine one_ (i := 8) (N := some 35) #[true, true, true, true, true, true, true, true, true, false, false, false, false] rfl rfl (one_of HT_.out (by kernel_rfl)) (by decide) (fun K hK => ?_)
            refine goes_ Tryd.func26 (by kernel_rfl) rfl #[.int .i64 a.f1] (by rfl) rfl rfl (by (try simp only [List.map_toArray, List.map_cons, List.map_nil]); first | done | rfl) ?_
            with_reducible refine (itoa_any a.f1 (by omega) (by omega) _ (HL.out.below (HBx.out.trans (HB2d.out.mono HBx.out.size)))).mono ?_
            rintro e w5 ⟨rfl, hb5⟩
            refine ⟨_, rfl, ?_⟩
            have BA5 := Aside0.mk (blk_below BAd.out hb5)
            have BW5 := Aside0.mk (blk_below BWd.out hb5)
            have HO5 := Aside0.mk (Kd.R_below HOd.out hb5)
            have HB5 := Aside0.mk (HB2d.out.trans (hb5.mono HB2d.out.size))
            clear hb5
            refine hK.out _ _ ⟨blk_cell BA5.out 0, blk_cell BA5.out 1, blk_cell BW5.out 3⟩ (fun hHeld => ?_)
            clear hK K
            refine norm_ (a' := ?_) ?_ ?_
            rotate_left
            · show Act.put _ (some 35) _ = _
              simp only [Act.put, List.setIfInBounds_toArray, List.set_cons_zero, List.set_cons_succ, i64_w, i32_w]
              rfl
            refine pure_ (i := 9) (N := some 36) (v := ?_) (a' := ?_) #[true, true, true, true, true, true, true, true, true, true, false, false, false] rfl rfl (any_of HT_.out (by kernel_rfl)) (fun _ _ _ h => h) (Or.inl ⟨by rfl, ?_⟩) ?_ ?_
            rotate_left
            · intro w'
              go_simp
              with_reducible rfl
            rotate_left
            · simp only [Act.put, List.setIfInBounds_toArray, List.set_cons_zero, List.set_cons_succ, i64_w, i32_w]
              rfl
            refine one_ (i := 10) (N := some 37) #[true, true, true, true, true, true, true, true, true, true, true, false, false] rfl rfl (one_of HT_.out (by kernel_rfl)) (by decide) (fun K hK => ?_)
            refine event_step (by rfl) (v := .slice (some ⟨w5.heap.size, 0, none⟩) 1 1) (w1 := w5.alloc (.cells #[.string ((⟨#[119, 111, 114, 107]⟩ : ByteArray) ++ (⟨#[32]⟩ : ByteArray) ++ (⟨(Lib.itoa a.f1).toArray⟩ : ByteArray))] 9)) (by first | (go_simp; done) | (go_simp; rfl)) ?_
            have BA6 := Aside0.mk (blk_alloc BA5.out (.cells #[.string ((⟨#[119, 111, 114, 107]⟩ : ByteArray) ++ (⟨#[32]⟩ : ByteArray) ++ (⟨(Lib.itoa a.f1).toArray⟩ : ByteArray))] 9))
            have BW6 := Aside0.mk (blk_alloc BW5.out (.cells #[.string ((⟨#[119, 111, 114, 107]⟩ : ByteArray) ++ (⟨#[32]⟩ : ByteArray) ++ (⟨(Lib.itoa a.f1).toArray⟩ : ByteArray))] 9))
            refine hK.out _ _ ⟨blk_cell BA6.out 0, blk_cell BA6.out 1, blk_cell BW6.out 3⟩ (fun hHeld => ?_)
            clear hK K
            refine norm_ (a' := ?_) ?_ ?_
            rotate_left
            · show Act.put _ (some 37) _ = _
              simp only [Act.put, List.setIfInBounds_toArray, List.set_cons_zero, List.set_cons_succ, i64_w, i32_w]
              rfl
            refine one_ (i := 11) (N := some 38) #[true, true, true, true, true, true, true, true, true, true, true, true, false] rfl rfl (one_of HT_.out (by kernel_rfl)) (by decide) (fun K hK => ?_)
            refine Kd.R_append_step Kd.string (w0 := wx) (W := w5) wx.heap.size (by rfl) (.tmp 27) (.tmp 37) 41 9 (.string ⟨#[]⟩) 16 rfl Tryd.underlying41 info9 rfl (by decide) (by omega) _ ((p.take j).map pieceB) ((⟨#[119, 111, 114, 107]⟩ : ByteArray) ++ (⟨#[32]⟩ : ByteArray) ++ (⟨(Lib.itoa a.f1).toArray⟩ : ByteArray)) [.string ((⟨#[119, 111, 114, 107]⟩ : ByteArray) ++ (⟨#[32]⟩ : ByteArray) ++ (⟨(Lib.itoa a.f1).toArray⟩ : ByteArray))] (fun _ => True) (fun _ => False) rfl rfl rfl (fun _ hk => hk.elim) (fun _ _ => trivial) HO5.out HB5.out HB5.out.size (by simp only [List.length_map, List.length_take]; omega) ?_
            intro v1 w6 ho6 hb6 hg6 hat6
            have BA7 := Aside0.mk ((hg6.block _ (blk_lt BA5.out) (fun e => by have := hob _ e.symm; omega)).trans BA5.out)
            have BW7 := Aside0.mk ((hg6.block _ (blk_lt BW5.out) (fun e => by have := hob _ e.symm; have := blk_lt HW.out; omega)).trans BW5.out)
            have HO6 := Aside0.mk ho6
            have HB6 := Aside0.mk hb6
            clear ho6 hb6 hg6 hat6
            refine hK.out _ _ ⟨blk_cell BA7.out 0, blk_cell BA7.out 1, blk_cell BW7.out 3⟩ (fun hHeld => ?_)
            clear hK K
            refine norm_ (a' := ?_) ?_ ?_
            rotate_left
            · show Act.put _ (some 38) _ = _
              simp only [Act.put, List.setIfInBounds_toArray, List.set_cons_zero, List.set_cons_succ, i64_w, i32_w]
              rfl
            refine pure_ (i := 12) (N := some 8) (v := ?_) (a' := ?_) #[true, true, true, true, true, true, true, true, true, true, true, true, true] rfl rfl (any_of HT_.out (by kernel_rfl)) (fun _ _ _ h => h) (Or.inl ⟨by rfl, ?_⟩) ?_ ?_
            rotate_left
            · intro w'
              go_simp
              with_reducible rfl
            rotate_left
            · simp only [Act.put, List.setIfInBounds_toArray, List.set_cons_zero, List.set_cons_succ, i64_w, i32_w]
              rfl
            refine done_ (done_of HT_.out (by kernel_rfl)) ?_
            try go_wp2
            go_roundg gi
            case rel =>
              refine ⟨j + 1, by omega, by go_num, ⟨?_⟩, ⟨HB6.out⟩⟩
              have e1 : (p.take (j + 1)).map pieceB = (p.take j).map pieceB ++ [((⟨#[119, 111, 114, 107]⟩ : ByteArray) ++ (⟨#[32]⟩ : ByteArray) ++ (⟨(Lib.itoa a.f1).toArray⟩ : ByteArray))] := by
                rw [List.take_succ_eq_append_getElem hjlt, List.map_append, ← hap.out, List.map_cons, List.map_nil]
                unfold pieceB
                rw [hk0]
                rfl
              rw [e1]
              exact HO6.out
            case measure => omega

/-- What Print tells. -/
def prog_Print.f (l0 : List (List S32)) : Option (ByteArray × Int) := some (if okPs l0 = true then (textB l0, 0) else (⟨#[]⟩, 1))
set_option maxHeartbeats 1000000 in
set_option maxRecDepth 100000 in
theorem Print_not (A : Option Addr) (c : Nat) (l : List (List S32)) (w : World) (hC0 : Kd.C (Kd.slice 32 k32) w A l.length l) (hc0 : l.length ≤ c) (hok : okPs l = false) :
    Calls Tryd.prog 14 #[.slice A l.length c] w fun e w' => e = .returned (.tuple #[.string ⟨#[]⟩, .int .i64 1]) ∧ Below w.heap.size w w' := by
  have HC := Aside0.mk hC0
  have HO := Aside0.mk hok
  clear hC0 hok
  go_enter Tryd.func14, Tryd.ntmps14
  go_wp2_with (go_at_call 16; refine (Right_any A c l _ HC.out hc0).mono ?_; rw [HO.out]; rintro e w1 ⟨rfl, hb⟩)
  go_ret2
  exact ⟨rfl, hb⟩
theorem prog_Print.calls (A0 : Option Addr) (c0 : Nat) (l0 : List (List S32)) (r1 : ByteArray) (r2 : Int) (w : World) (hr0 : Kd.C (Kd.slice 32 k32) w A0 l0.length l0) (hc0 : l0.length ≤ c0) (h : prog_Print.f l0 = some (r1, r2)) (hT : Laid w) :
    Calls Tryd.prog 14 #[.slice A0 l0.length c0] w fun e w' => e = .returned (.tuple #[.string r1, .int .i64 r2]) ∧ Below w.heap.size w w' := by
  have h' := Option.some.inj h
  by_cases hok : okPs l0 = true
  · rw [if_pos hok] at h'
    obtain ⟨e1, e2⟩ := Prod.mk.inj h'
    subst e1
    subst e2
    exact Print_walk A0 c0 l0 w hr0 hc0 hT hok (fun w' hw' => by have := Right_any A0 c0 l0 w' hw' hc0; rwa [hok] at this)
  · rw [if_neg hok] at h'
    obtain ⟨e1, e2⟩ := Prod.mk.inj h'
    subst e1
    subst e2
    exact Print_not A0 c0 l0 w hr0 hc0 (by simpa using hok)
end Go.Proofs.YtfebhemdpbnebaaDoor.Hand
