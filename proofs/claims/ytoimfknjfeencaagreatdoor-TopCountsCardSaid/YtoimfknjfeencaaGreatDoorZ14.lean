/- Part of the walk of a law of the top, and what it leans on (Clone, Del, Del2, Ins1, Ins2, Ins3). No conditions beyond those that each lemma names. -/
import Derived.Test.YtoimfknjfeencaaGreatDoorZ12
import Derived.Test.YtoimfknjfeencaaGreatDoorZ13
import Derived.Laws.CopyRow
import Derived.Lib.AppendZerosOnto
import Derived.Lib.Overlaps
set_option linter.unusedVariables false
set_option linter.unusedSimpArgs false
set_option maxHeartbeats 8000000
set_option maxRecDepth 100000
section
namespace Go.Proofs.YtoimfknjfeencaaGreatDoor.Hand
open Go.RowKit Go.Proofs.YtoimfknjfeencaaGreatDoorW.PrintWords Go.Proofs.YtoimfknjfeencaaGreatDoorW.PrintLast Go.Proofs.YtoimfknjfeencaaGreatDoorW.PrintMore
theorem nileq' (t : TypeId) (h : t = 237 ∨ t = 24 ∨ t = 25 ∨ t = 26) (c : Nat) (w : World) : (binOp .eql t (.slice none 0 c) (.slice none 0 0)).run Tryz.prog w = .ok (.bool true) w := by
 rcases h with rfl | rfl | rfl | rfl <;> kernel_rfl
def flatNews {α : Type} (enc : α → List Value) : List α → List Value
 | [] => []
 | x :: r => enc x ++ flatNews enc r
theorem flatNews_len {α : Type} {enc : α → List Value} {sz : Nat} (h1 : ∀ x, (enc x).length = sz) : ∀ l : List α, (flatNews enc l).length = l.length * sz
 | [] => by simp [flatNews]
 | x :: r => by rw [flatNews, List.length_append, h1, flatNews_len h1 r, List.length_cons, Nat.succ_mul]; omega
theorem flatNews_one {α : Type} {enc : α → List Value} (h2 : ∀ x, ∀ u ∈ enc x, u.oneCell' = true) : ∀ l : List α, ∀ u ∈ flatNews enc l, u.oneCell' = true
 | [], u, h => by simp [flatNews] at h
 | x :: r, u, h => by
  rw [flatNews] at h
  rcases List.mem_append.1 h with h | h
  ·exact h2 x u h
  ·exact flatNews_one h2 r u h
theorem flatNews_at {α : Type} {enc : α → List Value} {sz : Nat} (h1 : ∀ x, (enc x).length = sz) : ∀ (l : List α) (j : Nat) (u : Value), (flatNews enc l)[j]? = some u → ∃ (i k : Nat) (x : α), j = i * sz + k ∧ l[i]? = some x ∧ (enc x)[k]? = some u
 | [], j, u, h => by simp [flatNews] at h
 | x :: r, j, u, h => by
  rw [flatNews] at h
  by_cases hj : j < (enc x).length
  ·rw [List.getElem?_append_left hj] at h
   exact ⟨0, j, x, by omega, rfl, h⟩
  ·rw [List.getElem?_append_right (by omega), h1] at h
   obtain ⟨i, k, y, e, hy, hu⟩ := flatNews_at h1 r _ u h
   rw [h1] at hj
   exact ⟨i + 1, k, y, by rw [Nat.succ_mul]; omega, by simpa using hy, hu⟩
theorem flatNews_seg {α : Type} {enc : α → List Value} {sz : Nat} (h1 : ∀ x, (enc x).length = sz) : ∀ (l : List α) (i : Nat) (x : α), l[i]? = some x → ((flatNews enc l).drop (i * sz)).take sz = enc x
 | [], i, x, h => by simp at h
 | y :: r, 0, x, h => by
  simp at h
  subst h
  rw [flatNews, Nat.zero_mul, List.drop_zero, List.take_left' (h1 y)]
 | y :: r, i + 1, x, h => by
  simp at h
  have hd : (i + 1) * sz = (enc y).length + i * sz := by rw [h1, Nat.succ_mul]; omega
  rw [flatNews, hd, List.drop_append, List.drop_of_length_le (by omega), List.nil_append, Nat.add_sub_cancel_left]
  exact flatNews_seg h1 r i x h
theorem flat_R {α : Type} {sz : Nat} {enc : α → List Value} {h1 : ∀ x, (enc x).length = sz} {h2 : ∀ x, ∀ u ∈ enc x, u.oneCell' = true} {e base : Nat} {w : World} {v : Value} {xs : List α} (h : w.ownsRow base e sz v xs.length (flatNews enc xs)) : (flat sz enc h1 h2).R e w base (fun _ => True) v xs :=
 ⟨fun _ _ => trivial, flatNews enc xs, h, flatNews_len h1 xs, fun j p hp => flatNews_seg h1 xs j p hp⟩
theorem reps_flat {α : Type} {enc : α → List Value} {sz : Nat} (h1 : ∀ x, (enc x).length = sz) : ∀ (xs : List α) (inner : List Value), Reps (fun x cs => cs = enc x) sz xs inner → inner = flatNews enc xs
 | [], inner, h => by
  have := h.1
  simp at this
  rw [this]
  rfl
 | x :: r, inner, h => by
  have h0 : (inner.drop (0 * sz)).take sz = enc x := h.2 0 x rfl
  rw [Nat.zero_mul, List.drop_zero] at h0
  have hl : inner.length = (r.length + 1) * sz := by have := h.1; simpa using this
  have hr : Reps (fun x cs => cs = enc x) sz r (inner.drop sz) := by
   refine ⟨by rw [List.length_drop, hl, Nat.succ_mul]; omega, fun j p hp => ?_⟩
   have := h.2 (j + 1) p (by simpa using hp)
   have e : (inner.drop ((j + 1) * sz)).take sz = enc p := this
   show ((inner.drop sz).drop (j * sz)).take sz = enc p
   rw [List.drop_drop, ← e, Nat.succ_mul, Nat.add_comm]
  have := reps_flat h1 r _ hr
  rw [flatNews, ← this, ← h0, List.take_append_drop]
theorem own_flat {α : Type} {sz : Nat} {enc : α → List Value} {h1 : ∀ x, (enc x).length = sz} {h2 : ∀ x, ∀ u ∈ enc x, u.oneCell' = true} {e base : Nat} {w : World} {v : Value} {xs : List α} {ok : Nat → Prop} (h : (flat sz enc h1 h2).R e w base ok v xs) : w.ownsRow base e sz v xs.length (flatNews enc xs) := by
 obtain ⟨_, inner, ho, hr⟩ := h
 have : inner = flatNews enc xs := reps_flat h1 xs inner hr
 rw [← this]
 exact ho
theorem flatNews_take {α : Type} {enc : α → List Value} {sz : Nat} (h1 : ∀ x, (enc x).length = sz) : ∀ (xs : List α) (m : Nat), (flatNews enc xs).take (m * sz) = flatNews enc (xs.take m)
 | [], m => by simp [flatNews]
 | x :: r, 0 => by simp [flatNews]
 | x :: r, m + 1 => by rw [List.take_succ_cons, flatNews, flatNews, Nat.succ_mul, Nat.add_comm, List.take_append, h1, List.take_of_length_le (by rw [h1]; omega), Nat.add_sub_cancel_left, flatNews_take h1 r m]
theorem flatNews_append {α : Type} {enc : α → List Value} : ∀ (xs ys : List α), flatNews enc (xs ++ ys) = flatNews enc xs ++ flatNews enc ys
 | [], ys => rfl
 | x :: r, ys => by rw [List.cons_append, flatNews, flatNews, flatNews_append r ys, List.append_assoc]
theorem flat_R_take {α : Type} {sz : Nat} {enc : α → List Value} {h1 : ∀ x, (enc x).length = sz} {h2 : ∀ x, ∀ u ∈ enc x, u.oneCell' = true} {e base g cap n m : Nat} {w : World} {xs : List α} (h : (flat sz enc h1 h2).R e w base (fun _ => True) (.slice (some ⟨g, 0, none⟩) n cap) xs) (hm : m ≤ xs.length) : (flat sz enc h1 h2).R e w base (fun _ => True) (.slice (some ⟨g, 0, none⟩) m cap) (xs.take m) := by
 have hn : n = xs.length := (Kd.R_reads' h).1
 obtain ⟨hl, ho⟩ := own_flat h
 have hml : (xs.take m).length = m := by rw [List.length_take]; omega
 refine flat_R ?_
 rcases ho with ⟨hv, _⟩ | ⟨g', cap', cur, hv, hb, hh, hnc, hcm, hcs, htk⟩
 ·cases hv
 ·injection hv with ha hb' hc'
  injection ha with ha
  injection ha with ha
  subst ha
  subst hc'
  refine ⟨by rw [flatNews_len h1, hml], .inr ⟨g, cap, cur, by rw [hml], hb, hh, by rw [hml]; omega, hcm, hcs, ?_⟩⟩
  rw [hml]
  have : cur.toList.take (m * sz) = (cur.toList.take (xs.length * sz)).take (m * sz) := by
   rw [List.take_take, Nat.min_eq_left (Nat.mul_le_mul_right _ hm)]
  rw [this, htk]
  exact flatNews_take h1 xs m
theorem flat_news_cells {α : Type} {sz : Nat} {enc : α → List Value} {h1 : ∀ x, (enc x).length = sz} {h2 : ∀ x, ∀ u ∈ enc x, u.oneCell' = true} {w : World} {ad : Addr} {n : Nat} {xs : List α} (h : (flat sz enc h1 h2).C w (some ad) n xs) : ∀ j u, (flatNews enc xs)[j]? = some u → w.cell? (ad.add j) = some u := by
 intro j u hu
 obtain ⟨i, k, x, rfl, hx, hk⟩ := flatNews_at h1 xs j u hu
 have hi := (List.getElem?_eq_some_iff.1 hx).1
 obtain ⟨hl, hm, hc⟩ := h
 obtain ⟨ad', e, hc⟩ := hc (by omega)
 cases e
 obtain ⟨c, hsz, hK, hcell⟩ := hc i x hx
 have hK' : c = enc x := hK
 subst hK'
 exact hcell k u hk
theorem infoC44 : (Tryz.prog.info? 44).map (fun i => (i.zero, i.size, i.bytes)) = some (some (.agg #[.int .i64 0, .bool false, .int .i64 0, .int .i64 0, .int .i64 0, .int .i64 0, .bool false, .bool false, .int .i64 0, .bool false, .bool false, .int .i64 0, .int .i64 0]), 13, 88) := by kernel_rfl
def Clone21Post (xs : List M.Client) (w : World) (en : Ending) (w' : World) : Prop := ∃ v, en = .returned v ∧ kClient.R 44 w' w.heap.size (fun _ => True) v xs ∧ Below w.heap.size w w'
theorem clone21 (A : Option Addr) (c : Nat) (xs : List M.Client) (w : World) (hC0 : kClient.C w A xs.length xs) (hl : xs.length ≤ 1000) (hz : A = none → xs = []) :
  Calls Tryz.prog 21 #[.slice A xs.length c] w (Clone21Post xs w) := by
 have hu := Tryz.underlying24
 cases A with
 | none =>
  obtain rfl := hz rfl
  have hq := nileq' 24 (by simp) c w
  go_enter Tryz.func21, Tryz.ntmps21
  go_wp2
  go_ret
  exact ⟨_, rfl, Kd.R_nil _ _ _ _ _, Below.refl _ _⟩
 | some ad =>
  obtain ⟨i0, hi, hzz⟩ := Option.map_eq_some_iff.1 infoC44
  simp only [Prod.mk.injEq] at hzz
  obtain ⟨hz0, hz1, hz2⟩ := hzz
  have hq := nilne 24 (by simp) ad xs.length c w
  have HN := ak_ (fun o => flat_news_cells (Kd.C_below hC0 (below_alloc (Below.refl _ w) o)))
  clear hC0 hz
  go_enter Tryz.func21, Tryz.ntmps21
  go_wp2_with (at_builtin; refine wpList_append_own _ rfl _ _ 24 rfl w.heap.size 44 i0 (.agg #[.int .i64 0, .bool false, .int .i64 0, .int .i64 0, .int .i64 0, .int .i64 0, .bool false, .bool false, .int .i64 0, .bool false, .bool false, .int .i64 0, .int .i64 0]) 13 88 Tryz.underlying24 hi hz0 hz1 hz2 rfl (by omega) _ _ _ rfl (World.ownsRow_made w #[] 0 (Nat.le_refl _) (Nat.zero_le _) (by simp)) ad xs.length c (flatNews encClient xs) rfl ?qc1 ?qc2 ?qc3 ?qc4 ?qc5 ?qc6 ?_)
  case qc1 => exact flatNews_len (sz := 13) (fun _ => rfl) xs
  case qc2 => exact HN.out _
  case qc3 => exact flatNews_one (fun x u h => by simp [encClient] at h; rcases h with rfl | rfl | rfl | rfl | rfl | rfl | rfl | rfl | rfl | rfl | rfl | rfl | rfl <;> rfl) xs
  case qc4 => rw [Nat.zero_add]; simp only [maxLen]; omega
  case qc5 => rw [Nat.zero_add]; omega
  case qc6 => simp
  intro v' w1 hown hgrow hnil
  have HO := ak_ hown
  have HB := ak_ (((Below.refl w.heap.size w).alloc (Nat.le_refl _) (.cells #[] 44)).grown hgrow (by simp) (by intro k hk; simp [Value.ownBlock] at hk; omega))
  clear hown hgrow hnil
  go_wp2
  go_ret
  exact ⟨v', rfl, flat_R (by have := HO.out; simpa using this), HB.out⟩
theorem infoC53 : (Tryz.prog.info? 53).map (fun i => (i.zero, i.size, i.bytes)) = some (some (.agg #[.int .i64 0, .int .i64 0, .int .i64 0]), 3, 24) := by kernel_rfl
def Clone22Post (xs : List M.Mutex) (w : World) (en : Ending) (w' : World) : Prop := ∃ v, en = .returned v ∧ kMutex.R 53 w' w.heap.size (fun _ => True) v xs ∧ Below w.heap.size w w'
theorem clone22 (A : Option Addr) (c : Nat) (xs : List M.Mutex) (w : World) (hC0 : kMutex.C w A xs.length xs) (hl : xs.length ≤ 1000) (hz : A = none → xs = []) :
  Calls Tryz.prog 22 #[.slice A xs.length c] w (Clone22Post xs w) := by
 have hu := Tryz.underlying25
 cases A with
 | none =>
  obtain rfl := hz rfl
  have hq := nileq' 25 (by simp) c w
  go_enter Tryz.func22, Tryz.ntmps22
  go_wp2
  go_ret
  exact ⟨_, rfl, Kd.R_nil _ _ _ _ _, Below.refl _ _⟩
 | some ad =>
  obtain ⟨i0, hi, hzz⟩ := Option.map_eq_some_iff.1 infoC53
  simp only [Prod.mk.injEq] at hzz
  obtain ⟨hz0, hz1, hz2⟩ := hzz
  have hq := nilne 25 (by simp) ad xs.length c w
  have HN := ak_ (fun o => flat_news_cells (Kd.C_below hC0 (below_alloc (Below.refl _ w) o)))
  clear hC0 hz
  go_enter Tryz.func22, Tryz.ntmps22
  go_wp2_with (at_builtin; refine wpList_append_own _ rfl _ _ 25 rfl w.heap.size 53 i0 (.agg #[.int .i64 0, .int .i64 0, .int .i64 0]) 3 24 Tryz.underlying25 hi hz0 hz1 hz2 rfl (by omega) _ _ _ rfl (World.ownsRow_made w #[] 0 (Nat.le_refl _) (Nat.zero_le _) (by simp)) ad xs.length c (flatNews encMutex xs) rfl ?qc1 ?qc2 ?qc3 ?qc4 ?qc5 ?qc6 ?_)
  case qc1 => exact flatNews_len (sz := 3) (fun _ => rfl) xs
  case qc2 => exact HN.out _
  case qc3 => exact flatNews_one (fun x u h => by simp [encMutex] at h; rcases h with rfl | rfl | rfl <;> rfl) xs
  case qc4 => rw [Nat.zero_add]; simp only [maxLen]; omega
  case qc5 => rw [Nat.zero_add]; omega
  case qc6 => simp
  intro v' w1 hown hgrow hnil
  have HO := ak_ hown
  have HB := ak_ (((Below.refl w.heap.size w).alloc (Nat.le_refl _) (.cells #[] 53)).grown hgrow (by simp) (by intro k hk; simp [Value.ownBlock] at hk; omega))
  clear hown hgrow hnil
  go_wp2
  go_ret
  exact ⟨v', rfl, flat_R (by have := HO.out; simpa using this), HB.out⟩
theorem infoC87 : (Tryz.prog.info? 87).map (fun i => (i.zero, i.size, i.bytes)) = some (some (.agg #[.int .i64 0, .int .i64 0, .slice none 0 0]), 3, 40) := by kernel_rfl
def Clone191Post (xs : List VS) (w : World) (en : Ending) (w' : World) : Prop := ∃ v, en = .returned v ∧ kV.R 87 w' w.heap.size (fun _ => True) v xs ∧ Below w.heap.size w w'
theorem clone191 (A : Option Addr) (c : Nat) (xs : List VS) (w : World) (hC0 : kV.C w A xs.length xs) (hl : xs.length ≤ 1000) (hz : A = none → xs = []) :
  Calls Tryz.prog 191 #[.slice A xs.length c] w (Clone191Post xs w) := by
 have hu := Tryz.underlying26
 cases A with
 | none =>
  obtain rfl := hz rfl
  have hq := nileq' 26 (by simp) c w
  go_enter Tryz.func191, Tryz.ntmps191
  go_wp2
  go_ret
  exact ⟨_, rfl, Kd.R_nil _ _ _ _ _, Below.refl _ _⟩
 | some ad =>
  obtain ⟨i0, hi, hzz⟩ := Option.map_eq_some_iff.1 infoC87
  simp only [Prod.mk.injEq] at hzz
  obtain ⟨hz0, hz1, hz2⟩ := hzz
  have hq := nilne 26 (by simp) ad xs.length c w
  have HN := ak_ (fun o => flat_news_cells (Kd.C_below hC0 (below_alloc (Below.refl _ w) o)))
  clear hC0 hz
  go_enter Tryz.func191, Tryz.ntmps191
  go_wp2_with (at_builtin; refine wpList_append_own _ rfl _ _ 26 rfl w.heap.size 87 i0 (.agg #[.int .i64 0, .int .i64 0, .slice none 0 0]) 3 40 Tryz.underlying26 hi hz0 hz1 hz2 rfl (by omega) _ _ _ rfl (World.ownsRow_made w #[] 0 (Nat.le_refl _) (Nat.zero_le _) (by simp)) ad xs.length c (flatNews encV xs) rfl ?qc1 ?qc2 ?qc3 ?qc4 ?qc5 ?qc6 ?_)
  case qc1 => exact flatNews_len (sz := 3) (fun _ => rfl) xs
  case qc2 => exact HN.out _
  case qc3 => exact flatNews_one (fun x u h => by simp [encV] at h; rcases h with rfl | rfl | rfl <;> rfl) xs
  case qc4 => rw [Nat.zero_add]; simp only [maxLen]; omega
  case qc5 => rw [Nat.zero_add]; omega
  case qc6 => simp
  intro v' w1 hown hgrow hnil
  have HO := ak_ hown
  have HB := ak_ (((Below.refl w.heap.size w).alloc (Nat.le_refl _) (.cells #[] 87)).grown hgrow (by simp) (by intro k hk; simp [Value.ownBlock] at hk; omega))
  clear hown hgrow hnil
  go_wp2
  go_ret
  exact ⟨v', rfl, flat_R (by have := HO.out; simpa using this), HB.out⟩
def sameAt (a : Int) (v : VS) : Bool := v.addr == a
theorem set192 (a : Int) (p : Nat) (v : VS) (w : World) (h : w.cell? ⟨p, 0, none⟩ = some (.int .i64 a)) : Calls Tryz.prog 192 #[vv v, .pointer (some ⟨p, 0, none⟩)] w fun e w' => e = .returned (.bool (sameAt a v)) ∧ Below w.heap.size w w' := by
 have hu := Tryz.underlying87
 have HB := ak_ ((Below.refl w.heap.size w).alloc (Nat.le_refl _) (.cells #[.int .i64 v.addr, .int .i64 v.count, .slice v.A v.n v.c] 87))
 have z0 := pw_cell_below HB.out h
 unfold vv sameAt
 clear h
 go_enter Tryz.func192, Tryz.ntmps192
 go_wp2
 go_ret
 exact ⟨rfl, HB.out⟩
def pastAt (a : Int) (v : VS) : Bool := decide (a < v.addr)
theorem set193 (i j : Nat) (hi : i < 4) (hj : j < 4) (p : Nat) (k : Int) (A : Option Addr) (n c : Nat) (w : World) (h : w.cell? ⟨p, 0, none⟩ = some (.int .i64 (8 * (j : Int)))) : Calls Tryz.prog 193 #[vv ⟨8 * (i : Int), k, A, n, c⟩, .pointer (some ⟨p, 0, none⟩)] w fun e w' => e = .returned (.bool (pastAt (8 * (j : Int)) ⟨8 * (i : Int), k, A, n, c⟩)) ∧ Below w.heap.size w w' := by
 have hu := Tryz.underlying87
 have HB := ak_ ((Below.refl w.heap.size w).alloc (Nat.le_refl _) (.cells #[.int .i64 (8 * (i : Int)), .int .i64 k, .slice A n c] 87))
 have z0 := pw_cell_below HB.out h
 have n0 : (w.alloc (.cells #[.int .i64 (8 * (i : Int)), .int .i64 k, .slice A n c] 87)).cell? ⟨w.heap.size, 0, none⟩ = some (.int .i64 (8 * (i : Int))) := blk_cell (blk_new w _) 0
 unfold vv pastAt
 clear h
 go_enter Tryz.func193, Tryz.ntmps193
 go_wp2_with fail
 refine (order_yes i j _ hi hj).mono ?_
 rintro e w1 ⟨rfl, rfl⟩
 go_wp2
 go_ret
 exact ⟨by simp, HB.out⟩
def others (a : Int) (vs : List VS) : List VS := vs.filter (fun v => !sameAt a v)
theorem others_all {a : Int} : ∀ (vs : List VS), idxI (sameAt a) vs = -1 → others a vs = vs := by
 intro vs h
 unfold others
 rw [List.filter_eq_self]
 intro v hv
 unfold idxI at h
 cases q : vs.findIdx? (sameAt a) with
 | some i => rw [q] at h; simp at h
 | none =>
  rw [List.findIdx?_eq_none_iff] at q
  rw [q v hv]
  rfl
theorem others_one {a : Int} {i : Nat} : ∀ (vs : List VS), idxI (sameAt a) vs = (i : Int) → (vs.filter (sameAt a)).length ≤ 1 → i < vs.length ∧ others a vs = vs.eraseIdx i ∧ ∀ (j : Nat) (v : VS), j ≠ i → vs[j]? = some v → sameAt a v = false := by
 intro vs h h1
 have hf : vs.findIdx? (sameAt a) = some i := by
  unfold idxI at h
  cases q : vs.findIdx? (sameAt a) with
  | some k => rw [q] at h; simp only at h; rw [show k = i by omega]
  | none => rw [q] at h; simp only at h; omega
 clear h
 induction vs generalizing i with
 | nil => simp at hf
 | cons x r ih =>
  rw [List.findIdx?_cons] at hf
  by_cases hx : sameAt a x = true
  ·rw [if_pos hx] at hf
   cases hf
   rw [List.filter_cons_of_pos hx] at h1
   have hr : r.filter (sameAt a) = [] := List.length_eq_zero_iff.1 (by simp at h1; exact List.length_eq_zero_iff.2 (by simpa using h1))
   have hno : ∀ v ∈ r, sameAt a v = false := fun v hv => by
    have := (List.filter_eq_nil_iff.1 hr) v hv
    simpa using this
   refine ⟨by simp, ?_, ?_⟩
   ·unfold others
    rw [List.filter_cons_of_neg (by simp [hx]), List.eraseIdx_cons_zero, List.filter_eq_self.2 (fun v hv => by rw [hno v hv]; rfl)]
   ·intro j v hj hv
    cases j with
    | zero => exact absurd rfl hj
    | succ j => exact hno v (List.mem_of_getElem? (by simpa using hv))
  ·have hx2 : sameAt a x = false := by simpa using hx
   rw [if_neg hx] at hf
   cases q : r.findIdx? (sameAt a) with
   | none => rw [q] at hf; cases hf
   | some k =>
    rw [q] at hf
    cases hf
    rw [List.filter_cons_of_neg hx] at h1
    obtain ⟨e1, e2, e3⟩ := ih h1 q
    refine ⟨by simpa using e1, ?_, ?_⟩
    ·unfold others at *
     rw [List.filter_cons_of_pos (by simp [hx2]), e2, List.eraseIdx_cons_succ]
    ·intro j v hj hv
     cases j with
     | zero => simp at hv; rw [← hv]; exact hx2
     | succ j => exact e3 j v (fun e => hj (by rw [e])) (by simpa using hv)
def DelPost (B : Nat) (ys : List VS) (w : World) (e : Ending) (w' : World) : Prop := ∃ v, e = .returned v ∧ kV.R 87 w' B (fun _ => True) v ys ∧ Below B w w'
theorem del_none (a : Int) (v : Value) (B p : Nat) (vs : List VS) (w : World) (hO : kV.R 87 w B (fun _ => True) v vs) (hB : B ≤ w.heap.size) (hpB : p < B) (hp : w.cell? ⟨p, 0, none⟩ = some (.int .i64 a)) (hi : idxI (sameAt a) vs = -1) :
  Calls Tryz.prog 190 #[v, .func (.func 192) #[] #[.pointer (some ⟨p, 0, none⟩)]] w (DelPost B vs w) := by
 obtain ⟨A, c, rfl, hc, hC⟩ := Kd.R_reads hO
 have HX := ak_ (spotIndex 192 (by simp) (.pointer (some ⟨p, 0, none⟩)) A c vs (sameAt a) (fun w' => w'.cell? ⟨p, 0, none⟩ = some (.int .i64 a)) (fun w1 w2 h hb => pw_cell_below hb h) (fun v _ w' h => set192 a p v w' h) w hp hC)
 rw [hi] at HX
 have HO := ak_ hO
 clear hO hC hp hi
 go_enter Tryz.func190, Tryz.ntmps190
 go_wp2_with fail
 refine HX.out.mono ?_
 rintro e w1 ⟨rfl, hb⟩
 go_wp2
 go_ret
 exact ⟨_, rfl, Kd.R_below HO.out hb, hb.mono hB⟩
def shifted (vs : List VS) (i k : Nat) : List VS := (vs.eraseIdx i).take k ++ vs.drop k
theorem shifted_len {vs : List VS} {i k : Nat} (hi : i < vs.length) (hk : k < vs.length) : (shifted vs i k).length = vs.length := by
 unfold shifted
 rw [List.length_append, List.length_take, List.length_drop, List.length_eraseIdx, if_pos hi]
 omega
theorem shifted_start {vs : List VS} {i : Nat} (h : i < vs.length) : shifted vs i i = vs := by
 unfold shifted
 rw [List.eraseIdx_eq_take_drop_succ, List.take_append, List.take_take, Nat.min_self, List.length_take]
 rw [Nat.min_eq_left (by omega), Nat.sub_self, List.take_zero, List.append_nil, List.take_append_drop]
theorem shifted_next {vs : List VS} {i k : Nat} (hik : i ≤ k) (hk : k + 1 < vs.length) (x : VS) (hx : vs[k + 1]? = some x) : (shifted vs i k).set k x = shifted vs i (k + 1) := by
 unfold shifted
 have hel : (vs.eraseIdx i).length = vs.length - 1 := by rw [List.length_eraseIdx, if_pos (by omega)]
 have hl : ((vs.eraseIdx i).take k).length = k := by rw [List.length_take, hel]; omega
 rw [List.set_append, if_neg (by omega), hl, Nat.sub_self]
 have hd : vs.drop k = vs[k]'(by omega) :: vs.drop (k + 1) := List.drop_eq_getElem_cons (by omega)
 rw [hd, List.set_cons_zero]
 have hek : (vs.eraseIdx i)[k]? = some x := by
  rw [List.getElem?_eraseIdx, if_neg (by omega)]
  exact hx
 have hek2 : k < (vs.eraseIdx i).length := by omega
 rw [List.take_succ_eq_append_getElem hek2, List.append_assoc]
 rw [List.getElem?_eq_getElem hek2] at hek
 rw [Option.some.inj hek]
 rfl
theorem shifted_at {vs : List VS} {i k : Nat} (hi : i < vs.length) (hk : k + 1 < vs.length) (j : Nat) (hj : k ≤ j) : (shifted vs i k)[j]? = vs[j]? := by
 unfold shifted
 have hel : (vs.eraseIdx i).length = vs.length - 1 := by rw [List.length_eraseIdx, if_pos (by omega)]
 have hl : ((vs.eraseIdx i).take k).length = k := by rw [List.length_take, hel]; omega
 rw [List.getElem?_append_right (by omega), hl, List.getElem?_drop]
 congr 1
 omega
theorem run_clear1 (w : World) (g o c : Nat) (ty : TypeId) (cur : Array Value) (hh : w.heap[g]? = some (.cells cur 87 (0, 0))) (hfit : o + 3 ≤ cur.size) :
  (Builtin.clear_ #[26] ty #[.slice (some ⟨g, o, none⟩) 1 c]).run Tryz.prog w = .ok (.tuple #[]) (w.setCells g o [.int .i64 0, .int .i64 0, .slice none 0 0]) := by
 have hst := run_storeCells_cells (P := Tryz.prog) g o [.int .i64 0, .int .i64 0, .slice none 0 0] 0 w (fun j hj => by rw [cell_of_row w g _ cur 87 (0, 0) hh]; simp at hj; simp; omega) (fun j _ => blk_frozen hh _) (by intro v hv; simp at hv; rcases hv with rfl | rfl | rfl <;> rfl)
 simp only [Nat.add_zero] at hst
 have hz : ∀ w, (zeroValue 87).run Tryz.prog w = .ok (.agg #[.int .i64 0, .int .i64 0, .slice none 0 0]) w := fun w => by kernel_rfl
 have hzc : (Builtin.zeroCells (Value.agg #[.int .i64 0, .int .i64 0, .slice none 0 0]).cells 1).toList = [.int .i64 0, .int .i64 0, .slice none 0 0] := by kernel_rfl
 simp [Builtin.clear_, run_underlying Tryz.underlying26, hz, hzc, hst]
theorem cell_grown {w w1 : World} {a : Addr} {v : Value} {row : Option Nat} (h : w.cell? a = some v) (hg : w.grownBy w1 row) (hne : some a.block ≠ row) : w1.cell? a = some v := by
 have := hg.block a.block (World.block_lt_of_cell? w a h) hne
 simpa [World.cell?, this] using h
theorem row_set {W w : World} {B g n cap k : Nat} {vs : List VS} (v : VS) (HO : kV.R 87 W B (fun _ => True) (.slice (some ⟨g, 0, none⟩) n cap) vs) (HB : Below B w W) (hk : k < vs.length) :
  kV.R 87 (W.setCells g (k * 3) (encV v)) B (fun _ => True) (.slice (some ⟨g, 0, none⟩) n cap) (vs.set k v) ∧ Below B w (W.setCells g (k * 3) (encV v)) ∧ W.grownBy (W.setCells g (k * 3) (encV v)) (some g) ∧ B ≤ g := by
 obtain ⟨hn, hnc, hC⟩ := Kd.R_reads' HO
 have hbg : B ≤ g := Kd.R_base HO g (by simp [Value.ownBlock])
 have hu : vs[k]? = some (vs[k]'hk) := List.getElem?_eq_getElem hk
 obtain ⟨hr, hg⟩ := Kd.R_seg (d := kV) (okp := fun _ => False) (c := encV (vs[k]'hk)) (seg := encV v) (j := 0) (x' := v) HO (k : Int) (by omega) (by omega) rfl
  (fun j x hx => by rw [Int.toNat_natCast]; exact flat_cells0 hC k _ hu j x hx) (by show 0 + 3 ≤ 3; omega) (by show _ = _; simp [encV]) (fun _ h => h.elim)
 rw [Int.toNat_natCast] at hr hg
 refine ⟨hr, HB.trans ⟨hg.os, hg.tape, hg.output, hg.size, fun q hq => ?_⟩, hg, hbg⟩
 rcases Nat.lt_or_ge q W.heap.size with hlt | hge
 ·exact hg.block q hlt (fun he => by injection he with he; omega)
 ·exact setCells_far (encV v) _ q (by omega)
theorem del_one (a : Int) (g n cap B p i : Nat) (vs : List VS) (w : World) (hO : kV.R 87 w B (fun _ => True) (.slice (some ⟨g, 0, none⟩) n cap) vs) (hB : B ≤ w.heap.size) (hpB : p < B) (hp : w.cell? ⟨p, 0, none⟩ = some (.int .i64 a)) (hx : idxI (sameAt a) vs = (i : Int)) (h1 : (vs.filter (sameAt a)).length ≤ 1) (hl : vs.length ≤ 64) :
  Calls Tryz.prog 190 #[.slice (some ⟨g, 0, none⟩) n cap, .func (.func 192) #[] #[.pointer (some ⟨p, 0, none⟩)]] w (DelPost B (others a vs) w) := by
 obtain ⟨hi, he, hno⟩ := others_one vs hx h1
 obtain ⟨hn, hnc, hC⟩ := Kd.R_reads' hO
 subst hn
 have HX := ak_ (spotIndex 192 (by simp) (.pointer (some ⟨p, 0, none⟩)) (some ⟨g, 0, none⟩) cap vs (sameAt a) (fun w' => w'.cell? ⟨p, 0, none⟩ = some (.int .i64 a)) (fun w1 w2 h hb => pw_cell_below hb h) (fun v _ w' h => set192 a p v w' h) w hp hC)
 rw [hx] at HX
 have HO := ak_ hO
 have HP := ak_ hp
 have HN := ak_ hno
 have HE := ak_ he
 have hu := Tryz.underlying87
 have hu26 := Tryz.underlying26
 have hlI : (vs.length : Int) ≤ 64 := by omega
 clear hO hC hp hx h1 hno he
 go_enter Tryz.func190, Tryz.ntmps190
 go_wp2_with fail
 refine HX.out.mono ?_
 rintro e w1 ⟨rfl, hb⟩
 have O1 := ak_ (Kd.R_below HO.out hb)
 have B1 := ak_ (hb.mono hB)
 have P1 := ak_ (pw_cell_below hb HP.out)
 clear hb HO HX
 have hneg : ¬ ((i : Int) = -1) := by omega
 go_wp2
 go_loopg [5, 6, 7] (vs.length - 1 - i) (fun gk v5 v6 v7 wx => ∃ k : Nat, k + gk = vs.length - 1 ∧ i ≤ k ∧ v5 = .int .i64 k ∧ v6 = .int .i64 ((k : Int) + 1) ∧ Aside0 (kV.R 87 wx B (fun _ => True) (.slice (some ⟨g, 0, none⟩) vs.length cap) (shifted vs i k)) ∧ Aside0 (Below B w wx) ∧ Aside0 (wx.cell? ⟨p, 0, none⟩ = some (.int .i64 a)))
 case atStart => exact ⟨i, by omega, Nat.le_refl _, rfl, by go_num, by rw [shifted_start hi]; exact O1, B1, P1⟩
 case round =>
  obtain ⟨k, hkg, hik, rfl, rfl, HO, HB, HP⟩ := hrel
  cases gk with
  | zero =>
   have hk : vs.length = k + 1 := by omega
   have hkI : (vs.length : Int) = (k : Int) + 1 := by omega
   have hnot : ¬ ((k : Int) + 1 < (vs.length : Int)) := by omega
   have hsl := shifted_len hi (show k < vs.length by omega)
   obtain ⟨g9, cap9, cur, e9, _, _, _, _, hcur⟩ := R_own2 HO.out vs.length hsl (by omega)
   cases e9
   have hfit : k * 3 + 3 ≤ cur.size := by
    have := own_flat HO.out
    obtain ⟨_, inner, ho, hr⟩ := HO.out
    rcases ho.2 with ⟨hv, _⟩ | ⟨g', cap', cur', hv, hb, hh, hnc', hcm, hcs, _⟩
    ·cases hv
    injection hv with ha _ hc
    injection ha with ha
    injection ha with hg'
    subst hg'; subst hc
    rw [hcur] at hh
    injection hh with hh
    injection hh with hh
    subst hh
    rw [hcs]
    have h3 : vs.length * 3 ≤ cap * 3 := Nat.mul_le_mul_right _ hnc
    show k * 3 + 3 ≤ cap * 3
    omega
   have hkl : vs.length - k = 1 := by omega
   have HC := ak_ (run_clear1 wr g (k * 3) (cap - k) 0 cur hcur hfit)
   clear hcur
   go_wp2_with fail
   rw [HC.out]
   go_wp2_with fail
   obtain ⟨r1, r2, r3, r4⟩ := row_set ⟨0, 0, none, 0, 0⟩ HO.out HB.out (k := k) (by omega)
   have r5 := flat_R_take r1 (m := k) (by rw [List.length_set]; omega)
   have hlist : ((shifted vs i k).set k ⟨0, 0, none, 0, 0⟩).take k = others a vs := by
    rw [HE.out, List.take_set_of_le (Nat.le_refl k)]
    unfold shifted
    have hel : (vs.eraseIdx i).length = k := by rw [List.length_eraseIdx, if_pos hi]; omega
    rw [List.take_append_of_le_length (by rw [List.length_take, hel]; omega), List.take_take, Nat.min_self, List.take_of_length_le (by omega)]
   rw [hlist] at r5
   go_ret
   exact ⟨_, rfl, r5, r2⟩
  | succ gn =>
   have hlt : k + 1 < vs.length := by omega
   obtain ⟨v, hv⟩ : ∃ v, vs[k + 1]? = some v := ⟨_, List.getElem?_eq_getElem hlt⟩
   have hCs := (Kd.R_reads' HO.out).2.2
   have hsv : (shifted vs i k)[k + 1]? = some v := by rw [shifted_at hi hlt _ (by omega)]; exact hv
   have y0 : wr.cell? ⟨g, (k + 1) * 3, none⟩ = some (.int .i64 v.addr) := flat_cells0 hCs (k + 1) v hsv 0 _ rfl
   have y1 := flat_cells0 hCs (k + 1) v hsv 1 _ rfl
   have y2 := flat_cells0 hCs (k + 1) v hsv 2 _ rfl
   have hil : ((k : Int) + 1) < (vs.length : Int) := by omega
   have hk0 : (0 : Int) ≤ (k : Int) + 1 := by omega
   have htn : ((k : Int) + 1).toNat = k + 1 := by omega
   have hsm := HN.out (k + 1) v (by omega) hv
   have HX := ak_ (fun o => set192 a p v (wr.alloc o) (pw_cell_below (below_alloc (Below.refl _ _) o) HP.out))
   rw [hsm] at HX
   unfold vv at HX
   have hnx := shifted_next hik hlt v hv
   have hsl := shifted_len hi (show k < vs.length by omega)
   obtain ⟨u, hu1⟩ : ∃ u, (shifted vs i k)[k]? = some u := ⟨_, List.getElem?_eq_getElem (by omega)⟩
   have hukc := ak_ (fun (W : World) (h : kV.C W (some ⟨g, 0, none⟩) vs.length (shifted vs i k)) (j : Nat) (x : Value) (hxj : (encV u)[j]? = some x) => flat_cells0 h k u hu1 j x hxj)
   have HS := ak_ hnx
   clear hv hsv hCs hnx hu1
   go_wp2_with fail
   refine (HX.out _).mono ?_
   rintro e w2 ⟨rfl, hb⟩
   have O2 := ak_ (Kd.R_below (Kd.R_alloc HO.out (.cells #[.int .i64 v.addr, .int .i64 v.count, .slice v.A v.n v.c] 87)) hb)
   have B2 := ak_ ((HB.out.alloc (Nat.le_trans hB HB.out.size) (.cells #[.int .i64 v.addr, .int .i64 v.count, .slice v.A v.n v.c] 87)).trans (hb.mono (Nat.le_trans (Nat.le_trans hB HB.out.size) (by simp))))
   have P2 := ak_ (pw_cell_below hb (pw_cell_below (below_alloc (Below.refl _ wr) (.cells #[.int .i64 v.addr, .int .i64 v.count, .slice v.A v.n v.c] 87)) HP.out))
   have X2 := ak_ (blk_below (blk_new wr (.cells #[.int .i64 v.addr, .int .i64 v.count, .slice v.A v.n v.c] 87)) hb)
   have x0 : w2.cell? ⟨wr.heap.size, 0, none⟩ = some (.int .i64 v.addr) := blk_cell X2.out 0
   have x1 : w2.cell? ⟨wr.heap.size, 1, none⟩ = some (.int .i64 v.count) := blk_cell X2.out 1
   have x2 : w2.cell? ⟨wr.heap.size, 2, none⟩ = some (.slice v.A v.n v.c) := blk_cell X2.out 2
   obtain ⟨g9, cap9, cur, e9, _, _, _, _, hcur⟩ := R_own2 O2.out vs.length hsl (by omega)
   cases e9
   have hCC := (Kd.R_reads' O2.out).2.2
   rw [hsl] at hCC
   have c0 : w2.cell? ⟨g, k * 3, none⟩ = some (.int .i64 u.addr) := hukc.out _ hCC 0 _ rfl
   have c1 : w2.cell? ⟨g, k * 3 + 1, none⟩ = some (.int .i64 u.count) := hukc.out _ hCC 1 _ rfl
   have c2 : w2.cell? ⟨g, k * 3 + 2, none⟩ = some (.slice u.A u.n u.c) := hukc.out _ hCC 2 _ rfl
   have f0 := blk_frozen hcur (k * 3)
   have f1 := blk_frozen hcur (k * 3 + 1)
   have f2 := blk_frozen hcur (k * 3 + 2)
   have HC := ak_ hcur
   clear hcur
   clear hb hCC
   go_wp2_with fail
   go_roundg gn
   case rel =>
    obtain ⟨r1, r2, r3, r4⟩ := row_set v O2.out B2.out (k := k) (by omega)
    exact ⟨k + 1, by omega, by omega, rfl, by go_num, ⟨by rw [← HS.out]; exact r1⟩, ⟨r2⟩, ⟨cell_grown P2.out r3 (fun e => by have e2 : p = g := Option.some.inj e; omega)⟩⟩
   case measure => omega
theorem run_copyRow {P : Program} (w : World) (dT sT ty elem : TypeId) (k g o dl dc sl sc : Nat) (a : Addr) (t : TypeId) (A M T cs : List Value)
  (hu : P.underlying dT = some (.slice elem)) (hs : (P.info? elem).map (·.size) = some k)
  (hg : w.heap[g]? = some (.cells (A ++ M ++ T).toArray t (0, 0))) (ho : A.length = o) (hM : M.length = cs.length) (hn : cs.length = Nat.min sl dl * k)
  (hsrc : ∀ j v, cs[j]? = some v → w.cell? (a.add j) = some v) (h1 : ∀ v ∈ cs, v.oneCell' = true) :
  (Builtin.copy_ #[dT, sT] ty #[.slice (some ⟨g, o, none⟩) dl dc, .slice (some a) sl sc]).run P w = .ok (goInt (Nat.min sl dl)) (w.setRow g (A ++ cs ++ T).toArray) := by
 have hl := run_loadCells_list (P := P) w a cs hsrc
 have hst := run_storeCells_at P g o t cs 0 _ w hg (by simp; omega) h1
 have e1 : (A ++ M ++ T).toArray.toList.take (o + 0) = A := by
  rw [Nat.add_zero, ← ho, List.append_assoc]
  exact List.take_left' rfl
 have e2 : (A ++ M ++ T).toArray.toList.drop (o + 0 + cs.length) = T := by
  rw [Nat.add_zero, ← ho, ← hM]
  exact List.drop_left' (by simp)
 rw [e1, e2] at hst
 cases hq : P.info? elem with
 | none => simp [hq] at hs
 | some i =>
  have hi : i.size = k := by simpa [hq] using hs
  rw [hn] at hl
  simp [Builtin.copy_, run_underlying hu, Builtin.lenOf, Builtin.firstCells, sizeOf, typeInfo, hq, hi, hl, hst]
theorem step_copyRow {P : Program} {ops : Array Oper} {o : Oper} {a : Act} {w : World} {K : Act → World → Prop} {Q : Exit → Act → World → Prop} {E : Prop}
  (hg : o.guard = none) (d x : Operand) (dT sT : TypeId) (hop : o.op = Op.call { callee := Callee.builtin Builtin.copy, args := #[d, x], argTypes := #[dT, sT] })
  (v u : Value) (hd : a.eval d = v) (hx : a.eval x = u) {m g : Nat} {arr : Array Value} (hr : ∀ ty, (Builtin.copy_ #[dT, sT] ty #[v, u]).run P w = .ok (goInt m) (w.setRow g arr)) (hK : ∀ w1, w1 = w.setRow g arr → K (a.put o.dst (goInt m)) w1) :
  if Region.wanted o (yielded ops a.tmps) = true then Oper.wp P o a w K Q else E := by
 have hw : Region.wanted o (yielded ops a.tmps) = true := by simp [Region.wanted, hg]
 rw [if_pos hw]
 unfold Oper.wp
 simp [execOp, hop, resolve, invoke, builtin, hd, hx, hr, Result.andThen]
 exact hK _ rfl
theorem infoV : (Tryz.prog.info? 87).map (·.size) = some 3 := by kernel_rfl
def insV (xs : List VS) (i : Nat) (s : VS) : List VS := xs.take i ++ s :: xs.drop i
theorem insV_len {xs : List VS} {i : Nat} {s : VS} (h : i ≤ xs.length) : (insV xs i s).length = xs.length + 1 := by
 unfold insV
 rw [List.length_append, List.length_cons, List.length_take, List.length_drop]
 omega
theorem encV_one (s : VS) : ∀ u ∈ encV s, u.oneCell' = true := fun u h => by simp [encV] at h; rcases h with rfl | rfl | rfl <;> rfl
theorem own_row {w : World} {B g n cap : Nat} {xs : List VS} (h : kV.R 87 w B (fun _ => True) (.slice (some ⟨g, 0, none⟩) n cap) xs) : ∃ T : List Value, w.heap[g]? = some (.cells (flatNews encV xs ++ T).toArray 87 (0, 0)) ∧ n = xs.length ∧ T.length = (cap - n) * 3 ∧ n ≤ cap ∧ cap ≤ maxLen ∧ B ≤ g := by
 have hn : n = xs.length := (Kd.R_reads' h).1
 obtain ⟨hl, ho⟩ := own_flat h
 rcases ho with ⟨hv, _⟩ | ⟨g', cap', cur, hv, hb, hh, hnc, hcm, hcs, htk⟩
 ·cases hv
 ·injection hv with ha hb' hc'
  injection ha with ha
  injection ha with ha
  subst ha
  subst hc'
  refine ⟨cur.toList.drop (xs.length * 3), ?_, hn, ?_, by omega, hcm, hb⟩
  ·rw [← htk, List.take_append_drop, Array.toArray_toList]; exact hh
  ·rw [List.length_drop, Array.length_toList, hcs, hn, Nat.sub_mul]
theorem row_own {w : World} {B g cap : Nat} {xs : List VS} {T : List Value} (hh : w.heap[g]? = some (.cells (flatNews encV xs ++ T).toArray 87 (0, 0))) (hB : B ≤ g) (hT : T.length = (cap - xs.length) * 3) (hc : xs.length ≤ cap) (hm : cap ≤ maxLen) : kV.R 87 w B (fun _ => True) (.slice (some ⟨g, 0, none⟩) xs.length cap) xs := by
 refine flat_R ⟨flatNews_len (sz := 3) (fun _ => rfl) xs, .inr ⟨g, cap, _, rfl, hB, hh, hc, hm, ?_, ?_⟩⟩
 ·simp only [List.size_toArray, List.length_append, flatNews_len (sz := 3) (enc := encV) (fun _ => rfl) xs, hT]
  rw [← Nat.add_mul]
  congr 1
  omega
 ·show (flatNews encV xs ++ T).take (xs.length * 3) = _
  exact List.take_left' (flatNews_len (sz := 3) (fun _ => rfl) xs)
theorem row_cells {w : World} {g : Nat} {X : List Value} (hh : w.heap[g]? = some (.cells X.toArray 87 (0, 0))) (o : Nat) (Y : List Value) (hY : ∀ j v, Y[j]? = some v → X[o + j]? = some v) : ∀ j v, Y[j]? = some v → w.cell? ((⟨g, o, none⟩ : Addr).add j) = some v := by
 intro j v hj
 rw [Addr.add_lit, cell_of_row w g _ _ 87 (0, 0) hh]
 simpa using hY j v hj
theorem ins_room (g n cap B vb i : Nat) (s : VS) (xs : List VS) (w : World) (hO : kV.R 87 w B (fun _ => True) (.slice (some ⟨g, 0, none⟩) n cap) xs) (hB : B ≤ w.heap.size) (hv : w.heap[vb]? = some (.cells (encV s).toArray 87 (0, 0))) (hne : vb ≠ g) (hi : i < n) (hroom : n + 1 ≤ cap) (hl : n ≤ 64) :
  Calls Tryz.prog 194 #[.slice (some ⟨g, 0, none⟩) n cap, .int .i64 i, .slice (some ⟨vb, 0, none⟩) 1 1] w (DelPost B (insV xs i s) w) := by
 obtain ⟨T, hrow, hn, hT, hnc, hcm, hBg⟩ := own_row hO
 have hDl : (flatNews encV (xs.drop i)).length = (n - i) * 3 := by rw [flatNews_len (sz := 3) (fun _ => rfl), List.length_drop, ← hn]
 have hAl : (flatNews encV (xs.take i)).length = i * 3 := by rw [flatNews_len (sz := 3) (fun _ => rfl), List.length_take, ← hn, Nat.min_eq_left (by omega)]
 have hsplit : flatNews encV xs ++ T = flatNews encV (xs.take i) ++ (flatNews encV (xs.drop i) ++ T) := by rw [← List.append_assoc, ← flatNews_append, List.take_append_drop]
 rw [hsplit] at hrow
 have hone := flatNews_one (enc := encV) encV_one (xs.drop i)
 obtain ⟨A, hA⟩ : ∃ A, A = flatNews encV (xs.take i) := ⟨_, rfl⟩
 obtain ⟨D, hD⟩ : ∃ D, D = flatNews encV (xs.drop i) := ⟨_, rfl⟩
 rw [← hA] at hrow hAl
 rw [← hD] at hrow hDl hone
 have hLl : (D ++ T).length = (cap - i) * 3 := by rw [List.length_append, hDl, hT, ← Nat.add_mul]; congr 1; omega
 have h3 : (n - i) * 3 + 3 ≤ (cap - i) * 3 := by rw [← Nat.succ_mul]; exact Nat.mul_le_mul_right _ (by omega)
 obtain ⟨E, D', T', hL, hEl, hD'l, hT'⟩ : ∃ E D' T' : List Value, D ++ T = E ++ D' ++ T' ∧ E.length = 3 ∧ D'.length = D.length ∧ T'.length = (cap - (n + 1)) * 3 := by
  refine ⟨(D ++ T).take 3, ((D ++ T).drop 3).take D.length, ((D ++ T).drop 3).drop D.length, ?_, ?_, ?_, ?_⟩
  ·rw [List.append_assoc, List.take_append_drop, List.take_append_drop]
  ·rw [List.length_take, hLl]; omega
  ·rw [List.length_take, List.length_drop, hLl, hDl]; omega
  ·rw [List.length_drop, List.length_drop, hLl, hDl]; omega
 have hcp1 := ak_ (fun (W : World) (hW : W.heap[g]? = some (.cells (A ++ (D ++ T)).toArray 87 (0, 0))) (dl dc sl sc : Nat) (hmin : Nat.min sl dl = n - i) (ty : TypeId) =>
  run_copyRow (P := Tryz.prog) W 26 26 ty 87 3 g ((i + 1) * 3) dl dc sl sc ⟨g, i * 3, none⟩ 87 (A ++ E) D' T' D Tryz.underlying26 infoV (by rw [hW, hL]; simp [List.append_assoc]) (by rw [List.length_append, hAl, hEl, Nat.succ_mul]) hD'l (by rw [hmin, hDl])
   (row_cells hW _ _ (fun j v hj => by rw [List.getElem?_append_right (by omega), hAl, Nat.add_sub_cancel_left, List.getElem?_append_left (List.getElem?_eq_some_iff.1 hj).1]; exact hj)) hone)
 have hcp2 := ak_ (fun (W : World) (hW : W.heap[g]? = some (.cells ((A ++ E) ++ D ++ T').toArray 87 (0, 0))) (hV : W.heap[vb]? = some (.cells (encV s).toArray 87 (0, 0))) (dl dc : Nat) (hdl : 1 ≤ dl) (ty : TypeId) =>
  run_copyRow (P := Tryz.prog) W 26 26 ty 87 3 g (i * 3) dl dc 1 1 ⟨vb, 0, none⟩ 87 A E (D ++ T') (encV s) Tryz.underlying26 infoV (by rw [hW]; simp [List.append_assoc]) hAl hEl (by rw [show Nat.min 1 dl = 1 from Nat.min_eq_left hdl]; rfl)
   (row_cells hV _ _ (fun j v hj => by rw [Nat.zero_add]; exact hj)) (encV_one s))
 have hend := ak_ (fun (W : World) (hW : W.heap[g]? = some (.cells (A ++ encV s ++ (D ++ T')).toArray 87 (0, 0))) => row_own (w := W) (B := B) (g := g) (cap := cap) (xs := insV xs i s) (T := T') (by
   rw [hW]
   unfold insV
   rw [flatNews_append, flatNews, ← hA, ← hD]
   simp [List.append_assoc]) hBg (by rw [insV_len (by omega), ← hn, hT']) (by rw [insV_len (by omega), ← hn]; omega) hcm)
 have hlen := insV_len (xs := xs) (i := i) (s := s) (by omega)
 rw [← hn] at hlen
 have hov : ∀ (W : World) (hW : W.heap[g]? = some (.cells (A ++ (D ++ T)).toArray 87 (0, 0))) (hV : W.heap[vb]? = some (.cells (encV s).toArray 87 (0, 0))) (o lb cb : Nat), (callFunc 212 #[.slice (some ⟨vb, 0, none⟩) 1 1, .slice (some ⟨g, o, none⟩) lb cb]).run Tryz.prog W = .ok (.value (.bool false)) W := by
  intro W hW hV o lb cb
  rw [run_callFunc_extern Tryz.func212 (by kernel_rfl) (by kernel_rfl) (by kernel_rfl) (e := Extern.SlicesOverlaps.overlaps #[26, 26] #[4]) (by kernel_rfl),
   Lib.run_overlaps_apart W 26 4 87 Tryz.underlying26 3 (fun w => by kernel_rfl) ⟨vb, 0, none⟩ ⟨g, o, none⟩ 1 1 lb cb hne 87 87 3 (A ++ (D ++ T)).length (by simp [World.shape?, hV, encV]) (by simp [World.shape?, hW]) (by rw [List.length_append, hLl]; omega) (blk_frozen hV 0) (blk_frozen hV 3)]
  rfl
 subst hn
 have hov1 := hov w hrow hv
 have HW := ak_ hrow
 have HV := ak_ hv
 have hnI : (xs.length : Int) ≤ 64 := by omega
 have hiI : ¬ ((i : Int) = (xs.length : Int)) := by omega
 have hcI : ¬ ((cap : Int) < (xs.length : Int) + 1) := by omega
 have hu26 := Tryz.underlying26
 have hm1 : (cap : Int) ≤ 9223372036854775807 := by unfold maxLen at hcm; omega
 have hb1 : (0 : Int) ≤ (i : Int) + 1 := by omega
 have htn : ((i : Int) + 1).toNat = i + 1 := by omega
 have hb2 : ¬ (cap = i + 1) := by omega
 have hb4 : ¬ (cap = i) := by omega
 have hb5 : (i : Int) + 1 ≤ (xs.length : Int) + 1 := by omega
 have hb6 : (i : Int) ≤ (xs.length : Int) + 1 := by omega
 have hmn := ak_ (show Nat.min (xs.length + 1 - i) (xs.length + 1 - (i + 1)) = xs.length - i by simp only [Nat.min_def]; split <;> omega)
 have hw1 : IntKind.i64.wrap ((i : Int) + 1) = (i : Int) + 1 := by rw [IntKind.wrap_i64]; omega
 clear hov hO hrow hv hA hD hsplit hone hLl hL hT hT' hAl hDl hEl hD'l
 go_enter Tryz.func194, Tryz.ntmps194
 go_wp2_with (simp only [hov1])
 clear hov1
 go_region_law (refine step_copyRow rfl (.tmp 73) (.tmp 76) 26 26 rfl (.slice (some ⟨g, (i + 1) * 3, none⟩) (xs.length + 1 - (i + 1)) (cap - (i + 1))) (.slice (some ⟨g, i * 3, none⟩) (xs.length + 1 - i) (cap - i)) (by simp [Act.eval, Act.put]) (by simp [Act.eval, Act.put]) (hcp1.out w.drew HW.out _ _ _ _ hmn.out) ?_; intro w1 hw1; have R1 := ak_ (setRow_heap w.drew g _ (A ++ E ++ D ++ T').toArray 87 (0, 0) HW.out); rw [← hw1] at R1; have V1 := ak_ ((setRow_other w.drew g vb (A ++ E ++ D ++ T').toArray hne).trans HV.out); rw [← hw1] at V1; have B1 := ak_ (below_setRow (below_drew (Below.refl B w)) hBg (A ++ E ++ D ++ T').toArray); rw [← hw1] at B1; clear hw1)
 have hcq := hcp2.out w1 R1.out V1.out (xs.length + 1 - i) (cap - i) (by omega) 3
 obtain ⟨w2, hw2⟩ : ∃ w2, w2 = w1.setRow g (A ++ encV s ++ (D ++ T')).toArray := ⟨_, rfl⟩
 have R2 := ak_ (setRow_heap w1 g _ (A ++ encV s ++ (D ++ T')).toArray 87 (0, 0) R1.out)
 rw [← hw2] at R2 hcq
 have B2 := ak_ (below_setRow B1.out hBg (A ++ encV s ++ (D ++ T')).toArray)
 rw [← hw2] at B2
 clear hw2
 go_wp2_with fail
 go_ret
 have := hend.out w2 R2.out
 rw [hlen] at this
 exact ⟨_, rfl, this, B2.out⟩
theorem zeroCells_len (z : Value) (hz : z.cells.size = 3) (k : Nat) : (Builtin.zeroCells z.cells k).toList.length = k * 3 := by
 rw [Array.length_toList, size_zeroCells, hz]
theorem ins_grow (g n cap B vb i : Nat) (s : VS) (xs : List VS) (w : World) (hO : kV.R 87 w B (fun _ => True) (.slice (some ⟨g, 0, none⟩) n cap) xs) (hB : B ≤ w.heap.size) (hv : w.heap[vb]? = some (.cells (encV s).toArray 87 (0, 0))) (hne : vb ≠ g) (hi : i < n) (hroom : cap < n + 1) (hl : n ≤ 64) :
    Calls Tryz.prog 194 #[.slice (some ⟨g, 0, none⟩) n cap, .int .i64 i, .slice (some ⟨vb, 0, none⟩) 1 1] w (DelPost B (insV xs i s) w) := by
  obtain ⟨T, hrow, hn, hT, hnc, hcm, hBg⟩ := own_row hO
  have hcn : cap = n := by omega
  subst hcn
  obtain ⟨i0, hi0, hzz⟩ := Option.map_eq_some_iff.1 infoC87
  simp only [Prod.mk.injEq] at hzz
  obtain ⟨hz0, hz1, hz2⟩ := hzz
  have hgw : g < w.heap.size := (Array.getElem?_eq_some_iff.1 hrow).1
  have hvw : vb < w.heap.size := (Array.getElem?_eq_some_iff.1 hv).1
  subst hn
  have hDl : (flatNews encV (xs.drop i)).length = (xs.length - i) * 3 := by rw [flatNews_len (sz := 3) (fun _ => rfl), List.length_drop]
  have hAl : (flatNews encV (xs.take i)).length = i * 3 := by rw [flatNews_len (sz := 3) (fun _ => rfl), List.length_take, Nat.min_eq_left (by omega)]
  have hsplit : flatNews encV xs ++ T = flatNews encV (xs.take i) ++ (flatNews encV (xs.drop i) ++ T) := by rw [← List.append_assoc, ← flatNews_append, List.take_append_drop]
  rw [hsplit] at hrow
  have hone := flatNews_one (enc := encV) encV_one (xs.drop i)
  obtain ⟨A, hA⟩ : ∃ A, A = flatNews encV (xs.take i) := ⟨_, rfl⟩
  obtain ⟨D, hD⟩ : ∃ D, D = flatNews encV (xs.drop i) := ⟨_, rfl⟩
  rw [← hA] at hrow hAl
  rw [← hD] at hrow hDl hone
  have hik : i + (xs.length + 1 - i) = xs.length + 1 := by omega
  have hkk : (xs.length : Int) + 1 - (i : Int) = ((xs.length + 1 - i : Nat) : Int) := by omega
  have hold : (Builtin.firstCells i0.size i (.slice (some ⟨g, 0, none⟩) i xs.length)).run Tryz.prog w.drew = .ok A.toArray w.drew := by
    rw [hz1]
    exact run_firstCells_some w.drew 3 i ⟨g, 0, none⟩ i xs.length A hAl (row_cells (w := w.drew) hrow 0 A (fun j v hj => by rw [Nat.zero_add, List.getElem?_append_left (List.getElem?_eq_some_iff.1 hj).1]; exact hj))
  have hrz := Lib.run_append_grow_zeros w 26 3 26 87 i0 _ .i64 .i64 Tryz.underlying26 Tryz.underlying3 hi0 hz0 (some ⟨g, 0, none⟩) i xs.length A hold (xs.length + 1 - i) (by omega) (by omega) (by omega) (by omega) (by rw [hz2]; omega) (by rw [hz2, hik]; exact growslice_fits hroom (by omega))
  rw [hik, ← hkk] at hrz
  have hGn := grownCap_ge w (xs.length + 1) xs.length 87
  have hGm := grownCap_le_maxLen w (xs.length + 1) xs.length 87 (by unfold maxLen; omega)
  obtain ⟨G, hG⟩ : ∃ G, G = grownCap w (xs.length + 1) xs.length 87 := ⟨_, rfl⟩
  rw [← hG] at hrz hGn hGm
  obtain ⟨Z, hZ⟩ : ∃ Z, Z = (Builtin.zeroCells (Value.agg #[.int .i64 0, .int .i64 0, .slice none 0 0]).cells (xs.length + 1 - i)).toList := ⟨_, rfl⟩
  obtain ⟨U, hU⟩ : ∃ U, U = (Builtin.zeroCells (Value.agg #[.int .i64 0, .int .i64 0, .slice none 0 0]).cells (G - (xs.length + 1))).toList := ⟨_, rfl⟩
  have hZl := zeroCells_len (Value.agg #[.int .i64 0, .int .i64 0, .slice none 0 0]) rfl (xs.length + 1 - i)
  have hUl := zeroCells_len (Value.agg #[.int .i64 0, .int .i64 0, .slice none 0 0]) rfl (G - (xs.length + 1))
  rw [← hZ] at hZl
  rw [← hU] at hUl
  rw [show A.toArray ++ Builtin.zeroCells (Value.agg #[.int .i64 0, .int .i64 0, .slice none 0 0]).cells (xs.length + 1 - i) ++ Builtin.zeroCells (Value.agg #[.int .i64 0, .int .i64 0, .slice none 0 0]).cells (G - (xs.length + 1)) = (A ++ Z ++ U).toArray by rw [hZ, hU]; simp] at hrz
  obtain ⟨h, hh⟩ : ∃ h, h = w.heap.size := ⟨_, rfl⟩
  have hrow1 : (w.drew.alloc (.cells (A ++ Z ++ U).toArray 87)).heap[h]? = some (.cells (A ++ Z ++ U).toArray 87 (0, 0)) := by rw [hh]; exact heap_alloc_new w.drew _
  have hg1 : (w.drew.alloc (.cells (A ++ Z ++ U).toArray 87)).heap[g]? = some (.cells (A ++ (D ++ T)).toArray 87 (0, 0)) := by rw [← hrow]; exact Below.heap_alloc w.drew _ g hgw
  have hv1 : (w.drew.alloc (.cells (A ++ Z ++ U).toArray 87)).heap[vb]? = some (.cells (encV s).toArray 87 (0, 0)) := by rw [← hv]; exact Below.heap_alloc w.drew _ vb hvw
  have hb1' : Below B w (w.drew.alloc (.cells (A ++ Z ++ U).toArray 87)) := (below_drew (Below.refl B w)).alloc hB _
  obtain ⟨w1, hw1'⟩ : ∃ w1, w1 = w.drew.alloc (.cells (A ++ Z ++ U).toArray 87) := ⟨_, rfl⟩
  rw [← hw1'] at hrow1 hg1 hv1 hb1' hrz
  rw [← hh] at hrz
  have hZ3 : Z = Z.take 3 ++ Z.drop 3 := (List.take_append_drop 3 Z).symm
  have hz3 : (Z.take 3).length = 3 := by rw [List.length_take, hZl]; omega
  have hz4 : (Z.drop 3).length = (xs.length - i) * 3 := by rw [List.length_drop, hZl]; omega
  have hBh : B ≤ h := by omega
  have hZe : A ++ Z ++ U = A ++ Z.take 3 ++ (Z.drop 3 ++ U) := by rw [List.append_assoc, List.append_assoc, ← List.append_assoc (Z.take 3), List.take_append_drop]
  have hcp1 := run_copyRow (P := Tryz.prog) w1 26 26 3 87 3 h (i * 3) (xs.length + 1 - i) (G - i) 1 1 ⟨vb, 0, none⟩ 87 A (Z.take 3) (Z.drop 3 ++ U) (encV s) Tryz.underlying26 infoV (by rw [hrow1, hZe]) hAl hz3 (by rw [show Nat.min 1 (xs.length + 1 - i) = 1 from Nat.min_eq_left (by omega)]; rfl)
      (row_cells hv1 _ _ (fun j v hj => by rw [Nat.zero_add]; exact hj)) (encV_one s)
  have hrow2 := setRow_heap w1 h _ (A ++ encV s ++ (Z.drop 3 ++ U)).toArray 87 (0, 0) hrow1
  have hg2 := (setRow_other w1 h g (A ++ encV s ++ (Z.drop 3 ++ U)).toArray (by omega)).trans hg1
  have hb2' := below_setRow hb1' hBh (A ++ encV s ++ (Z.drop 3 ++ U)).toArray
  obtain ⟨w2, hw2'⟩ : ∃ w2, w2 = w1.setRow h (A ++ encV s ++ (Z.drop 3 ++ U)).toArray := ⟨_, rfl⟩
  rw [← hw2'] at hrow2 hg2 hb2' hcp1
  have hmn : Nat.min (xs.length - i) (xs.length + 1 - (i + 1)) = xs.length - i := by simp only [Nat.min_def]; split <;> omega
  have hcp2 := ak_ (fun ty => run_copyRow (P := Tryz.prog) w2.drew 26 26 ty 87 3 h ((i + 1) * 3) (xs.length + 1 - (i + 1)) (G - (i + 1)) (xs.length - i) (xs.length - i) ⟨g, i * 3, none⟩ 87 (A ++ encV s) (Z.drop 3) U D Tryz.underlying26 infoV (show w2.heap[h]? = _ by rw [hrow2]; simp [List.append_assoc])
      (by rw [List.length_append, hAl]; show i * 3 + 3 = _; rw [Nat.succ_mul]) (by rw [hz4, hDl]) (by rw [hmn, hDl])
      (row_cells (w := w2.drew) hg2 _ _ (fun j v hj => by rw [List.getElem?_append_right (by omega), hAl, Nat.add_sub_cancel_left, List.getElem?_append_left (List.getElem?_eq_some_iff.1 hj).1]; exact hj)) hone)
  have hrow3 := setRow_heap w2.drew h _ (A ++ encV s ++ D ++ U).toArray 87 (0, 0) hrow2
  have hb3' := below_setRow (below_drew hb2') hBh (A ++ encV s ++ D ++ U).toArray
  have hlen := insV_len (xs := xs) (i := i) (s := s) (by omega)
  have hend := row_own (w := w2.drew.setRow h (A ++ encV s ++ D ++ U).toArray) (B := B) (g := h) (cap := G) (xs := insV xs i s) (T := U) (by
      rw [hrow3]
      unfold insV
      rw [flatNews_append, flatNews, ← hA, ← hD]
      simp [List.append_assoc]) hBh (by rw [hlen, hUl]) (by rw [hlen]; exact hGn) hGm
  rw [hlen] at hend
  have HE := ak_ hend
  have HB := ak_ hb3'
  have hnI : (xs.length : Int) ≤ 64 := by omega
  have hiI : ¬ ((i : Int) = (xs.length : Int)) := by omega
  have hcI : (xs.length : Int) < (xs.length : Int) + 1 := by omega
  have hu26 := Tryz.underlying26
  have hm1 : (G : Int) ≤ 9223372036854775807 := by unfold maxLen at hGm; omega
  have hb1 : (0 : Int) ≤ (i : Int) + 1 := by omega
  have htn : ((i : Int) + 1).toNat = i + 1 := by omega
  have hb2 : ¬ (G = i + 1) := by omega
  have hb4 : ¬ (G = i) := by omega
  have hb5 : (i : Int) + 1 ≤ (xs.length : Int) + 1 := by omega
  have hb6 : (i : Int) ≤ (xs.length : Int) + 1 := by omega
  have hb7 : ¬ (xs.length = i) := by omega
  have hb8 : i ≤ xs.length := by omega
  have hw1 : IntKind.i64.wrap ((i : Int) + 1) = (i : Int) + 1 := by rw [IntKind.wrap_i64]; omega
  clear hZe hO hrow hv hA hD hsplit hone hT hz0 hz1 hz2 hold hG hZ hU hZl hUl hZ3 hz3 hz4 hrow1 hg1 hv1 hb1' hrow2 hg2 hb2' hrow3 hb3' hend hAl hDl hi0 hw1' hw2' hkk hik hh
  go_enter Tryz.func194, Tryz.ntmps194
  go_wp2_with (at_builtin; refine Lib.wpList_append_run _ rfl _ _ _ _ rfl _ _ rfl rfl _ _ hrz ?_)
  go_region_law (refine step_copyRow rfl (.tmp 50) (.tmp 53) 26 26 rfl (.slice (some ⟨h, (i + 1) * 3, none⟩) (xs.length + 1 - (i + 1)) (G - (i + 1))) (.slice (some ⟨g, i * 3, none⟩) (xs.length - i) (xs.length - i)) (by simp [Act.eval, Act.put]) (by simp [Act.eval, Act.put]) hcp2.out ?_; intro w3 hw3; rw [← hw3] at HE HB; clear hw3)
  go_wp2
  go_ret
  exact ⟨_, rfl, HE.out, HB.out⟩
theorem ins_end (n B vb : Nat) (v : Value) (s : VS) (xs : List VS) (w : World) (hO : kV.R 87 w B (fun _ => True) v xs) (hB : B ≤ w.heap.size) (hv : w.heap[vb]? = some (.cells (encV s).toArray 87 (0, 0))) (hn : n = xs.length) (hl : n ≤ 64) :
  Calls Tryz.prog 194 #[v, .int .i64 n, .slice (some ⟨vb, 0, none⟩) 1 1] w (DelPost B (xs ++ [s]) w) := by
 subst hn
 obtain ⟨A, c, rfl⟩ := Kd.R_slice hO
 obtain ⟨i0, hi, hzz⟩ := Option.map_eq_some_iff.1 infoC87
 simp only [Prod.mk.injEq] at hzz
 obtain ⟨hz0, hz1, hz2⟩ := hzz
 have hown := own_flat hO
 have HO := ak_ hown
 have hbk := ak_ (fun k hk => Kd.R_base hO k hk)
 have hu26 := Tryz.underlying26
 have HN := ak_ (row_cells hv 0 (encV s) (fun j v hj => by rw [Nat.zero_add]; exact hj))
 have hnI : (xs.length : Int) ≤ 64 := by omega
 clear hO hown hv
 rcases (show c = xs.length ∨ ¬ c = xs.length by omega) with hcc | hcc
 all_goals
  go_enter Tryz.func194, Tryz.ntmps194
  go_wp2_with (at_builtin; refine wpList_append_own _ rfl _ _ 26 rfl B 87 i0 (.agg #[.int .i64 0, .int .i64 0, .slice none 0 0]) 3 40 Tryz.underlying26 hi hz0 hz1 hz2 rfl (by omega) _ _ _ rfl HO.out ⟨vb, 0, none⟩ 1 1 (encV s) rfl rfl HN.out (encV_one s) ?qc4 ?qc5 hB ?_)
  case qc4 => simp only [maxLen]; omega
  case qc5 => omega
  intro v' w1 hown hgrow hnil
  have HO1 := ak_ hown
  have HB := ak_ ((Below.refl B w).grown hgrow hB (fun k hk => hbk.out k (by first | exact hk | (rw [hcc]; exact hk))))
  clear hown hgrow hnil
  go_wp2
  go_ret
  exact ⟨v', rfl, flat_R (by have := HO1.out; rw [flatNews_append]; simpa [flatNews] using this), HB.out⟩
theorem ins194 (n B vb i : Nat) (v : Value) (s : VS) (xs : List VS) (w : World) (hO : kV.R 87 w B (fun _ => True) v xs) (hB : B ≤ w.heap.size) (hv : w.heap[vb]? = some (.cells (encV s).toArray 87 (0, 0))) (hne : ∀ k, v.ownBlock = some k → vb ≠ k) (hi : i ≤ xs.length) (hl : xs.length ≤ 64) :
  Calls Tryz.prog 194 #[v, .int .i64 i, .slice (some ⟨vb, 0, none⟩) 1 1] w (DelPost B (insV xs i s) w) := by
 rcases Nat.lt_or_ge i xs.length with h | h
 ·obtain ⟨g, cap, cur, rfl, hnc, hBg, hgw, hC, hcur⟩ := R_own2 hO xs.length rfl (by omega)
  have hne' : vb ≠ g := hne g rfl
  rcases Nat.lt_or_ge cap (xs.length + 1) with hc | hc
  ·exact ins_grow g xs.length cap B vb i s xs w hO hB hv hne' h hc hl
  ·exact ins_room g xs.length cap B vb i s xs w hO hB hv hne' h hc hl
 ·have : insV xs i s = xs ++ [s] := by unfold insV; rw [List.take_of_length_le h, List.drop_of_length_le h]
  rw [this, show i = xs.length by omega]
  exact ins_end xs.length B vb v s xs w hO hB hv rfl hl
end Go.Proofs.YtoimfknjfeencaaGreatDoor.Hand
end
