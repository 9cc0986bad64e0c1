/- The machine side of the package cell, second text: access, and Load, Add, Swap and Cas over it. No conditions beyond each statement. -/
import Derived.Test.YtdecbngdmnmokaaHand
import Derived.Laws.CopyOwn
namespace Go.Proofs.Ytdecbngdmnmokaa.Hand
open Go.RowKit Go.Proofs.YtdecbngdmnmokaaW.PrintWords Go.Proofs.YtdecbngdmnmokaaW.PrintLast Go.Proofs.YtdecbngdmnmokaaW.PrintMore
set_option linter.unusedVariables false
set_option linter.unusedSimpArgs false

set_option maxHeartbeats 1000000 in
set_option maxRecDepth 100000 in
theorem access_int_bad (A : Option Addr) (c : Nat) (l : List S44) (at_ : Int) (fv : Value) (w : World) (hC0 : Kd.C k44 w A l.length l) (hc0 : l.length ≤ c) (hbad : okMem l = false) :
    Calls Try.prog 20 #[.slice A l.length c, .int .i64 at_, fv] w fun e w' => e = .returned (.tuple #[.slice none 0 0, .int .i64 0, .int .i64 1]) ∧ Below w.heap.size w w' := by
  have HC := Aside0.mk hC0
  have HO := Aside0.mk hbad
  clear hC0 hbad
  go_enter Try.func20, Try.ntmps20
  go_wp2_with (go_at_call 13; refine (Right_any A c l _ HC.out hc0).mono ?_; rw [HO.out]; rintro e w2 ⟨rfl, hb⟩)
  go_ret3
  exact ⟨rfl, hb⟩

set_option maxHeartbeats 1000000 in
set_option maxRecDepth 100000 in
theorem access_int_out (A : Option Addr) (c : Nat) (l : List S44) (at_ : Int) (fv : Value) (w : World) (hC0 : Kd.C k44 w A l.length l) (hc0 : l.length ≤ c) (hok : okMem l = true) (hr : ¬ (0 ≤ at_ ∧ at_ < l.length)) :
    Calls Try.prog 20 #[.slice A l.length c, .int .i64 at_, fv] w fun e w' => e = .returned (.tuple #[.slice none 0 0, .int .i64 0, .int .i64 3]) ∧ Below w.heap.size w w' := by
  have HC := Aside0.mk hC0
  have HO := Aside0.mk hok
  clear hC0 hok
  by_cases hn : at_ < 0
  · clear hr
    go_enter Try.func20, Try.ntmps20
    go_wp2_with (go_at_call 13; refine (Right_any A c l _ HC.out hc0).mono ?_; rw [HO.out]; rintro e w2 ⟨rfl, hb⟩)
    go_ret3
    exact ⟨rfl, hb⟩
  · have hg : at_ ≥ (l.length : Int) := by omega
    clear hr
    go_enter Try.func20, Try.ntmps20
    go_wp2_with (go_at_call 13; refine (Right_any A c l _ HC.out hc0).mono ?_; rw [HO.out]; rintro e w2 ⟨rfl, hb⟩)
    go_ret3
    exact ⟨rfl, hb⟩

set_option maxHeartbeats 1000000 in
set_option maxRecDepth 100000 in
theorem access_int_ok (f : Nat) (cap : Array Value) (told nv : Int → Int → Int) (A : Option Addr) (c : Nat) (l : List S44) (i : Nat) (w : World) (hC0 : Kd.C k44 w A l.length l) (hc0 : l.length ≤ c) (hok : okMem l = true) (hi : i < l.length) (k x : Int) (hkx : l.getD i z44 = ⟨k, x⟩) (hff : f = 21 ∨ f = 23 ∨ f = 28)
    (hf : Does f cap w.heap.size w (fun k x => .int .i64 (told k x)) nv) :
    Calls Try.prog 20 #[.slice A l.length c, .int .i64 i, .func (.func f) #[] cap] w fun e w' => ∃ v, e = .returned (.tuple #[v, .int .i64 (told k x), .int .i64 0]) ∧ Kd.R k44 44 w' w.heap.size (fun _ => True) v (l.set i ⟨k, nv k x⟩) ∧ Below w.heap.size w w' := by
  have HC := Aside0.mk hC0
  have HO := Aside0.mk hok
  have h64 : l.length ≤ 64 := by unfold okMem at hok; rw [Bool.and_eq_true] at hok; exact of_decide_eq_true hok.1
  obtain ⟨i44, hi44, hz44⟩ := Option.map_eq_some_iff.1 info44
  simp only [Prod.mk.injEq] at hz44
  clear hC0 hok
  have hn1 : ¬ ((i : Int) < 0) := by omega
  have hn2 : ¬ ((i : Int) ≥ (l.length : Int)) := by omega
  obtain ⟨cur, hcur⟩ : ∃ cur, cur = madeCells #[Value.int IntKind.i64 0, Value.int IntKind.i64 0] (l.length * 2) := ⟨_, rfl⟩
  have hcs : cur.size = 2 * l.length := by rw [hcur, size_madeCells]; omega
  have hmk : ∀ W : World, (Instr.makeSlice 22 (.int .i64 (l.length : Int)) (.int .i64 (l.length : Int))).run Try.prog W = .ok (.slice (some ⟨W.heap.size, 0, none⟩) l.length l.length) (W.alloc (.cells cur 44)) := by
    intro W
    have h := run_make (P := Try.prog) W 22 44 i44 _ Try.underlying22 hi44 hz44.1 .i64 .i64 (l.length : Int) (l.length : Int) (by omega) (by omega) (by rw [hz44.2.2]; omega) (by omega)
    simp only [Int.toNat_natCast, hz44.2.1] at h
    rw [h, hcur]
    rfl
  clear hcur
  go_enter Try.func20, Try.ntmps20
  go_wp2_with fail
  refine (Right_any A c l _ HC.out hc0).mono ?_
  rw [HO.out]
  rintro e w2 ⟨rfl, hb⟩
  obtain ⟨ad, rfl, hcells⟩ := cells_of (Kd.C_below HC.out hb) (by omega)
  have hblk : (w2.alloc (.cells cur 44)).heap[w2.heap.size]? = some (.cells cur 44 (0, 0)) := blk_new w2 _
  have hcp := run_copy2 (P := Try.prog) (w2.alloc (.cells cur 44)) 22 22 3 44 w2.heap.size l.length l.length c ad cur 44 (flat l) Try.underlying22 (by rw [hi44]; simp [hz44.2.1]) hblk (flat_len l) hcs (fun j u hj => pw_cell_below (below_alloc (Below.refl _ _) _) (hcells j u hj)) (flat_one l)
  clear hblk hcells hcs
  have hlt : w.heap.size ≤ w2.heap.size := hb.size
  have hblk2 : ((w2.alloc (.cells cur 44)).setRow w2.heap.size (flat l).toArray).heap[w2.heap.size]? = some (.cells (flat l).toArray 44 (0, 0)) := setRow_heap _ _ _ _ _ _ (blk_new w2 _)
  have hbel : Below w.heap.size w ((w2.alloc (.cells cur 44)).setRow w2.heap.size (flat l).toArray) := below_setRow (below_alloc hb _) hlt _
  have hcl := hf _ w2.heap.size (i * 2) (flat l).toArray _ _ hbel hlt hblk2 (by rw [List.getElem?_toArray, Nat.mul_comm]; rw [flat_0 l i hi, hkx]) (by rw [List.getElem?_toArray, Nat.mul_comm]; rw [flat_1 l i hi, hkx])
  have HCL := Aside0.mk hcl
  have HX := Aside0.mk hkx
  clear hkx
  have HBL := Aside0.mk hbel
  clear hcl hbel hblk2 hf
  rcases hff with rfl | rfl | rfl
  all_goals
    go_wp2_with fail
    refine HCL.out.mono ?_
    rintro e w3 ⟨rfl, h3, hb3⟩
    have H3 := Aside0.mk h3
    clear h3
    go_wp2
    go_ret3
    refine ⟨_, rfl, ?_, HBL.out.trans (hb3.mono hlt)⟩
    have hs : ((flat l).toArray.setIfInBounds (i * 2 + 1) (.int .i64 (nv k x))) = (flat (l.set i ⟨k, nv k x⟩)).toArray := by
      rw [List.setIfInBounds_toArray, Nat.mul_comm, flat_set l i _ hi, HX.out]
    have h4 := own_flat (w := w3) (base := w.heap.size) (g := w2.heap.size) (l.set i ⟨k, nv k x⟩) (by rw [List.length_set]; exact h64) (by rw [← hs]; exact H3.out) hlt
    rw [List.length_set] at h4
    exact h4
set_option maxHeartbeats 1000000 in
set_option maxRecDepth 100000 in
theorem access_bool_bad (A : Option Addr) (c : Nat) (l : List S44) (at_ : Int) (fv : Value) (w : World) (hC0 : Kd.C k44 w A l.length l) (hc0 : l.length ≤ c) (hbad : okMem l = false) :
    Calls Try.prog 25 #[.slice A l.length c, .int .i64 at_, fv] w fun e w' => e = .returned (.tuple #[.slice none 0 0, .bool false, .int .i64 1]) ∧ Below w.heap.size w w' := by
  have HC := Aside0.mk hC0
  have HO := Aside0.mk hbad
  clear hC0 hbad
  go_enter Try.func25, Try.ntmps25
  go_wp2_with (go_at_call 13; refine (Right_any A c l _ HC.out hc0).mono ?_; rw [HO.out]; rintro e w2 ⟨rfl, hb⟩)
  go_ret3
  exact ⟨rfl, hb⟩

set_option maxHeartbeats 1000000 in
set_option maxRecDepth 100000 in
theorem access_bool_out (A : Option Addr) (c : Nat) (l : List S44) (at_ : Int) (fv : Value) (w : World) (hC0 : Kd.C k44 w A l.length l) (hc0 : l.length ≤ c) (hok : okMem l = true) (hr : ¬ (0 ≤ at_ ∧ at_ < l.length)) :
    Calls Try.prog 25 #[.slice A l.length c, .int .i64 at_, fv] w fun e w' => e = .returned (.tuple #[.slice none 0 0, .bool false, .int .i64 3]) ∧ Below w.heap.size w w' := by
  have HC := Aside0.mk hC0
  have HO := Aside0.mk hok
  clear hC0 hok
  by_cases hn : at_ < 0
  · clear hr
    go_enter Try.func25, Try.ntmps25
    go_wp2_with (go_at_call 13; refine (Right_any A c l _ HC.out hc0).mono ?_; rw [HO.out]; rintro e w2 ⟨rfl, hb⟩)
    go_ret3
    exact ⟨rfl, hb⟩
  · have hg : at_ ≥ (l.length : Int) := by omega
    clear hr
    go_enter Try.func25, Try.ntmps25
    go_wp2_with (go_at_call 13; refine (Right_any A c l _ HC.out hc0).mono ?_; rw [HO.out]; rintro e w2 ⟨rfl, hb⟩)
    go_ret3
    exact ⟨rfl, hb⟩

set_option maxHeartbeats 1000000 in
set_option maxRecDepth 100000 in
theorem access_bool_ok (f : Nat) (cap : Array Value) (told : Int → Int → Bool) (nv : Int → Int → Int) (A : Option Addr) (c : Nat) (l : List S44) (i : Nat) (w : World) (hC0 : Kd.C k44 w A l.length l) (hc0 : l.length ≤ c) (hok : okMem l = true) (hi : i < l.length) (k x : Int) (hkx : l.getD i z44 = ⟨k, x⟩) (hff : f = 26)
    (hf : Does f cap w.heap.size w (fun k x => .bool (told k x)) nv) :
    Calls Try.prog 25 #[.slice A l.length c, .int .i64 i, .func (.func f) #[] cap] w fun e w' => ∃ v, e = .returned (.tuple #[v, .bool (told k x), .int .i64 0]) ∧ Kd.R k44 44 w' w.heap.size (fun _ => True) v (l.set i ⟨k, nv k x⟩) ∧ Below w.heap.size w w' := by
  have HC := Aside0.mk hC0
  have HO := Aside0.mk hok
  have h64 : l.length ≤ 64 := by unfold okMem at hok; rw [Bool.and_eq_true] at hok; exact of_decide_eq_true hok.1
  obtain ⟨i44, hi44, hz44⟩ := Option.map_eq_some_iff.1 info44
  simp only [Prod.mk.injEq] at hz44
  clear hC0 hok
  have hn1 : ¬ ((i : Int) < 0) := by omega
  have hn2 : ¬ ((i : Int) ≥ (l.length : Int)) := by omega
  obtain ⟨cur, hcur⟩ : ∃ cur, cur = madeCells #[Value.int IntKind.i64 0, Value.int IntKind.i64 0] (l.length * 2) := ⟨_, rfl⟩
  have hcs : cur.size = 2 * l.length := by rw [hcur, size_madeCells]; omega
  have hmk : ∀ W : World, (Instr.makeSlice 22 (.int .i64 (l.length : Int)) (.int .i64 (l.length : Int))).run Try.prog W = .ok (.slice (some ⟨W.heap.size, 0, none⟩) l.length l.length) (W.alloc (.cells cur 44)) := by
    intro W
    have h := run_make (P := Try.prog) W 22 44 i44 _ Try.underlying22 hi44 hz44.1 .i64 .i64 (l.length : Int) (l.length : Int) (by omega) (by omega) (by rw [hz44.2.2]; omega) (by omega)
    simp only [Int.toNat_natCast, hz44.2.1] at h
    rw [h, hcur]
    rfl
  clear hcur
  go_enter Try.func25, Try.ntmps25
  go_wp2_with fail
  refine (Right_any A c l _ HC.out hc0).mono ?_
  rw [HO.out]
  rintro e w2 ⟨rfl, hb⟩
  obtain ⟨ad, rfl, hcells⟩ := cells_of (Kd.C_below HC.out hb) (by omega)
  have hblk : (w2.alloc (.cells cur 44)).heap[w2.heap.size]? = some (.cells cur 44 (0, 0)) := blk_new w2 _
  have hcp := run_copy2 (P := Try.prog) (w2.alloc (.cells cur 44)) 22 22 3 44 w2.heap.size l.length l.length c ad cur 44 (flat l) Try.underlying22 (by rw [hi44]; simp [hz44.2.1]) hblk (flat_len l) hcs (fun j u hj => pw_cell_below (below_alloc (Below.refl _ _) _) (hcells j u hj)) (flat_one l)
  clear hblk hcells hcs
  have hlt : w.heap.size ≤ w2.heap.size := hb.size
  have hblk2 : ((w2.alloc (.cells cur 44)).setRow w2.heap.size (flat l).toArray).heap[w2.heap.size]? = some (.cells (flat l).toArray 44 (0, 0)) := setRow_heap _ _ _ _ _ _ (blk_new w2 _)
  have hbel : Below w.heap.size w ((w2.alloc (.cells cur 44)).setRow w2.heap.size (flat l).toArray) := below_setRow (below_alloc hb _) hlt _
  have hcl := hf _ w2.heap.size (i * 2) (flat l).toArray _ _ hbel hlt hblk2 (by rw [List.getElem?_toArray, Nat.mul_comm]; rw [flat_0 l i hi, hkx]) (by rw [List.getElem?_toArray, Nat.mul_comm]; rw [flat_1 l i hi, hkx])
  have HCL := Aside0.mk hcl
  have HX := Aside0.mk hkx
  clear hkx
  have HBL := Aside0.mk hbel
  clear hcl hbel hblk2 hf
  subst hff
  all_goals
    go_wp2_with fail
    refine HCL.out.mono ?_
    rintro e w3 ⟨rfl, h3, hb3⟩
    have H3 := Aside0.mk h3
    clear h3
    go_wp2
    go_ret3
    refine ⟨_, rfl, ?_, HBL.out.trans (hb3.mono hlt)⟩
    have hs : ((flat l).toArray.setIfInBounds (i * 2 + 1) (.int .i64 (nv k x))) = (flat (l.set i ⟨k, nv k x⟩)).toArray := by
      rw [List.setIfInBounds_toArray, Nat.mul_comm, flat_set l i _ hi, HX.out]
    have h4 := own_flat (w := w3) (base := w.heap.size) (g := w2.heap.size) (l.set i ⟨k, nv k x⟩) (by rw [List.length_set]; exact h64) (by rw [← hs]; exact H3.out) hlt
    rw [List.length_set] at h4
    exact h4

/-! #### what the five tell -/
theorem z_at (l : List S44) (i : Nat) : l.getD i z44 = ⟨(l.getD i z44).f0, (l.getD i z44).f1⟩ := rfl

def cell_Right.f (l0 : List S44) : Option (Bool) := some (okMem l0)
theorem cell_Right.calls (A0 : Option Addr) (c0 : Nat) (l0 : List S44) (r : Bool) (w : World) (hr0 : Kd.C k44 w A0 l0.length l0) (hc0 : l0.length ≤ c0) (h : cell_Right.f l0 = some r) :
    Calls Try.prog 13 #[.slice A0 l0.length c0] w fun e w' => e = .returned (.bool r) ∧ Below w.heap.size w w' := by
  obtain rfl := Option.some.inj h
  exact Right_any A0 c0 l0 w hr0 hc0

def cell_Load.f (l0 : List S44) (a1 : Int) : Option (Int × Int) := some (if okMem l0 = true then (if 0 ≤ a1 ∧ a1 < (l0.length : Int) then ((rd_T44 l0 a1).f1, 0) else (0, 3)) else (0, 1))
set_option maxHeartbeats 1000000 in
set_option maxRecDepth 100000 in
theorem cell_Load.calls (A0 : Option Addr) (c0 : Nat) (l0 : List S44) (a1 : Int) (r1 : Int) (r2 : Int) (w : World) (hr0 : Kd.C k44 w A0 l0.length l0) (hc0 : l0.length ≤ c0) (h : cell_Load.f l0 a1 = some (r1, r2)) :
    Calls Try.prog 12 #[.slice A0 l0.length c0, .int .i64 a1] w fun e w' => e = .returned (.tuple #[.int .i64 r1, .int .i64 r2]) ∧ Below w.heap.size w w' := by
  have HR := Aside0.mk hr0
  have hmf : ∀ (fn : Fn) (first cap : Array Value) (w : World), (Instr.makeFunc fn first cap).run Try.prog w = .ok (.func fn first cap) w := fun _ _ _ _ => rfl
  have h' := Option.some.inj h
  clear h hr0
  by_cases ho : okMem l0 = true
  · rw [if_pos ho] at h'
    by_cases hr : 0 ≤ a1 ∧ a1 < (l0.length : Int)
    · rw [if_pos hr] at h'
      obtain ⟨i, rfl⟩ : ∃ i : Nat, a1 = i := ⟨a1.toNat, by omega⟩
      have hi : i < l0.length := by omega
      simp only [Prod.mk.injEq] at h'
      obtain ⟨rfl, rfl⟩ := h'
      obtain ⟨k, x, hkx⟩ : ∃ k x, l0.getD i z44 = ⟨k, x⟩ := ⟨_, _, z_at l0 i⟩
      have hx : (rd_T44 l0 i).f1 = x := by unfold rd_T44; rw [Int.toNat_natCast, hkx]
      rw [hx]
      have HO := Aside0.mk ho
      have HX := Aside0.mk hkx
      clear ho hkx hx hr
      go_enter Try.func12, Try.ntmps12
      go_wp2_with fail
      refine (access_int_ok 28 #[] (fun k x => x) (fun k x => x) A0 c0 l0 i _ HR.out hc0 HO.out hi k x HX.out (.inr (.inr rfl)) (load_does _ _)).mono ?_
      rintro e w1 ⟨v, rfl, _, hb⟩
      go_wp2
      go_ret2
      exact ⟨rfl, hb⟩
    · rw [if_neg hr] at h'
      simp only [Prod.mk.injEq] at h'
      obtain ⟨rfl, rfl⟩ := h'
      have HO := Aside0.mk ho
      have HN := Aside0.mk hr
      clear ho hr
      go_enter Try.func12, Try.ntmps12
      go_wp2_with fail
      refine (access_int_out A0 c0 l0 a1 _ _ HR.out hc0 HO.out HN.out).mono ?_
      rintro e w1 ⟨rfl, hb⟩
      go_wp2
      go_ret2
      exact ⟨rfl, hb⟩
  · rw [if_neg ho] at h'
    simp only [Prod.mk.injEq] at h'
    obtain ⟨rfl, rfl⟩ := h'
    have HO := Aside0.mk (show okMem l0 = false by simpa using ho)
    clear ho
    go_enter Try.func12, Try.ntmps12
    go_wp2_with fail
    refine (access_int_bad A0 c0 l0 a1 _ _ HR.out hc0 HO.out).mono ?_
    rintro e w1 ⟨rfl, hb⟩
    go_wp2
    go_ret2
    exact ⟨rfl, hb⟩

def cell_Swap.f (l0 : List S44) (a1 : Int) (a2 : Int) : Option (List S44 × Int × Int) := some (if okMem l0 = true then (if 0 ≤ a1 ∧ a1 < (l0.length : Int) then (l0.set a1.toNat ⟨(rd_T44 l0 a1).f0, wrapped (rd_T44 l0 a1).f0 a2⟩, (rd_T44 l0 a1).f1, 0) else ([], 0, 3)) else ([], 0, 1))
set_option maxHeartbeats 1000000 in
set_option maxRecDepth 100000 in
theorem cell_Swap.calls (A0 : Option Addr) (c0 : Nat) (l0 : List S44) (a1 : Int) (a2 : Int) (r1 : List S44) (r2 : Int) (r3 : Int) (w : World) (hr0 : Kd.C k44 w A0 l0.length l0) (hc0 : l0.length ≤ c0) (h : cell_Swap.f l0 a1 a2 = some (r1, r2, r3)) :
    Calls Try.prog 7 #[.slice A0 l0.length c0, .int .i64 a1, .int .i64 a2] w fun e w' => ∃ v0_ : Value, e = .returned (.tuple #[v0_, .int .i64 r2, .int .i64 r3]) ∧ Kd.R k44 44 w' w.heap.size (fun _ => True) v0_ r1 ∧ Below w.heap.size w w' := by
  have HR := Aside0.mk hr0
  have hmf : ∀ (fn : Fn) (first cap : Array Value) (w : World), (Instr.makeFunc fn first cap).run Try.prog w = .ok (.func fn first cap) w := fun _ _ _ _ => rfl
  have h' := Option.some.inj h
  clear h hr0
  obtain ⟨W, hW⟩ : ∃ W, W = w.alloc (.cells #[.int .i64 a2] 3) := ⟨_, rfl⟩
  have hbW : Below w.heap.size w W := by rw [hW]; repeat (first | exact Below.refl _ _ | apply below_alloc)
  have hsz : w.heap.size ≤ W.heap.size := hbW.size
  have HRW := Aside0.mk (Kd.C_below HR.out hbW)
  have hp : W.heap[w.heap.size]? = some (.cells #[.int .i64 a2] 3 (0, 0)) := by rw [hW]; exact blk_new w _
  have hpl : w.heap.size < W.heap.size := blk_lt hp
  by_cases ho : okMem l0 = true
  · rw [if_pos ho] at h'
    by_cases hr : 0 ≤ a1 ∧ a1 < (l0.length : Int)
    · rw [if_pos hr] at h'
      obtain ⟨i, rfl⟩ : ∃ i : Nat, a1 = i := ⟨a1.toNat, by omega⟩
      have hi : i < l0.length := by omega
      simp only [Prod.mk.injEq] at h'
      obtain ⟨rfl, rfl, rfl⟩ := h'
      obtain ⟨k, x, hkx⟩ : ∃ k x, l0.getD i z44 = ⟨k, x⟩ := ⟨_, _, z_at l0 i⟩
      have hx : (rd_T44 l0 i) = ⟨k, x⟩ := by unfold rd_T44; rw [Int.toNat_natCast, hkx]
      rw [hx, Int.toNat_natCast]
      have hc := access_int_ok 21 #[.pointer (some ⟨w.heap.size, 0, none⟩)] (fun k x => x) (fun k x => wrapped k a2) A0 c0 l0 i W HRW.out hc0 ho hi k x hkx (.inl rfl) (swap_does W.heap.size w.heap.size a2 W hp hpl)
      rw [hW] at hc
      have HC := Aside0.mk hc
      clear hc ho hkx hx hr hW hbW HRW hsz hp hpl
      go_enter Try.func7, Try.ntmps7
      go_wp2_with fail
      refine HC.out.mono ?_
      rintro e w1 ⟨v, rfl, hv, hb⟩
      have HV := Aside0.mk hv
      clear hv
      go_wp2
      go_ret3
      have hb0 : Below w.heap.size w (w.alloc (.cells #[.int .i64 a2] 3)) := by repeat (first | exact Below.refl _ _ | apply below_alloc)
      exact ⟨_, rfl, Kd.R_lower HV.out hb0.size, hb0.trans (hb.mono hb0.size)⟩
    · rw [if_neg hr] at h'
      simp only [Prod.mk.injEq] at h'
      obtain ⟨rfl, rfl, rfl⟩ := h'
      have hc := fun fv => access_int_out A0 c0 l0 a1 fv W HRW.out hc0 ho hr
      rw [hW] at hc
      have HC := Aside0.mk hc
      clear hc ho hr hW hbW HRW hsz hp hpl
      go_enter Try.func7, Try.ntmps7
      go_wp2_with fail
      refine (HC.out _).mono ?_
      rintro e w1 ⟨rfl, hb⟩
      go_wp2
      go_ret3
      have hb0 : Below w.heap.size w (w.alloc (.cells #[.int .i64 a2] 3)) := by repeat (first | exact Below.refl _ _ | apply below_alloc)
      exact ⟨_, rfl, Kd.R_nil _ _ _ _ _, hb0.trans (hb.mono hb0.size)⟩
  · rw [if_neg ho] at h'
    simp only [Prod.mk.injEq] at h'
    obtain ⟨rfl, rfl, rfl⟩ := h'
    have hc := fun fv => access_int_bad A0 c0 l0 a1 fv W HRW.out hc0 (show okMem l0 = false by simpa using ho)
    rw [hW] at hc
    have HC := Aside0.mk hc
    clear hc ho hW hbW HRW hsz hp hpl
    go_enter Try.func7, Try.ntmps7
    go_wp2_with fail
    refine (HC.out _).mono ?_
    rintro e w1 ⟨rfl, hb⟩
    go_wp2
    go_ret3
    have hb0 : Below w.heap.size w (w.alloc (.cells #[.int .i64 a2] 3)) := by repeat (first | exact Below.refl _ _ | apply below_alloc)
    exact ⟨_, rfl, Kd.R_nil _ _ _ _ _, hb0.trans (hb.mono hb0.size)⟩

def cell_Add.f (l0 : List S44) (a1 : Int) (a2 : Int) : Option (List S44 × Int × Int) := some (if okMem l0 = true then (if 0 ≤ a1 ∧ a1 < (l0.length : Int) then (l0.set a1.toNat ⟨(rd_T44 l0 a1).f0, wrapped (rd_T44 l0 a1).f0 (wrap64 ((rd_T44 l0 a1).f1 + a2))⟩, wrapped (rd_T44 l0 a1).f0 (wrap64 ((rd_T44 l0 a1).f1 + a2)), 0) else ([], 0, 3)) else ([], 0, 1))
set_option maxHeartbeats 1000000 in
set_option maxRecDepth 100000 in
theorem cell_Add.calls (A0 : Option Addr) (c0 : Nat) (l0 : List S44) (a1 : Int) (a2 : Int) (r1 : List S44) (r2 : Int) (r3 : Int) (w : World) (hr0 : Kd.C k44 w A0 l0.length l0) (hc0 : l0.length ≤ c0) (h : cell_Add.f l0 a1 a2 = some (r1, r2, r3)) :
    Calls Try.prog 8 #[.slice A0 l0.length c0, .int .i64 a1, .int .i64 a2] w fun e w' => ∃ v0_ : Value, e = .returned (.tuple #[v0_, .int .i64 r2, .int .i64 r3]) ∧ Kd.R k44 44 w' w.heap.size (fun _ => True) v0_ r1 ∧ Below w.heap.size w w' := by
  have HR := Aside0.mk hr0
  have hmf : ∀ (fn : Fn) (first cap : Array Value) (w : World), (Instr.makeFunc fn first cap).run Try.prog w = .ok (.func fn first cap) w := fun _ _ _ _ => rfl
  have h' := Option.some.inj h
  clear h hr0
  obtain ⟨W, hW⟩ : ∃ W, W = w.alloc (.cells #[.int .i64 a2] 3) := ⟨_, rfl⟩
  have hbW : Below w.heap.size w W := by rw [hW]; repeat (first | exact Below.refl _ _ | apply below_alloc)
  have hsz : w.heap.size ≤ W.heap.size := hbW.size
  have HRW := Aside0.mk (Kd.C_below HR.out hbW)
  have hp : W.heap[w.heap.size]? = some (.cells #[.int .i64 a2] 3 (0, 0)) := by rw [hW]; exact blk_new w _
  have hpl : w.heap.size < W.heap.size := blk_lt hp
  by_cases ho : okMem l0 = true
  · rw [if_pos ho] at h'
    by_cases hr : 0 ≤ a1 ∧ a1 < (l0.length : Int)
    · rw [if_pos hr] at h'
      obtain ⟨i, rfl⟩ : ∃ i : Nat, a1 = i := ⟨a1.toNat, by omega⟩
      have hi : i < l0.length := by omega
      simp only [Prod.mk.injEq] at h'
      obtain ⟨rfl, rfl, rfl⟩ := h'
      obtain ⟨k, x, hkx⟩ : ∃ k x, l0.getD i z44 = ⟨k, x⟩ := ⟨_, _, z_at l0 i⟩
      have hx : (rd_T44 l0 i) = ⟨k, x⟩ := by unfold rd_T44; rw [Int.toNat_natCast, hkx]
      rw [hx, Int.toNat_natCast]
      have hc := access_int_ok 23 #[.pointer (some ⟨w.heap.size, 0, none⟩)] (fun k x => wrapped k (wrap64 (x + a2))) (fun k x => wrapped k (wrap64 (x + a2))) A0 c0 l0 i W HRW.out hc0 ho hi k x hkx (.inr (.inl rfl)) (add_does W.heap.size w.heap.size a2 W hp hpl)
      rw [hW] at hc
      have HC := Aside0.mk hc
      clear hc ho hkx hx hr hW hbW HRW hsz hp hpl
      go_enter Try.func8, Try.ntmps8
      go_wp2_with fail
      refine HC.out.mono ?_
      rintro e w1 ⟨v, rfl, hv, hb⟩
      have HV := Aside0.mk hv
      clear hv
      go_wp2
      go_ret3
      have hb0 : Below w.heap.size w (w.alloc (.cells #[.int .i64 a2] 3)) := by repeat (first | exact Below.refl _ _ | apply below_alloc)
      exact ⟨_, rfl, Kd.R_lower HV.out hb0.size, hb0.trans (hb.mono hb0.size)⟩
    · rw [if_neg hr] at h'
      simp only [Prod.mk.injEq] at h'
      obtain ⟨rfl, rfl, rfl⟩ := h'
      have hc := fun fv => access_int_out A0 c0 l0 a1 fv W HRW.out hc0 ho hr
      rw [hW] at hc
      have HC := Aside0.mk hc
      clear hc ho hr hW hbW HRW hsz hp hpl
      go_enter Try.func8, Try.ntmps8
      go_wp2_with fail
      refine (HC.out _).mono ?_
      rintro e w1 ⟨rfl, hb⟩
      go_wp2
      go_ret3
      have hb0 : Below w.heap.size w (w.alloc (.cells #[.int .i64 a2] 3)) := by repeat (first | exact Below.refl _ _ | apply below_alloc)
      exact ⟨_, rfl, Kd.R_nil _ _ _ _ _, hb0.trans (hb.mono hb0.size)⟩
  · rw [if_neg ho] at h'
    simp only [Prod.mk.injEq] at h'
    obtain ⟨rfl, rfl, rfl⟩ := h'
    have hc := fun fv => access_int_bad A0 c0 l0 a1 fv W HRW.out hc0 (show okMem l0 = false by simpa using ho)
    rw [hW] at hc
    have HC := Aside0.mk hc
    clear hc ho hW hbW HRW hsz hp hpl
    go_enter Try.func8, Try.ntmps8
    go_wp2_with fail
    refine (HC.out _).mono ?_
    rintro e w1 ⟨rfl, hb⟩
    go_wp2
    go_ret3
    have hb0 : Below w.heap.size w (w.alloc (.cells #[.int .i64 a2] 3)) := by repeat (first | exact Below.refl _ _ | apply below_alloc)
    exact ⟨_, rfl, Kd.R_nil _ _ _ _ _, hb0.trans (hb.mono hb0.size)⟩

def cell_Cas.f (l0 : List S44) (a1 : Int) (a2 : Int) (a3 : Int) : Option (List S44 × Bool × Int) := some (if okMem l0 = true then (if 0 ≤ a1 ∧ a1 < (l0.length : Int) then (l0.set a1.toNat ⟨(rd_T44 l0 a1).f0, if wrapped (rd_T44 l0 a1).f0 a2 = (rd_T44 l0 a1).f1 then wrapped (rd_T44 l0 a1).f0 a3 else (rd_T44 l0 a1).f1⟩, wrapped (rd_T44 l0 a1).f0 a2 == (rd_T44 l0 a1).f1, 0) else ([], false, 3)) else ([], false, 1))
set_option maxHeartbeats 1000000 in
set_option maxRecDepth 100000 in
theorem cell_Cas.calls (A0 : Option Addr) (c0 : Nat) (l0 : List S44) (a1 : Int) (a2 : Int) (a3 : Int) (r1 : List S44) (r2 : Bool) (r3 : Int) (w : World) (hr0 : Kd.C k44 w A0 l0.length l0) (hc0 : l0.length ≤ c0) (h : cell_Cas.f l0 a1 a2 a3 = some (r1, r2, r3)) :
    Calls Try.prog 10 #[.slice A0 l0.length c0, .int .i64 a1, .int .i64 a2, .int .i64 a3] w fun e w' => ∃ v0_ : Value, e = .returned (.tuple #[v0_, .bool r2, .int .i64 r3]) ∧ Kd.R k44 44 w' w.heap.size (fun _ => True) v0_ r1 ∧ Below w.heap.size w w' := by
  have HR := Aside0.mk hr0
  have hmf : ∀ (fn : Fn) (first cap : Array Value) (w : World), (Instr.makeFunc fn first cap).run Try.prog w = .ok (.func fn first cap) w := fun _ _ _ _ => rfl
  have h' := Option.some.inj h
  clear h hr0
  obtain ⟨W, hW⟩ : ∃ W, W = (w.alloc (.cells #[.int .i64 a2] 3)).alloc (.cells #[.int .i64 a3] 3) := ⟨_, rfl⟩
  have hbW : Below w.heap.size w W := by rw [hW]; repeat (first | exact Below.refl _ _ | apply below_alloc)
  have hsz : w.heap.size ≤ W.heap.size := hbW.size
  have HRW := Aside0.mk (Kd.C_below HR.out hbW)
  have hp : W.heap[w.heap.size]? = some (.cells #[.int .i64 a2] 3 (0, 0)) := by rw [hW]; exact blk_alloc (blk_new w _) _
  have hq : W.heap[w.heap.size + 1]? = some (.cells #[.int .i64 a3] 3 (0, 0)) := by
    rw [hW]
    have := blk_new (w.alloc (.cells #[.int .i64 a2] 3)) (.cells #[.int .i64 a3] 3)
    simpa using this
  have hpl : w.heap.size < W.heap.size := blk_lt hp
  have hql : w.heap.size + 1 < W.heap.size := blk_lt hq
  by_cases ho : okMem l0 = true
  · rw [if_pos ho] at h'
    by_cases hr : 0 ≤ a1 ∧ a1 < (l0.length : Int)
    · rw [if_pos hr] at h'
      obtain ⟨i, rfl⟩ : ∃ i : Nat, a1 = i := ⟨a1.toNat, by omega⟩
      have hi : i < l0.length := by omega
      simp only [Prod.mk.injEq] at h'
      obtain ⟨rfl, rfl, rfl⟩ := h'
      obtain ⟨k, x, hkx⟩ : ∃ k x, l0.getD i z44 = ⟨k, x⟩ := ⟨_, _, z_at l0 i⟩
      have hx : (rd_T44 l0 i) = ⟨k, x⟩ := by unfold rd_T44; rw [Int.toNat_natCast, hkx]
      rw [hx, Int.toNat_natCast]
      have hc := access_bool_ok 26 #[.pointer (some ⟨w.heap.size, 0, none⟩), .pointer (some ⟨w.heap.size + 1, 0, none⟩)] (fun k x => wrapped k a2 == x) (fun k x => if wrapped k a2 = x then wrapped k a3 else x) A0 c0 l0 i W HRW.out hc0 ho hi k x hkx (rfl) (cas_does W.heap.size w.heap.size (w.heap.size + 1) a2 a3 W hp hq hpl hql)
      rw [hW] at hc
      dsimp only at hc ⊢
      generalize (wrapped k a2 == x) = T at hc ⊢
      generalize (if wrapped k a2 = x then wrapped k a3 else x) = Y at hc ⊢
      have HC := Aside0.mk hc
      clear hc ho hkx hx hr hW hbW HRW hsz hp hq hpl hql
      go_enter Try.func10, Try.ntmps10
      go_wp2_with fail
      refine HC.out.mono ?_
      rintro e w1 ⟨v, rfl, hv, hb⟩
      have HV := Aside0.mk hv
      clear hv
      go_wp2
      go_ret3
      have hb0 : Below w.heap.size w ((w.alloc (.cells #[.int .i64 a2] 3)).alloc (.cells #[.int .i64 a3] 3)) := by repeat (first | exact Below.refl _ _ | apply below_alloc)
      exact ⟨_, rfl, Kd.R_lower HV.out hb0.size, hb0.trans (hb.mono hb0.size)⟩
    · rw [if_neg hr] at h'
      simp only [Prod.mk.injEq] at h'
      obtain ⟨rfl, rfl, rfl⟩ := h'
      have hc := fun fv => access_bool_out A0 c0 l0 a1 fv W HRW.out hc0 ho hr
      rw [hW] at hc
      have HC := Aside0.mk hc
      clear hc ho hr hW hbW HRW hsz hp hq hpl hql
      go_enter Try.func10, Try.ntmps10
      go_wp2_with fail
      refine (HC.out _).mono ?_
      rintro e w1 ⟨rfl, hb⟩
      go_wp2
      go_ret3
      have hb0 : Below w.heap.size w ((w.alloc (.cells #[.int .i64 a2] 3)).alloc (.cells #[.int .i64 a3] 3)) := by repeat (first | exact Below.refl _ _ | apply below_alloc)
      exact ⟨_, rfl, Kd.R_nil _ _ _ _ _, hb0.trans (hb.mono hb0.size)⟩
  · rw [if_neg ho] at h'
    simp only [Prod.mk.injEq] at h'
    obtain ⟨rfl, rfl, rfl⟩ := h'
    have hc := fun fv => access_bool_bad A0 c0 l0 a1 fv W HRW.out hc0 (show okMem l0 = false by simpa using ho)
    rw [hW] at hc
    have HC := Aside0.mk hc
    clear hc ho hW hbW HRW hsz hp hq hpl hql
    go_enter Try.func10, Try.ntmps10
    go_wp2_with fail
    refine (HC.out _).mono ?_
    rintro e w1 ⟨rfl, hb⟩
    go_wp2
    go_ret3
    have hb0 : Below w.heap.size w ((w.alloc (.cells #[.int .i64 a2] 3)).alloc (.cells #[.int .i64 a3] 3)) := by repeat (first | exact Below.refl _ _ | apply below_alloc)
    exact ⟨_, rfl, Kd.R_nil _ _ _ _ _, hb0.trans (hb.mono hb0.size)⟩

end Go.Proofs.Ytdecbngdmnmokaa.Hand
