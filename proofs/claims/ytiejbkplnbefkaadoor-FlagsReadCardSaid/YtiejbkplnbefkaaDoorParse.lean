/- The machine side of the package flags, third text: strconv.Atoi in one contract, and Parse. They ask that the world holds the table and the two error values of strconv as the program text lays them. -/
import Derived.Test.YtiejbkplnbefkaaDoorText
import Derived.Lib.AtoiErrMem
import Derived.Test.YtiejbkplnbefkaaDoorAtoi
namespace Go.Proofs.YtiejbkplnbefkaaDoor.Hand
open Go.RowKit Go.Proofs.YtiejbkplnbefkaaDoorW.PrintWords Go.Proofs.YtiejbkplnbefkaaDoorW.PrintLast Go.Proofs.YtiejbkplnbefkaaDoorW.PrintMore
set_option linter.unusedVariables false
set_option linter.unusedSimpArgs false

theorem var_below {name : String} {cs : Array Value} {w w' : World} (h : w.var? Tryd.prog name = some cs) (hb : Below w.heap.size w w') : w'.var? Tryd.prog name = some cs := by
  unfold World.var? at *
  cases hg : Tryd.prog.globalNamed name with
  | none => simp [hg] at h
  | some g =>
    simp only [hg, Option.bind_some] at h ⊢
    have hlt : g < w.heap.size := by
      rcases Nat.lt_or_ge g w.heap.size with h' | h'
      · exact h'
      · rw [Array.getElem?_eq_none h'] at h; simp at h
    rw [hb.block g hlt]
    exact h
/-- The table and the two error values of strconv lie in the world as the program's text lays them. -/
structure Laid (w : World) : Prop where
  tabs : Tabs w
  syn : ∃ tp p, w.var? Tryd.prog "strconv.ErrSyntax" = some #[.iface tp p]
  rng : ∃ tp p, w.var? Tryd.prog "strconv.ErrRange" = some #[.iface tp p]
theorem Laid.below {w w' : World} (h : Laid w) (hb : Below w.heap.size w w') : Laid w' := by
  obtain ⟨a, ⟨tp, p, hs⟩, ⟨tq, q, hr⟩⟩ := h
  exact ⟨a.below hb, ⟨tp, p, var_below hs hb⟩, ⟨tq, q, var_below hr hb⟩⟩

/-- What Atoi hands back: the number, or a number and an error that is not nil. -/
def atoiErr (l : List UInt8) (v : Value) : Prop := match Lib.atoiAll l with
  | .ok _ => v = .nilIface
  | _ => ∃ N, v = .iface 60 (.pointer (some ⟨N, 0, none⟩))
def atoiNum (l : List UInt8) : Int := match Lib.atoiAll l with
  | .ok n => n
  | .range => Lib.atoiSat l
  | _ => 0
theorem atoi_any (s : ByteArray) (hlim : s.size ≤ 281474976710656) (w : World) (hL : Laid w) :
    Calls Tryd.prog 26 #[.string s] w fun e w' => ∃ v, e = .returned (.tuple #[.int .i64 (atoiNum s.data.toList), v]) ∧ atoiErr s.data.toList v ∧ Below w.heap.size w w' := by
  obtain ⟨_, ⟨tp, p, hs⟩, ⟨tq, q, hr⟩⟩ := hL
  unfold atoiErr atoiNum
  rcases h : Lib.atoiAll s.data.toList with n | _ | _
  · refine (Tryd.strconv_Atoi_ok s (by omega) n h w).mono ?_
    rintro e w' ⟨rfl, hw⟩
    refine ⟨_, rfl, rfl, ?_⟩
    rcases hw with rfl | ⟨t, rfl⟩
    · exact Below.refl _ _
    · exact Lib.bytesWorld_below _ _ _
  · refine (Tryd.strconv_Atoi_syntax_var s hlim h tp p w hs).mono ?_
    rintro e w' ⟨N, rfl, _, _, hb⟩
    exact ⟨_, rfl, ⟨N, rfl⟩, hb⟩
  · refine (Tryd.strconv_Atoi_range_var s hlim h tq q w hr).mono ?_
    rintro e w' ⟨N, rfl, _, _, hb⟩
    exact ⟨_, rfl, ⟨N, rfl⟩, hb⟩

theorem eqA23 (d : Nat) (w : World) (x0 y0 : Bool) (x1 y1 : Bool) (x2 y2 : Bool) (x3 y3 : Int) :
    (Op.equalIn (d + 2) 23 (.agg #[.bool x0, .bool x1, .bool x2, .int .i64 x3]) (.agg #[.bool y0, .bool y1, .bool y2, .int .i64 y3])).run Tryd.prog w = .ok (x0 == y0 && (x1 == y1 && (x2 == y2 && (x3 == y3)))) w := by
  refine eqA_of Tryd.underlying23 (by kernel_rfl) ?_
  refine eqf_cons (by rfl) (by go_simp; rfl) (by go_simp; rfl) (by go_simp) ?_
  refine eqf_cons (by rfl) (by go_simp; rfl) (by go_simp; rfl) (by go_simp) ?_
  refine eqf_cons (by rfl) (by go_simp; rfl) (by go_simp; rfl) (by go_simp) ?_
  exact eqf_last (by rfl) (by go_simp; rfl) (by go_simp; rfl) (by go_simp)
attribute [local go_sem high] eqA23

set_option maxHeartbeats 2000000 in
set_option maxRecDepth 100000 in
theorem Parse_short (s : ByteArray) (w : World) (h : s.size ≤ 3) :
    Calls Tryd.prog 18 #[.string s] w fun e w' => e = .returned (.tuple #[.int .i64 0, .int .i64 9]) ∧ Below w.heap.size w w' := by
  have h3 : (s.size : Int) ≤ 3 := by omega
  go_enter Tryd.func18, Tryd.ntmps18
  go_wp2
  go_ret2
  exact ⟨rfl, Below.refl _ _⟩

/-- The sign c at the place i of a text. -/
def sgn (s : ByteArray) (i : Nat) (c : UInt8) : Bool := s.data.toList[i]? == some c
theorem sgn_at (s : ByteArray) (i : Nat) (h : i < s.size) (c : UInt8) (m : Int) (hm : m = (c.toNat : Int)) : ((s[i].toNat : Int) == m) = sgn s i c := by
  subst hm
  have hg : s.data.toList[i]? = some s[i] := by
    rw [List.getElem?_eq_getElem (by simpa using h)]; rfl
  rw [sgn, hg, Bool.eq_iff_iff]
  simp only [beq_iff_eq, Option.some.injEq]
  constructor
  · intro e; exact UInt8.toNat_inj.1 (by omega)
  · rintro e; rw [e]
/-- What Parse tells of a text longer than three bytes, of which Atoi told the number n and no error. -/
def told (s : ByteArray) (b0 b1 b2 : Bool) (n : Int) : Option (Int × Int) :=
  (flags_Pack.f b0 b1 b2 n).bind fun p => (flags_Text.f p.1).bind fun t => if p.2 = 0 then (if t.1.toList = s.toList then (flags_Unpack.f p.1).bind fun u => if (u.1 == b0 && (u.2.1 == b1 && (u.2.2.1 == b2 && (u.2.2.2.1 == n)))) = true then some (p.1, 0) else some (0, 9) else some (0, 9)) else some (0, 9)
/-- What Parse tells. -/
def flags_Parse.f (s : ByteArray) : Option (Int × Int) :=
  if s.size ≤ 281474976710656 then (if s.size ≤ 3 then some (0, 9) else match Lib.atoiAll (s.extract 3 s.size).data.toList with
  | .ok n => told s (sgn s 0 76) (sgn s 1 87) (sgn s 2 83) n
  | _ => some (0, 9)) else none

set_option maxHeartbeats 4000000 in
set_option maxRecDepth 100000 in
theorem Parse_long (s : ByteArray) (r1 r2 : Int) (w : World) (hL : Laid w) (hlim : s.size ≤ 281474976710656) (h : 3 < s.size) (H : flags_Parse.f s = some (r1, r2)) :
    Calls Tryd.prog 18 #[.string s] w fun e w' => e = .returned (.tuple #[.int .i64 r1, .int .i64 r2]) ∧ Below w.heap.size w w' := by
  have h3 : ¬ ((s.size : Int) ≤ 3) := by omega
  have h3' : (3 : Int) ≤ (s.size : Int) := by omega
  have hi0 : (0 : Int) < (s.size : Int) := by omega
  have hi1 : (1 : Int) < (s.size : Int) := by omega
  have hi2 : (2 : Int) < (s.size : Int) := by omega
  have hn0 : 0 < s.size := by omega
  have hn1 : 1 < s.size := by omega
  have hn2 : 2 < s.size := by omega
  have HL := Aside0.mk hL
  have HH := Aside0.mk H
  clear hL H
  go_enter Tryd.func18, Tryd.ntmps18
  go_wp2_with fail
  refine (atoi_any (s.extract 3 s.size) (by simp [ByteArray.size_extract]; omega) w HL.out).mono ?_
  rintro e w1 ⟨v, rfl, hv, hb1⟩
  have hvv : (v = .nilIface ∧ told s (sgn s 0 76) (sgn s 1 87) (sgn s 2 83) (atoiNum (s.extract 3 s.size).data.toList) = some (r1, r2)) ∨ ((∃ N, v = .iface 60 (.pointer (some ⟨N, 0, none⟩))) ∧ r1 = 0 ∧ r2 = 9) := by
    have H := HH.out
    unfold flags_Parse.f at H
    rw [if_pos hlim, if_neg (by omega)] at H
    unfold atoiErr at hv
    unfold atoiNum
    rcases hA : Lib.atoiAll (s.extract 3 s.size).data.toList with m | _ | _
    · rw [hA] at H hv; exact Or.inl ⟨hv, H⟩
    · rw [hA] at H hv; cases H; exact Or.inr ⟨hv, rfl, rfl⟩
    · rw [hA] at H hv; cases H; exact Or.inr ⟨hv, rfl, rfl⟩
  have HVV := Aside0.mk hvv
  have HB1 := Aside0.mk hb1
  clear hv hb1 hvv HH
  generalize atoiNum (s.extract 3 s.size).data.toList = n at *
  go_wp2
  go_region
  rw [sgn_at s 0 hn0 76 ((⟨#[76, 87, 83]⟩ : ByteArray)[0].toNat : Int) rfl, sgn_at s 1 hn1 87 ((⟨#[76, 87, 83]⟩ : ByteArray)[1].toNat : Int) rfl, sgn_at s 2 hn2 83 ((⟨#[76, 87, 83]⟩ : ByteArray)[2].toNat : Int) rfl]
  generalize sgn s 0 76 = b0 at *
  generalize sgn s 1 87 = b1 at *
  generalize sgn s 2 83 = b2 at *
  have BK := Aside0.mk (blk_drew (blk_new w1 (.cells #[.bool b0, .bool b1, .bool b2, .int .i64 n] 23)))
  have HB2 := Aside0.mk (below_drew (HB1.out.alloc (by have := HB1.out.size; omega) (.cells #[.bool b0, .bool b1, .bool b2, .int .i64 n] 23)))
  generalize (w1.alloc (.cells #[.bool b0, .bool b1, .bool b2, .int .i64 n] 23)).drew = W2 at *
  have c0 : W2.cell? ⟨w1.heap.size, 0, none⟩ = some (.bool b0) := blk_cell BK.out 0
  have c1 : W2.cell? ⟨w1.heap.size, 1, none⟩ = some (.bool b1) := blk_cell BK.out 1
  have c2 : W2.cell? ⟨w1.heap.size, 2, none⟩ = some (.bool b2) := blk_cell BK.out 2
  have c3 : W2.cell? ⟨w1.heap.size, 3, none⟩ = some (.int .i64 n) := blk_cell BK.out 3
  obtain ⟨p1, p2, hp⟩ : ∃ p1 p2, flags_Pack.f b0 b1 b2 n = some (p1, p2) := ⟨_, _, rfl⟩
  obtain ⟨t1, t2, ht⟩ : ∃ t1 t2, flags_Text.f p1 = some (t1, t2) := ⟨_, _, rfl⟩
  obtain ⟨u0, u1, u2, u3, u4, hu⟩ : ∃ u0 u1 u2 u3 u4, flags_Unpack.f p1 = some (u0, u1, u2, u3, u4) := ⟨_, _, _, _, _, rfl⟩
  have HP := Aside0.mk hp
  have HT := Aside0.mk ht
  have HU := Aside0.mk hu
  rcases HVV.out with ⟨rfl, hold⟩ | ⟨⟨N, rfl⟩, rfl, rfl⟩
  · have hold' : (if p2 = 0 then (if t1.toList = s.toList then (if (u0 == b0 && (u1 == b1 && (u2 == b2 && (u3 == n)))) = true then some (p1, (0 : Int)) else some (0, 9)) else some (0, 9)) else some (0, 9)) = some (r1, r2) := by
      unfold told at hold
      rw [hp, Option.bind_some, ht, Option.bind_some, hu, Option.bind_some] at hold
      exact hold
    clear hold hp ht hu HVV
    by_cases hp2 : p2 = 0
    · subst hp2
      rw [if_pos rfl] at hold'
      by_cases hts : t1.toList = s.toList
      · rw [if_pos hts] at hold'
        have hq : (!(t1.toList == s.toList)) = false := by rw [hts]; simp
        clear hts
        rcases heq : (u0 == b0 && (u1 == b1 && (u2 == b2 && (u3 == n)))) with _ | _
        · rw [heq, if_neg (by decide)] at hold'
          obtain ⟨e1, e2⟩ := Prod.mk.inj (Option.some.inj hold')
          subst e1
          subst e2
          clear hold'
          as_aux_lemma =>
            go_wp2_with (first | (go_at_call 9; refine (flags_Pack.calls b0 b1 b2 n p1 0 _ HP.out).mono ?_; rintro e w3 ⟨rfl, hb3⟩) | (go_at_call 8; refine (flags_Text.calls p1 t1 t2 _ HT.out ((HL.out.below (HB2.out.trans (hb3.mono HB2.out.size))).tabs)).mono ?_; rintro e w4 ⟨rfl, hb4⟩) | (go_at_call 7; refine (flags_Unpack.calls p1 u0 u1 u2 u3 u4 _ HU.out).mono ?_; rintro e w5 ⟨rfl, hb5⟩; have BK5 := blk_alloc (blk_below (blk_below (blk_below BK.out hb3) hb4) hb5) (.cells #[.bool u0, .bool u1, .bool u2, .int .i64 u3] 23); have d0 : (w5.alloc (.cells #[.bool u0, .bool u1, .bool u2, .int .i64 u3] 23)).cell? ⟨w1.heap.size, 0, none⟩ = some (.bool b0) := blk_cell BK5 0; have d1 : (w5.alloc (.cells #[.bool u0, .bool u1, .bool u2, .int .i64 u3] 23)).cell? ⟨w1.heap.size, 1, none⟩ = some (.bool b1) := blk_cell BK5 1; have d2 : (w5.alloc (.cells #[.bool u0, .bool u1, .bool u2, .int .i64 u3] 23)).cell? ⟨w1.heap.size, 2, none⟩ = some (.bool b2) := blk_cell BK5 2; have d3 : (w5.alloc (.cells #[.bool u0, .bool u1, .bool u2, .int .i64 u3] 23)).cell? ⟨w1.heap.size, 3, none⟩ = some (.int .i64 n) := blk_cell BK5 3) | fail)
            go_ret2
            have HB5 : Below w.heap.size w w5 := HB2.out.trans ((hb3.trans ((hb4.trans (hb5.mono hb4.size)).mono hb3.size)).mono HB2.out.size)
            exact ⟨rfl, HB5.alloc HB5.size _⟩
        · rw [heq, if_pos rfl] at hold'
          obtain ⟨e1, e2⟩ := Prod.mk.inj (Option.some.inj hold')
          subst e1
          subst e2
          clear hold'
          as_aux_lemma =>
            go_wp2_with (first | (go_at_call 9; refine (flags_Pack.calls b0 b1 b2 n p1 0 _ HP.out).mono ?_; rintro e w3 ⟨rfl, hb3⟩) | (go_at_call 8; refine (flags_Text.calls p1 t1 t2 _ HT.out ((HL.out.below (HB2.out.trans (hb3.mono HB2.out.size))).tabs)).mono ?_; rintro e w4 ⟨rfl, hb4⟩) | (go_at_call 7; refine (flags_Unpack.calls p1 u0 u1 u2 u3 u4 _ HU.out).mono ?_; rintro e w5 ⟨rfl, hb5⟩; have BK5 := blk_alloc (blk_below (blk_below (blk_below BK.out hb3) hb4) hb5) (.cells #[.bool u0, .bool u1, .bool u2, .int .i64 u3] 23); have d0 : (w5.alloc (.cells #[.bool u0, .bool u1, .bool u2, .int .i64 u3] 23)).cell? ⟨w1.heap.size, 0, none⟩ = some (.bool b0) := blk_cell BK5 0; have d1 : (w5.alloc (.cells #[.bool u0, .bool u1, .bool u2, .int .i64 u3] 23)).cell? ⟨w1.heap.size, 1, none⟩ = some (.bool b1) := blk_cell BK5 1; have d2 : (w5.alloc (.cells #[.bool u0, .bool u1, .bool u2, .int .i64 u3] 23)).cell? ⟨w1.heap.size, 2, none⟩ = some (.bool b2) := blk_cell BK5 2; have d3 : (w5.alloc (.cells #[.bool u0, .bool u1, .bool u2, .int .i64 u3] 23)).cell? ⟨w1.heap.size, 3, none⟩ = some (.int .i64 n) := blk_cell BK5 3) | fail)
            go_ret2
            have HB5 : Below w.heap.size w w5 := HB2.out.trans ((hb3.trans ((hb4.trans (hb5.mono hb4.size)).mono hb3.size)).mono HB2.out.size)
            exact ⟨rfl, HB5.alloc HB5.size _⟩
      · rw [if_neg hts] at hold'
        cases hold'
        have hq : (!(t1.toList == s.toList)) = true := by simp [hts]
        clear hts
        as_aux_lemma =>
          go_wp2_with (first | (go_at_call 9; refine (flags_Pack.calls b0 b1 b2 n p1 0 _ HP.out).mono ?_; rintro e w3 ⟨rfl, hb3⟩) | (go_at_call 8; refine (flags_Text.calls p1 t1 t2 _ HT.out ((HL.out.below (HB2.out.trans (hb3.mono HB2.out.size))).tabs)).mono ?_; rintro e w4 ⟨rfl, hb4⟩) | fail)
          go_ret2
          exact ⟨rfl, HB2.out.trans ((hb3.trans (hb4.mono hb3.size)).mono HB2.out.size)⟩
    · rw [if_neg hp2] at hold'
      cases hold'
      as_aux_lemma =>
        go_wp2_with (first | (go_at_call 9; refine (flags_Pack.calls b0 b1 b2 n p1 p2 _ HP.out).mono ?_; rintro e w3 ⟨rfl, hb3⟩) | (go_at_call 8; refine (flags_Text.calls p1 t1 t2 _ HT.out ((HL.out.below (HB2.out.trans (hb3.mono HB2.out.size))).tabs)).mono ?_; rintro e w4 ⟨rfl, hb4⟩) | fail)
        go_ret2
        exact ⟨rfl, HB2.out.trans ((hb3.trans (hb4.mono hb3.size)).mono HB2.out.size)⟩
  · clear HVV hp ht hu
    as_aux_lemma =>
      go_wp2_with (first | (go_at_call 9; refine (flags_Pack.calls b0 b1 b2 n p1 p2 _ HP.out).mono ?_; rintro e w3 ⟨rfl, hb3⟩) | (go_at_call 8; refine (flags_Text.calls p1 t1 t2 _ HT.out ((HL.out.below (HB2.out.trans (hb3.mono HB2.out.size))).tabs)).mono ?_; rintro e w4 ⟨rfl, hb4⟩) | fail)
      go_ret2
      exact ⟨rfl, HB2.out.trans ((hb3.trans (hb4.mono hb3.size)).mono HB2.out.size)⟩

theorem flags_Parse.calls (a0 : ByteArray) (r1 : Int) (r2 : Int) (w : World) (h : flags_Parse.f a0 = some (r1, r2)) (hT : Laid w) :
    Calls Tryd.prog 18 #[.string a0] w fun e w' => e = .returned (.tuple #[.int .i64 r1, .int .i64 r2]) ∧ Below w.heap.size w w' := by
  by_cases hlim : a0.size ≤ 281474976710656
  · by_cases h3 : a0.size ≤ 3
    · unfold flags_Parse.f at h
      rw [if_pos hlim, if_pos h3] at h
      obtain ⟨e1, e2⟩ := Prod.mk.inj (Option.some.inj h)
      subst e1
      subst e2
      exact Parse_short a0 w h3
    · exact Parse_long a0 r1 r2 w hT hlim (by omega) h
  · unfold flags_Parse.f at h
    rw [if_neg hlim] at h
    cases h

end Go.Proofs.YtiejbkplnbefkaaDoor.Hand
