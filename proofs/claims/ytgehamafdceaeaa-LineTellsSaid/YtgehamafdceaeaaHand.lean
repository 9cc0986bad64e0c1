/- The machine side of line.Right: the call tells whether a line may be: nobody twice, nobody below 0, at most 64. No conditions. -/
import Derived.Test.YtgehamafdceaeaaProg
import Derived.Below
import Derived.Deep.Draws
import Derived.Deep.AppendLies
import Derived.Maps.AppendAt
import Derived.OwnWalk
import Derived.Laws.BytesArg
import Derived.Laws.MakeOwn
import Derived.Laws.OwnMore
import Derived.Deep.OwnRows
import Derived.Tactics
import Derived.Lib.ConvBytes
import Derived.Laws.Slices
import Derived.WalkKit
import Derived.KernelRfl
import Derived.RowKit3
import Derived.Deep.LoopGhost
import Derived.Deep.QuietTactic
import Derived.BigQuiet
import Derived.WideLaws
import Derived.Deep.DeepCutAuto
import Derived.Deep.CutBlock
import Derived.Deep.RegionHeld3
import Derived.Laws.Rows
import Derived.Lib.AppendStr
import Derived.ArgAppend
import Derived.Laws.IdiomCopy
import Derived.OrdersHeld
import Derived.Laws.BitsLemmas
import Derived.RowKit
import Derived.Test.YtgehamafdceaeaaWWords
import Derived.Test.YtgehamafdceaeaaWLast
import Derived.Test.YtgehamafdceaeaaWTab
import Derived.Test.YtgehamafdceaeaaWFour
import Derived.Test.YtgehamafdceaeaaWQPut
import Derived.Test.YtgehamafdceaeaaWApart
import Derived.Test.YtgehamafdceaeaaWArr
import Derived.Test.YtgehamafdceaeaaWZeros
import Derived.Test.YtgehamafdceaeaaWFoot
import Derived.Test.YtgehamafdceaeaaWKept
import Derived.Test.YtgehamafdceaeaaWShare
import Derived.Test.YtgehamafdceaeaaWN
import Derived.Test.YtgehamafdceaeaaWFootNe
import Derived.Test.YtgehamafdceaeaaWAt
import Derived.Test.YtgehamafdceaeaaWEqStruct
import Derived.Test.YtgehamafdceaeaaWRepsOne
import Derived.Test.YtgehamafdceaeaaWInv
import Derived.Test.YtgehamafdceaeaaWInvWords
import Derived.Test.YtgehamafdceaeaaWGuard
import Derived.Test.YtgehamafdceaeaaWNEv
import Derived.Test.YtgehamafdceaeaaWMore
import Derived.WalkMore
namespace Go.Proofs.Ytgehamafdceaeaa.Hand
open Go.RowKit Go.Proofs.YtgehamafdceaeaaW.PrintWords Go.Proofs.YtgehamafdceaeaaW.PrintLast Go.Proofs.YtgehamafdceaeaaW.PrintMore

/-- A line that may be. -/
def okLine (l : List Int) : Bool := decide (l.Nodup ∧ (∀ x ∈ l, 0 ≤ x) ∧ l.length ≤ 64)

def clean (l : List Int) (i : Nat) : Prop := (l.take i).Nodup ∧ ∀ x ∈ l.take i, 0 ≤ x

theorem rd_get (l : List Int) (i : Nat) (h : i < l.length) : rd l i = l[i] := by
  unfold rd
  rw [List.getD_eq_getElem?_getD, Int.toNat_natCast, List.getElem?_eq_getElem h]; rfl

theorem take_one (l : List Int) (i : Nat) (h : i < l.length) : l.take (i + 1) = l.take i ++ [rd l i] := by
  rw [List.take_succ_eq_append_getElem h, rd_get l i h]

theorem clean_zero (l : List Int) : clean l 0 := by simp [clean]

theorem mem_take_rd (l : List Int) (i : Nat) (hi : i ≤ l.length) (x : Int) (hx : x ∈ l.take i) : ∃ t, t < i ∧ rd l t = x := by
  obtain ⟨t, ht, he⟩ := List.getElem_of_mem hx
  have h1 : t < i := by rw [List.length_take] at ht; omega
  refine ⟨t, h1, ?_⟩
  rw [rd_get l t (by omega), ← he, List.getElem_take]

theorem clean_step (l : List Int) (i : Nat) (h : i < l.length) (hc : clean l i) (hd : ∀ t, t < i → ¬ rd l t = rd l i) (h0 : 0 ≤ rd l i) : clean l (i + 1) := by
  unfold clean
  rw [take_one l i h]
  refine ⟨?_, ?_⟩
  · rw [List.nodup_append]
    refine ⟨hc.1, by simp, ?_⟩
    intro a ha b hb
    rw [List.mem_singleton.1 hb]
    obtain ⟨t, ht, he⟩ := mem_take_rd l i (by omega) a ha
    rw [← he]
    exact hd t ht
  · intro x hx
    rcases List.mem_append.1 hx with hx | hx
    · exact hc.2 x hx
    · rw [List.mem_singleton.1 hx]; exact h0

theorem okLine_end (l : List Int) (hc : clean l l.length) : okLine l = decide (l.length ≤ 64) := by
  unfold clean at hc
  rw [List.take_length] at hc
  unfold okLine
  by_cases h : l.length ≤ 64
  · rw [decide_eq_true h, decide_eq_true ⟨hc.1, hc.2, h⟩]
  · rw [decide_eq_false h, decide_eq_false (fun q => h q.2.2)]

theorem okLine_dup (l : List Int) (t i : Nat) (ht : t < i) (hi : i < l.length) (he : rd l t = rd l i) : okLine l = false := by
  refine decide_eq_false (fun q => ?_)
  have hn := q.1
  rw [rd_get l t (by omega), rd_get l i hi] at he
  exact List.pairwise_iff_getElem.1 hn t i (by omega) hi ht he

theorem okLine_neg (l : List Int) (i : Nat) (hi : i < l.length) (h0 : rd l i < 0) : okLine l = false := by
  refine decide_eq_false (fun q => ?_)
  have := q.2.1 l[i] (List.getElem_mem hi)
  rw [rd_get l i hi] at h0
  omega

set_option maxHeartbeats 1000000 in
set_option maxRecDepth 100000 in
theorem Right_any (A : Option Addr) (c : Nat) (l : List Int) (w : World) (hC0 : Kd.C (Kd.int .i64) w A l.length l) (hc0 : l.length ≤ c) :
    Calls Try.prog 8 #[.slice A l.length c] w fun e w' => e = .returned (.bool (okLine l)) ∧ w' = w := by
  have hlen : l.length ≤ 9223372036854775807 := hC0.2.1
  have HC := Aside0.mk hC0
  clear hC0
  go_enter Try.func8, Try.ntmps8
  go_wp2
  go_step3
  go_wp2
  go_step3
  go_wp2
  go_loopg [3, 4, 6, 9] l.length (fun g v3 v4 v6 v9 wx => wx = w ∧ ∃ i : Nat, i + g = l.length ∧ v9 = .int .i64 i ∧ Aside0 (clean l i))
  case atStart => exact ⟨rfl, 0, by omega, rfl, ⟨clean_zero l⟩⟩
  case round =>
    obtain ⟨rfl, i, hig, rfl, Hcl⟩ := hrel
    cases gk with
    | zero =>
      have hi : i = l.length := by omega
      have He := Aside0.mk (okLine_end l (hi ▸ Hcl.out))
      clear Hcl
      have hnot : ¬ ((i : Int) < (l.length : Int)) := by omega
      clear hi
      go_wp2
      first | rw [Exit.noGoto_ret] | skip
      go_ret
      exact ⟨by rw [He.out]; simp; omega, rfl⟩
    | succ go =>
      have hlt : i < l.length := by omega
      obtain ⟨ad, rfl, hx⟩ := Kd.at_int HC.out (i : Int) (by omega) (by omega)
      have hil : (i : Int) < (l.length : Int) := by omega
      rw [Int.toNat_natCast] at hx
      obtain ⟨wo, rfl⟩ : ∃ wo : World, wo = wr := ⟨_, rfl⟩
      go_wp2
      go_loopg [6, 18] i (fun g v6 v18 wx => wx = wo ∧ ∃ j : Nat, j + g = i ∧ v18 = .int .i64 j ∧ Aside0 (∀ t : Nat, t < j → ¬ rd l t = rd l i))
      case atStart => exact ⟨rfl, 0, by omega, rfl, ⟨fun t ht => absurd ht (by omega)⟩⟩
      case round =>
        obtain ⟨rfl, j, hjg, rfl, Hd⟩ := hrel
        cases gk with
        | zero =>
          have hji : j = i := by omega
          have hnot : ¬ ((j : Int) < (i : Int)) := by omega
          by_cases h0 : 0 ≤ rd l i
          · have Hs := Aside0.mk (clean_step l i hlt Hcl.out (fun t ht => Hd.out t (by omega)) h0)
            clear hji
            go_wp2
            go_roundg go
            case rel => exact ⟨rfl, i + 1, by omega, by go_num, Hs⟩
            case measure => omega
          · have Hs := Aside0.mk (okLine_neg l i hlt (by omega))
            have h0' : ¬ (rd l i ≥ 0) := h0
            clear hji
            go_wp2
            first | rw [Exit.noGoto_ret] | skip
            go_ret
            exact ⟨by rw [Hs.out]; rfl, rfl⟩
        | succ g2 =>
          have hjlt : j < i := by omega
          obtain ⟨ad2, he2, hx2⟩ := Kd.at_int HC.out (j : Int) (by omega) (by omega)
          cases he2
          rw [Int.toNat_natCast] at hx2
          have hjl : (j : Int) < (i : Int) := by omega
          by_cases heq : rd l i = rd l j
          · have Hs := Aside0.mk (okLine_dup l j i hjlt hlt heq.symm)
            have hb : (rd l i != rd l j) = false := by rw [heq]; simp
            clear heq
            go_wp2
            first | rw [Exit.noGoto_ret] | skip
            go_ret
            exact ⟨by rw [Hs.out]; rfl, rfl⟩
          · have hb : (rd l i != rd l j) = true := bne_iff_ne.2 heq
            have Hd2 := Aside0.mk (show ∀ t : Nat, t < j + 1 → ¬ rd l t = rd l i from fun t ht => by
              by_cases h : t = j
              · subst h; exact fun q => heq q.symm
              · exact Hd.out t (by omega))
            clear heq
            go_wp2
            go_roundg g2
            case rel => exact ⟨rfl, j + 1, by omega, by go_num, Hd2⟩
            case measure => omega

/-! ### what it tells -/
def line_Right.f (l0 : List Int) : Option (Bool) := some (okLine l0)
theorem line_Right.calls (A0 : Option Addr) (c0 : Nat) (l0 : List Int) (r : Bool) (w : World) (hr0 : Kd.C (Kd.int .i64) w A0 l0.length l0) (hc0 : l0.length ≤ c0) (h : line_Right.f l0 = some r) :
    Calls Try.prog 8 #[.slice A0 l0.length c0] w fun e w' => e = .returned (.bool r) ∧ Drawn0 w w' := by
  obtain rfl := Option.some.inj h
  refine (Right_any A0 c0 l0 w hr0 hc0).mono ?_
  rintro e w' ⟨rfl, rfl⟩
  exact ⟨rfl, Drawn0.refl _⟩

end Go.Proofs.Ytgehamafdceaeaa.Hand
