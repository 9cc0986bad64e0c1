/- The machine side of the package cell: what Right, Load, Add, Swap and Cas hand back, as Lean functions, and for each a proof that the call does so: a memory of cells is copied, one cell of the copy is written. No conditions beyond each statement. -/
import Derived.Test.YtdecbngdmnmokaaProg
import Derived.Below
import Derived.Deep.Draws
import Derived.Deep.AppendLies
import Derived.Maps.AppendAt
import Derived.OwnWalk
import Derived.Laws.BytesArg
import Derived.Laws.MakeOwn
import Derived.Laws.OwnMore
import Derived.Deep.OwnRows
import Derived.Tactics
import Derived.Lib.ConvBytes
import Derived.Laws.Slices
import Derived.WalkKit
import Derived.KernelRfl
import Derived.RowKit3
import Derived.Deep.LoopGhost
import Derived.Deep.QuietTactic
import Derived.BigQuiet
import Derived.WideLaws
import Derived.Deep.DeepCutAuto
import Derived.Deep.CutBlock
import Derived.Deep.RegionHeld3
import Derived.Laws.Rows
import Derived.Lib.AppendStr
import Derived.ArgAppend
import Derived.Laws.IdiomCopy
import Derived.OrdersHeld
import Derived.Laws.BitsLemmas
import Derived.RowKit
import Derived.Test.YtdecbngdmnmokaaWWords
import Derived.Test.YtdecbngdmnmokaaWLast
import Derived.Test.YtdecbngdmnmokaaWTab
import Derived.Test.YtdecbngdmnmokaaWFour
import Derived.Test.YtdecbngdmnmokaaWQPut
import Derived.Test.YtdecbngdmnmokaaWApart
import Derived.Test.YtdecbngdmnmokaaWArr
import Derived.Test.YtdecbngdmnmokaaWZeros
import Derived.Test.YtdecbngdmnmokaaWFoot
import Derived.Test.YtdecbngdmnmokaaWKept
import Derived.Test.YtdecbngdmnmokaaWShare
import Derived.Test.YtdecbngdmnmokaaWN
import Derived.Test.YtdecbngdmnmokaaWFootNe
import Derived.Test.YtdecbngdmnmokaaWAt
import Derived.Test.YtdecbngdmnmokaaWEqStruct
import Derived.Test.YtdecbngdmnmokaaWRepsOne
import Derived.Test.YtdecbngdmnmokaaWInv
import Derived.Test.YtdecbngdmnmokaaWInvWords
import Derived.Test.YtdecbngdmnmokaaWGuard
import Derived.Test.YtdecbngdmnmokaaWNEv
import Derived.Test.YtdecbngdmnmokaaWMore
import Derived.WalkMore
import Derived.Laws.CopyRow
namespace Go.Proofs.Ytdecbngdmnmokaa.Hand
open Go.RowKit Go.Proofs.YtdecbngdmnmokaaW.PrintWords Go.Proofs.YtdecbngdmnmokaaW.PrintLast Go.Proofs.YtdecbngdmnmokaaW.PrintMore
set_option linter.unusedVariables false
set_option linter.unusedSimpArgs false

def errW : Option Int → Value
  | none => .nilIface
  | some c => .iface 0 (.int .i64 c)
theorem errW_none : errW none = .nilIface := rfl
theorem errW_some (c : Int) : errW (some c) = .iface 0 (.int .i64 c) := rfl
theorem info44 : (Try.prog.info? 44).map (fun i => (i.zero, i.size, i.bytes)) = some (some (.agg #[(.int .i64 0), (.int .i64 0)]), 2, 16) := by kernel_rfl

-- the values' own types
/-! #### struct type 44 -/
structure S44 where
  f0 : Int
  f1 : Int
def z44 : S44 := ⟨(0 : Int), (0 : Int)⟩
def k44 : Kd S44 := Kd.iso (Kd.pair (Kd.int .i64) (Kd.int .i64)) (fun x : S44 => (x.f0, x.f1))
theorem k44_open {w : World} {x : S44} {cs : List Value} (h : k44.K w x cs) : cs = [.int .i64 x.f0, .int .i64 x.f1] := by
  obtain ⟨_, _, rfl, rfl, rfl⟩ := h
  exact rfl
theorem k44_openM {w : World} {base : Nat} {ok : Nat → Prop} {x : S44} {cs : List Value} (h : k44.M w base ok x cs) : cs = [.int .i64 x.f0, .int .i64 x.f1] := by
  obtain ⟨_, _, rfl, rfl, rfl⟩ := h
  exact rfl
theorem k44_mk (w : World) (x : S44)  : k44.K w x [.int .i64 x.f0, .int .i64 x.f1] := ⟨[.int .i64 x.f0], [.int .i64 x.f1], rfl, rfl, rfl⟩
theorem k44_mkM (w : World) (base : Nat) (ok : Nat → Prop) (x : S44)  : k44.M w base ok x [.int .i64 x.f0, .int .i64 x.f1] := ⟨[.int .i64 x.f0], [.int .i64 x.f1], rfl, rfl, rfl⟩
def rd_T44 (xs : List S44) (i : Int) : S44 := xs.getD i.toNat z44
theorem at_T44 {w : World} {A : Option Addr} {n : Nat} {xs : List S44} (h : Kd.C k44 w A n xs) (i : Int) (h0 : 0 ≤ i) (h1 : i < n) : ∃ ad , A = some ad ∧ w.cell? (ad.add (i.toNat * 2)) = some (.int .i64 (rd_T44 xs i).f0) ∧ w.cell? ⟨(ad.add (i.toNat * 2)).block, (ad.add (i.toNat * 2)).off + 1, none⟩ = some (.int .i64 (rd_T44 xs i).f1) := by
  obtain ⟨ad, c, e, _, hK, hc0⟩ := Kd.C_get h z44 i h0 h1
  have hc : ∀ j u, c[j]? = some u → w.cell? (ad.add (i.toNat * 2 + j)) = some u := hc0
  obtain rfl := k44_open hK
  exact ⟨ad, e, hc 0 _ rfl, by rw [← add_field _ _ 1 (by omega)]; exact hc 1 _ rfl⟩


/-! #### a memory as its cells -/
def flat : List S44 → List Value
  | [] => []
  | c :: r => .int .i64 c.f0 :: .int .i64 c.f1 :: flat r
theorem flat_len : ∀ l : List S44, (flat l).length = 2 * l.length
  | [] => rfl
  | c :: r => by simp only [flat, List.length_cons, flat_len r]; omega
theorem flat_0 : ∀ (l : List S44) (i : Nat), i < l.length → (flat l)[2 * i]? = some (.int .i64 (l.getD i z44).f0)
  | c :: r, 0, _ => rfl
  | c :: r, i + 1, h => by
    rw [show 2 * (i + 1) = (2 * i + 1) + 1 by omega]
    simp only [flat, List.getElem?_cons_succ, List.getD_cons_succ]
    exact flat_0 r i (by simpa using h)
theorem flat_1 : ∀ (l : List S44) (i : Nat), i < l.length → (flat l)[2 * i + 1]? = some (.int .i64 (l.getD i z44).f1)
  | c :: r, 0, _ => rfl
  | c :: r, i + 1, h => by
    rw [show 2 * (i + 1) + 1 = ((2 * i + 1) + 1) + 1 by omega]
    simp only [flat, List.getElem?_cons_succ, List.getD_cons_succ]
    exact flat_1 r i (by simpa using h)
theorem flat_set : ∀ (l : List S44) (i : Nat) (v : Int), i < l.length → (flat l).set (2 * i + 1) (.int .i64 v) = flat (l.set i ⟨(l.getD i z44).f0, v⟩)
  | c :: r, 0, v, _ => rfl
  | c :: r, i + 1, v, h => by
    rw [show 2 * (i + 1) + 1 = ((2 * i + 1) + 1) + 1 by omega]
    simp only [flat, List.set_cons_succ, List.getD_cons_succ]
    rw [flat_set r i v (by simpa using h)]
theorem flat_one : ∀ (l : List S44), ∀ u ∈ flat l, u.oneCell' = true
  | [], u, h => by simp [flat] at h
  | c :: r, u, h => by
    rcases List.mem_cons.1 h with rfl | h
    · rfl
    rcases List.mem_cons.1 h with rfl | h
    · rfl
    exact flat_one r u h
theorem flat_drop : ∀ (l : List S44) (i : Nat), i < l.length → ((flat l).drop (i * 2)).take 2 = [.int .i64 (l.getD i z44).f0, .int .i64 (l.getD i z44).f1]
  | c :: r, 0, _ => rfl
  | c :: r, i + 1, h => by
    rw [show (i + 1) * 2 = (i * 2 + 1) + 1 by omega]
    simp only [flat, List.drop_succ_cons, List.getD_cons_succ]
    exact flat_drop r i (by simpa using h)
theorem reps_flat (w : World) (base : Nat) (ok : Nat → Prop) (l : List S44) : Reps (k44.M w base ok) 2 l (flat l) := by
  refine ⟨by rw [flat_len]; omega, fun j p hj => ?_⟩
  obtain ⟨hl, rfl⟩ := List.getElem?_eq_some_iff.1 hj
  rw [flat_drop l j hl, List.getD_eq_getElem?_getD, List.getElem?_eq_getElem hl]
  exact k44_mkM w base ok _
theorem inner_flat {w : World} {l : List S44} {inner : List Value} (h : Reps (k44.K w) 2 l inner) : inner = flat l := by
  have hl : inner.length = 2 * l.length := by rw [h.1]; omega
  refine List.ext_getElem? (fun t => ?_)
  rcases Nat.lt_or_ge t inner.length with ht | ht
  · have hj : t / 2 < l.length := by omega
    have hk := k44_open (h.2 (t / 2) _ (List.getElem?_eq_getElem hj))
    have hg : l.getD (t / 2) z44 = l[t / 2] := by rw [List.getD_eq_getElem?_getD, List.getElem?_eq_getElem hj]; rfl
    rcases Nat.mod_two_eq_zero_or_one t with hm | hm
    · have e : t = 2 * (t / 2) := by omega
      have h1 : ((inner.drop (t / 2 * 2)).take 2)[0]? = some (.int .i64 (l[t / 2]).f0) := by rw [hk]; rfl
      rw [List.getElem?_take_of_lt (by omega), List.getElem?_drop] at h1
      rw [show t / 2 * 2 + 0 = t by omega] at h1
      have q := flat_0 l (t / 2) hj
      rw [hg, ← e] at q
      rw [h1, q]
    · have e : t = 2 * (t / 2) + 1 := by omega
      have h1 : ((inner.drop (t / 2 * 2)).take 2)[1]? = some (.int .i64 (l[t / 2]).f1) := by rw [hk]; rfl
      rw [List.getElem?_take_of_lt (by omega), List.getElem?_drop] at h1
      rw [show t / 2 * 2 + 1 = t by omega] at h1
      have q := flat_1 l (t / 2) hj
      rw [hg, ← e] at q
      rw [h1, q]
  · rw [List.getElem?_eq_none ht, List.getElem?_eq_none (by rw [flat_len]; omega)]
theorem cells_of {w : World} {A : Option Addr} {l : List S44} (h : Kd.C k44 w A l.length l) (h0 : 0 < l.length) : ∃ ad, A = some ad ∧ ∀ j u, (flat l)[j]? = some u → w.cell? (ad.add j) = some u := by
  obtain ⟨ad, rfl, _⟩ := h.2.2 h0
  obtain ⟨inner, hr, hc⟩ := ReadsRow.inner_ (R := k44.K w) (size := 2) h
  obtain rfl := inner_flat hr
  exact ⟨ad, rfl, hc⟩
theorem own_flat {w : World} {base g : Nat} (l : List S44) (hl : l.length ≤ 64) (hg : w.heap[g]? = some (.cells (flat l).toArray 44 (0, 0))) (hb : base ≤ g) : Kd.R k44 44 w base (fun _ => True) (.slice (some ⟨g, 0, none⟩) l.length l.length) l := by
  refine ⟨fun _ _ => trivial, flat l, ⟨?_, .inr ⟨g, l.length, (flat l).toArray, rfl, hb, hg, Nat.le_refl _, by simp only [maxLen]; omega, ?_, ?_⟩⟩, reps_flat _ _ _ l⟩
  · rw [flat_len]; show 2 * l.length = l.length * 2; omega
  · simp only [List.size_toArray, flat_len]; show 2 * l.length = l.length * 2; omega
  · simp only [List.toList_toArray]
    exact List.take_of_length_le (by rw [flat_len]; show 2 * l.length ≤ l.length * 2; omega)

/-- The whole of a row of two-celled elements copied onto a new row as long. -/
theorem run_copy2 {P : Program} (w : World) (dT sT ty elem : TypeId) (g n m c : Nat) (a : Addr) (cur : Array Value) (t : TypeId) (cs : List Value)
    (hu : P.underlying dT = some (.slice elem)) (hs : (P.info? elem).map (·.size) = some 2)
    (hg : w.heap[g]? = some (.cells cur t (0, 0))) (hn : cs.length = 2 * n) (hcur : cur.size = 2 * n)
    (hsrc : ∀ j v, cs[j]? = some v → w.cell? (a.add j) = some v) (h1 : ∀ v ∈ cs, v.oneCell' = true) :
    (Builtin.copy_ #[dT, sT] ty #[.slice (some ⟨g, 0, none⟩) n m, .slice (some a) n c]).run P w = .ok (goInt n) (w.setRow g cs.toArray) := by
  have hl := run_loadCells_list (P := P) w a cs hsrc
  have hst := run_storeCells_at P g 0 t cs 0 cur w hg (by omega) h1
  have hd : cur.toList.drop (0 + 0 + cs.length) = [] := List.drop_eq_nil_of_le (by simp; omega)
  rw [hd] at hst
  simp only [Nat.add_zero, List.take_zero, List.nil_append, List.append_nil] at hst
  cases hq : P.info? elem with
  | none => simp [hq] at hs
  | some i =>
    have hi : i.size = 2 := by simpa [hq] using hs
    rw [hn] at hl
    have hl' : (loadCells a (n * 2)).run P w = .ok cs.toArray w := by rw [Nat.mul_comm]; exact hl
    simp [Builtin.copy_, run_underlying hu, Builtin.lenOf, Builtin.firstCells, sizeOf, typeInfo, hq, hi, hl', hst]

end Go.Proofs.Ytdecbngdmnmokaa.Hand
