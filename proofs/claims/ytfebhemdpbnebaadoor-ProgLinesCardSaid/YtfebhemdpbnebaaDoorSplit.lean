/- The machine side of the package prog, second text: strings.Split and strings.TrimSuffix in the form in which the print takes contracts. -/
import Derived.Test.YtfebhemdpbnebaaDoorHand
import Derived.Lib.SplitLaws
namespace Go.Proofs.YtfebhemdpbnebaaDoor.Hand
open Go.RowKit Go.Proofs.YtfebhemdpbnebaaDoorW.PrintWords Go.Proofs.YtfebhemdpbnebaaDoorW.PrintLast Go.Proofs.YtfebhemdpbnebaaDoorW.PrintMore
set_option linter.unusedVariables false

theorem reps_strings (w : World) (base : Nat) (ok : Nat → Prop) (l : List ByteArray) : Reps (Kd.string.M w base ok) Kd.string.sz l (l.map Value.string) := by
  refine ⟨by rw [List.length_map]; show l.length = l.length * 1; omega, fun j p h => ?_⟩
  show ((l.map Value.string).drop (j * 1)).take 1 = [Value.string p]
  rw [Nat.mul_one]
  have hj : (l.map Value.string)[j]? = some (Value.string p) := by rw [List.getElem?_map, h]; rfl
  obtain ⟨hlt, he⟩ := List.getElem?_eq_some_iff.1 hj
  rw [List.drop_eq_getElem_cons hlt, he]
  rfl

def strings_Split.f (a0 a1 : ByteArray) : Option (List ByteArray) := if a0.size ≤ 4096 ∧ 1 ≤ a1.size then some (Lib.splitB a1 0 (Lib.countB a0 a1) a0) else none
theorem strings_Split.calls (a0 : ByteArray) (a1 : ByteArray) (r : List ByteArray) (w : World) (h : strings_Split.f a0 a1 = some r) (hT : Laid w) :
    Calls Tryd.prog 20 #[.string a0, .string a1] w fun e w' => ∃ v0_ : Value, e = .returned (v0_) ∧ Kd.R Kd.string 9 w' w.heap.size (fun _ => True) v0_ r ∧ Below w.heap.size w w' := by
  unfold strings_Split.f at h
  by_cases hs : a0.size ≤ 4096 ∧ 1 ≤ a1.size
  · rw [if_pos hs] at h
    obtain rfl := Option.some.inj h
    obtain ⟨m, hm⟩ := hT.mx
    refine (Tryd.strings_Split a0 a1 m w (by omega) hm hs.2).mono ?_
    rintro e w' ⟨rfl, rfl⟩
    have hlen := Lib.splitB_all a1 hs.2 0 _ a0 rfl
    have hle : (Lib.splitB a1 0 (Lib.countB a0 a1) a0).length ≤ 9223372036854775807 := by
      rw [hlen]
      have := Lib.countB_le a1 hs.2 _ a0 (Nat.le_refl _)
      omega
    have ho := OwnRow.lit (e := 9) w w.heap.size (reps_strings (w.alloc (.cells ((Lib.splitB a1 0 (Lib.countB a0 a1) a0).map Value.string).toArray 9)) w.heap.size (fun k => True ∧ some k ≠ (Value.slice (some ⟨w.heap.size, 0, none⟩) (Lib.countB a0 a1 + 1) (Lib.countB a0 a1 + 1)).ownBlock) (Lib.splitB a1 0 (Lib.countB a0 a1) a0)) (Nat.le_refl _) hle
    rw [hlen] at ho
    exact ⟨_, rfl, ⟨fun _ _ => trivial, ho⟩, (Below.refl _ _).alloc (Nat.le_refl _) _⟩
  · rw [if_neg hs] at h
    cases h

def strings_TrimSuffix.f (a0 a1 : ByteArray) : Option ByteArray := if a0.size ≤ 9223372036854775807 then some ⟨(Lib.trimSuffix a0.data.toList a1.data.toList).toArray⟩ else none
theorem strings_TrimSuffix.calls (a0 : ByteArray) (a1 : ByteArray) (r : ByteArray) (w : World) (h : strings_TrimSuffix.f a0 a1 = some r) :
    Calls Tryd.prog 21 #[.string a0, .string a1] w fun e w' => e = .returned (.string r) ∧ Drawn0 w w' := by
  unfold strings_TrimSuffix.f at h
  by_cases hs : a0.size ≤ 9223372036854775807
  · rw [if_pos hs] at h
    obtain rfl := Option.some.inj h
    refine (Tryd.strings_TrimSuffix a0 a1 w hs).mono ?_
    rintro e w' ⟨rfl, rfl⟩
    exact ⟨rfl, ⟨0, rfl⟩⟩
  · rw [if_neg hs] at h
    cases h
end Go.Proofs.YtfebhemdpbnebaaDoor.Hand
