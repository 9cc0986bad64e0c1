/- A slice argument, read as data, is a row of elements in the sense of the seat's words (Kd.C), whatever the elements' kind. Condition: each element's reading gives a value of that kind. -/
import Derived.Test.YtfebhemdpbnebaaDoorWMore
import Derived.Deep.Slices
import Derived.Deep.Fields
import Derived.ChangeSame
import Derived.ProofKit
import Derived.Below
namespace Go.Proofs.YtfebhemdpbnebaaDoor.Hand
open Go.RowKit Go.ChangeShapes Go.WideShapes Go.Deep Go.Proofs.YtfebhemdpbnebaaDoorW.PrintWords Go.Proofs.YtfebhemdpbnebaaDoorW.PrintLast
section
variable {H : Type} {enc : TypeId × Value → H} {P : Program} {w : World} {base : Nat} {spare : Nat → Bool} {held : Bool}

theorem C_of_trod {α : Type} (d : Kd α) (Q : α → Prop) {t e : TypeId} {fuel : Nat} {A : Option Addr} {len cap : Nat} {x : DataW H × List MemPlace} (ht : P.underlying t = some (.slice e)) (hsz : P.cellsOf e = d.sz)
    (hel : ∀ n cs y, cs.length = d.sz → DataW.trod enc P w base spare held n e cs = some y → ∃ p, d.K w p cs ∧ Q p) (h : DataW.trod enc P w base spare held fuel t [.slice A len cap] = some x) :
    ∃ xs : List α, d.C w A len xs ∧ xs.length = len ∧ len ≤ cap ∧ len ≤ maxLen ∧ ∀ p ∈ xs, Q p := by
  rcases open_slice ht h with ⟨hcs, _⟩ | ⟨a, len', cap', m, n, D, Pl, hcs, _, hl, hm, hmm, _, hi⟩
  · simp at hcs
    obtain ⟨rfl, rfl, rfl⟩ := hcs
    exact ⟨[], ⟨rfl, by omega, fun h => by omega⟩, rfl, by omega, by omega, fun p hp => by simp at hp⟩
  · simp at hcs
    obtain ⟨rfl, rfl, rfl⟩ := hcs
    have hle : len ≤ m := by rw [hmm]; split <;> omega
    have key : ∀ k, k ≤ len → ∃ xs : List α, xs.length = k ∧ (∀ p ∈ xs, Q p) ∧ ∀ j p, xs[j]? = some p → ∃ c : List Value, c.length = d.sz ∧ d.K w p c ∧ ∀ i u, c[i]? = some u → w.cell? (a.add (j * d.sz + i)) = some u := by
      intro k
      induction k with
      | zero => exact fun _ => ⟨[], rfl, fun p hp => by simp at hp, fun j p hj => by simp at hj⟩
      | succ k ih =>
        intro hk
        obtain ⟨xs, hx, hq, hc⟩ := ih (by omega)
        obtain ⟨cs', hc', ht'⟩ := hi k (by omega)
        obtain ⟨_, hcl, hat⟩ := World.cells?_some hc'
        rw [hsz] at hcl hat hc'
        obtain ⟨p, hK, hQ⟩ := hel _ _ _ hcl ht'
        refine ⟨xs ++ [p], by simp [hx], ?_, ?_⟩
        · intro q hq'
          rcases List.mem_append.1 hq' with h' | h'
          · exact hq q h'
          · rw [List.mem_singleton.1 h']; exact hQ
        · intro j q hj
          rcases Nat.lt_or_ge j xs.length with hjl | hjl
          · rw [List.getElem?_append_left hjl] at hj
            exact hc j q hj
          · have hjk : j = k := by
              have := (List.getElem?_eq_some_iff.1 hj).1
              simp [hx] at this
              omega
            subst hjk
            rw [List.getElem?_append_right hjl, hx, Nat.sub_self] at hj
            have hj : p = q := by simpa using hj
            subst hj
            refine ⟨cs', hcl, hK, fun i u hu => ?_⟩
            have hil : i < d.sz := by rw [← hcl]; exact (List.getElem?_eq_some_iff.1 hu).1
            rw [← Go.Deep.add_add, hat i hil, hu]
    obtain ⟨xs, hx, hq, hc⟩ := key len (Nat.le_refl _)
    have hmax : len ≤ maxLen := by omega
    exact ⟨xs, ⟨hx, by unfold maxLen at hmax; omega, fun _ => ⟨a, rfl, hc⟩⟩, hx, hl, hmax, hq⟩

end
end Go.Proofs.YtfebhemdpbnebaaDoor.Hand
