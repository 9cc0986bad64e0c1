/- Plain lemmas on tickets: what Out, Draw, Done and Turn tell of tickets that may be, and of tickets that may not. No conditions but those that each lemma names. -/
import Derived.Test.YtokobpgpdddndaaHand
import Derived.OpenShut
namespace Go.Proofs.Ytokobpgpdddndaa.Hand
open Go.RowKit

/-- A number is a word of kind WU32. -/
def okW (v : Int) : Prop := 0 ≤ v ∧ v < 4294967296

theorem fits_yes {v : Int} (h : okW v) : word_Fits.f 1 v = some true := by
  obtain ⟨h0, h1⟩ := h
  have : v % 4294967296 = v := by omega
  simp [word_Fits.f, word_Wrap.f, this]

theorem fits_no {v : Int} (h : ¬ okW v) : word_Fits.f 1 v = some false := by
  have : ¬ v % 4294967296 = v := fun e => h ⟨by omega, by omega⟩
  simp [word_Fits.f, word_Wrap.f, this]

theorem right_yes {n s : Int} (hn : okW n) (hs : okW s) : spin_Right.f n s = some true := by
  simp [spin_Right.f, fits_yes hn, fits_yes hs]

theorem right_no {n s : Int} (h : ¬ (okW n ∧ okW s)) : spin_Right.f n s = some false := by
  by_cases hn : okW n
  · simp [spin_Right.f, fits_yes hn, fits_no (fun hs => h ⟨hn, hs⟩)]
  · simp [spin_Right.f, fits_no hn]

theorem out_yes {n s : Int} (hn : okW n) (hs : okW s) : spin_Out.f n s = some ((n - s) % 4294967296, 0) := by
  have h1 := hn.1; have h2 := hn.2; have h3 := hs.1; have h4 := hs.2
  have : wrap64 (n + wrap64 (-s)) % 4294967296 = (n - s) % 4294967296 := by unfold wrap64; omega
  simp [spin_Out.f, right_yes hn hs, word_Add.f, word_Wrap.f, this]

theorem out_no {n s : Int} (h : ¬ (okW n ∧ okW s)) : spin_Out.f n s = some (0, 1) := by
  simp [spin_Out.f, right_no h]

theorem add_one {v : Int} (h : okW v) : word_Add.f 1 v 1 = some ((v + 1) % 4294967296, 0) := by
  have h1 := h.1; have h2 := h.2
  have : wrap64 (v + 1) = v + 1 := by unfold wrap64; omega
  simp [word_Add.f, word_Wrap.f, this]

theorem draw_yes {n s : Int} (hn : okW n) (hs : okW s) (ho : ¬ (n - s) % 4294967296 = 4294967295) : spin_Draw.f n s = some ((n + 1) % 4294967296, s, n, 0) := by
  simp [spin_Draw.f, out_yes hn hs, ho, add_one hn]

theorem draw_full {n s : Int} (hn : okW n) (hs : okW s) (ho : (n - s) % 4294967296 = 4294967295) : spin_Draw.f n s = some (0, 0, 0, 5) := by
  simp [spin_Draw.f, out_yes hn hs, ho]

theorem draw_no {n s : Int} (h : ¬ (okW n ∧ okW s)) : spin_Draw.f n s = some (0, 0, 0, 1) := by
  simp [spin_Draw.f, out_no h]

theorem done_yes {n s : Int} (hn : okW n) (hs : okW s) (ho : ¬ (n - s) % 4294967296 = 0) : spin_Done.f n s = some (n, (s + 1) % 4294967296, 0) := by
  simp [spin_Done.f, out_yes hn hs, ho, add_one hs]

theorem done_none {n s : Int} (hn : okW n) (hs : okW s) (ho : (n - s) % 4294967296 = 0) : spin_Done.f n s = some (0, 0, 6) := by
  simp [spin_Done.f, out_yes hn hs, ho]

theorem done_no {n s : Int} (h : ¬ (okW n ∧ okW s)) : spin_Done.f n s = some (0, 0, 1) := by
  simp [spin_Done.f, out_no h]

theorem turn_yes {n s : Int} (m : Int) (hn : okW n) (hs : okW s) : spin_Turn.f n s m = some (m == s, 0) := by
  simp [spin_Turn.f, right_yes hn hs]

theorem turn_no {n s : Int} (m : Int) (h : ¬ (okW n ∧ okW s)) : spin_Turn.f n s m = some (false, 1) := by
  simp [spin_Turn.f, right_no h]

theorem okW_mod (v : Int) : okW (v % 4294967296) := ⟨by omega, by omega⟩

end Go.Proofs.Ytokobpgpdddndaa.Hand
