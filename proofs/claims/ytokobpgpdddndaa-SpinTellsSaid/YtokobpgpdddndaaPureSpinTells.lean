/- The plain law of SpinTells: for all numbers and tickets, the law function answers true: whether anybody may go round, which tickets may be, and any drawn, asked and served is as the reference says, or refused. No conditions. -/
import Derived.Test.YtokobpgpdddndaaPSpinTellsx3
import Derived.Test.YtokobpgpdddndaaSpin
namespace Go.Proofs.Ytokobpgpdddndaa.Pure
open Go.RowKit Go.Proofs.Ytokobpgpdddndaa.PSpinTells Go.Proofs.YtokobpgpdddndaaW.PrintWords Go.Proofs.YtokobpgpdddndaaW.PrintLast Go.Proofs.Ytokobpgpdddndaa.Hand
namespace SpinTellsAid

theorem alive_f : deadboltlaw06_alive.f = some true := by
  have h0 : okW 0 := ⟨by omega, by omega⟩
  have h1 : okW 4294967295 := ⟨by omega, by omega⟩
  simp [deadboltlaw06_alive.f, out_yes h0 h1, done_yes h0 h1]

theorem tmod_emod (x b : Int) : Int.tmod x b = if 0 ≤ x then x % b else -((-x) % b) := by
  split
  · rename_i h; exact Int.tmod_eq_emod_of_nonneg h
  · rename_i h
    have : Int.tmod x b = -(Int.tmod (-x) b) := by rw [Int.neg_tmod]; omega
    rw [this, Int.tmod_eq_emod_of_nonneg (by omega)]

theorem ref_rem (x : Int) : Int.tmod (wrap64 (Int.tmod x 4294967296 + 4294967296)) 4294967296 = x % 4294967296 := by
  have h0 := tmod_emod x 4294967296
  have h1 : wrap64 (Int.tmod x 4294967296 + 4294967296) = Int.tmod x 4294967296 + 4294967296 := by unfold wrap64; split at h0 <;> omega
  rw [h1, tmod_emod _ 4294967296]
  split at h0 <;> split <;> omega

theorem ref_wrap (x : Int) : deadboltref01_Wrap.f 1 x = some (x % 4294967296) := by
  unfold deadboltref01_Wrap.f
  rw [ref_rem]; simp

theorem ref_fits (v : Int) : deadboltref01_Fits.f 1 v = some (v % 4294967296 == v) := by
  simp [deadboltref01_Fits.f, deadboltref01_Kind.f, ref_wrap]

theorem ref_right {n s : Int} (hn : okW n) (hs : okW s) : deadboltref06_Right.f n s = some true := by
  have h1 := hn.1; have h2 := hn.2; have h3 := hs.1; have h4 := hs.2
  have e1 : (n % 4294967296 == n) = true := beq_iff_eq.2 (by omega)
  have e2 : (s % 4294967296 == s) = true := beq_iff_eq.2 (by omega)
  simp only [deadboltref06_Right.f, ref_fits, e1, e2, Option.bind_some, if_true]

theorem ref_right_no {n s : Int} (h : ¬ (okW n ∧ okW s)) : deadboltref06_Right.f n s = some false := by
  have hf : ∀ v : Int, ¬ okW v → (v % 4294967296 == v) = false := fun v hv => beq_eq_false_iff_ne.2 (fun e => hv ⟨by omega, by omega⟩)
  by_cases hn : okW n
  · have hs : ¬ okW s := fun hs => h ⟨hn, hs⟩
    have h1 := hn.1; have h2 := hn.2
    have e1 : (n % 4294967296 == n) = true := beq_iff_eq.2 (by omega)
    simp only [deadboltref06_Right.f, ref_fits, e1, hf s hs, Option.bind_some, if_true]
  · simp only [deadboltref06_Right.f, ref_fits, hf n hn, Option.bind_some, Bool.false_eq_true, if_false]

theorem ref_out {n s : Int} (hn : okW n) (hs : okW s) : deadboltref06_Out.f n s = some ((n - s) % 4294967296) := by
  have h1 := hn.1; have h2 := hn.2; have h3 := hs.1; have h4 := hs.2
  have : wrap64 (n - s) = n - s := by unfold wrap64; omega
  simp only [deadboltref06_Out.f, ref_wrap, this, Option.bind_some]

theorem ref_add {v : Int} (hv : okW v) : deadboltref01_Add.f 1 v 1 = some ((v + 1) % 4294967296) := by
  have h1 := hv.1; have h2 := hv.2
  have e1 : v % 4294967296 = v := by omega
  have e2 : wrap64 (v + 1) = v + 1 := by unfold wrap64; omega
  simp [deadboltref01_Add.f, ref_wrap, e1, e2]

theorem can_f (a0 a1 : Int) : spin_Can.f a0 a1 = if a0 < 0 ∨ a1 < 0 then some (false, 1) else some (decide (a0 < 4 ∧ a1 > 1), 0) := by
  unfold spin_Can.f
  by_cases h0 : a0 < 0
  · simp [h0]
  · by_cases h1 : a1 < 0
    · simp [h0, h1]
    · by_cases h4 : a0 < 4 <;> simp [h0, h1, h4]

theorem ref_can (a0 a1 : Int) : deadboltref06_Can.f a0 a1 = some (decide (a0 < 4 ∧ a1 > 1)) := by
  unfold deadboltref06_Can.f
  by_cases h4 : a0 < 4 <;> simp [h4]

theorem j4_yes {n s : Int} (hn : okW n) (hs : okW s) (k : Nat) (b : Int) (d0 d1 : Int) (hd : spin_Done.f n s = some (d0, d1, b)) : deadboltlaw06_SpinTells.j4 (k + 1) b n s d0 d1 0 0 = some true := by
  simp only [deadboltlaw06_SpinTells.j4, ref_out hn hs, Option.bind_some]
  by_cases ho : (n - s) % 4294967296 = 0
  · rw [done_none hn hs ho] at hd
    simp at hd
    obtain ⟨rfl, rfl, rfl⟩ := hd
    simp [ho]
  · rw [done_yes hn hs ho] at hd
    simp at hd
    obtain ⟨rfl, rfl, rfl⟩ := hd
    simp [ho, deadboltref06_Done.f, ref_add hs]

theorem j3_yes {n s : Int} (hn : okW n) (hs : okW s) (k : Nat) (e0 e1 m f : Int) (hdr : spin_Draw.f n s = some (e0, e1, m, f)) (b d0 d1 : Int) (hd : spin_Done.f n s = some (d0, d1, b)) :
    deadboltlaw06_SpinTells.j3 (k + 2) m f b false n s e0 e1 d0 d1 0 0 = some true := by
  have h4 := j4_yes hn hs k b d0 d1 hd
  simp only [deadboltlaw06_SpinTells.j3, Bool.false_eq_true, if_false, ref_out hn hs, Option.bind_some]
  by_cases ho : (n - s) % 4294967296 = 4294967295
  · rw [draw_full hn hs ho] at hdr
    simp at hdr
    obtain ⟨rfl, rfl, rfl, rfl⟩ := hdr
    simp [ho, h4]
  · rw [draw_yes hn hs ho] at hdr
    simp at hdr
    obtain ⟨rfl, rfl, rfl, rfl⟩ := hdr
    simp [ho, deadboltref06_Draw.f, ref_add hn, h4]

end SpinTellsAid
open SpinTellsAid

theorem SpinTells (a0 a1 n s m : Int) : deadboltlaw06_SpinTells.f 6 a0 a1 n s m = some true := by
  unfold deadboltlaw06_SpinTells.f
  -- what the last three parts tell, whatever 'can' told
  have hrest : ∀ (x12 x13 : Int) (x14 : Bool) (x15 x17 x18 x19 e0 e1 d0 d1 : Int), spin_Draw.f n s = some (e0, e1, x12, x13) → spin_Turn.f n s m = some (x14, x15) → spin_Done.f n s = some (d0, d1, x17) → spin_Out.f n s = some (x18, x19) →
      deadboltlaw06_SpinTells.j2 4 m x12 x13 x14 x15 x17 x18 x19 n s e0 e1 d0 d1 0 0 = some true := by
    intro x12 x13 x14 x15 x17 x18 x19 e0 e1 d0 d1 hdr ht hd ho
    by_cases h : okW n ∧ okW s
    · obtain ⟨hn, hs⟩ := h
      rw [turn_yes m hn hs] at ht
      rw [out_yes hn hs] at ho
      simp at ht ho
      obtain ⟨rfl, rfl⟩ := ht
      obtain ⟨rfl, rfl⟩ := ho
      have h3 := j3_yes hn hs 1 e0 e1 x12 x13 hdr x17 d0 d1 hd
      simp [deadboltlaw06_SpinTells.j2, ref_right hn hs, ref_out hn hs, h3]
    · rw [turn_no m h] at ht
      rw [out_no h] at ho
      rw [draw_no h] at hdr
      rw [done_no h] at hd
      simp at ht ho hdr hd
      obtain ⟨rfl, rfl⟩ := ht
      obtain ⟨rfl, rfl⟩ := ho
      obtain ⟨rfl, rfl, rfl, rfl⟩ := hdr
      obtain ⟨rfl, rfl, rfl⟩ := hd
      simp [deadboltlaw06_SpinTells.j2, ref_right_no h]
  have hbind : ∀ (x9 : Bool) (x10 : Int) (x12 x13 : Int) (x14 : Bool) (x15 x17 x18 x19 e0 e1 d0 d1 : Int), spin_Can.f a0 a1 = some (x9, x10) → spin_Draw.f n s = some (e0, e1, x12, x13) → spin_Turn.f n s m = some (x14, x15) → spin_Done.f n s = some (d0, d1, x17) → spin_Out.f n s = some (x18, x19) →
      deadboltlaw06_SpinTells.j0 6 a0 a1 m x9 x10 x12 x13 x14 x15 x17 x18 x19 false n s e0 e1 d0 d1 0 0 = some true := by
    intro x9 x10 x12 x13 x14 x15 x17 x18 x19 e0 e1 d0 d1 hc hdr ht hd ho
    have h2 := hrest x12 x13 x14 x15 x17 x18 x19 e0 e1 d0 d1 hdr ht hd ho
    rw [can_f] at hc
    simp only [deadboltlaw06_SpinTells.j0, Bool.false_eq_true, if_false, deadboltlaw06_SpinTells.j1, if_true, ref_can, Option.bind_some]
    by_cases hneg : a0 < 0 ∨ a1 < 0
    · rw [if_pos hneg] at hc
      simp at hc
      obtain ⟨rfl, rfl⟩ := hc
      by_cases h0 : a0 < 0
      · simp [h0, h2]
      · have h1 : a1 < 0 := by omega
        simp [h0, h1, h2]
    · rw [if_neg hneg] at hc
      simp only [Option.some.injEq, Prod.mk.injEq] at hc
      obtain ⟨rfl, rfl⟩ := hc
      rw [if_neg (by omega), decide_eq_false (show ¬ a1 < 0 by omega)]
      simp [h2]
  have key : ∀ {c : Bool × Int} {dr : Int × Int × Int × Int} {t : Bool × Int} {d : Int × Int × Int} {o : Int × Int}, spin_Can.f a0 a1 = some c → spin_Draw.f n s = some dr → spin_Turn.f n s m = some t → spin_Done.f n s = some d → spin_Out.f n s = some o →
      deadboltlaw06_SpinTells.j0 6 a0 a1 m c.1 c.2 dr.2.2.1 dr.2.2.2 t.1 t.2 d.2.2 o.1 o.2 false n s dr.1 dr.2.1 d.1 d.2.1 0 0 = some true :=
    fun hc hdr ht hd ho => hbind _ _ _ _ _ _ _ _ _ _ _ _ _ hc hdr ht hd ho
  have hr : ∃ b, spin_Right.f n s = some b ∧ deadboltref06_Right.f n s = some b := by
    by_cases h : okW n ∧ okW s
    · exact ⟨true, right_yes h.1 h.2, ref_right h.1 h.2⟩
    · exact ⟨false, right_no h, ref_right_no h⟩
  obtain ⟨b, hb, hb'⟩ := hr
  obtain ⟨c, hc⟩ : ∃ c, spin_Can.f a0 a1 = some c := by rw [can_f]; split <;> exact ⟨_, rfl⟩
  have hall : ∃ dr t d o, spin_Draw.f n s = some dr ∧ spin_Turn.f n s m = some t ∧ spin_Done.f n s = some d ∧ spin_Out.f n s = some o := by
    by_cases h : okW n ∧ okW s
    · obtain ⟨hn, hs⟩ := h
      obtain ⟨dr, hdr⟩ : ∃ dr, spin_Draw.f n s = some dr := by
        by_cases ho : (n - s) % 4294967296 = 4294967295
        · exact ⟨_, draw_full hn hs ho⟩
        · exact ⟨_, draw_yes hn hs ho⟩
      obtain ⟨d, hd⟩ : ∃ d, spin_Done.f n s = some d := by
        by_cases ho : (n - s) % 4294967296 = 0
        · exact ⟨_, done_none hn hs ho⟩
        · exact ⟨_, done_yes hn hs ho⟩
      exact ⟨dr, _, d, _, hdr, turn_yes m hn hs, hd, out_yes hn hs⟩
    · exact ⟨_, _, _, _, draw_no h, turn_no m h, done_no h, out_no h⟩
  obtain ⟨dr, t, d, o, hdr, ht, hd, ho⟩ := hall
  have hk := key hc hdr ht hd ho
  rw [hc, hdr, ht, hd, ho, hb, hb']
  simp only [Option.bind_some, bne_self_eq_false, Bool.false_eq_true, if_false, alive_f, Bool.not_true]
  exact hk

end Go.Proofs.Ytokobpgpdddndaa.Pure
