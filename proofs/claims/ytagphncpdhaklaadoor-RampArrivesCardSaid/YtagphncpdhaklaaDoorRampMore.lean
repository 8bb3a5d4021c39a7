/- More plain facts of chapter 24: levels in their row, and what the next ramp keeps. No conditions. -/
import Derived.Test.YtagphncpdhaklaaDoorRampPlain
namespace Go.Proofs.YtagphncpdhaklaaDoor.Plain
open Go.RowKit Go.Proofs.YtagphncpdhaklaaDoor.PAll Go.Proofs.YtagphncpdhaklaaDoorW.PrintWords Go.Proofs.YtagphncpdhaklaaDoorW.PrintLast Go.Proofs.YtagphncpdhaklaaDoorW.PrintMore
open Go.Proofs.YtagphncpdhaklaaDoor.Hand (levelV nextV sinceV)

section
variable {c2 c3 c4 c5 c6 : Int}

theorem level_zero (ok : Ok c3 c4 c5) : levelV c3 c4 c5 0 = 0 := level_low 0 (by have := ok.h1; omega)

theorem level_self (ok : Ok c3 c4 c5) (a : Int) : levelV c3 c4 c5 (levelV c3 c4 c5 a) = levelV c3 c4 c5 a := by
  by_cases h : a < c3
  · rw [level_low a h, level_zero ok]
  · obtain ⟨s1, s2, s3, s4, s5⟩ := level_spec ok a (by omega)
    exact level_of ok _ _ s2 s1 s3 (Int.le_refl _) (Or.inr (by have := ok.h4; omega))

theorem level_least (ok : Ok c3 c4 c5) : levelV c3 c4 c5 c3 = c3 :=
  level_of ok c3 c3 (Int.le_refl _) (by simp) ok.h2 (Int.le_refl _) (Or.inr (by have := ok.h4; omega))

theorem level_nil (ok : Ok c3 c4 c5) (a : Int) : levelV c3 c4 c5 a = 0 ↔ a < c3 := by
  refine ⟨fun h => ?_, level_low a⟩
  refine Int.lt_of_not_ge fun hge => ?_
  have := (level_spec ok a hge).2.1
  have := ok.h1
  omega

/-- The next one of the row. -/
theorem level_up (ok : Ok c3 c4 c5) {x : Int} (h : levelV c3 c4 c5 x = x) (h0 : x ≠ 0) (hx : x + c5 ≤ c4) : levelV c3 c4 c5 (x + c5) = x + c5 := by
  have r := level_row ok h h0
  have h4 := ok.h4
  refine level_of ok _ _ (by have := r.1; omega) ?_ hx (Int.le_refl _) (Or.inr (by omega))
  rw [show x + c5 - c3 = (x - c3) + c5 by omega, Int.add_emod_right]
  exact r.2

/-- What one tick from a valid ramp yields: the new amps, and whether since starts anew. -/
theorem next_facts (ok : Ok c3 c4 c5) {r0 r1 : Int} (g0 : 0 ≤ r0) (g1 : 0 ≤ r1) (g2 : r1 ≤ 1000000) (g3 : levelV c3 c4 c5 r0 = r0) (w : Int) :
    let p := nextV c3 c5 r0 r1 (levelV c3 c4 c5 w)
    (0 ≤ p.1 ∧ 0 ≤ p.2 ∧ p.2 ≤ 1000000 ∧ levelV c3 c4 c5 p.1 = p.1) ∧ ((p.1 = 0 ↔ r0 = 0) ∧ p.2 = sinceV r1 ∨ ¬ (p.1 = 0 ↔ r0 = 0) ∧ p.2 = 0) ∧ (r0 = 0 → p.1 ≠ 0 → 5 ≤ r1) := by
  have hs : 0 ≤ sinceV r1 ∧ sinceV r1 ≤ 1000000 := by unfold sinceV; split <;> omega
  have hz := level_zero ok
  have hl := level_least ok
  have hL := level_self ok w
  have hin := level_in ok w
  have o := ok
  obtain ⟨h1, h2, h3, h4, h5⟩ := o
  have hup : r0 ≠ 0 → r0 + c5 < levelV c3 c4 c5 w → levelV c3 c4 c5 (r0 + c5) = r0 + c5 := fun h hh => level_up ok g3 h (by omega)
  generalize levelV c3 c4 c5 w = L at *
  unfold nextV
  generalize sinceV r1 = s at *
  by_cases e0 : r0 = 0
  · rw [if_pos e0]
    by_cases e1 : L = 0
    · rw [if_pos e1]; refine ⟨⟨?_, ?_, ?_, hz⟩, Or.inl ⟨?_, rfl⟩, ?_⟩ <;> ((try dsimp only); first | omega | exact ⟨fun _ => e0, fun _ => rfl⟩ | exact ⟨fun _ => e0, fun _ => trivial⟩ | (simp_all; done) | (intro hh; simp_all; omega) | (intro a b; omega) | (constructor <;> intro a <;> omega) | (intro hh; have := hh.1; have := hh.2; omega))
    · rw [if_neg e1]
      by_cases e2 : r1 < 5
      · rw [if_pos e2]; refine ⟨⟨?_, ?_, ?_, hz⟩, Or.inl ⟨?_, rfl⟩, ?_⟩ <;> ((try dsimp only); first | omega | exact ⟨fun _ => e0, fun _ => rfl⟩ | exact ⟨fun _ => e0, fun _ => trivial⟩ | (simp_all; done) | (intro hh; simp_all; omega) | (intro a b; omega) | (constructor <;> intro a <;> omega) | (intro hh; have := hh.1; have := hh.2; omega))
      · rw [if_neg e2]; refine ⟨⟨?_, ?_, ?_, hl⟩, Or.inr ⟨?_, rfl⟩, ?_⟩ <;> ((try dsimp only); first | omega | exact ⟨fun _ => e0, fun _ => rfl⟩ | exact ⟨fun _ => e0, fun _ => trivial⟩ | (simp_all; done) | (intro hh; simp_all; omega) | (intro a b; omega) | (constructor <;> intro a <;> omega) | (intro hh; have := hh.1; have := hh.2; omega))
  · rw [if_neg e0]
    by_cases e1 : L = 0
    · rw [if_pos e1]; refine ⟨⟨?_, ?_, ?_, hz⟩, Or.inr ⟨?_, rfl⟩, ?_⟩ <;> ((try dsimp only); first | omega | exact ⟨fun _ => e0, fun _ => rfl⟩ | exact ⟨fun _ => e0, fun _ => trivial⟩ | (simp_all; done) | (intro hh; simp_all; omega) | (intro a b; omega) | (constructor <;> intro a <;> omega) | (intro hh; have := hh.1; have := hh.2; omega))
    · rw [if_neg e1]
      by_cases e2 : r0 + c5 < L
      · rw [if_pos e2]; refine ⟨⟨?_, ?_, ?_, hup e0 e2⟩, Or.inl ⟨?_, rfl⟩, ?_⟩ <;> ((try dsimp only); first | omega | exact ⟨fun _ => e0, fun _ => rfl⟩ | exact ⟨fun _ => e0, fun _ => trivial⟩ | (simp_all; done) | (intro hh; simp_all; omega) | (intro a b; omega) | (constructor <;> intro a <;> omega) | (intro hh; have := hh.1; have := hh.2; omega))
      · rw [if_neg e2]; refine ⟨⟨?_, ?_, ?_, hL⟩, Or.inl ⟨?_, rfl⟩, ?_⟩ <;> ((try dsimp only); first | omega | exact ⟨fun _ => e0, fun _ => rfl⟩ | exact ⟨fun _ => e0, fun _ => trivial⟩ | (simp_all; done) | (intro hh; simp_all; omega) | (intro a b; omega) | (constructor <;> intro a <;> omega) | (intro hh; have := hh.1; have := hh.2; omega))

theorem rB_of {r0 r1 s0 s1 : Int} (h : rB c2 c3 c4 c5 c6 r0 r1 = true) (h' : 0 ≤ s0 ∧ 0 ≤ s1 ∧ s1 ≤ 1000000 ∧ levelV c3 c4 c5 s0 = s0) : rB c2 c3 c4 c5 c6 s0 s1 = true := by
  unfold rB at h ⊢
  rw [Bool.and_eq_true] at h ⊢
  exact ⟨h.1, decide_eq_true h'⟩

/-- One tick: refused, or done, and the ramp is valid again. -/
theorem nxt_all {r0 r1 : Int} (h : rB c2 c3 c4 c5 c6 r0 r1 = true) (w : Int) :
    nxt c2 c3 c4 c5 c6 r0 r1 w = (0, 0, 1) ∨ ∃ s0 s1, nxt c2 c3 c4 c5 c6 r0 r1 w = (s0, s1, 0) ∧ rB c2 c3 c4 c5 c6 s0 s1 = true ∧ ((s0 = 0 ↔ r0 = 0) ∧ s1 = sinceV r1 ∨ ¬ (s0 = 0 ↔ r0 = 0) ∧ s1 = 0) ∧ (r0 = 0 → s0 ≠ 0 → 5 ≤ r1) := by
  obtain ⟨ok, g0, g1, g2, g3, g4⟩ := rB_true h
  have f := next_facts ok g0 g1 g2 g3 w
  unfold nxt
  rw [if_pos h]
  by_cases d1 : w < 0
  · rw [if_pos d1]; exact Or.inl rfl
  rw [if_neg d1]
  by_cases d2 : 80 < w
  · rw [if_pos d2]; exact Or.inl rfl
  rw [if_neg d2]
  exact Or.inr ⟨_, _, rfl, rB_of h f.1, f.2⟩

/-- An amount that is none of the row changes no level. -/
theorem level_prev (ok : Ok c3 c4 c5) (a : Int) (h : levelV c3 c4 c5 a ≠ a) : levelV c3 c4 c5 a = levelV c3 c4 c5 (a - 1) := by
  by_cases h1 : a < c3
  · rw [level_low a h1, level_low (a - 1) (by omega)]
  · obtain ⟨s1, s2, s3, s4, s5⟩ := level_spec ok a (by omega)
    exact (level_of ok (a - 1) _ s2 s1 s3 (by omega) (by omega)).symm
end
end Go.Proofs.YtagphncpdhaklaaDoor.Plain
