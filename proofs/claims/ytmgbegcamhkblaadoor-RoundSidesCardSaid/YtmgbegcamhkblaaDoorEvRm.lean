/- Rounding: what is below, above, nearest. -/
import Derived.Test.YtmgbegcamhkblaaDoorEvRo
set_option linter.unusedSimpArgs false
set_option linter.unusedVariables false
namespace Go.Ev
open Go

theorem dof_up (f e : Int) {E : Int} {S : Nat} (h : e = E + S) : dof f e = dof (f * 2 ^ S) E := by rw [dof_shl, h]
/-- Either it is on the grid, or it lies between two neighbours. -/
theorem grd_cases (q : Dyadic) (e : Int) : (∀ mode, grd q e mode = q) ∨
    (∃ (E f r : Int) (S : Nat), 0 < S ∧ e = E + S ∧ dexp q = E ∧ q = dof (f * 2 ^ S + r) E ∧ 0 ≤ r ∧ r < 2 ^ S ∧ (q ≠ 0 → 0 < r) ∧ ∀ mode, grd q e mode = dof (if upB f r S mode then f + 1 else f) e) := by
  by_cases h : e ≤ dexp q
  · exact .inl fun mode => grd_ge h
  · refine .inr ⟨dexp q, dman q / 2 ^ (e - dexp q).toNat, dman q - dman q / 2 ^ (e - dexp q).toNat * 2 ^ (e - dexp q).toNat, (e - dexp q).toNat, by omega, by omega, rfl, ?_, (floor_rest _ _).1, (floor_rest _ _).2, fun h0 => odd_rest (dman_odd h0) (by omega), fun mode => ?_⟩
    · rw [show dman q / 2 ^ (e - dexp q).toNat * 2 ^ (e - dexp q).toNat + (dman q - dman q / 2 ^ (e - dexp q).toNat * 2 ^ (e - dexp q).toNat) = dman q by omega, dof_self]
    · unfold grd; rw [if_neg h]
theorem up0 (f r : Int) (S : Nat) : upB f r S 0 = false := by unfold upB; rw [if_pos rfl]
theorem up1 (f r : Int) (S : Nat) : upB f r S 1 = decide (0 < r) := by
  unfold upB; rw [if_neg (by decide), if_pos rfl]
  exact decide_eq_decide.2 (by show 0 < Int.sign r ↔ _; rw [Int.sign_pos_iff])
theorem up2 (f r : Int) (S : Nat) {mode : Int} (h0 : mode ≠ 0) (h1 : mode ≠ 1) : upB f r S mode = (decide (2 ^ S < r * 2) || (decide (r * 2 = 2 ^ S) && decide (f % 2 = 1))) := by
  unfold upB; rw [if_neg h0, if_neg h1]
  congr 1
  · exact decide_eq_decide.2 (by show 0 < Int.sign _ ↔ _; rw [Int.sign_pos_iff]; omega)
  · congr 1
    exact decide_eq_decide.2 (by rw [Int.sign_eq_zero_iff_zero]; omega)
/-- All that the laws ask of the three roundings on a grid. -/
theorem grd_facts (q : Dyadic) (e : Int) : grd q e 0 ≤ q ∧ q ≤ grd q e 1 ∧ q - grd q e 0 < dof 1 e ∧ grd q e 1 - q < dof 1 e ∧ (grd q e 2 = grd q e 0 ∨ grd q e 2 = grd q e 1) ∧
    (q - grd q e 0 < grd q e 1 - q → grd q e 2 = grd q e 0) ∧ (grd q e 1 - q < q - grd q e 0 → grd q e 2 = grd q e 1) ∧ (grd q e 0 = q ↔ grd q e 0 = grd q e 1) ∧ (grd q e 0 ≠ q → grd q e 1 - grd q e 0 = dof 1 e) := by
  have h1e : 0 < dof 1 e := dof_pos.2 (by decide)
  rcases grd_cases q e with h | ⟨E, f, r, S, hS, he, hE, hq, hr0, hr1, hr2, h⟩
  · rw [h, h, h]; grind
  · have a0 := h 0
    have a1 := h 1
    have a2 := h 2
    rw [up0, if_neg (by decide), dof_up f e he] at a0
    rw [up1] at a1
    rw [up2 f r S (by decide) (by decide)] at a2
    rw [dof_up 1 e he, Int.one_mul]
    by_cases hz : r = 0
    · have hq0 : q = 0 := Classical.byContradiction fun c => by have := hr2 c; omega
      have hp : (0 : Int) < 2 ^ S := Int.pow_pos (by decide)
      rw [decide_eq_false (by omega), if_neg (by decide), dof_up f e he] at a1
      rw [decide_eq_false (by omega), decide_eq_false (show ¬ r * 2 = 2 ^ S by omega), Bool.false_and, Bool.or_false, if_neg (by decide), dof_up f e he] at a2
      rw [hz, Int.add_zero] at hq
      rw [a0, a1, a2, hq]
      have hpp : 0 < dof (2 ^ S) E := dof_pos.2 hp
      grind
    · have hr3 : 0 < r := by omega
      rw [decide_eq_true hr3, if_pos rfl, dof_up (f + 1) e he, Int.add_mul, Int.one_mul] at a1
      rw [a0, a1]
      refine ⟨by rw [hq, dof_le]; omega, by rw [hq, dof_le]; omega, by rw [hq, dof_sub, dof_lt]; omega, by rw [hq, dof_sub, dof_lt]; omega, ?_, ?_, ?_, ?_, ?_⟩
      · rw [a2]; split
        · right; rw [dof_up (f + 1) e he, Int.add_mul, Int.one_mul]
        · left; rw [dof_up f e he]
      · intro h
        rw [hq, dof_sub, dof_sub, dof_lt] at h
        rw [a2, decide_eq_false (by omega), decide_eq_false (show ¬ r * 2 = 2 ^ S by omega), Bool.false_and, Bool.or_false, if_neg (by decide), dof_up f e he]
      · intro h
        rw [hq, dof_sub, dof_sub, dof_lt] at h
        rw [a2, decide_eq_true (by omega), Bool.true_or, if_pos rfl, dof_up (f + 1) e he, Int.add_mul, Int.one_mul]
      · rw [hq, dof_inj, dof_inj]; omega
      · intro _; rw [dof_sub]; congr 1; omega
end Go.Ev
