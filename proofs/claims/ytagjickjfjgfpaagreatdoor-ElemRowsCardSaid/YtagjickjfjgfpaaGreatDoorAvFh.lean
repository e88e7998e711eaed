/- Contracts of the given functions, on data. Conditions stand in each theorem. -/
import Derived.Test.YtagjickjfjgfpaaGreatDoorAvFf
set_option linter.unusedSimpArgs false
set_option linter.unusedVariables false
namespace Go.Ev.Ar
open Go Go.Ev Go.Proofs

theorem t_step {P E x f f' n : Rat} (hn : f = n * f') (h0 : n ≠ 0) (h : P * f = 479001600 * E) : P * x * f' = 479001600 * (x * E * (1 / n)) := by
  have i : n * (1 / n) = 1 := by grind
  generalize 1 / n = m at *
  grind
theorem tm_val (X : Dyadic) : (tmS X 13).1.toRat = 479001600 * (en 12 (Cr.ofQ X.toRat)).re ∧ (tmS X 13).2.1.toRat = 479001600 * (en 12 (iy X.toRat)).re ∧ (tmS X 13).2.2.1.toRat = 479001600 * (en 12 (iy X.toRat)).im := by
  obtain ⟨x, hx⟩ : ∃ x, X.toRat = x := ⟨_, rfl⟩
  rw [hx]
  obtain ⟨z1, z2, z3, z4⟩ := tmS0 X
  have P0 : (tmS X 0).2.2.2.toRat = 1 := by rw [z4, q_one]
  have A0 : (tmS X 0).1.toRat = 0 := by rw [z1, q_zero]
  have B0 : (tmS X 0).2.1.toRat = 0 := by rw [z2, q_zero]
  have C0 : (tmS X 0).2.2.1.toRat = 0 := by rw [z3, q_zero]
  have E0 : (et (Cr.ofQ x) 0).re = 1 := rfl
  have R0 : (et (iy x) 0).re = 1 := rfl
  have I0 : (et (iy x) 0).im = 0 := rfl
  have T0 : (tmS X 0).2.2.2.toRat * 479001600 = 479001600 * (et (Cr.ofQ x) 0).re := by rw [P0, E0]; grind
  have R0 : (et (iy x) 0).re = (et (Cr.ofQ x) 0).re := by rw [R0, E0]
  have F0 : (dof 479001600 0).toRat = 479001600 := by decide +kernel
  have g0 : fac 0 = 479001600 := by decide
  have A1 : (tmS X 1).1.toRat = (tmS X 0).1.toRat + 479001600 * (et (Cr.ofQ x) 0).re := by
    have e : (tmS X 1).1 = (tmS X 0).1 + (tmS X 0).2.2.2 * dof 479001600 0 := (tmA (X := X) g0).1
    rw [e, q_add, q_mul, F0, T0]
  have B1 : (tmS X 1).2.1.toRat = (tmS X 0).2.1.toRat + 479001600 * (et (iy x) 0).re := by
    have e : (tmS X 1).2.1 = (tmS X 0).2.1 + (tmS X 0).2.2.2 * dof 479001600 0 := (tmE0 (X := X) g0 (by decide) (by decide)).1
    rw [e, q_add, q_mul, F0, T0, R0]
  have C1 : (tmS X 1).2.2.1.toRat = (tmS X 0).2.2.1.toRat := congrArg Dyadic.toRat (tmE0 (X := X) g0 (by decide) (by decide)).2
  have T1 : (tmS X 1).2.2.2.toRat * 479001600 = 479001600 * (et (Cr.ofQ x) 1).re := by
    have e : (tmS X 1).2.2.2 = (tmS X 0).2.2.2 * X := (tmA (X := X) g0).2
    have k := et_re x 0
    rw [show ((0 + 1 : Nat) : Rat) = 1 from rfl] at k
    rw [e, q_mul, hx, k]
    exact t_step (f := 479001600) (by decide +kernel) (by decide) T0
  obtain ⟨r1, i1⟩ := et_iy x 0
  have k1 := et_re x 0
  rw [show ((0 + 1 : Nat) : Rat) = 1 from rfl] at k1 r1 i1
  have R1 : (et (iy x) 1).re = 0 := by rw [r1, I0]; try grind
  have I1 : (et (iy x) 1).im = (et (Cr.ofQ x) 1).re := by rw [i1, R0, k1]; try grind
  have F1 : (dof 479001600 0).toRat = 479001600 := by decide +kernel
  have g1 : fac 1 = 479001600 := by decide
  have A2 : (tmS X 2).1.toRat = (tmS X 1).1.toRat + 479001600 * (et (Cr.ofQ x) 1).re := by
    have e : (tmS X 2).1 = (tmS X 1).1 + (tmS X 1).2.2.2 * dof 479001600 0 := (tmA (X := X) g1).1
    rw [e, q_add, q_mul, F1, T1]
  have C2 : (tmS X 2).2.2.1.toRat = (tmS X 1).2.2.1.toRat + 479001600 * (et (iy x) 1).im := by
    have e : (tmS X 2).2.2.1 = (tmS X 1).2.2.1 + (tmS X 1).2.2.2 * dof 479001600 0 := (tmO0 (X := X) g1 (by decide) (by decide)).2
    rw [e, q_add, q_mul, F1, T1, I1]
  have B2 : (tmS X 2).2.1.toRat = (tmS X 1).2.1.toRat := congrArg Dyadic.toRat (tmO0 (X := X) g1 (by decide) (by decide)).1
  have T2 : (tmS X 2).2.2.2.toRat * 239500800 = 479001600 * (et (Cr.ofQ x) 2).re := by
    have e : (tmS X 2).2.2.2 = (tmS X 1).2.2.2 * X := (tmA (X := X) g1).2
    have k := et_re x 1
    rw [show ((1 + 1 : Nat) : Rat) = 2 from rfl] at k
    rw [e, q_mul, hx, k]
    exact t_step (f := 479001600) (by decide +kernel) (by decide) T1
  obtain ⟨r2, i2⟩ := et_iy x 1
  have k2 := et_re x 1
  rw [show ((1 + 1 : Nat) : Rat) = 2 from rfl] at k2 r2 i2
  have R2 : (et (iy x) 2).re = -(et (Cr.ofQ x) 2).re := by rw [r2, I1, k2]; try grind
  have I2 : (et (iy x) 2).im = 0 := by rw [i2, R1]; try grind
  have F2 : (dof 239500800 0).toRat = 239500800 := by decide +kernel
  have g2 : fac 2 = 239500800 := by decide
  have A3 : (tmS X 3).1.toRat = (tmS X 2).1.toRat + 479001600 * (et (Cr.ofQ x) 2).re := by
    have e : (tmS X 3).1 = (tmS X 2).1 + (tmS X 2).2.2.2 * dof 239500800 0 := (tmA (X := X) g2).1
    rw [e, q_add, q_mul, F2, T2]
  have B3 : (tmS X 3).2.1.toRat = (tmS X 2).2.1.toRat + 479001600 * (et (iy x) 2).re := by
    have e : (tmS X 3).2.1 = (tmS X 2).2.1 + -((tmS X 2).2.2.2 * dof 239500800 0) := (tmE1 (X := X) g2 (by decide) (by decide)).1
    rw [e, q_add, q_neg, q_mul, F2, T2, R2]; grind
  have C3 : (tmS X 3).2.2.1.toRat = (tmS X 2).2.2.1.toRat := congrArg Dyadic.toRat (tmE1 (X := X) g2 (by decide) (by decide)).2
  have T3 : (tmS X 3).2.2.2.toRat * 79833600 = 479001600 * (et (Cr.ofQ x) 3).re := by
    have e : (tmS X 3).2.2.2 = (tmS X 2).2.2.2 * X := (tmA (X := X) g2).2
    have k := et_re x 2
    rw [show ((2 + 1 : Nat) : Rat) = 3 from rfl] at k
    rw [e, q_mul, hx, k]
    exact t_step (f := 239500800) (by decide +kernel) (by decide) T2
  obtain ⟨r3, i3⟩ := et_iy x 2
  have k3 := et_re x 2
  rw [show ((2 + 1 : Nat) : Rat) = 3 from rfl] at k3 r3 i3
  have R3 : (et (iy x) 3).re = 0 := by rw [r3, I2]; try grind
  have I3 : (et (iy x) 3).im = -(et (Cr.ofQ x) 3).re := by rw [i3, R2, k3]; try grind
  have F3 : (dof 79833600 0).toRat = 79833600 := by decide +kernel
  have g3 : fac 3 = 79833600 := by decide
  have A4 : (tmS X 4).1.toRat = (tmS X 3).1.toRat + 479001600 * (et (Cr.ofQ x) 3).re := by
    have e : (tmS X 4).1 = (tmS X 3).1 + (tmS X 3).2.2.2 * dof 79833600 0 := (tmA (X := X) g3).1
    rw [e, q_add, q_mul, F3, T3]
  have C4 : (tmS X 4).2.2.1.toRat = (tmS X 3).2.2.1.toRat + 479001600 * (et (iy x) 3).im := by
    have e : (tmS X 4).2.2.1 = (tmS X 3).2.2.1 + -((tmS X 3).2.2.2 * dof 79833600 0) := (tmO1 (X := X) g3 (by decide) (by decide)).2
    rw [e, q_add, q_neg, q_mul, F3, T3, I3]; grind
  have B4 : (tmS X 4).2.1.toRat = (tmS X 3).2.1.toRat := congrArg Dyadic.toRat (tmO1 (X := X) g3 (by decide) (by decide)).1
  have T4 : (tmS X 4).2.2.2.toRat * 19958400 = 479001600 * (et (Cr.ofQ x) 4).re := by
    have e : (tmS X 4).2.2.2 = (tmS X 3).2.2.2 * X := (tmA (X := X) g3).2
    have k := et_re x 3
    rw [show ((3 + 1 : Nat) : Rat) = 4 from rfl] at k
    rw [e, q_mul, hx, k]
    exact t_step (f := 79833600) (by decide +kernel) (by decide) T3
  obtain ⟨r4, i4⟩ := et_iy x 3
  have k4 := et_re x 3
  rw [show ((3 + 1 : Nat) : Rat) = 4 from rfl] at k4 r4 i4
  have R4 : (et (iy x) 4).re = (et (Cr.ofQ x) 4).re := by rw [r4, I3, k4]; try grind
  have I4 : (et (iy x) 4).im = 0 := by rw [i4, R3]; try grind
  have F4 : (dof 19958400 0).toRat = 19958400 := by decide +kernel
  have g4 : fac 4 = 19958400 := by decide
  have A5 : (tmS X 5).1.toRat = (tmS X 4).1.toRat + 479001600 * (et (Cr.ofQ x) 4).re := by
    have e : (tmS X 5).1 = (tmS X 4).1 + (tmS X 4).2.2.2 * dof 19958400 0 := (tmA (X := X) g4).1
    rw [e, q_add, q_mul, F4, T4]
  have B5 : (tmS X 5).2.1.toRat = (tmS X 4).2.1.toRat + 479001600 * (et (iy x) 4).re := by
    have e : (tmS X 5).2.1 = (tmS X 4).2.1 + (tmS X 4).2.2.2 * dof 19958400 0 := (tmE0 (X := X) g4 (by decide) (by decide)).1
    rw [e, q_add, q_mul, F4, T4, R4]
  have C5 : (tmS X 5).2.2.1.toRat = (tmS X 4).2.2.1.toRat := congrArg Dyadic.toRat (tmE0 (X := X) g4 (by decide) (by decide)).2
  have T5 : (tmS X 5).2.2.2.toRat * 3991680 = 479001600 * (et (Cr.ofQ x) 5).re := by
    have e : (tmS X 5).2.2.2 = (tmS X 4).2.2.2 * X := (tmA (X := X) g4).2
    have k := et_re x 4
    rw [show ((4 + 1 : Nat) : Rat) = 5 from rfl] at k
    rw [e, q_mul, hx, k]
    exact t_step (f := 19958400) (by decide +kernel) (by decide) T4
  obtain ⟨r5, i5⟩ := et_iy x 4
  have k5 := et_re x 4
  rw [show ((4 + 1 : Nat) : Rat) = 5 from rfl] at k5 r5 i5
  have R5 : (et (iy x) 5).re = 0 := by rw [r5, I4]; try grind
  have I5 : (et (iy x) 5).im = (et (Cr.ofQ x) 5).re := by rw [i5, R4, k5]; try grind
  have F5 : (dof 3991680 0).toRat = 3991680 := by decide +kernel
  have g5 : fac 5 = 3991680 := by decide
  have A6 : (tmS X 6).1.toRat = (tmS X 5).1.toRat + 479001600 * (et (Cr.ofQ x) 5).re := by
    have e : (tmS X 6).1 = (tmS X 5).1 + (tmS X 5).2.2.2 * dof 3991680 0 := (tmA (X := X) g5).1
    rw [e, q_add, q_mul, F5, T5]
  have C6 : (tmS X 6).2.2.1.toRat = (tmS X 5).2.2.1.toRat + 479001600 * (et (iy x) 5).im := by
    have e : (tmS X 6).2.2.1 = (tmS X 5).2.2.1 + (tmS X 5).2.2.2 * dof 3991680 0 := (tmO0 (X := X) g5 (by decide) (by decide)).2
    rw [e, q_add, q_mul, F5, T5, I5]
  have B6 : (tmS X 6).2.1.toRat = (tmS X 5).2.1.toRat := congrArg Dyadic.toRat (tmO0 (X := X) g5 (by decide) (by decide)).1
  have T6 : (tmS X 6).2.2.2.toRat * 665280 = 479001600 * (et (Cr.ofQ x) 6).re := by
    have e : (tmS X 6).2.2.2 = (tmS X 5).2.2.2 * X := (tmA (X := X) g5).2
    have k := et_re x 5
    rw [show ((5 + 1 : Nat) : Rat) = 6 from rfl] at k
    rw [e, q_mul, hx, k]
    exact t_step (f := 3991680) (by decide +kernel) (by decide) T5
  obtain ⟨r6, i6⟩ := et_iy x 5
  have k6 := et_re x 5
  rw [show ((5 + 1 : Nat) : Rat) = 6 from rfl] at k6 r6 i6
  have R6 : (et (iy x) 6).re = -(et (Cr.ofQ x) 6).re := by rw [r6, I5, k6]; try grind
  have I6 : (et (iy x) 6).im = 0 := by rw [i6, R5]; try grind
  have F6 : (dof 665280 0).toRat = 665280 := by decide +kernel
  have g6 : fac 6 = 665280 := by decide
  have A7 : (tmS X 7).1.toRat = (tmS X 6).1.toRat + 479001600 * (et (Cr.ofQ x) 6).re := by
    have e : (tmS X 7).1 = (tmS X 6).1 + (tmS X 6).2.2.2 * dof 665280 0 := (tmA (X := X) g6).1
    rw [e, q_add, q_mul, F6, T6]
  have B7 : (tmS X 7).2.1.toRat = (tmS X 6).2.1.toRat + 479001600 * (et (iy x) 6).re := by
    have e : (tmS X 7).2.1 = (tmS X 6).2.1 + -((tmS X 6).2.2.2 * dof 665280 0) := (tmE1 (X := X) g6 (by decide) (by decide)).1
    rw [e, q_add, q_neg, q_mul, F6, T6, R6]; grind
  have C7 : (tmS X 7).2.2.1.toRat = (tmS X 6).2.2.1.toRat := congrArg Dyadic.toRat (tmE1 (X := X) g6 (by decide) (by decide)).2
  have T7 : (tmS X 7).2.2.2.toRat * 95040 = 479001600 * (et (Cr.ofQ x) 7).re := by
    have e : (tmS X 7).2.2.2 = (tmS X 6).2.2.2 * X := (tmA (X := X) g6).2
    have k := et_re x 6
    rw [show ((6 + 1 : Nat) : Rat) = 7 from rfl] at k
    rw [e, q_mul, hx, k]
    exact t_step (f := 665280) (by decide +kernel) (by decide) T6
  obtain ⟨r7, i7⟩ := et_iy x 6
  have k7 := et_re x 6
  rw [show ((6 + 1 : Nat) : Rat) = 7 from rfl] at k7 r7 i7
  have R7 : (et (iy x) 7).re = 0 := by rw [r7, I6]; try grind
  have I7 : (et (iy x) 7).im = -(et (Cr.ofQ x) 7).re := by rw [i7, R6, k7]; try grind
  have F7 : (dof 95040 0).toRat = 95040 := by decide +kernel
  have g7 : fac 7 = 95040 := by decide
  have A8 : (tmS X 8).1.toRat = (tmS X 7).1.toRat + 479001600 * (et (Cr.ofQ x) 7).re := by
    have e : (tmS X 8).1 = (tmS X 7).1 + (tmS X 7).2.2.2 * dof 95040 0 := (tmA (X := X) g7).1
    rw [e, q_add, q_mul, F7, T7]
  have C8 : (tmS X 8).2.2.1.toRat = (tmS X 7).2.2.1.toRat + 479001600 * (et (iy x) 7).im := by
    have e : (tmS X 8).2.2.1 = (tmS X 7).2.2.1 + -((tmS X 7).2.2.2 * dof 95040 0) := (tmO1 (X := X) g7 (by decide) (by decide)).2
    rw [e, q_add, q_neg, q_mul, F7, T7, I7]; grind
  have B8 : (tmS X 8).2.1.toRat = (tmS X 7).2.1.toRat := congrArg Dyadic.toRat (tmO1 (X := X) g7 (by decide) (by decide)).1
  have T8 : (tmS X 8).2.2.2.toRat * 11880 = 479001600 * (et (Cr.ofQ x) 8).re := by
    have e : (tmS X 8).2.2.2 = (tmS X 7).2.2.2 * X := (tmA (X := X) g7).2
    have k := et_re x 7
    rw [show ((7 + 1 : Nat) : Rat) = 8 from rfl] at k
    rw [e, q_mul, hx, k]
    exact t_step (f := 95040) (by decide +kernel) (by decide) T7
  obtain ⟨r8, i8⟩ := et_iy x 7
  have k8 := et_re x 7
  rw [show ((7 + 1 : Nat) : Rat) = 8 from rfl] at k8 r8 i8
  have R8 : (et (iy x) 8).re = (et (Cr.ofQ x) 8).re := by rw [r8, I7, k8]; try grind
  have I8 : (et (iy x) 8).im = 0 := by rw [i8, R7]; try grind
  have F8 : (dof 11880 0).toRat = 11880 := by decide +kernel
  have g8 : fac 8 = 11880 := by decide
  have A9 : (tmS X 9).1.toRat = (tmS X 8).1.toRat + 479001600 * (et (Cr.ofQ x) 8).re := by
    have e : (tmS X 9).1 = (tmS X 8).1 + (tmS X 8).2.2.2 * dof 11880 0 := (tmA (X := X) g8).1
    rw [e, q_add, q_mul, F8, T8]
  have B9 : (tmS X 9).2.1.toRat = (tmS X 8).2.1.toRat + 479001600 * (et (iy x) 8).re := by
    have e : (tmS X 9).2.1 = (tmS X 8).2.1 + (tmS X 8).2.2.2 * dof 11880 0 := (tmE0 (X := X) g8 (by decide) (by decide)).1
    rw [e, q_add, q_mul, F8, T8, R8]
  have C9 : (tmS X 9).2.2.1.toRat = (tmS X 8).2.2.1.toRat := congrArg Dyadic.toRat (tmE0 (X := X) g8 (by decide) (by decide)).2
  have T9 : (tmS X 9).2.2.2.toRat * 1320 = 479001600 * (et (Cr.ofQ x) 9).re := by
    have e : (tmS X 9).2.2.2 = (tmS X 8).2.2.2 * X := (tmA (X := X) g8).2
    have k := et_re x 8
    rw [show ((8 + 1 : Nat) : Rat) = 9 from rfl] at k
    rw [e, q_mul, hx, k]
    exact t_step (f := 11880) (by decide +kernel) (by decide) T8
  obtain ⟨r9, i9⟩ := et_iy x 8
  have k9 := et_re x 8
  rw [show ((8 + 1 : Nat) : Rat) = 9 from rfl] at k9 r9 i9
  have R9 : (et (iy x) 9).re = 0 := by rw [r9, I8]; try grind
  have I9 : (et (iy x) 9).im = (et (Cr.ofQ x) 9).re := by rw [i9, R8, k9]; try grind
  have F9 : (dof 1320 0).toRat = 1320 := by decide +kernel
  have g9 : fac 9 = 1320 := by decide
  have A10 : (tmS X 10).1.toRat = (tmS X 9).1.toRat + 479001600 * (et (Cr.ofQ x) 9).re := by
    have e : (tmS X 10).1 = (tmS X 9).1 + (tmS X 9).2.2.2 * dof 1320 0 := (tmA (X := X) g9).1
    rw [e, q_add, q_mul, F9, T9]
  have C10 : (tmS X 10).2.2.1.toRat = (tmS X 9).2.2.1.toRat + 479001600 * (et (iy x) 9).im := by
    have e : (tmS X 10).2.2.1 = (tmS X 9).2.2.1 + (tmS X 9).2.2.2 * dof 1320 0 := (tmO0 (X := X) g9 (by decide) (by decide)).2
    rw [e, q_add, q_mul, F9, T9, I9]
  have B10 : (tmS X 10).2.1.toRat = (tmS X 9).2.1.toRat := congrArg Dyadic.toRat (tmO0 (X := X) g9 (by decide) (by decide)).1
  have T10 : (tmS X 10).2.2.2.toRat * 132 = 479001600 * (et (Cr.ofQ x) 10).re := by
    have e : (tmS X 10).2.2.2 = (tmS X 9).2.2.2 * X := (tmA (X := X) g9).2
    have k := et_re x 9
    rw [show ((9 + 1 : Nat) : Rat) = 10 from rfl] at k
    rw [e, q_mul, hx, k]
    exact t_step (f := 1320) (by decide +kernel) (by decide) T9
  obtain ⟨r10, i10⟩ := et_iy x 9
  have k10 := et_re x 9
  rw [show ((9 + 1 : Nat) : Rat) = 10 from rfl] at k10 r10 i10
  have R10 : (et (iy x) 10).re = -(et (Cr.ofQ x) 10).re := by rw [r10, I9, k10]; try grind
  have I10 : (et (iy x) 10).im = 0 := by rw [i10, R9]; try grind
  have F10 : (dof 132 0).toRat = 132 := by decide +kernel
  have g10 : fac 10 = 132 := by decide
  have A11 : (tmS X 11).1.toRat = (tmS X 10).1.toRat + 479001600 * (et (Cr.ofQ x) 10).re := by
    have e : (tmS X 11).1 = (tmS X 10).1 + (tmS X 10).2.2.2 * dof 132 0 := (tmA (X := X) g10).1
    rw [e, q_add, q_mul, F10, T10]
  have B11 : (tmS X 11).2.1.toRat = (tmS X 10).2.1.toRat + 479001600 * (et (iy x) 10).re := by
    have e : (tmS X 11).2.1 = (tmS X 10).2.1 + -((tmS X 10).2.2.2 * dof 132 0) := (tmE1 (X := X) g10 (by decide) (by decide)).1
    rw [e, q_add, q_neg, q_mul, F10, T10, R10]; grind
  have C11 : (tmS X 11).2.2.1.toRat = (tmS X 10).2.2.1.toRat := congrArg Dyadic.toRat (tmE1 (X := X) g10 (by decide) (by decide)).2
  have T11 : (tmS X 11).2.2.2.toRat * 12 = 479001600 * (et (Cr.ofQ x) 11).re := by
    have e : (tmS X 11).2.2.2 = (tmS X 10).2.2.2 * X := (tmA (X := X) g10).2
    have k := et_re x 10
    rw [show ((10 + 1 : Nat) : Rat) = 11 from rfl] at k
    rw [e, q_mul, hx, k]
    exact t_step (f := 132) (by decide +kernel) (by decide) T10
  obtain ⟨r11, i11⟩ := et_iy x 10
  have k11 := et_re x 10
  rw [show ((10 + 1 : Nat) : Rat) = 11 from rfl] at k11 r11 i11
  have R11 : (et (iy x) 11).re = 0 := by rw [r11, I10]; try grind
  have I11 : (et (iy x) 11).im = -(et (Cr.ofQ x) 11).re := by rw [i11, R10, k11]; try grind
  have F11 : (dof 12 0).toRat = 12 := by decide +kernel
  have g11 : fac 11 = 12 := by decide
  have A12 : (tmS X 12).1.toRat = (tmS X 11).1.toRat + 479001600 * (et (Cr.ofQ x) 11).re := by
    have e : (tmS X 12).1 = (tmS X 11).1 + (tmS X 11).2.2.2 * dof 12 0 := (tmA (X := X) g11).1
    rw [e, q_add, q_mul, F11, T11]
  have C12 : (tmS X 12).2.2.1.toRat = (tmS X 11).2.2.1.toRat + 479001600 * (et (iy x) 11).im := by
    have e : (tmS X 12).2.2.1 = (tmS X 11).2.2.1 + -((tmS X 11).2.2.2 * dof 12 0) := (tmO1 (X := X) g11 (by decide) (by decide)).2
    rw [e, q_add, q_neg, q_mul, F11, T11, I11]; grind
  have B12 : (tmS X 12).2.1.toRat = (tmS X 11).2.1.toRat := congrArg Dyadic.toRat (tmO1 (X := X) g11 (by decide) (by decide)).1
  have T12 : (tmS X 12).2.2.2.toRat * 1 = 479001600 * (et (Cr.ofQ x) 12).re := by
    have e : (tmS X 12).2.2.2 = (tmS X 11).2.2.2 * X := (tmA (X := X) g11).2
    have k := et_re x 11
    rw [show ((11 + 1 : Nat) : Rat) = 12 from rfl] at k
    rw [e, q_mul, hx, k]
    exact t_step (f := 12) (by decide +kernel) (by decide) T11
  obtain ⟨r12, i12⟩ := et_iy x 11
  have k12 := et_re x 11
  rw [show ((11 + 1 : Nat) : Rat) = 12 from rfl] at k12 r12 i12
  have R12 : (et (iy x) 12).re = (et (Cr.ofQ x) 12).re := by rw [r12, I11, k12]; try grind
  have I12 : (et (iy x) 12).im = 0 := by rw [i12, R11]; try grind
  have F12 : (dof 1 0).toRat = 1 := by decide +kernel
  have g12 : fac 12 = 1 := by decide
  have A13 : (tmS X 13).1.toRat = (tmS X 12).1.toRat + 479001600 * (et (Cr.ofQ x) 12).re := by
    have e : (tmS X 13).1 = (tmS X 12).1 + (tmS X 12).2.2.2 * dof 1 0 := (tmA (X := X) g12).1
    rw [e, q_add, q_mul, F12, T12]
  have B13 : (tmS X 13).2.1.toRat = (tmS X 12).2.1.toRat + 479001600 * (et (iy x) 12).re := by
    have e : (tmS X 13).2.1 = (tmS X 12).2.1 + (tmS X 12).2.2.2 * dof 1 0 := (tmE0 (X := X) g12 (by decide) (by decide)).1
    rw [e, q_add, q_mul, F12, T12, R12]
  have C13 : (tmS X 13).2.2.1.toRat = (tmS X 12).2.2.1.toRat := congrArg Dyadic.toRat (tmE0 (X := X) g12 (by decide) (by decide)).2
  have S1 : (en 12 (Cr.ofQ x)).re = (et (Cr.ofQ x) 0).re + (et (Cr.ofQ x) 1).re + (et (Cr.ofQ x) 2).re + (et (Cr.ofQ x) 3).re + (et (Cr.ofQ x) 4).re + (et (Cr.ofQ x) 5).re + (et (Cr.ofQ x) 6).re + (et (Cr.ofQ x) 7).re + (et (Cr.ofQ x) 8).re + (et (Cr.ofQ x) 9).re + (et (Cr.ofQ x) 10).re + (et (Cr.ofQ x) 11).re + (et (Cr.ofQ x) 12).re := by unfold en; simp only [sm, Cr.add_re]
  have S2 : (en 12 (iy x)).re = (et (iy x) 0).re + (et (iy x) 1).re + (et (iy x) 2).re + (et (iy x) 3).re + (et (iy x) 4).re + (et (iy x) 5).re + (et (iy x) 6).re + (et (iy x) 7).re + (et (iy x) 8).re + (et (iy x) 9).re + (et (iy x) 10).re + (et (iy x) 11).re + (et (iy x) 12).re := by unfold en; simp only [sm, Cr.add_re]
  have S3 : (en 12 (iy x)).im = (et (iy x) 0).im + (et (iy x) 1).im + (et (iy x) 2).im + (et (iy x) 3).im + (et (iy x) 4).im + (et (iy x) 5).im + (et (iy x) 6).im + (et (iy x) 7).im + (et (iy x) 8).im + (et (iy x) 9).im + (et (iy x) 10).im + (et (iy x) 11).im + (et (iy x) 12).im := by unfold en; simp only [sm, Cr.add_im]
  refine ⟨?_, ?_, ?_⟩
  · rw [A13, A12, A11, A10, A9, A8, A7, A6, A5, A4, A3, A2, A1, A0, S1]; grind
  · rw [B13, B12, B11, B10, B9, B8, B7, B6, B5, B4, B3, B2, B1, B0, S2, R1, R3, R5, R7, R9, R11]; grind
  · rw [C13, C12, C11, C10, C9, C8, C7, C6, C5, C4, C3, C2, C1, C0, S3, I0, I2, I4, I6, I8, I10, I12]; grind
end Go.Ev.Ar
