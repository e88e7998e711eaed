/- Tops and signs of dyadic numbers. -/
import Derived.Test.YtmgbegcamhkblaaDoorEvCx
set_option linter.unusedSimpArgs false
set_option linter.unusedVariables false
namespace Go.Ev
open Go

theorem dsg_mul (p q : Dyadic) : dsg (p * q) = dsg p * dsg q := by
  conv => lhs; rw [← dof_self p, ← dof_self q, dof_mul, dsg_dof, Int.sign_mul]
  rfl
theorem dsg_abs (p : Dyadic) : dsg (dabs p) ≥ 0 := by
  unfold dsg
  rw [dman_abs]
  rcases Nat.eq_zero_or_pos (dman p).natAbs with h | h
  · rw [h]; decide
  · rw [Int.sign_eq_one_of_pos (by omega)]; decide
theorem dman_mul (p q : Dyadic) : dman (p * q) = dman p * dman q := by
  cases p with
  | zero => show dman (0 * q) = 0 * dman q; rw [Dyadic.zero_mul, Int.zero_mul]; rfl
  | ofOdd n k hn =>
    cases q with
    | zero => show dman (_ * 0) = _ * 0; rw [Dyadic.mul_zero, Int.mul_zero]; rfl
    | ofOdd m j hm => rfl
theorem dexp_mul {p q : Dyadic} (hp : p ≠ 0) (hq : q ≠ 0) : dexp (p * q) = dexp p + dexp q := by
  cases p with
  | zero => exact absurd rfl hp
  | ofOdd n k hn =>
    cases q with
    | zero => exact absurd rfl hq
    | ofOdd m j hm => show -(k + j) = -k + -j; omega
theorem dtop_ne {q : Dyadic} (h : q ≠ 0) : dtop q = dexp q + nb (dman q).natAbs - 1 := by
  unfold dtop; rw [if_neg (fun e => h (dman_eq_zero.1 e))]
theorem dtop_neg (q : Dyadic) : dtop (-q) = dtop q := by
  unfold dtop
  rw [dman_neg', dexp_neg, Int.natAbs_neg]
  by_cases h : dman q = 0
  · rw [if_pos h, if_pos (by omega)]
  · rw [if_neg h, if_neg (by omega)]
theorem nb_pos {n : Nat} (h : n ≠ 0) : 0 < nb n := by
  rcases Nat.eq_zero_or_pos (nb n) with h2 | h2
  · have := nb_lt n; rw [h2] at this; omega
  · exact h2
theorem dof_one_le {q : Dyadic} (h : q ≠ 0) : dof 1 (dtop q) ≤ dabs q := by
  have h0 : (dman q).natAbs ≠ 0 := fun e => h (dman_eq_zero.1 (by omega))
  have h1 := nb_pos h0
  have h2 := nb_ge h0
  rw [dtop_ne h, show dexp q + (nb (dman q).natAbs : Int) - 1 = dexp q + ((nb (dman q).natAbs - 1 : Nat) : Int) by omega, ← dof_shl]
  unfold dabs
  rw [dof_le, Int.one_mul]
  exact_mod_cast h2
theorem lt_dof_one {q : Dyadic} (h : q ≠ 0) : dabs q < dof 1 (dtop q + 1) := by
  have h2 := nb_lt (dman q).natAbs
  rw [dtop_ne h, show dexp q + (nb (dman q).natAbs : Int) - 1 + 1 = dexp q + ((nb (dman q).natAbs : Nat) : Int) by omega, ← dof_shl]
  unfold dabs
  rw [dof_lt, Int.one_mul]
  exact_mod_cast h2
theorem nb_mul {a b : Nat} (ha : a ≠ 0) (hb : b ≠ 0) : nb (a * b) = nb a + nb b ∨ nb (a * b) + 1 = nb a + nb b := by
  have h1 := nb_pos ha
  have h2 := nb_pos hb
  have h3 := nb_ge ha
  have h4 := nb_ge hb
  have h5 := nb_lt a
  have h6 := nb_lt b
  have h7 : a * b < 2 ^ (nb a + nb b) := by rw [Nat.pow_add]; exact Nat.mul_lt_mul'' h5 h6
  have h8 : 2 ^ (nb a + nb b - 2) ≤ a * b := by
    rw [show nb a + nb b - 2 = (nb a - 1) + (nb b - 1) by omega, Nat.pow_add]; exact Nat.mul_le_mul h3 h4
  have h9 : nb (a * b) ≤ nb a + nb b := nb_le.2 h7
  have h10 : ¬ nb (a * b) ≤ nb a + nb b - 2 := fun h => by have := nb_le.1 h; omega
  omega
theorem dtop_mul {p q : Dyadic} (hp : p ≠ 0) (hq : q ≠ 0) : dtop (p * q) - dtop p - dtop q = 0 ∨ dtop (p * q) - dtop p - dtop q = 1 := by
  have h1 : (dman p).natAbs ≠ 0 := fun e => hp (dman_eq_zero.1 (by omega))
  have h2 : (dman q).natAbs ≠ 0 := fun e => hq (dman_eq_zero.1 (by omega))
  have h3 : p * q ≠ 0 := fun e => by
    have h4 := dman_eq_zero.2 e
    rw [dman_mul] at h4
    rcases Int.mul_eq_zero.1 h4 with h | h
    · exact hp (dman_eq_zero.1 h)
    · exact hq (dman_eq_zero.1 h)
  have h4 := nb_mul h1 h2
  rw [dtop_ne hp, dtop_ne hq, dtop_ne h3, dman_mul, dexp_mul hp hq, Int.natAbs_mul]
  omega
theorem dtop_bounds {q : Dyadic} {h : Nat} (hq : Ht h q) : -(h : Int) ≤ dtop q ∧ dtop q ≤ 3 * h := by
  obtain ⟨h1, h2, h3⟩ := hq.parts
  by_cases h0 : q = 0
  · subst h0; show -(h : Int) ≤ 0 ∧ (0 : Int) ≤ _; omega
  · have h4 := nb_pos (n := (dman q).natAbs) (fun e => h0 (dman_eq_zero.1 (by omega)))
    have h5 := h1.nb
    rw [dtop_ne h0]
    omega
end Go.Ev
