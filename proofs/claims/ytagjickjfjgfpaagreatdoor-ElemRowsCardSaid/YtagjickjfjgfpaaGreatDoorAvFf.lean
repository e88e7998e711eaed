/- Contracts of the given functions, on data. Conditions stand in each theorem. -/
import Derived.Test.YtagjickjfjgfpaaGreatDoorAvFe
import Derived.Test.YtagjickjfjgfpaaGreatDoorEvRw
set_option linter.unusedSimpArgs false
set_option linter.unusedVariables false
namespace Go.Ev.Ar
open Go Go.Ev Go.Proofs

/-- 12 factorial by i factorial. -/
def fac (i : Nat) : Int := [479001600, 479001600, 239500800, 79833600, 19958400, 3991680, 665280, 95040, 11880, 1320, 132, 12, 1].getD i 0
/-- What the loop of terms holds behind its j-th round. -/
def tmS (X : Dyadic) : Nat → Dyadic × Dyadic × Dyadic × Dyadic
  | 0 => (0, 0, 0, 1)
  | j + 1 =>
    let T := (tmS X j).2.2.2 * dof (fac j) 0
    let U := if j / 2 % 2 = 1 then -T else T
    ((tmS X j).1 + T, if j % 2 = 0 then (tmS X j).2.1 + U else (tmS X j).2.1, if j % 2 = 0 then (tmS X j).2.2.1 else (tmS X j).2.2.1 + U, (tmS X j).2.2.2 * X)
theorem fac_ht (j : Nat) : Ht 64 (dof (fac j) 0) := by
  have h : fac j = 0 ∨ (1 ≤ fac j ∧ fac j ≤ 479001600) := by
    unfold fac
    match j with
    | 0 => exact .inr (by decide)
    | 1 => exact .inr (by decide)
    | 2 => exact .inr (by decide)
    | 3 => exact .inr (by decide)
    | 4 => exact .inr (by decide)
    | 5 => exact .inr (by decide)
    | 6 => exact .inr (by decide)
    | 7 => exact .inr (by decide)
    | 8 => exact .inr (by decide)
    | 9 => exact .inr (by decide)
    | 10 => exact .inr (by decide)
    | 11 => exact .inr (by decide)
    | 12 => exact .inr (by decide)
    | _ + 13 => exact .inl rfl
  exact Ht.i64 (by omega) (by omega)
theorem tmS_ht {X : Dyadic} (hX : Ht 100 X) : ∀ j : Nat, Ht (1 + 100 * j) (tmS X j).2.2.2 ∧ Ht (1000 + 200 * j) (tmS X j).1 ∧ Ht (1000 + 200 * j) (tmS X j).2.1 ∧ Ht (1000 + 200 * j) (tmS X j).2.2.1
  | 0 => ⟨Ht.one.mono (by omega), .zero _, .zero _, .zero _⟩
  | j + 1 => by
    obtain ⟨a, b, c, d⟩ := tmS_ht hX j
    have t : Ht (1000 + 200 * j) ((tmS X j).2.2.2 * dof (fac j) 0) := (a.mul (fac_ht j) (c := 65 + 100 * j) (by omega)).mono (by omega)
    have u : Ht (1000 + 200 * j) (if j / 2 % 2 = 1 then -((tmS X j).2.2.2 * dof (fac j) 0) else (tmS X j).2.2.2 * dof (fac j) 0) := by
      split
      · exact t.neg
      · exact t
    refine ⟨a.mul hX (by omega), b.add t (by omega), ?_, ?_⟩
    · show Ht _ (if j % 2 = 0 then _ else _)
      split
      · exact c.add u (by omega)
      · exact c.mono (by omega)
    · show Ht _ (if j % 2 = 0 then _ else _)
      split
      · exact d.mono (by omega)
      · exact d.add u (by omega)
theorem tmS0 (X : Dyadic) : (tmS X 0).1 = 0 ∧ (tmS X 0).2.1 = 0 ∧ (tmS X 0).2.2.1 = 0 ∧ (tmS X 0).2.2.2 = 1 := ⟨rfl, rfl, rfl, rfl⟩
theorem tmSa (X : Dyadic) (j : Nat) : (tmS X (j + 1)).1 = (tmS X j).1 + (tmS X j).2.2.2 * dof (fac j) 0 ∧ (tmS X (j + 1)).2.2.2 = (tmS X j).2.2.2 * X := ⟨rfl, rfl⟩
theorem tmSb (X : Dyadic) (j : Nat) : (tmS X (j + 1)).2.1 = (if j % 2 = 0 then (tmS X j).2.1 + (if j / 2 % 2 = 1 then -((tmS X j).2.2.2 * dof (fac j) 0) else (tmS X j).2.2.2 * dof (fac j) 0) else (tmS X j).2.1) ∧ (tmS X (j + 1)).2.2.1 = (if j % 2 = 0 then (tmS X j).2.2.1 else (tmS X j).2.2.1 + (if j / 2 % 2 = 1 then -((tmS X j).2.2.2 * dof (fac j) 0) else (tmS X j).2.2.2 * dof (fac j) 0)) := ⟨rfl, rfl⟩
theorem tmA {X : Dyadic} {j : Nat} {F : Int} (hf : fac j = F) : (tmS X (j + 1)).1 = (tmS X j).1 + (tmS X j).2.2.2 * dof F 0 ∧ (tmS X (j + 1)).2.2.2 = (tmS X j).2.2.2 * X := hf ▸ tmSa X j
theorem tmE0 {X : Dyadic} {j : Nat} {F : Int} (hf : fac j = F) (h : j % 2 = 0) (k : j / 2 % 2 = 0) : (tmS X (j + 1)).2.1 = (tmS X j).2.1 + (tmS X j).2.2.2 * dof F 0 ∧ (tmS X (j + 1)).2.2.1 = (tmS X j).2.2.1 := by
  have := tmSb X j
  rw [if_pos h, if_pos h, if_neg (by omega), hf] at this
  exact this
theorem tmE1 {X : Dyadic} {j : Nat} {F : Int} (hf : fac j = F) (h : j % 2 = 0) (k : j / 2 % 2 = 1) : (tmS X (j + 1)).2.1 = (tmS X j).2.1 + -((tmS X j).2.2.2 * dof F 0) ∧ (tmS X (j + 1)).2.2.1 = (tmS X j).2.2.1 := by
  have := tmSb X j
  rw [if_pos h, if_pos h, if_pos k, hf] at this
  exact this
theorem tmO0 {X : Dyadic} {j : Nat} {F : Int} (hf : fac j = F) (h : j % 2 = 1) (k : j / 2 % 2 = 0) : (tmS X (j + 1)).2.1 = (tmS X j).2.1 ∧ (tmS X (j + 1)).2.2.1 = (tmS X j).2.2.1 + (tmS X j).2.2.2 * dof F 0 := by
  have := tmSb X j
  rw [if_neg (by omega), if_neg (by omega), if_neg (by omega), hf] at this
  exact this
theorem tmO1 {X : Dyadic} {j : Nat} {F : Int} (hf : fac j = F) (h : j % 2 = 1) (k : j / 2 % 2 = 1) : (tmS X (j + 1)).2.1 = (tmS X j).2.1 ∧ (tmS X (j + 1)).2.2.1 = (tmS X j).2.2.1 + -((tmS X j).2.2.2 * dof F 0) := by
  have := tmSb X j
  rw [if_neg (by omega), if_neg (by omega), if_pos k, hf] at this
  exact this
attribute [irreducible] tmS
def fac' (i : Nat) : Int := [479001600, 479001600, 239500800, 79833600, 19958400, 3991680, 665280, 95040, 11880, 1320, 132, 12, 1, 0].getD i 0
theorem add_zero_l {q : Dyadic} (h : Ht 49000 q) : Sim Tryz.prog G0 false 64 [.agg [.bool false, sl [], .int .i64 0], dyD q] (dyD (0 + q)) := by
  have := rdadd_sim (.zero 49000) h; rwa [← dyD_zero] at this
end Go.Ev.Ar
