/- Contracts of the given functions, on data. Conditions stand in each theorem. -/
import Derived.Test.YtmgbegcamhkblaaDoorArRoL
import Derived.Test.YtmgbegcamhkblaaDoorEvRm
set_option linter.unusedSimpArgs false
set_option linter.unusedVariables false
namespace Go.Ev.Ar
open Go Go.Ev Go.Proofs

/-- What is rounded on a grid lies on it. -/
theorem grd_exp (q : Dyadic) (e mode : Int) : grd q e mode = 0 ∨ e ≤ dexp (grd q e mode) := by
  by_cases h : e ≤ dexp q
  · rw [grd_ge h]; exact .inr h
  · unfold grd; rw [if_neg h]; dsimp only
    by_cases h0 : (if upB (dman q / 2 ^ (e - dexp q).toNat) (dman q - dman q / 2 ^ (e - dexp q).toNat * 2 ^ (e - dexp q).toNat) (e - dexp q).toNat mode = true then dman q / 2 ^ (e - dexp q).toNat + 1 else dman q / 2 ^ (e - dexp q).toNat) = 0
    · left; rw [h0]; rfl
    · right; rw [(dof_parts e h0).2.2]; omega
/-- A finer grid is nearer from below. -/
theorem grd_mono (q : Dyadic) {e f : Int} (h : f ≤ e) : grd q e 0 ≤ grd q f 0 := by
  by_cases h1 : f ≤ dexp q
  · rw [grd_ge h1]; exact (grd_facts q e).1
  · unfold grd; rw [if_neg h1, if_neg (show ¬ e ≤ dexp q by omega)]
    show dof (if upB _ _ _ 0 = true then _ else _) e ≤ dof (if upB _ _ _ 0 = true then _ else _) f
    rw [up0, up0, if_neg (by decide), if_neg (by decide)]
    obtain ⟨S, hS⟩ : ∃ S : Nat, (f - dexp q).toNat = S := ⟨_, rfl⟩
    obtain ⟨T, hT⟩ : ∃ T : Nat, e = f + T := ⟨(e - f).toNat, by omega⟩
    have hST : (e - dexp q).toNat = T + S := by omega
    rw [hS, hST, dof_up _ e hT, dof_le]
    have hp : (0 : Int) < 2 ^ S := Int.pow_pos (by decide)
    rw [Int.le_ediv_iff_mul_le hp, Int.mul_assoc, ← Int.pow_add]
    have := (floor_rest (dman q) (T + S)).1
    omega
theorem fits_nb {g e : Int} {P : Nat} (hP : 1 ≤ P) (hg : g.natAbs ≤ 2 ^ P) (h0 : g ≠ 0) : nb (dman (dof g e)).natAbs ≤ P := by
  rw [nb_le, (dof_parts e h0).2.1]
  have h1 : g.natAbs / 2 ^ tzn g.natAbs ≤ g.natAbs := Nat.div_le_self _ _
  have h2 := dman_odd (q := dof g e) (fun h => h0 (dof_eq_zero.1 h))
  have h3 := (dof_parts e h0).2.1
  have h4 : 2 ^ P % 2 = 0 := by
    obtain ⟨t, rfl⟩ : ∃ t, P = t + 1 := ⟨P - 1, by omega⟩
    rw [Nat.pow_succ]; omega
  omega
theorem rto_held {p : Int} {g e : Int} (hg : g.natAbs ≤ 2 ^ (min (max p 1) 4000).toNat) (mode : Int) : rto (dof g e) p mode = dof g e := by
  unfold rto
  split
  · rename_i h; rw [h]
  · rename_i h
    have h0 : g ≠ 0 := fun h1 => h (dof_eq_zero.2 h1)
    refine grd_ge ?_
    have := fits_nb (e := e) (P := (min (max p 1) 4000).toNat) (by omega) hg h0
    unfold unitE
    rw [dtop_ne h]; omega
theorem rto_fix (q : Dyadic) (p mode m2 : Int) : rto (rto q p mode) p m2 = rto q p mode := by
  by_cases h0 : q = 0
  · have h1 : rto q p mode = 0 := by unfold rto; rw [if_pos h0]
    rw [h1]; unfold rto; rw [if_pos rfl]
  have h1 : ∀ m, rto q p m = grd q (unitE q p) m := fun m => by unfold rto; rw [if_neg h0]
  rw [h1 mode]
  by_cases h : unitE q p ≤ dexp q
  · rw [grd_ge h, h1, grd_ge h]
  · have hm : (dman q).natAbs < 2 ^ nb (dman q).natAbs := nb_le.1 (Nat.le_refl _)
    have hu : unitE q p = dexp q + nb (dman q).natAbs - (min (max p 1) 4000) := by unfold unitE; rw [dtop_ne h0]; omega
    unfold grd
    rw [if_neg h]
    refine rto_held ?_ m2
    obtain ⟨S, hS⟩ : ∃ S : Nat, (unitE q p - dexp q).toNat = S := ⟨_, rfl⟩
    obtain ⟨P, hP⟩ : ∃ P : Nat, (min (max p 1) 4000).toNat = P := ⟨_, rfl⟩
    have hN : nb (dman q).natAbs = P + S := by omega
    rw [hS, hP]
    rw [hN] at hm
    have hp : (0 : Int) < 2 ^ S := Int.pow_pos (by decide)
    have hm2 : ((dman q).natAbs : Int) < 2 ^ P * 2 ^ S := by
      rw [← Int.pow_add]; exact_mod_cast hm
    have hPi : (0 : Int) < 2 ^ P := Int.pow_pos (by decide)
    have a1 : dman q / 2 ^ S < 2 ^ P := Int.ediv_lt_of_lt_mul hp (by omega)
    have a2 : -(2 ^ P) ≤ dman q / 2 ^ S := by rw [Int.le_ediv_iff_mul_le hp, Int.neg_mul]; omega
    have hc : ((2 ^ P : Nat) : Int) = 2 ^ P := by rw [Int.natCast_pow]; rfl
    generalize (2 : Int) ^ P = w at *
    generalize dman q / 2 ^ S = y at *
    split <;> omega
theorem grd_neg (q : Dyadic) (e : Int) : -grd (-q) e 1 = grd q e 0 := by
  by_cases h : e ≤ dexp q
  · rw [grd_ge h, grd_ge (by rw [dexp_neg]; exact h)]; grind
  · by_cases h0 : q = 0
    · rw [h0, show (-0 : Dyadic) = 0 from rfl, grd_zero, grd_zero]; rfl
    unfold grd
    rw [if_neg h, dexp_neg, if_neg h, dman_neg']
    show -dof (if upB _ _ _ 1 = true then _ else _) e = dof (if upB _ _ _ 0 = true then _ else _) e
    rw [up0, up1, if_neg (by decide : ¬ false = true)]
    have h1 := odd_rest (s := (e - dexp q).toNat) (dman_odd h0) (by omega)
    have h2 := (floor_rest (dman q) (e - dexp q).toNat).2
    have hp : (0 : Int) < 2 ^ (e - dexp q).toNat := Int.pow_pos (by decide)
    have h3 : -dman q / 2 ^ (e - dexp q).toNat = -(dman q / 2 ^ (e - dexp q).toNat) - 1 := by
      have hp2 : (2 : Int) ^ (e - dexp q).toNat ≠ 0 := by omega
      rw [Int.ediv_eq_iff_of_pos hp] <;> (try rw [Int.sub_mul, Int.neg_mul]) <;> omega
    rw [h3, Int.sub_mul, Int.neg_mul, decide_eq_true (by omega), if_pos rfl, dof_neg]
    congr 1; omega
theorem dman_dof1 (k : Int) : dman (dof 1 k) = 1 ∧ dexp (dof 1 k) = k := by
  have h := dof_odd (s := 1) (e := k) (by decide)
  rw [h]; exact ⟨rfl, by show - -k = k; omega⟩
theorem dman_scl (q : Dyadic) (k : Int) : dman (q * dof 1 k) = dman q := by rw [dman_mul, (dman_dof1 k).1, Int.mul_one]
theorem dexp_scl {q : Dyadic} (k : Int) (h : q ≠ 0) : dexp (q * dof 1 k) = dexp q + k := by
  rw [dexp_mul h (fun h => by rw [dof_eq_zero] at h; exact absurd h (by decide)), (dman_dof1 k).2]
theorem scl_ne {q : Dyadic} (k : Int) (h : q ≠ 0) : q * dof 1 k ≠ 0 := fun h2 => h (by rw [← dman_eq_zero, dman_scl, dman_eq_zero] at h2; exact h2)
theorem rto_scl (q : Dyadic) (p mode k : Int) : rto (q * dof 1 k) p mode = rto q p mode * dof 1 k := by
  by_cases h0 : q = 0
  · subst h0; unfold rto; rw [if_pos (by grind), if_pos rfl]; grind
  have ht : unitE (q * dof 1 k) p = unitE q p + k := by
    unfold unitE; rw [dtop_ne h0, dtop_ne (scl_ne k h0), dman_scl, dexp_scl k h0]; omega
  unfold rto
  rw [if_neg h0, if_neg (scl_ne k h0), ht]
  unfold grd
  rw [dman_scl, dexp_scl k h0]
  by_cases h : unitE q p ≤ dexp q
  · rw [if_pos h, if_pos (by omega)]
  · rw [if_neg h, if_neg (by omega), show unitE q p + k - (dexp q + k) = unitE q p - dexp q by omega, dof_mul, Int.mul_one]
/-- A number halfway between two multiples. -/
theorem half_parts (n k : Int) : dman (dof (2 * n + 1) (k - 1)) = 2 * n + 1 ∧ dexp (dof (2 * n + 1) (k - 1)) = k - 1 := by
  have h := dof_odd (s := 2 * n + 1) (e := k - 1) (by omega)
  rw [h]; exact ⟨rfl, by show - -(k - 1) = k - 1; omega⟩
theorem grd_half (n k mode : Int) : grd (dof (2 * n + 1) (k - 1)) k mode = dof (if mode = 0 then n else if mode = 1 then n + 1 else if n % 2 = 1 then n + 1 else n) k := by
  unfold grd
  obtain ⟨h1, h2⟩ := half_parts n k
  rw [h1, h2, if_neg (by omega)]
  dsimp only
  rw [show (k - (k - 1)).toNat = 1 by omega, show (2 * n + 1) / 2 ^ 1 = n by omega, show 2 * n + 1 - n * 2 ^ 1 = 1 by omega]
  show dof (if upB n 1 1 mode = true then n + 1 else n) k = _
  congr 1
  by_cases m0 : mode = 0
  · rw [m0, up0, if_pos rfl]; rfl
  · by_cases m1 : mode = 1
    · subst m1; rw [up1]; rfl
    · rw [up2 n 1 1 m0 m1, if_neg m0, if_neg m1]
      by_cases hn : n % 2 = 1
      · rw [decide_eq_true hn, if_pos hn]; rfl
      · rw [decide_eq_false hn, if_neg hn]; rfl
end Go.Ev.Ar
