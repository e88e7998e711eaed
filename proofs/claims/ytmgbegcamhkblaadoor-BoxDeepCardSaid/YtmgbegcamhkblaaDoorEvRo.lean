/- Rounding to multiples of a power of two. -/
import Derived.Test.YtmgbegcamhkblaaDoorEvDm
set_option linter.unusedSimpArgs false
set_option linter.unusedVariables false
namespace Go.Ev
open Go

/-- Whether the next multiple is meant, where r is left of 2 to the power of s, behind f multiples. -/
def upB (f r : Int) (s : Nat) (mode : Int) : Bool :=
  if mode = 0 then false else if mode = 1 then decide (Int.sign r > 0) else decide (Int.sign (r * 2 - 2 ^ s) > 0) || (decide (Int.sign (r * 2 - 2 ^ s) = 0) && decide (f % 2 = 1))
/-- Rounded to multiples of 2 to the power of e. -/
def grd (q : Dyadic) (e mode : Int) : Dyadic :=
  if e ≤ dexp q then q else
    let s := (e - dexp q).toNat
    let f := dman q / 2 ^ s
    dof (if upB f (dman q - f * 2 ^ s) s mode then f + 1 else f) e
theorem grd_ge {q : Dyadic} {e mode : Int} (h : e ≤ dexp q) : grd q e mode = q := by unfold grd; rw [if_pos h]
theorem grd_zero (e mode : Int) : grd 0 e mode = 0 := by
  unfold grd
  split
  · rfl
  · have h1 : dman 0 / 2 ^ (e - dexp 0).toNat = 0 := by rw [dman_zero, Int.zero_ediv]
    have h2 : upB 0 (dman 0 - 0 * 2 ^ (e - dexp 0).toNat) (e - dexp 0).toNat mode = false := by
      rw [dman_zero, Int.zero_mul, Int.sub_zero]
      unfold upB
      have h3 : (0 : Int) < 2 ^ (e - dexp 0).toNat := Int.pow_pos (by decide)
      have h4 : Int.sign (0 * 2 - 2 ^ (e - dexp 0).toNat) = -1 := Int.sign_eq_neg_one_of_neg (by omega)
      split
      · rfl
      · split
        · rfl
        · rw [h4]; rfl
    simp only [h1, h2, Bool.false_eq_true, if_false]; rfl
theorem floor_rest (m : Int) (s : Nat) : 0 ≤ m - m / 2 ^ s * 2 ^ s ∧ m - m / 2 ^ s * 2 ^ s < 2 ^ s := by
  have hp : (0 : Int) < 2 ^ s := Int.pow_pos (by decide)
  have h1 := Int.emod_nonneg m (Int.ne_of_gt hp)
  have h2 := Int.emod_lt_of_pos m hp
  have h3 := Int.mul_ediv_add_emod m (2 ^ s)
  rw [Int.mul_comm (2 ^ s)] at h3
  omega
theorem odd_rest {m : Int} {s : Nat} (hm : m % 2 = 1) (hs : 0 < s) : 0 < m - m / 2 ^ s * 2 ^ s := by
  have h := (floor_rest m s).1
  have h2 : (m - m / 2 ^ s * 2 ^ s) % 2 = 1 := by
    obtain ⟨t, rfl⟩ : ∃ t, s = t + 1 := ⟨s - 1, by omega⟩
    rw [Int.pow_succ, ← Int.mul_assoc]; omega
  omega
theorem natAbs_ediv_le (m : Int) (s : Nat) : (m / 2 ^ s).natAbs ≤ m.natAbs := by
  have hp : (0 : Int) < 2 ^ s := Int.pow_pos (by decide)
  have := Int.natAbs_ediv_le_natAbs m (2 ^ s)
  exact this
theorem nv_one : nv [1] = 1 := rfl
theorem one_shl (n : Int) : nv [1] * 2 ^ n.toNat = 2 ^ n.toNat := by rw [nv_one, Nat.one_mul]
theorem one_shl_pos (n : Int) : 0 < nv [1] * 2 ^ n.toNat := by rw [one_shl]; exact Nat.pow_pos (by decide)
theorem one_shl_lt (n : Int) (k : Nat) (h0 : 0 < k) (hn : n < k) : nv [1] * 2 ^ n.toNat < 2 ^ k := by rw [one_shl]; exact Nat.pow_lt_pow_right (by decide) (by omega)
theorem one_shl_int (n : Int) : (((nv [1] * 2 ^ n.toNat : Nat) : Int)) = 2 ^ n.toNat := by rw [one_shl, Int.natCast_pow]; rfl
theorem zt_floor {a : Nat} {m : Int} (h : Zt a m) (s : Nat) : Zt a (m / 2 ^ s) := h.le (natAbs_ediv_le m s)
end Go.Ev
