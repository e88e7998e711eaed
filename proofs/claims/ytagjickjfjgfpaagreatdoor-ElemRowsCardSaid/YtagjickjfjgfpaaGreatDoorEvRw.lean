/- Contracts of the given functions, on data. Conditions stand in each theorem. -/
import Derived.Test.YtagjickjfjgfpaaGreatDoorGEvEc
set_option linter.unusedSimpArgs false
set_option linter.unusedVariables false
namespace Go.Ev
open Go

theorem kk_le : ∀ k : Nat, ((k + 3 : Nat) : Rat) * ((k + 3 : Nat) : Rat) * pq (1 / 2) (k + 3) ≤ 2
  | 0 => by
    have : ((0 + 3 : Nat) : Rat) = 3 := rfl
    rw [this]; simp only [pq]; grind
  | k + 1 => by
    have ih := kk_le k
    have h := pq_nn (show (0 : Rat) ≤ 1 / 2 by grind) (k + 3)
    have hk : (3 : Rat) ≤ ((k + 3 : Nat) : Rat) := by exact_mod_cast Nat.le_add_left 3 k
    have e : ((k + 1 + 3 : Nat) : Rat) = ((k + 3 : Nat) : Rat) + 1 := by rw [show k + 1 + 3 = (k + 3) + 1 by omega, Rat.natCast_add]; rfl
    rw [e, show k + 1 + 3 = (k + 3) + 1 by omega, pq]
    generalize ((k + 3 : Nat) : Rat) = a at *
    generalize pq (1 / 2) (k + 3) = P at *
    have g := qmul_nn (show 0 ≤ a - 3 by grind) (show 0 ≤ a + 1 by grind)
    have g2 := qmul_nn (show 0 ≤ (a - 3) * (a + 1) + 2 by grind) h
    grind
theorem Sm.kHalf : Sm (fun n => ((n + 1 : Nat) : Rat) * (2 * pq (1 / 2) (n + 1))) := fun e he => by
  obtain ⟨T, hT⟩ := arch (show 0 < e / 4 by grind)
  refine ⟨T + 3, fun n hn => ?_⟩
  obtain ⟨d, rfl⟩ : ∃ d, n = d + 2 := ⟨n - 2, by omega⟩
  have k := kk_le d
  show ((d + 2 + 1 : Nat) : Rat) * (2 * pq (1 / 2) (d + 2 + 1)) ≤ e
  rw [show d + 2 + 1 = d + 3 by omega]
  have hT2 : ((T : Nat) : Rat) ≤ ((d + 3 : Nat) : Rat) := by exact_mod_cast (show T ≤ d + 3 by omega)
  have m := Rat.mul_le_mul_of_nonneg_right hT2 (show 0 ≤ e / 4 by grind)
  have a0 : (0 : Rat) < ((d + 3 : Nat) : Rat) := by exact_mod_cast Nat.succ_pos (d + 2)
  generalize ((d + 3 : Nat) : Rat) = a at *
  generalize pq (1 / 2) (d + 3) = P at *
  rcases Classical.em (a * (2 * P) ≤ e) with g | g
  · exact g
  · exfalso
    have := Rat.mul_pos a0 (show 0 < a * (2 * P) - e by grind)
    grind
theorem en_twice {w : Cr} (h : nrm w ≤ 1 / 2) : Cl (fun n => en n w * en n w) (fun n => en n (w + w)) :=
  Sm.mono Sm.kHalf fun n => en_mul h h (by grind) n
/-- A point, halved k times. -/
def sc (k : Nat) (z : Cr) : Cr := Cr.ofQ (pq (1 / 2) k) * z
theorem half_one (k : Nat) : 0 ≤ pq (1 / 2) k ∧ pq (1 / 2) k ≤ 1 := ⟨pq_nn (by grind) k, by
  have := half_le k
  have hk : (0 : Rat) ≤ ((k : Nat) : Rat) := by exact_mod_cast Nat.zero_le k
  have := qmul_nn hk (pq_nn (show (0 : Rat) ≤ 1 / 2 by grind) k)
  grind⟩
theorem sc_nrm {z : Cr} (h : nrm z ≤ 1) (k : Nat) : nrm (sc k z) ≤ pq (1 / 2) k := by
  have a := nrm_mul (Cr.ofQ (pq (1 / 2) k)) z
  rw [nrm_q, qab_self (half_one k).1] at a
  have := Rat.mul_le_mul_of_nonneg_left h (half_one k).1
  unfold sc; grind
theorem sc_zero (z : Cr) : sc 0 z = z := by
  unfold sc; rw [pq]
  apply Cr.ext
  · rw [Cr.mul_re]; show 1 * z.re - 0 * z.im = z.re; grind
  · rw [Cr.mul_im]; show 1 * z.im + 0 * z.re = z.im; grind
theorem sc_twice (k : Nat) (z : Cr) : sc (k + 1) z + sc (k + 1) z = sc k z := by
  unfold sc; rw [pq]
  apply Cr.ext
  · rw [Cr.add_re, Cr.mul_re, Cr.mul_re]; show (1 / 2 * pq (1 / 2) k) * z.re - 0 * z.im + ((1 / 2 * pq (1 / 2) k) * z.re - 0 * z.im) = pq (1 / 2) k * z.re - 0 * z.im; grind
  · rw [Cr.add_im, Cr.mul_im, Cr.mul_im]; show (1 / 2 * pq (1 / 2) k) * z.im + 0 * z.re + ((1 / 2 * pq (1 / 2) k) * z.im + 0 * z.re) = pq (1 / 2) k * z.im + 0 * z.re; grind
theorem en_one_half {z : Cr} (h : nrm z ≤ 1) (k : Nat) : Cl (fun n => en n (sc k z)) (fun n => en n (sc (k + 1) z) * en n (sc (k + 1) z)) := by
  have a := sc_nrm h (k + 1)
  have b := (half_one k).2
  have := en_twice (w := sc (k + 1) z) (by rw [pq] at a; grind)
  rw [sc_twice] at this
  exact this.symm
/-- Halved k times, and squared as often. -/
theorem en_halvedC {z : Cr} (h : nrm z ≤ 1) : ∀ k, Cl (fun n => en n z) (fun n => sqr k (en n (sc k z)))
  | 0 => by rw [sc_zero]; exact Cl.refl _
  | 1 => by
    have := en_one_half h 0
    rw [sc_zero] at this
    exact this
  | k + 2 => by
    have h1 := en_halvedC h (k + 1)
    have h2 := en_one_half h (k + 1)
    have a1 := sc_nrm h (k + 1)
    have a2 := sc_nrm h (k + 2)
    have p1 := half_one k
    have b1 := en_bd (z := sc (k + 1) z) (by rw [pq] at a1; grind)
    have b2 := en_bd (z := sc (k + 2) z) (by rw [pq, pq] at a2; grind)
    have h3 := Cl.sqr h2 b1 (b2.mul b2) (k + 1)
    refine h1.trans ?_
    have e : (fun n => sqr (k + 1) (en n (sc (k + 2) z) * en n (sc (k + 2) z))) = fun n => sqr (k + 2) (en n (sc (k + 2) z)) := funext fun n => by rw [sqr_mul]; rfl
    rw [← e]; exact h3
/- WHAT MAY STILL COME -/
def fk : Nat → Rat
  | 0 => 1
  | k + 1 => fk k * (1 / ((k + 1 : Nat) : Rat))
theorem inv_nn (k : Nat) : 0 ≤ 1 / ((k + 1 : Nat) : Rat) ∧ 1 / ((k + 1 : Nat) : Rat) * ((k + 1 : Nat) : Rat) = 1 := by
  have h : (0 : Rat) < ((k + 1 : Nat) : Rat) := by exact_mod_cast Nat.succ_pos k
  exact ⟨by rw [Rat.div_def]; exact qmul_nn (by decide) (qinv_nn h), by grind⟩
theorem fk_nn : ∀ k, 0 ≤ fk k
  | 0 => by rw [fk]; grind
  | k + 1 => by rw [fk]; exact qmul_nn (fk_nn k) (inv_nn k).1
theorem et_fk {z : Cr} (h : nrm z ≤ 1) : ∀ k, nrm (et z k) ≤ fk k
  | 0 => by rw [et, fk, nrm_one]; exact Rat.le_refl
  | k + 1 => by
    have ih := et_fk h k
    have a := nrm_mul (z * et z k) (iq (k + 1))
    have b := nrm_mul z (et z k)
    have c : nrm (iq (k + 1)) = 1 / ((k + 1 : Nat) : Rat) := by unfold iq; rw [nrm_q, qab_self (inv_nn k).1]
    have d := qmul_le (nrm_ge z) h (nrm_ge (et z k)) ih
    have e := Rat.mul_le_mul_of_nonneg_right (show nrm (z * et z k) ≤ fk k by grind) (inv_nn k).1
    rw [et, fk]
    rw [c] at a
    grind
theorem fk_tail : ∀ j, fk (13 + j) ≤ fk 13 * pq (1 / 14) j
  | 0 => by rw [pq]; show fk 13 ≤ _; grind
  | j + 1 => by
    have ih := fk_tail j
    obtain ⟨i0, i1⟩ := inv_nn (13 + j)
    have k14 : (14 : Rat) ≤ ((13 + j + 1 : Nat) : Rat) := by exact_mod_cast (show 14 ≤ 13 + j + 1 by omega)
    have m := Rat.mul_le_mul_of_nonneg_left k14 i0
    rw [show 13 + (j + 1) = 13 + j + 1 by omega, fk, pq]
    have := qmul_le (fk_nn (13 + j)) ih i0 (show 1 / ((13 + j + 1 : Nat) : Rat) ≤ 1 / 14 by grind)
    grind
theorem en_tail {z : Cr} (h : nrm z ≤ 1) : ∀ m, nrm (en (12 + m) z - en 12 z) + fk 13 * (14 / 13) * pq (1 / 14) m ≤ fk 13 * (14 / 13)
  | 0 => by
    rw [show 12 + 0 = 12 by omega, show en 12 z - en 12 z = 0 by grind, show nrm 0 = 0 by unfold nrm; rw [Cr.zero_re, Cr.zero_im, qab_zero]; grind, pq]; grind
  | m + 1 => by
    have ih := en_tail h m
    have a := nrm_add (en (12 + m) z - en 12 z) (et z (13 + m))
    have b := et_fk h (13 + m)
    have c := fk_tail m
    have e : en (12 + (m + 1)) z - en 12 z = en (12 + m) z - en 12 z + et z (13 + m) := by
      have : en (12 + (m + 1)) z = en (12 + m) z + et z (13 + m) := by rw [show 13 + m = 12 + m + 1 by omega]; rfl
      rw [this]; grind
    rw [e, pq]
    grind
theorem fk13 : fk 13 * (14 / 13) ≤ 1 / 2 * (1 / 479001600) := by decide +kernel
/-- An interval in which a sequence lies in the end isn't far from what the sequence is close to. -/
theorem row_near {f g : Nat → Rat} {I : Cq} {t : Rat} (h : Mm f I) (k : Sm (fun n => qab (f n - g n))) (b : ∀ m, qab (g (12 + m) - t) ≤ 1 / 2 * (1 / 479001600)) :
    I.1.toRat ≤ t + 1 / 479001600 ∧ t - 1 / 479001600 ≤ I.2.toRat := by
  obtain ⟨T1, h1⟩ := h.1 (1 / 8 * (1 / 479001600)) (by grind)
  obtain ⟨T2, h2⟩ := h.2 (1 / 8 * (1 / 479001600)) (by grind)
  obtain ⟨T3, h3⟩ := k (1 / 8 * (1 / 479001600)) (by grind)
  have a1 := h1 (12 + (T1 + T2 + T3)) (by omega)
  have a2 := h2 (12 + (T1 + T2 + T3)) (by omega)
  have a3 := qab_le.1 (h3 (12 + (T1 + T2 + T3)) (by omega))
  have a4 := qab_le.1 (b (T1 + T2 + T3))
  dsimp only at a1 a2 a3
  grind
theorem gx_row {z : Cr} (h : nrm z ≤ 1) : Cl (gx (sc 16 z)) (fun n => en n z) := (en_halvedC h 16).symm
theorem sc_real (X : Rat) : sc 16 (Cr.ofQ X) = Cr.ofQ (X * (1 / 65536)) := by
  have p16 : pq (1 / 2) 16 = 1 / 65536 := by simp only [pq]; grind
  unfold sc; rw [p16]
  apply Cr.ext
  · rw [Cr.mul_re]; show 1 / 65536 * X - 0 * 0 = X * (1 / 65536); grind
  · rw [Cr.mul_im]; show 1 / 65536 * 0 + 0 * X = 0; grind
theorem sc_im (X : Rat) : sc 16 (iy X) = iy (X * (1 / 65536)) := by
  have p16 : pq (1 / 2) 16 = 1 / 65536 := by simp only [pq]; grind
  unfold sc; rw [p16]
  apply Cr.ext
  · rw [Cr.mul_re]; show 1 / 65536 * 0 - 0 * X = 0; grind
  · rw [Cr.mul_im]; show 1 / 65536 * X + 0 * 0 = X * (1 / 65536); grind
theorem tail_re {z : Cr} (h : nrm z ≤ 1) (m : Nat) : qab ((en (12 + m) z).re - (en 12 z).re) ≤ 1 / 2 * (1 / 479001600) := by
  have a := en_tail h m
  have b := nrm_re (en (12 + m) z - en 12 z)
  have c := fk13
  have d := qmul_nn (qmul_nn (fk_nn 13) (show (0 : Rat) ≤ 14 / 13 by grind)) (pq_nn (show (0 : Rat) ≤ 1 / 14 by grind) m)
  rw [Cr.sub_re] at b
  grind
theorem tail_im {z : Cr} (h : nrm z ≤ 1) (m : Nat) : qab ((en (12 + m) z).im - (en 12 z).im) ≤ 1 / 2 * (1 / 479001600) := by
  have a := en_tail h m
  have b := nrm_im (en (12 + m) z - en 12 z)
  have c := fk13
  have d := qmul_nn (qmul_nn (fk_nn 13) (show (0 : Rat) ≤ 14 / 13 by grind)) (pq_nn (show (0 : Rat) ≤ 1 / 14 by grind) m)
  rw [Cr.sub_im] at b
  grind
theorem row_re {z : Cr} {I : Cq} (h : nrm z ≤ 1) (k : Mm (fun n => (gx (sc 16 z) n).re) I) : I.1.toRat ≤ (en 12 z).re + 1 / 479001600 ∧ (en 12 z).re - 1 / 479001600 ≤ I.2.toRat :=
  row_near (g := fun n => (en n z).re) k (Sm.mono (gx_row h) fun n => by have := nrm_re (gx (sc 16 z) n - en n z); rw [Cr.sub_re] at this; exact this) fun m => tail_re h m
theorem row_im {z : Cr} {I : Cq} (h : nrm z ≤ 1) (k : Mm (fun n => (gx (sc 16 z) n).im) I) : I.1.toRat ≤ (en 12 z).im + 1 / 479001600 ∧ (en 12 z).im - 1 / 479001600 ≤ I.2.toRat :=
  row_near (g := fun n => (en n z).im) k (Sm.mono (gx_row h) fun n => by have := nrm_im (gx (sc 16 z) n - en n z); rw [Cr.sub_im] at this; exact this) fun m => tail_im h m
theorem et_iy (x : Rat) (k : Nat) : (et (iy x) (k + 1)).re = -(x * (et (iy x) k).im * (1 / ((k + 1 : Nat) : Rat))) ∧ (et (iy x) (k + 1)).im = x * (et (iy x) k).re * (1 / ((k + 1 : Nat) : Rat)) := by
  rw [et]; unfold iq iy Cr.ofQ
  constructor
  · rw [Cr.mul_re, Cr.mul_re, Cr.mul_im]; dsimp only; grind
  · rw [Cr.mul_im, Cr.mul_re, Cr.mul_im]; dsimp only; grind
end Go.Ev
