/- Contracts of the given functions, on data. Conditions stand in each theorem. -/
import Derived.Test.YtagjickjfjgfpaaGreatDoorGEvZ
set_option linter.unusedSimpArgs false
set_option linter.unusedVariables false
namespace Go.Ev
open Go

structure Cr where
  re : Rat
  im : Rat
theorem Cr.ext {a b : Cr} (h : a.re = b.re) (k : a.im = b.im) : a = b := by
  cases a; cases b; simp only at h k; rw [h, k]
namespace Cr
def ofQ (r : Rat) : Cr := ⟨r, 0⟩
def pw (z : Cr) : Nat → Cr
  | 0 => ⟨1, 0⟩
  | n + 1 => ⟨(pw z n).re * z.re - (pw z n).im * z.im, (pw z n).re * z.im + (pw z n).im * z.re⟩
instance : Add Cr := ⟨fun a b => ⟨a.re + b.re, a.im + b.im⟩⟩
instance : Mul Cr := ⟨fun a b => ⟨a.re * b.re - a.im * b.im, a.re * b.im + a.im * b.re⟩⟩
instance : Neg Cr := ⟨fun a => ⟨-a.re, -a.im⟩⟩
instance : Sub Cr := ⟨fun a b => ⟨a.re - b.re, a.im - b.im⟩⟩
instance : NatCast Cr := ⟨fun n => ⟨(n : Rat), 0⟩⟩
instance : IntCast Cr := ⟨fun n => ⟨(n : Rat), 0⟩⟩
instance (n : Nat) : OfNat Cr n := ⟨⟨(n : Rat), 0⟩⟩
instance : HPow Cr Nat Cr := ⟨pw⟩
instance : SMul Nat Cr := ⟨fun n a => ⟨(n : Rat) * a.re, (n : Rat) * a.im⟩⟩
instance : SMul Int Cr := ⟨fun n a => ⟨(n : Rat) * a.re, (n : Rat) * a.im⟩⟩
theorem add_re (a b : Cr) : (a + b).re = a.re + b.re := rfl
theorem add_im (a b : Cr) : (a + b).im = a.im + b.im := rfl
theorem mul_re (a b : Cr) : (a * b).re = a.re * b.re - a.im * b.im := rfl
theorem mul_im (a b : Cr) : (a * b).im = a.re * b.im + a.im * b.re := rfl
theorem neg_re (a : Cr) : (-a).re = -a.re := rfl
theorem neg_im (a : Cr) : (-a).im = -a.im := rfl
theorem sub_re (a b : Cr) : (a - b).re = a.re - b.re := rfl
theorem sub_im (a b : Cr) : (a - b).im = a.im - b.im := rfl
theorem nat_re (n : Nat) : ((n : Cr)).re = (n : Rat) := rfl
theorem nat_im (n : Nat) : ((n : Cr)).im = 0 := rfl
theorem ofn_re (n : Nat) : (OfNat.ofNat n : Cr).re = ((n : Nat) : Rat) := rfl
theorem ofn_im (n : Nat) : (OfNat.ofNat n : Cr).im = 0 := rfl
theorem one_re : (1 : Cr).re = 1 := rfl
theorem one_im : (1 : Cr).im = 0 := rfl
theorem zero_re : (0 : Cr).re = 0 := rfl
theorem zero_im : (0 : Cr).im = 0 := rfl
instance : Lean.Grind.CommRing Cr where
  add_zero a := Cr.ext (Rat.add_zero _) (Rat.add_zero _)
  add_comm a b := Cr.ext (Rat.add_comm _ _) (Rat.add_comm _ _)
  add_assoc a b c := Cr.ext (Rat.add_assoc _ _ _) (Rat.add_assoc _ _ _)
  mul_assoc a b c := Cr.ext (by simp only [mul_re, mul_im]; grind) (by simp only [mul_re, mul_im]; grind)
  mul_one a := Cr.ext (by simp only [mul_re, mul_im, one_re, one_im]; grind) (by simp only [mul_re, mul_im, one_re, one_im]; grind)
  one_mul a := Cr.ext (by simp only [mul_re, mul_im, one_re, one_im]; grind) (by simp only [mul_re, mul_im, one_re, one_im]; grind)
  left_distrib a b c := Cr.ext (by simp only [mul_re, mul_im, add_re, add_im]; grind) (by simp only [mul_re, mul_im, add_re, add_im]; grind)
  right_distrib a b c := Cr.ext (by simp only [mul_re, mul_im, add_re, add_im]; grind) (by simp only [mul_re, mul_im, add_re, add_im]; grind)
  zero_mul a := Cr.ext (by simp only [mul_re, mul_im, zero_re, zero_im]; grind) (by simp only [mul_re, mul_im, zero_re, zero_im]; grind)
  mul_zero a := Cr.ext (by simp only [mul_re, mul_im, zero_re, zero_im]; grind) (by simp only [mul_re, mul_im, zero_re, zero_im]; grind)
  pow_zero a := rfl
  pow_succ a n := rfl
  ofNat_succ n := Cr.ext (by simp only [add_re, ofn_re, one_re]; exact Rat.natCast_add n 1) (by simp only [add_im, ofn_im, one_im]; grind)
  ofNat_eq_natCast n := rfl
  nsmul_eq_natCast_mul n a := Cr.ext (by simp only [mul_re, nat_re, nat_im]; show (n : Rat) * a.re = _; grind) (by simp only [mul_im, nat_re, nat_im]; show (n : Rat) * a.im = _; grind)
  neg_add_cancel a := Cr.ext (by simp only [add_re, neg_re, zero_re]; grind) (by simp only [add_im, neg_im, zero_im]; grind)
  sub_eq_add_neg a b := Cr.ext (by simp only [add_re, neg_re, sub_re]; grind) (by simp only [add_im, neg_im, sub_im]; grind)
  neg_zsmul i a := Cr.ext (by show ((-i : Int) : Rat) * a.re = -((i : Rat) * a.re); rw [Rat.intCast_neg]; grind) (by show ((-i : Int) : Rat) * a.im = -((i : Rat) * a.im); rw [Rat.intCast_neg]; grind)
  zsmul_natCast_eq_nsmul n a := Cr.ext rfl rfl
  intCast_ofNat n := rfl
  intCast_neg i := Cr.ext (by show ((-i : Int) : Rat) = -(i : Rat); exact Rat.intCast_neg i) (by show (0 : Rat) = -0; grind)
  mul_comm a b := Cr.ext (by simp only [mul_re]; grind) (by simp only [mul_im]; grind)
example (a b c : Cr) : (a + b) * (a - b) = a * a - b * b := by grind
end Cr
/- LENGTHS -/
def qab (r : Rat) : Rat := if r < 0 then -r else r
theorem qab_le {r s : Rat} : qab r ≤ s ↔ -s ≤ r ∧ r ≤ s := by unfold qab; grind
theorem qab_lt {r s : Rat} : qab r < s ↔ -s < r ∧ r < s := by unfold qab; grind
theorem qab_ge (r : Rat) : 0 ≤ qab r := by unfold qab; grind
theorem qab_add (r s : Rat) : qab (r + s) ≤ qab r + qab s := by unfold qab; grind
theorem qab_neg (r : Rat) : qab (-r) = qab r := by unfold qab; grind
theorem qab_zero : qab 0 = 0 := by unfold qab; grind
theorem qab_self {r : Rat} (h : 0 ≤ r) : qab r = r := by unfold qab; grind
theorem qmul_nn {a b : Rat} (ha : 0 ≤ a) (hb : 0 ≤ b) : 0 ≤ a * b := Rat.mul_nonneg ha hb
theorem qmul_le {a b c d : Rat} (ha : 0 ≤ a) (hab : a ≤ b) (hc : 0 ≤ c) (hcd : c ≤ d) : a * c ≤ b * d := by
  have h1 := Rat.mul_le_mul_of_nonneg_right hab hc
  have h2 := Rat.mul_le_mul_of_nonneg_left hcd (show 0 ≤ b by grind)
  grind
theorem qab_mul (r s : Rat) : qab (r * s) = qab r * qab s := by
  unfold qab
  by_cases h : r < 0 <;> by_cases k : s < 0
  · have := qmul_nn (show 0 ≤ -r by grind) (show 0 ≤ -s by grind)
    rw [if_pos h, if_pos k, if_neg (by grind)]; grind
  · have := qmul_nn (show 0 ≤ -r by grind) (show 0 ≤ s by grind)
    rw [if_pos h, if_neg k]; split <;> grind
  · have := qmul_nn (show 0 ≤ r by grind) (show 0 ≤ -s by grind)
    rw [if_neg h, if_pos k]; split <;> grind
  · have := qmul_nn (show 0 ≤ r by grind) (show 0 ≤ s by grind)
    rw [if_neg h, if_neg k, if_neg (by grind)]
def nrm (z : Cr) : Rat := qab z.re + qab z.im
theorem nrm_ge (z : Cr) : 0 ≤ nrm z := by unfold nrm; have := qab_ge z.re; have := qab_ge z.im; grind
theorem nrm_add (a b : Cr) : nrm (a + b) ≤ nrm a + nrm b := by
  unfold nrm; rw [Cr.add_re, Cr.add_im]
  have := qab_add a.re b.re; have := qab_add a.im b.im; grind
theorem nrm_neg (a : Cr) : nrm (-a) = nrm a := by unfold nrm; rw [Cr.neg_re, Cr.neg_im, qab_neg, qab_neg]
theorem nrm_sub (a b : Cr) : nrm (a - b) ≤ nrm a + nrm b := by
  have := nrm_add a (-b); rw [nrm_neg] at this
  rwa [show a - b = a + -b by grind]
theorem nrm_mul (a b : Cr) : nrm (a * b) ≤ nrm a * nrm b := by
  unfold nrm; rw [Cr.mul_re, Cr.mul_im]
  have h1 := qab_add (a.re * b.re) (-(a.im * b.im)); rw [qab_neg, qab_mul, qab_mul] at h1
  have h2 := qab_add (a.re * b.im) (a.im * b.re); rw [qab_mul, qab_mul] at h2
  rw [show a.re * b.re - a.im * b.im = a.re * b.re + -(a.im * b.im) by grind]
  grind
theorem nrm_q {r : Rat} : nrm (Cr.ofQ r) = qab r := by unfold nrm Cr.ofQ; rw [qab_zero]; grind
theorem nrm_one : nrm 1 = 1 := by unfold nrm; rw [Cr.one_re, Cr.one_im, qab_zero, qab_self (by decide)]; grind
theorem nrm_re (z : Cr) : qab z.re ≤ nrm z := by unfold nrm; have := qab_ge z.im; grind
theorem nrm_im (z : Cr) : qab z.im ≤ nrm z := by unfold nrm; have := qab_ge z.re; grind
end Go.Ev

namespace Go.Ev
open Go

def sm (f : Nat → Cr) : Nat → Cr
  | 0 => f 0
  | n + 1 => sm f n + f (n + 1)
theorem sm_congr {f g : Nat → Cr} : ∀ {n : Nat}, (∀ i, i ≤ n → f i = g i) → sm f n = sm g n
  | 0, h => h 0 (Nat.le_refl _)
  | n + 1, h => by rw [sm, sm, sm_congr (fun i hi => h i (by omega)), h (n + 1) (Nat.le_refl _)]
theorem sm_add (f g : Nat → Cr) : ∀ n, sm (fun i => f i + g i) n = sm f n + sm g n
  | 0 => rfl
  | n + 1 => by rw [sm, sm, sm, sm_add f g n]; grind
theorem sm_mul (c : Cr) (f : Nat → Cr) : ∀ n, sm (fun i => c * f i) n = c * sm f n
  | 0 => rfl
  | n + 1 => by rw [sm, sm, sm_mul c f n]; grind
theorem sm_sub (f g : Nat → Cr) : ∀ n, sm (fun i => f i - g i) n = sm f n - sm g n
  | 0 => rfl
  | n + 1 => by rw [sm, sm, sm, sm_sub f g n]; grind
/-- A sum begun one later. -/
theorem sm_succ (f : Nat → Cr) : ∀ n, sm f (n + 1) = f 0 + sm (fun i => f (i + 1)) n
  | 0 => rfl
  | n + 1 => by rw [sm, sm_succ f n, sm]; grind
/-- One by k. -/
def iq (k : Nat) : Cr := Cr.ofQ (1 / (k : Rat))
theorem iq_mul {k : Nat} (h : k ≠ 0) : (k : Cr) * iq k = 1 := by
  have hk : ((k : Nat) : Rat) ≠ 0 := by exact_mod_cast h
  apply Cr.ext
  · rw [Cr.mul_re, Cr.nat_re, Cr.nat_im]; unfold iq Cr.ofQ; dsimp only; rw [Cr.one_re]; grind
  · rw [Cr.mul_im, Cr.nat_re, Cr.nat_im]; unfold iq Cr.ofQ; dsimp only; rw [Cr.one_im]; grind
/-- The terms. -/
def et (z : Cr) : Nat → Cr
  | 0 => 1
  | k + 1 => z * et z k * iq (k + 1)
/-- The sum of the terms up to the n-th. -/
def en (n : Nat) (z : Cr) : Cr := sm (et z) n
theorem et_succ (z : Cr) (k : Nat) : ((k + 1 : Nat) : Cr) * et z (k + 1) = z * et z k := by
  have := iq_mul (k := k + 1) (by omega)
  rw [et]; grind
/-- The terms of a product. -/
def cv (a b : Cr) (k : Nat) : Cr := sm (fun i => et a i * et b (k - i)) k
theorem nc_add (m n : Nat) : ((m + n : Nat) : Cr) = (m : Cr) + (n : Cr) := Cr.ext (by rw [Cr.add_re, Cr.nat_re, Cr.nat_re, Cr.nat_re]; exact Rat.natCast_add m n) (by rw [Cr.add_im, Cr.nat_im, Cr.nat_im, Cr.nat_im]; grind)
theorem nc_zero : ((0 : Nat) : Cr) = 0 := rfl
theorem cv_succ (a b : Cr) (k : Nat) : ((k + 1 : Nat) : Cr) * cv a b (k + 1) = (a + b) * cv a b k := by
  have h1 : a * cv a b k = sm (fun i => ((i : Nat) : Cr) * (et a i * et b (k + 1 - i))) (k + 1) := by
    rw [sm_succ, cv, ← sm_mul]
    rw [show ((0 : Nat) : Cr) * (et a 0 * et b (k + 1 - 0)) = 0 by rw [nc_zero]; grind]
    rw [show ∀ x : Cr, 0 + x = x from fun x => by grind]
    exact sm_congr fun i hi => by
      have := et_succ a i
      rw [show k + 1 - (i + 1) = k - i by omega]; grind
  have h2 : b * cv a b k = sm (fun i => ((k + 1 - i : Nat) : Cr) * (et a i * et b (k + 1 - i))) (k + 1) := by
    rw [sm, cv, ← sm_mul]
    rw [show ((k + 1 - (k + 1) : Nat) : Cr) * (et a (k + 1) * et b (k + 1 - (k + 1))) = 0 by rw [Nat.sub_self, nc_zero]; grind]
    rw [show ∀ x : Cr, x + 0 = x from fun x => by grind]
    exact sm_congr fun i hi => by
      have := et_succ b (k - i)
      rw [show k + 1 - i = k - i + 1 by omega]; grind
  rw [show (a + b) * cv a b k = a * cv a b k + b * cv a b k by grind, h1, h2, ← sm_add, cv, ← sm_mul]
  exact sm_congr fun i hi => by
    have : ((k + 1 : Nat) : Cr) = (i : Cr) + ((k + 1 - i : Nat) : Cr) := by rw [← nc_add]; congr 1; omega
    rw [this]; grind
theorem nc_cancel {k : Nat} {a b : Cr} (h : ((k + 1 : Nat) : Cr) * a = ((k + 1 : Nat) : Cr) * b) : a = b := by
  have := iq_mul (k := k + 1) (by omega)
  have h2 : iq (k + 1) * (((k + 1 : Nat) : Cr) * a) = iq (k + 1) * (((k + 1 : Nat) : Cr) * b) := by rw [h]
  grind
theorem cv_eq (a b : Cr) : ∀ k, cv a b k = et (a + b) k
  | 0 => by show et a 0 * et b 0 = 1; rw [et, et]; grind
  | k + 1 => nc_cancel (k := k) (by rw [cv_succ, et_succ, cv_eq a b k])
theorem en_sum (a b : Cr) : ∀ n, en n (a + b) = sm (fun i => et a i * en (n - i) b) n
  | 0 => by show et (a + b) 0 = et a 0 * et b 0; rw [et, et, et]; grind
  | n + 1 => by
    rw [en, sm, ← en, en_sum a b n, sm, ← cv_eq, cv, sm]
    rw [show ∀ x y z : Cr, x + (y + z) = (x + y) + z from fun x y z => by grind, ← sm_add]
    congr 1
    · exact sm_congr fun i hi => by
        rw [show n + 1 - i = n - i + 1 by omega, en, en, sm]; grind
    · rw [Nat.sub_self]; rfl
/- HOW LARGE -/
def pq (d : Rat) : Nat → Rat
  | 0 => 1
  | k + 1 => d * pq d k
theorem pq_nn {d : Rat} (h : 0 ≤ d) : ∀ k, 0 ≤ pq d k
  | 0 => by rw [pq]; decide
  | k + 1 => by rw [pq]; exact qmul_nn h (pq_nn h k)
theorem pq_add (d : Rat) (m : Nat) : ∀ n, pq d (m + n) = pq d m * pq d n
  | 0 => by rw [pq]; show pq d m = _; grind
  | n + 1 => by show pq d (m + n + 1) = _; rw [pq, pq, pq_add d m n]; grind
theorem qinv_nn {x : Rat} (h : 0 < x) : 0 ≤ x⁻¹ := by
  rcases Classical.em (0 ≤ x⁻¹) with g | g
  · exact g
  · have h1 := qmul_nn (Rat.le_of_lt h) (show 0 ≤ -x⁻¹ by grind)
    have h2 : x * x⁻¹ = 1 := by grind
    grind
theorem nrm_iq (k : Nat) : nrm (iq (k + 1)) ≤ 1 := by
  have h : (0 : Rat) < ((k + 1 : Nat) : Rat) := by exact_mod_cast Nat.succ_pos k
  have h1 : (1 : Rat) ≤ ((k + 1 : Nat) : Rat) := by exact_mod_cast Nat.succ_le_succ (Nat.zero_le k)
  unfold iq
  rw [nrm_q, qab_self]
  · have h2 : 0 ≤ 1 / ((k + 1 : Nat) : Rat) := by
      rw [Rat.div_def]; exact qmul_nn (by decide) (qinv_nn h)
    have h3 := qmul_le h2 (Rat.le_refl) (show (0 : Rat) ≤ 1 by decide) h1
    have : 1 / ((k + 1 : Nat) : Rat) * ((k + 1 : Nat) : Rat) = 1 := by grind
    grind
  · rw [Rat.div_def]; exact qmul_nn (by decide) (qinv_nn h)
theorem et_le {z : Cr} {d : Rat} (h : nrm z ≤ d) : ∀ k, nrm (et z k) ≤ pq d k
  | 0 => by rw [et, pq, nrm_one]; exact Rat.le_refl
  | k + 1 => by
    have hd : 0 ≤ d := by have := nrm_ge z; grind
    rw [et, pq]
    have h1 := nrm_mul (z * et z k) (iq (k + 1))
    have h2 := nrm_mul z (et z k)
    have h3 := qmul_le (nrm_ge z) h (nrm_ge _) (et_le h k)
    have h4 := qmul_le (nrm_ge (z * et z k)) (show nrm (z * et z k) ≤ d * pq d k by grind) (nrm_ge _) (nrm_iq k)
    grind
/-- What comes behind the m-th term. -/
theorem en_rest {z : Cr} {d : Rat} (h : nrm z ≤ d) (hd : d ≤ 1 / 2) (m : Nat) : ∀ n, nrm (en (m + n) z - en m z) + 2 * pq d (m + n + 1) ≤ 2 * pq d (m + 1)
  | 0 => by
    rw [Nat.add_zero, show en m z - en m z = 0 by grind, show nrm 0 = 0 by unfold nrm; rw [Cr.zero_re, Cr.zero_im, qab_zero]; grind]; grind
  | n + 1 => by
    have hd0 : 0 ≤ d := by have := nrm_ge z; grind
    have ih := en_rest h hd m n
    have h1 := et_le h (m + n + 1)
    have h2 := nrm_add (en (m + n) z - en m z) (et z (m + n + 1))
    have h3 := pq_nn hd0 (m + n + 1)
    have h4 := Rat.mul_le_mul_of_nonneg_right hd h3
    show nrm (en (m + n + 1) z - en m z) + 2 * pq d (m + n + 1 + 1) ≤ _
    rw [show en (m + n + 1) z = en (m + n) z + et z (m + n + 1) from rfl, show en (m + n) z + et z (m + n + 1) - en m z = en (m + n) z - en m z + et z (m + n + 1) by grind]
    rw [show pq d (m + n + 1 + 1) = d * pq d (m + n + 1) from rfl]
    generalize pq d (m + n + 1) = p at *
    generalize pq d (m + 1) = q at *
    generalize nrm (en (m + n) z - en m z + et z (m + n + 1)) = x at *
    grind
end Go.Ev

namespace Go.Ev
open Go

def Sm (f : Nat → Rat) : Prop := ∀ e : Rat, 0 < e → ∃ T : Nat, ∀ n, T ≤ n → f n ≤ e
theorem Sm.mono {f g : Nat → Rat} (h : Sm g) (k : ∀ n, f n ≤ g n) : Sm f := fun e he => by
  obtain ⟨T, hT⟩ := h e he
  exact ⟨T, fun n hn => by have := hT n hn; have := k n; grind⟩
theorem Sm.mono' {f g : Nat → Rat} (h : Sm g) (T0 : Nat) (k : ∀ n, T0 ≤ n → f n ≤ g n) : Sm f := fun e he => by
  obtain ⟨T, hT⟩ := h e he
  exact ⟨T + T0, fun n hn => by have := hT n (by omega); have := k n (by omega); grind⟩
theorem Sm.add {f g : Nat → Rat} (h : Sm f) (k : Sm g) : Sm (fun n => f n + g n) := fun e he => by
  obtain ⟨T, hT⟩ := h (e / 2) (by grind)
  obtain ⟨T', hT'⟩ := k (e / 2) (by grind)
  exact ⟨T + T', fun n hn => by have := hT n (by omega); have := hT' n (by omega); grind⟩
theorem Sm.mul {f : Nat → Rat} (h : Sm f) {M : Rat} (hM : 0 ≤ M) : Sm (fun n => M * f n) := fun e he => by
  obtain ⟨T, hT⟩ := h (e / (M + 1)) (by
    rw [Rat.div_def]
    have h1 := qinv_nn (show 0 < M + 1 by grind)
    have h2 : (M + 1) * (M + 1)⁻¹ = 1 := by grind
    have h3 := qmul_nn (Rat.le_of_lt he) h1
    rcases Classical.em (e * (M + 1)⁻¹ = 0) with g | g
    · have : e * (M + 1)⁻¹ * (M + 1) = 0 := by rw [g]; grind
      grind
    · grind)
  refine ⟨T, fun n hn => ?_⟩
  have h1 := Rat.mul_le_mul_of_nonneg_left (hT n hn) hM
  have h2 : (M + 1) * (e / (M + 1)) = e := by grind
  have h3 : 0 ≤ e / (M + 1) := by
    rw [Rat.div_def]; exact qmul_nn (Rat.le_of_lt he) (qinv_nn (by grind))
  grind
theorem half_le : ∀ k : Nat, ((k : Nat) : Rat) * pq (1 / 2) k + pq (1 / 2) k ≤ 1
  | 0 => by show ((0 : Nat) : Rat) * 1 + 1 ≤ 1; grind
  | k + 1 => by
    have ih := half_le k
    have h := pq_nn (show (0 : Rat) ≤ 1 / 2 by grind) k
    have hk : (0 : Rat) ≤ ((k : Nat) : Rat) := by exact_mod_cast Nat.zero_le k
    have h2 := qmul_nn hk h
    rw [pq, Rat.natCast_add]
    grind
theorem arch {e : Rat} (he : 0 < e) : ∃ T : Nat, 1 ≤ ((T : Nat) : Rat) * e := by
  refine ⟨e.den, ?_⟩
  have h1 : (e.num : Rat) / ((e.den : Int) : Rat) = e := by rw [← Rat.divInt_eq_div]; exact Rat.num_divInt_den e
  have h3 : ((e.den : Int) : Rat) ≠ 0 := by exact_mod_cast e.den_nz
  have h5 : ((e.den : Int) : Rat) * e = (e.num : Rat) := by
    have : ((e.den : Int) : Rat) * ((e.num : Rat) / ((e.den : Int) : Rat)) = (e.num : Rat) := by grind
    rwa [h1] at this
  have hd : (0 : Rat) < ((e.den : Int) : Rat) := by exact_mod_cast e.den_pos
  have h2 : 0 < e.num := by
    have : (0 : Rat) < (e.num : Rat) := by rw [← h5]; exact Rat.mul_pos hd he
    exact_mod_cast this
  have h4 : (1 : Rat) ≤ (e.num : Rat) := by exact_mod_cast h2
  show (1 : Rat) ≤ ((e.den : Nat) : Rat) * e
  have h6 : ((e.den : Nat) : Rat) = ((e.den : Int) : Rat) := by norm_cast
  rw [h6, h5]; exact h4
theorem Sm.half : Sm (pq (1 / 2)) := fun e he => by
  obtain ⟨T, hT⟩ := arch he
  refine ⟨T, fun n hn => ?_⟩
  have h1 := half_le n
  have h2 := pq_nn (show (0 : Rat) ≤ 1 / 2 by grind) n
  have h3 : ((T : Nat) : Rat) ≤ ((n : Nat) : Rat) := by exact_mod_cast hn
  have h4 := Rat.mul_le_mul_of_nonneg_right h3 (Rat.le_of_lt he)
  have hn0 : (0 : Rat) ≤ ((n : Nat) : Rat) := by exact_mod_cast Nat.zero_le n
  rcases Classical.em (pq (1 / 2) n ≤ e) with g | g
  · exact g
  · have h5 := Rat.mul_le_mul_of_nonneg_left (show e ≤ pq (1 / 2) n by grind) hn0
    grind
theorem quarter_le : ∀ k : Nat, ((k : Nat) : Rat) * pq (1 / 4) k ≤ pq (1 / 2) k ∧ pq (1 / 4) k ≤ pq (1 / 2) k
  | 0 => by show ((0 : Nat) : Rat) * 1 ≤ 1 ∧ (1 : Rat) ≤ 1; grind
  | k + 1 => by
    obtain ⟨h1, h2⟩ := quarter_le k
    have h := pq_nn (show (0 : Rat) ≤ 1 / 2 by grind) k
    rw [pq, pq, Rat.natCast_add]
    grind
theorem pq_mono {c d : Rat} (hc : 0 ≤ c) (h : c ≤ d) : ∀ k, pq c k ≤ pq d k
  | 0 => Rat.le_refl
  | k + 1 => by rw [pq, pq]; exact qmul_le hc h (pq_nn hc k) (pq_mono hc h k)
theorem nrm_sm {f : Nat → Cr} {B : Rat} : ∀ {n : Nat}, (∀ i, i ≤ n → nrm (f i) ≤ B) → nrm (sm f n) ≤ ((n + 1 : Nat) : Rat) * B
  | 0, h => by have := h 0 (Nat.le_refl _); show nrm (f 0) ≤ ((0 + 1 : Nat) : Rat) * B; rw [Rat.natCast_add]; grind
  | n + 1, h => by
    have h1 := nrm_sm (f := f) (B := B) (n := n) (fun i hi => h i (by omega))
    have h2 := h (n + 1) (Nat.le_refl _)
    have h3 := nrm_add (sm f n) (f (n + 1))
    rw [sm, Rat.natCast_add (n + 1) 1]
    grind
theorem en_mul {a b : Cr} {d : Rat} (ha : nrm a ≤ d) (hb : nrm b ≤ d) (hd : d ≤ 1 / 2) (n : Nat) : nrm (en n a * en n b - en n (a + b)) ≤ ((n + 1 : Nat) : Rat) * (2 * pq d (n + 1)) := by
  have hd0 : 0 ≤ d := by have := nrm_ge a; grind
  rw [en_sum, show en n a * en n b = en n b * sm (et a) n by rw [← en]; grind, ← sm_mul, ← sm_sub]
  refine nrm_sm fun i hi => ?_
  have h1 := en_rest hb hd (n - i) i
  rw [show n - i + i = n by omega] at h1
  rw [show en n b * et a i - et a i * en (n - i) b = et a i * (en n b - en (n - i) b) by grind]
  have h2 := nrm_mul (et a i) (en n b - en (n - i) b)
  have h3 := qmul_le (nrm_ge (et a i)) (et_le ha i) (nrm_ge (en n b - en (n - i) b)) (show _ ≤ 2 * pq d (n - i + 1) by have := pq_nn hd0 (n + 1); grind)
  have h4 : pq d i * pq d (n - i + 1) = pq d (n + 1) := by rw [← pq_add]; congr 1; omega
  grind
/- CLOSE -/
def Cl (u v : Nat → Cr) : Prop := Sm (fun n => nrm (u n - v n))
def Bd (u : Nat → Cr) : Prop := ∃ M : Rat, 0 ≤ M ∧ ∀ n, nrm (u n) ≤ M
theorem Cl.refl (u : Nat → Cr) : Cl u u := fun e he => ⟨0, fun n _ => by
  show nrm (u n - u n) ≤ e
  rw [show u n - u n = 0 by grind, show nrm 0 = 0 by unfold nrm; rw [Cr.zero_re, Cr.zero_im, qab_zero]; grind]; grind⟩
theorem Cl.symm {u v : Nat → Cr} (h : Cl u v) : Cl v u := Sm.mono h fun n => by
  show nrm (v n - u n) ≤ nrm (u n - v n)
  rw [show v n - u n = -(u n - v n) by grind, nrm_neg]; exact Rat.le_refl
theorem Cl.trans {u v w : Nat → Cr} (h : Cl u v) (k : Cl v w) : Cl u w := (h.add k).mono fun n => by
  show nrm (u n - w n) ≤ nrm (u n - v n) + nrm (v n - w n)
  have := nrm_add (u n - v n) (v n - w n)
  rwa [show u n - v n + (v n - w n) = u n - w n by grind] at this
theorem Cl.add {u v u' v' : Nat → Cr} (h : Cl u v) (k : Cl u' v') : Cl (fun n => u n + u' n) (fun n => v n + v' n) := (Sm.add h k).mono fun n => by
  show nrm (u n + u' n - (v n + v' n)) ≤ nrm (u n - v n) + nrm (u' n - v' n)
  have := nrm_add (u n - v n) (u' n - v' n)
  rwa [show u n - v n + (u' n - v' n) = u n + u' n - (v n + v' n) by grind] at this
theorem Cl.mul {u v u' v' : Nat → Cr} (h : Cl u v) (k : Cl u' v') (hb : Bd u') (hv : Bd v) : Cl (fun n => u n * u' n) (fun n => v n * v' n) := by
  obtain ⟨M, hM, b1⟩ := hb
  obtain ⟨N, hN, b2⟩ := hv
  refine (Sm.add (Sm.mul h hM) (Sm.mul k hN)).mono fun n => ?_
  show nrm (u n * u' n - v n * v' n) ≤ M * nrm (u n - v n) + N * nrm (u' n - v' n)
  have h1 := nrm_add (u' n * (u n - v n)) (v n * (u' n - v' n))
  rw [show u' n * (u n - v n) + v n * (u' n - v' n) = u n * u' n - v n * v' n by grind] at h1
  have h2 := nrm_mul (u' n) (u n - v n)
  have h3 := nrm_mul (v n) (u' n - v' n)
  have h4 := Rat.mul_le_mul_of_nonneg_right (b1 n) (nrm_ge (u n - v n))
  have h5 := Rat.mul_le_mul_of_nonneg_right (b2 n) (nrm_ge (u' n - v' n))
  grind
theorem Bd.mul {u v : Nat → Cr} (h : Bd u) (k : Bd v) : Bd (fun n => u n * v n) := by
  obtain ⟨M, hM, b1⟩ := h
  obtain ⟨N, hN, b2⟩ := k
  refine ⟨M * N, qmul_nn hM hN, fun n => ?_⟩
  have := nrm_mul (u n) (v n)
  have := qmul_le (nrm_ge (u n)) (b1 n) (nrm_ge (v n)) (b2 n)
  show nrm (u n * v n) ≤ _
  grind
/-- As often squared. -/
def sqr : Nat → Cr → Cr
  | 0, z => z
  | k + 1, z => sqr k z * sqr k z
theorem sqr_mul (a b : Cr) : ∀ k, sqr k (a * b) = sqr k a * sqr k b
  | 0 => rfl
  | k + 1 => by rw [sqr, sqr, sqr, sqr_mul a b k]; grind
theorem sqr_one : ∀ k, sqr k 1 = 1
  | 0 => rfl
  | k + 1 => by rw [sqr, sqr_one k]; grind
theorem Bd.sqr {u : Nat → Cr} (h : Bd u) : ∀ k, Bd (fun n => sqr k (u n))
  | 0 => h
  | k + 1 => (h.sqr k).mul (h.sqr k)
theorem Cl.sqr {u v : Nat → Cr} (h : Cl u v) (hu : Bd u) (hv : Bd v) : ∀ k, Cl (fun n => sqr k (u n)) (fun n => sqr k (v n))
  | 0 => h
  | k + 1 => (Cl.sqr h hu hv k).mul (Cl.sqr h hu hv k) (hu.sqr k) (hv.sqr k)
theorem en_bd {z : Cr} (h : nrm z ≤ 1 / 2) : Bd (fun n => en n z) := ⟨2, by grind, fun n => by
  have h1 := en_rest h (Rat.le_refl) 0 n
  rw [Nat.zero_add] at h1
  have h2 := nrm_add (en n z - en 0 z) (en 0 z)
  have h3 := pq_nn (show (0 : Rat) ≤ 1 / 2 by grind) (n + 1)
  rw [show en n z - en 0 z + en 0 z = en n z by grind, show en 0 z = 1 from rfl, nrm_one] at h2
  rw [show pq (1 / 2) (0 + 1) = 1 / 2 by rw [pq, pq]; grind, show en 0 z = 1 from rfl] at h1
  grind⟩
theorem en_cl {a b : Cr} (ha : nrm a ≤ 1 / 4) (hb : nrm b ≤ 1 / 4) : Cl (fun n => en n a * en n b) (fun n => en n (a + b)) := by
  refine ((Sm.mul Sm.half (show (0 : Rat) ≤ 2 by decide))).mono fun n => ?_
  show nrm (en n a * en n b - en n (a + b)) ≤ 2 * pq (1 / 2) n
  have h1 := en_mul ha hb (by grind) n
  have h2 := (quarter_le (n + 1)).1
  have h3 := pq_nn (show (0 : Rat) ≤ 1 / 2 by grind) n
  rw [show pq (1 / 2) (n + 1) = 1 / 2 * pq (1 / 2) n from rfl] at h2
  grind
/-- The exponent of 65536 z. -/
def gx (z : Cr) (n : Nat) : Cr := sqr 16 (en n z)
theorem gx_bd {z : Cr} (h : nrm z ≤ 1 / 2) : Bd (gx z) := (en_bd h).sqr 16
theorem gx_cl {a b : Cr} (ha : nrm a ≤ 1 / 4) (hb : nrm b ≤ 1 / 4) : Cl (fun n => gx a n * gx b n) (gx (a + b)) := by
  have h1 := en_bd (z := a) (by grind)
  have h2 := en_bd (z := b) (by grind)
  have h3 := en_bd (z := a + b) (by have := nrm_add a b; grind)
  have h := Cl.sqr (en_cl ha hb) (h1.mul h2) h3 16
  have e : (fun n => gx a n * gx b n) = fun n => sqr 16 (en n a * en n b) := funext fun n => (sqr_mul _ _ _).symm
  rw [e]; exact h
theorem et_zero : ∀ k, et 0 (k + 1) = 0 := fun k => by rw [et]; grind
theorem en_zero : ∀ n, en n 0 = 1
  | 0 => rfl
  | n + 1 => by rw [en, sm, ← en, en_zero n, et_zero]; grind
theorem gx_zero (n : Nat) : gx 0 n = 1 := by unfold gx; rw [en_zero, sqr_one]
theorem gx_inv {a : Cr} (ha : nrm a ≤ 1 / 4) : Cl (fun n => gx a n * gx (-a) n) (fun _ => 1) := by
  have h := gx_cl ha (b := -a) (by rw [nrm_neg]; exact ha)
  rw [show a + -a = 0 by grind] at h
  rw [show (fun _ : Nat => (1 : Cr)) = gx 0 from funext fun n => (gx_zero n).symm]; exact h
end Go.Ev

namespace Go.Ev
open Go

/- REAL -/
theorem et_real (y : Rat) : ∀ k, (et (Cr.ofQ y) k).im = 0
  | 0 => rfl
  | k + 1 => by
    rw [et, Cr.mul_im, Cr.mul_im, et_real y k]
    show _ * (0 : Rat) + (y * 0 + 0 * _) * _ = 0
    grind
theorem en_real (y : Rat) : ∀ n, (en n (Cr.ofQ y)).im = 0
  | 0 => rfl
  | n + 1 => by rw [en, sm, ← en, Cr.add_im, en_real y n, et_real]; grind
theorem et_re (y : Rat) (k : Nat) : (et (Cr.ofQ y) (k + 1)).re = y * (et (Cr.ofQ y) k).re * (1 / ((k + 1 : Nat) : Rat)) := by
  have h := et_real y k
  rw [et, Cr.mul_re, Cr.mul_re, Cr.mul_im, h]
  show (y * _ - 0 * 0) * (1 / ((k + 1 : Nat) : Rat)) - (y * 0 + 0 * _) * 0 = _
  grind
theorem sqr_real {z : Cr} (h : z.im = 0) : ∀ k, (sqr k z).im = 0
  | 0 => h
  | k + 1 => by rw [sqr, Cr.mul_im, sqr_real h k]; grind
def qsq : Nat → Rat → Rat
  | 0, r => r
  | k + 1, r => qsq k r * qsq k r
theorem sqr_re {z : Cr} (h : z.im = 0) : ∀ k, (sqr k z).re = qsq k z.re
  | 0 => rfl
  | k + 1 => by rw [sqr, Cr.mul_re, sqr_real h k, sqr_re h k, qsq]; grind
theorem qsq_pos {r : Rat} (h : 0 < r) : ∀ k, 0 < qsq k r
  | 0 => h
  | k + 1 => by rw [qsq]; exact Rat.mul_pos (qsq_pos h k) (qsq_pos h k)
theorem qsq_mono {r s : Rat} (h : 0 < r) (k : r ≤ s) : ∀ j, qsq j r ≤ qsq j s
  | 0 => k
  | j + 1 => by
    have := qsq_pos h j
    rw [qsq, qsq]; exact qmul_le (by grind) (qsq_mono h k j) (by grind) (qsq_mono h k j)
theorem qinv_le (k : Nat) : 0 ≤ 1 / ((k + 1 : Nat) : Rat) ∧ 1 / ((k + 1 : Nat) : Rat) ≤ 1 ∧ (1 ≤ k → 1 / ((k + 1 : Nat) : Rat) ≤ 1 / 2) := by
  have h1 : (1 : Rat) ≤ ((k + 1 : Nat) : Rat) := by exact_mod_cast Nat.succ_le_succ (Nat.zero_le k)
  have h0 : 0 ≤ 1 / ((k + 1 : Nat) : Rat) := by rw [Rat.div_def]; exact qmul_nn (by decide) (qinv_nn (by grind))
  have h2 : 1 / ((k + 1 : Nat) : Rat) * ((k + 1 : Nat) : Rat) = 1 := by grind
  have h3 := Rat.mul_le_mul_of_nonneg_left h1 h0
  refine ⟨h0, by grind, fun hk => ?_⟩
  have h4 : (2 : Rat) ≤ ((k + 1 : Nat) : Rat) := by exact_mod_cast Nat.succ_le_succ hk
  have h5 := Rat.mul_le_mul_of_nonneg_left h4 h0
  grind
theorem et_abs {y d : Rat} (h : qab y ≤ d) (k : Nat) : qab (et (Cr.ofQ y) k).re ≤ pq d k := by
  have h1 := et_le (z := Cr.ofQ y) (d := d) (by rw [nrm_q]; exact h) k
  have h2 := nrm_re (et (Cr.ofQ y) k)
  grind
theorem et_diff {x y d : Rat} (hx : qab x ≤ d) (hy : qab y ≤ d) (h : x ≤ y) : ∀ k, qab ((et (Cr.ofQ y) (k + 1)).re - (et (Cr.ofQ x) (k + 1)).re) ≤ (y - x) * pq d k
  | 0 => by
    rw [et_re, et_re]
    show qab (y * 1 * (1 / ((0 + 1 : Nat) : Rat)) - x * 1 * (1 / ((0 + 1 : Nat) : Rat))) ≤ (y - x) * 1
    rw [show ((0 + 1 : Nat) : Rat) = 1 by rfl, qab_self (by grind)]; grind
  | k + 1 => by
    have ih := et_diff hx hy h k
    have hd : 0 ≤ d := by have := qab_ge x; grind
    have a1 := et_abs hy (k + 1)
    obtain ⟨i0, i1, i2⟩ := qinv_le (k + 1)
    have i2 := i2 (by omega)
    rw [et_re y (k + 1), et_re x (k + 1)]
    generalize (et (Cr.ofQ y) (k + 1)).re = p at *
    generalize (et (Cr.ofQ x) (k + 1)).re = q at *
    generalize 1 / ((k + 1 + 1 : Nat) : Rat) = i at *
    rw [show y * p * i - x * q * i = i * ((y - x) * p + x * (p - q)) by grind, qab_mul, qab_self i0]
    have b1 := qab_add ((y - x) * p) (x * (p - q))
    rw [qab_mul, qab_mul, qab_self (show 0 ≤ y - x by grind)] at b1
    have b2 := Rat.mul_le_mul_of_nonneg_left a1 (show 0 ≤ y - x by grind)
    have b3 := qmul_le (qab_ge x) hx (qab_ge (p - q)) ih
    have b4 := qmul_le i0 i2 (qab_ge ((y - x) * p + x * (p - q))) (show _ ≤ 2 * ((y - x) * pq d (k + 1)) by rw [pq] at *; grind)
    grind
/-- The row's sum at a real number. -/
def er (n : Nat) (y : Rat) : Rat := (en n (Cr.ofQ y)).re
theorem er_succ (n : Nat) (y : Rat) : er (n + 1) y = er n y + (et (Cr.ofQ y) (n + 1)).re := rfl
theorem er_mono {x y d : Rat} (hx : qab x ≤ d) (hy : qab y ≤ d) (hd : d ≤ 1 / 2) (h : x ≤ y) : ∀ n, (y - x) * (1 - 2 * d + 2 * pq d (n + 1)) ≤ er (n + 1) y - er (n + 1) x
  | 0 => by
    have h0 : qab x ≤ d := hx
    show _ ≤ (er 0 y + _) - (er 0 x + _)
    rw [et_re, et_re, show er 0 y = 1 from rfl, show er 0 x = 1 from rfl]
    show (y - x) * (1 - 2 * d + 2 * (d * 1)) ≤ 1 + y * 1 * (1 / ((0 + 1 : Nat) : Rat)) - (1 + x * 1 * (1 / ((0 + 1 : Nat) : Rat)))
    rw [show ((0 + 1 : Nat) : Rat) = 1 by rfl]; grind
  | n + 1 => by
    have ih := er_mono hx hy hd h n
    have h1 := et_diff hx hy h (n + 1)
    have hd0 : 0 ≤ d := by have := qab_ge x; grind
    rw [er_succ (n + 1) y, er_succ (n + 1) x]
    have h2 := qab_le.1 h1
    have h3 := Rat.mul_le_mul_of_nonneg_right hd (pq_nn hd0 (n + 1))
    have h4 := Rat.mul_le_mul_of_nonneg_left h3 (show 0 ≤ y - x by grind)
    rw [show pq d (n + 1 + 1) = d * pq d (n + 1) from rfl]
    grind
theorem er_le {x y : Rat} (hx : qab x ≤ 1 / 2) (hy : qab y ≤ 1 / 2) (h : x ≤ y) : ∀ n, er n x ≤ er n y
  | 0 => Rat.le_refl
  | n + 1 => by
    have h1 := er_mono hx hy Rat.le_refl h n
    have h2 := qmul_nn (show 0 ≤ y - x by grind) (pq_nn (show (0 : Rat) ≤ 1 / 2 by grind) (n + 1))
    grind
theorem er_ge {y d : Rat} (h : qab y ≤ d) (hd : d ≤ 1 / 2) (n : Nat) : 1 - 2 * d ≤ er n y ∧ er n y ≤ 1 + 2 * d := by
  have hd0 : 0 ≤ d := by have := qab_ge y; grind
  have h1 := en_rest (z := Cr.ofQ y) (d := d) (by rw [nrm_q]; exact h) hd 0 n
  rw [Nat.zero_add, show pq d (0 + 1) = d by rw [pq, pq]; grind] at h1
  have h2 := nrm_re (en n (Cr.ofQ y) - en 0 (Cr.ofQ y))
  rw [Cr.sub_re, show (en 0 (Cr.ofQ y)).re = 1 from rfl] at h2
  have h3 := pq_nn hd0 (n + 1)
  have h4 := (qab_le (r := (en n (Cr.ofQ y)).re - 1) (s := 2 * d)).1 (by grind)
  unfold er; grind
/-- The exponent of 65536 y, of a real y. -/
def gr (y : Rat) (n : Nat) : Rat := (gx (Cr.ofQ y) n).re
theorem gr_eq (y : Rat) (n : Nat) : gr y n = qsq 16 (er n y) := sqr_re (en_real y n) 16
theorem gx_real (y : Rat) (n : Nat) : (gx (Cr.ofQ y) n).im = 0 := sqr_real (en_real y n) 16
theorem gr_pos {y : Rat} (h : qab y ≤ 1 / 4) (n : Nat) : 0 < gr y n := by
  rw [gr_eq]; exact qsq_pos (by have := er_ge h (by grind) n; grind) 16
theorem gr_mono {x y : Rat} (hx : qab x ≤ 1 / 4) (hy : qab y ≤ 1 / 4) (h : x ≤ y) (n : Nat) : gr x n ≤ gr y n := by
  rw [gr_eq, gr_eq]
  exact qsq_mono (by have := er_ge hx (by grind) n; grind) (er_le (by grind) (by grind) h n) 16
/- ON THE CIRCLE -/
def cj (z : Cr) : Cr := ⟨z.re, -z.im⟩
theorem cj_mul (a b : Cr) : cj (a * b) = cj a * cj b := Cr.ext (by rw [Cr.mul_re]; show a.re * b.re - a.im * b.im = a.re * b.re - -a.im * -b.im; grind) (by rw [Cr.mul_im]; show -(a.re * b.im + a.im * b.re) = a.re * -b.im + -a.im * b.re; grind)
theorem cj_add (a b : Cr) : cj (a + b) = cj a + cj b := Cr.ext rfl (by rw [Cr.add_im]; show -(a.im + b.im) = -a.im + -b.im; grind)
theorem cj_et (z : Cr) : ∀ k, et (cj z) k = cj (et z k)
  | 0 => Cr.ext rfl (by show (0 : Rat) = -0; grind)
  | k + 1 => by
    rw [et, et, cj_et z k, cj_mul, cj_mul]; congr 1
theorem cj_en (z : Cr) : ∀ n, en n (cj z) = cj (en n z)
  | 0 => cj_et z 0
  | n + 1 => by rw [en, sm, ← en, cj_en z n, cj_et, ← cj_add]; rfl
theorem cj_sqr (z : Cr) : ∀ k, sqr k (cj z) = cj (sqr k z)
  | 0 => rfl
  | k + 1 => by rw [sqr, cj_sqr z k, ← cj_mul]; rfl
def iy (r : Rat) : Cr := ⟨0, r⟩
theorem iy_neg (r : Rat) : -iy r = cj (iy r) := Cr.ext (by show -(0 : Rat) = 0; grind) rfl
theorem iy_add (r s : Rat) : iy r + iy s = iy (r + s) := Cr.ext (by show (0 : Rat) + 0 = 0; grind) rfl
theorem nrm_iy (r : Rat) : nrm (iy r) = qab r := by unfold nrm iy; rw [qab_zero]; grind
def N2 (z : Cr) : Rat := z.re * z.re + z.im * z.im
theorem N2_mul (a b : Cr) : N2 (a * b) = N2 a * N2 b := by unfold N2; rw [Cr.mul_re, Cr.mul_im]; grind
theorem N2_nn (z : Cr) : 0 ≤ N2 z := by
  unfold N2
  have h : ∀ r : Rat, 0 ≤ r * r := fun r => by
    rcases Classical.em (0 ≤ r) with g | g
    · exact qmul_nn g g
    · have := qmul_nn (show 0 ≤ -r by grind) (show 0 ≤ -r by grind); grind
  have := h z.re; have := h z.im; grind
theorem N2_cj (z : Cr) : z * cj z = Cr.ofQ (N2 z) := Cr.ext (by rw [Cr.mul_re]; show z.re * z.re - z.im * -z.im = z.re * z.re + z.im * z.im; grind) (by rw [Cr.mul_im]; show z.re * -z.im + z.im * z.re = 0; grind)
theorem N2_near {r : Rat} (h : qab r ≤ 1 / 4) (j : Nat) : Sm (fun n => qab (N2 (sqr j (en n (iy r))) - 1)) := by
  have h1 := en_cl (a := iy r) (b := -iy r) (by rw [nrm_iy]; exact h) (by rw [nrm_neg, nrm_iy]; exact h)
  have b1 := en_bd (z := iy r) (by rw [nrm_iy]; grind)
  have b2 := en_bd (z := -iy r) (by rw [nrm_neg, nrm_iy]; grind)
  have b3 := en_bd (z := iy r + -iy r) (by rw [show iy r + -iy r = 0 by grind, show nrm 0 = 0 by unfold nrm; rw [Cr.zero_re, Cr.zero_im, qab_zero]; grind]; grind)
  have h2 := Cl.sqr h1 (b1.mul b2) b3 j
  refine h2.mono fun n => ?_
  show qab (N2 (sqr j (en n (iy r))) - 1) ≤ nrm (sqr j (en n (iy r) * en n (-iy r)) - sqr j (en n (iy r + -iy r)))
  rw [show iy r + -iy r = 0 by grind, en_zero, sqr_one, iy_neg, cj_en, sqr_mul, cj_sqr, N2_cj]
  have := nrm_re (Cr.ofQ (N2 (sqr j (en n (iy r)))) - 1)
  rwa [Cr.sub_re, show (Cr.ofQ (N2 (sqr j (en n (iy r))))).re = N2 (sqr j (en n (iy r))) from rfl, Cr.one_re] at this
end Go.Ev

namespace Go.Ev
open Go

theorem N2_close {u v : Nat → Cr} (h : Cl u v) (hu : Bd u) (hv : Bd v) : Sm (fun n => qab (N2 (u n) - N2 (v n))) := by
  obtain ⟨M, hM, b1⟩ := hu
  obtain ⟨N, hN, b2⟩ := hv
  refine (Sm.mul h (show 0 ≤ M + N by grind)).mono fun n => ?_
  show qab (N2 (u n) - N2 (v n)) ≤ (M + N) * nrm (u n - v n)
  have b1 := b1 n
  have b2 := b2 n
  generalize u n = a at *
  generalize v n = b at *
  have e : N2 a - N2 b = (a.re - b.re) * (a.re + b.re) + (a.im - b.im) * (a.im + b.im) := by unfold N2; grind
  rw [e]
  have h1 := qab_add ((a.re - b.re) * (a.re + b.re)) ((a.im - b.im) * (a.im + b.im))
  rw [qab_mul, qab_mul] at h1
  have c1 := qab_add a.re b.re
  have c2 := qab_add a.im b.im
  have d1 := nrm_re a; have d2 := nrm_re b; have d3 := nrm_im a; have d4 := nrm_im b
  have f1 := Rat.mul_le_mul_of_nonneg_left (show qab (a.re + b.re) ≤ M + N by grind) (qab_ge (a.re - b.re))
  have f2 := Rat.mul_le_mul_of_nonneg_left (show qab (a.im + b.im) ≤ M + N by grind) (qab_ge (a.im - b.im))
  have g : nrm (a - b) = qab (a.re - b.re) + qab (a.im - b.im) := rfl
  rw [g]; grind
theorem N2_le (a : Cr) : N2 a ≤ nrm a * nrm a := by
  unfold N2 nrm
  have h : ∀ r : Rat, r * r = qab r * qab r := fun r => by unfold qab; split <;> grind
  have := qmul_nn (qab_ge a.re) (qab_ge a.im)
  rw [h a.re, h a.im]; grind
theorem N2_par (a : Cr) : N2 (a + 1) + N2 (a - 1) = 2 * N2 a + 2 := by
  unfold N2; rw [Cr.add_re, Cr.add_im, Cr.sub_re, Cr.sub_im, Cr.one_re, Cr.one_im]; grind
/-- How far from 1 a square is. -/
theorem N2_grow {r : Rat} (h : qab r ≤ 1 / 4) : ∀ j, Sm (fun n => N2 (sqr j (en n (iy r)) - 1) - pq 4 j * N2 (en n (iy r) - 1))
  | 0 => fun e he => ⟨0, fun n _ => by
    show N2 (en n (iy r) - 1) - 1 * N2 (en n (iy r) - 1) ≤ e
    grind⟩
  | j + 1 => by
    have ih := N2_grow h j
    have g := N2_near h j
    obtain ⟨M, hM, b⟩ := (en_bd (z := iy r) (by rw [nrm_iy]; grind)).sqr j
    have hB : 0 ≤ (M + 1) * (M + 1) := qmul_nn (by grind) (by grind)
    refine ((ih.mul (show (0 : Rat) ≤ 4 by decide)).add (g.mul (show 0 ≤ 2 * ((M + 1) * (M + 1)) by grind))).mono fun n => ?_
    show N2 (sqr (j + 1) (en n (iy r)) - 1) - pq 4 (j + 1) * N2 (en n (iy r) - 1) ≤ 4 * (N2 (sqr j (en n (iy r)) - 1) - pq 4 j * N2 (en n (iy r) - 1)) + 2 * ((M + 1) * (M + 1)) * qab (N2 (sqr j (en n (iy r))) - 1)
    have b := b n
    rw [sqr, pq]
    dsimp only at b
    generalize sqr j (en n (iy r)) = u at *
    generalize N2 (en n (iy r) - 1) = N at *
    rw [show u * u - 1 = (u - 1) * (u + 1) by grind, N2_mul]
    have p := N2_par u
    have q := N2_nn (u - 1)
    have q2 := N2_nn u
    have k1 := N2_le (u - 1)
    have k2 := nrm_sub u 1
    rw [nrm_one] at k2
    have k3 := qmul_le (nrm_ge (u - 1)) (show nrm (u - 1) ≤ M + 1 by grind) (nrm_ge (u - 1)) (show nrm (u - 1) ≤ M + 1 by grind)
    have k4 : N2 (u + 1) ≤ 4 + 2 * qab (N2 u - 1) := by
      have := (qab_le (r := N2 u - 1) (s := qab (N2 u - 1))).1 Rat.le_refl
      grind
    have k5 := Rat.mul_le_mul_of_nonneg_left k4 q
    have k6 := Rat.mul_le_mul_of_nonneg_right (show N2 (u - 1) ≤ (M + 1) * (M + 1) by grind) (qab_ge (N2 u - 1))
    grind
theorem en_far {r : Rat} (h : qab r ≤ 1 / 4) (n : Nat) : N2 (en (1 + n) (iy r) - 1) ≤ qab r * qab r + 6 * (qab r * qab r * qab r) := by
  have h1 := en_rest (z := iy r) (d := qab r) (by rw [nrm_iy]; exact Rat.le_refl) (by grind) 1 n
  have h2 : en 1 (iy r) = 1 + iy r := by
    show et _ 0 + et _ 1 = _
    rw [et, et, et]
    have : iq (0 + 1) = 1 := Cr.ext (by show 1 / ((0 + 1 : Nat) : Rat) = 1; rw [show ((0 + 1 : Nat) : Rat) = 1 by rfl]; grind) rfl
    rw [this]; grind
  have h3 := pq_nn (qab_ge r) (1 + n + 1)
  rw [h2, show pq (qab r) (1 + 1) = qab r * qab r by rw [pq, pq, pq]; grind] at h1
  generalize en (1 + n) (iy r) = v at *
  have a1 := nrm_re (v - (1 + iy r))
  have a2 := nrm_im (v - (1 + iy r))
  rw [Cr.sub_re, Cr.add_re, show (iy r).re = 0 from rfl, Cr.one_re] at a1
  rw [Cr.sub_im, Cr.add_im, show (iy r).im = r from rfl, Cr.one_im] at a2
  unfold N2
  rw [Cr.sub_re, Cr.sub_im, Cr.one_re, Cr.one_im]
  have q0 := qab_ge r
  have c1 := qab_add (v.im - (0 + r)) r
  rw [show v.im - (0 + r) + r = v.im - 0 by grind] at c1
  have hs : ∀ r : Rat, r * r = qab r * qab r := fun r => by unfold qab; split <;> grind
  rw [hs (v.re - 1), hs (v.im - 0)]
  have x1 : qab (v.re - 1) ≤ 2 * (qab r * qab r) := by rw [show v.re - 1 = v.re - (1 + 0) by grind]; grind
  have x2 : qab (v.im - 0) ≤ qab r + 2 * (qab r * qab r) := by grind
  have y1 := qmul_le (qab_ge _) x1 (qab_ge _) x1
  have y2 := qmul_le (qab_ge _) x2 (qab_ge _) x2
  generalize qab r = e at *
  have z1 := qmul_nn q0 q0
  have z2 := qmul_nn z1 q0
  have z3 := Rat.mul_le_mul_of_nonneg_left h z2
  grind
/-- Halved k times, and squared as often. -/
theorem en_halved (j : Nat) : ∀ (k : Nat) {r : Rat}, qab r ≤ 1 / 4 → Cl (fun n => sqr j (en n (iy r))) (fun n => sqr (j + k) (en n (iy (r * pq (1 / 2) k))))
  | 0, r, h => by rw [show r * pq (1 / 2) 0 = r by rw [pq]; grind]; exact Cl.refl _
  | k + 1, r, h => by
    have h1 := en_halved j k h
    have hp : 0 ≤ pq (1 / 2) k ∧ pq (1 / 2) k ≤ 1 := ⟨pq_nn (by grind) k, by
      have := half_le k
      have hk : (0 : Rat) ≤ ((k : Nat) : Rat) := by exact_mod_cast Nat.zero_le k
      have := qmul_nn hk (pq_nn (show (0 : Rat) ≤ 1 / 2 by grind) k)
      grind⟩
    have hs : qab (r * pq (1 / 2) (k + 1)) ≤ 1 / 4 := by
      rw [qab_mul, pq, qab_self (show 0 ≤ 1 / 2 * pq (1 / 2) k by grind)]
      have := Rat.mul_le_mul_of_nonneg_left (show 1 / 2 * pq (1 / 2) k ≤ 1 by grind) (qab_ge r)
      grind
    have h2 := en_cl (a := iy (r * pq (1 / 2) (k + 1))) (b := iy (r * pq (1 / 2) (k + 1))) (by rw [nrm_iy]; exact hs) (by rw [nrm_iy]; exact hs)
    rw [iy_add, show r * pq (1 / 2) (k + 1) + r * pq (1 / 2) (k + 1) = r * pq (1 / 2) k by rw [pq]; grind] at h2
    have b1 := en_bd (z := iy (r * pq (1 / 2) (k + 1))) (by rw [nrm_iy]; grind)
    have b2 := en_bd (z := iy (r * pq (1 / 2) k)) (by
      rw [nrm_iy, qab_mul, qab_self hp.1]
      have := Rat.mul_le_mul_of_nonneg_left hp.2 (qab_ge r)
      grind)
    have h3 := Cl.sqr h2 (b1.mul b1) b2 (j + k)
    refine h1.trans (h3.symm.trans ?_)
    have e : (fun n => sqr (j + k) (en n (iy (r * pq (1 / 2) (k + 1))) * en n (iy (r * pq (1 / 2) (k + 1))))) = fun n => sqr (j + (k + 1)) (en n (iy (r * pq (1 / 2) (k + 1)))) := funext fun n => by
      rw [sqr_mul]; rfl
    rw [e]; exact Cl.refl _
theorem pq_four : ∀ k, pq 4 k * (pq (1 / 2) k * pq (1 / 2) k) = 1
  | 0 => by show (1 : Rat) * (1 * 1) = 1; grind
  | k + 1 => by have := pq_four k; rw [pq, pq]; grind
theorem gx_far {r : Rat} (h : qab r ≤ 1 / 4) (j : Nat) : Sm (fun n => N2 (sqr j (en n (iy r)) - 1) - pq 4 j * (qab r * qab r)) := fun e he => by
  have hq := qab_ge r
  have h4 : 0 ≤ pq 4 j := pq_nn (by decide) j
  have hC : 0 ≤ pq 4 j * (qab r * qab r) * (6 * qab r) := qmul_nn (qmul_nn h4 (qmul_nn hq hq)) (by grind)
  obtain ⟨k, hk⟩ := (Sm.half.mul hC) (e / 2) (by grind)
  have hk := hk k (Nat.le_refl _)
  have hp0 : 0 ≤ pq (1 / 2) k := pq_nn (by grind) k
  have hp1 : pq (1 / 2) k ≤ 1 := by
    have := half_le k
    have hk : (0 : Rat) ≤ ((k : Nat) : Rat) := by exact_mod_cast Nat.zero_le k
    have := qmul_nn hk hp0
    grind
  have eq : qab (r * pq (1 / 2) k) = qab r * pq (1 / 2) k := by rw [qab_mul, qab_self hp0]
  have hs : qab (r * pq (1 / 2) k) ≤ 1 / 4 := by
    rw [eq]
    have := Rat.mul_le_mul_of_nonneg_left hp1 hq
    grind
  have b1 := (en_bd (z := iy r) (by rw [nrm_iy]; grind)).sqr j
  have b2 := (en_bd (z := iy (r * pq (1 / 2) k)) (by rw [nrm_iy]; grind)).sqr (j + k)
  have one : Bd (fun _ => (1 : Cr)) := ⟨1, by decide, fun _ => by show nrm 1 ≤ 1; rw [nrm_one]; exact Rat.le_refl⟩
  have bsub : ∀ {u : Nat → Cr}, Bd u → Bd (fun n => u n - 1) := fun {u} ⟨M, hM, b⟩ => ⟨M + 1, by grind, fun n => by
    have := nrm_sub (u n) 1; rw [nrm_one] at this; have := b n; show nrm (u n - 1) ≤ M + 1; grind⟩
  have csub : ∀ {u v : Nat → Cr}, Cl u v → Cl (fun n => u n - 1) (fun n => v n - 1) := fun {u v} h => Sm.mono h fun n => by
    show nrm (u n - 1 - (v n - 1)) ≤ nrm (u n - v n)
    rw [show u n - 1 - (v n - 1) = u n - v n by grind]; exact Rat.le_refl
  have c := N2_close (csub (en_halved j k h)) (bsub b1) (bsub b2)
  have g := N2_grow hs (j + k)
  obtain ⟨T, hT⟩ := (c.add g) (e / 2) (by grind)
  refine ⟨T + 1, fun n hn => ?_⟩
  have hT := hT n (by omega)
  dsimp only at hT
  have f := en_far hs (n - 1)
  rw [show 1 + (n - 1) = n by omega, eq] at f
  have h5 : pq 4 (j + k) = pq 4 j * pq 4 k := pq_add 4 j k
  have h6 := pq_four k
  have h40 : 0 ≤ pq 4 (j + k) := pq_nn (by decide) _
  have m := Rat.mul_le_mul_of_nonneg_left f h40
  have e1 : pq 4 (j + k) * (qab r * pq (1 / 2) k * (qab r * pq (1 / 2) k) + 6 * (qab r * pq (1 / 2) k * (qab r * pq (1 / 2) k) * (qab r * pq (1 / 2) k))) = pq 4 j * (qab r * qab r) + pq 4 j * (qab r * qab r) * (6 * qab r) * pq (1 / 2) k := by
    rw [h5]; grind
  have q1 := (qab_le (r := N2 (sqr j (en n (iy r)) - 1) - N2 (sqr (j + k) (en n (iy (r * pq (1 / 2) k))) - 1)) (s := qab (N2 (sqr j (en n (iy r)) - 1) - N2 (sqr (j + k) (en n (iy (r * pq (1 / 2) k))) - 1)))).1 Rat.le_refl
  grind
end Go.Ev

namespace Go.Ev
open Go

theorem qsq_le {x t : Rat} (ht : 0 ≤ t) (h : x * x ≤ t * t) : qab x ≤ t := by
  have hs : x * x = qab x * qab x := by unfold qab; split <;> grind
  rw [hs] at h
  rcases Classical.em (qab x ≤ t) with g | g
  · exact g
  · have h1 := qab_ge x
    have h2 := Rat.mul_lt_mul_of_pos_left (show t < qab x by grind) (show 0 < qab x by grind)
    have h3 := Rat.mul_le_mul_of_nonneg_right (show t ≤ qab x by grind) ht
    grind
theorem qpick {E S : Rat} (hE : 0 < E) (hS : 0 ≤ S) : ∃ a : Rat, 0 < a ∧ a ≤ 1 ∧ (2 + S) * a ≤ E := by
  obtain ⟨i, hi, h0⟩ : ∃ i : Rat, (2 + S + E) * i = 1 ∧ 0 ≤ i := ⟨(2 + S + E)⁻¹, Rat.mul_inv_cancel _ (by grind), qinv_nn (by grind)⟩
  have hp : 0 < i := by
    rcases Classical.em (i = 0) with z | z
    · rw [z] at hi; grind
    · grind
  have m1 := Rat.mul_pos hE hp
  have m2 := qmul_nn (show 0 ≤ 2 + S by grind) h0
  have m3 := qmul_nn (Rat.le_of_lt hE) (Rat.le_of_lt m1)
  have e2 : (2 + S) * i = 1 - E * i := by grind
  have e1 : (2 + S) * (E * i) = E * (1 - E * i) := by rw [← e2]; grind
  exact ⟨E * i, m1, by grind, by rw [e1]; grind⟩
/-- Both parts of two exponents of numbers times i are no farther apart than the numbers. -/
theorem gx_lip {r s : Rat} (hr : qab r ≤ 1 / 8) (hs : qab s ≤ 1 / 8) : Sm (fun n => qab ((gx (iy r) n).re - (gx (iy s) n).re) - 65536 * qab (r - s)) ∧ Sm (fun n => qab ((gx (iy r) n).im - (gx (iy s) n).im) - 65536 * qab (r - s)) := by
  have hd : qab (r - s) ≤ 1 / 4 := by
    have := qab_add r (-s); rw [qab_neg] at this; rw [show r - s = r + -s by grind]; grind
  have c := gx_cl (a := iy s) (b := iy (r - s)) (by rw [nrm_iy]; grind) (by rw [nrm_iy]; exact hd)
  rw [iy_add, show s + (r - s) = r by grind] at c
  have f := gx_far hd 16
  have g := N2_near (show qab s ≤ 1 / 4 by grind) 16
  have e16 : pq 4 16 * (qab (r - s) * qab (r - s)) = 65536 * qab (r - s) * (65536 * qab (r - s)) := by
    rw [show pq 4 16 = 65536 * 65536 by rw [show (16 : Nat) = 8 + 8 by rfl, pq_add]; simp only [pq]; grind]; grind
  rw [e16] at f
  have hq := qab_ge (r - s)
  have key : ∀ e : Rat, 0 < e → ∃ T : Nat, ∀ n, T ≤ n → N2 (gx (iy s) n * (gx (iy (r - s)) n - 1)) ≤ (65536 * qab (r - s) + e) * (65536 * qab (r - s) + e) := by
    intro e he
    have ht : 0 ≤ 65536 * qab (r - s) := by grind
    clear e16
    generalize 65536 * qab (r - s) = t at *
    -- N2 of the one is at most 1 + a, of the other t^2 + a
    have pos : 0 < e * e := Rat.mul_pos he he
    have ht2 : 0 ≤ t * t := qmul_nn ht ht
    obtain ⟨a, ha0, ha1, ha⟩ := qpick pos ht2
    obtain ⟨T, hT⟩ := f a ha0
    obtain ⟨T', hT'⟩ := g a ha0
    refine ⟨T + T', fun n hn => ?_⟩
    have x1 := hT n (by omega)
    have x2 := hT' n (by omega)
    dsimp only at x1 x2
    have x3 := (qab_le (r := N2 (sqr 16 (en n (iy s))) - 1) (s := a)).1 x2
    rw [N2_mul]
    have x4 : N2 (gx (iy s) n) ≤ 1 + a := by show N2 (sqr 16 (en n (iy s))) ≤ 1 + a; grind
    have x5 : N2 (gx (iy (r - s)) n - 1) ≤ t * t + a := by show N2 (sqr 16 (en n (iy (r - s))) - 1) ≤ t * t + a; grind
    have x6 := qmul_le (N2_nn _) x4 (N2_nn _) x5
    have x7 := qmul_nn ht (Rat.le_of_lt he)
    have x8 := Rat.mul_le_mul_of_nonneg_left ha1 (Rat.le_of_lt ha0)
    grind
  have fin : ∀ pr : Cr → Rat, (∀ a b, pr (a + b) = pr a + pr b) → (∀ a, pr a * pr a ≤ N2 a) → (∀ a, qab (pr a) ≤ nrm a) → Sm (fun n => qab (pr (gx (iy r) n) - pr (gx (iy s) n)) - 65536 * qab (r - s)) := by
    intro pr p1 p2 p3 e he
    obtain ⟨T, hT⟩ := key (e / 2) (by grind)
    obtain ⟨T', hT'⟩ := c (e / 2) (by grind)
    refine ⟨T + T', fun n hn => ?_⟩
    have x1 := hT n (by omega)
    have x2 := hT' n (by omega)
    dsimp only at x1 x2
    show qab (pr (gx (iy r) n) - pr (gx (iy s) n)) - 65536 * qab (r - s) ≤ e
    generalize gx (iy r) n = u at *
    generalize gx (iy s) n = v at *
    generalize gx (iy (r - s)) n = w at *
    have y1 := p2 (v * (w - 1))
    have y2 := qsq_le (show 0 ≤ 65536 * qab (r - s) + e / 2 by grind) (Rat.le_trans y1 x1)
    have y3 := p3 (v * w - u)
    have y4 := p1 (v * w - u) u
    have y5 := p1 (v * (w - 1)) v
    rw [show v * w - u + u = v * w by grind] at y4
    rw [show v * (w - 1) + v = v * w by grind] at y5
    have y6 := qab_add (pr (v * (w - 1))) (-pr (v * w - u))
    rw [qab_neg, show pr (v * (w - 1)) + -pr (v * w - u) = pr u - pr v by grind] at y6
    clear y1 y4 y5 x1 p1 p2 p3 key hT hT' e16 c f g
    generalize qab (pr u - pr v) = k1 at *
    generalize qab (pr (v * w - u)) = k2 at *
    generalize qab (pr (v * (w - 1))) = k3 at *
    grind
  have sqn : ∀ r : Rat, 0 ≤ r * r := fun r => by
    rcases Classical.em (0 ≤ r) with g | g
    · exact qmul_nn g g
    · have := qmul_nn (show 0 ≤ -r by grind) (show 0 ≤ -r by grind); grind
  exact ⟨fin Cr.re (fun _ _ => rfl) (fun a => by have := sqn a.im; unfold N2; grind) nrm_re, fin Cr.im (fun _ _ => rfl) (fun a => by have := sqn a.re; unfold N2; grind) nrm_im⟩
/- IN INTERVALS -/
def qmn (p q : Rat) : Rat := if p ≤ q then p else q
def qmx (p q : Rat) : Rat := if q ≤ p then p else q
theorem q_le {p q : Dyadic} : p.toRat ≤ q.toRat ↔ p ≤ q := Dyadic.toRat_le_toRat_iff
theorem q_mn (p q : Dyadic) : (mn p q).toRat = qmn p.toRat q.toRat := by
  unfold mn qmn
  by_cases h : p ≤ q
  · rw [if_pos h, if_pos (q_le.2 h)]
  · rw [if_neg h, if_neg (fun g => h (q_le.1 g))]
theorem q_mx (p q : Dyadic) : (mx p q).toRat = qmx p.toRat q.toRat := by
  unfold mx qmx
  by_cases h : q ≤ p
  · rw [if_pos h, if_pos (q_le.2 h)]
  · rw [if_neg h, if_neg (fun g => h (q_le.1 g))]
theorem q_add (p q : Dyadic) : (p + q).toRat = p.toRat + q.toRat := Dyadic.toRat_add ..
theorem q_mul (p q : Dyadic) : (p * q).toRat = p.toRat * q.toRat := Dyadic.toRat_mul ..
theorem q_neg (p : Dyadic) : (-p).toRat = -p.toRat := Dyadic.toRat_neg ..
theorem q_zero : (0 : Dyadic).toRat = 0 := Dyadic.toRat_zero
/-- A rational number lies in an interval. -/
def qhas (z : Cq) (r : Rat) : Prop := z.1.toRat ≤ r ∧ r ≤ z.2.toRat
theorem qhas_ord {z : Cq} {r : Rat} (h : qhas z r) : Ord z := q_le.1 (Rat.le_trans h.1 h.2)
theorem qhas_pt (p : Dyadic) : qhas (p, p) p.toRat := ⟨Rat.le_refl, Rat.le_refl⟩
theorem qhas_in {z w : Cq} {r : Rat} (h : qhas z r) (k : iin z w) : qhas w r := ⟨Rat.le_trans (q_le.2 k.1) h.1, Rat.le_trans h.2 (q_le.2 k.2)⟩
theorem qhas_add {z w : Cq} {r s : Rat} (h : qhas z r) (k : qhas w s) : qhas (iadd z w) (r + s) := by
  obtain ⟨h1, h2⟩ := h
  obtain ⟨k1, k2⟩ := k
  refine ⟨?_, ?_⟩ <;> unfold iadd <;> dsimp only <;> rw [q_add] <;> grind
theorem qhas_neg {z : Cq} {r : Rat} (h : qhas z r) : qhas (ineg z) (-r) := by
  obtain ⟨h1, h2⟩ := h
  refine ⟨?_, ?_⟩ <;> unfold ineg <;> dsimp only <;> rw [q_neg] <;> grind
theorem qhas_sub {z w : Cq} {r s : Rat} (h : qhas z r) (k : qhas w s) : qhas (isub z w) (r - s) := by
  have := qhas_add h (qhas_neg k)
  rwa [show r + -s = r - s by grind] at this
theorem qmul_btw {a b p : Rat} (q : Rat) (h1 : a ≤ p) (h2 : p ≤ b) : qmn (a * q) (b * q) ≤ p * q ∧ p * q ≤ qmx (a * q) (b * q) := by
  rcases Classical.em (0 ≤ q) with h | h
  · have h3 := Rat.mul_le_mul_of_nonneg_right h1 h
    have h4 := Rat.mul_le_mul_of_nonneg_right h2 h
    unfold qmn qmx; grind
  · have h3 := Rat.mul_le_mul_of_nonneg_right h1 (show 0 ≤ -q by grind)
    have h4 := Rat.mul_le_mul_of_nonneg_right h2 (show 0 ≤ -q by grind)
    unfold qmn qmx; grind
theorem qhas_mul {z w : Cq} {r s : Rat} (h : qhas z r) (k : qhas w s) : qhas (imul z w) (r * s) := by
  obtain ⟨h1, h2⟩ := h
  obtain ⟨k1, k2⟩ := k
  have m1 := qmul_btw s h1 h2
  have m2 := qmul_btw z.1.toRat k1 k2
  have m3 := qmul_btw z.2.toRat k1 k2
  unfold qhas imul; dsimp only
  rw [q_mn, q_mn, q_mn, q_mx, q_mx, q_mx, q_mul, q_mul, q_mul, q_mul]
  rw [Rat.mul_comm w.1.toRat, Rat.mul_comm w.2.toRat, Rat.mul_comm s] at m2 m3
  generalize z.1.toRat * w.1.toRat = a1 at *
  generalize z.1.toRat * w.2.toRat = a2 at *
  generalize z.2.toRat * w.1.toRat = a3 at *
  generalize z.2.toRat * w.2.toRat = a4 at *
  generalize z.1.toRat * s = b1 at *
  generalize z.2.toRat * s = b2 at *
  generalize r * s = c at *
  unfold qmn qmx at *
  grind
/-- From some place on within every small distance. -/
def Mm (f : Nat → Rat) (z : Cq) : Prop := Sm (fun n => f n - z.2.toRat) ∧ Sm (fun n => z.1.toRat - f n)
theorem Mm.of {f : Nat → Rat} {z : Cq} (T : Nat) (h : ∀ n, T ≤ n → qhas z (f n)) : Mm f z :=
  ⟨fun e he => ⟨T, fun n hn => by have := (h n hn).2; show f n - z.2.toRat ≤ e; grind⟩, fun e he => ⟨T, fun n hn => by have := (h n hn).1; show z.1.toRat - f n ≤ e; grind⟩⟩
theorem Mm.in {f : Nat → Rat} {z w : Cq} (h : Mm f z) (k : iin z w) : Mm f w :=
  ⟨h.1.mono fun n => by have := q_le.2 k.2; show f n - w.2.toRat ≤ f n - z.2.toRat; grind, h.2.mono fun n => by have := q_le.2 k.1; show w.1.toRat - f n ≤ z.1.toRat - f n; grind⟩
/-- Two intervals with one sequence meet. -/
theorem Mm.meet {f : Nat → Rat} {z w : Cq} (h : Mm f z) (k : Mm f w) : z.1 ≤ w.2 := by
  rcases Classical.em (z.1 ≤ w.2) with g | g
  · exact g
  · exfalso
    have g : ¬ z.1.toRat ≤ w.2.toRat := fun x => g (q_le.1 x)
    obtain ⟨T, hT⟩ := h.2 ((z.1.toRat - w.2.toRat) / 4) (by grind)
    obtain ⟨T', hT'⟩ := k.1 ((z.1.toRat - w.2.toRat) / 4) (by grind)
    have a := hT (T + T') (by omega)
    have b := hT' (T + T') (by omega)
    dsimp only at a b
    grind
theorem Mm.const {d : Dyadic} {z : Cq} (h : Mm (fun _ => d.toRat) z) : ihas z d := by
  have p : Mm (fun _ => d.toRat) (d, d) := Mm.of 0 fun n _ => qhas_pt d
  exact ⟨h.meet p, p.meet h⟩
theorem Mm.close {f g : Nat → Rat} {z : Cq} (h : Mm g z) (k : Sm (fun n => qab (f n - g n))) : Mm f z :=
  ⟨(h.1.add k).mono fun n => by
    have := (qab_le (r := f n - g n) (s := qab (f n - g n))).1 Rat.le_refl
    show f n - z.2.toRat ≤ g n - z.2.toRat + qab (f n - g n); grind, (h.2.add k).mono fun n => by
    have := (qab_le (r := f n - g n) (s := qab (f n - g n))).1 Rat.le_refl
    show z.1.toRat - f n ≤ z.1.toRat - g n + qab (f n - g n); grind⟩
end Go.Ev

namespace Go.Ev
open Go

def clampQ (z : Cq) (r : Rat) : Rat := if r ≤ z.1.toRat then z.1.toRat else if z.2.toRat ≤ r then z.2.toRat else r
theorem clampQ_has {z : Cq} (h : Ord z) (r : Rat) : qhas z (clampQ z r) := by
  have h := q_le.2 h
  unfold qhas clampQ; grind
theorem clampQ_sm {f : Nat → Rat} {z : Cq} (h : Mm f z) (ho : Ord z) : Sm (fun n => qab (f n - clampQ z (f n))) := fun e he => by
  obtain ⟨T, hT⟩ := h.1 e he
  obtain ⟨T', hT'⟩ := h.2 e he
  have ho := q_le.2 ho
  refine ⟨T + T', fun n hn => ?_⟩
  have a := hT n (by omega)
  have b := hT' n (by omega)
  dsimp only at a b
  show qab (f n - clampQ z (f n)) ≤ e
  unfold qab clampQ; grind
theorem clampQ_bd {z : Cq} (ho : Ord z) (r : Rat) : qab (clampQ z r) ≤ qab z.1.toRat + qab z.2.toRat := by
  have h := clampQ_has ho r
  obtain ⟨a, b⟩ := h
  unfold qab at *; grind
theorem Mm.mul {f g : Nat → Rat} {z w : Cq} (hz : Mm f z) (hw : Mm g w) (oz : Ord z) (ow : Ord w) {M : Rat} (bf : ∀ n, qab (f n) ≤ M) : Mm (fun n => f n * g n) (imul z w) := by
  have p : Mm (fun n => clampQ z (f n) * clampQ w (g n)) (imul z w) := Mm.of 0 fun n _ => qhas_mul (clampQ_has oz _) (clampQ_has ow _)
  have m0 : 0 ≤ M := by have := bf 0; have := qab_ge (f 0); grind
  have n0 : 0 ≤ qab w.1.toRat + qab w.2.toRat := by have := qab_ge w.1.toRat; have := qab_ge w.2.toRat; grind
  refine p.close (((clampQ_sm hw ow).mul m0).add ((clampQ_sm hz oz).mul n0) |>.mono fun n => ?_)
  show qab (f n * g n - clampQ z (f n) * clampQ w (g n)) ≤ M * qab (g n - clampQ w (g n)) + (qab w.1.toRat + qab w.2.toRat) * qab (f n - clampQ z (f n))
  have e : f n * g n - clampQ z (f n) * clampQ w (g n) = f n * (g n - clampQ w (g n)) + clampQ w (g n) * (f n - clampQ z (f n)) := by grind
  rw [e]
  have h1 := qab_add (f n * (g n - clampQ w (g n))) (clampQ w (g n) * (f n - clampQ z (f n)))
  rw [qab_mul, qab_mul] at h1
  have h2 := Rat.mul_le_mul_of_nonneg_right (bf n) (qab_ge (g n - clampQ w (g n)))
  have h3 := Rat.mul_le_mul_of_nonneg_right (clampQ_bd ow (g n)) (qab_ge (f n - clampQ z (f n)))
  grind
theorem Mm.add {f g : Nat → Rat} {z w : Cq} (hz : Mm f z) (hw : Mm g w) : Mm (fun n => f n + g n) (iadd z w) :=
  ⟨(hz.1.add hw.1).mono fun n => by
    show f n + g n - (iadd z w).2.toRat ≤ f n - z.2.toRat + (g n - w.2.toRat)
    unfold iadd; dsimp only; rw [q_add]; grind, (hz.2.add hw.2).mono fun n => by
    show (iadd z w).1.toRat - (f n + g n) ≤ z.1.toRat - f n + (w.1.toRat - g n)
    unfold iadd; dsimp only; rw [q_add]; grind⟩
theorem Mm.neg {f : Nat → Rat} {z : Cq} (h : Mm f z) : Mm (fun n => -f n) (ineg z) :=
  ⟨h.2.mono fun n => by
    show -f n - (ineg z).2.toRat ≤ z.1.toRat - f n
    unfold ineg; dsimp only; rw [q_neg]; grind, h.1.mono fun n => by
    show (ineg z).1.toRat - -f n ≤ f n - z.2.toRat
    unfold ineg; dsimp only; rw [q_neg]; grind⟩
/-- In two intervals: in what both have. -/
theorem Mm.imeet {f : Nat → Rat} {z w r : Cq} (hz : Mm f z) (hw : Mm f w) (hr : imeet z w = (r, true)) : Mm f r := by
  unfold Ev.imeet at hr
  split at hr
  · cases hr
    refine ⟨fun e he => ?_, fun e he => ?_⟩
    · obtain ⟨T, hT⟩ := hz.1 e he
      obtain ⟨T', hT'⟩ := hw.1 e he
      refine ⟨T + T', fun n hn => ?_⟩
      have a := hT n (by omega)
      have b := hT' n (by omega)
      dsimp only at a b ⊢
      rw [q_mn]; unfold qmn; grind
    · obtain ⟨T, hT⟩ := hz.2 e he
      obtain ⟨T', hT'⟩ := hw.2 e he
      refine ⟨T + T', fun n hn => ?_⟩
      have a := hT n (by omega)
      have b := hT' n (by omega)
      dsimp only at a b ⊢
      rw [q_mx]; unfold qmx; grind
  · cases hr
/-- What comes no farther than r from a sequence of an interval lies in the interval widened by r. -/
theorem Mm.wide {f g : Nat → Rat} {z : Cq} {r : Dyadic} {c : Rat} (h : Mm g z) (k : Sm (fun n => Ev.qab (f n - g n) - c)) (hc : c ≤ r.toRat) : Mm f (Ev.iadd z (-r, r)) :=
  ⟨(h.1.add k).mono fun n => by
    have := (qab_le (r := f n - g n) (s := Ev.qab (f n - g n))).1 Rat.le_refl
    show f n - (Ev.iadd z (-r, r)).2.toRat ≤ g n - z.2.toRat + (Ev.qab (f n - g n) - c)
    unfold Ev.iadd; dsimp only; rw [q_add]; grind, (h.2.add k).mono fun n => by
    have := (qab_le (r := f n - g n) (s := Ev.qab (f n - g n))).1 Rat.le_refl
    show (Ev.iadd z (-r, r)).1.toRat - f n ≤ z.1.toRat - g n + (Ev.qab (f n - g n) - c)
    unfold Ev.iadd; dsimp only; rw [q_add, q_neg]; grind⟩
/-- On the circle both parts lie, in the end, between -1 and 1. -/
theorem gx_unit {r : Rat} (h : Ev.qab r ≤ 1 / 4) : Mm (fun n => (gx (iy r) n).re) (-1, 1) ∧ Mm (fun n => (gx (iy r) n).im) (-1, 1) := by
  have g := N2_near h 16
  have key : ∀ pr : Cr → Rat, (∀ a, pr a * pr a ≤ N2 a) → Mm (fun n => pr (gx (iy r) n)) (-1, 1) := by
    intro pr hp
    have b : ∀ e : Rat, 0 < e → ∃ T : Nat, ∀ n, T ≤ n → Ev.qab (pr (gx (iy r) n)) ≤ 1 + e := fun e he => by
      obtain ⟨T, hT⟩ := g e he
      refine ⟨T, fun n hn => qsq_le (by grind) ?_⟩
      have a := (qab_le (r := N2 (sqr 16 (en n (iy r))) - 1) (s := e)).1 (hT n hn)
      have q := hp (gx (iy r) n)
      have e2 : N2 (gx (iy r) n) ≤ 1 + e := by show N2 (sqr 16 (en n (iy r))) ≤ 1 + e; grind
      have := qmul_nn (Rat.le_of_lt he) (Rat.le_of_lt he)
      grind
    have o : (1 : Dyadic).toRat = 1 := by rfl
    refine ⟨fun e he => ?_, fun e he => ?_⟩
    · obtain ⟨T, hT⟩ := b e he
      exact ⟨T, fun n hn => by have := qab_le.1 (hT n hn); show pr (gx (iy r) n) - (1 : Dyadic).toRat ≤ e; rw [o]; grind⟩
    · obtain ⟨T, hT⟩ := b e he
      exact ⟨T, fun n hn => by have := qab_le.1 (hT n hn); show (-1 : Dyadic).toRat - pr (gx (iy r) n) ≤ e; rw [q_neg, o]; grind⟩
  have sqn : ∀ r : Rat, 0 ≤ r * r := fun r => by
    rcases Classical.em (0 ≤ r) with g | g
    · exact qmul_nn g g
    · have := qmul_nn (show 0 ≤ -r by grind) (show 0 ≤ -r by grind); grind
  exact ⟨key Cr.re (fun a => by have := sqn a.im; unfold N2; grind), key Cr.im (fun a => by have := sqn a.re; unfold N2; grind)⟩
end Go.Ev

namespace Go.Ev
open Go

theorem ofQ_neg (y : Rat) : -Cr.ofQ y = Cr.ofQ (-y) := Cr.ext rfl (by show -(0 : Rat) = 0; grind)
theorem ofQ_add (x y : Rat) : Cr.ofQ x + Cr.ofQ y = Cr.ofQ (x + y) := Cr.ext rfl (by show (0 : Rat) + 0 = 0; grind)
theorem gr_sum {x y : Rat} (hx : qab x ≤ 1 / 4) (hy : qab y ≤ 1 / 4) : Sm (fun n => qab (gr x n * gr y n - gr (x + y) n)) := by
  have c := gx_cl (a := Cr.ofQ x) (b := Cr.ofQ y) (by rw [nrm_q]; exact hx) (by rw [nrm_q]; exact hy)
  refine c.mono fun n => ?_
  show qab (gr x n * gr y n - gr (x + y) n) ≤ nrm (gx (Cr.ofQ x) n * gx (Cr.ofQ y) n - gx (Cr.ofQ x + Cr.ofQ y) n)
  have := nrm_re (gx (Cr.ofQ x) n * gx (Cr.ofQ y) n - gx (Cr.ofQ x + Cr.ofQ y) n)
  rw [Cr.sub_re, Cr.mul_re, gx_real, gx_real, ofQ_add] at this
  rw [ofQ_add]
  have e : gr x n * gr y n - gr (x + y) n = (gx (Cr.ofQ x) n).re * (gx (Cr.ofQ y) n).re - 0 * 0 - (gx (Cr.ofQ (x + y)) n).re := by unfold gr; grind
  rw [e]; exact this
theorem gr_zero (n : Nat) : gr 0 n = 1 := by
  unfold gr
  rw [show Cr.ofQ 0 = 0 from rfl, gx_zero]; rfl
theorem gr_bd {y : Rat} (h : qab y ≤ 1 / 2) : ∃ M : Rat, ∀ n, qab (gr y n) ≤ M := by
  obtain ⟨M, _, b⟩ := gx_bd (z := Cr.ofQ y) (by rw [nrm_q]; exact h)
  exact ⟨M, fun n => Rat.le_trans (nrm_re _) (b n)⟩
theorem inv_one {y : Rat} {e f : Cq} (h : qab y ≤ 1 / 4) (he : Mm (gr y) e) (hf : Mm (gr (-y)) f) (oe : Ord e) (of : Ord f) : ihas (imul e f) 1 := by
  obtain ⟨M, b⟩ := gr_bd (y := y) (by grind)
  have p := he.mul hf oe of b
  have s := gr_sum h (y := -y) (by rw [qab_neg]; exact h)
  refine Mm.const (p.close (s.mono fun n => ?_))
  show qab ((1 : Dyadic).toRat - gr y n * gr (-y) n) ≤ qab (gr y n * gr (-y) n - gr (y + -y) n)
  rw [show y + -y = 0 by grind, gr_zero, show (1 : Dyadic).toRat = 1 by rfl, show 1 - gr y n * gr (-y) n = -(gr y n * gr (-y) n - 1) by grind, qab_neg]; exact Rat.le_refl
/-- The exponent of a sum and the product have something in common. -/
theorem sum_meet {x y : Rat} {e g h : Cq} (hx : qab x ≤ 1 / 4) (hy : qab y ≤ 1 / 4) (he : Mm (gr x) e) (hg : Mm (gr y) g) (hh : Mm (gr (x + y)) h) (oe : Ord e) (og : Ord g) : h.1 ≤ (imul e g).2 ∧ (imul e g).1 ≤ h.2 := by
  obtain ⟨M, b⟩ := gr_bd (y := x) (by grind)
  have p := he.mul hg oe og b
  have s := gr_sum hx hy
  have k := hh.close s
  exact ⟨k.meet p, p.meet k⟩
/-- Squares of cosine and sine are 1 together. -/
theorem circle_one {r : Rat} {c s : Cq} (h : qab r ≤ 1 / 4) (hc : Mm (fun n => (gx (iy r) n).re) c) (hs : Mm (fun n => (gx (iy r) n).im) s) (oc : Ord c) (os : Ord s) : ihas (iadd (imul s s) (imul c c)) 1 := by
  obtain ⟨M, _, b⟩ := gx_bd (z := iy r) (by rw [nrm_iy]; grind)
  have p := (hs.mul hs os os (fun n => Rat.le_trans (nrm_im _) (b n))).add (hc.mul hc oc oc (fun n => Rat.le_trans (nrm_re _) (b n)))
  refine Mm.const (p.close ((N2_near h 16).mono fun n => ?_))
  show qab ((1 : Dyadic).toRat - ((gx (iy r) n).im * (gx (iy r) n).im + (gx (iy r) n).re * (gx (iy r) n).re)) ≤ qab (N2 (gx (iy r) n) - 1)
  rw [show (1 : Dyadic).toRat = 1 by rfl]
  unfold N2
  generalize (gx (iy r) n).im = a
  generalize (gx (iy r) n).re = b
  rw [show 1 - (a * a + b * b) = -(b * b + a * a - 1) by grind, qab_neg]; exact Rat.le_refl
end Go.Ev
