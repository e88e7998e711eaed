/- Contracts of the given functions, on data. Conditions stand in each theorem. -/
import Derived.Test.YtagjickjfjgfpaaGreatDoorGEvY
import Derived.Lib.LaidTab
import Derived.Deep.Slices
import Derived.Carry
import Derived.ChangeSame
import Derived.RowKit
set_option linter.unusedSimpArgs false
set_option linter.unusedVariables false
namespace Go.Ev
open Go

theorem Br.eqd {x : Int} {a b : Prop} (h : a) : Br (decide (x = x)) a b := ⟨fun _ => h, fun e => by simp at e⟩
theorem Br.eqb {x : Bool} {a b : Prop} (h : a) : Br (x == x) a b := ⟨fun _ => h, fun e => by simp at e⟩
/-- A sign and limbs, as a number. -/
def zv (b : Bool) (l : List UInt32) : Int := if b then -(nv l : Int) else nv l
def zneg (n : Int) : Bool := decide (n < 0)
/-- A whole number, as it must be told. -/
def zD (n : Int) : D := .agg [.bool (zneg n), sl (ofN n.natAbs)]

theorem zv_natAbs (b : Bool) (l : List UInt32) : (zv b l).natAbs = nv l := by unfold zv; split <;> omega
theorem zv_zneg (b : Bool) (l : List UInt32) : zneg (zv b l) = (b && decide (0 < nv l)) := by
  unfold zneg zv; cases b
  · simp
  · simp
theorem zv_self (n : Int) : zv (zneg n) (ofN n.natAbs) = n := by
  unfold zv zneg; rw [nv_ofN]
  by_cases h : n < 0
  · simp [h]; omega
  · simp [h]; omega
theorem zv_false (l : List UInt32) : zv false l = nv l := rfl
theorem zv_true (l : List UInt32) : zv true l = -(nv l : Int) := rfl
theorem zv_eq_zero {b : Bool} {l : List UInt32} : zv b l = 0 ↔ nv l = 0 := by unfold zv; split <;> omega
theorem zD_mk {c b : Bool} {l : List UInt32} (h : c = (b && decide (0 < nv l))) : D.agg [.bool c, sl (ofN (nv l))] = zD (zv b l) := by
  unfold zD; rw [zv_zneg, zv_natAbs, h]
theorem zD_of {c : Bool} {k : Nat} {n : Int} (h1 : c = zneg n) (h2 : k = n.natAbs) : D.agg [.bool c, sl (ofN k)] = zD n := by subst h1 h2; rfl

/-- At most so many bits. -/
def Zt (h : Nat) (n : Int) : Prop := n.natAbs < 2 ^ h
theorem Zt.mono {a b : Nat} {n : Int} (h : Zt a n) (hab : a ≤ b) : Zt b n := Nat.lt_of_lt_of_le h (Nat.pow_le_pow_right (by decide) hab)
theorem Zt.add {a b c : Nat} {m n : Int} (hm : Zt a m) (hn : Zt b n) (h : max a b < c) : Zt c (m + n) := by
  have h1 : Zt (max a b) m := hm.mono (by omega)
  have h2 : Zt (max a b) n := hn.mono (by omega)
  have h3 : 2 ^ (max a b + 1) ≤ 2 ^ c := Nat.pow_le_pow_right (by decide) h
  unfold Zt at *
  rw [Nat.pow_succ] at h3
  omega
theorem Zt.neg {a : Nat} {m : Int} (hm : Zt a m) : Zt a (-m) := by unfold Zt at *; omega
theorem Zt.sub {a b c : Nat} {m n : Int} (hm : Zt a m) (hn : Zt b n) (h : max a b < c) : Zt c (m - n) := by
  rw [Int.sub_eq_add_neg]; exact hm.add hn.neg h
theorem Zt.mul {a b c : Nat} {m n : Int} (hm : Zt a m) (hn : Zt b n) (h : a + b ≤ c) : Zt c (m * n) := by
  refine Zt.mono (a := a + b) ?_ h
  unfold Zt at *
  rw [Int.natAbs_mul, Nat.pow_add]
  exact Nat.mul_lt_mul'' hm hn
theorem Zt.shl {a k c : Nat} {m : Int} (hm : Zt a m) (h : a + k ≤ c) : Zt c (m * 2 ^ k) := by
  refine Zt.mono (a := a + k) ?_ h
  unfold Zt at *
  rw [Int.natAbs_mul, Int.natAbs_pow, Nat.pow_add]
  exact Nat.mul_lt_mul_of_pos_right hm (Nat.pow_pos (by decide))
theorem Zt.le {a : Nat} {m n : Int} (hm : Zt a m) (h : n.natAbs ≤ m.natAbs) : Zt a n := Nat.lt_of_le_of_lt h hm
theorem Zt.len {k h : Nat} {n : Int} (e : h ≤ 32 * k) (hn : Zt h n) : (ofN n.natAbs).length ≤ k := by
  rw [ofN_len_le, Pw_two]
  exact hn.mono e
theorem Zt.of_len {k h : Nat} {b : Bool} {l : List UInt32} (hl : l.length ≤ k) (e : 32 * k ≤ h) : Zt h (zv b l) := by
  unfold Zt
  rw [zv_natAbs]
  have := nv_lt l
  rw [Pw_two] at this
  exact Nat.lt_of_lt_of_le this (Nat.pow_le_pow_right (by decide) (by omega))

theorem Zt.small {h : Nat} {n : Int} (e : n.natAbs < 18446744073709551616) (hh : 64 ≤ h) : Zt h n := Nat.lt_of_lt_of_le e (Nat.pow_le_pow_right (n := 2) (i := 64) (by decide) hh)

theorem Zt.tz {k : Nat} {m : Int} (h : Zt k m) (h0 : m ≠ 0) : tzn m.natAbs < k := tzn_lt (by omega) h

theorem Zt.nb {k : Nat} {m : Int} (h : Zt k m) : nb m.natAbs ≤ k := nb_le.2 h

/-- Data that means a whole number. -/
inductive ZR : D → Int → Prop where
  | mk (b : Bool) (l : List UInt32) (h : l.length ≤ 4194304) : ZR (.agg [.bool b, sl l]) (zv b l)
theorem ZR.of {n : Int} (h : Zt 134217728 n) : ZR (zD n) n := by
  have h2 := ZR.mk (zneg n) (ofN n.natAbs) (h.len (by decide))
  rw [zv_self] at h2
  exact h2

def dman : Dyadic → Int
  | .zero => 0
  | .ofOdd n _ _ => n
def dexp : Dyadic → Int
  | .zero => 0
  | .ofOdd _ k _ => -k
/-- A dyadic number, as it must be told. -/
def dyD (q : Dyadic) : D := .agg [.bool (zneg (dman q)), sl (ofN (dman q).natAbs), .int .i64 (dexp q)]
/-- m times 2 to the power of e. -/
def dof (m e : Int) : Dyadic := Dyadic.ofIntWithPrec m (-e)

theorem dof_self (q : Dyadic) : dof (dman q) (dexp q) = q := by
  cases q with
  | zero => rfl
  | ofOdd n k h => simp only [dof, dman, dexp, Int.neg_neg]; exact Dyadic.ofOdd_eq_ofIntWithPrec.symm
theorem dof_zero (e : Int) : dof 0 e = 0 := rfl
theorem dof_toRat (m e : Int) : (dof m e).toRat = m * 2 ^ e := by
  unfold dof; rw [Dyadic.toRat_ofIntWithPrec_eq_mul_two_pow, Int.neg_neg]
theorem two_ne : (2 : Rat) ≠ 0 := by decide
theorem dof_shl (m e : Int) (k : Nat) : dof (m * 2 ^ k) e = dof m (e + k) := by
  have h := Dyadic.ofIntWithPrec_shiftLeft_add (x := m) (i := -(e + k)) (n := k)
  rw [Int.shiftLeft_eq] at h
  unfold dof
  rw [← h, show -(e + (k : Int)) + k = -e by omega]
theorem dof_add (m n e : Int) : dof m e + dof n e = dof (m + n) e := by
  rw [← Dyadic.toRat_inj, Dyadic.toRat_add, dof_toRat, dof_toRat, dof_toRat, Rat.intCast_add, Rat.add_mul]
theorem dof_neg (m e : Int) : -dof m e = dof (-m) e := Dyadic.neg_ofIntWithPrec
theorem dof_sub (m n e : Int) : dof m e - dof n e = dof (m - n) e := by
  rw [Int.sub_eq_add_neg, ← dof_add, ← dof_neg]; rfl
theorem dof_mul (m n e f : Int) : dof m e * dof n f = dof (m * n) (e + f) := by
  rw [← Dyadic.toRat_inj, Dyadic.toRat_mul, dof_toRat, dof_toRat, dof_toRat, Rat.intCast_mul, Rat.zpow_add two_ne]
  grind
theorem dof_odd {s e : Int} (h : s % 2 = 1) : dof s e = .ofOdd s (-e) h := Dyadic.ofOdd_eq_ofIntWithPrec.symm
theorem dof_eq_zero {m e : Int} : dof m e = 0 ↔ m = 0 := by
  constructor
  · intro h
    by_cases h0 : m = 0
    · exact h0
    · simp [dof, Dyadic.ofIntWithPrec, h0] at h
  · intro h; rw [h]; rfl
theorem dman_zero : dman 0 = 0 := rfl
theorem dexp_zero : dexp 0 = 0 := rfl
theorem dman_eq_zero {q : Dyadic} : dman q = 0 ↔ q = 0 := by
  constructor
  · intro h; rw [← dof_self q, h]; rfl
  · intro h; rw [h]; rfl
theorem dman_odd {q : Dyadic} (h : q ≠ 0) : dman q % 2 = 1 := by
  cases q with
  | zero => exact absurd rfl h
  | ofOdd n k h1 => exact h1
theorem dyD_inj {p q : Dyadic} (h1 : dman p = dman q) (h2 : dexp p = dexp q) : p = q := by rw [← dof_self p, ← dof_self q, h1, h2]
/-- m is s times a power of two, s odd. -/
theorem z_split {m : Int} (h : m ≠ 0) : ∃ s : Int, s % 2 = 1 ∧ m = s * 2 ^ tzn m.natAbs := by
  obtain ⟨k, hk, he⟩ := tzn_split m.natAbs (by omega)
  rcases Int.natAbs_eq m with h1 | h1
  · refine ⟨k, by omega, ?_⟩
    have : ((m.natAbs : Nat) : Int) = ((2 ^ tzn m.natAbs * k : Nat) : Int) := congrArg _ he
    rw [h1, Int.natAbs_natCast, this, Int.natCast_mul, Int.natCast_pow, Int.mul_comm]; rfl
  · refine ⟨-k, by omega, ?_⟩
    have : ((m.natAbs : Nat) : Int) = ((2 ^ tzn m.natAbs * k : Nat) : Int) := congrArg _ he
    rw [h1, Int.natAbs_neg, Int.natAbs_natCast, this, Int.natCast_mul, Int.natCast_pow, Int.mul_comm, Int.neg_mul]; rfl
theorem dof_parts {m : Int} (e : Int) (h : m ≠ 0) : zneg (dman (dof m e)) = zneg m ∧ (dman (dof m e)).natAbs = m.natAbs / 2 ^ tzn m.natAbs ∧ dexp (dof m e) = e + tzn m.natAbs := by
  obtain ⟨s, hs, hm⟩ := z_split h
  have h1 : dof m e = .ofOdd s (-(e + tzn m.natAbs)) hs := by
    rw [← dof_odd hs, ← dof_shl, ← hm]
  have hp : (0 : Int) < 2 ^ tzn m.natAbs := Int.pow_pos (by decide)
  rw [h1]
  refine ⟨?_, ?_, ?_⟩
  · simp only [dman, zneg]
    conv => rhs; rw [hm]
    refine decide_eq_decide.2 ?_
    constructor
    · intro h; exact Int.mul_neg_of_neg_of_pos h hp
    · intro h
      rcases Int.lt_or_le s 0 with h2 | h2
      · exact h2
      · have := Int.mul_nonneg h2 (Int.le_of_lt hp); omega
  · simp only [dman]
    have h2 : m.natAbs = s.natAbs * 2 ^ tzn m.natAbs := by
      have := congrArg Int.natAbs hm
      rw [Int.natAbs_mul, Int.natAbs_pow] at this
      exact this
    generalize tzn m.natAbs = t at h2
    rw [h2, Nat.mul_div_cancel _ (Nat.pow_pos (by decide))]
  · simp only [dexp, Int.neg_neg]
theorem dyD_dof {m : Int} (e : Int) (h : m ≠ 0) : D.agg [.bool (zneg m), sl (ofN (m.natAbs / 2 ^ tzn m.natAbs)), .int .i64 (e + tzn m.natAbs)] = dyD (dof m e) := by
  obtain ⟨h1, h2, h3⟩ := dof_parts e h
  unfold dyD
  rw [h1, h2, h3]
theorem dyD_zero : D.agg [.bool false, sl [], .int .i64 0] = dyD 0 := by
  unfold dyD
  rw [dman_zero, dexp_zero, show ofN (Int.natAbs 0) = [] from ofN_zero]; rfl

theorem dof_sum (p q : Dyadic) : dof (dman p * 2 ^ (dexp p - min (dexp p) (dexp q)).toNat + dman q * 2 ^ (dexp q - min (dexp p) (dexp q)).toNat) (min (dexp p) (dexp q)) = p + q := by
  rw [← dof_add, dof_shl, dof_shl, show min (dexp p) (dexp q) + ((dexp p - min (dexp p) (dexp q)).toNat : Nat) = dexp p by omega, show min (dexp p) (dexp q) + ((dexp q - min (dexp p) (dexp q)).toNat : Nat) = dexp q by omega, dof_self, dof_self]
/- ORDER -/
theorem two_zpow_pos (e : Int) : (0 : Rat) < 2 ^ e := Rat.zpow_pos (by decide)
theorem dof_pos {m e : Int} : 0 < dof m e ↔ 0 < m := by
  rw [← Dyadic.toRat_lt_toRat_iff, dof_toRat, Dyadic.toRat_zero]
  have h := two_zpow_pos e
  constructor
  · intro h1
    rcases Int.lt_or_le 0 m with h2 | h2
    · exact h2
    · exfalso
      have h3 : (m : Rat) ≤ 0 := by have := Rat.intCast_le_intCast.2 h2; simpa using this
      have h4 : (m : Rat) * 2 ^ e ≤ 0 := by
        have := Rat.mul_le_mul_of_nonneg_right h3 (Rat.le_of_lt h)
        rwa [Rat.zero_mul] at this
      grind
  · intro h1
    have h2 : (0 : Rat) < m := by have := Rat.intCast_lt_intCast.2 h1; simpa using this
    exact Rat.mul_pos h2 h
theorem dof_lt_zero {m e : Int} : dof m e < 0 ↔ m < 0 := by
  have h := dof_pos (m := -m) (e := e)
  rw [← dof_neg] at h
  constructor
  · intro h1; have : 0 < -dof m e := by grind
    have := h.1 this; omega
  · intro h1; have := h.2 (by omega); grind
theorem dman_pos {q : Dyadic} : 0 < dman q ↔ 0 < q := by conv => rhs; rw [← dof_self q, dof_pos]
theorem dman_lt_zero {q : Dyadic} : dman q < 0 ↔ q < 0 := by conv => rhs; rw [← dof_self q, dof_lt_zero]
theorem dof_lt {m n e : Int} : dof m e < dof n e ↔ m < n := by
  have h := dof_pos (m := n - m) (e := e)
  rw [← dof_sub] at h
  constructor
  · intro h1; have := h.1 (by grind); omega
  · intro h1; have := h.2 (by omega); grind
theorem dof_le {m n e : Int} : dof m e ≤ dof n e ↔ m ≤ n := by
  have h := dof_lt (m := n) (n := m) (e := e)
  rw [← Int.not_lt, ← h]; grind
theorem dof_inj {m n e : Int} : dof m e = dof n e ↔ m = n := by
  have h := dof_eq_zero (m := m - n) (e := e)
  rw [← dof_sub] at h
  constructor
  · intro h1; have := h.1 (by grind); omega
  · intro h1; rw [h1]
/-- The sign. -/
def dsg (q : Dyadic) : Int := Int.sign (dman q)
theorem dsg_lt {q : Dyadic} : dsg q < 0 ↔ q < 0 := by unfold dsg; rw [Int.sign_neg_iff, dman_lt_zero]
theorem dsg_gt {q : Dyadic} : dsg q > 0 ↔ 0 < q := by unfold dsg; show 0 < _ ↔ _; rw [Int.sign_pos_iff, dman_pos]
theorem dsg_eq {q : Dyadic} : dsg q = 0 ↔ q = 0 := by unfold dsg; rw [Int.sign_eq_zero_iff_zero, dman_eq_zero]
theorem dsg_le {q : Dyadic} : dsg q ≤ 0 ↔ q ≤ 0 := by
  have := dsg_gt (q := q)
  rw [← Int.not_lt]; show ¬ (dsg q > 0) ↔ _; rw [this]; grind
theorem dsg_ge {q : Dyadic} : dsg q ≥ 0 ↔ 0 ≤ q := by
  have := dsg_lt (q := q)
  show 0 ≤ _ ↔ _
  rw [← Int.not_lt, this]; grind
theorem dsg_cases (q : Dyadic) : (q < 0 ∧ dsg q = -1) ∨ (q = 0 ∧ dsg q = 0) ∨ (0 < q ∧ dsg q = 1) := by
  rcases Int.lt_trichotomy (dman q) 0 with h | h | h
  · exact .inl ⟨dman_lt_zero.1 h, Int.sign_eq_neg_one_of_neg h⟩
  · exact .inr (.inl ⟨dman_eq_zero.1 h, by unfold dsg; rw [h]; rfl⟩)
  · exact .inr (.inr ⟨dman_pos.1 h, Int.sign_eq_one_of_pos h⟩)

theorem dsg_dof (m e : Int) : dsg (dof m e) = Int.sign m := by
  rcases Int.lt_trichotomy m 0 with h | h | h
  · rw [Int.sign_eq_neg_one_of_neg h]; exact Int.sign_eq_neg_one_of_neg (dman_lt_zero.2 (dof_lt_zero.2 h))
  · rw [h]; rfl
  · rw [Int.sign_eq_one_of_pos h]; exact Int.sign_eq_one_of_pos (dman_pos.2 (dof_pos.2 h))
/-- The absolute value. -/
def dabs (q : Dyadic) : Dyadic := dof (dman q).natAbs (dexp q)
theorem dabs_dof (m e : Int) : dabs (dof m e) = dof m.natAbs e := by
  by_cases h : m = 0
  · rw [h]; rfl
  · obtain ⟨_, h2, h3⟩ := dof_parts e h
    unfold dabs
    rw [h2, h3]
    obtain ⟨s, hs, hm⟩ := z_split h
    have h4 : m.natAbs = s.natAbs * 2 ^ tzn m.natAbs := by
      have := congrArg Int.natAbs hm
      rw [Int.natAbs_mul, Int.natAbs_pow] at this
      exact this
    generalize tzn m.natAbs = t at h4
    rw [h4, Nat.mul_div_cancel _ (Nat.pow_pos (by decide)), Int.natCast_mul, Int.natCast_pow, show ((2 : Nat) : Int) = 2 from rfl, dof_shl]
theorem dabs_eq (q : Dyadic) : dabs q = if q < 0 then -q else q := by
  unfold dabs
  split
  · rename_i h
    have h := dman_lt_zero.2 h
    rw [show ((dman q).natAbs : Int) = -dman q by omega, ← dof_neg, dof_self]
  · rename_i h
    have h : ¬ dman q < 0 := fun h2 => h (dman_lt_zero.1 h2)
    rw [show ((dman q).natAbs : Int) = dman q by omega, dof_self]
theorem dman_neg' (q : Dyadic) : dman (-q) = -dman q := by cases q <;> rfl
theorem dexp_neg (q : Dyadic) : dexp (-q) = dexp q := by cases q <;> rfl
theorem dman_abs (q : Dyadic) : dman (dabs q) = (dman q).natAbs := by
  rw [dabs_eq]; split
  · rename_i h; have := dman_lt_zero.2 h; rw [dman_neg']; omega
  · rename_i h; have : ¬ dman q < 0 := fun h2 => h (dman_lt_zero.1 h2)
    omega
theorem dexp_abs (q : Dyadic) : dexp (dabs q) = dexp q := by rw [dabs_eq]; split <;> simp [dexp_neg]
/-- The place of the topmost bit. -/
def dtop (q : Dyadic) : Int := if dman q = 0 then 0 else dexp q + nb (dman q).natAbs - 1
/- HEIGHT: n times 2 to the power of -h, n of at most 2 h bits. -/
def Ht (h : Nat) (q : Dyadic) : Prop := ∃ n : Int, Zt (2 * h) n ∧ q = dof n (-h)
theorem Ht.mono {a b : Nat} {q : Dyadic} (h : Ht a q) (hab : a ≤ b) : Ht b q := by
  obtain ⟨n, h1, rfl⟩ := h
  refine ⟨n * 2 ^ (b - a), h1.shl (by omega), ?_⟩
  rw [dof_shl]; congr 1; omega
theorem Ht.add {a b c : Nat} {p q : Dyadic} (hp : Ht a p) (hq : Ht b q) (h : max a b < c) : Ht c (p + q) := by
  obtain ⟨m, h1, rfl⟩ := hp.mono (show a ≤ max a b by omega)
  obtain ⟨n, h2, rfl⟩ := hq.mono (show b ≤ max a b by omega)
  refine Ht.mono (a := max a b + 1) ?_ (by omega)
  refine ⟨(m + n) * 2 ^ 1, ?_, ?_⟩
  · exact (h1.add h2 (c := 2 * max a b + 1) (by omega)).shl (by omega)
  · rw [dof_add, dof_shl]; congr 1; omega
theorem Ht.neg {a : Nat} {p : Dyadic} (hp : Ht a p) : Ht a (-p) := by
  obtain ⟨m, h1, rfl⟩ := hp
  exact ⟨-m, h1.neg, dof_neg _ _⟩
theorem Ht.sub {a b c : Nat} {p q : Dyadic} (hp : Ht a p) (hq : Ht b q) (h : max a b < c) : Ht c (p - q) := hp.add hq.neg h
theorem Ht.mul {a b c : Nat} {p q : Dyadic} (hp : Ht a p) (hq : Ht b q) (h : a + b ≤ c) : Ht c (p * q) := by
  obtain ⟨m, h1, rfl⟩ := hp
  obtain ⟨n, h2, rfl⟩ := hq
  refine Ht.mono (a := a + b) ⟨m * n, h1.mul h2 (by omega), ?_⟩ h
  rw [dof_mul]; congr 1; omega
theorem Ht.dof {a b h : Nat} {m e : Int} (hm : Zt a m) (h1 : -b ≤ e) (h2 : e ≤ b) (hab : a + b ≤ h) : Ht h (dof m e) := by
  refine ⟨m * 2 ^ (e + h).toNat, hm.shl (by omega), ?_⟩
  rw [dof_shl]; congr 1; omega
theorem Ht.zero (h : Nat) : Ht h 0 := ⟨0, Nat.pow_pos (by decide), rfl⟩
theorem Ht.parts {h : Nat} {q : Dyadic} (hq : Ht h q) : Zt (2 * h) (dman q) ∧ -(h : Int) ≤ dexp q ∧ dexp q ≤ h := by
  obtain ⟨n, h1, rfl⟩ := hq
  by_cases h0 : n = 0
  · subst h0; exact ⟨Nat.pow_pos (by decide), by show -(h : Int) ≤ 0; omega, by show (0 : Int) ≤ h; omega⟩
  · obtain ⟨_, h2, h3⟩ := dof_parts (-h : Int) h0
    have h4 : tzn n.natAbs < 2 * h := tzn_lt (by omega) h1
    refine ⟨?_, by omega, by omega⟩
    unfold Zt
    rw [h2]
    exact Nat.lt_of_le_of_lt (Nat.div_le_self _ _) h1

theorem Ht.add' {a b : Nat} {p q : Dyadic} (hp : Ht a p) (hq : Ht b q) : Ht (max a b + 1) (p + q) := hp.add hq (by omega)
theorem Ht.sub' {a b : Nat} {p q : Dyadic} (hp : Ht a p) (hq : Ht b q) : Ht (max a b + 1) (p - q) := hp.sub hq (by omega)
theorem Ht.mul' {a b : Nat} {p q : Dyadic} (hp : Ht a p) (hq : Ht b q) : Ht (a + b) (p * q) := hp.mul hq (Nat.le_refl _)
theorem Ht.abs {a : Nat} {p : Dyadic} (hp : Ht a p) : Ht a (dabs p) := by
  rw [dabs_eq]; split
  · exact hp.neg
  · exact hp
theorem Ht.one : Ht 1 1 := ⟨2, Nat.lt_of_lt_of_le (show Int.natAbs 2 < 4 by decide) (by decide), rfl⟩
theorem Ht.pow {a : Nat} {p : Dyadic} (hp : Ht a p) : ∀ i : Nat, Ht (a * i + 1) (p ^ i)
  | 0 => by rw [Dyadic.pow_zero]; exact Ht.one
  | i + 1 => by rw [Dyadic.pow_succ]; exact (Ht.pow hp i).mul hp (by rw [Nat.mul_succ]; omega)
theorem Ht.scl {k : Int} (b : Nat) (h1 : -b ≤ k) (h2 : k ≤ b) : Ht (b + 1) (Go.Ev.dof 1 k) :=
  Ht.dof (a := 1) (b := b) (show Zt 1 1 by unfold Zt; decide) h1 h2 (by omega)
theorem Ht.i64 {n : Int} (h1 : -9223372036854775808 ≤ n) (h2 : n ≤ 9223372036854775807) : Ht 64 (Go.Ev.dof n 0) :=
  Ht.dof (a := 64) (b := 0) (Zt.small (by omega) (by decide)) (by decide) (by decide) (by decide)
theorem Ht.cst {m e : Int} (h : decide (m.natAbs ≤ 1000 ∧ -100 ≤ e ∧ e ≤ 100) = true) : Ht 164 (Go.Ev.dof m e) := by
  have h := of_decide_eq_true h
  exact Ht.dof (a := 64) (b := 100) (Zt.small (by omega) (by decide)) (by omega) (by omega) (by decide)
/-- Data that means a dyadic number. -/
inductive DyR : D → Dyadic → Prop where
  | mk (b : Bool) (l : List UInt32) (e : Int) (hl : l.length ≤ 65536) (h1 : -1048576 ≤ e) (h2 : e ≤ 1048576) (hq : Ht 1048576 (dof (zv b l) e)) : DyR (.agg [.bool b, sl l, .int .i64 e]) (dof (zv b l) e)
theorem DyR.of {q : Dyadic} (h : Ht 1048576 q) : DyR (dyD q) q := by
  obtain ⟨h1, h2, h3⟩ := h.parts
  have h4 := DyR.mk (zneg (dman q)) (ofN (dman q).natAbs) (dexp q) (h1.len (by decide)) (by omega) (by omega)
  rw [zv_self, dof_self] at h4
  exact h4 h
theorem DyR.ht {x : D} {q : Dyadic} (h : DyR x q) : Ht 1048576 q := by cases h; assumption
theorem DyR.parts {x : D} {q : Dyadic} (h : DyR x q) : Zt 2097152 (dman q) ∧ -1048576 ≤ dexp q ∧ dexp q ≤ 1048576 := h.ht.parts
theorem DyR.raw {b : Bool} {l : List UInt32} {e : Int} {k : Nat} {q : Dyadic} (hl : l.length ≤ k) (h1 : -1000000 ≤ e) (h2 : e ≤ 1000000) (hk : k ≤ 1000) (hq : dof (zv b l) e = q) : DyR (.agg [.bool b, sl l, .int .i64 e]) q :=
  hq ▸ DyR.mk b l e (by omega) (by omega) (by omega) (Ht.dof (a := 32 * k) (b := 1000000) (Zt.of_len hl (Nat.le_refl _)) (by omega) (by omega) (by omega))
theorem Zt.iff {h : Nat} {n : Int} : Zt h n ↔ n.natAbs < 2 ^ h := Iff.rfl
attribute [irreducible] Zt
end Go.Ev

namespace Go.Ev
open Go

/-- The shape of plain data. -/
inductive Sh where
  | bool
  | int (k : IntKind)
  | str
  | slice (e : Sh)
  | struct (fs : List Sh)

mutual
/-- How many cells. -/
def Sh.size : Sh → Nat
  | .struct fs => Sh.sizes fs
  | _ => 1
def Sh.sizes : List Sh → Nat
  | [] => 0
  | f :: fs => f.size + Sh.sizes fs
end

mutual
/-- Cells of that shape. -/
def Sh.has : Sh → List D → Prop
  | .bool, ds => ∃ b, ds = [.bool b]
  | .int k, ds => ∃ n, ds = [.int k n] ∧ k.min ≤ n ∧ n ≤ k.max
  | .str, ds => ∃ s : ByteArray, ds = [.str s] ∧ s.size ≤ maxLen
  | .slice e, ds => ∃ n ls, ds = [.slice n (List.flatten ls)] ∧ ls.length = n ∧ n ≤ maxLen ∧ ∀ l ∈ ls, e.has l
  | .struct fs, ds => Sh.hasAll fs ds
def Sh.hasAll : List Sh → List D → Prop
  | [], ds => ds = []
  | f :: fs, ds => ∃ a b, ds = a ++ b ∧ f.has a ∧ Sh.hasAll fs b
end

mutual
def Sh.chk (P : Program) : Sh → TypeId → Bool
  | .bool, t => match P.underlying t with | some .bool => true | _ => false
  | .int k, t => match P.underlying t with | some (.int k') => k == k' | _ => false
  | .str, t => match P.underlying t with | some .string => true | _ => false
  | .slice e, t => match P.underlying t with | some (.slice t') => P.cellsOf t' == e.size && e.size != 0 && e.chk P t' | _ => false
  | .struct fs, t => match P.underlying t with | some (.struct l) => P.cellsOf t == Sh.sizes fs && Sh.chkAll P fs 0 l.toList | _ => false
def Sh.chkAll (P : Program) : List Sh → Nat → List Field → Bool
  | [], _, [] => true
  | s :: ss, o, f :: fs => f.offset == o && P.cellsOf f.type == s.size && s.chk P f.type && Sh.chkAll P ss (o + s.size) fs
  | _, _, _ => false
end

/-- All cells that there are. -/
def allImm (w : World) : Imm := fun k _ => k < w.heap.size

section
variable {H : Type} {enc : TypeId × Value → H} {P : Program} {w : World} {base : Nat} {spare : Nat → Bool} {held : Bool}

theorem mapM_some {α β : Type} {f : α → Option β} : ∀ {l : List α} {r : List β}, l.mapM f = some r → r.length = l.length ∧ ∀ (i : Nat) (a : α), l[i]? = some a → ∃ b, r[i]? = some b ∧ f a = some b
  | _, _, h => ⟨Lib.mapM_length h, fun i a ha => Lib.mapM_at h i a ha⟩

theorem DRs_append {S : Imm} : ∀ {xs ys : List D} {us vs : List Value}, DRs S w xs us → DRs S w ys vs → DRs S w (xs ++ ys) (us ++ vs)
  | [], ys, us, vs, h1, h2 => by simp only [DRs] at h1; subst h1; simpa using h2
  | x :: xs, ys, us, vs, h1, h2 => by
    simp only [DRs] at h1
    obtain ⟨u, us', rfl, h3, h4⟩ := h1
    exact ⟨u, us' ++ vs, rfl, h3, DRs_append h4 h2⟩
theorem DRL_append {S : Imm} {b : Nat} : ∀ {xs ys : List D} {o : Nat}, DRL S w b o xs → DRL S w b (o + xs.length) ys → DRL S w b o (xs ++ ys)
  | [], ys, o, _, h2 => by simpa using h2
  | x :: xs, ys, o, h1, h2 => by
    simp only [DRL] at h1
    simp only [List.cons_append, DRL]
    refine ⟨h1.1, h1.2.1, DRL_append h1.2.2 ?_⟩
    rw [List.length_cons] at h2
    rwa [show o + 1 + xs.length = o + (xs.length + 1) by omega]
theorem cells_of_cells? {a : Addr} {n : Nat} {vs : List Value} (h : w.cells? base a n = some vs) : vs.length = n ∧ ∀ j, j < n → w.cell? (a.add j) = vs[j]? := by
  unfold World.cells? at h
  split at h
  · obtain ⟨h1, h2⟩ := mapM_some h
    simp only [List.length_range] at h1
    refine ⟨h1, fun j hj => ?_⟩
    obtain ⟨b, hb, hf⟩ := h2 j j (by simp [hj])
    rw [hb, hf]
  · cases h
theorem spot_none {a : Addr} {v : Value} (h : w.cell? a = some v) : a.spot = none ∧ a.block < w.heap.size := by
  unfold World.cell? at h
  split at h
  · rename_i c _ _ hc
    refine ⟨?_, (Array.getElem?_eq_some_iff.1 hc).1⟩
    split at h
    · cases h
    · rename_i hs; simpa using hs
  · cases h
/-- Cells that are data, in memory. -/
theorem DRL_of_cells {a : Addr} {n : Nat} {vs : List Value} {ds : List D} (hs : a.spot = none) (h : w.cells? base a n = some vs) (hd : DRs (allImm w) w ds vs) : DRL (allImm w) w a.block a.off ds := by
  obtain ⟨h1, h2⟩ := cells_of_cells? h
  have hl := DRs_length hd
  refine DRL_mk fun j x hj => ?_
  obtain ⟨u, hu, hR⟩ := DRs_get hd hj
  have hjn : j < n := by have := (List.getElem?_eq_some_iff.1 hu).1; omega
  have hc := h2 j hjn
  rw [hu] at hc
  have ha : a.add j = ⟨a.block, a.off + j, none⟩ := by
    obtain ⟨b, o, s⟩ := a
    simp only at hs; subst hs
    exact add_none b o j
  rw [ha] at hc
  exact ⟨(spot_none hc).2, u, hc, hR⟩

mutual
theorem Sh.has_len : ∀ {s : Sh} {ds : List D}, s.has ds → ds.length = s.size
  | .bool, ds, h => by obtain ⟨b, rfl⟩ := h; rfl
  | .int k, ds, h => by obtain ⟨n, rfl, _⟩ := h; rfl
  | .str, ds, h => by obtain ⟨n, rfl, _⟩ := h; rfl
  | .slice e, ds, h => by obtain ⟨n, ls, rfl, _⟩ := h; rfl
  | .struct fs, ds, h => by simp only [Sh.has] at h; simp only [Sh.size]; exact Sh.hasAll_len h
theorem Sh.hasAll_len : ∀ {fs : List Sh} {ds : List D}, Sh.hasAll fs ds → ds.length = Sh.sizes fs
  | [], ds, h => by simp only [Sh.hasAll] at h; subst h; rfl
  | f :: fs, ds, h => by
    simp only [Sh.hasAll] at h
    obtain ⟨a, b, rfl, h1, h2⟩ := h
    simp only [List.length_append, Sh.sizes, Sh.has_len h1, Sh.hasAll_len h2]
end
theorem DRL_flat {S : Imm} {b : Nat} {n : Nat} : ∀ {ls : List (List D)} {o : Nat}, (∀ l ∈ ls, l.length = n) → (∀ j l, ls[j]? = some l → DRL S w b (o + j * n) l) → DRL S w b o ls.flatten
  | [], o, _, _ => by simp [DRL]
  | l :: ls, o, h1, h2 => by
    rw [List.flatten_cons]
    refine DRL_append (by have := h2 0 l rfl; simpa using this) (DRL_flat (fun l hl => h1 l (by simp [hl])) fun j l' hj => ?_)
    have := h2 (j + 1) l' (by simpa using hj)
    rw [h1 l (by simp)]
    rwa [show o + n + j * n = o + (j + 1) * n by rw [Nat.add_mul]; omega]
theorem choose_list {α β : Type} {R : α → β → Prop} : ∀ {l : List α}, (∀ a ∈ l, ∃ b, R a b) → ∃ bs : List β, bs.length = l.length ∧ ∀ (j : Nat) (a : α) (b : β), l[j]? = some a → bs[j]? = some b → R a b
  | [], _ => ⟨[], rfl, by simp⟩
  | a :: l, h => by
    obtain ⟨b, hb⟩ := h a (by simp)
    obtain ⟨bs, h1, h2⟩ := choose_list (l := l) fun a ha => h a (by simp [ha])
    refine ⟨b :: bs, by simp [h1], fun j a' b' ha hb' => ?_⟩
    cases j with
    | zero => simp at ha hb'; subst ha; subst hb'; exact hb
    | succ j => exact h2 j a' b' (by simpa using ha) (by simpa using hb')

theorem lit_bool {fuel : Nat} {t : TypeId} {cs : List Value} {d : DataW H} {ps : List MemPlace} (hu : P.underlying t = some .bool) (h : DataW.trod enc P w 0 spare held fuel t cs = some (d, ps)) : ∃ b, cs = [.bool b] := by
  cases fuel with
  | zero => simp [DataW.trod] at h
  | succ fuel =>
    simp only [DataW.trod, hu] at h
    split at h <;> simp_all
theorem lit_int {k : IntKind} {fuel : Nat} {t : TypeId} {cs : List Value} {d : DataW H} {ps : List MemPlace} (hu : P.underlying t = some (.int k)) (h : DataW.trod enc P w 0 spare held fuel t cs = some (d, ps)) : ∃ n, cs = [.int k n] ∧ k.min ≤ n ∧ n ≤ k.max := by
  cases fuel with
  | zero => simp [DataW.trod] at h
  | succ fuel =>
    simp only [DataW.trod, hu] at h
    split at h <;> simp_all
    simpa [Lit.wf] using h.1.2
theorem lit_str {fuel : Nat} {t : TypeId} {cs : List Value} {d : DataW H} {ps : List MemPlace} (hu : P.underlying t = some .string) (h : DataW.trod enc P w 0 spare held fuel t cs = some (d, ps)) : ∃ s : ByteArray, cs = [.string s] ∧ s.size ≤ maxLen := by
  cases fuel with
  | zero => simp [DataW.trod] at h
  | succ fuel =>
    simp only [DataW.trod, hu] at h
    split at h <;> simp_all

mutual
theorem Sh.of_trod : ∀ (s : Sh) {fuel : Nat} {t : TypeId} {cs : List Value} {d : DataW H} {ps : List MemPlace}, s.chk P t = true → DataW.trod enc P w 0 spare held fuel t cs = some (d, ps) →
    ∃ ds, s.has ds ∧ DRs (allImm w) w ds cs
  | .bool, fuel, t, cs, d, ps, hc, h => by
    simp only [Sh.chk] at hc
    split at hc
    · rename_i hu
      obtain ⟨b, rfl⟩ := lit_bool hu h
      exact ⟨[.bool b], ⟨b, rfl⟩, by simp [DRs, DR]⟩
    · cases hc
  | .int k, fuel, t, cs, d, ps, hc, h => by
    simp only [Sh.chk] at hc
    split at hc
    · rename_i k' hu
      simp only [beq_iff_eq] at hc
      subst hc
      obtain ⟨n, rfl, h1, h2⟩ := lit_int hu h
      exact ⟨[.int _ n], ⟨n, rfl, h1, h2⟩, by simp [DRs, DR]⟩
    · cases hc
  | .str, fuel, t, cs, d, ps, hc, h => by
    simp only [Sh.chk] at hc
    split at hc
    · rename_i hu
      obtain ⟨s, rfl, h1⟩ := lit_str hu h
      exact ⟨[.str s], ⟨s, rfl, h1⟩, by simp [DRs, DR]⟩
    · cases hc
  | .slice e, fuel, t, cs, d, ps, hc, h => by
    simp only [Sh.chk] at hc
    split at hc
    · rename_i t' hu
      simp only [Bool.and_eq_true, beq_iff_eq, bne_iff_ne] at hc
      obtain ⟨⟨h1, h2⟩, h3⟩ := hc
      rcases Deep.open_slice hu h with ⟨rfl, _⟩ | ⟨a, len, cap, m, n, D, Pl, rfl, _, hl, hcap, hm, _, hel⟩
      · refine ⟨[.slice 0 []], ⟨0, [], by simp⟩, ?_⟩
        simp [DRs, DR]
      · have hlm : len ≤ m := by rw [hm]; split <;> omega
        rw [h1] at hel
        have hp : ∀ i ∈ List.range len, ∃ ds, e.has ds ∧ (a.spot = none → DRL (allImm w) w a.block (a.off + i * e.size) ds) ∧ (i = 0 → a.spot = none) := by
          intro i hi
          have hi : i < len := by simpa using hi
          obtain ⟨cs', hc1, hc2⟩ := hel i (by omega)
          obtain ⟨ds, hd1, hd2⟩ := Sh.of_trod e h3 hc2
          refine ⟨ds, hd1, fun hs => ?_, fun hi0 => ?_⟩
          · have ha : a.add (i * e.size) = ⟨a.block, a.off + i * e.size, none⟩ := by
              obtain ⟨b, o, s⟩ := a
              simp only at hs; subst hs
              exact add_none b o _
            rw [ha] at hc1
            exact DRL_of_cells (a := ⟨a.block, a.off + i * e.size, none⟩) rfl hc1 hd2
          · subst hi0
            obtain ⟨_, hc3⟩ := cells_of_cells? hc1
            have hc3 := hc3 0 (by omega)
            have hlen := DRs_length hd2
            have hel := Sh.has_len hd1
            cases cs' with
            | nil => simp at hlen; omega
            | cons u us =>
              simp only [Nat.zero_mul, List.getElem?_cons_zero] at hc3
              exact (spot_none hc3).1
        obtain ⟨ls, hls, hR⟩ := choose_list hp
        simp only [List.length_range] at hls
        have hR : ∀ (j : Nat) (l : List Go.Ev.D), ls[j]? = some l → e.has l ∧ (a.spot = none → DRL (allImm w) w a.block (a.off + j * e.size) l) ∧ (j = 0 → a.spot = none) := fun j l hj => by
          have hjl : j < len := by rw [← hls]; exact (List.getElem?_eq_some_iff.1 hj).1
          exact hR j j l (by simp [hjl]) hj
        refine ⟨[.slice len ls.flatten], ⟨len, ls, rfl, hls, by omega, fun l hl => ?_⟩, ?_⟩
        · obtain ⟨j, hj⟩ := List.mem_iff_getElem?.1 hl
          exact (hR j l hj).1
        · refine ⟨_, [], rfl, ?_, rfl⟩
          simp only [DR]
          refine ⟨some a, cap, rfl, hl, ?_⟩
          cases ls with
          | nil => exact .inl rfl
          | cons l0 ls =>
            have hs : a.spot = none := (hR 0 l0 rfl).2.2 rfl
            refine .inr ⟨a.block, a.off, ?_, DRL_flat (n := e.size) (fun l hl => ?_) (fun j l hj => (hR j l hj).2.1 hs)⟩
            · obtain ⟨b, o, s⟩ := a
              simp only at hs; subst hs; rfl
            · obtain ⟨j, hj⟩ := List.mem_iff_getElem?.1 hl
              exact Sh.has_len (hR j l hj).1
    · cases hc
  | .struct fs, fuel, t, cs, d, ps, hc, h => by
    simp only [Sh.chk] at hc
    split at hc
    · rename_i l hu
      simp only [Bool.and_eq_true, beq_iff_eq] at hc
      obtain ⟨xs, n, _, _, hl, hlen, hf⟩ := DataW.trod_struct hu h
      simp only [Sh.has]
      refine Sh.of_trods fs (n := n) (o := 0) hc.2 (fun i f hi => ?_) (by rw [hl, hc.1]; omega) |>.imp fun ds hd => by simpa using hd
      have hi2 : i < xs.length := by rw [hlen]; simpa using (List.getElem?_eq_some_iff.1 hi).1
      have := hf i f (by simpa using hi)
      exact ⟨xs[i], by rw [this, List.getElem?_eq_getElem hi2]⟩
    · cases hc
theorem Sh.of_trods : ∀ (ss : List Sh) {n o : Nat} {fs : List Field} {cs : List Value}, Sh.chkAll P ss o fs = true →
    (∀ (i : Nat) (f : Field), fs[i]? = some f → ∃ x, DataW.trod enc P w 0 spare held n f.type ((cs.drop f.offset).take (P.cellsOf f.type)) = some x) → o + Sh.sizes ss = cs.length →
    ∃ ds, Sh.hasAll ss ds ∧ DRs (allImm w) w ds (cs.drop o)
  | [], n, o, [], cs, _, _, hl => ⟨[], rfl, by simp only [DRs]; simp only [Sh.sizes] at hl; exact List.drop_eq_nil_of_le (by omega)⟩
  | s :: ss, n, o, f :: fs, cs, hc, hf, hl => by
    simp only [Sh.chkAll, Bool.and_eq_true, beq_iff_eq] at hc
    obtain ⟨⟨⟨h1, h2⟩, h3⟩, h4⟩ := hc
    obtain ⟨⟨d, ps⟩, hx⟩ := hf 0 f rfl
    obtain ⟨ds, hd1, hd2⟩ := Sh.of_trod s h3 hx
    simp only [Sh.sizes] at hl
    obtain ⟨es, he1, he2⟩ := Sh.of_trods ss (n := n) h4 (fun i f hi => hf (i + 1) f (by simpa using hi)) (by omega)
    refine ⟨ds ++ es, ⟨ds, es, rfl, hd1, he1⟩, ?_⟩
    rw [h1, h2] at hd2
    have e : cs.drop o = (cs.drop o).take s.size ++ cs.drop (o + s.size) := by
      rw [← List.drop_drop, List.take_append_drop]
    rw [e]
    exact DRs_append hd2 he2
  | [], n, o, _ :: _, cs, hc, _, _ => by simp [Sh.chkAll] at hc
  | _ :: _, n, o, [], cs, hc, _, _ => by simp [Sh.chkAll] at hc
end
end
end Go.Ev

namespace Go.Ev
open Go

abbrev Cq := Dyadic × Dyadic
/-- A point, as it must be told. -/
def cxD (z : Cq) : D := .agg [.bool (zneg (dman z.1)), sl (ofN (dman z.1).natAbs), .int .i64 (dexp z.1), .bool (zneg (dman z.2)), sl (ofN (dman z.2).natAbs), .int .i64 (dexp z.2)]
/-- Data that means a point. -/
inductive CxR : D → Cq → Prop where
  | mk {b : Bool} {l : List UInt32} {e : Int} {c : Bool} {k : List UInt32} {f : Int} {p q : Dyadic} (hp : DyR (.agg [.bool b, sl l, .int .i64 e]) p) (hq : DyR (.agg [.bool c, sl k, .int .i64 f]) q) :
    CxR (.agg [.bool b, sl l, .int .i64 e, .bool c, sl k, .int .i64 f]) (p, q)
def Hc (h : Nat) (z : Cq) : Prop := Ht h z.1 ∧ Ht h z.2
theorem Hc.mono {a b : Nat} {z : Cq} (h : Hc a z) (hab : a ≤ b) : Hc b z := ⟨h.1.mono hab, h.2.mono hab⟩
theorem CxR.of {z : Cq} (h : Hc 1048576 z) : CxR (cxD z) z := .mk (.of h.1) (.of h.2)
theorem CxR.hc {x : D} {z : Cq} (h : CxR x z) : Hc 1048576 z := by cases h with | mk hp hq => exact ⟨hp.ht, hq.ht⟩

/-- The quarter of a point. -/
def quart (z : Cq) : Int := if 0 < z.1 ∧ 0 ≤ z.2 then 0 else if 0 < z.2 ∧ z.1 ≤ 0 then 1 else if z.1 < 0 ∧ z.2 ≤ 0 then 2 else if z.2 < 0 ∧ 0 ≤ z.1 then 3 else -1
def cross (a b : Cq) : Dyadic := a.1 * b.2 - a.2 * b.1
def turnQ (x y s : Int) : Int × Bool := if x < 0 ∨ y < 0 then (0, false) else if (y - x + 4) % 4 = 3 then (-1, true) else if (y - x + 4) % 4 = 2 then (2 * s, decide (s ≠ 0)) else ((y - x + 4) % 4, true)
/-- By how many quarters the way from a to b turns. -/
def turn (a b : Cq) : Int × Bool := turnQ (quart a) (quart b) (dsg (cross a b))
theorem quart_cases (z : Cq) : quart z = -1 ∨ quart z = 0 ∨ quart z = 1 ∨ quart z = 2 ∨ quart z = 3 := by
  unfold quart; split <;> (try split) <;> (try split) <;> (try split) <;> simp
theorem quart_ge (z : Cq) : -1 ≤ quart z ∧ quart z ≤ 3 := by have := quart_cases z; omega

/-- The sum of the turns of a way from point to point; none: 0 lies on it. -/
def turns : List (Int × Bool) → Option Int
  | [] => some 0
  | t :: l => if t.2 = true then (turns l).map (t.1 + ·) else none
/-- The pairs that follow one another, the last one and the first one too. -/
def ring (l : List Cq) : List (Int × Bool) := (List.range l.length).map fun i => turn (l.getD i (0, 0)) (l.getD ((i + 1) % l.length) (0, 0))
/-- How often round nought. -/
def number (l : List Cq) : Int × Bool := match turns (ring l) with | some n => (n.tdiv 4, decide (0 < l.length)) | none => (0, false)
theorem turns_append : ∀ a b : List (Int × Bool), turns (a ++ b) = (turns a).bind fun s => (turns b).map (s + ·)
  | [], b => by simp [turns]
  | t :: a, b => by
    simp only [List.cons_append, turns, turns_append a b]
    split
    · cases turns a <;> cases turns b <;> simp [Int.add_assoc]
    · rfl
theorem turns_step {r : List (Int × Bool)} {i : Nat} {s : Int} (hi : i < r.length) (h : turns (r.take i) = some s) (ht : (r.getD i (0, false)).2 = true) : turns (r.take (i + 1)) = some (s + (r.getD i (0, false)).1) := by
  have e : r.getD i (0, false) = r[i] := by simp [hi]
  rw [List.take_succ_eq_append_getElem hi, turns_append, h]
  rw [e] at ht ⊢
  simp [turns, ht]
theorem turns_stop {r : List (Int × Bool)} {i : Nat} {s : Int} (hi : i < r.length) (h : turns (r.take i) = some s) (ht : (r.getD i (0, false)).2 = false) : turns r = none := by
  have e : r.getD i (0, false) = r[i] := by simp [hi]
  rw [← List.take_append_drop i r, List.drop_eq_getElem_cons hi, turns_append, h]
  rw [e] at ht
  simp [turns, ht]
theorem ring_length (l : List Cq) : (ring l).length = l.length := by simp [ring]
theorem ring_get (l : List Cq) (i : Nat) (hi : i < l.length) : (ring l).getD i (0, false) = turn (l.getD i (0, 0)) (l.getD ((i + 1) % l.length) (0, 0)) := by
  simp [ring, hi]
theorem turn_le (a b : Cq) : -2 ≤ (turn a b).1 ∧ (turn a b).1 ≤ 2 := by
  unfold turn turnQ
  have h1 := quart_ge a
  have h2 := quart_ge b
  rcases dsg_cases (cross a b) with ⟨_, h⟩ | ⟨_, h⟩ | ⟨_, h⟩ <;> rw [h] <;> split <;> (try split) <;> (try split) <;> simp only <;> omega
/-- A point as it lies in a row. -/
structure RC where
  b : Bool
  l : List UInt32
  e : Int
  c : Bool
  k : List UInt32
  f : Int
def RC.cells (r : RC) : List D := [.bool r.b, sl r.l, .int .i64 r.e, .bool r.c, sl r.k, .int .i64 r.f]
def RC.val (r : RC) : Cq := (dof (zv r.b r.l) r.e, dof (zv r.c r.k) r.f)
def RC.nil : RC := ⟨false, [], 0, false, [], 0⟩
/-- A row of points. -/
def csl (xs : List RC) : D := .slice xs.length (xs.flatMap RC.cells)
theorem flat_len : ∀ xs : List RC, (xs.flatMap RC.cells).length = xs.length * 6
  | [] => rfl
  | x :: xs => by rw [List.flatMap_cons, List.length_append, flat_len xs, List.length_cons]; simp [RC.cells]; omega
theorem flat_take : ∀ (xs : List RC) (i : Nat), i < xs.length → ((xs.flatMap RC.cells).drop (i * 6)).take 6 = (xs.getD i RC.nil).cells
  | [], i, h => by simp at h
  | x :: xs, 0, _ => by simp [RC.cells]
  | x :: xs, i + 1, h => by
    have := flat_take xs i (by simpa using h)
    rw [List.flatMap_cons, List.drop_append, show (i + 1) * 6 - x.cells.length = i * 6 by simp [RC.cells]; omega, List.drop_eq_nil_of_le (by simp [RC.cells]; omega), List.nil_append, this]
    simp
theorem cx_ix (xs : List RC) (i : Nat) (h : i < xs.length) : (0 ≤ (i : Int) ∧ (i : Int) < (xs.length : Int)) ∧ (i : Int).toNat * 6 < (xs.flatMap RC.cells).length := by
  rw [flat_len]; omega
theorem cx_tk (xs : List RC) (i : Nat) (h : i < xs.length) : (((xs.flatMap RC.cells).drop ((i : Int).toNat * 6)).drop 0).take 6 = (xs.getD i RC.nil).cells := by
  rw [List.drop_zero, Int.toNat_natCast]; exact flat_take xs i h
theorem RC.getD_val (xs : List RC) (i : Nat) : (xs.map RC.val).getD i (0, 0) = (xs.getD i RC.nil).val := by
  rw [List.getD_eq_getElem?_getD, List.getD_eq_getElem?_getD, List.getElem?_map]
  cases xs[i]? <;> rfl
theorem RC.getD_mem {xs : List RC} {i : Nat} (h : i < xs.length) : xs.getD i RC.nil ∈ xs := by
  simp [h]
theorem tdiv_four {s : Int} {n : Nat} (h1 : -(2 * (n : Int)) ≤ s) (h2 : s ≤ 2 * n) : -(n : Int) ≤ s.tdiv 4 ∧ s.tdiv 4 ≤ n := by
  have h : (s.tdiv 4).natAbs = s.natAbs / 4 := by rw [Int.natAbs_tdiv]; rfl
  omega
/-- Components of few limbs, of moderate exponents. -/
def fewD (n : Nat) (b : Int) (l : List UInt32) (e : Int) : Bool := decide (l.length ≤ n) && decide (-b ≤ e) && decide (e ≤ b)
def RC.few (n : Nat) (b : Int) (r : RC) : Bool := fewD n b r.l r.e && fewD n b r.k r.f
theorem fewD_iff {n : Nat} {b : Int} {l : List UInt32} {e : Int} : fewD n b l e = true ↔ l.length ≤ n ∧ -b ≤ e ∧ e ≤ b := by
  simp only [fewD, Bool.and_eq_true, decide_eq_true_eq, and_assoc]
theorem fewD_false {n : Nat} {b : Int} {l : List UInt32} {e : Int} (h : ¬ (l.length ≤ n ∧ -b ≤ e ∧ e ≤ b)) : fewD n b l e = false := by
  rw [← Bool.not_eq_true, fewD_iff]; exact h
theorem all_at {xs : List RC} {p : RC → Bool} {i : Nat} (h : i < xs.length) (hp : p (xs.getD i RC.nil) = false) : xs.all p = false := by
  rw [← Bool.not_eq_true, List.all_eq_true]
  intro h2
  rw [h2 _ (by simp [h])] at hp
  cases hp
theorem all_succ {xs : List RC} {p : RC → Bool} {i : Nat} (h : i < xs.length) (h1 : (xs.take i).all p = true) (hp : p (xs.getD i RC.nil) = true) : (xs.take (i + 1)).all p = true := by
  rw [List.take_succ_eq_append_getElem h, List.all_append, h1]
  have e : xs.getD i RC.nil = xs[i] := by simp [h]
  rw [e] at hp
  simp [hp]
theorem RC.few_iff {n : Nat} {b : Int} {r : RC} : r.few n b = true ↔ (r.l.length ≤ n ∧ -b ≤ r.e ∧ r.e ≤ b) ∧ (r.k.length ≤ n ∧ -b ≤ r.f ∧ r.f ≤ b) := by
  simp only [RC.few, Bool.and_eq_true, fewD_iff]
theorem ht_few {c : Bool} {n : Nat} {b : Nat} {l : List UInt32} {e : Int} (h : l.length ≤ n ∧ -(b : Int) ≤ e ∧ e ≤ b) : Ht (32 * n + b) (dof (zv c l) e) :=
  Ht.dof (a := 32 * n) (b := b) (Zt.of_len h.1 (Nat.le_refl _)) h.2.1 h.2.2 (Nat.le_refl _)
theorem dyR_few {c : Bool} {n : Nat} {b : Nat} {l : List UInt32} {e : Int} (hn : n ≤ 1000) (hb : b ≤ 100000) (h : l.length ≤ n ∧ -(b : Int) ≤ e ∧ e ≤ b) : DyR (.agg [.bool c, sl l, .int .i64 e]) (dof (zv c l) e) :=
  .mk _ _ _ (by omega) (by omega) (by omega) ((ht_few h).mono (by omega))
theorem RC.cxR {n : Nat} (b : Nat) {B : Int} (hB : B = b) {r : RC} (hn : n ≤ 1000) (hb : b ≤ 100000) (h : r.few n B = true) : CxR (.agg r.cells) r.val := by
  subst hB; exact
  .mk (dyR_few hn hb (RC.few_iff.1 h).1) (dyR_few hn hb (RC.few_iff.1 h).2)
theorem RC.hc {n : Nat} (b k : Nat) {B : Int} (hB : B = b) (hk : 32 * n + b ≤ k) {r : RC} (h : r.few n B = true) : Hc k r.val := by
  subst hB; refine Hc.mono ?_ hk; exact ⟨ht_few (RC.few_iff.1 h).1, ht_few (RC.few_iff.1 h).2⟩
/-- A point as it must lie in a row. -/
def RC.of (z : Cq) : RC := ⟨zneg (dman z.1), ofN (dman z.1).natAbs, dexp z.1, zneg (dman z.2), ofN (dman z.2).natAbs, dexp z.2⟩
theorem RC.of_val (z : Cq) : (RC.of z).val = z := by
  unfold RC.of RC.val; simp only [zv_self, dof_self]
theorem RC.of_cells (z : Cq) : D.agg (RC.of z).cells = cxD z := rfl
end Go.Ev

namespace Go.Ev
open Go Go.RowKit Go.ChangeShapes

/-- An argument of that shape, as data. -/
def Sh.arg : Sh → List D → D
  | .struct _, ds => .agg ds
  | _, ds => ds.headD .any
def ArgOk (s : Sh) (x : D) : Prop := ∃ ds, s.has ds ∧ x = s.arg ds
def ArgsOk : List Sh → List D → Prop
  | [], xs => xs = []
  | s :: ss, xs => ∃ y ys, xs = y :: ys ∧ ArgOk s y ∧ ArgsOk ss ys
def Sh.chks (P : Program) : List Sh → List TypeId → Bool
  | [], [] => true
  | s :: ss, t :: ts => s.chk P t && Sh.chks P ss ts
  | _, _ => false

section
variable {H : Type} {enc : TypeId × Value → H} {P : Program} {w : World}
theorem Sh.one_cell {s : Sh} {ds : List D} (hs : ∀ fs, s ≠ .struct fs) (h : s.has ds) : ∃ x, ds = [x] := by
  cases s with
  | struct fs => exact absurd rfl (hs fs)
  | bool => obtain ⟨b, rfl⟩ := h; exact ⟨_, rfl⟩
  | int k => obtain ⟨n, rfl, _⟩ := h; exact ⟨_, rfl⟩
  | str => obtain ⟨n, rfl, _⟩ := h; exact ⟨_, rfl⟩
  | slice e => obtain ⟨n, ls, rfl, _⟩ := h; exact ⟨_, rfl⟩
theorem argOk_of {n : Nat} {s : Sh} {t : TypeId} {v : Value} {d : DataW H} {ps : List MemPlace} (hc : s.chk P t = true) (ht : DataW.Trod enc P w 0 (fun _ => true) true t v d ps) (hv : Value.okWide P w .any n t v) : ∃ x, ArgOk s x ∧ DR (allImm w) w x v := by
  obtain ⟨fuel, h⟩ := ht
  obtain ⟨ds, hd, hR⟩ := s.of_trod hc h
  refine ⟨_, ⟨ds, hd, rfl⟩, ?_⟩
  cases s with
  | struct fs =>
    simp only [Sh.chk] at hc
    split at hc
    · rename_i l hu
      simp only [Value.okWide, hu] at hv
      obtain ⟨cs, rfl, _⟩ := hv
      simp only [Sh.arg, DR]
      exact ⟨cs, rfl, hR⟩
    · cases hc
  | _ =>
    obtain ⟨x, rfl⟩ := Sh.one_cell (fun _ => Sh.noConfusion) hd
    simp only [DRs] at hR
    obtain ⟨u, us, hu, hx, rfl⟩ := hR
    simp only [Sh.arg, List.headD_cons]
    cases v with
    | agg cs =>
      exfalso
      simp only [Sh.chk] at hc
      split at hc <;> simp_all [Value.okWide, Cell.okWide, Cell.ok]
    | _ => simp [Value.cells] at hu; subst hu; exact hx
theorem argsOk_of {n : Nat} : ∀ {ss : List Sh} {ts : List TypeId} {vs : List Value} {ds : List (DataW H)} {ps : List MemPlace}, Sh.chks P ss ts = true → DataW.TrodAll enc P w 0 (fun _ => true) true ts vs ds ps →
    (∀ (j : Nat) (t : TypeId) (v : Value), ts[j]? = some t → vs[j]? = some v → Value.okWide P w .any n t v) → ∃ xs, ArgsOk ss xs ∧ DRs (allImm w) w xs vs
  | [], [], [], ds, ps, _, h, _ => ⟨[], rfl, rfl⟩
  | s :: ss, t :: ts, v :: vs, [], ps, hc, h, hv => by simp [DataW.TrodAll] at h
  | s :: ss, t :: ts, v :: vs, d :: ds, ps, hc, h, hv => by
    simp only [Sh.chks, Bool.and_eq_true] at hc
    obtain ⟨p, q, h1, h2, _⟩ := h
    obtain ⟨x, hx, hR⟩ := argOk_of hc.1 h1 (hv 0 t v rfl rfl)
    obtain ⟨xs, hxs, hRs⟩ := argsOk_of hc.2 h2 fun j t v hj hj' => hv (j + 1) t v (by simpa using hj) (by simpa using hj')
    exact ⟨x :: xs, ⟨x, xs, rfl, hx, hxs⟩, ⟨v, vs, rfl, hR, hRs⟩⟩
  | [], [], _ :: _, ds, ps, _, h, _ => by cases ds <;> simp [DataW.TrodAll] at h
  | [], _ :: _, vs, ds, ps, hc, h, _ => by simp [Sh.chks] at hc
  | _ :: _, [], vs, ds, ps, hc, h, _ => by simp [Sh.chks] at hc
  | _ :: _, _ :: _, [], ds, ps, hc, h, _ => by cases ds <;> simp [DataW.TrodAll] at h
theorem trodAll_len : ∀ {ts : List TypeId} {vs : List Value} {ds : List (DataW H)} {ps : List MemPlace}, DataW.TrodAll enc P w 0 (fun _ => true) true ts vs ds ps → ds.length = ts.length
  | [], [], [], ps, h => rfl
  | t :: ts, v :: vs, d :: ds, ps, h => by obtain ⟨p, q, h1, h2, _⟩ := h; simp [trodAll_len h2]
  | [], [], _ :: _, ps, h => by simp [DataW.TrodAll] at h
  | [], _ :: _, ds, ps, h => by cases ds <;> simp [DataW.TrodAll] at h
  | _ :: _, [], ds, ps, h => by cases ds <;> simp [DataW.TrodAll] at h
  | _ :: _, _ :: _, [], ps, h => by simp [DataW.TrodAll] at h
def readsOk (P : Program) (ts : List TypeId) : Bool := ts.all fun t => P.readableRec t && decide (t < P.types.size)
theorem trodAll_stays (hl : laidOutB P = true) {W W' : World} {sp : Nat → Bool} (hb : Below W.heap.size W W') : ∀ {ts : List TypeId} {vs : List Value} {ds : List (DataW H)} {ps : List MemPlace}, readsOk P ts = true →
    DataW.TrodAll enc P W 0 (fun _ => true) true ts vs ds ps → (∀ x ∈ ps, x.block < W.heap.size) → (∀ x ∈ ps, sp x.block = true) → DataW.TrodAll enc P W' 0 sp true ts vs ds ps
  | [], [], [], ps, _, h, _, _ => h
  | t :: ts, v :: vs, d :: ds, ps, hr, h, hlt, hs => by
    simp only [readsOk, List.all_cons, Bool.and_eq_true, decide_eq_true_eq] at hr
    obtain ⟨p, q, h1, h2, rfl⟩ := h
    exact ⟨p, q, WideElems.Trod_stays hl hr.1.1 hr.1.2 h1 (fun x hx => hb.same (hlt x (by simp [hx]))) (fun x hx => hs x (by simp [hx])), trodAll_stays hl hb (by simpa [readsOk] using hr.2) h2 (fun x hx => hlt x (by simp [hx])) (fun x hx => hs x (by simp [hx])), rfl⟩
  | [], [], _ :: _, ps, _, h, _, _ => by simp [DataW.TrodAll] at h
  | [], _ :: _, ds, ps, _, h, _, _ => by cases ds <;> simp [DataW.TrodAll] at h
  | _ :: _, [], ds, ps, _, h, _, _ => by cases ds <;> simp [DataW.TrodAll] at h
  | _ :: _, _ :: _, [], ps, _, h, _, _ => by simp [DataW.TrodAll] at h

theorem post_below {f : Func} {s : ChangeSpec} {W W' : World} {args : Array Value} {v : Value} {ds gs : List (DataW H)} {before pa pv : List MemPlace}
    (hW : DataW.Whole enc P f.params.toList s.vars false W args.toList ds gs before)
    (hres : ∀ (b : Nat) (sp : Nat → Bool) (hd : Bool), DataW.TrodAll enc P W' b sp hd f.resultTypes.toList (v.resultList f.resultTypes.size) (s.fn H (ds ++ gs)).results [])
    (hargs : ∀ sp : Nat → Bool, (∀ p ∈ before, sp p.block = true) → DataW.TrodAll enc P W' 0 sp true f.params.toList args.toList (s.fn H (ds ++ gs)).args pa)
    (hvars : ∀ sp : Nat → Bool, (∀ p ∈ before, sp p.block = true) → DataW.TrodVars enc P W' sp s.vars (s.fn H (ds ++ gs)).vars pv)
    (hps : before = pa ++ pv) (hk : W.keptBut W' (· ∈ before)) (hfz : ∀ a : Addr, a.block < W.heap.size → W'.frozen? a = W.frozen? a)
    (hok : ∀ (j : Nat) (t : TypeId) (r : Value), f.resultTypes[j]? = some t → (v.resultList f.resultTypes.size)[j]? = some r → Value.okWide P W' .any 0 t r) :
    s.post enc P f false true false false W args v W' := by
  have hold : ∀ p ∈ before, (fun b => decide (b < W.heap.size)) p.block = true := fun p hp => by simpa using hW.lt p hp
  refine ⟨ds, gs, before, [], pa, pv, hW, hres _ _ _, hargs _ hold, hvars _ hold, World.keptBut_mono (fun p hp => ⟨hp, ?_⟩) hk, fun h => by cases h⟩
  rw [hps, List.mem_append] at hp
  exact Or.inr hp

theorem law_contract {G : Glob} {f : FuncId} {fn : Func} {s : ChangeSpec} {tb : TypeId} (ts : List TypeId) (ss : List Sh) (hts : fn.params.toList = ts) (hrt : fn.resultTypes = #[tb]) (htb : P.underlying tb = some .bool) (hvars : s.vars = [])
    (hl : laidOutB P = true) (hchk : Sh.chks P ss ts = true) (hread : readsOk P ts = true) (hspec : ∀ ds : List (DataW H), ds.length = ts.length → s.fn H ds = { results := [.lit (.bool true)], args := ds })
    (hsim : ∀ xs, ArgsOk ss xs → Sim P G true f xs (.bool true)) {W : World} {base : Nat} {args : Array Value} {ds gs : List (DataW H)} {before : List MemPlace}
    (hG : ∀ g, DRL (allImm W) W g 0 (G g))
    (hval : ∀ (j : Nat) (t : TypeId) (v : Value), fn.params[j]? = some t → args[j]? = some v → Value.okWide P W .any base t v)
    (hW : DataW.Whole enc P fn.params.toList s.vars false W args.toList ds gs before) :
    Calls P f args W fun e W' => ∃ v, e = .returned v ∧ s.post enc P fn false true false false W args v W' := by
  have hW' := hW
  obtain ⟨p, q, hA, hV, rfl, hfz, hnd⟩ := hW
  rw [hvars] at hV
  obtain ⟨rfl, rfl⟩ : gs = [] ∧ q = [] := by
    cases gs with
    | nil => exact ⟨rfl, hV⟩
    | cons _ _ => simp [DataW.TrodVars] at hV
  rw [hts] at hA
  have hlen := trodAll_len hA
  obtain ⟨xs, hxs, hR⟩ := argsOk_of (n := base) hchk hA (fun j t v hj hj' => hval j t v (by rw [← hts] at hj; simpa using hj) (by simpa using hj'))
  have hcall := (hsim xs hxs).run (allImm W) W args.toList (fun k o h => h) hG hR
  rw [show args.toList.toArray = args by simp] at hcall
  refine hcall.mono ?_
  rintro e W' ⟨v, rfl, hbel, S', _, hv⟩
  simp only [DR] at hv
  subst hv
  refine ⟨_, rfl, ?_⟩
  have hsp := hspec ds hlen
  refine post_below (pa := p) (pv := []) hW' (fun b sp hd => ?_) (fun sp hsp2 => ?_) (fun sp _ => ?_) (by simp) (hbel.frame _) (fun a ha => hbel.frozen ha) (ok_one hrt rfl (by simp [Value.okWide, htb, Cell.okWide, Cell.ok]))
  · rw [List.append_nil, hsp, hrt]
    exact ⟨[], [], ⟨1, by simp [DataW.trod, htb, Value.cells]⟩, rfl, rfl⟩
  · rw [List.append_nil, hsp, hts]
    exact trodAll_stays hl hbel hread hA (fun x hx => hW'.lt x (by simp [hx])) (fun x hx => hsp2 x (by simp [hx]))
  · rw [List.append_nil, hsp, hvars]
    rfl
end
/- SHAPES -/
abbrev shU32s : Sh := .slice (.int .u32)
abbrev shInt : Sh := .struct [.bool, shU32s]
abbrev shDy : Sh := .struct [shInt, .int .i64]
abbrev shCx : Sh := .struct [shDy, shDy]
abbrev shCxs : Sh := .slice shCx
theorem u32_range (n : Int) (h1 : IntKind.u32.min ≤ n) (h2 : n ≤ IntKind.u32.max) : 0 ≤ n ∧ n ≤ 4294967295 := by
  have e1 : IntKind.u32.min = 0 := by decide
  have e2 : IntKind.u32.max = 4294967295 := by decide
  omega
theorem i64_range {n : Int} (h1 : IntKind.i64.min ≤ n) (h2 : n ≤ IntKind.i64.max) : -9223372036854775808 ≤ n ∧ n ≤ 9223372036854775807 := by
  have e1 : IntKind.i64.min = -9223372036854775808 := by decide
  have e2 : IntKind.i64.max = 9223372036854775807 := by decide
  omega
theorem maxLen_eq : maxLen = 9223372036854775807 := by decide
theorem has_limbs : ∀ {ls : List (List D)}, (∀ l ∈ ls, (Sh.int .u32).has l) → ∃ l : List UInt32, ls.flatten = limbs l ∧ l.length = ls.length
  | [], _ => ⟨[], rfl, rfl⟩
  | x :: ls, h => by
    obtain ⟨l, h1, h2⟩ := has_limbs (ls := ls) fun y hy => h y (by simp [hy])
    obtain ⟨n, rfl, h3, h4⟩ := h x (by simp)
    have h5 := u32_range n h3 h4
    refine ⟨UInt32.ofNat n.toNat :: l, ?_, by simp [h2]⟩
    rw [List.flatten_cons, h1]
    simp only [limbs, List.map_cons, List.singleton_append, UInt32.toNat_ofNat']
    congr 2; omega
theorem has_u32s {ds : List D} (h : shU32s.has ds) : ∃ l : List UInt32, ds = [sl l] ∧ l.length ≤ maxLen := by
  obtain ⟨n, ls, rfl, h1, h2, h3⟩ := h
  obtain ⟨l, h4, h5⟩ := has_limbs h3
  refine ⟨l, ?_, by omega⟩
  rw [h4]; unfold sl; rw [h5, h1]
theorem has_int {ds : List D} (h : shInt.has ds) : ∃ b l, ds = [.bool b, sl l] ∧ l.length ≤ maxLen := by
  simp only [Sh.has, Sh.hasAll] at h
  obtain ⟨_, _, rfl, ⟨b, rfl⟩, _, _, rfl, h2, rfl⟩ := h
  obtain ⟨l, rfl, hl⟩ := has_u32s h2
  exact ⟨b, l, rfl, hl⟩
theorem has_dy {ds : List D} (h : shDy.has ds) : ∃ b l e, ds = [.bool b, sl l, .int .i64 e] ∧ l.length ≤ maxLen ∧ -9223372036854775808 ≤ e ∧ e ≤ 9223372036854775807 := by
  simp only [Sh.has, Sh.hasAll] at h
  obtain ⟨_, _, rfl, h1, _, _, rfl, ⟨e, rfl, h3, h4⟩, rfl⟩ := h
  obtain ⟨b, l, rfl, hl⟩ := has_int (by simp only [Sh.has, Sh.hasAll]; exact h1)
  exact ⟨b, l, e, rfl, hl, i64_range h3 h4⟩
theorem has_cx {ds : List D} (h : shCx.has ds) : ∃ r : RC, ds = r.cells := by
  simp only [Sh.has, Sh.hasAll] at h
  obtain ⟨_, _, rfl, h1, _, _, rfl, h2, rfl⟩ := h
  obtain ⟨b, l, e, rfl, _⟩ := has_dy (by simp only [Sh.has, Sh.hasAll]; exact h1)
  obtain ⟨c, k, f, rfl, _⟩ := has_dy (by simp only [Sh.has, Sh.hasAll]; exact h2)
  exact ⟨⟨b, l, e, c, k, f⟩, rfl⟩
theorem has_cxs_aux : ∀ {ls : List (List D)}, (∀ l ∈ ls, shCx.has l) → ∃ xs : List RC, ls.flatten = xs.flatMap RC.cells ∧ xs.length = ls.length
  | [], _ => ⟨[], rfl, rfl⟩
  | x :: ls, h => by
    obtain ⟨xs, h1, h2⟩ := has_cxs_aux (ls := ls) fun y hy => h y (by simp [hy])
    obtain ⟨r, rfl⟩ := has_cx (h x (by simp))
    exact ⟨r :: xs, by simp [h1], by simp [h2]⟩
theorem has_cxs {ds : List D} (h : shCxs.has ds) : ∃ xs : List RC, ds = [csl xs] ∧ xs.length ≤ maxLen := by
  obtain ⟨n, ls, rfl, h1, h2, h3⟩ := h
  obtain ⟨xs, h4, h5⟩ := has_cxs_aux h3
  refine ⟨xs, ?_, by omega⟩
  rw [h4]; unfold csl; rw [h5, h1]
theorem arg_cxs {x : D} (h : ArgOk shCxs x) : ∃ xs : List RC, x = csl xs ∧ xs.length ≤ 9223372036854775807 := by
  obtain ⟨ds, h1, rfl⟩ := h
  obtain ⟨xs, rfl, h2⟩ := has_cxs h1
  rw [maxLen_eq] at h2
  exact ⟨xs, rfl, h2⟩
theorem arg_cx {x : D} (h : ArgOk shCx x) : ∃ r : RC, x = .agg r.cells := by
  obtain ⟨ds, h1, rfl⟩ := h
  obtain ⟨r, rfl⟩ := has_cx h1
  exact ⟨r, rfl⟩
theorem arg_dy {x : D} (h : ArgOk shDy x) : ∃ b l e, x = .agg [.bool b, sl l, .int .i64 e] ∧ l.length ≤ 9223372036854775807 ∧ -9223372036854775808 ≤ e ∧ e ≤ 9223372036854775807 := by
  obtain ⟨ds, h1, rfl⟩ := h
  obtain ⟨b, l, e, rfl, h2, h3⟩ := has_dy h1
  rw [maxLen_eq] at h2
  exact ⟨b, l, e, rfl, h2, h3⟩
theorem arg_int {x : D} (h : ArgOk shInt x) : ∃ b l, x = .agg [.bool b, sl l] ∧ l.length ≤ 9223372036854775807 := by
  obtain ⟨ds, h1, rfl⟩ := h
  obtain ⟨b, l, rfl, h2⟩ := has_int h1
  rw [maxLen_eq] at h2
  exact ⟨b, l, rfl, h2⟩
theorem arg_k {k : IntKind} {x : D} (h : ArgOk (.int k) x) : ∃ n, x = .int k n ∧ k.min ≤ n ∧ n ≤ k.max := by
  obtain ⟨ds, ⟨n, rfl, h1⟩, rfl⟩ := h
  exact ⟨n, rfl, h1⟩
end Go.Ev

namespace Go.Ev
open Go

theorem dsg_mul (p q : Dyadic) : dsg (p * q) = dsg p * dsg q := by
  conv => lhs; rw [← dof_self p, ← dof_self q, dof_mul, dsg_dof, Int.sign_mul]
  rfl
theorem dsg_abs (p : Dyadic) : dsg (dabs p) ≥ 0 := by
  unfold dsg
  rw [dman_abs]
  rcases Nat.eq_zero_or_pos (dman p).natAbs with h | h
  · rw [h]; decide
  · rw [Int.sign_eq_one_of_pos (by omega)]; decide
theorem dman_mul (p q : Dyadic) : dman (p * q) = dman p * dman q := by
  cases p with
  | zero => show dman (0 * q) = 0 * dman q; rw [Dyadic.zero_mul, Int.zero_mul]; rfl
  | ofOdd n k hn =>
    cases q with
    | zero => show dman (_ * 0) = _ * 0; rw [Dyadic.mul_zero, Int.mul_zero]; rfl
    | ofOdd m j hm => rfl
theorem dexp_mul {p q : Dyadic} (hp : p ≠ 0) (hq : q ≠ 0) : dexp (p * q) = dexp p + dexp q := by
  cases p with
  | zero => exact absurd rfl hp
  | ofOdd n k hn =>
    cases q with
    | zero => exact absurd rfl hq
    | ofOdd m j hm => show -(k + j) = -k + -j; omega
theorem dtop_ne {q : Dyadic} (h : q ≠ 0) : dtop q = dexp q + nb (dman q).natAbs - 1 := by
  unfold dtop; rw [if_neg (fun e => h (dman_eq_zero.1 e))]
theorem dtop_neg (q : Dyadic) : dtop (-q) = dtop q := by
  unfold dtop
  rw [dman_neg', dexp_neg, Int.natAbs_neg]
  by_cases h : dman q = 0
  · rw [if_pos h, if_pos (by omega)]
  · rw [if_neg h, if_neg (by omega)]
theorem nb_pos {n : Nat} (h : n ≠ 0) : 0 < nb n := by
  rcases Nat.eq_zero_or_pos (nb n) with h2 | h2
  · have := nb_lt n; rw [h2] at this; omega
  · exact h2
theorem dof_one_le {q : Dyadic} (h : q ≠ 0) : dof 1 (dtop q) ≤ dabs q := by
  have h0 : (dman q).natAbs ≠ 0 := fun e => h (dman_eq_zero.1 (by omega))
  have h1 := nb_pos h0
  have h2 := nb_ge h0
  rw [dtop_ne h, show dexp q + (nb (dman q).natAbs : Int) - 1 = dexp q + ((nb (dman q).natAbs - 1 : Nat) : Int) by omega, ← dof_shl]
  unfold dabs
  rw [dof_le, Int.one_mul]
  exact_mod_cast h2
theorem lt_dof_one {q : Dyadic} (h : q ≠ 0) : dabs q < dof 1 (dtop q + 1) := by
  have h2 := nb_lt (dman q).natAbs
  rw [dtop_ne h, show dexp q + (nb (dman q).natAbs : Int) - 1 + 1 = dexp q + ((nb (dman q).natAbs : Nat) : Int) by omega, ← dof_shl]
  unfold dabs
  rw [dof_lt, Int.one_mul]
  exact_mod_cast h2
theorem nb_mul {a b : Nat} (ha : a ≠ 0) (hb : b ≠ 0) : nb (a * b) = nb a + nb b ∨ nb (a * b) + 1 = nb a + nb b := by
  have h1 := nb_pos ha
  have h2 := nb_pos hb
  have h3 := nb_ge ha
  have h4 := nb_ge hb
  have h5 := nb_lt a
  have h6 := nb_lt b
  have h7 : a * b < 2 ^ (nb a + nb b) := by rw [Nat.pow_add]; exact Nat.mul_lt_mul'' h5 h6
  have h8 : 2 ^ (nb a + nb b - 2) ≤ a * b := by
    rw [show nb a + nb b - 2 = (nb a - 1) + (nb b - 1) by omega, Nat.pow_add]; exact Nat.mul_le_mul h3 h4
  have h9 : nb (a * b) ≤ nb a + nb b := nb_le.2 h7
  have h10 : ¬ nb (a * b) ≤ nb a + nb b - 2 := fun h => by have := nb_le.1 h; omega
  omega
theorem dtop_mul {p q : Dyadic} (hp : p ≠ 0) (hq : q ≠ 0) : dtop (p * q) - dtop p - dtop q = 0 ∨ dtop (p * q) - dtop p - dtop q = 1 := by
  have h1 : (dman p).natAbs ≠ 0 := fun e => hp (dman_eq_zero.1 (by omega))
  have h2 : (dman q).natAbs ≠ 0 := fun e => hq (dman_eq_zero.1 (by omega))
  have h3 : p * q ≠ 0 := fun e => by
    have h4 := dman_eq_zero.2 e
    rw [dman_mul] at h4
    rcases Int.mul_eq_zero.1 h4 with h | h
    · exact hp (dman_eq_zero.1 h)
    · exact hq (dman_eq_zero.1 h)
  have h4 := nb_mul h1 h2
  rw [dtop_ne hp, dtop_ne hq, dtop_ne h3, dman_mul, dexp_mul hp hq, Int.natAbs_mul]
  omega
theorem dtop_bounds {q : Dyadic} {h : Nat} (hq : Ht h q) : -(h : Int) ≤ dtop q ∧ dtop q ≤ 3 * h := by
  obtain ⟨h1, h2, h3⟩ := hq.parts
  by_cases h0 : q = 0
  · subst h0; show -(h : Int) ≤ 0 ∧ (0 : Int) ≤ _; omega
  · have h4 := nb_pos (n := (dman q).natAbs) (fun e => h0 (dman_eq_zero.1 (by omega)))
    have h5 := h1.nb
    rw [dtop_ne h0]
    omega
end Go.Ev

namespace Go.Ev
open Go

/-- Whether the next multiple is meant, where r is left of 2 to the power of s, behind f multiples. -/
def upB (f r : Int) (s : Nat) (mode : Int) : Bool :=
  if mode = 0 then false else if mode = 1 then decide (Int.sign r > 0) else decide (Int.sign (r * 2 - 2 ^ s) > 0) || (decide (Int.sign (r * 2 - 2 ^ s) = 0) && decide (f % 2 = 1))
/-- Rounded to multiples of 2 to the power of e. -/
def grd (q : Dyadic) (e mode : Int) : Dyadic :=
  if e ≤ dexp q then q else
    let s := (e - dexp q).toNat
    let f := dman q / 2 ^ s
    dof (if upB f (dman q - f * 2 ^ s) s mode then f + 1 else f) e
theorem grd_ge {q : Dyadic} {e mode : Int} (h : e ≤ dexp q) : grd q e mode = q := by unfold grd; rw [if_pos h]
theorem grd_zero (e mode : Int) : grd 0 e mode = 0 := by
  unfold grd
  split
  · rfl
  · have h1 : dman 0 / 2 ^ (e - dexp 0).toNat = 0 := by rw [dman_zero, Int.zero_ediv]
    have h2 : upB 0 (dman 0 - 0 * 2 ^ (e - dexp 0).toNat) (e - dexp 0).toNat mode = false := by
      rw [dman_zero, Int.zero_mul, Int.sub_zero]
      unfold upB
      have h3 : (0 : Int) < 2 ^ (e - dexp 0).toNat := Int.pow_pos (by decide)
      have h4 : Int.sign (0 * 2 - 2 ^ (e - dexp 0).toNat) = -1 := Int.sign_eq_neg_one_of_neg (by omega)
      split
      · rfl
      · split
        · rfl
        · rw [h4]; rfl
    simp only [h1, h2, Bool.false_eq_true, if_false]; rfl
theorem floor_rest (m : Int) (s : Nat) : 0 ≤ m - m / 2 ^ s * 2 ^ s ∧ m - m / 2 ^ s * 2 ^ s < 2 ^ s := by
  have hp : (0 : Int) < 2 ^ s := Int.pow_pos (by decide)
  have h1 := Int.emod_nonneg m (Int.ne_of_gt hp)
  have h2 := Int.emod_lt_of_pos m hp
  have h3 := Int.mul_ediv_add_emod m (2 ^ s)
  rw [Int.mul_comm (2 ^ s)] at h3
  omega
theorem odd_rest {m : Int} {s : Nat} (hm : m % 2 = 1) (hs : 0 < s) : 0 < m - m / 2 ^ s * 2 ^ s := by
  have h := (floor_rest m s).1
  have h2 : (m - m / 2 ^ s * 2 ^ s) % 2 = 1 := by
    obtain ⟨t, rfl⟩ : ∃ t, s = t + 1 := ⟨s - 1, by omega⟩
    rw [Int.pow_succ, ← Int.mul_assoc]; omega
  omega
theorem natAbs_ediv_le (m : Int) (s : Nat) : (m / 2 ^ s).natAbs ≤ m.natAbs := by
  have hp : (0 : Int) < 2 ^ s := Int.pow_pos (by decide)
  have := Int.natAbs_ediv_le_natAbs m (2 ^ s)
  exact this
theorem nv_one : nv [1] = 1 := rfl
theorem one_shl (n : Int) : nv [1] * 2 ^ n.toNat = 2 ^ n.toNat := by rw [nv_one, Nat.one_mul]
theorem one_shl_pos (n : Int) : 0 < nv [1] * 2 ^ n.toNat := by rw [one_shl]; exact Nat.pow_pos (by decide)
theorem one_shl_lt (n : Int) (k : Nat) (h0 : 0 < k) (hn : n < k) : nv [1] * 2 ^ n.toNat < 2 ^ k := by rw [one_shl]; exact Nat.pow_lt_pow_right (by decide) (by omega)
theorem one_shl_int (n : Int) : (((nv [1] * 2 ^ n.toNat : Nat) : Int)) = 2 ^ n.toNat := by rw [one_shl, Int.natCast_pow]; rfl
theorem zt_floor {a : Nat} {m : Int} (h : Zt a m) (s : Nat) : Zt a (m / 2 ^ s) := h.le (natAbs_ediv_le m s)
end Go.Ev

namespace Go.Ev
open Go

def mn (p q : Dyadic) : Dyadic := if p ≤ q then p else q
def mx (p q : Dyadic) : Dyadic := if q ≤ p then p else q
theorem Ht.mn {a : Nat} {p q : Dyadic} (hp : Ht a p) (hq : Ht a q) : Ht a (mn p q) := by unfold Ev.mn; split <;> assumption
theorem Ht.mx {a : Nat} {p q : Dyadic} (hp : Ht a p) (hq : Ht a q) : Ht a (mx p q) := by unfold Ev.mx; split <;> assumption
theorem mn_le_l (p q : Dyadic) : mn p q ≤ p := by unfold mn; grind
theorem mn_le_r (p q : Dyadic) : mn p q ≤ q := by unfold mn; grind
theorem le_mx_l (p q : Dyadic) : p ≤ mx p q := by unfold mx; grind
theorem le_mx_r (p q : Dyadic) : q ≤ mx p q := by unfold mx; grind
theorem mn_or (p q : Dyadic) : mn p q = p ∨ mn p q = q := by unfold mn; split <;> simp
theorem mx_or (p q : Dyadic) : mx p q = p ∨ mx p q = q := by unfold mx; split <;> simp
theorem le_mn {r p q : Dyadic} : r ≤ mn p q ↔ r ≤ p ∧ r ≤ q := by unfold mn; grind
theorem mx_le {r p q : Dyadic} : mx p q ≤ r ↔ p ≤ r ∧ q ≤ r := by unfold mx; grind
/-- What an interval means. -/
def rof (z : Cq) : Cq := (mn z.1 z.2, mx z.1 z.2)
theorem Hc.rof {a : Nat} {z : Cq} (h : Hc a z) : Hc a (rof z) := ⟨h.1.mn h.2, h.1.mx h.2⟩
/-- Ends in order. -/
def Ord (z : Cq) : Prop := z.1 ≤ z.2
theorem rof_ord (z : Cq) : Ord (rof z) := by unfold Ord Ev.rof mn mx; dsimp only; grind
theorem rof_self {z : Cq} (h : Ord z) : rof z = z := by
  obtain ⟨p, q⟩ := z
  unfold Ord at h; unfold Ev.rof mn mx; dsimp only at h ⊢
  congr 1 <;> grind
def iadd (z w : Cq) : Cq := (z.1 + w.1, z.2 + w.2)
def ineg (z : Cq) : Cq := (-z.2, -z.1)
def isub (z w : Cq) : Cq := iadd z (ineg w)
def imul (z w : Cq) : Cq := (mn (mn (z.1 * w.1) (z.1 * w.2)) (mn (z.2 * w.1) (z.2 * w.2)), mx (mx (z.1 * w.1) (z.1 * w.2)) (mx (z.2 * w.1) (z.2 * w.2)))
def iabs (z : Cq) : Cq := if z.1 ≤ 0 ∧ 0 ≤ z.2 then (0, mx (dabs z.1) (dabs z.2)) else (mn (dabs z.1) (dabs z.2), mx (dabs z.1) (dabs z.2))
def clampP (n : Int) : Nat := (min (max n 0) 64).toNat
def ipow (z : Cq) (n : Int) : Cq := if clampP n % 2 = 0 then ((iabs z).1 ^ clampP n, (iabs z).2 ^ clampP n) else (z.1 ^ clampP n, z.2 ^ clampP n)
def ihull (z w : Cq) : Cq := (mn z.1 w.1, mx z.2 w.2)
def imeet (z w : Cq) : Cq × Bool := if mx z.1 w.1 ≤ mn z.2 w.2 then ((mx z.1 w.1, mn z.2 w.2), true) else ((0, 0), false)
def ihas (z : Cq) (d : Dyadic) : Prop := z.1 ≤ d ∧ d ≤ z.2
def iin (z w : Cq) : Prop := w.1 ≤ z.1 ∧ z.2 ≤ w.2
instance (z : Cq) (d : Dyadic) : Decidable (ihas z d) := inferInstanceAs (Decidable (_ ∧ _))
instance (z w : Cq) : Decidable (iin z w) := inferInstanceAs (Decidable (_ ∧ _))
theorem iadd_ord {z w : Cq} (h : Ord z) (k : Ord w) : Ord (iadd z w) := by unfold Ord iadd at *; dsimp only; grind
theorem ineg_ord {z : Cq} (h : Ord z) : Ord (ineg z) := by unfold Ord ineg at *; dsimp only; grind
theorem isub_ord {z w : Cq} (h : Ord z) (k : Ord w) : Ord (isub z w) := iadd_ord h (ineg_ord k)
theorem imul_ord (z w : Cq) : Ord (imul z w) := by
  unfold Ord imul; dsimp only
  have h1 := mn_le_l (mn (z.1 * w.1) (z.1 * w.2)) (mn (z.2 * w.1) (z.2 * w.2))
  have h2 := mn_le_l (z.1 * w.1) (z.1 * w.2)
  have h3 := le_mx_l (mx (z.1 * w.1) (z.1 * w.2)) (mx (z.2 * w.1) (z.2 * w.2))
  have h4 := le_mx_l (z.1 * w.1) (z.1 * w.2)
  grind
theorem ihull_ord {z w : Cq} (h : Ord z) (k : Ord w) : Ord (ihull z w) := by
  unfold Ord ihull at *; dsimp only
  have h1 := mn_le_l z.1 w.1
  have h2 := le_mx_l z.2 w.2
  grind
theorem dabs_pos {q : Dyadic} : 0 ≤ dabs q := by rw [dabs_eq]; split <;> grind
theorem iabs_of {z : Cq} (h : Ord z) : iabs z = if 0 ≤ z.1 then z else if z.2 ≤ 0 then ineg z else (0, mx (-z.1) z.2) := by
  obtain ⟨p, q⟩ := z
  unfold Ord at h; dsimp only at h
  unfold iabs ineg; dsimp only
  by_cases h1 : 0 ≤ p
  · rw [if_pos h1]
    have e1 : dabs p = p := by rw [dabs_eq, if_neg (by grind)]
    have e2 : dabs q = q := by rw [dabs_eq, if_neg (by grind)]
    rw [e1, e2]
    have e3 : mx p q = q := by unfold mx; grind
    have e4 : mn p q = p := by unfold mn; grind
    rw [e3, e4]
    split
    · rename_i hp
      rw [show p = 0 by grind]
    · rfl
  · rw [if_neg h1]
    have e1 : dabs p = -p := by rw [dabs_eq, if_pos (by grind)]
    by_cases h2 : q ≤ 0
    · rw [if_pos h2]
      have e2 : dabs q = -q := by
        rw [dabs_eq]
        split
        · rfl
        · rw [show q = 0 by grind]; rfl
      rw [e1, e2]
      have e3 : mx (-p) (-q) = -p := by unfold mx; grind
      have e4 : mn (-p) (-q) = -q := by unfold mn; grind
      rw [e3, e4]
      split
      · rename_i hp
        rw [show q = 0 by grind]; rfl
      · rfl
    · rw [if_neg h2, if_pos ⟨by grind, by grind⟩, e1]
      have e2 : dabs q = q := by rw [dabs_eq, if_neg (by grind)]
      rw [e2]
theorem iabs_ord {z : Cq} (h : Ord z) : Ord (iabs z) := by
  rw [iabs_of h]
  split
  · exact h
  · split
    · exact ineg_ord h
    · have := le_mx_r (-z.1) z.2
      unfold Ord; dsimp only; grind
theorem iabs_ge {z : Cq} (h : Ord z) : 0 ≤ (iabs z).1 := by
  rw [iabs_of h]
  split
  · assumption
  · split
    · unfold ineg; dsimp only; grind
    · dsimp only; grind
theorem Hc.iadd {a b c : Nat} {z w : Cq} (h : Hc a z) (k : Hc b w) (hc : max a b < c) : Hc c (iadd z w) := ⟨h.1.add k.1 hc, h.2.add k.2 hc⟩
theorem Hc.ineg {a : Nat} {z : Cq} (h : Hc a z) : Hc a (ineg z) := ⟨h.2.neg, h.1.neg⟩
theorem Hc.isub {a b c : Nat} {z w : Cq} (h : Hc a z) (k : Hc b w) (hc : max a b < c) : Hc c (isub z w) := h.iadd k.ineg hc
theorem Hc.imul {a b c : Nat} {z w : Cq} (h : Hc a z) (k : Hc b w) (hc : a + b ≤ c) : Hc c (imul z w) :=
  ⟨((h.1.mul k.1 hc).mn (h.1.mul k.2 hc)).mn ((h.2.mul k.1 hc).mn (h.2.mul k.2 hc)), ((h.1.mul k.1 hc).mx (h.1.mul k.2 hc)).mx ((h.2.mul k.1 hc).mx (h.2.mul k.2 hc))⟩
theorem Hc.iabs {a : Nat} {z : Cq} (h : Hc a z) : Hc a (iabs z) := by
  unfold Ev.iabs
  split
  · exact ⟨.zero a, h.1.abs.mx h.2.abs⟩
  · exact ⟨h.1.abs.mn h.2.abs, h.1.abs.mx h.2.abs⟩
theorem Hc.ihull {a : Nat} {z w : Cq} (h : Hc a z) (k : Hc a w) : Hc a (ihull z w) := ⟨h.1.mn k.1, h.2.mx k.2⟩
theorem Hc.imeet {a : Nat} {z w : Cq} (h : Hc a z) (k : Hc a w) : Hc a (imeet z w).1 := by
  unfold Ev.imeet
  split
  · exact ⟨h.1.mx k.1, h.2.mn k.2⟩
  · exact ⟨.zero a, .zero a⟩
theorem clampP_le (n : Int) : clampP n ≤ 64 := by unfold clampP; omega
theorem Hc.ipow {a : Nat} {z : Cq} (n : Int) {k c : Nat} (h : Hc a z) (hn : clampP n ≤ k) (hc : a * k + 1 ≤ c) : Hc c (ipow z n) := by
  have e : a * clampP n + 1 ≤ c := Nat.le_trans (Nat.add_le_add_right (Nat.mul_le_mul_left a hn) 1) hc
  unfold Ev.ipow
  split
  · exact ⟨(h.iabs.1.pow _).mono e, (h.iabs.2.pow _).mono e⟩
  · exact ⟨(h.1.pow _).mono e, (h.2.pow _).mono e⟩
theorem iin_same {z w : Cq} : (iin z w ∧ iin w z) ↔ z = w := by
  obtain ⟨a, b⟩ := z
  obtain ⟨c, d⟩ := w
  unfold iin; dsimp only
  rw [Prod.mk.injEq]
  grind
end Go.Ev

namespace Go.Ev
open Go

theorem dof_up (f e : Int) {E : Int} {S : Nat} (h : e = E + S) : dof f e = dof (f * 2 ^ S) E := by rw [dof_shl, h]
/-- Either it is on the grid, or it lies between two neighbours. -/
theorem grd_cases (q : Dyadic) (e : Int) : (∀ mode, grd q e mode = q) ∨
    (∃ (E f r : Int) (S : Nat), 0 < S ∧ e = E + S ∧ dexp q = E ∧ q = dof (f * 2 ^ S + r) E ∧ 0 ≤ r ∧ r < 2 ^ S ∧ (q ≠ 0 → 0 < r) ∧ ∀ mode, grd q e mode = dof (if upB f r S mode then f + 1 else f) e) := by
  by_cases h : e ≤ dexp q
  · exact .inl fun mode => grd_ge h
  · refine .inr ⟨dexp q, dman q / 2 ^ (e - dexp q).toNat, dman q - dman q / 2 ^ (e - dexp q).toNat * 2 ^ (e - dexp q).toNat, (e - dexp q).toNat, by omega, by omega, rfl, ?_, (floor_rest _ _).1, (floor_rest _ _).2, fun h0 => odd_rest (dman_odd h0) (by omega), fun mode => ?_⟩
    · rw [show dman q / 2 ^ (e - dexp q).toNat * 2 ^ (e - dexp q).toNat + (dman q - dman q / 2 ^ (e - dexp q).toNat * 2 ^ (e - dexp q).toNat) = dman q by omega, dof_self]
    · unfold grd; rw [if_neg h]
theorem up0 (f r : Int) (S : Nat) : upB f r S 0 = false := by unfold upB; rw [if_pos rfl]
theorem up1 (f r : Int) (S : Nat) : upB f r S 1 = decide (0 < r) := by
  unfold upB; rw [if_neg (by decide), if_pos rfl]
  exact decide_eq_decide.2 (by show 0 < Int.sign r ↔ _; rw [Int.sign_pos_iff])
theorem up2 (f r : Int) (S : Nat) {mode : Int} (h0 : mode ≠ 0) (h1 : mode ≠ 1) : upB f r S mode = (decide (2 ^ S < r * 2) || (decide (r * 2 = 2 ^ S) && decide (f % 2 = 1))) := by
  unfold upB; rw [if_neg h0, if_neg h1]
  congr 1
  · exact decide_eq_decide.2 (by show 0 < Int.sign _ ↔ _; rw [Int.sign_pos_iff]; omega)
  · congr 1
    exact decide_eq_decide.2 (by rw [Int.sign_eq_zero_iff_zero]; omega)
/-- All that the laws ask of the three roundings on a grid. -/
theorem grd_facts (q : Dyadic) (e : Int) : grd q e 0 ≤ q ∧ q ≤ grd q e 1 ∧ q - grd q e 0 < dof 1 e ∧ grd q e 1 - q < dof 1 e ∧ (grd q e 2 = grd q e 0 ∨ grd q e 2 = grd q e 1) ∧
    (q - grd q e 0 < grd q e 1 - q → grd q e 2 = grd q e 0) ∧ (grd q e 1 - q < q - grd q e 0 → grd q e 2 = grd q e 1) ∧ (grd q e 0 = q ↔ grd q e 0 = grd q e 1) ∧ (grd q e 0 ≠ q → grd q e 1 - grd q e 0 = dof 1 e) := by
  have h1e : 0 < dof 1 e := dof_pos.2 (by decide)
  rcases grd_cases q e with h | ⟨E, f, r, S, hS, he, hE, hq, hr0, hr1, hr2, h⟩
  · rw [h, h, h]; grind
  · have a0 := h 0
    have a1 := h 1
    have a2 := h 2
    rw [up0, if_neg (by decide), dof_up f e he] at a0
    rw [up1] at a1
    rw [up2 f r S (by decide) (by decide)] at a2
    rw [dof_up 1 e he, Int.one_mul]
    by_cases hz : r = 0
    · have hq0 : q = 0 := Classical.byContradiction fun c => by have := hr2 c; omega
      have hp : (0 : Int) < 2 ^ S := Int.pow_pos (by decide)
      rw [decide_eq_false (by omega), if_neg (by decide), dof_up f e he] at a1
      rw [decide_eq_false (by omega), decide_eq_false (show ¬ r * 2 = 2 ^ S by omega), Bool.false_and, Bool.or_false, if_neg (by decide), dof_up f e he] at a2
      rw [hz, Int.add_zero] at hq
      rw [a0, a1, a2, hq]
      have hpp : 0 < dof (2 ^ S) E := dof_pos.2 hp
      grind
    · have hr3 : 0 < r := by omega
      rw [decide_eq_true hr3, if_pos rfl, dof_up (f + 1) e he, Int.add_mul, Int.one_mul] at a1
      rw [a0, a1]
      refine ⟨by rw [hq, dof_le]; omega, by rw [hq, dof_le]; omega, by rw [hq, dof_sub, dof_lt]; omega, by rw [hq, dof_sub, dof_lt]; omega, ?_, ?_, ?_, ?_, ?_⟩
      · rw [a2]; split
        · right; rw [dof_up (f + 1) e he, Int.add_mul, Int.one_mul]
        · left; rw [dof_up f e he]
      · intro h
        rw [hq, dof_sub, dof_sub, dof_lt] at h
        rw [a2, decide_eq_false (by omega), decide_eq_false (show ¬ r * 2 = 2 ^ S by omega), Bool.false_and, Bool.or_false, if_neg (by decide), dof_up f e he]
      · intro h
        rw [hq, dof_sub, dof_sub, dof_lt] at h
        rw [a2, decide_eq_true (by omega), Bool.true_or, if_pos rfl, dof_up (f + 1) e he, Int.add_mul, Int.one_mul]
      · rw [hq, dof_inj, dof_inj]; omega
      · intro _; rw [dof_sub]; congr 1; omega
end Go.Ev

namespace Go.Ev
open Go

theorem dmul_le {a p q : Dyadic} (ha : 0 ≤ a) (h : p ≤ q) : a * p ≤ a * q := by
  rw [← Dyadic.toRat_le_toRat_iff, Dyadic.toRat_mul, Dyadic.toRat_mul]
  rw [← Dyadic.toRat_le_toRat_iff, Dyadic.toRat_zero] at ha
  rw [← Dyadic.toRat_le_toRat_iff] at h
  exact Rat.mul_le_mul_of_nonneg_left h ha
theorem dmul_lt {a p q : Dyadic} (ha : 0 < a) (h : p < q) : a * p < a * q := by
  have h1 := dmul_le (show (0 : Dyadic) ≤ a by grind) (show p ≤ q by grind)
  rcases Classical.em (a * p = a * q) with e | e
  · exfalso
    have h2 : a * (q - p) = 0 := by grind
    have h3 : dman a * dman (q - p) = 0 := by rw [← dman_mul, h2]; rfl
    rcases Int.mul_eq_zero.1 h3 with h4 | h4
    · have := dman_eq_zero.1 h4; grind
    · have := dman_eq_zero.1 h4; grind
  · grind
theorem dmul_le_iff {a p q : Dyadic} (ha : 0 < a) : a * p ≤ a * q ↔ p ≤ q := by
  constructor
  · intro h
    rcases Classical.em (p ≤ q) with e | e
    · exact e
    · have := dmul_lt ha (show q < p by grind); grind
  · exact dmul_le (by grind)
theorem dmul_lt_iff {a p q : Dyadic} (ha : 0 < a) : a * p < a * q ↔ p < q := by
  have := dmul_le_iff (p := q) (q := p) ha; grind
theorem dmul_inj {a p q : Dyadic} (ha : 0 < a) : a * p = a * q ↔ p = q := by
  constructor
  · intro h
    have h1 := (dmul_le_iff (p := p) (q := q) ha).1 (by grind)
    have h2 := (dmul_le_iff (p := q) (q := p) ha).1 (by grind)
    grind
  · intro h; rw [h]
theorem dmul_pos {p q : Dyadic} (hp : 0 < p) (hq : 0 < q) : 0 < p * q := by
  have := dmul_lt hp hq; rwa [Dyadic.mul_zero] at this
theorem dof_move (m e f : Int) : dof m e = dof (m * 2 ^ (e - f).toNat) (e - (e - f).toNat) := by
  rw [dof_shl]; congr 1; omega
theorem dof_le2 {m n e f : Int} : dof m e ≤ dof n f ↔ m * 2 ^ (e - f).toNat ≤ n * 2 ^ (f - e).toNat := by
  rw [dof_move m e f, dof_move n f e, show e - ((e - f).toNat : Int) = f - ((f - e).toNat : Int) by omega, dof_le]
theorem dof_lt2 {m n e f : Int} : dof m e < dof n f ↔ m * 2 ^ (e - f).toNat < n * 2 ^ (f - e).toNat := by
  rw [dof_move m e f, dof_move n f e, show e - ((e - f).toNat : Int) = f - ((f - e).toNat : Int) by omega, dof_lt]
theorem dof1_pos (e : Int) : 0 < dof 1 e := dof_pos.2 (by decide)
theorem dof1_le {a b : Int} : dof 1 a ≤ dof 1 b ↔ a ≤ b := by
  constructor
  · intro h
    rcases Int.lt_or_le b a with h1 | h1
    · rw [dof_le2, Int.one_mul, Int.one_mul, show (b - a).toNat = 0 by omega, Int.pow_zero] at h
      have h2 : (2 : Int) ^ 1 ≤ 2 ^ (a - b).toNat := by
        have := Nat.pow_le_pow_right (n := 2) (by decide) (show 1 ≤ (a - b).toNat by omega)
        exact_mod_cast this
      omega
    · exact h1
  · intro h
    rw [dof_le2, Int.one_mul, Int.one_mul, show (a - b).toNat = 0 by omega, Int.pow_zero]
    have : (0 : Int) < 2 ^ (b - a).toNat := Int.pow_pos (by decide)
    omega
theorem dof1_lt {a b : Int} : dof 1 a < dof 1 b ↔ a < b := by
  have := dof1_le (a := b) (b := a)
  rw [← Int.not_le, ← this]; grind
theorem dof1_mul (a b : Int) : dof 1 a * dof 1 b = dof 1 (a + b) := by rw [dof_mul]; rfl
theorem dabs_ge (q : Dyadic) : 0 ≤ dabs q := dabs_pos
theorem dabs_neg (q : Dyadic) : dabs (-q) = dabs q := by rw [dabs_eq, dabs_eq]; split <;> split <;> grind
theorem dabs_ne {q : Dyadic} (h : q ≠ 0) : 0 < dabs q := by
  have := dof_one_le h; have := dof1_pos (dtop q); grind
theorem dtop_uniq {q : Dyadic} {t : Int} (h1 : dof 1 t ≤ dabs q) (h2 : dabs q < dof 1 (t + 1)) : dtop q = t := by
  have h0 : q ≠ 0 := fun e => by rw [e] at h1; have := dof1_pos t; rw [show dabs 0 = 0 from rfl] at h1; grind
  have h3 := dof_one_le h0
  have h4 := lt_dof_one h0
  have h5 : dof 1 t < dof 1 (dtop q + 1) := by grind
  have h6 : dof 1 (dtop q) < dof 1 (t + 1) := by grind
  rw [dof1_lt] at h5 h6; omega
theorem Ht.lt_top {h : Nat} {q : Dyadic} (hq : Ht h q) : dabs q < Go.Ev.dof 1 (h : Int) := by
  obtain ⟨n, h1, rfl⟩ := hq
  rw [dabs_dof, show (h : Int) = -(h : Int) + ((2 * h : Nat) : Int) by omega, ← dof_shl, show -((-(h : Int) + ((2 * h : Nat) : Int) : Int)) = -(h : Int) by omega, dof_lt, Int.one_mul]
  have h2 : n.natAbs < 2 ^ (2 * h) := Zt.iff.1 h1
  exact_mod_cast h2
theorem dtop_bd {h : Nat} {q : Dyadic} (hq : Ht h q) : -(h : Int) ≤ dtop q ∧ dtop q ≤ h := by
  refine ⟨(dtop_bounds hq).1, ?_⟩
  by_cases h0 : q = 0
  · subst h0; show (0 : Int) ≤ h; omega
  · have h1 := dof_one_le h0
    have h2 := hq.lt_top
    have h3 : dof 1 (dtop q) < dof 1 (h : Int) := by grind
    rw [dof1_lt] at h3; omega
/-- The place of the topmost bit of a quotient. -/
def qtop (x y : Dyadic) : Int :=
  dtop x - dtop y - (if (dman x).natAbs * 2 ^ (-((nb (dman x).natAbs : Int) - nb (dman y).natAbs)).toNat < (dman y).natAbs * 2 ^ ((nb (dman x).natAbs : Int) - nb (dman y).natAbs).toNat then 1 else 0)
theorem qtop_neg (x y : Dyadic) : qtop (-x) (-y) = qtop x y := by
  unfold qtop; rw [dtop_neg, dtop_neg, dman_neg', dman_neg', Int.natAbs_neg, Int.natAbs_neg]
theorem qtop_spec {x y : Dyadic} (hx : x ≠ 0) (hy : y ≠ 0) : dabs y * dof 1 (qtop x y) ≤ dabs x ∧ dabs x < dabs y * dof 1 (qtop x y + 1) := by
  have x1 := dof_one_le hx
  have x2 := lt_dof_one hx
  have y1 := dof_one_le hy
  have y2 := lt_dof_one hy
  have py := dabs_ne hy
  have hc : ((dman x).natAbs * 2 ^ (-((nb (dman x).natAbs : Int) - nb (dman y).natAbs)).toNat < (dman y).natAbs * 2 ^ ((nb (dman x).natAbs : Int) - nb (dman y).natAbs).toNat) ↔ dabs x < dabs y * dof 1 (dtop x - dtop y) := by
    have e : dabs y * dof 1 (dtop x - dtop y) = dof (dman y).natAbs (dexp x + ((nb (dman x).natAbs : Int) - nb (dman y).natAbs)) := by
      unfold dabs
      rw [dof_mul, Int.mul_one, dtop_ne hx, dtop_ne hy]; congr 1; omega
    rw [e]
    unfold dabs
    rw [dof_lt2, show dexp x - (dexp x + ((nb (dman x).natAbs : Int) - nb (dman y).natAbs)) = -((nb (dman x).natAbs : Int) - nb (dman y).natAbs) by omega, show dexp x + ((nb (dman x).natAbs : Int) - nb (dman y).natAbs) - dexp x = (nb (dman x).natAbs : Int) - nb (dman y).natAbs by omega]
    norm_cast
  unfold qtop
  split
  · rename_i h
    have h := hc.1 h
    rw [show dtop x - dtop y - 1 + 1 = dtop x - dtop y by omega]
    refine ⟨?_, h⟩
    have h1 := dmul_lt (dof1_pos (dtop x - dtop y - 1)) y2
    rw [dof1_mul, show dtop x - dtop y - 1 + (dtop y + 1) = dtop x by omega, Dyadic.mul_comm] at h1
    grind
  · rename_i h
    have h := fun g => h (hc.2 g)
    rw [Int.sub_zero]
    refine ⟨by grind, ?_⟩
    have h1 := dmul_le (show 0 ≤ dof 1 (dtop x - dtop y + 1) by have := dof1_pos (dtop x - dtop y + 1); grind) y1
    rw [dof1_mul, show dtop x - dtop y + 1 + dtop y = dtop x + 1 by omega, Dyadic.mul_comm] at h1
    grind
/-- The exponent of the multiples that a quotient is rounded to. -/
def qexp (x y : Dyadic) (p : Int) : Int := qtop x y - min (max p 1) 4000 + 1
def qA (x y : Dyadic) (p : Int) : Int := dman x * 2 ^ (dexp x - dexp y - qexp x y p).toNat
def qB (x y : Dyadic) (p : Int) : Int := dman y * 2 ^ (-(dexp x - dexp y - qexp x y p)).toNat
def qpos (x y : Dyadic) (p mode : Int) : Dyadic := dof (if mode = 1 ∧ ¬ qA x y p % qB x y p = 0 then qA x y p / qB x y p + 1 else qA x y p / qB x y p) (qexp x y p)
/-- Divided, rounded to p bits. -/
def qdiv (x y : Dyadic) (p mode : Int) : Dyadic := if y = 0 then 0 else if x = 0 then 0 else if y < 0 then qpos (-x) (-y) p mode else qpos x y p mode
theorem qAB (x y : Dyadic) (p : Int) : ∃ g : Int, x = dof (qA x y p) g ∧ ∀ f : Int, y * dof f (qexp x y p) = dof (qB x y p * f) g := by
  refine ⟨dexp x - (dexp x - dexp y - qexp x y p).toNat, ?_, fun f => ?_⟩
  · unfold qA; rw [dof_shl, Int.sub_add_cancel, dof_self]
  · have e : y = dof (qB x y p) (dexp y - (-(dexp x - dexp y - qexp x y p)).toNat) := by
      unfold qB; rw [dof_shl, Int.sub_add_cancel, dof_self]
    generalize hE : qexp x y p = E at *
    generalize qB x y p = B at *
    have e2 : y * dof f E = dof B (dexp y - (-(dexp x - dexp y - E)).toNat) * dof f E := congrArg (· * dof f E) e
    rw [e2, dof_mul]
    congr 1; omega
/-- The quotient between two neighbours. -/
theorem qpos_spec {x y : Dyadic} (p mode : Int) (hy : 0 < y) : ∃ f : Int, y * dof f (qexp x y p) ≤ x ∧ x < y * dof (f + 1) (qexp x y p) ∧ qpos x y p mode = if mode = 1 ∧ ¬ y * dof f (qexp x y p) = x then dof (f + 1) (qexp x y p) else dof f (qexp x y p) := by
  obtain ⟨g, h1, h2⟩ := qAB x y p
  have hB : 0 < qB x y p := by unfold qB; exact Int.mul_pos (dman_pos.2 hy) (Int.pow_pos (by decide))
  have h3 := Int.mul_ediv_add_emod (qA x y p) (qB x y p)
  have h4 := Int.emod_nonneg (qA x y p) (Int.ne_of_gt hB)
  have h5 := Int.emod_lt_of_pos (qA x y p) hB
  refine ⟨qA x y p / qB x y p, ?_, ?_, ?_⟩
  · rw [h2]; conv => rhs; rw [h1]
    rw [dof_le]; omega
  · rw [h2]; conv => lhs; rw [h1]
    rw [dof_lt, Int.mul_add, Int.mul_one]; omega
  · have e : (qA x y p % qB x y p = 0) ↔ y * dof (qA x y p / qB x y p) (qexp x y p) = x := by
      rw [h2]; conv => rhs; rhs; rw [h1]
      rw [dof_inj]; omega
    unfold qpos
    by_cases c : mode = 1 ∧ ¬ qA x y p % qB x y p = 0
    · rw [if_pos c, if_pos ⟨c.1, fun h => c.2 (e.2 h)⟩]
    · rw [if_neg c, if_neg (fun h => c ⟨h.1, fun k => h.2 (e.1 k)⟩)]
theorem dabs_lt_iff {p q : Dyadic} : dabs p < q ↔ p < q ∧ -p < q := by rw [dabs_eq]; split <;> grind
theorem pow_dof (P e : Int) (hP : 0 ≤ P) : dof (2 ^ P.toNat) e = dof 1 (e + P) := by
  have := dof_shl 1 e P.toNat
  rw [Int.one_mul, show ((P.toNat : Nat) : Int) = P by omega] at this
  exact this
/-- The multiple below is of p bits. -/
theorem qfl_bd {x y : Dyadic} {p f : Int} (hx : x ≠ 0) (hy : 0 < y) (h1 : y * dof f (qexp x y p) ≤ x) (h2 : x < y * dof (f + 1) (qexp x y p)) :
    f < 2 ^ (min (max p 1) 4000).toNat ∧ -(2 ^ (min (max p 1) 4000).toNat : Int) ≤ f ∧ (0 < x → 2 ^ (min (max p 1) 4000 - 1).toNat ≤ f) ∧ (x < 0 → f ≤ -(2 ^ (min (max p 1) 4000 - 1).toNat : Int) ∧ (¬ y * dof f (qexp x y p) = x → f + 1 ≤ -(2 ^ (min (max p 1) 4000 - 1).toNat : Int))) := by
  have hy0 : y ≠ 0 := by grind
  obtain ⟨a1, a2⟩ := qtop_spec hx hy0
  have ey : dabs y = y := by rw [dabs_eq, if_neg (by grind)]
  rw [ey] at a1 a2
  have e1 : dof (2 ^ (min (max p 1) 4000).toNat) (qexp x y p) = dof 1 (qtop x y + 1) := by
    rw [pow_dof _ _ (by omega)]; unfold qexp; congr 1; omega
  have e2 : dof (2 ^ (min (max p 1) 4000 - 1).toNat) (qexp x y p) = dof 1 (qtop x y) := by
    rw [pow_dof _ _ (by omega)]; unfold qexp; congr 1; omega
  rw [← e1] at a2
  rw [← e2] at a1
  generalize (2 : Int) ^ (min (max p 1) 4000).toNat = K at *
  generalize (2 : Int) ^ (min (max p 1) 4000 - 1).toNat = L at *
  obtain ⟨b1, b2⟩ := dabs_lt_iff.1 a2
  refine ⟨?_, ?_, ?_, ?_⟩
  · have h3 : y * dof f (qexp x y p) < y * dof K (qexp x y p) := by grind
    rwa [dmul_lt_iff hy, dof_lt] at h3
  · have h3 : y * dof (-K) (qexp x y p) < y * dof (f + 1) (qexp x y p) := by
      rw [← dof_neg]; grind
    rw [dmul_lt_iff hy, dof_lt] at h3; omega
  · intro h
    rw [dabs_eq, if_neg (by grind)] at a1
    have h3 : y * dof L (qexp x y p) < y * dof (f + 1) (qexp x y p) := by grind
    rw [dmul_lt_iff hy, dof_lt] at h3; omega
  · intro h
    rw [dabs_eq, if_pos h] at a1
    have h4 : x ≤ y * dof (-L) (qexp x y p) := by rw [← dof_neg]; grind
    have h3 : y * dof f (qexp x y p) ≤ y * dof (-L) (qexp x y p) := by grind
    rw [dmul_le_iff hy, dof_le] at h3
    refine ⟨h3, fun hn => ?_⟩
    rcases Classical.em (f = -L) with c | c
    · rw [c] at h1 hn; exfalso; grind
    · omega
theorem qdiv_pos {x y : Dyadic} (p mode : Int) (hx : x ≠ 0) (hy : 0 < y) : qdiv x y p mode = qpos x y p mode := by
  unfold qdiv; rw [if_neg (by grind), if_neg hx, if_neg (by grind)]
theorem qdiv_neg {x y : Dyadic} (p mode : Int) (hx : x ≠ 0) (hy : y < 0) : qdiv x y p mode = qpos (-x) (-y) p mode := by
  unfold qdiv; rw [if_neg (by grind), if_neg hx, if_pos hy]
theorem qpos_lo {x y : Dyadic} (p : Int) (hy : 0 < y) : y * qpos x y p 0 ≤ x := by
  obtain ⟨f, h1, h2, h3⟩ := qpos_spec (x := x) p 0 hy
  rw [h3, if_neg (fun h => absurd h.1 (by decide))]; exact h1
theorem qpos_hi {x y : Dyadic} (p : Int) (hy : 0 < y) : x ≤ y * qpos x y p 1 := by
  obtain ⟨f, h1, h2, h3⟩ := qpos_spec (x := x) p 1 hy
  rw [h3]
  by_cases c : y * dof f (qexp x y p) = x
  · rw [if_neg (fun h => h.2 c)]; grind
  · rw [if_pos ⟨rfl, c⟩]; grind
theorem qpos_sign {x y : Dyadic} (p mode : Int) (hy : 0 < y) : (0 < x → 0 < qpos x y p mode) ∧ (x < 0 → qpos x y p mode < 0) := by
  obtain ⟨f, h1, h2, h3⟩ := qpos_spec (x := x) p mode hy
  rw [h3]
  have hL : (0 : Int) < 2 ^ (min (max p 1) 4000 - 1).toNat := Int.pow_pos (by decide)
  constructor
  · intro h
    obtain ⟨_, _, g, _⟩ := qfl_bd (p := p) (by grind) hy h1 h2
    have g := g h
    split <;> (rw [dof_pos]; omega)
  · intro h
    obtain ⟨_, _, _, g⟩ := qfl_bd (p := p) (by grind) hy h1 h2
    obtain ⟨g1, g2⟩ := g h
    split
    · rename_i c
      have := g2 c.2
      rw [dof_lt_zero]; omega
    · rw [dof_lt_zero]; omega
theorem qdiv_zero (y : Dyadic) (p mode : Int) : qdiv 0 y p mode = 0 := by
  unfold qdiv
  split
  · rfl
  · first | rfl | rw [if_pos rfl]
theorem qdiv_lo {x y : Dyadic} (p : Int) : (0 < y → y * qdiv x y p 0 ≤ x) ∧ (y < 0 → x ≤ y * qdiv x y p 0) := by
  by_cases hx : x = 0
  · have e : qdiv x y p 0 = 0 := by rw [hx]; exact qdiv_zero y p 0
    rw [e, Dyadic.mul_zero, hx]; grind
  constructor
  · intro h; rw [qdiv_pos p 0 hx h]; exact qpos_lo p h
  · intro h; rw [qdiv_neg p 0 hx h]; have := qpos_lo (x := -x) p (show 0 < -y by grind); grind
theorem qdiv_hi {x y : Dyadic} (p : Int) : (0 < y → x ≤ y * qdiv x y p 1) ∧ (y < 0 → y * qdiv x y p 1 ≤ x) := by
  by_cases hx : x = 0
  · have e : qdiv x y p 1 = 0 := by rw [hx]; exact qdiv_zero y p 1
    rw [e, Dyadic.mul_zero, hx]; grind
  constructor
  · intro h; rw [qdiv_pos p 1 hx h]; exact qpos_hi p h
  · intro h; rw [qdiv_neg p 1 hx h]; have := qpos_hi (x := -x) p (show 0 < -y by grind); grind
theorem qdiv_sign {x y : Dyadic} (p mode : Int) (hx : 0 < x) : (0 < y → 0 < qdiv x y p mode) ∧ (y < 0 → qdiv x y p mode < 0) := by
  constructor
  · intro h; rw [qdiv_pos p mode (by grind) h]; exact (qpos_sign p mode h).1 hx
  · intro h; rw [qdiv_neg p mode (by grind) h]; exact (qpos_sign p mode (show 0 < -y by grind)).2 (by grind)
theorem qtop_bd {a b : Nat} {x y : Dyadic} (hx : Ht a x) (hy : Ht b y) : -(a + b + 1 : Int) ≤ qtop x y ∧ qtop x y ≤ a + b := by
  have h1 := dtop_bd hx
  have h2 := dtop_bd hy
  unfold qtop
  split <;> omega
theorem zt_pow_le {k : Nat} {f : Int} (h1 : f ≤ 2 ^ k) (h2 : -(2 ^ k : Int) ≤ f) : Zt (k + 1) f := by
  rw [Zt.iff]
  have e : (2 : Nat) ^ (k + 1) = 2 ^ k + 2 ^ k := by rw [Nat.pow_succ]; omega
  have h3 : 0 < 2 ^ k := Nat.pow_pos (by decide)
  have h4 : (2 : Int) ^ k = ((2 ^ k : Nat) : Int) := by rw [Int.natCast_pow]; rfl
  rw [h4] at h1 h2
  omega
theorem qpos_ht {a b K : Nat} {x y : Dyadic} {p : Int} (mode : Int) (hx0 : x ≠ 0) (hy0 : 0 < y) (hx : Ht a x) (hy : Ht b y) (hp : min (max p 1) 4000 ≤ K) : Ht (a + b + 2 * K + 3) (qpos x y p mode) := by
  obtain ⟨f, h1, h2, h3⟩ := qpos_spec (x := x) p mode hy0
  obtain ⟨g1, g2, _, _⟩ := qfl_bd (p := p) hx0 hy0 h1 h2
  obtain ⟨t1, t2⟩ := qtop_bd hx hy
  have he : -((a + b + K + 1 : Nat) : Int) ≤ qexp x y p ∧ qexp x y p ≤ ((a + b + K + 1 : Nat) : Int) := by unfold qexp; omega
  have hK : (min (max p 1) 4000).toNat + 1 ≤ K + 1 := by omega
  rw [h3]
  split
  · exact Ht.dof ((zt_pow_le (by omega) (by omega)).mono hK) he.1 he.2 (by omega)
  · exact Ht.dof ((zt_pow_le (by omega) (by omega)).mono hK) he.1 he.2 (by omega)
theorem qdiv_ht {a b K : Nat} {x y : Dyadic} {p : Int} (mode : Int) (hx : Ht a x) (hy : Ht b y) (hp : min (max p 1) 4000 ≤ K) : Ht (a + b + 2 * K + 3) (qdiv x y p mode) := by
  unfold qdiv
  split
  · exact .zero _
  · split
    · exact .zero _
    · split
      · exact qpos_ht mode (by grind) (by grind) hx.neg hy.neg hp
      · exact qpos_ht mode (by grind) (by grind) hx hy hp
/- BY A QUOTIENT OF MORE BITS AND ONE FOR WHAT IS LEFT -/
theorem grd_on (q : Dyadic) (e mode : Int) : ∃ k : Int, grd q e mode = dof k e := by
  unfold grd
  split
  · rename_i h
    refine ⟨dman q * 2 ^ (dexp q - e).toNat, ?_⟩
    rw [dof_shl, show e + ((dexp q - e).toNat : Int) = dexp q by omega, dof_self]
  · exact ⟨_, rfl⟩
theorem dof_step (f e : Int) : dof (f + 1) e = dof f e + dof 1 e := (dof_add f 1 e).symm
theorem grd_uniq {q : Dyadic} {e f : Int} (h1 : dof f e ≤ q) (h2 : q < dof (f + 1) e) : grd q e 0 = dof f e ∧ grd q e 1 = if dof f e = q then dof f e else dof (f + 1) e := by
  obtain ⟨g1, g2, g3, g4, _⟩ := grd_facts q e
  obtain ⟨k, hk⟩ := grd_on q e 0
  obtain ⟨j, hj⟩ := grd_on q e 1
  rw [hk] at g1 g3 ⊢
  rw [hj] at g2 g4 ⊢
  have s1 := dof_step k e
  have s2 := dof_step (j - 1) e
  rw [Int.sub_add_cancel] at s2
  have a1 : dof f e < dof (k + 1) e := by grind
  have a2 : dof k e < dof (f + 1) e := by grind
  rw [dof_lt] at a1 a2
  refine ⟨by congr 1; omega, ?_⟩
  have a3 : dof (j - 1) e < q := by grind
  by_cases c : dof f e = q
  · rw [if_pos c]
    have a4 : dof f e ≤ dof j e := by grind
    have a5 : dof (j - 1) e < dof f e := by grind
    rw [dof_le] at a4
    rw [dof_lt] at a5
    congr 1; omega
  · rw [if_neg c]
    have a4 : dof f e < dof j e := by grind
    have a5 : dof (j - 1) e < dof (f + 1) e := by grind
    rw [dof_lt] at a4 a5
    congr 1; omega
/-- A quotient, downwards, twice, and one more where something is left. -/
def stN (X Y n : Nat) : Nat := 2 * (X * 2 ^ n / Y) + (if X * 2 ^ n % Y = 0 then 0 else 1)
theorem stN_le {X Y n : Nat} (hY : 0 < Y) (K : Int) : (2 * K ≤ stN X Y n ↔ K * Y ≤ ((X * 2 ^ n : Nat) : Int)) ∧ ((stN X Y n : Int) ≤ 2 * K ↔ ((X * 2 ^ n : Nat) : Int) ≤ K * Y) := by
  unfold stN
  generalize X * 2 ^ n = N
  have h1 := Nat.div_add_mod N Y
  have h2 := Nat.mod_lt N hY
  generalize N / Y = Q at *
  generalize N % Y = r at *
  subst h1
  have e1 : ((Y * Q + r : Nat) : Int) = Y * Q + r := by push_cast; rfl
  rw [e1]
  have hY' : (0 : Int) < Y := by omega
  have key : ∀ d : Int, (0 ≤ d → 0 ≤ d * (Y : Int)) ∧ (d ≤ -1 → d * (Y : Int) ≤ -Y) ∧ (1 ≤ d → (Y : Int) ≤ d * Y) := fun d => by
    refine ⟨fun h => Int.mul_nonneg h (by omega), fun h => ?_, fun h => ?_⟩
    · have := Int.mul_le_mul_of_nonneg_right h (show (0 : Int) ≤ Y by omega)
      rwa [Int.neg_one_mul] at this
    · have := Int.mul_le_mul_of_nonneg_right h (show (0 : Int) ≤ Y by omega)
      rwa [Int.one_mul] at this
  have e2 : K * (Y : Int) = Y * Q + (K - Q) * Y := by rw [Int.sub_mul, Int.mul_comm (Y : Int)]; omega
  rw [e2]
  obtain ⟨k1, k2, k3⟩ := key (K - Q)
  constructor
  · constructor
    · intro h
      rcases Int.lt_trichotomy (K - Q) 0 with c | c | c
      · have := k2 (by omega); omega
      · rw [c]; omega
      · split at h <;> omega
    · intro h
      rcases Int.lt_trichotomy (K - Q) 0 with c | c | c
      · split <;> omega
      · split <;> omega
      · have := k3 (by omega); omega
  · constructor
    · intro h
      rcases Int.lt_trichotomy (K - Q) 0 with c | c | c
      · split at h <;> omega
      · rw [c]; split at h <;> omega
      · have := k3 (by omega); omega
    · intro h
      rcases Int.lt_trichotomy (K - Q) 0 with c | c | c
      · have := k2 (by omega); omega
      · rw [c] at h; rw [if_pos (by omega)]; omega
      · split <;> omega
/-- The sticky quotient. -/
def stD (x y : Dyadic) (n : Nat) : Dyadic := dof (if (zneg (dman x) != zneg (dman y)) = true then -(stN (dman x).natAbs (dman y).natAbs n : Int) else stN (dman x).natAbs (dman y).natAbs n) (dexp x - dexp y - n - 1)
theorem stD_pos {x y : Dyadic} {n : Nat} (hx : 0 < x) (hy : 0 < y) (k : Int) {E : Int} (hE : dexp x - dexp y - n ≤ E) :
    (dof k E ≤ stD x y n ↔ y * dof k E ≤ x) ∧ (stD x y n ≤ dof k E ↔ x ≤ y * dof k E) := by
  have h1 := dman_pos.2 hx
  have h2 := dman_pos.2 hy
  have z : (zneg (dman x) != zneg (dman y)) = false := by
    unfold zneg; rw [decide_eq_false (by omega), decide_eq_false (by omega)]; rfl
  obtain ⟨j, hj⟩ : ∃ j : Nat, E = dexp x - dexp y - n + j := ⟨(E - (dexp x - dexp y - n)).toNat, by omega⟩
  have g1 : dof k E = dof (2 * (k * 2 ^ j)) (dexp x - dexp y - n - 1) := by
    rw [Int.mul_comm 2, show k * 2 ^ j * 2 = k * 2 ^ j * 2 ^ 1 from rfl, dof_shl, dof_shl, hj]; congr 1; omega
  have g2 : y * dof k E = dof (k * 2 ^ j * (dman y).natAbs) (dexp x - n) := by
    rw [hj, ← dof_shl]
    conv => lhs; lhs; rw [← dof_self y]
    rw [dof_mul, show ((dman y).natAbs : Int) = dman y by omega, Int.mul_comm]; congr 1; omega
  have g3 : x = dof (((dman x).natAbs * 2 ^ n : Nat) : Int) (dexp x - n) := by
    rw [Int.natCast_mul, Int.natCast_pow, show ((2 : Nat) : Int) = 2 from rfl, dof_shl, show ((dman x).natAbs : Int) = dman x by omega, Int.sub_add_cancel, dof_self]
  obtain ⟨s1, s2⟩ := stN_le (X := (dman x).natAbs) (n := n) (show 0 < (dman y).natAbs by omega) (k * 2 ^ j)
  unfold stD
  rw [z, if_neg (by decide), g2, g1]
  conv => lhs; rhs; rhs; rw [g3]
  conv => rhs; rhs; lhs; rw [g3]
  rw [dof_le, dof_le, dof_le, dof_le]
  exact ⟨s1, s2⟩
theorem stD_neg {x y : Dyadic} {n : Nat} (hx : x ≠ 0) (hy : y ≠ 0) : stD (-x) y n = -stD x y n ∧ stD (-x) (-y) n = stD x y n := by
  have h1 : ∀ q : Dyadic, q ≠ 0 → zneg (dman (-q)) = !zneg (dman q) := fun q hq => by
    have h : dman q ≠ 0 := fun e => hq (dman_eq_zero.1 e)
    rw [dman_neg']; unfold zneg
    by_cases c : dman q < 0
    · rw [decide_eq_true c, decide_eq_false (show ¬ -dman q < 0 by omega)]; rfl
    · rw [decide_eq_false c, decide_eq_true (show -dman q < 0 by omega)]; rfl
  unfold stD
  rw [h1 x hx, h1 y hy, dman_neg', dman_neg', Int.natAbs_neg, Int.natAbs_neg, dexp_neg, dexp_neg]
  constructor
  · rw [dof_neg]; congr 1
    cases zneg (dman x) <;> cases zneg (dman y) <;> simp
  · congr 1
    cases zneg (dman x) <;> cases zneg (dman y) <;> simp
theorem stD_le {x y : Dyadic} {n : Nat} (hx : x ≠ 0) (hy : 0 < y) (k : Int) {E : Int} (hE : dexp x - dexp y - n ≤ E) :
    (dof k E ≤ stD x y n ↔ y * dof k E ≤ x) ∧ (stD x y n ≤ dof k E ↔ x ≤ y * dof k E) := by
  rcases Classical.em (0 < x) with h | h
  · exact stD_pos h hy k hE
  · have h2 := stD_pos (x := -x) (n := n) (by grind) hy (-k) (E := E) (by rw [dexp_neg]; exact hE)
    rw [(stD_neg hx (by grind)).1, ← dof_neg] at h2
    have e : y * -dof k E = -(y * dof k E) := by grind
    rw [e] at h2
    constructor
    · rw [show dof k E ≤ stD x y n ↔ -stD x y n ≤ -dof k E by grind, h2.2]; grind
    · rw [show stD x y n ≤ dof k E ↔ -dof k E ≤ -stD x y n by grind, h2.1]; grind
theorem stD_top {x y : Dyadic} {n : Nat} (hx : x ≠ 0) (hy : 0 < y) (hn : dexp x - dexp y - n ≤ qtop x y) : dtop (stD x y n) = qtop x y := by
  have main : ∀ x : Dyadic, 0 < x → dexp x - dexp y - n ≤ qtop x y → dtop (stD x y n) = qtop x y := fun x hx hn => by
    have h0 : x ≠ 0 := by grind
    obtain ⟨a1, a2⟩ := qtop_spec h0 (show y ≠ 0 by grind)
    rw [dabs_eq, if_neg (by grind), dabs_eq, if_neg (by grind)] at a1 a2
    have b1 := (stD_le (n := n) h0 hy 1 hn).1.2 a1
    have b2 := (stD_le (n := n) h0 hy 1 (E := qtop x y + 1) (by omega)).1
    have p := dof1_pos (qtop x y)
    have b3 : stD x y n < dof 1 (qtop x y + 1) := by grind
    refine dtop_uniq ?_ ?_
    · rw [dabs_eq, if_neg (by grind)]; exact b1
    · rw [dabs_eq, if_neg (by grind)]; exact b3
  rcases Classical.em (0 < x) with h | h
  · exact main x h hn
  · have h2 := main (-x) (by grind) (by
      have e : qtop (-x) y = qtop x y := by unfold qtop; rw [dtop_neg, dman_neg', Int.natAbs_neg]
      rw [e, dexp_neg]; exact hn)
    rw [(stD_neg hx (by grind)).1, dtop_neg] at h2
    rw [h2]; unfold qtop; rw [dtop_neg, dman_neg', Int.natAbs_neg]
/-- Rounded it is the quotient rounded. -/
theorem stD_grd {x y : Dyadic} {n : Nat} {p : Int} (mode : Int) (hx : x ≠ 0) (hy : 0 < y) (hn : dexp x - dexp y - n ≤ qexp x y p) : grd (stD x y n) (qexp x y p) (if mode = 1 then 1 else 0) = qpos x y p mode := by
  obtain ⟨f, h1, h2, h3⟩ := qpos_spec (x := x) p mode hy
  obtain ⟨s1, s2⟩ := stD_le hx hy f hn
  have s3 := (stD_le hx hy (f + 1) hn).1
  obtain ⟨g0, g1⟩ := grd_uniq (s1.2 h1) (show stD x y n < dof (f + 1) (qexp x y p) by grind)
  have e : dof f (qexp x y p) = stD x y n ↔ y * dof f (qexp x y p) = x := by grind
  rw [h3]
  by_cases c : mode = 1
  · rw [if_pos c, g1]
    by_cases c2 : y * dof f (qexp x y p) = x
    · rw [if_pos (e.2 c2), if_neg (fun h => h.2 c2)]
    · rw [if_neg (fun h => c2 (e.1 h)), if_pos ⟨c, c2⟩]
  · rw [if_neg c, g0, if_neg (fun h => c h.1)]
end Go.Ev

namespace Go.Ev
open Go

theorem dmul_neg_le {a p q : Dyadic} (ha : a ≤ 0) (h : p ≤ q) : a * q ≤ a * p := by
  have := dmul_le (show 0 ≤ -a by grind) h
  grind
/-- A product lies between those by ends. -/
theorem mul_btw {a b p : Dyadic} (q : Dyadic) (h1 : a ≤ p) (h2 : p ≤ b) : mn (a * q) (b * q) ≤ p * q ∧ p * q ≤ mx (a * q) (b * q) := by
  rw [Dyadic.mul_comm a, Dyadic.mul_comm b, Dyadic.mul_comm p]
  rcases Classical.em (0 ≤ q) with h | h
  · have h3 := dmul_le h h1
    have h4 := dmul_le h h2
    unfold mn mx; grind
  · have h3 := dmul_neg_le (show q ≤ 0 by grind) h1
    have h4 := dmul_neg_le (show q ≤ 0 by grind) h2
    unfold mn mx; grind
theorem ihas_iff {z : Cq} {d : Dyadic} : ihas z d ↔ z.1 ≤ d ∧ d ≤ z.2 := Iff.rfl
theorem iin_iff {z w : Cq} : iin z w ↔ w.1 ≤ z.1 ∧ z.2 ≤ w.2 := Iff.rfl
theorem iin_refl (z : Cq) : iin z z := by unfold iin; grind
theorem iin_of_ends {z w : Cq} (h1 : ihas w z.1) (h2 : ihas w z.2) : iin z w := ⟨h1.1, h2.2⟩
theorem ihas_l {z : Cq} (h : Ord z) : ihas z z.1 := by unfold Ord at h; unfold ihas; grind
theorem ihas_r {z : Cq} (h : Ord z) : ihas z z.2 := by unfold Ord at h; unfold ihas; grind
theorem iin_has {z w : Cq} {d : Dyadic} (h : iin z w) (k : ihas z d) : ihas w d := by unfold iin at h; unfold ihas at *; grind
theorem iin_trans {u v w : Cq} (h : iin u v) (k : iin v w) : iin u w := by unfold iin at *; grind
theorem ihas_ord {z : Cq} {d : Dyadic} (h : ihas z d) : Ord z := by unfold ihas at h; unfold Ord; grind
theorem ihas_add {z w : Cq} {a b : Dyadic} (h : ihas z a) (k : ihas w b) : ihas (iadd z w) (a + b) := by unfold ihas iadd at *; dsimp only; grind
theorem ihas_neg {z : Cq} {a : Dyadic} (h : ihas z a) : ihas (ineg z) (-a) := by unfold ihas ineg at *; dsimp only; grind
theorem ihas_sub {z w : Cq} {a b : Dyadic} (h : ihas z a) (k : ihas w b) : ihas (isub z w) (a - b) := by
  have := ihas_add h (ihas_neg k)
  rwa [show a + -b = a - b by grind] at this
theorem ihas_mul {z w : Cq} {a b : Dyadic} (h : ihas z a) (k : ihas w b) : ihas (imul z w) (a * b) := by
  obtain ⟨h1, h2⟩ := h
  obtain ⟨k1, k2⟩ := k
  have m1 := mul_btw b h1 h2
  have m2 := mul_btw z.1 k1 k2
  have m3 := mul_btw z.2 k1 k2
  rw [Dyadic.mul_comm w.1 z.1, Dyadic.mul_comm w.2 z.1, Dyadic.mul_comm b z.1] at m2
  rw [Dyadic.mul_comm w.1 z.2, Dyadic.mul_comm w.2 z.2, Dyadic.mul_comm b z.2] at m3
  unfold ihas imul; dsimp only
  generalize z.1 * w.1 = a1 at *
  generalize z.1 * w.2 = a2 at *
  generalize z.2 * w.1 = a3 at *
  generalize z.2 * w.2 = a4 at *
  generalize z.1 * b = b1 at *
  generalize z.2 * b = b2 at *
  generalize a * b = c at *
  obtain ⟨p1, p2⟩ := m1
  obtain ⟨p3, p4⟩ := m2
  obtain ⟨p5, p6⟩ := m3
  have q1 := mn_le_l (mn a1 a2) (mn a3 a4)
  have q2 := mn_le_r (mn a1 a2) (mn a3 a4)
  have q3 := le_mx_l (mx a1 a2) (mx a3 a4)
  have q4 := le_mx_r (mx a1 a2) (mx a3 a4)
  have q5 := mn_or b1 b2
  have q6 := mx_or b1 b2
  constructor
  · rcases q5 with e | e <;> rw [e] at p1 <;> grind
  · rcases q6 with e | e <;> rw [e] at p2 <;> grind
theorem ihas_abs {z : Cq} {a : Dyadic} (h : ihas z a) : ihas (iabs z) (dabs a) := by
  rw [iabs_of (ihas_ord h)]
  obtain ⟨h1, h2⟩ := h
  rw [dabs_eq]
  unfold ihas ineg mx
  split
  · split <;> grind
  · split
    · split <;> dsimp only <;> grind
    · split <;> dsimp only <;> grind
theorem ihas_hull_l {z : Cq} (w : Cq) {a : Dyadic} (h : ihas z a) : ihas (ihull z w) a := by
  unfold ihas ihull at *; dsimp only
  have := mn_le_l z.1 w.1
  have := le_mx_l z.2 w.2
  grind
theorem ihas_hull_r (z : Cq) {w : Cq} {a : Dyadic} (h : ihas w a) : ihas (ihull z w) a := by
  unfold ihas ihull at *; dsimp only
  have := mn_le_r z.1 w.1
  have := le_mx_r z.2 w.2
  grind
/- POWERS -/
theorem dpow_nonneg {a : Dyadic} (h : 0 ≤ a) : ∀ n : Nat, 0 ≤ a ^ n
  | 0 => by rw [Dyadic.pow_zero]; decide
  | n + 1 => by
    rw [Dyadic.pow_succ]
    have := dmul_le (dpow_nonneg h n) h
    rwa [Dyadic.mul_zero] at this
theorem dpow_mono {a b : Dyadic} (h : 0 ≤ a) (k : a ≤ b) : ∀ n : Nat, a ^ n ≤ b ^ n
  | 0 => by rw [Dyadic.pow_zero, Dyadic.pow_zero]; grind
  | n + 1 => by
    rw [Dyadic.pow_succ, Dyadic.pow_succ]
    have h1 := dmul_le (dpow_nonneg h n) k
    have h2 := dmul_le (show 0 ≤ b by grind) (dpow_mono h k n)
    rw [Dyadic.mul_comm b, Dyadic.mul_comm b] at h2
    grind
theorem dpow_neg (a : Dyadic) : ∀ n : Nat, (-a) ^ (2 * n) = a ^ (2 * n) ∧ (-a) ^ (2 * n + 1) = -a ^ (2 * n + 1)
  | 0 => by rw [Nat.mul_zero, Dyadic.pow_succ, Dyadic.pow_succ, Dyadic.pow_zero, Dyadic.pow_zero]; grind
  | n + 1 => by
    obtain ⟨h1, h2⟩ := dpow_neg a n
    have e : ∀ b : Dyadic, b ^ (2 * (n + 1)) = b ^ (2 * n + 1) * b := fun b => by rw [← Dyadic.pow_succ]; congr 1
    have h3 : (-a) ^ (2 * (n + 1)) = a ^ (2 * (n + 1)) := by rw [e, e, h2]; grind
    refine ⟨h3, ?_⟩
    rw [Dyadic.pow_succ, Dyadic.pow_succ, h3]; grind
theorem dpow_even (a : Dyadic) {n : Nat} (h : n % 2 = 0) : dabs a ^ n = a ^ n := by
  rw [dabs_eq]; split
  · have := (dpow_neg a (n / 2)).1
    rwa [show 2 * (n / 2) = n by omega] at this
  · rfl
theorem dpow_odd_mono {a b : Dyadic} (k : a ≤ b) {n : Nat} (h : n % 2 = 1) : a ^ n ≤ b ^ n := by
  have e1 := (dpow_neg a (n / 2)).2
  have e2 := (dpow_neg b (n / 2)).2
  rw [show 2 * (n / 2) + 1 = n by omega] at e1 e2
  rcases Classical.em (0 ≤ a) with h1 | h1
  · exact dpow_mono h1 k n
  · rcases Classical.em (b ≤ 0) with h2 | h2
    · have := dpow_mono (show 0 ≤ -b by grind) (show -b ≤ -a by grind) n
      rw [e1, e2] at this; grind
    · have h3 := dpow_nonneg (show 0 ≤ -a by grind) n
      have h4 := dpow_nonneg (show 0 ≤ b by grind) n
      rw [e1] at h3; grind
theorem ihas_pow {z : Cq} {a : Dyadic} (n : Int) (h : ihas z a) : ihas (ipow z n) (a ^ clampP n) := by
  unfold ipow
  split
  · rename_i h2
    obtain ⟨h3, h4⟩ := ihas_abs h
    rw [← dpow_even a h2]
    exact ⟨dpow_mono (iabs_ge (ihas_ord h)) h3 _, dpow_mono dabs_pos h4 _⟩
  · rename_i h2
    exact ⟨dpow_odd_mono h.1 (by omega), dpow_odd_mono h.2 (by omega)⟩
theorem ipow_ord {z : Cq} (n : Int) (h : Ord z) : Ord (ipow z n) := ihas_ord (ihas_pow n (ihas_l h))
theorem ipow_even_ge {z : Cq} {n : Int} (h : Ord z) (he : clampP n % 2 = 0) : 0 ≤ (ipow z n).1 := by
  unfold ipow; rw [if_pos he]; exact dpow_nonneg (iabs_ge h) _
/- LESS THAN AN INTERVAL -/
theorem iin_add {w x : Cq} (z : Cq) (h : iin w x) : iin (iadd w z) (iadd x z) := by unfold iin iadd at *; dsimp only; grind
theorem iin_neg {w x : Cq} (h : iin w x) : iin (ineg w) (ineg x) := by unfold iin ineg at *; dsimp only; grind
theorem iin_sub {w x : Cq} (z : Cq) (h : iin w x) : iin (isub z w) (isub z x) := by unfold iin isub iadd ineg at *; dsimp only; grind
theorem iin_sub_l {w x : Cq} (z : Cq) (h : iin w x) : iin (isub w z) (isub x z) := by unfold iin isub iadd ineg at *; dsimp only; grind
theorem imul_ends (z w : Cq) : ∀ {P : Dyadic → Prop}, P (z.1 * w.1) → P (z.1 * w.2) → P (z.2 * w.1) → P (z.2 * w.2) → P (imul z w).1 ∧ P (imul z w).2 := by
  intro P h1 h2 h3 h4
  unfold imul; dsimp only
  have m : ∀ a b : Dyadic, P a → P b → P (mn a b) ∧ P (mx a b) := fun a b ha hb => by unfold mn mx; split <;> split <;> exact ⟨by assumption, by assumption⟩
  exact ⟨(m _ _ (m _ _ h1 h2).1 (m _ _ h3 h4).1).1, (m _ _ (m _ _ h1 h2).2 (m _ _ h3 h4).2).2⟩
theorem iin_mul {w x y z : Cq} (hw : Ord w) (hz : Ord y) (h : iin w x) (k : iin y z) : iin (imul w y) (imul x z) := by
  have a1 := iin_has h (ihas_l hw)
  have a2 := iin_has h (ihas_r hw)
  have b1 := iin_has k (ihas_l hz)
  have b2 := iin_has k (ihas_r hz)
  obtain ⟨e1, e2⟩ := imul_ends w y (P := fun d => ihas (imul x z) d) (ihas_mul a1 b1) (ihas_mul a1 b2) (ihas_mul a2 b1) (ihas_mul a2 b2)
  exact iin_of_ends e1 e2
theorem iin_abs {w x : Cq} (hw : Ord w) (h : iin w x) : iin (iabs w) (iabs x) := by
  have a1 := ihas_abs (iin_has h (ihas_l hw))
  have a2 := ihas_abs (iin_has h (ihas_r hw))
  have hx : Ord x := by unfold Ord iin at *; grind
  refine ⟨?_, ?_⟩
  · by_cases c : w.1 ≤ 0 ∧ 0 ≤ w.2
    · have e1 : (iabs w).1 = 0 := by unfold iabs; rw [if_pos c]
      have e2 : (iabs x).1 = 0 := by unfold iabs; rw [if_pos (by unfold iin at h; grind)]
      rw [e1, e2]; grind
    · have e1 : (iabs w).1 = mn (dabs w.1) (dabs w.2) := by unfold iabs; rw [if_neg c]
      rw [e1]
      rcases mn_or (dabs w.1) (dabs w.2) with e | e <;> rw [e]
      · exact a1.1
      · exact a2.1
  · have e1 : (iabs w).2 = mx (dabs w.1) (dabs w.2) := by unfold iabs; split <;> rfl
    rw [e1]
    rcases mx_or (dabs w.1) (dabs w.2) with e | e <;> rw [e]
    · exact a1.2
    · exact a2.2
theorem iin_pow {w x : Cq} (n : Int) (hw : Ord w) (h : iin w x) : iin (ipow w n) (ipow x n) := by
  have hx : Ord x := by unfold Ord iin at *; grind
  unfold ipow
  split
  · rename_i c
    have k := iin_abs hw h
    have g := iabs_ge hx
    have o := iabs_ord hw
    have g2 := iabs_ge hw
    exact ⟨dpow_mono g k.1 _, dpow_mono (by unfold Ord at o; grind) k.2 _⟩
  · rename_i c
    exact ⟨dpow_odd_mono h.1 (by omega), dpow_odd_mono h.2 (by omega)⟩
theorem iin_hull {w x : Cq} (z : Cq) (h : iin w x) : iin (ihull w z) (ihull x z) := by
  unfold iin ihull mn mx at *; dsimp only; grind
theorem iin_hull_l (z w : Cq) : iin z (ihull z w) := by
  unfold iin ihull; dsimp only
  exact ⟨mn_le_l _ _, le_mx_l _ _⟩
theorem imeet_in {z w r : Cq} (h : imeet z w = (r, true)) : Ord r ∧ iin r z ∧ iin r w := by
  unfold imeet at h
  split at h
  · rename_i c
    cases h
    unfold Ord iin; dsimp only
    exact ⟨c, ⟨le_mx_l _ _, mn_le_l _ _⟩, ⟨le_mx_r _ _, mn_le_r _ _⟩⟩
  · cases h
theorem imeet_no {z w r : Cq} (hz : Ord z) (h : imeet z w = (r, false)) : r = (0, 0) ∧ ¬ iin z w := by
  unfold imeet at h
  split at h
  · cases h
  · rename_i c
    cases h
    refine ⟨rfl, fun k => c ?_⟩
    unfold Ord iin mn mx at *; grind
/- ROUNDED, INVERTED, DIVIDED -/
/-- All by which 1 is divided. -/
def iinv (z : Cq) (p : Int) : Cq := (qdiv 1 z.2 p 0, qdiv 1 z.1 p 1)
theorem one_pos : (0 : Dyadic) < 1 := by decide
theorem iinv_sign {z : Cq} (p : Int) (ho : Ord z) (h : ¬ ihas z 0) : (0 < z.1 ∧ 0 < z.2 ∧ 0 < (iinv z p).1 ∧ 0 < (iinv z p).2) ∨ (z.1 < 0 ∧ z.2 < 0 ∧ (iinv z p).1 < 0 ∧ (iinv z p).2 < 0) := by
  unfold Ord at ho
  unfold ihas at h
  rcases Classical.em (0 < z.1) with c | c
  · have c2 : 0 < z.2 := by grind
    exact .inl ⟨c, c2, (qdiv_sign p 0 one_pos).1 c2, (qdiv_sign p 1 one_pos).1 c⟩
  · have c2 : z.2 < 0 := by grind
    have c1 : z.1 < 0 := by grind
    exact .inr ⟨c1, c2, (qdiv_sign p 0 one_pos).2 c2, (qdiv_sign p 1 one_pos).2 c1⟩
/-- By every number of it 1 is divided between the ends. -/
theorem iinv_has {z : Cq} {b : Dyadic} (p : Int) (hb : ihas z b) (h : ¬ ihas z 0) : (0 < b → b * (iinv z p).1 ≤ 1 ∧ 1 ≤ b * (iinv z p).2) ∧ (b < 0 → 1 ≤ b * (iinv z p).1 ∧ b * (iinv z p).2 ≤ 1) := by
  obtain ⟨h1, h2⟩ := hb
  have s := iinv_sign p (ihas_ord ⟨h1, h2⟩) h
  have l := qdiv_lo (x := 1) (y := z.2) p
  have u := qdiv_hi (x := 1) (y := z.1) p
  have e1 : qdiv 1 z.2 p 0 = (iinv z p).1 := rfl
  have e2 : qdiv 1 z.1 p 1 = (iinv z p).2 := rfl
  rw [e1] at l
  rw [e2] at u
  generalize (iinv z p).1 = q at *
  generalize (iinv z p).2 = r at *
  rcases s with ⟨s1, s2, s3, s4⟩ | ⟨s1, s2, s3, s4⟩
  · have l1 := l.1 s2
    have u1 := u.1 s1
    have m1 := dmul_le (show 0 ≤ q by grind) h2
    have m2 := dmul_le (show 0 ≤ r by grind) h1
    grind
  · have l1 := l.2 s2
    have u1 := u.2 s1
    have m1 := dmul_neg_le (show q ≤ 0 by grind) h2
    have m2 := dmul_neg_le (show r ≤ 0 by grind) h1
    grind
theorem iinv_ord {z : Cq} (p : Int) (ho : Ord z) (h : ¬ ihas z 0) : Ord (iinv z p) := by
  have k := iinv_has p (ihas_l ho) h
  have s := iinv_sign p ho h
  unfold Ord
  rcases s with ⟨s1, s2, s3, s4⟩ | ⟨s1, s2, s3, s4⟩
  · obtain ⟨k1, k2⟩ := k.1 s1
    exact (dmul_le_iff s1).1 (by grind)
  · obtain ⟨k1, k2⟩ := k.2 s1
    have := (dmul_le_iff (a := -z.1) (p := (iinv z p).1) (q := (iinv z p).2) (by grind)).1 (by grind)
    exact this
/-- a by b lies between the ends of a product, told by products. -/
theorem idiv_has {z w u m : Cq} {a b : Dyadic} (ha : ihas z a) (hu : Ord u) (hm : iin (imul z u) m) (hb : (0 < b → b * u.1 ≤ 1 ∧ 1 ≤ b * u.2) ∧ (b < 0 → 1 ≤ b * u.1 ∧ b * u.2 ≤ 1)) :
    (0 < b → m.1 * b ≤ a ∧ a ≤ m.2 * b) ∧ (b < 0 → m.2 * b ≤ a ∧ a ≤ m.1 * b) := by
  have h1 := iin_has hm (ihas_mul ha (ihas_l hu))
  have h2 := iin_has hm (ihas_mul ha (ihas_r hu))
  obtain ⟨p1, p2⟩ := h1
  obtain ⟨p3, p4⟩ := h2
  constructor
  · intro c
    obtain ⟨k1, k2⟩ := hb.1 c
    have q1 := dmul_le (show 0 ≤ b by grind) p1
    have q2 := dmul_le (show 0 ≤ b by grind) p2
    have q3 := dmul_le (show 0 ≤ b by grind) p3
    have q4 := dmul_le (show 0 ≤ b by grind) p4
    rcases Classical.em (0 ≤ a) with c2 | c2
    · have r1 := dmul_le c2 k1
      have r2 := dmul_le c2 k2
      grind
    · have r1 := dmul_neg_le (show a ≤ 0 by grind) k1
      have r2 := dmul_neg_le (show a ≤ 0 by grind) k2
      grind
  · intro c
    obtain ⟨k1, k2⟩ := hb.2 c
    have q1 := dmul_neg_le (show b ≤ 0 by grind) p1
    have q2 := dmul_neg_le (show b ≤ 0 by grind) p2
    have q3 := dmul_neg_le (show b ≤ 0 by grind) p3
    have q4 := dmul_neg_le (show b ≤ 0 by grind) p4
    rcases Classical.em (0 ≤ a) with c2 | c2
    · have r1 := dmul_le c2 k1
      have r2 := dmul_le c2 k2
      grind
    · have r1 := dmul_neg_le (show a ≤ 0 by grind) k1
      have r2 := dmul_neg_le (show a ≤ 0 by grind) k2
      grind
end Go.Ev
