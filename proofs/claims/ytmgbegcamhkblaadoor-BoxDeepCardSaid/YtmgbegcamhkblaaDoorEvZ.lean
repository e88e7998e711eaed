/- Whole numbers, and numbers times powers of two, as data. -/
import Derived.Test.YtmgbegcamhkblaaDoorEvX
set_option linter.unusedSimpArgs false
set_option linter.unusedVariables false
namespace Go.Ev
open Go

theorem Br.eqd {x : Int} {a b : Prop} (h : a) : Br (decide (x = x)) a b := ⟨fun _ => h, fun e => by simp at e⟩
theorem Br.eqb {x : Bool} {a b : Prop} (h : a) : Br (x == x) a b := ⟨fun _ => h, fun e => by simp at e⟩
/-- A sign and limbs, as a number. -/
def zv (b : Bool) (l : List UInt32) : Int := if b then -(nv l : Int) else nv l
def zneg (n : Int) : Bool := decide (n < 0)
/-- A whole number, as it must be told. -/
def zD (n : Int) : D := .agg [.bool (zneg n), sl (ofN n.natAbs)]

theorem zv_natAbs (b : Bool) (l : List UInt32) : (zv b l).natAbs = nv l := by unfold zv; split <;> omega
theorem zv_zneg (b : Bool) (l : List UInt32) : zneg (zv b l) = (b && decide (0 < nv l)) := by
  unfold zneg zv; cases b
  · simp
  · simp
theorem zv_self (n : Int) : zv (zneg n) (ofN n.natAbs) = n := by
  unfold zv zneg; rw [nv_ofN]
  by_cases h : n < 0
  · simp [h]; omega
  · simp [h]; omega
theorem zv_false (l : List UInt32) : zv false l = nv l := rfl
theorem zv_true (l : List UInt32) : zv true l = -(nv l : Int) := rfl
theorem zv_eq_zero {b : Bool} {l : List UInt32} : zv b l = 0 ↔ nv l = 0 := by unfold zv; split <;> omega
theorem zD_mk {c b : Bool} {l : List UInt32} (h : c = (b && decide (0 < nv l))) : D.agg [.bool c, sl (ofN (nv l))] = zD (zv b l) := by
  unfold zD; rw [zv_zneg, zv_natAbs, h]
theorem zD_of {c : Bool} {k : Nat} {n : Int} (h1 : c = zneg n) (h2 : k = n.natAbs) : D.agg [.bool c, sl (ofN k)] = zD n := by subst h1 h2; rfl

/-- At most so many bits. -/
def Zt (h : Nat) (n : Int) : Prop := n.natAbs < 2 ^ h
theorem Zt.mono {a b : Nat} {n : Int} (h : Zt a n) (hab : a ≤ b) : Zt b n := Nat.lt_of_lt_of_le h (Nat.pow_le_pow_right (by decide) hab)
theorem Zt.add {a b c : Nat} {m n : Int} (hm : Zt a m) (hn : Zt b n) (h : max a b < c) : Zt c (m + n) := by
  have h1 : Zt (max a b) m := hm.mono (by omega)
  have h2 : Zt (max a b) n := hn.mono (by omega)
  have h3 : 2 ^ (max a b + 1) ≤ 2 ^ c := Nat.pow_le_pow_right (by decide) h
  unfold Zt at *
  rw [Nat.pow_succ] at h3
  omega
theorem Zt.neg {a : Nat} {m : Int} (hm : Zt a m) : Zt a (-m) := by unfold Zt at *; omega
theorem Zt.sub {a b c : Nat} {m n : Int} (hm : Zt a m) (hn : Zt b n) (h : max a b < c) : Zt c (m - n) := by
  rw [Int.sub_eq_add_neg]; exact hm.add hn.neg h
theorem Zt.mul {a b c : Nat} {m n : Int} (hm : Zt a m) (hn : Zt b n) (h : a + b ≤ c) : Zt c (m * n) := by
  refine Zt.mono (a := a + b) ?_ h
  unfold Zt at *
  rw [Int.natAbs_mul, Nat.pow_add]
  exact Nat.mul_lt_mul'' hm hn
theorem Zt.shl {a k c : Nat} {m : Int} (hm : Zt a m) (h : a + k ≤ c) : Zt c (m * 2 ^ k) := by
  refine Zt.mono (a := a + k) ?_ h
  unfold Zt at *
  rw [Int.natAbs_mul, Int.natAbs_pow, Nat.pow_add]
  exact Nat.mul_lt_mul_of_pos_right hm (Nat.pow_pos (by decide))
theorem Zt.le {a : Nat} {m n : Int} (hm : Zt a m) (h : n.natAbs ≤ m.natAbs) : Zt a n := Nat.lt_of_le_of_lt h hm
theorem Zt.len {k h : Nat} {n : Int} (e : h ≤ 32 * k) (hn : Zt h n) : (ofN n.natAbs).length ≤ k := by
  rw [ofN_len_le, Pw_two]
  exact hn.mono e
theorem Zt.of_len {k h : Nat} {b : Bool} {l : List UInt32} (hl : l.length ≤ k) (e : 32 * k ≤ h) : Zt h (zv b l) := by
  unfold Zt
  rw [zv_natAbs]
  have := nv_lt l
  rw [Pw_two] at this
  exact Nat.lt_of_lt_of_le this (Nat.pow_le_pow_right (by decide) (by omega))

theorem Zt.small {h : Nat} {n : Int} (e : n.natAbs < 18446744073709551616) (hh : 64 ≤ h) : Zt h n := Nat.lt_of_lt_of_le e (Nat.pow_le_pow_right (n := 2) (i := 64) (by decide) hh)

theorem Zt.tz {k : Nat} {m : Int} (h : Zt k m) (h0 : m ≠ 0) : tzn m.natAbs < k := tzn_lt (by omega) h

theorem Zt.nb {k : Nat} {m : Int} (h : Zt k m) : nb m.natAbs ≤ k := nb_le.2 h

/-- Data that means a whole number. -/
inductive ZR : D → Int → Prop where
  | mk (b : Bool) (l : List UInt32) (h : l.length ≤ 4194304) : ZR (.agg [.bool b, sl l]) (zv b l)
theorem ZR.of {n : Int} (h : Zt 134217728 n) : ZR (zD n) n := by
  have h2 := ZR.mk (zneg n) (ofN n.natAbs) (h.len (by decide))
  rw [zv_self] at h2
  exact h2

def dman : Dyadic → Int
  | .zero => 0
  | .ofOdd n _ _ => n
def dexp : Dyadic → Int
  | .zero => 0
  | .ofOdd _ k _ => -k
/-- A dyadic number, as it must be told. -/
def dyD (q : Dyadic) : D := .agg [.bool (zneg (dman q)), sl (ofN (dman q).natAbs), .int .i64 (dexp q)]
/-- m times 2 to the power of e. -/
def dof (m e : Int) : Dyadic := Dyadic.ofIntWithPrec m (-e)

theorem dof_self (q : Dyadic) : dof (dman q) (dexp q) = q := by
  cases q with
  | zero => rfl
  | ofOdd n k h => simp only [dof, dman, dexp, Int.neg_neg]; exact Dyadic.ofOdd_eq_ofIntWithPrec.symm
theorem dof_zero (e : Int) : dof 0 e = 0 := rfl
theorem dof_toRat (m e : Int) : (dof m e).toRat = m * 2 ^ e := by
  unfold dof; rw [Dyadic.toRat_ofIntWithPrec_eq_mul_two_pow, Int.neg_neg]
theorem two_ne : (2 : Rat) ≠ 0 := by decide
theorem dof_shl (m e : Int) (k : Nat) : dof (m * 2 ^ k) e = dof m (e + k) := by
  have h := Dyadic.ofIntWithPrec_shiftLeft_add (x := m) (i := -(e + k)) (n := k)
  rw [Int.shiftLeft_eq] at h
  unfold dof
  rw [← h, show -(e + (k : Int)) + k = -e by omega]
theorem dof_add (m n e : Int) : dof m e + dof n e = dof (m + n) e := by
  rw [← Dyadic.toRat_inj, Dyadic.toRat_add, dof_toRat, dof_toRat, dof_toRat, Rat.intCast_add, Rat.add_mul]
theorem dof_neg (m e : Int) : -dof m e = dof (-m) e := Dyadic.neg_ofIntWithPrec
theorem dof_sub (m n e : Int) : dof m e - dof n e = dof (m - n) e := by
  rw [Int.sub_eq_add_neg, ← dof_add, ← dof_neg]; rfl
theorem dof_mul (m n e f : Int) : dof m e * dof n f = dof (m * n) (e + f) := by
  rw [← Dyadic.toRat_inj, Dyadic.toRat_mul, dof_toRat, dof_toRat, dof_toRat, Rat.intCast_mul, Rat.zpow_add two_ne]
  grind
theorem dof_odd {s e : Int} (h : s % 2 = 1) : dof s e = .ofOdd s (-e) h := Dyadic.ofOdd_eq_ofIntWithPrec.symm
theorem dof_eq_zero {m e : Int} : dof m e = 0 ↔ m = 0 := by
  constructor
  · intro h
    by_cases h0 : m = 0
    · exact h0
    · simp [dof, Dyadic.ofIntWithPrec, h0] at h
  · intro h; rw [h]; rfl
theorem dman_zero : dman 0 = 0 := rfl
theorem dexp_zero : dexp 0 = 0 := rfl
theorem dman_eq_zero {q : Dyadic} : dman q = 0 ↔ q = 0 := by
  constructor
  · intro h; rw [← dof_self q, h]; rfl
  · intro h; rw [h]; rfl
theorem dman_odd {q : Dyadic} (h : q ≠ 0) : dman q % 2 = 1 := by
  cases q with
  | zero => exact absurd rfl h
  | ofOdd n k h1 => exact h1
theorem dyD_inj {p q : Dyadic} (h1 : dman p = dman q) (h2 : dexp p = dexp q) : p = q := by rw [← dof_self p, ← dof_self q, h1, h2]
/-- m is s times a power of two, s odd. -/
theorem z_split {m : Int} (h : m ≠ 0) : ∃ s : Int, s % 2 = 1 ∧ m = s * 2 ^ tzn m.natAbs := by
  obtain ⟨k, hk, he⟩ := tzn_split m.natAbs (by omega)
  rcases Int.natAbs_eq m with h1 | h1
  · refine ⟨k, by omega, ?_⟩
    have : ((m.natAbs : Nat) : Int) = ((2 ^ tzn m.natAbs * k : Nat) : Int) := congrArg _ he
    rw [h1, Int.natAbs_natCast, this, Int.natCast_mul, Int.natCast_pow, Int.mul_comm]; rfl
  · refine ⟨-k, by omega, ?_⟩
    have : ((m.natAbs : Nat) : Int) = ((2 ^ tzn m.natAbs * k : Nat) : Int) := congrArg _ he
    rw [h1, Int.natAbs_neg, Int.natAbs_natCast, this, Int.natCast_mul, Int.natCast_pow, Int.mul_comm, Int.neg_mul]; rfl
theorem dof_parts {m : Int} (e : Int) (h : m ≠ 0) : zneg (dman (dof m e)) = zneg m ∧ (dman (dof m e)).natAbs = m.natAbs / 2 ^ tzn m.natAbs ∧ dexp (dof m e) = e + tzn m.natAbs := by
  obtain ⟨s, hs, hm⟩ := z_split h
  have h1 : dof m e = .ofOdd s (-(e + tzn m.natAbs)) hs := by
    rw [← dof_odd hs, ← dof_shl, ← hm]
  have hp : (0 : Int) < 2 ^ tzn m.natAbs := Int.pow_pos (by decide)
  rw [h1]
  refine ⟨?_, ?_, ?_⟩
  · simp only [dman, zneg]
    conv => rhs; rw [hm]
    refine decide_eq_decide.2 ?_
    constructor
    · intro h; exact Int.mul_neg_of_neg_of_pos h hp
    · intro h
      rcases Int.lt_or_le s 0 with h2 | h2
      · exact h2
      · have := Int.mul_nonneg h2 (Int.le_of_lt hp); omega
  · simp only [dman]
    have h2 : m.natAbs = s.natAbs * 2 ^ tzn m.natAbs := by
      have := congrArg Int.natAbs hm
      rw [Int.natAbs_mul, Int.natAbs_pow] at this
      exact this
    generalize tzn m.natAbs = t at h2
    rw [h2, Nat.mul_div_cancel _ (Nat.pow_pos (by decide))]
  · simp only [dexp, Int.neg_neg]
theorem dyD_dof {m : Int} (e : Int) (h : m ≠ 0) : D.agg [.bool (zneg m), sl (ofN (m.natAbs / 2 ^ tzn m.natAbs)), .int .i64 (e + tzn m.natAbs)] = dyD (dof m e) := by
  obtain ⟨h1, h2, h3⟩ := dof_parts e h
  unfold dyD
  rw [h1, h2, h3]
theorem dyD_zero : D.agg [.bool false, sl [], .int .i64 0] = dyD 0 := by
  unfold dyD
  rw [dman_zero, dexp_zero, show ofN (Int.natAbs 0) = [] from ofN_zero]; rfl

theorem dof_sum (p q : Dyadic) : dof (dman p * 2 ^ (dexp p - min (dexp p) (dexp q)).toNat + dman q * 2 ^ (dexp q - min (dexp p) (dexp q)).toNat) (min (dexp p) (dexp q)) = p + q := by
  rw [← dof_add, dof_shl, dof_shl, show min (dexp p) (dexp q) + ((dexp p - min (dexp p) (dexp q)).toNat : Nat) = dexp p by omega, show min (dexp p) (dexp q) + ((dexp q - min (dexp p) (dexp q)).toNat : Nat) = dexp q by omega, dof_self, dof_self]
/- ORDER -/
theorem two_zpow_pos (e : Int) : (0 : Rat) < 2 ^ e := Rat.zpow_pos (by decide)
theorem dof_pos {m e : Int} : 0 < dof m e ↔ 0 < m := by
  rw [← Dyadic.toRat_lt_toRat_iff, dof_toRat, Dyadic.toRat_zero]
  have h := two_zpow_pos e
  constructor
  · intro h1
    rcases Int.lt_or_le 0 m with h2 | h2
    · exact h2
    · exfalso
      have h3 : (m : Rat) ≤ 0 := by have := Rat.intCast_le_intCast.2 h2; simpa using this
      have h4 : (m : Rat) * 2 ^ e ≤ 0 := by
        have := Rat.mul_le_mul_of_nonneg_right h3 (Rat.le_of_lt h)
        rwa [Rat.zero_mul] at this
      grind
  · intro h1
    have h2 : (0 : Rat) < m := by have := Rat.intCast_lt_intCast.2 h1; simpa using this
    exact Rat.mul_pos h2 h
theorem dof_lt_zero {m e : Int} : dof m e < 0 ↔ m < 0 := by
  have h := dof_pos (m := -m) (e := e)
  rw [← dof_neg] at h
  constructor
  · intro h1; have : 0 < -dof m e := by grind
    have := h.1 this; omega
  · intro h1; have := h.2 (by omega); grind
theorem dman_pos {q : Dyadic} : 0 < dman q ↔ 0 < q := by conv => rhs; rw [← dof_self q, dof_pos]
theorem dman_lt_zero {q : Dyadic} : dman q < 0 ↔ q < 0 := by conv => rhs; rw [← dof_self q, dof_lt_zero]
theorem dof_lt {m n e : Int} : dof m e < dof n e ↔ m < n := by
  have h := dof_pos (m := n - m) (e := e)
  rw [← dof_sub] at h
  constructor
  · intro h1; have := h.1 (by grind); omega
  · intro h1; have := h.2 (by omega); grind
theorem dof_le {m n e : Int} : dof m e ≤ dof n e ↔ m ≤ n := by
  have h := dof_lt (m := n) (n := m) (e := e)
  rw [← Int.not_lt, ← h]; grind
theorem dof_inj {m n e : Int} : dof m e = dof n e ↔ m = n := by
  have h := dof_eq_zero (m := m - n) (e := e)
  rw [← dof_sub] at h
  constructor
  · intro h1; have := h.1 (by grind); omega
  · intro h1; rw [h1]
/-- The sign. -/
def dsg (q : Dyadic) : Int := Int.sign (dman q)
theorem dsg_lt {q : Dyadic} : dsg q < 0 ↔ q < 0 := by unfold dsg; rw [Int.sign_neg_iff, dman_lt_zero]
theorem dsg_gt {q : Dyadic} : dsg q > 0 ↔ 0 < q := by unfold dsg; show 0 < _ ↔ _; rw [Int.sign_pos_iff, dman_pos]
theorem dsg_eq {q : Dyadic} : dsg q = 0 ↔ q = 0 := by unfold dsg; rw [Int.sign_eq_zero_iff_zero, dman_eq_zero]
theorem dsg_le {q : Dyadic} : dsg q ≤ 0 ↔ q ≤ 0 := by
  have := dsg_gt (q := q)
  rw [← Int.not_lt]; show ¬ (dsg q > 0) ↔ _; rw [this]; grind
theorem dsg_ge {q : Dyadic} : dsg q ≥ 0 ↔ 0 ≤ q := by
  have := dsg_lt (q := q)
  show 0 ≤ _ ↔ _
  rw [← Int.not_lt, this]; grind
theorem dsg_cases (q : Dyadic) : (q < 0 ∧ dsg q = -1) ∨ (q = 0 ∧ dsg q = 0) ∨ (0 < q ∧ dsg q = 1) := by
  rcases Int.lt_trichotomy (dman q) 0 with h | h | h
  · exact .inl ⟨dman_lt_zero.1 h, Int.sign_eq_neg_one_of_neg h⟩
  · exact .inr (.inl ⟨dman_eq_zero.1 h, by unfold dsg; rw [h]; rfl⟩)
  · exact .inr (.inr ⟨dman_pos.1 h, Int.sign_eq_one_of_pos h⟩)

theorem dsg_dof (m e : Int) : dsg (dof m e) = Int.sign m := by
  rcases Int.lt_trichotomy m 0 with h | h | h
  · rw [Int.sign_eq_neg_one_of_neg h]; exact Int.sign_eq_neg_one_of_neg (dman_lt_zero.2 (dof_lt_zero.2 h))
  · rw [h]; rfl
  · rw [Int.sign_eq_one_of_pos h]; exact Int.sign_eq_one_of_pos (dman_pos.2 (dof_pos.2 h))
/-- The absolute value. -/
def dabs (q : Dyadic) : Dyadic := dof (dman q).natAbs (dexp q)
theorem dabs_dof (m e : Int) : dabs (dof m e) = dof m.natAbs e := by
  by_cases h : m = 0
  · rw [h]; rfl
  · obtain ⟨_, h2, h3⟩ := dof_parts e h
    unfold dabs
    rw [h2, h3]
    obtain ⟨s, hs, hm⟩ := z_split h
    have h4 : m.natAbs = s.natAbs * 2 ^ tzn m.natAbs := by
      have := congrArg Int.natAbs hm
      rw [Int.natAbs_mul, Int.natAbs_pow] at this
      exact this
    generalize tzn m.natAbs = t at h4
    rw [h4, Nat.mul_div_cancel _ (Nat.pow_pos (by decide)), Int.natCast_mul, Int.natCast_pow, show ((2 : Nat) : Int) = 2 from rfl, dof_shl]
theorem dabs_eq (q : Dyadic) : dabs q = if q < 0 then -q else q := by
  unfold dabs
  split
  · rename_i h
    have h := dman_lt_zero.2 h
    rw [show ((dman q).natAbs : Int) = -dman q by omega, ← dof_neg, dof_self]
  · rename_i h
    have h : ¬ dman q < 0 := fun h2 => h (dman_lt_zero.1 h2)
    rw [show ((dman q).natAbs : Int) = dman q by omega, dof_self]
theorem dman_neg' (q : Dyadic) : dman (-q) = -dman q := by cases q <;> rfl
theorem dexp_neg (q : Dyadic) : dexp (-q) = dexp q := by cases q <;> rfl
theorem dman_abs (q : Dyadic) : dman (dabs q) = (dman q).natAbs := by
  rw [dabs_eq]; split
  · rename_i h; have := dman_lt_zero.2 h; rw [dman_neg']; omega
  · rename_i h; have : ¬ dman q < 0 := fun h2 => h (dman_lt_zero.1 h2)
    omega
theorem dexp_abs (q : Dyadic) : dexp (dabs q) = dexp q := by rw [dabs_eq]; split <;> simp [dexp_neg]
/-- The place of the topmost bit. -/
def dtop (q : Dyadic) : Int := if dman q = 0 then 0 else dexp q + nb (dman q).natAbs - 1
/- HEIGHT: n times 2 to the power of -h, n of at most 2 h bits. -/
def Ht (h : Nat) (q : Dyadic) : Prop := ∃ n : Int, Zt (2 * h) n ∧ q = dof n (-h)
theorem Ht.mono {a b : Nat} {q : Dyadic} (h : Ht a q) (hab : a ≤ b) : Ht b q := by
  obtain ⟨n, h1, rfl⟩ := h
  refine ⟨n * 2 ^ (b - a), h1.shl (by omega), ?_⟩
  rw [dof_shl]; congr 1; omega
theorem Ht.add {a b c : Nat} {p q : Dyadic} (hp : Ht a p) (hq : Ht b q) (h : max a b < c) : Ht c (p + q) := by
  obtain ⟨m, h1, rfl⟩ := hp.mono (show a ≤ max a b by omega)
  obtain ⟨n, h2, rfl⟩ := hq.mono (show b ≤ max a b by omega)
  refine Ht.mono (a := max a b + 1) ?_ (by omega)
  refine ⟨(m + n) * 2 ^ 1, ?_, ?_⟩
  · exact (h1.add h2 (c := 2 * max a b + 1) (by omega)).shl (by omega)
  · rw [dof_add, dof_shl]; congr 1; omega
theorem Ht.neg {a : Nat} {p : Dyadic} (hp : Ht a p) : Ht a (-p) := by
  obtain ⟨m, h1, rfl⟩ := hp
  exact ⟨-m, h1.neg, dof_neg _ _⟩
theorem Ht.sub {a b c : Nat} {p q : Dyadic} (hp : Ht a p) (hq : Ht b q) (h : max a b < c) : Ht c (p - q) := hp.add hq.neg h
theorem Ht.mul {a b c : Nat} {p q : Dyadic} (hp : Ht a p) (hq : Ht b q) (h : a + b ≤ c) : Ht c (p * q) := by
  obtain ⟨m, h1, rfl⟩ := hp
  obtain ⟨n, h2, rfl⟩ := hq
  refine Ht.mono (a := a + b) ⟨m * n, h1.mul h2 (by omega), ?_⟩ h
  rw [dof_mul]; congr 1; omega
theorem Ht.dof {a b h : Nat} {m e : Int} (hm : Zt a m) (h1 : -b ≤ e) (h2 : e ≤ b) (hab : a + b ≤ h) : Ht h (dof m e) := by
  refine ⟨m * 2 ^ (e + h).toNat, hm.shl (by omega), ?_⟩
  rw [dof_shl]; congr 1; omega
theorem Ht.zero (h : Nat) : Ht h 0 := ⟨0, Nat.pow_pos (by decide), rfl⟩
theorem Ht.parts {h : Nat} {q : Dyadic} (hq : Ht h q) : Zt (2 * h) (dman q) ∧ -(h : Int) ≤ dexp q ∧ dexp q ≤ h := by
  obtain ⟨n, h1, rfl⟩ := hq
  by_cases h0 : n = 0
  · subst h0; exact ⟨Nat.pow_pos (by decide), by show -(h : Int) ≤ 0; omega, by show (0 : Int) ≤ h; omega⟩
  · obtain ⟨_, h2, h3⟩ := dof_parts (-h : Int) h0
    have h4 : tzn n.natAbs < 2 * h := tzn_lt (by omega) h1
    refine ⟨?_, by omega, by omega⟩
    unfold Zt
    rw [h2]
    exact Nat.lt_of_le_of_lt (Nat.div_le_self _ _) h1

theorem Ht.add' {a b : Nat} {p q : Dyadic} (hp : Ht a p) (hq : Ht b q) : Ht (max a b + 1) (p + q) := hp.add hq (by omega)
theorem Ht.sub' {a b : Nat} {p q : Dyadic} (hp : Ht a p) (hq : Ht b q) : Ht (max a b + 1) (p - q) := hp.sub hq (by omega)
theorem Ht.mul' {a b : Nat} {p q : Dyadic} (hp : Ht a p) (hq : Ht b q) : Ht (a + b) (p * q) := hp.mul hq (Nat.le_refl _)
theorem Ht.abs {a : Nat} {p : Dyadic} (hp : Ht a p) : Ht a (dabs p) := by
  rw [dabs_eq]; split
  · exact hp.neg
  · exact hp
theorem Ht.one : Ht 1 1 := ⟨2, Nat.lt_of_lt_of_le (show Int.natAbs 2 < 4 by decide) (by decide), rfl⟩
theorem Ht.pow {a : Nat} {p : Dyadic} (hp : Ht a p) : ∀ i : Nat, Ht (a * i + 1) (p ^ i)
  | 0 => by rw [Dyadic.pow_zero]; exact Ht.one
  | i + 1 => by rw [Dyadic.pow_succ]; exact (Ht.pow hp i).mul hp (by rw [Nat.mul_succ]; omega)
theorem Ht.scl {k : Int} (b : Nat) (h1 : -b ≤ k) (h2 : k ≤ b) : Ht (b + 1) (Go.Ev.dof 1 k) :=
  Ht.dof (a := 1) (b := b) (show Zt 1 1 by unfold Zt; decide) h1 h2 (by omega)
theorem Ht.i64 {n : Int} (h1 : -9223372036854775808 ≤ n) (h2 : n ≤ 9223372036854775807) : Ht 64 (Go.Ev.dof n 0) :=
  Ht.dof (a := 64) (b := 0) (Zt.small (by omega) (by decide)) (by decide) (by decide) (by decide)
theorem Ht.cst {m e : Int} (h : decide (m.natAbs ≤ 1000 ∧ -100 ≤ e ∧ e ≤ 100) = true) : Ht 164 (Go.Ev.dof m e) := by
  have h := of_decide_eq_true h
  exact Ht.dof (a := 64) (b := 100) (Zt.small (by omega) (by decide)) (by omega) (by omega) (by decide)
/-- Data that means a dyadic number. -/
inductive DyR : D → Dyadic → Prop where
  | mk (b : Bool) (l : List UInt32) (e : Int) (hl : l.length ≤ 65536) (h1 : -1048576 ≤ e) (h2 : e ≤ 1048576) (hq : Ht 1048576 (dof (zv b l) e)) : DyR (.agg [.bool b, sl l, .int .i64 e]) (dof (zv b l) e)
theorem DyR.of {q : Dyadic} (h : Ht 1048576 q) : DyR (dyD q) q := by
  obtain ⟨h1, h2, h3⟩ := h.parts
  have h4 := DyR.mk (zneg (dman q)) (ofN (dman q).natAbs) (dexp q) (h1.len (by decide)) (by omega) (by omega)
  rw [zv_self, dof_self] at h4
  exact h4 h
theorem DyR.ht {x : D} {q : Dyadic} (h : DyR x q) : Ht 1048576 q := by cases h; assumption
theorem DyR.parts {x : D} {q : Dyadic} (h : DyR x q) : Zt 2097152 (dman q) ∧ -1048576 ≤ dexp q ∧ dexp q ≤ 1048576 := h.ht.parts
theorem DyR.raw {b : Bool} {l : List UInt32} {e : Int} {k : Nat} {q : Dyadic} (hl : l.length ≤ k) (h1 : -1000000 ≤ e) (h2 : e ≤ 1000000) (hk : k ≤ 1000) (hq : dof (zv b l) e = q) : DyR (.agg [.bool b, sl l, .int .i64 e]) q :=
  hq ▸ DyR.mk b l e (by omega) (by omega) (by omega) (Ht.dof (a := 32 * k) (b := 1000000) (Zt.of_len hl (Nat.le_refl _)) (by omega) (by omega) (by omega))
theorem Zt.iff {h : Nat} {n : Int} : Zt h n ↔ n.natAbs < 2 ^ h := Iff.rfl
attribute [irreducible] Zt
end Go.Ev
