/- Intervals of dyadic numbers: plain definitions and laws. -/
import Derived.Test.YtmgbegcamhkblaaDoorEvCx
import Derived.Test.YtmgbegcamhkblaaDoorEvRo
set_option linter.unusedSimpArgs false
set_option linter.unusedVariables false
namespace Go.Ev
open Go

def mn (p q : Dyadic) : Dyadic := if p ≤ q then p else q
def mx (p q : Dyadic) : Dyadic := if q ≤ p then p else q
theorem Ht.mn {a : Nat} {p q : Dyadic} (hp : Ht a p) (hq : Ht a q) : Ht a (mn p q) := by unfold Ev.mn; split <;> assumption
theorem Ht.mx {a : Nat} {p q : Dyadic} (hp : Ht a p) (hq : Ht a q) : Ht a (mx p q) := by unfold Ev.mx; split <;> assumption
theorem mn_le_l (p q : Dyadic) : mn p q ≤ p := by unfold mn; grind
theorem mn_le_r (p q : Dyadic) : mn p q ≤ q := by unfold mn; grind
theorem le_mx_l (p q : Dyadic) : p ≤ mx p q := by unfold mx; grind
theorem le_mx_r (p q : Dyadic) : q ≤ mx p q := by unfold mx; grind
theorem mn_or (p q : Dyadic) : mn p q = p ∨ mn p q = q := by unfold mn; split <;> simp
theorem mx_or (p q : Dyadic) : mx p q = p ∨ mx p q = q := by unfold mx; split <;> simp
theorem le_mn {r p q : Dyadic} : r ≤ mn p q ↔ r ≤ p ∧ r ≤ q := by unfold mn; grind
theorem mx_le {r p q : Dyadic} : mx p q ≤ r ↔ p ≤ r ∧ q ≤ r := by unfold mx; grind
/-- What an interval means. -/
def rof (z : Cq) : Cq := (mn z.1 z.2, mx z.1 z.2)
theorem Hc.rof {a : Nat} {z : Cq} (h : Hc a z) : Hc a (rof z) := ⟨h.1.mn h.2, h.1.mx h.2⟩
/-- Ends in order. -/
def Ord (z : Cq) : Prop := z.1 ≤ z.2
theorem rof_ord (z : Cq) : Ord (rof z) := by unfold Ord Ev.rof mn mx; dsimp only; grind
theorem rof_self {z : Cq} (h : Ord z) : rof z = z := by
  obtain ⟨p, q⟩ := z
  unfold Ord at h; unfold Ev.rof mn mx; dsimp only at h ⊢
  congr 1 <;> grind
def iadd (z w : Cq) : Cq := (z.1 + w.1, z.2 + w.2)
def ineg (z : Cq) : Cq := (-z.2, -z.1)
def isub (z w : Cq) : Cq := iadd z (ineg w)
def imul (z w : Cq) : Cq := (mn (mn (z.1 * w.1) (z.1 * w.2)) (mn (z.2 * w.1) (z.2 * w.2)), mx (mx (z.1 * w.1) (z.1 * w.2)) (mx (z.2 * w.1) (z.2 * w.2)))
def iabs (z : Cq) : Cq := if z.1 ≤ 0 ∧ 0 ≤ z.2 then (0, mx (dabs z.1) (dabs z.2)) else (mn (dabs z.1) (dabs z.2), mx (dabs z.1) (dabs z.2))
def clampP (n : Int) : Nat := (min (max n 0) 64).toNat
def ipow (z : Cq) (n : Int) : Cq := if clampP n % 2 = 0 then ((iabs z).1 ^ clampP n, (iabs z).2 ^ clampP n) else (z.1 ^ clampP n, z.2 ^ clampP n)
def ihull (z w : Cq) : Cq := (mn z.1 w.1, mx z.2 w.2)
def imeet (z w : Cq) : Cq × Bool := if mx z.1 w.1 ≤ mn z.2 w.2 then ((mx z.1 w.1, mn z.2 w.2), true) else ((0, 0), false)
def ihas (z : Cq) (d : Dyadic) : Prop := z.1 ≤ d ∧ d ≤ z.2
def iin (z w : Cq) : Prop := w.1 ≤ z.1 ∧ z.2 ≤ w.2
instance (z : Cq) (d : Dyadic) : Decidable (ihas z d) := inferInstanceAs (Decidable (_ ∧ _))
instance (z w : Cq) : Decidable (iin z w) := inferInstanceAs (Decidable (_ ∧ _))
theorem iadd_ord {z w : Cq} (h : Ord z) (k : Ord w) : Ord (iadd z w) := by unfold Ord iadd at *; dsimp only; grind
theorem ineg_ord {z : Cq} (h : Ord z) : Ord (ineg z) := by unfold Ord ineg at *; dsimp only; grind
theorem isub_ord {z w : Cq} (h : Ord z) (k : Ord w) : Ord (isub z w) := iadd_ord h (ineg_ord k)
theorem imul_ord (z w : Cq) : Ord (imul z w) := by
  unfold Ord imul; dsimp only
  have h1 := mn_le_l (mn (z.1 * w.1) (z.1 * w.2)) (mn (z.2 * w.1) (z.2 * w.2))
  have h2 := mn_le_l (z.1 * w.1) (z.1 * w.2)
  have h3 := le_mx_l (mx (z.1 * w.1) (z.1 * w.2)) (mx (z.2 * w.1) (z.2 * w.2))
  have h4 := le_mx_l (z.1 * w.1) (z.1 * w.2)
  grind
theorem ihull_ord {z w : Cq} (h : Ord z) (k : Ord w) : Ord (ihull z w) := by
  unfold Ord ihull at *; dsimp only
  have h1 := mn_le_l z.1 w.1
  have h2 := le_mx_l z.2 w.2
  grind
theorem dabs_pos {q : Dyadic} : 0 ≤ dabs q := by rw [dabs_eq]; split <;> grind
theorem iabs_of {z : Cq} (h : Ord z) : iabs z = if 0 ≤ z.1 then z else if z.2 ≤ 0 then ineg z else (0, mx (-z.1) z.2) := by
  obtain ⟨p, q⟩ := z
  unfold Ord at h; dsimp only at h
  unfold iabs ineg; dsimp only
  by_cases h1 : 0 ≤ p
  · rw [if_pos h1]
    have e1 : dabs p = p := by rw [dabs_eq, if_neg (by grind)]
    have e2 : dabs q = q := by rw [dabs_eq, if_neg (by grind)]
    rw [e1, e2]
    have e3 : mx p q = q := by unfold mx; grind
    have e4 : mn p q = p := by unfold mn; grind
    rw [e3, e4]
    split
    · rename_i hp
      rw [show p = 0 by grind]
    · rfl
  · rw [if_neg h1]
    have e1 : dabs p = -p := by rw [dabs_eq, if_pos (by grind)]
    by_cases h2 : q ≤ 0
    · rw [if_pos h2]
      have e2 : dabs q = -q := by
        rw [dabs_eq]
        split
        · rfl
        · rw [show q = 0 by grind]; rfl
      rw [e1, e2]
      have e3 : mx (-p) (-q) = -p := by unfold mx; grind
      have e4 : mn (-p) (-q) = -q := by unfold mn; grind
      rw [e3, e4]
      split
      · rename_i hp
        rw [show q = 0 by grind]; rfl
      · rfl
    · rw [if_neg h2, if_pos ⟨by grind, by grind⟩, e1]
      have e2 : dabs q = q := by rw [dabs_eq, if_neg (by grind)]
      rw [e2]
theorem iabs_ord {z : Cq} (h : Ord z) : Ord (iabs z) := by
  rw [iabs_of h]
  split
  · exact h
  · split
    · exact ineg_ord h
    · have := le_mx_r (-z.1) z.2
      unfold Ord; dsimp only; grind
theorem iabs_ge {z : Cq} (h : Ord z) : 0 ≤ (iabs z).1 := by
  rw [iabs_of h]
  split
  · assumption
  · split
    · unfold ineg; dsimp only; grind
    · dsimp only; grind
theorem Hc.iadd {a b c : Nat} {z w : Cq} (h : Hc a z) (k : Hc b w) (hc : max a b < c) : Hc c (iadd z w) := ⟨h.1.add k.1 hc, h.2.add k.2 hc⟩
theorem Hc.ineg {a : Nat} {z : Cq} (h : Hc a z) : Hc a (ineg z) := ⟨h.2.neg, h.1.neg⟩
theorem Hc.isub {a b c : Nat} {z w : Cq} (h : Hc a z) (k : Hc b w) (hc : max a b < c) : Hc c (isub z w) := h.iadd k.ineg hc
theorem Hc.imul {a b c : Nat} {z w : Cq} (h : Hc a z) (k : Hc b w) (hc : a + b ≤ c) : Hc c (imul z w) :=
  ⟨((h.1.mul k.1 hc).mn (h.1.mul k.2 hc)).mn ((h.2.mul k.1 hc).mn (h.2.mul k.2 hc)), ((h.1.mul k.1 hc).mx (h.1.mul k.2 hc)).mx ((h.2.mul k.1 hc).mx (h.2.mul k.2 hc))⟩
theorem Hc.iabs {a : Nat} {z : Cq} (h : Hc a z) : Hc a (iabs z) := by
  unfold Ev.iabs
  split
  · exact ⟨.zero a, h.1.abs.mx h.2.abs⟩
  · exact ⟨h.1.abs.mn h.2.abs, h.1.abs.mx h.2.abs⟩
theorem Hc.ihull {a : Nat} {z w : Cq} (h : Hc a z) (k : Hc a w) : Hc a (ihull z w) := ⟨h.1.mn k.1, h.2.mx k.2⟩
theorem Hc.imeet {a : Nat} {z w : Cq} (h : Hc a z) (k : Hc a w) : Hc a (imeet z w).1 := by
  unfold Ev.imeet
  split
  · exact ⟨h.1.mx k.1, h.2.mn k.2⟩
  · exact ⟨.zero a, .zero a⟩
theorem clampP_le (n : Int) : clampP n ≤ 64 := by unfold clampP; omega
theorem Hc.ipow {a : Nat} {z : Cq} (n : Int) {k c : Nat} (h : Hc a z) (hn : clampP n ≤ k) (hc : a * k + 1 ≤ c) : Hc c (ipow z n) := by
  have e : a * clampP n + 1 ≤ c := Nat.le_trans (Nat.add_le_add_right (Nat.mul_le_mul_left a hn) 1) hc
  unfold Ev.ipow
  split
  · exact ⟨(h.iabs.1.pow _).mono e, (h.iabs.2.pow _).mono e⟩
  · exact ⟨(h.1.pow _).mono e, (h.2.pow _).mono e⟩
theorem iin_same {z w : Cq} : (iin z w ∧ iin w z) ↔ z = w := by
  obtain ⟨a, b⟩ := z
  obtain ⟨c, d⟩ := w
  unfold iin; dsimp only
  rw [Prod.mk.injEq]
  grind
end Go.Ev
