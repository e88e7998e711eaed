/- Contracts of the given functions, on data. Conditions stand in each theorem. -/
import Derived.Test.YtagjickjfjgfpaaGreatDoorGAvWDiv
import Derived.Test.YtagjickjfjgfpaaGreatDoorGEvR
import Derived.Test.YtagjickjfjgfpaaGreatDoorGAvQuot
set_option linter.unusedSimpArgs false
set_option linter.unusedVariables false
namespace Go.Ev
open Go
structure Cr where
 re : Rat
 im : Rat
theorem Cr.ext {a b : Cr} (h : a.re = b.re) (k : a.im = b.im) : a = b := by
 cases a; cases b; simp only at h k; rw [h, k]
namespace Cr
def ofQ (r : Rat) : Cr := ⟨r, 0⟩
def pw (z : Cr) : Nat → Cr
 | 0 => ⟨1, 0⟩
 | n + 1 => ⟨(pw z n).re * z.re - (pw z n).im * z.im, (pw z n).re * z.im + (pw z n).im * z.re⟩
instance : Add Cr := ⟨fun a b => ⟨a.re + b.re, a.im + b.im⟩⟩
instance : Mul Cr := ⟨fun a b => ⟨a.re * b.re - a.im * b.im, a.re * b.im + a.im * b.re⟩⟩
instance : Neg Cr := ⟨fun a => ⟨-a.re, -a.im⟩⟩
instance : Sub Cr := ⟨fun a b => ⟨a.re - b.re, a.im - b.im⟩⟩
instance : NatCast Cr := ⟨fun n => ⟨(n : Rat), 0⟩⟩
instance : IntCast Cr := ⟨fun n => ⟨(n : Rat), 0⟩⟩
instance (n : Nat) : OfNat Cr n := ⟨⟨(n : Rat), 0⟩⟩
instance : HPow Cr Nat Cr := ⟨pw⟩
instance : SMul Nat Cr := ⟨fun n a => ⟨(n : Rat) * a.re, (n : Rat) * a.im⟩⟩
instance : SMul Int Cr := ⟨fun n a => ⟨(n : Rat) * a.re, (n : Rat) * a.im⟩⟩
theorem wm (a b : Cr) : (a + b).re = a.re + b.re := rfl
theorem wk (a b : Cr) : (a + b).im = a.im + b.im := rfl
theorem jo (a b : Cr) : (a * b).re = a.re * b.re - a.im * b.im := rfl
theorem iy (a b : Cr) : (a * b).im = a.re * b.im + a.im * b.re := rfl
theorem avt (a : Cr) : (-a).re = -a.re := rfl
theorem avs (a : Cr) : (-a).im = -a.im := rfl
theorem a2e (a b : Cr) : (a - b).re = a.re - b.re := rfl
theorem a2d (a b : Cr) : (a - b).im = a.im - b.im := rfl
theorem avk (n : Nat) : ((n : Cr)).re = (n : Rat) := rfl
theorem avj (n : Nat) : ((n : Cr)).im = 0 := rfl
theorem a1z (n : Nat) : (OfNat.ofNat n : Cr).re = ((n : Nat) : Rat) := rfl
theorem a1y (n : Nat) : (OfNat.ofNat n : Cr).im = 0 := rfl
theorem ack : (1 : Cr).re = 1 := rfl
theorem acj : (1 : Cr).im = 0 := rfl
theorem y5 : (0 : Cr).re = 0 := rfl
theorem y4 : (0 : Cr).im = 0 := rfl
instance : Lean.Grind.CommRing Cr where
 add_zero a := Cr.ext (Rat.add_zero _) (Rat.add_zero _)
 add_comm a b := Cr.ext (Rat.add_comm _ _) (Rat.add_comm _ _)
 add_assoc a b c := Cr.ext (Rat.add_assoc _ _ _) (Rat.add_assoc _ _ _)
 mul_assoc a b c := Cr.ext (by simp only [jo, iy]; grind) (by simp only [jo, iy]; grind)
 mul_one a := Cr.ext (by simp only [jo, iy, ack, acj]; grind) (by simp only [jo, iy, ack, acj]; grind)
 one_mul a := Cr.ext (by simp only [jo, iy, ack, acj]; grind) (by simp only [jo, iy, ack, acj]; grind)
 left_distrib a b c := Cr.ext (by simp only [jo, iy, wm, wk]; grind) (by simp only [jo, iy, wm, wk]; grind)
 right_distrib a b c := Cr.ext (by simp only [jo, iy, wm, wk]; grind) (by simp only [jo, iy, wm, wk]; grind)
 zero_mul a := Cr.ext (by simp only [jo, iy, y5, y4]; grind) (by simp only [jo, iy, y5, y4]; grind)
 mul_zero a := Cr.ext (by simp only [jo, iy, y5, y4]; grind) (by simp only [jo, iy, y5, y4]; grind)
 pow_zero a := rfl
 pow_succ a n := rfl
 ofNat_succ n := Cr.ext (by simp only [wm, a1z, ack]; exact Rat.natCast_add n 1) (by simp only [wk, a1y, acj]; grind)
 ofNat_eq_natCast n := rfl
 nsmul_eq_natCast_mul n a := Cr.ext (by simp only [jo, avk, avj]; show (n : Rat) * a.re = _; grind) (by simp only [iy, avk, avj]; show (n : Rat) * a.im = _; grind)
 neg_add_cancel a := Cr.ext (by simp only [wm, avt, y5]; grind) (by simp only [wk, avs, y4]; grind)
 sub_eq_add_neg a b := Cr.ext (by simp only [wm, avt, a2e]; grind) (by simp only [wk, avs, a2d]; grind)
 neg_zsmul i a := Cr.ext (by show ((-i : Int) : Rat) * a.re = -((i : Rat) * a.re); rw [Rat.intCast_neg]; grind) (by show ((-i : Int) : Rat) * a.im = -((i : Rat) * a.im); rw [Rat.intCast_neg]; grind)
 zsmul_natCast_eq_nsmul n a := Cr.ext rfl rfl
 intCast_ofNat n := rfl
 intCast_neg i := Cr.ext (by show ((-i : Int) : Rat) = -(i : Rat); exact Rat.intCast_neg i) (by show (0 : Rat) = -0; grind)
 mul_comm a b := Cr.ext (by simp only [jo]; grind) (by simp only [iy]; grind)
end Cr
def qab (r : Rat) : Rat := if r < 0 then -r else r
theorem aog {r s : Rat} : qab r ≤ s ↔ -s ≤ r ∧ r ≤ s := by unfold qab; grind
theorem aof (r : Rat) : 0 ≤ qab r := by unfold qab; grind
theorem aql (r s : Rat) : qab (r + s) ≤ qab r + qab s := by unfold qab; grind
theorem alp : qab 0 = 0 := by unfold qab; grind
theorem awa {r : Rat} (h : 0 ≤ r) : qab r = r := by unfold qab; grind
theorem abg {a b : Rat} (ha : 0 ≤ a) (hb : 0 ≤ b) : 0 ≤ a * b := Rat.mul_nonneg ha hb
theorem aqp {a b c d : Rat} (ha : 0 ≤ a) (hab : a ≤ b) (hc : 0 ≤ c) (hcd : c ≤ d) : a * c ≤ b * d := by
 have h1 := Rat.mul_le_mul_of_nonneg_right hab hc
 have h2 := Rat.mul_le_mul_of_nonneg_left hcd (show 0 ≤ b by grind)
 grind
def nrm (z : Cr) : Rat := qab z.re + qab z.im
theorem aqd (a b : Cr) : nrm (a + b) ≤ nrm a + nrm b := by
 unfold nrm; rw [Cr.wm, Cr.wk]
 have := aql a.re b.re; have := aql a.im b.im; grind
end Go.Ev

namespace Go.Ev
open Go
def sm (f : Nat → Cr) : Nat → Cr
 | 0 => f 0
 | n + 1 => sm f n + f (n + 1)
def iq (k : Nat) : Cr := Cr.ofQ (1 / (k : Rat))
def et (z : Cr) : Nat → Cr
 | 0 => 1
 | k + 1 => z * et z k * iq (k + 1)
def en (n : Nat) (z : Cr) : Cr := sm (et z) n
def pq (d : Rat) : Nat → Rat
 | 0 => 1
 | k + 1 => d * pq d k
theorem aqi {d : Rat} (h : 0 ≤ d) : ∀ k, 0 ≤ pq d k
 | 0 => by rw [pq]; decide
 | k + 1 => by rw [pq]; exact abg h (aqi h k)
theorem av6 (d : Rat) (m : Nat) : ∀ n, pq d (m + n) = pq d m * pq d n
 | 0 => by rw [pq]; show pq d m = _; grind
 | n + 1 => by show pq d (m + n + 1) = _; rw [pq, pq, av6 d m n]; grind
end Go.Ev

namespace Go.Ev
open Go
def Sm (f : Nat → Rat) : Prop := ∀ e : Rat, 0 < e → ∃ T : Nat, ∀ n, T ≤ n → f n ≤ e
theorem Sm.mono {f g : Nat → Rat} (h : Sm g) (k : ∀ n, f n ≤ g n) : Sm f := fun e he => by
 obtain ⟨T, hT⟩ := h e he
 exact ⟨T, fun n hn => by have := hT n hn; have := k n; grind⟩
theorem Sm.add {f g : Nat → Rat} (h : Sm f) (k : Sm g) : Sm (fun n => f n + g n) := fun e he => by
 obtain ⟨T, hT⟩ := h (e / 2) (by grind)
 obtain ⟨T', hT'⟩ := k (e / 2) (by grind)
 exact ⟨T + T', fun n hn => by have := hT n (by omega); have := hT' n (by omega); grind⟩
theorem apx : ∀ k : Nat, ((k : Nat) : Rat) * pq (1 / 2) k + pq (1 / 2) k ≤ 1
 | 0 => by show ((0 : Nat) : Rat) * 1 + 1 ≤ 1; grind
 | k + 1 => by
  have ih := apx k
  have h := aqi (show (0 : Rat) ≤ 1 / 2 by grind) k
  have hk : (0 : Rat) ≤ ((k : Nat) : Rat) := by exact_mod_cast Nat.zero_le k
  have h2 := abg hk h
  rw [pq, Rat.natCast_add]
  grind
def Cl (u v : Nat → Cr) : Prop := Sm (fun n => nrm (u n - v n))
theorem Cl.trans {u v w : Nat → Cr} (h : Cl u v) (k : Cl v w) : Cl u w := (h.add k).mono fun n => by
 show nrm (u n - w n) ≤ nrm (u n - v n) + nrm (v n - w n)
 have := aqd (u n - v n) (v n - w n)
 rwa [show u n - v n + (v n - w n) = u n - w n by grind] at this
theorem Cl.add {u v u' v' : Nat → Cr} (h : Cl u v) (k : Cl u' v') : Cl (fun n => u n + u' n) (fun n => v n + v' n) := (Sm.add h k).mono fun n => by
 show nrm (u n + u' n - (v n + v' n)) ≤ nrm (u n - v n) + nrm (u' n - v' n)
 have := aqd (u n - v n) (u' n - v' n)
 rwa [show u n - v n + (u' n - v' n) = u n + u' n - (v n + v' n) by grind] at this
def sqr : Nat → Cr → Cr
 | 0, z => z
 | k + 1, z => sqr k z * sqr k z
def gx (z : Cr) (n : Nat) : Cr := sqr 16 (en n z)
end Go.Ev

namespace Go.Ev
open Go
def er (n : Nat) (y : Rat) : Rat := (en n (Cr.ofQ y)).re
def gr (y : Rat) (n : Nat) : Rat := (gx (Cr.ofQ y) n).re
def N2 (z : Cr) : Rat := z.re * z.re + z.im * z.im
end Go.Ev

namespace Go.Ev
open Go
def qmn (p q : Rat) : Rat := if p ≤ q then p else q
def qmx (p q : Rat) : Rat := if q ≤ p then p else q
theorem ka {p q : Dyadic} : p.toRat ≤ q.toRat ↔ p ≤ q := Dyadic.toRat_le_toRat_iff
theorem azq (p q : Dyadic) : (mn p q).toRat = qmn p.toRat q.toRat := by
 unfold mn qmn
 by_cases h : p ≤ q
 ·rw [if_pos h, if_pos (ka.2 h)]
 ·rw [if_neg h, if_neg (fun g => h (ka.1 g))]
theorem av8 (p q : Dyadic) : (mx p q).toRat = qmx p.toRat q.toRat := by
 unfold mx qmx
 by_cases h : q ≤ p
 ·rw [if_pos h, if_pos (ka.2 h)]
 ·rw [if_neg h, if_neg (fun g => h (ka.1 g))]
theorem tq (p q : Dyadic) : (p + q).toRat = p.toRat + q.toRat := Dyadic.toRat_add ..
theorem kb (p q : Dyadic) : (p * q).toRat = p.toRat * q.toRat := Dyadic.toRat_mul ..
theorem adi (p : Dyadic) : (-p).toRat = -p.toRat := Dyadic.toRat_neg ..
theorem eo : (0 : Dyadic).toRat = 0 := Dyadic.toRat_zero
def lh (z : Cq) (r : Rat) : Prop := z.1.toRat ≤ r ∧ r ≤ z.2.toRat
theorem als {z : Cq} {r : Rat} (h : lh z r) : Ord z := ka.1 (Rat.le_trans h.1 h.2)
theorem aqo (p : Dyadic) : lh (p, p) p.toRat := ⟨Rat.le_refl, Rat.le_refl⟩
theorem ajp {z w : Cq} {r : Rat} (h : lh z r) (k : iin z w) : lh w r := ⟨Rat.le_trans (ka.2 k.1) h.1, Rat.le_trans h.2 (ka.2 k.2)⟩
theorem tw {z w : Cq} {r s : Rat} (h : lh z r) (k : lh w s) : lh (jc z w) (r + s) := by
 obtain ⟨h1, h2⟩ := h
 obtain ⟨k1, k2⟩ := k
 refine ⟨?_, ?_⟩ <;> unfold jc <;> dsimp only <;> rw [tq] <;> grind
theorem alr {z : Cq} {r : Rat} (h : lh z r) : lh (oz z) (-r) := by
 obtain ⟨h1, h2⟩ := h
 refine ⟨?_, ?_⟩ <;> unfold oz <;> dsimp only <;> rw [adi] <;> grind
theorem abf {z w : Cq} {r s : Rat} (h : lh z r) (k : lh w s) : lh (ve z w) (r - s) := by
 have := tw h (alr k)
 rwa [show r + -s = r - s by grind] at this
theorem af8 {a b p : Rat} (q : Rat) (h1 : a ≤ p) (h2 : p ≤ b) : qmn (a * q) (b * q) ≤ p * q ∧ p * q ≤ qmx (a * q) (b * q) := by
 rcases Classical.em (0 ≤ q) with h | h
 ·have h3 := Rat.mul_le_mul_of_nonneg_right h1 h
  have h4 := Rat.mul_le_mul_of_nonneg_right h2 h
  unfold qmn qmx; grind
 ·have h3 := Rat.mul_le_mul_of_nonneg_right h1 (show 0 ≤ -q by grind)
  have h4 := Rat.mul_le_mul_of_nonneg_right h2 (show 0 ≤ -q by grind)
  unfold qmn qmx; grind
theorem qs {z w : Cq} {r s : Rat} (h : lh z r) (k : lh w s) : lh (b7 z w) (r * s) := by
 obtain ⟨h1, h2⟩ := h
 obtain ⟨k1, k2⟩ := k
 have m1 := af8 s h1 h2
 have m2 := af8 z.1.toRat k1 k2
 have m3 := af8 z.2.toRat k1 k2
 unfold lh b7; dsimp only
 rw [azq, azq, azq, av8, av8, av8, kb, kb, kb, kb]
 rw [Rat.mul_comm w.1.toRat, Rat.mul_comm w.2.toRat, Rat.mul_comm s] at m2 m3
 generalize z.1.toRat * w.1.toRat = a1 at *
 generalize z.1.toRat * w.2.toRat = a2 at *
 generalize z.2.toRat * w.1.toRat = a3 at *
 generalize z.2.toRat * w.2.toRat = a4 at *
 generalize z.1.toRat * s = b1 at *
 generalize z.2.toRat * s = b2 at *
 generalize r * s = c at *
 unfold qmn qmx at *
 grind
def Mm (f : Nat → Rat) (z : Cq) : Prop := Sm (fun n => f n - z.2.toRat) ∧ Sm (fun n => z.1.toRat - f n)
theorem Mm.of {f : Nat → Rat} {z : Cq} (T : Nat) (h : ∀ n, T ≤ n → lh z (f n)) : Mm f z :=
 ⟨fun e he => ⟨T, fun n hn => by have := (h n hn).2; show f n - z.2.toRat ≤ e; grind⟩, fun e he => ⟨T, fun n hn => by have := (h n hn).1; show z.1.toRat - f n ≤ e; grind⟩⟩
theorem Mm.in {f : Nat → Rat} {z w : Cq} (h : Mm f z) (k : iin z w) : Mm f w :=
 ⟨h.1.mono fun n => by have := ka.2 k.2; show f n - w.2.toRat ≤ f n - z.2.toRat; grind, h.2.mono fun n => by have := ka.2 k.1; show w.1.toRat - f n ≤ z.1.toRat - f n; grind⟩
end Go.Ev

namespace Go.Ev
open Go
theorem Mm.add {f g : Nat → Rat} {z w : Cq} (hz : Mm f z) (hw : Mm g w) : Mm (fun n => f n + g n) (jc z w) :=
 ⟨(hz.1.add hw.1).mono fun n => by
  show f n + g n - (jc z w).2.toRat ≤ f n - z.2.toRat + (g n - w.2.toRat)
  unfold jc; dsimp only; rw [tq]; grind, (hz.2.add hw.2).mono fun n => by
  show (jc z w).1.toRat - (f n + g n) ≤ z.1.toRat - f n + (w.1.toRat - g n)
  unfold jc; dsimp only; rw [tq]; grind⟩
end Go.Ev

namespace Go.Ev.Ar
open Go Go.Ev Go.Proofs
theorem kt {a b : Cq} (ha : a ≠ (0, 0)) (hb : b ≠ (0, 0)) : aw a b ≠ (0, 0) := by
 intro h
 have h1 := congrArg Prod.fst h
 have h2 := congrArg Prod.snd h
 unfold aw at h1 h2
 dsimp only at h1 h2
 have e : (a.1 * a.1 + a.2 * a.2) * (b.1 * b.1 + b.2 * b.2) = 0 := by
  have : (a.1 * a.1 + a.2 * a.2) * (b.1 * b.1 + b.2 * b.2) = (a.1 * b.1 - a.2 * b.2) * (a.1 * b.1 - a.2 * b.2) + (a.1 * b.2 + a.2 * b.1) * (a.1 * b.2 + a.2 * b.1) := by grind
  rw [this, h1, h2]; grind
 have pos : ∀ c : Cq, c ≠ (0, 0) → 0 < (c.1 * c.1 + c.2 * c.2).toRat := fun c hc => by
  rw [tq, kb, kb]
  have sq : ∀ r : Rat, 0 ≤ r * r := fun r => by
   rcases Classical.em (0 ≤ r) with g | g
   ·exact abg g g
   ·have := abg (show 0 ≤ -r by grind) (show 0 ≤ -r by grind); grind
  have s1 := sq c.1.toRat
  have s2 := sq c.2.toRat
  rcases Classical.em (c.1.toRat * c.1.toRat + c.2.toRat * c.2.toRat = 0) with g | g
  ·exfalso
   have z1 : c.1.toRat * c.1.toRat = 0 := by grind
   have z2 : c.2.toRat * c.2.toRat = 0 := by grind
   have y1 : c.1.toRat = 0 := by grind
   have y2 : c.2.toRat = 0 := by grind
   exact hc (Prod.ext (Dyadic.toRat_inj.1 (by rw [y1]; exact eo.symm)) (Dyadic.toRat_inj.1 (by rw [y2]; exact eo.symm)))
  ·grind
 have p1 := pos a ha
 have p2 := pos b hb
 have := Rat.mul_pos p1 p2
 rw [← kb, e, eo] at this
 grind
theorem ajv {p : Rq} (h : p.2 ≠ (0, 0)) : ∀ j, (qw p j).2 ≠ (0, 0)
 | 0 => by show ((1, 0) : Cq) ≠ (0, 0); decide
 | j + 1 => kt (ajv h j) h
theorem acu {a b c : Nat} {p q : Rq} (hp : Hr a p) (hq : Hr b q) (hc : a + b < c) : Hr c (df p q) := ⟨Hc.aw hp.1 hq.1 hc, Hc.aw hp.2 hq.2 hc⟩
theorem pj (a : Nat) (h : 1 ≤ a) : Hc a ag := ⟨Ht.one.mono h, .zero _⟩
theorem aej {s : Nat} {p : Rq} (hp : Hr (110 * s) p) : ∀ j, Hr ((110 * s + 1) * j + 1) (qw p j)
 | 0 => ⟨pj _ (by omega), pj _ (by omega)⟩
 | j + 1 => acu (aej hp j) hp (by rw [Nat.mul_add]; omega)
theorem al9 {a b c : Nat} {p q : Rq} (hp : Hr a p) (hq : Hr b q) (hc : a + b + 2 ≤ c) : Hr c (rr p q) := by
 unfold rr
 split
 ·exact ⟨⟨hp.1.1.add hq.1.1 (by omega), hp.1.2.add hq.1.2 (by omega)⟩, hp.2.mono (by omega)⟩
 ·have u : Hc (a + b + 1) (aw p.1 q.2) := Hc.aw hp.1 hq.2 (by omega)
  have v : Hc (a + b + 1) (aw q.1 p.2) := Hc.aw hq.1 hp.2 (by omega)
  exact ⟨⟨u.1.add v.1 (by omega), u.2.add v.2 (by omega)⟩, Hc.aw hp.2 hq.2 (by omega)⟩
theorem j7 {x : Nd} {i : Nat} (h : k9 x i = true) : 1 ≤ x.k ∧ x.k ≤ 10 ∧ ((3 ≤ x.k ∧ x.k ≤ 10) → 0 ≤ x.a ∧ x.a < i) ∧ ((3 ≤ x.k ∧ x.k ≤ 6) → 0 ≤ x.b ∧ x.b < i) ∧ (¬ (3 ≤ x.k ∧ x.k ≤ 10) → x.a = 0) ∧ (¬ (3 ≤ x.k ∧ x.k ≤ 6) → x.b = 0) ∧ (x.k = 7 → 0 ≤ x.n ∧ x.n ≤ 64) ∧ (x.k = 2 → fy x.r.b x.r.l x.r.e = true ∧ fy x.r.c x.r.k x.r.f = true) := by
 unfold k9 blB at h
 simp only [Bool.and_eq_true, Bool.or_eq_true, decide_eq_true_eq, Bool.not_eq_true', decide_eq_false_iff_not] at h
 obtain ⟨⟨⟨⟨h1, h2⟩, h3⟩, h4⟩, h5⟩ := h
 refine ⟨h1.1, h1.2, by grind, by grind, by grind, by grind, fun e => ?_, fun e => ?_⟩
 ·rw [if_pos e] at h5; exact of_decide_eq_true h5
 ·rw [if_neg (by omega), Bool.and_eq_true] at h5; exact h5
theorem gg {a : Int} {i : Nat} : inA a i = true ↔ 0 ≤ a ∧ a < i := by unfold inA; exact decide_eq_true_iff
theorem n7 {α : Type} {l : List α} {x d : α} {j : Nat} (h : j < l.length) : (l ++ [x]).getD j d = l.getD j d := by
 rw [List.getD_eq_getElem?_getD, List.getElem?_append_left h, ← List.getD_eq_getElem?_getD]
theorem gj {α : Type} {l : List α} {x d : α} : (l ++ [x]).getD l.length d = x := by simp
structure Fit (ss : List Int) (vs : List Rq) : Prop where
 len : ss.length = vs.length
 s1 : ∀ j, j < vs.length → 1 ≤ ss.getD j 0 ∧ ss.getD j 0 ≤ 60
 v : ∀ j, j < vs.length → Hr (110 * (ss.getD j 0).toNat) (vs.getD j (ag, ag))
 nz : ∀ j, j < vs.length → (vs.getD j (ag, ag)).2 ≠ (0, 0)
theorem Fit.add {ss : List Int} {vs : List Rq} {s : Int} {r : Rq} (h : Fit ss vs) (h1 : 1 ≤ s ∧ s ≤ 60) (hr : Hr (110 * s.toNat) r) (hn : r.2 ≠ (0, 0)) : Fit (ss ++ [s]) (vs ++ [r]) := by
 have key : ∀ j, j < (vs ++ [r]).length → j < vs.length ∨ j = vs.length := fun j hj => by rw [List.length_append] at hj; simp at hj; omega
 refine ⟨by simp [h.len], fun j hj => ?_, fun j hj => ?_, fun j hj => ?_⟩
 ·rcases key j hj with g | rfl
  ·rw [n7 (by rw [h.len]; exact g)]; exact h.s1 j g
  ·rw [← h.len, gj]; exact h1
 ·rcases key j hj with g | rfl
  ·rw [n7 (by rw [h.len]; exact g), n7 g]; exact h.v j g
  ·rw [gj, ← h.len, gj]; exact hr
 ·rcases key j hj with g | rfl
  ·rw [n7 g]; exact h.nz j g
  ·rw [gj]; exact hn
theorem Fit.nil : Fit [] [] := ⟨rfl, fun j h => absurd h (by simp), fun j h => absurd h (by simp), fun j h => absurd h (by simp)⟩
theorem afy {ss : List Int} {vs : List Rq} {x : Nd} {z : Cq} {r : Rq} (hf : Fit ss vs) (hx : k9 x vs.length = true) (hz : Hc 104 z) (hc : Hc 104 x.r.val) (hs : ik ss x vs.length ≤ 60) (h : b9 vs x z = some r) : 1 ≤ ik ss x vs.length ∧ Hr (110 * (ik ss x vs.length).toNat) r := by
 obtain ⟨k1, k10, fa, fb, _, _, f7, _⟩ := j7 hx
 have one1 : Hc 110 ag := pj _ (by decide)
 have k : x.k = 1 ∨ x.k = 2 ∨ (3 ≤ x.k ∧ x.k ≤ 6) ∨ x.k = 7 ∨ 8 ≤ x.k := by omega
 rcases k with k | k | k | k | k
 ·unfold ik; rw [if_neg (by omega), if_neg (by omega), if_neg (by omega)]
  unfold b9 at h; rw [if_pos k] at h; cases h
  exact ⟨by omega, hz.mono (by decide), one1.mono (by decide)⟩
 ·unfold ik; rw [if_neg (by omega), if_neg (by omega), if_neg (by omega)]
  unfold b9 at h; rw [if_neg (by omega), if_pos k] at h; cases h
  exact ⟨by omega, hc.mono (by decide), one1.mono (by decide)⟩
 ·obtain ⟨a0, a1⟩ := fa (by omega)
  obtain ⟨b0, b1⟩ := fb k
  have e : ik ss x vs.length = ss.getD x.a.toNat 0 + ss.getD x.b.toNat 0 + 1 := by
   unfold ik; rw [if_neg (by omega), if_pos ⟨k, gg.2 ⟨a0, a1⟩, gg.2 ⟨b0, b1⟩⟩]
  rw [e] at hs ⊢
  have sa := hf.s1 x.a.toNat (by omega)
  have sb := hf.s1 x.b.toNat (by omega)
  have va := hf.v x.a.toNat (by omega)
  have vb := hf.v x.b.toNat (by omega)
  refine ⟨by omega, ?_⟩
  unfold b9 at h
  generalize vs.getD x.a.toNat (ag, ag) = p at *
  generalize vs.getD x.b.toNat (ag, ag) = q at *
  generalize ss.getD x.a.toNat 0 = u at *
  generalize ss.getD x.b.toNat 0 = w at *
  obtain ⟨u, rfl⟩ := Int.eq_ofNat_of_zero_le (show 0 ≤ u by omega)
  obtain ⟨w, rfl⟩ := Int.eq_ofNat_of_zero_le (show 0 ≤ w by omega)
  rw [Int.toNat_natCast] at va vb
  rw [show ((u : Int) + (w : Int) + 1).toNat = u + w + 1 by omega]
  have k' : x.k = 3 ∨ x.k = 4 ∨ x.k = 5 ∨ x.k = 6 := by omega
  rcases k' with k' | k' | k' | k'
  ·rw [if_neg (by omega), if_neg (by omega), if_pos k'] at h; cases h
   exact al9 (a := 110 * u) (b := 110 * w) va vb (by omega)
  ·rw [if_neg (by omega), if_neg (by omega), if_neg (by omega), if_pos k'] at h; cases h
   exact al9 (a := 110 * u) (b := 110 * w) va (show Hr (110 * w) (alu q) from ⟨⟨vb.1.1.neg, vb.1.2.neg⟩, vb.2⟩) (by omega)
  ·rw [if_neg (by omega), if_neg (by omega), if_neg (by omega), if_neg (by omega), if_pos k'] at h; cases h
   exact acu (a := 110 * u) (b := 110 * w) va vb (by omega)
  ·rw [if_neg (by omega), if_neg (by omega), if_neg (by omega), if_neg (by omega), if_neg (by omega), if_pos k'] at h; cases h
   exact acu (a := 110 * u) (b := 110 * w) va (show Hr (110 * w) (q.2, q.1) from ⟨vb.2, vb.1⟩) (by omega)
 ·obtain ⟨a0, a1⟩ := fa (by omega)
  obtain ⟨n0, n1⟩ := f7 k
  have e : ik ss x vs.length = ss.getD x.a.toNat 0 * max 1 (min x.n 64) + 1 := by
   unfold ik; rw [if_pos ⟨k, gg.2 ⟨a0, a1⟩⟩]
  rw [e] at hs ⊢
  have sa := hf.s1 x.a.toNat (by omega)
  have va := hf.v x.a.toNat (by omega)
  unfold b9 at h
  rw [if_neg (by omega), if_neg (by omega), if_neg (by omega), if_neg (by omega), if_neg (by omega), if_neg (by omega), if_pos k] at h; cases h
  generalize vs.getD x.a.toNat (ag, ag) = p at *
  generalize ss.getD x.a.toNat 0 = s at *
  obtain ⟨s, rfl⟩ := Int.eq_ofNat_of_zero_le (show 0 ≤ s by omega)
  obtain ⟨n, hn⟩ := Int.eq_ofNat_of_zero_le n0
  rw [hn] at hs n1 ⊢
  rw [Int.toNat_natCast] at va ⊢
  rw [show (max 1 (min (n : Int) 64) : Int) = ((max 1 n : Nat) : Int) by omega] at hs ⊢
  have pr := aej va n
  have g : s * n ≤ s * max 1 n := Nat.mul_le_mul_left s (by omega)
  have e2 : (((s : Int) * ((max 1 n : Nat) : Int) + 1 : Int)).toNat = s * max 1 n + 1 := by
   rw [← Int.natCast_mul]; omega
  rw [e2]
  refine ⟨by rw [← Int.natCast_mul]; omega, Hr.mono pr ?_⟩
  have : (110 * s + 1) * n + 1 = 110 * (s * n) + n + 1 := by rw [Nat.add_mul, Nat.one_mul, Nat.mul_assoc]
  omega
 ·unfold b9 at h
  rw [if_neg (by omega), if_neg (by omega), if_neg (by omega), if_neg (by omega), if_neg (by omega), if_neg (by omega), if_neg (by omega)] at h; cases h
end Go.Ev.Ar
