/- Contracts of the given functions, on data. Conditions stand in each theorem. -/
import Derived.Test.YtagjickjfjgfpaaGreatDoorHAvWDiv
import Derived.Test.YtagjickjfjgfpaaGreatDoorHEvR
import Derived.Test.YtagjickjfjgfpaaGreatDoorHAvQuot
set_option linter.unusedSimpArgs false
set_option linter.unusedVariables false
namespace Go.Ev
open Go
structure Cr where
 re : Rat
 im : Rat
theorem Cr.ext {a b : Cr} (h : a.re = b.re) (k : a.im = b.im) : a = b := by
 cases a; cases b; simp only at h k; rw [h, k]
namespace Cr
def ofQ (r : Rat) : Cr := ⟨r, 0⟩
def pw (z : Cr) : Nat → Cr
 | 0 => ⟨1, 0⟩
 | n + 1 => ⟨(pw z n).re * z.re - (pw z n).im * z.im, (pw z n).re * z.im + (pw z n).im * z.re⟩
instance : Add Cr := ⟨fun a b => ⟨a.re + b.re, a.im + b.im⟩⟩
instance : Mul Cr := ⟨fun a b => ⟨a.re * b.re - a.im * b.im, a.re * b.im + a.im * b.re⟩⟩
instance : Neg Cr := ⟨fun a => ⟨-a.re, -a.im⟩⟩
instance : Sub Cr := ⟨fun a b => ⟨a.re - b.re, a.im - b.im⟩⟩
instance : NatCast Cr := ⟨fun n => ⟨(n : Rat), 0⟩⟩
instance : IntCast Cr := ⟨fun n => ⟨(n : Rat), 0⟩⟩
instance (n : Nat) : OfNat Cr n := ⟨⟨(n : Rat), 0⟩⟩
instance : HPow Cr Nat Cr := ⟨pw⟩
instance : SMul Nat Cr := ⟨fun n a => ⟨(n : Rat) * a.re, (n : Rat) * a.im⟩⟩
instance : SMul Int Cr := ⟨fun n a => ⟨(n : Rat) * a.re, (n : Rat) * a.im⟩⟩
theorem w9 (a b : Cr) : (a + b).re = a.re + b.re := rfl
theorem w8 (a b : Cr) : (a + b).im = a.im + b.im := rfl
theorem kf (a b : Cr) : (a * b).re = a.re * b.re - a.im * b.im := rfl
theorem ke (a b : Cr) : (a * b).im = a.re * b.im + a.im * b.re := rfl
theorem apu (a : Cr) : (-a).re = -a.re := rfl
theorem apt (a : Cr) : (-a).im = -a.im := rfl
theorem a4d (a b : Cr) : (a - b).re = a.re - b.re := rfl
theorem a4c (a b : Cr) : (a - b).im = a.im - b.im := rfl
theorem axk (n : Nat) : ((n : Cr)).re = (n : Rat) := rfl
theorem axj (n : Nat) : ((n : Cr)).im = 0 := rfl
theorem a3t (n : Nat) : (OfNat.ofNat n : Cr).re = ((n : Nat) : Rat) := rfl
theorem a3s (n : Nat) : (OfNat.ofNat n : Cr).im = 0 := rfl
theorem agu : (1 : Cr).re = 1 := rfl
theorem agt : (1 : Cr).im = 0 := rfl
theorem aca : (0 : Cr).re = 0 := rfl
theorem ab9 : (0 : Cr).im = 0 := rfl
instance : Lean.Grind.CommRing Cr where
 add_zero a := Cr.ext (Rat.add_zero _) (Rat.add_zero _)
 add_comm a b := Cr.ext (Rat.add_comm _ _) (Rat.add_comm _ _)
 add_assoc a b c := Cr.ext (Rat.add_assoc _ _ _) (Rat.add_assoc _ _ _)
 mul_assoc a b c := Cr.ext (by simp only [kf, ke]; grind) (by simp only [kf, ke]; grind)
 mul_one a := Cr.ext (by simp only [kf, ke, agu, agt]; grind) (by simp only [kf, ke, agu, agt]; grind)
 one_mul a := Cr.ext (by simp only [kf, ke, agu, agt]; grind) (by simp only [kf, ke, agu, agt]; grind)
 left_distrib a b c := Cr.ext (by simp only [kf, ke, w9, w8]; grind) (by simp only [kf, ke, w9, w8]; grind)
 right_distrib a b c := Cr.ext (by simp only [kf, ke, w9, w8]; grind) (by simp only [kf, ke, w9, w8]; grind)
 zero_mul a := Cr.ext (by simp only [kf, ke, aca, ab9]; grind) (by simp only [kf, ke, aca, ab9]; grind)
 mul_zero a := Cr.ext (by simp only [kf, ke, aca, ab9]; grind) (by simp only [kf, ke, aca, ab9]; grind)
 pow_zero a := rfl
 pow_succ a n := rfl
 ofNat_succ n := Cr.ext (by simp only [w9, a3t, agu]; exact Rat.natCast_add n 1) (by simp only [w8, a3s, agt]; grind)
 ofNat_eq_natCast n := rfl
 nsmul_eq_natCast_mul n a := Cr.ext (by simp only [kf, axk, axj]; show (n : Rat) * a.re = _; grind) (by simp only [ke, axk, axj]; show (n : Rat) * a.im = _; grind)
 neg_add_cancel a := Cr.ext (by simp only [w9, apu, aca]; grind) (by simp only [w8, apt, ab9]; grind)
 sub_eq_add_neg a b := Cr.ext (by simp only [w9, apu, a4d]; grind) (by simp only [w8, apt, a4c]; grind)
 neg_zsmul i a := Cr.ext (by show ((-i : Int) : Rat) * a.re = -((i : Rat) * a.re); rw [Rat.intCast_neg]; grind) (by show ((-i : Int) : Rat) * a.im = -((i : Rat) * a.im); rw [Rat.intCast_neg]; grind)
 zsmul_natCast_eq_nsmul n a := Cr.ext rfl rfl
 intCast_ofNat n := rfl
 intCast_neg i := Cr.ext (by show ((-i : Int) : Rat) = -(i : Rat); exact Rat.intCast_neg i) (by show (0 : Rat) = -0; grind)
 mul_comm a b := Cr.ext (by simp only [kf]; grind) (by simp only [ke]; grind)
end Cr
def qab (r : Rat) : Rat := if r < 0 then -r else r
theorem ap6 {r s : Rat} : qab r ≤ s ↔ -s ≤ r ∧ r ≤ s := by unfold qab; grind
theorem asr (r s : Rat) : qab (r + s) ≤ qab r + qab s := by unfold qab; grind
theorem ass (r : Rat) : qab (-r) = qab r := by unfold qab; grind
theorem ang : qab 0 = 0 := by unfold qab; grind
theorem aya {r : Rat} (h : 0 ≤ r) : qab r = r := by unfold qab; grind
theorem za {a b : Rat} (ha : 0 ≤ a) (hb : 0 ≤ b) : 0 ≤ a * b := Rat.mul_nonneg ha hb
theorem ak2 {a b c d : Rat} (ha : 0 ≤ a) (hab : a ≤ b) (hc : 0 ≤ c) (hcd : c ≤ d) : a * c ≤ b * d := by
 have h1 := Rat.mul_le_mul_of_nonneg_right hab hc
 have h2 := Rat.mul_le_mul_of_nonneg_left hcd (show 0 ≤ b by grind)
 grind
def nrm (z : Cr) : Rat := qab z.re + qab z.im
theorem ar8 (a b : Cr) : nrm (a + b) ≤ nrm a + nrm b := by
 unfold nrm; rw [Cr.w9, Cr.w8]
 have := asr a.re b.re; have := asr a.im b.im; grind
theorem a08 (a : Cr) : nrm (-a) = nrm a := by unfold nrm; rw [Cr.apu, Cr.apt, ass, ass]
end Go.Ev

namespace Go.Ev
open Go
def sm (f : Nat → Cr) : Nat → Cr
 | 0 => f 0
 | n + 1 => sm f n + f (n + 1)
def iq (k : Nat) : Cr := Cr.ofQ (1 / (k : Rat))
def et (z : Cr) : Nat → Cr
 | 0 => 1
 | k + 1 => z * et z k * iq (k + 1)
def en (n : Nat) (z : Cr) : Cr := sm (et z) n
def pq (d : Rat) : Nat → Rat
 | 0 => 1
 | k + 1 => d * pq d k
theorem aso {d : Rat} (h : 0 ≤ d) : ∀ k, 0 ≤ pq d k
 | 0 => by rw [pq]; decide
 | k + 1 => by rw [pq]; exact za h (aso h k)
theorem ax9 (d : Rat) (m : Nat) : ∀ n, pq d (m + n) = pq d m * pq d n
 | 0 => by rw [pq]; show pq d m = _; grind
 | n + 1 => by show pq d (m + n + 1) = _; rw [pq, pq, ax9 d m n]; grind
end Go.Ev

namespace Go.Ev
open Go
def Sm (f : Nat → Rat) : Prop := ∀ e : Rat, 0 < e → ∃ T : Nat, ∀ n, T ≤ n → f n ≤ e
theorem Sm.mono {f g : Nat → Rat} (h : Sm g) (k : ∀ n, f n ≤ g n) : Sm f := fun e he => by
 obtain ⟨T, hT⟩ := h e he
 exact ⟨T, fun n hn => by have := hT n hn; have := k n; grind⟩
theorem Sm.add {f g : Nat → Rat} (h : Sm f) (k : Sm g) : Sm (fun n => f n + g n) := fun e he => by
 obtain ⟨T, hT⟩ := h (e / 2) (by grind)
 obtain ⟨T', hT'⟩ := k (e / 2) (by grind)
 exact ⟨T + T', fun n hn => by have := hT n (by omega); have := hT' n (by omega); grind⟩
theorem ars : ∀ k : Nat, ((k : Nat) : Rat) * pq (1 / 2) k + pq (1 / 2) k ≤ 1
 | 0 => by show ((0 : Nat) : Rat) * 1 + 1 ≤ 1; grind
 | k + 1 => by
  have ih := ars k
  have h := aso (show (0 : Rat) ≤ 1 / 2 by grind) k
  have hk : (0 : Rat) ≤ ((k : Nat) : Rat) := by exact_mod_cast Nat.zero_le k
  have h2 := za hk h
  rw [pq, Rat.natCast_add]
  grind
def Cl (u v : Nat → Cr) : Prop := Sm (fun n => nrm (u n - v n))
theorem Cl.symm {u v : Nat → Cr} (h : Cl u v) : Cl v u := Sm.mono h fun n => by
 show nrm (v n - u n) ≤ nrm (u n - v n)
 rw [show v n - u n = -(u n - v n) by grind, a08]; exact Rat.le_refl
theorem Cl.trans {u v w : Nat → Cr} (h : Cl u v) (k : Cl v w) : Cl u w := (h.add k).mono fun n => by
 show nrm (u n - w n) ≤ nrm (u n - v n) + nrm (v n - w n)
 have := ar8 (u n - v n) (v n - w n)
 rwa [show u n - v n + (v n - w n) = u n - w n by grind] at this
theorem Cl.add {u v u' v' : Nat → Cr} (h : Cl u v) (k : Cl u' v') : Cl (fun n => u n + u' n) (fun n => v n + v' n) := (Sm.add h k).mono fun n => by
 show nrm (u n + u' n - (v n + v' n)) ≤ nrm (u n - v n) + nrm (u' n - v' n)
 have := ar8 (u n - v n) (u' n - v' n)
 rwa [show u n - v n + (u' n - v' n) = u n + u' n - (v n + v' n) by grind] at this
def sqr : Nat → Cr → Cr
 | 0, z => z
 | k + 1, z => sqr k z * sqr k z
def gx (z : Cr) (n : Nat) : Cr := sqr 16 (en n z)
end Go.Ev

namespace Go.Ev
open Go
def er (n : Nat) (y : Rat) : Rat := (en n (Cr.ofQ y)).re
def gr (y : Rat) (n : Nat) : Rat := (gx (Cr.ofQ y) n).re
def N2 (z : Cr) : Rat := z.re * z.re + z.im * z.im
end Go.Ev

namespace Go.Ev
open Go
def qmx (p q : Rat) : Rat := if q ≤ p then p else q
theorem wx {p q : Dyadic} : p.toRat ≤ q.toRat ↔ p ≤ q := Dyadic.toRat_le_toRat_iff
theorem a31 (p q : Dyadic) : (mx p q).toRat = qmx p.toRat q.toRat := by
 unfold mx qmx
 by_cases h : q ≤ p
 ·rw [if_pos h, if_pos (wx.2 h)]
 ·rw [if_neg h, if_neg (fun g => h (wx.1 g))]
theorem zu (p q : Dyadic) : (p + q).toRat = p.toRat + q.toRat := Dyadic.toRat_add ..
theorem eo (p q : Dyadic) : (p * q).toRat = p.toRat * q.toRat := Dyadic.toRat_mul ..
theorem uh (p : Dyadic) : (-p).toRat = -p.toRat := Dyadic.toRat_neg ..
theorem fq : (0 : Dyadic).toRat = 0 := Dyadic.toRat_zero
def a32 (z : Cq) (r : Rat) : Prop := z.1.toRat ≤ r ∧ r ≤ z.2.toRat
def Mm (f : Nat → Rat) (z : Cq) : Prop := Sm (fun n => f n - z.2.toRat) ∧ Sm (fun n => z.1.toRat - f n)
theorem Mm.of {f : Nat → Rat} {z : Cq} (T : Nat) (h : ∀ n, T ≤ n → a32 z (f n)) : Mm f z :=
 ⟨fun e he => ⟨T, fun n hn => by have := (h n hn).2; show f n - z.2.toRat ≤ e; grind⟩, fun e he => ⟨T, fun n hn => by have := (h n hn).1; show z.1.toRat - f n ≤ e; grind⟩⟩
theorem Mm.in {f : Nat → Rat} {z w : Cq} (h : Mm f z) (k : iin z w) : Mm f w :=
 ⟨h.1.mono fun n => by have := wx.2 k.2; show f n - w.2.toRat ≤ f n - z.2.toRat; grind, h.2.mono fun n => by have := wx.2 k.1; show w.1.toRat - f n ≤ z.1.toRat - f n; grind⟩
end Go.Ev

namespace Go.Ev
open Go
theorem Mm.add {f g : Nat → Rat} {z w : Cq} (hz : Mm f z) (hw : Mm g w) : Mm (fun n => f n + g n) (js z w) :=
 ⟨(hz.1.add hw.1).mono fun n => by
  show f n + g n - (js z w).2.toRat ≤ f n - z.2.toRat + (g n - w.2.toRat)
  unfold js; dsimp only; rw [zu]; grind, (hz.2.add hw.2).mono fun n => by
  show (js z w).1.toRat - (f n + g n) ≤ z.1.toRat - f n + (w.1.toRat - g n)
  unfold js; dsimp only; rw [zu]; grind⟩
end Go.Ev

namespace Go.Ev.Ar
open Go Go.Ev Go.Proofs
theorem me {a b : Cq} (ha : a ≠ (0, 0)) (hb : b ≠ (0, 0)) : ar a b ≠ (0, 0) := by
 intro h
 have h1 := congrArg Prod.fst h
 have h2 := congrArg Prod.snd h
 unfold ar at h1 h2
 dsimp only at h1 h2
 have e : (a.1 * a.1 + a.2 * a.2) * (b.1 * b.1 + b.2 * b.2) = 0 := by
  have : (a.1 * a.1 + a.2 * a.2) * (b.1 * b.1 + b.2 * b.2) = (a.1 * b.1 - a.2 * b.2) * (a.1 * b.1 - a.2 * b.2) + (a.1 * b.2 + a.2 * b.1) * (a.1 * b.2 + a.2 * b.1) := by grind
  rw [this, h1, h2]; grind
 have pos : ∀ c : Cq, c ≠ (0, 0) → 0 < (c.1 * c.1 + c.2 * c.2).toRat := fun c hc => by
  rw [zu, eo, eo]
  have sq : ∀ r : Rat, 0 ≤ r * r := fun r => by
   rcases Classical.em (0 ≤ r) with g | g
   ·exact za g g
   ·have := za (show 0 ≤ -r by grind) (show 0 ≤ -r by grind); grind
  have s1 := sq c.1.toRat
  have s2 := sq c.2.toRat
  rcases Classical.em (c.1.toRat * c.1.toRat + c.2.toRat * c.2.toRat = 0) with g | g
  ·exfalso
   have z1 : c.1.toRat * c.1.toRat = 0 := by grind
   have z2 : c.2.toRat * c.2.toRat = 0 := by grind
   have y1 : c.1.toRat = 0 := by grind
   have y2 : c.2.toRat = 0 := by grind
   exact hc (Prod.ext (Dyadic.toRat_inj.1 (by rw [y1]; exact fq.symm)) (Dyadic.toRat_inj.1 (by rw [y2]; exact fq.symm)))
  ·grind
 have p1 := pos a ha
 have p2 := pos b hb
 have := Rat.mul_pos p1 p2
 rw [← eo, e, fq] at this
 grind
theorem ak8 {p : Rq} (h : p.2 ≠ (0, 0)) : ∀ j, (rm p j).2 ≠ (0, 0)
 | 0 => by show ((1, 0) : Cq) ≠ (0, 0); decide
 | j + 1 => me (ak8 h j) h
theorem adh {a b c : Nat} {p q : Rq} (hp : Hr a p) (hq : Hr b q) (hc : a + b < c) : Hr c (mw p q) := ⟨Hc.ar hp.1 hq.1 hc, Hc.ar hp.2 hq.2 hc⟩
theorem se (a : Nat) (h : 1 ≤ a) : Hc a ai := ⟨Ht.one.mono h, .zero _⟩
theorem ae2 {s : Nat} {p : Rq} (hp : Hr (110 * s) p) : ∀ j, Hr ((110 * s + 1) * j + 1) (rm p j)
 | 0 => ⟨se _ (by omega), se _ (by omega)⟩
 | j + 1 => adh (ae2 hp j) hp (by rw [Nat.mul_add]; omega)
theorem ans {a b c : Nat} {p q : Rq} (hp : Hr a p) (hq : Hr b q) (hc : a + b + 2 ≤ c) : Hr c (wj p q) := by
 unfold wj
 split
 ·exact ⟨⟨hp.1.1.add hq.1.1 (by omega), hp.1.2.add hq.1.2 (by omega)⟩, hp.2.mono (by omega)⟩
 ·have u : Hc (a + b + 1) (ar p.1 q.2) := Hc.ar hp.1 hq.2 (by omega)
  have v : Hc (a + b + 1) (ar q.1 p.2) := Hc.ar hq.1 hp.2 (by omega)
  exact ⟨⟨u.1.add v.1 (by omega), u.2.add v.2 (by omega)⟩, Hc.ar hp.2 hq.2 (by omega)⟩
theorem ik {x : Nd} {i : Nat} (h : dy x i = true) : 1 ≤ x.k ∧ x.k ≤ 10 ∧ ((3 ≤ x.k ∧ x.k ≤ 10) → 0 ≤ x.a ∧ x.a < i) ∧ ((3 ≤ x.k ∧ x.k ≤ 6) → 0 ≤ x.b ∧ x.b < i) ∧ (¬ (3 ≤ x.k ∧ x.k ≤ 10) → x.a = 0) ∧ (¬ (3 ≤ x.k ∧ x.k ≤ 6) → x.b = 0) ∧ (x.k = 7 → 0 ≤ x.n ∧ x.n ≤ 64) ∧ (x.k = 2 → kq x.r.b x.r.l x.r.e = true ∧ kq x.r.c x.r.k x.r.f = true) := by
 unfold dy blB at h
 simp only [Bool.and_eq_true, Bool.or_eq_true, decide_eq_true_eq, Bool.not_eq_true', decide_eq_false_iff_not] at h
 obtain ⟨⟨⟨⟨h1, h2⟩, h3⟩, h4⟩, h5⟩ := h
 refine ⟨h1.1, h1.2, by grind, by grind, by grind, by grind, fun e => ?_, fun e => ?_⟩
 ·rw [if_pos e] at h5; exact of_decide_eq_true h5
 ·rw [if_neg (by omega), Bool.and_eq_true] at h5; exact h5
theorem dg {a : Int} {i : Nat} : inA a i = true ↔ 0 ≤ a ∧ a < i := by unfold inA; exact decide_eq_true_iff
theorem n4 {α : Type} {l : List α} {x d : α} {j : Nat} (h : j < l.length) : (l ++ [x]).getD j d = l.getD j d := by
 rw [List.getD_eq_getElem?_getD, List.getElem?_append_left h, ← List.getD_eq_getElem?_getD]
theorem gf {α : Type} {l : List α} {x d : α} : (l ++ [x]).getD l.length d = x := by simp
structure Fit (ss : List Int) (vs : List Rq) : Prop where
 len : ss.length = vs.length
 s1 : ∀ j, j < vs.length → 1 ≤ ss.getD j 0 ∧ ss.getD j 0 ≤ 60
 v : ∀ j, j < vs.length → Hr (110 * (ss.getD j 0).toNat) (vs.getD j (ai, ai))
 nz : ∀ j, j < vs.length → (vs.getD j (ai, ai)).2 ≠ (0, 0)
theorem Fit.add {ss : List Int} {vs : List Rq} {s : Int} {r : Rq} (h : Fit ss vs) (h1 : 1 ≤ s ∧ s ≤ 60) (hr : Hr (110 * s.toNat) r) (hn : r.2 ≠ (0, 0)) : Fit (ss ++ [s]) (vs ++ [r]) := by
 have key : ∀ j, j < (vs ++ [r]).length → j < vs.length ∨ j = vs.length := fun j hj => by rw [List.length_append] at hj; simp at hj; omega
 refine ⟨by simp [h.len], fun j hj => ?_, fun j hj => ?_, fun j hj => ?_⟩
 ·rcases key j hj with g | rfl
  ·rw [n4 (by rw [h.len]; exact g)]; exact h.s1 j g
  ·rw [← h.len, gf]; exact h1
 ·rcases key j hj with g | rfl
  ·rw [n4 (by rw [h.len]; exact g), n4 g]; exact h.v j g
  ·rw [gf, ← h.len, gf]; exact hr
 ·rcases key j hj with g | rfl
  ·rw [n4 g]; exact h.nz j g
  ·rw [gf]; exact hn
theorem Fit.nil : Fit [] [] := ⟨rfl, fun j h => absurd h (by simp), fun j h => absurd h (by simp), fun j h => absurd h (by simp)⟩
theorem am0 {ss : List Int} {vs : List Rq} {x : Nd} {z : Cq} {r : Rq} (hf : Fit ss vs) (hx : dy x vs.length = true) (hz : Hc 104 z) (hc : Hc 104 x.r.val) (hs : ef ss x vs.length ≤ 60) (h : jn vs x z = some r) : 1 ≤ ef ss x vs.length ∧ Hr (110 * (ef ss x vs.length).toNat) r := by
 obtain ⟨k1, k10, fa, fb, _, _, f7, _⟩ := ik hx
 have one1 : Hc 110 ai := se _ (by decide)
 have k : x.k = 1 ∨ x.k = 2 ∨ (3 ≤ x.k ∧ x.k ≤ 6) ∨ x.k = 7 ∨ 8 ≤ x.k := by omega
 rcases k with k | k | k | k | k
 ·unfold ef; rw [if_neg (by omega), if_neg (by omega), if_neg (by omega)]
  unfold jn at h; rw [if_pos k] at h; cases h
  exact ⟨by omega, hz.mono (by decide), one1.mono (by decide)⟩
 ·unfold ef; rw [if_neg (by omega), if_neg (by omega), if_neg (by omega)]
  unfold jn at h; rw [if_neg (by omega), if_pos k] at h; cases h
  exact ⟨by omega, hc.mono (by decide), one1.mono (by decide)⟩
 ·obtain ⟨a0, a1⟩ := fa (by omega)
  obtain ⟨b0, b1⟩ := fb k
  have e : ef ss x vs.length = ss.getD x.a.toNat 0 + ss.getD x.b.toNat 0 + 1 := by
   unfold ef; rw [if_neg (by omega), if_pos ⟨k, dg.2 ⟨a0, a1⟩, dg.2 ⟨b0, b1⟩⟩]
  rw [e] at hs ⊢
  have sa := hf.s1 x.a.toNat (by omega)
  have sb := hf.s1 x.b.toNat (by omega)
  have va := hf.v x.a.toNat (by omega)
  have vb := hf.v x.b.toNat (by omega)
  refine ⟨by omega, ?_⟩
  unfold jn at h
  generalize vs.getD x.a.toNat (ai, ai) = p at *
  generalize vs.getD x.b.toNat (ai, ai) = q at *
  generalize ss.getD x.a.toNat 0 = u at *
  generalize ss.getD x.b.toNat 0 = w at *
  obtain ⟨u, rfl⟩ := Int.eq_ofNat_of_zero_le (show 0 ≤ u by omega)
  obtain ⟨w, rfl⟩ := Int.eq_ofNat_of_zero_le (show 0 ≤ w by omega)
  rw [Int.toNat_natCast] at va vb
  rw [show ((u : Int) + (w : Int) + 1).toNat = u + w + 1 by omega]
  have k' : x.k = 3 ∨ x.k = 4 ∨ x.k = 5 ∨ x.k = 6 := by omega
  rcases k' with k' | k' | k' | k'
  ·rw [if_neg (by omega), if_neg (by omega), if_pos k'] at h; cases h
   exact ans (a := 110 * u) (b := 110 * w) va vb (by omega)
  ·rw [if_neg (by omega), if_neg (by omega), if_neg (by omega), if_pos k'] at h; cases h
   exact ans (a := 110 * u) (b := 110 * w) va (show Hr (110 * w) (ap8 q) from ⟨⟨vb.1.1.neg, vb.1.2.neg⟩, vb.2⟩) (by omega)
  ·rw [if_neg (by omega), if_neg (by omega), if_neg (by omega), if_neg (by omega), if_pos k'] at h; cases h
   exact adh (a := 110 * u) (b := 110 * w) va vb (by omega)
  ·rw [if_neg (by omega), if_neg (by omega), if_neg (by omega), if_neg (by omega), if_neg (by omega), if_pos k'] at h; cases h
   exact adh (a := 110 * u) (b := 110 * w) va (show Hr (110 * w) (q.2, q.1) from ⟨vb.2, vb.1⟩) (by omega)
 ·obtain ⟨a0, a1⟩ := fa (by omega)
  obtain ⟨n0, n1⟩ := f7 k
  have e : ef ss x vs.length = ss.getD x.a.toNat 0 * max 1 (min x.n 64) + 1 := by
   unfold ef; rw [if_pos ⟨k, dg.2 ⟨a0, a1⟩⟩]
  rw [e] at hs ⊢
  have sa := hf.s1 x.a.toNat (by omega)
  have va := hf.v x.a.toNat (by omega)
  unfold jn at h
  rw [if_neg (by omega), if_neg (by omega), if_neg (by omega), if_neg (by omega), if_neg (by omega), if_neg (by omega), if_pos k] at h; cases h
  generalize vs.getD x.a.toNat (ai, ai) = p at *
  generalize ss.getD x.a.toNat 0 = s at *
  obtain ⟨s, rfl⟩ := Int.eq_ofNat_of_zero_le (show 0 ≤ s by omega)
  obtain ⟨n, hn⟩ := Int.eq_ofNat_of_zero_le n0
  rw [hn] at hs n1 ⊢
  rw [Int.toNat_natCast] at va ⊢
  rw [show (max 1 (min (n : Int) 64) : Int) = ((max 1 n : Nat) : Int) by omega] at hs ⊢
  have pr := ae2 va n
  have g : s * n ≤ s * max 1 n := Nat.mul_le_mul_left s (by omega)
  have e2 : (((s : Int) * ((max 1 n : Nat) : Int) + 1 : Int)).toNat = s * max 1 n + 1 := by
   rw [← Int.natCast_mul]; omega
  rw [e2]
  refine ⟨by rw [← Int.natCast_mul]; omega, Hr.mono pr ?_⟩
  have : (110 * s + 1) * n + 1 = 110 * (s * n) + n + 1 := by rw [Nat.add_mul, Nat.one_mul, Nat.mul_assoc]
  omega
 ·unfold jn at h
  rw [if_neg (by omega), if_neg (by omega), if_neg (by omega), if_neg (by omega), if_neg (by omega), if_neg (by omega), if_neg (by omega)] at h; cases h
end Go.Ev.Ar

namespace Go.Ev.Ar
open Go Go.Ev Go.Proofs
theorem m9 {vs : List Rq} {n : Nat} {a : Int} {o : Option Rq} (h0 : 0 ≤ a) (h1 : a.toNat < n) (hv : vs.length ≤ n) (h : (a9 vs n).getD a.toNat none = o) : ((fa oc (a9 vs n)).drop (0 + a.toNat * 12)).take 12 = (oc o).map A.d := by
 have := tv (f := oc) (k := 12) aks none (a9 vs n) a.toNat (by rw [x6 hv]; exact h1)
 rw [Int.toNat_natCast] at this
 rw [this, h]
theorem abw {vs : List Rq} {n : Nat} (r : Rq) (h : vs.length < n) : setAt (fa oc (a9 vs n)) (0 + ((vs.length : Nat) : Int).toNat * 12) ((oc (some r)).map A.d) = fa oc (a9 (vs ++ [r]) n) := by
 have := aco (f := oc) (k := 12) aks (a9 vs n) vs.length (some r) (by rw [x6 (by omega)]; exact h)
 rw [this, aha r h]
theorem a3r {vs : List Rq} {n : Nat} (r s : Rq) (h : vs.length < n) : setAt (fa oc (a9 (vs ++ [s]) n)) (0 + ((vs.length : Nat) : Int).toNat * 12) ((oc (some r)).map A.d) = fa oc (a9 (vs ++ [r]) n) := by
 have := aco (f := oc) (k := 12) aks (a9 (vs ++ [s]) n) vs.length (some r) (by rw [x6 (by simp; omega)]; exact h)
 rw [this, ← aha s h, List.set_set, aha r h]
theorem qz {vs : List Rq} {n : Nat} (r : Rq) (h : vs.length < n) : ((fa oc (a9 (vs ++ [r]) n)).drop (0 + ((vs.length : Nat) : Int).toNat * 12)).take 12 = (oc (some r)).map A.d :=
 m9 (by omega) (by rw [Int.toNat_natCast]; exact h) (by simp; omega) (by rw [Int.toNat_natCast, eh (by simp), gf])
theorem akr {vs : List Rq} {n : Nat} (h : vs.length ≤ n) : (fa oc (a9 vs n)).length = n * 12 := by rw [du aks, x6 h]
theorem amv (n : Nat) : jb (n : Int).toNat (nc [.bool, .nil, .int .i64, .bool, .nil, .int .i64, .bool, .nil, .int .i64, .bool, .nil, .int .i64]) = fa oc (a9 [] n) := by rw [Int.toNat_natCast]; exact a25 n
theorem az {α : Type} (ks : List Nat) (k : Nat) (f : Bool) (g : α → List D) (l : List α) (h : List (Nat × Bool × List A)) (H : h.all (fun x => A.a6 ks x.2.2) = true) : List.all ((k, f, fa g l) :: h) (fun x => A.a6 ks x.2.2) = true := by
 rw [List.all_cons, H, fa, A.dd]; rfl
theorem qq {ks : List Nat} {k : Nat} {f : Bool} {l : List A} {h : List (Nat × Bool × List A)} (h1 : A.a6 ks l = true) (H : h.all (fun x => A.a6 ks x.2.2) = true) : List.all ((k, f, l) :: h) (fun x => A.a6 ks x.2.2) = true := by
 rw [List.all_cons, H, h1]; rfl
theorem sd {vs : List Rq} {n : Nat} (h : vs.length < n) : 0 + ((vs.length : Nat) : Int).toNat * 12 + 12 ≤ (fa oc (a9 vs n)).length := by rw [akr (by omega), Int.toNat_natCast]; omega
theorem a3q {vs : List Rq} {n : Nat} (r : Rq) (h : vs.length < n) : 0 + ((vs.length : Nat) : Int).toNat * 12 + 12 ≤ (fa oc (a9 (vs ++ [r]) n)).length := by rw [akr (by simp; omega), Int.toNat_natCast]; omega
def exR (o : Option (List Rq)) : D := match o with
 | some vs => .tup [cxD (vs.getD (vs.length - 1) (ai, ai)).1, cxD (vs.getD (vs.length - 1) (ai, ai)).2, .bool true]
 | none => .tup [cxD (0, 0), cxD (0, 0), .bool false]
theorem a24 (o : Option (List Rq)) : (exR o).sc = false := by cases o <;> rfl
theorem abb : D.tup [.agg [.bool false, sl [], .int .i64 0, .bool false, sl [], .int .i64 0], .agg [.bool false, sl [], .int .i64 0, .bool false, sl [], .int .i64 0], .bool false] = exR none := by
 unfold exR; rw [od]
theorem awk {xs : List Nd} {z : Cq} {i : Nat} {vs : List Rq} {x : Nd} {r : Rq} (h : exL xs z i = some vs) (hx : xs.getD i Nd.nil = x) (hv : jn vs x z = some r) (hr : r.2 ≠ (0, 0)) : exL xs z (i + 1) = some (vs ++ [r]) := by
 unfold exL; rw [h, hx]; show (abr vs x z).map _ = _
 unfold abr; rw [hv]; show Option.map _ (if r.2 = (0, 0) then none else some r) = _
 rw [if_neg hr]; rfl
theorem a23 {xs : List Nd} {z : Cq} {i n : Nat} {vs : List Rq} {x : Nd} (h : exL xs z i = some vs) (hx : xs.getD i Nd.nil = x) (hv : abr vs x z = none) (hi : i < n) : exL xs z n = none := by
 refine amb (i := i + 1) ?_ hi
 unfold exL; rw [h, hx]; show (abr vs x z).map _ = _
 rw [hv]; rfl
theorem n7 : ai ≠ (0, 0) := by decide
theorem anu {p q : Rq} (hp : p.2 ≠ (0, 0)) (hq : q.2 ≠ (0, 0)) : (wj p q).2 ≠ (0, 0) := by
 unfold wj; split
 ·exact hp
 ·exact me hp hq
set_option maxRecDepth 10000 in
set_option maxHeartbeats 16000000 in
theorem aq0 {xs : List Nd} {rz : RC} {z : Cq} (hn : xs.length < 2^62) (hl : ∀ x ∈ xs, x.r.l.length < 2^32 ∧ x.r.k.length < 2^32) (hzr : CxR (.agg rz.cells) z) (hz : Hc 104 z) (hc : ∀ i, i < xs.length → Hc 104 (xs.getD i Nd.nil).r.val) (hx : fu xs = true) (hb : ∀ i, i < xs.length → ef (szL xs i) (xs.getD i Nd.nil) i ≤ 60) :
  Sim Tryz.prog G0 false 47 [nsl xs, .agg rz.cells] (exR (exL xs z xs.length)) := by
 have s0 := ud xs hn hl
 rw [hx] at s0
 unfold fu at hx
 simp only [Bool.and_eq_true, decide_eq_true_eq, List.all_eq_true, List.mem_range] at hx
 obtain ⟨⟨n0, n40⟩, hall⟩ := hx
 have s1 : Sim Tryz.prog G0 false 90 [.int .i64 1, .int .i64 0] (cxD ai) := awn 1 0 (by decide) (by decide) (by decide) (by decide)
 have s2 := atr (r := z) 0 hzr (by rw [show min (max (0 : Int) (-20000)) 20000 = 0 by decide, show dof 1 0 = 1 by decide]; exact Prod.ext (by show z.1 * 1 = z.1; grind) (by show z.2 * 1 = z.2; grind))
 obtain ⟨bz, lz, ez, cz', kz, fz⟩ := rz
 refine ao (hs := (a24 _)) af Tryz.func47 ?_
 repeat' ((conv => whnf); first | with_reducible refine ag.data ?_ | refine aa.mk _ _ (s0) ?_ | refine aa.mk _ _ (s1) ?_ | refine EqE.mk _ (amv xs.length) ?_ | refine rgE ?_ | refine Cd.mk rfl ?_ | refine Br.f ?_ | ((with_reducible refine EqE.idS ?_); (refine EqE.fP ?_; (conv => whnf); fail_if_success (show ae _ _))) | refine Cd.ol ?_ | refine Cd.os ?_)
 refine ⟨[], [3, 4, 5, 7, 8, 23, 24, 25], [3, 4, 5, 7, 22], fun m ys h => ∃ (i : Nat) (vs : List Rq), m = xs.length - i ∧ i ≤ xs.length ∧ vs.length = i ∧ exL xs z i = some vs ∧ Fit (szL xs i) vs ∧
   ys = [.ptr 3 0, .ptr 4 0, .ptr 5 0, .ptr 7 0, .own 22 0 xs.length 12, .d (nsl xs), .d (.int .i64 xs.length), .d (.int .i64 i)] ∧
   h = [(22, false, fa oc (a9 vs xs.length)), (7, false, dyC 1 ++ dyC 0), (5, false, zeA ++ zeA), (4, false, zeA ++ zeA), (3, false, [.d (.bool bz), .d (sl lz), .d (.int .i64 ez), .d (.bool cz'), .d (sl kz), .d (.int .i64 fz)])],
  ⟨_, _, _, ⟨.inl rfl, rfl, rfl, az _ _ _ _ _ _ rfl⟩, 0, [], rfl, by omega, rfl, rfl, Fit.nil, rfl, rfl⟩, ?_⟩
 rintro m ys h ⟨i, vs, rfl, hi, hvl, hex, hfit, rfl, rfl⟩
 by_cases hlt : i < xs.length
 ·subst hvl
  have hx' := hall _ hlt
  have hcx := hc _ hlt
  have hsz := hb _ hlt
  have hvr := fun r h => am0 (r := r) hfit hx' hz hcx hsz h
  have fx := ik hx'
  have hstep := fun (r : Rq) hv hr => awk (r := r) hex rfl hv hr
  have hstop := fun hv => a23 (n := xs.length) hex rfl hv hlt
  have hfadd := fun (r : Rq) hv (hr : r.2 ≠ (0, 0)) => hfit.add ⟨(hvr r hv).1, hsz⟩ (hvr r hv).2 hr
  have hszl : szL xs (vs.length + 1) = szL xs vs.length ++ [ef (szL xs vs.length) (xs.getD vs.length Nd.nil) vs.length] := rfl
  rw [← hszl] at hfadd
  have h66 : (ef (szL xs vs.length) (xs.getD vs.length Nd.nil) vs.length).toNat ≤ 60 := by omega
  have hr9 : ∀ r, jn vs (xs.getD vs.length Nd.nil) z = some r → Hr 9000 r := fun r hv => Hr.mono (hvr r hv).2 (by omega)
  have hp9 : ∀ j, j < vs.length → Hr 9000 (vs.getD j (ai, ai)) := fun j hj => Hr.mono (hfit.v j hj) (by have := hfit.s1 j hj; omega)
  have hpw : ∀ a : Int, 0 ≤ a → a.toNat < vs.length → (xs.getD vs.length Nd.nil).k = 7 → (xs.getD vs.length Nd.nil).a = a → ∀ j : Nat, j ≤ (xs.getD vs.length Nd.nil).n.toNat → Hr 9000 (rm (vs.getD a.toNat (ai, ai)) j) := fun a ha0 ha1 hk ha j hj => by
   have sa := hfit.s1 a.toNat ha1
   have va := hfit.v a.toNat ha1
   have f7 := fx.2.2.2.2.2.2.1 hk
   unfold ef at hsz
   rw [if_pos ⟨hk, dg.2 (by rw [ha]; omega)⟩, ha] at hsz
   generalize (szL xs vs.length).getD a.toNat 0 = s at *
   obtain ⟨s, rfl⟩ := Int.eq_ofNat_of_zero_le (show 0 ≤ s by omega)
   obtain ⟨N, hN⟩ := Int.eq_ofNat_of_zero_le f7.1
   rw [hN] at hsz hj f7
   rw [Int.toNat_natCast] at va hj
   rw [show (max 1 (min (N : Int) 64) : Int) = ((max 1 N : Nat) : Int) by omega, ← Int.natCast_mul] at hsz
   have g : s * j ≤ s * max 1 N := Nat.mul_le_mul_left s (by omega)
   refine Hr.mono (ae2 va j) ?_
   have : (110 * s + 1) * j + 1 = 110 * (s * j) + j + 1 := by rw [Nat.add_mul, Nat.one_mul, Nat.mul_assoc]
   omega
  clear hvr hc hb hall hsz h66 hcx
  generalize hxx : xs.getD vs.length Nd.nil = x at *
  obtain ⟨k, a, b, n', ⟨b1, l1, e1, c1, k1, f1⟩⟩ := x
  obtain ⟨kk1, kk10, fa', fb', ga, gb, f7, f2⟩ := fx
  dsimp only at kk1 kk10 fa' fb' ga gb f7 f2 hpw
  have kc : k = 1 ∨ k = 2 ∨ k = 3 ∨ k = 4 ∨ k = 5 ∨ k = 6 ∨ k = 7 ∨ (8 ≤ k ∧ k ≤ 10) := by omega
  have hvl := x6 (vs := vs) (n := xs.length) (by omega)
  rcases kc with rfl | rfl | rfl | rfl | rfl | rfl | rfl | k8
  ·have a0 := ga (by omega)
   have b0 := gb (by omega)
   subst a0 b0
   have hv : jn vs ⟨1, 0, 0, n', ⟨b1, l1, e1, c1, k1, f1⟩⟩ z = some (z, ai) := rfl
   have sF := mr (t := true) (hr9 _ hv) (show (!decide (ai = (0, 0))) = true by decide)
   have S1 := abw (z, ai) hlt
   have T1 := qz (z, ai) hlt
   obtain ⟨o, ho⟩ : ∃ o, (a9 vs xs.length).getD (0 : Int).toNat none = o := ⟨_, rfl⟩
   have L1 := m9 (a := 0) (by omega) (by rw [show (0 : Int).toNat = 0 from rfl]; omega) (show vs.length ≤ xs.length by omega) ho
   cases o
   ·repeat' ((conv => whnf); first | with_reducible refine ag.data ?_ | refine cx.ia (ps := [(12, 5), (12, 6), (12, 7), (12, 8), (12, 9)]) rfl (by kernel_rfl) ?_ rfl | with_reducible refine Br.bt fun _ => ?_ | refine aa.mk _ _ (s2) ?_ | refine Cd.mk (ba xs _ (by omega)) ?_ | ((with_reducible show TkE (List.drop _ (List.flatMap Nd.cells _)) _ _ _); refine TkE.mk _ ((cg xs vs.length hlt).trans (congrArg Nd.cells hxx)) rfl ?_) | ((with_reducible show TkE (fa oc (a9 vs _)) _ _ _); refine TkE.mk _ L1 rfl ?_) | ((with_reducible show TkE (fa oc (a9 (vs ++ _) _)) _ _ _); refine TkE.mk _ T1 rfl ?_) | refine Cd.mk (sd hlt) ?_ | refine an.go _ _ ⟨.inl rfl, rfl, rfl, az _ _ _ _ _ _ rfl⟩ ?_ | refine aa.mk _ _ (sF) ?_ | refine rgE ?_ | refine Cd.mk rfl ?_ | refine Br.t ?_ | refine Br.f ?_ | refine ah.mk _ rfl ?_ | (refine TkE.fL ?_; (conv => whnf); fail_if_success (show ae _ _)) | refine b7.mk (by repeat first | exact True.intro | refine And.intro (by kernel_rfl) ?_) ?_ | ((with_reducible refine EqE.idW ?_); with_reducible refine EqE.mk _ (ax _ (by omega)) ?_) | ((with_reducible refine EqE.idS ?_); first | ((with_reducible show EqE (setAt (fa oc _) _ _) _); refine EqE.mk _ S1 ?_) | (refine EqE.fP ?_; (conv => whnf); fail_if_success (show ae _ _))) | refine Cd.ol ?_ | refine Cd.os ?_)
    exact ⟨_, ⟨vs.length + 1, vs ++ [(z, ai)], rfl, by omega, by simp, hstep _ hv n7, hfadd _ hv n7, rfl, rfl⟩, by omega⟩
   ·rename_i p
    obtain ⟨⟨_, _⟩, ⟨_, _⟩⟩ := p
    repeat' ((conv => whnf); first | with_reducible refine ag.data ?_ | refine cx.ia (ps := [(12, 5), (12, 6), (12, 7), (12, 8), (12, 9)]) rfl (by kernel_rfl) ?_ rfl | with_reducible refine Br.bt fun _ => ?_ | refine aa.mk _ _ (s2) ?_ | refine Cd.mk (ba xs _ (by omega)) ?_ | ((with_reducible show TkE (List.drop _ (List.flatMap Nd.cells _)) _ _ _); refine TkE.mk _ ((cg xs vs.length hlt).trans (congrArg Nd.cells hxx)) rfl ?_) | ((with_reducible show TkE (fa oc (a9 vs _)) _ _ _); refine TkE.mk _ L1 rfl ?_) | ((with_reducible show TkE (fa oc (a9 (vs ++ _) _)) _ _ _); refine TkE.mk _ T1 rfl ?_) | refine Cd.mk (sd hlt) ?_ | refine an.go _ _ ⟨.inl rfl, rfl, rfl, az _ _ _ _ _ _ rfl⟩ ?_ | refine aa.mk _ _ (sF) ?_ | refine rgE ?_ | refine Cd.mk rfl ?_ | refine Br.t ?_ | refine Br.f ?_ | refine ah.mk _ rfl ?_ | (refine TkE.fL ?_; (conv => whnf); fail_if_success (show ae _ _)) | refine b7.mk (by repeat first | exact True.intro | refine And.intro (by kernel_rfl) ?_) ?_ | ((with_reducible refine EqE.idW ?_); with_reducible refine EqE.mk _ (ax _ (by omega)) ?_) | ((with_reducible refine EqE.idS ?_); first | ((with_reducible show EqE (setAt (fa oc _) _ _) _); refine EqE.mk _ S1 ?_) | (refine EqE.fP ?_; (conv => whnf); fail_if_success (show ae _ _))) | refine Cd.ol ?_ | refine Cd.os ?_)
    exact ⟨_, ⟨vs.length + 1, vs ++ [(z, ai)], rfl, by omega, by simp, hstep _ hv n7, hfadd _ hv n7, rfl, rfl⟩, by omega⟩
  ·have a0 := ga (by omega)
   have b0 := gb (by omega)
   subst a0 b0
   obtain ⟨d1, d2⟩ := f2 rfl
   obtain ⟨q1, q2, q3, _⟩ := nn d1
   obtain ⟨q4, q5, q6, _⟩ := nn d2
   have hv : jn vs ⟨2, 0, 0, n', ⟨b1, l1, e1, c1, k1, f1⟩⟩ z = some ((dof (zv b1 l1) e1, dof (zv c1 k1) f1), ai) := rfl
   have h9 := hr9 _ hv
   have hst := hstep _ hv n7
   have hfa := hfadd _ hv n7
   clear hr9 hp9 hpw hstep hfadd hstop d1 d2 f2 hv
   generalize dof (zv b1 l1) e1 = u at *
   generalize dof (zv c1 k1) f1 = v at *
   subst q1 q2 q3 q4 q5 q6
   have sF := mr (t := true) h9 (show (!decide (ai = (0, 0))) = true by decide)
   have S1 := abw ((u, v), ai) hlt
   have T1 := qz ((u, v), ai) hlt
   obtain ⟨o, ho⟩ : ∃ o, (a9 vs xs.length).getD (0 : Int).toNat none = o := ⟨_, rfl⟩
   have L1 := m9 (a := 0) (by omega) (by rw [show (0 : Int).toNat = 0 from rfl]; omega) (show vs.length ≤ xs.length by omega) ho
   cases o
   ·repeat' ((conv => whnf); first | with_reducible refine ag.data ?_ | refine cx.ia (ps := [(12, 5), (12, 6), (12, 7), (12, 8), (12, 9)]) rfl (by kernel_rfl) ?_ rfl | with_reducible refine Br.bt fun _ => ?_ | refine Cd.mk (ba xs _ (by omega)) ?_ | ((with_reducible show TkE (List.drop _ (List.flatMap Nd.cells _)) _ _ _); refine TkE.mk _ ((cg xs vs.length hlt).trans (congrArg Nd.cells hxx)) rfl ?_) | ((with_reducible show TkE (fa oc (a9 vs _)) _ _ _); refine TkE.mk _ L1 rfl ?_) | ((with_reducible show TkE (fa oc (a9 (vs ++ _) _)) _ _ _); refine TkE.mk _ T1 rfl ?_) | refine Cd.mk (sd hlt) ?_ | refine an.go _ _ ⟨.inl rfl, rfl, rfl, az _ _ _ _ _ _ rfl⟩ ?_ | refine aa.mk _ _ (sF) ?_ | refine rgE ?_ | refine Cd.mk rfl ?_ | refine Br.t ?_ | refine Br.f ?_ | refine ah.mk _ rfl ?_ | (refine TkE.fL ?_; (conv => whnf); fail_if_success (show ae _ _)) | refine b7.mk (by repeat first | exact True.intro | refine And.intro (by kernel_rfl) ?_) ?_ | ((with_reducible refine EqE.idW ?_); with_reducible refine EqE.mk _ (ax _ (by omega)) ?_) | ((with_reducible refine EqE.idS ?_); first | ((with_reducible show EqE (setAt (fa oc _) _ _) _); refine EqE.mk _ S1 ?_) | (refine EqE.fP ?_; (conv => whnf); fail_if_success (show ae _ _))) | refine Cd.ol ?_ | refine Cd.os ?_)
    exact ⟨_, ⟨vs.length + 1, vs ++ [((u, v), ai)], rfl, by omega, by simp, hst, hfa, rfl, rfl⟩, by omega⟩
   ·rename_i p
    obtain ⟨⟨_, _⟩, ⟨_, _⟩⟩ := p
    repeat' ((conv => whnf); first | with_reducible refine ag.data ?_ | refine cx.ia (ps := [(12, 5), (12, 6), (12, 7), (12, 8), (12, 9)]) rfl (by kernel_rfl) ?_ rfl | with_reducible refine Br.bt fun _ => ?_ | refine Cd.mk (ba xs _ (by omega)) ?_ | ((with_reducible show TkE (List.drop _ (List.flatMap Nd.cells _)) _ _ _); refine TkE.mk _ ((cg xs vs.length hlt).trans (congrArg Nd.cells hxx)) rfl ?_) | ((with_reducible show TkE (fa oc (a9 vs _)) _ _ _); refine TkE.mk _ L1 rfl ?_) | ((with_reducible show TkE (fa oc (a9 (vs ++ _) _)) _ _ _); refine TkE.mk _ T1 rfl ?_) | refine Cd.mk (sd hlt) ?_ | refine an.go _ _ ⟨.inl rfl, rfl, rfl, az _ _ _ _ _ _ rfl⟩ ?_ | refine aa.mk _ _ (sF) ?_ | refine rgE ?_ | refine Cd.mk rfl ?_ | refine Br.t ?_ | refine Br.f ?_ | refine ah.mk _ rfl ?_ | (refine TkE.fL ?_; (conv => whnf); fail_if_success (show ae _ _)) | refine b7.mk (by repeat first | exact True.intro | refine And.intro (by kernel_rfl) ?_) ?_ | ((with_reducible refine EqE.idW ?_); with_reducible refine EqE.mk _ (ax _ (by omega)) ?_) | ((with_reducible refine EqE.idS ?_); first | ((with_reducible show EqE (setAt (fa oc _) _ _) _); refine EqE.mk _ S1 ?_) | (refine EqE.fP ?_; (conv => whnf); fail_if_success (show ae _ _))) | refine Cd.ol ?_ | refine Cd.os ?_)
    exact ⟨_, ⟨vs.length + 1, vs ++ [((u, v), ai)], rfl, by omega, by simp, hst, hfa, rfl, rfl⟩, by omega⟩
  ·obtain ⟨a0, a1⟩ := fa' (by omega)
   obtain ⟨b0, b1'⟩ := fb' (by omega)
   have L1 := m9 (n := xs.length) a0 (by omega) (by omega) (eh (vs := vs) (n := xs.length) (i := a.toNat) (by omega))
   have L2 := m9 (n := xs.length) b0 (by omega) (by omega) (eh (vs := vs) (n := xs.length) (i := b.toNat) (by omega))
   have pa := hp9 a.toNat (by omega)
   have pb := hp9 b.toNat (by omega)
   have na := hfit.nz a.toNat (by omega)
   have nb' := hfit.nz b.toNat (by omega)
   have hv : jn vs ⟨3, a, b, n', ⟨b1, l1, e1, c1, k1, f1⟩⟩ z = some (wj (vs.getD a.toNat (ai, ai)) (vs.getD b.toNat (ai, ai))) := rfl
   clear hpw hp9
   generalize vs.getD a.toNat (ai, ai) = p at *
   generalize vs.getD b.toNat (ai, ai) = q at *
   obtain ⟨r, hr⟩ : ∃ r, wj p q = r := ⟨_, rfl⟩
   rw [hr] at hv
   have h9 := hr9 _ hv
   have ne : r.2 ≠ (0, 0) := hr ▸ anu na nb'
   have sP := ant pa pb hr
   have S1 := abw r hlt
   have T1 := qz r hlt
   have sF := mr (t := true) h9 (by rw [decide_eq_false ne]; rfl)
   have hst := hstep _ hv ne
   have hfa := hfadd _ hv ne
   clear pa pb na nb' hr hr9 hstep hstop hfadd hv fa' fb' ga gb f7 f2
   obtain ⟨⟨_, _⟩, ⟨_, _⟩⟩ := p
   obtain ⟨⟨_, _⟩, ⟨_, _⟩⟩ := q
   obtain ⟨⟨_, _⟩, ⟨_, _⟩⟩ := r
   repeat' ((conv => whnf); first | with_reducible refine ag.data ?_ | refine cx.ia (ps := [(12, 5), (12, 6), (12, 7), (12, 8), (12, 9)]) rfl (by kernel_rfl) ?_ rfl | with_reducible refine Br.bt fun _ => ?_ | refine Cd.mk (ba xs _ (by omega)) ?_ | ((with_reducible show TkE (List.drop _ (List.flatMap Nd.cells _)) _ _ _); refine TkE.mk _ ((cg xs vs.length hlt).trans (congrArg Nd.cells hxx)) rfl ?_) | ((with_reducible show TkE (fa oc (a9 vs _)) (0 + Int.toNat a * _) _ _); refine TkE.mk _ L1 rfl ?_) | ((with_reducible show TkE (fa oc (a9 vs _)) (0 + Int.toNat b * _) _ _); refine TkE.mk _ L2 rfl ?_) | ((with_reducible show TkE (fa oc (a9 (vs ++ _) _)) _ _ _); refine TkE.mk _ T1 rfl ?_) | refine Cd.mk (sd hlt) ?_ | refine an.go _ _ ⟨.inl rfl, rfl, rfl, az _ _ _ _ _ _ rfl⟩ ?_ | refine aa.mk _ _ (sP) ?_ | refine aa.mk _ _ (sF) ?_ | refine rgE ?_ | refine Cd.mk rfl ?_ | refine Br.t ?_ | refine Br.f ?_ | refine ah.mk _ rfl ?_ | (refine TkE.fL ?_; (conv => whnf); fail_if_success (show ae _ _)) | refine b7.mk (by repeat first | exact True.intro | refine And.intro (by kernel_rfl) ?_) ?_ | ((with_reducible refine EqE.idW ?_); with_reducible refine EqE.mk _ (ax _ (by omega)) ?_) | ((with_reducible refine EqE.idS ?_); first | ((with_reducible show EqE (setAt (fa oc _) _ _) _); refine EqE.mk _ S1 ?_) | (refine EqE.fP ?_; (conv => whnf); fail_if_success (show ae _ _))) | refine Cd.ol ?_ | refine Cd.os ?_)
   exact ⟨_, ⟨vs.length + 1, vs ++ [_], rfl, by omega, by simp, hst, hfa, rfl, rfl⟩, by omega⟩
  ·obtain ⟨a0, a1⟩ := fa' (by omega)
   obtain ⟨b0, b1'⟩ := fb' (by omega)
   have L1 := m9 (n := xs.length) a0 (by omega) (by omega) (eh (vs := vs) (n := xs.length) (i := a.toNat) (by omega))
   have L2 := m9 (n := xs.length) b0 (by omega) (by omega) (eh (vs := vs) (n := xs.length) (i := b.toNat) (by omega))
   have pa := hp9 a.toNat (by omega)
   have pb := hp9 b.toNat (by omega)
   have na := hfit.nz a.toNat (by omega)
   have nb' := hfit.nz b.toNat (by omega)
   have hv : jn vs ⟨4, a, b, n', ⟨b1, l1, e1, c1, k1, f1⟩⟩ z = some (wj (vs.getD a.toNat (ai, ai)) (ap8 (vs.getD b.toNat (ai, ai)))) := rfl
   clear hpw hp9
   generalize vs.getD a.toNat (ai, ai) = p at *
   generalize vs.getD b.toNat (ai, ai) = q at *
   obtain ⟨r, hr⟩ : ∃ r, wj p (ap8 q) = r := ⟨_, rfl⟩
   rw [hr] at hv
   have h9 := hr9 _ hv
   have ne : r.2 ≠ (0, 0) := hr ▸ anu na (q := ap8 q) nb'
   obtain ⟨N, hN⟩ : ∃ N : Cq, (-q.1.1, -q.1.2) = N := ⟨_, rfl⟩
   have eN : ap8 q = (N, q.2) := by unfold ap8; rw [hN]
   rw [eN] at hr
   have sG := a0d (CxR.of (pb.1.mono (show 9000 ≤ 1048576 by decide))) hN
   have hNh : Hc 9000 N := hN ▸ ⟨pb.1.1.neg, pb.1.2.neg⟩
   have sP := ant pa (q := (N, q.2)) ⟨hNh, pb.2⟩ hr
   clear hN eN hNh
   obtain ⟨_, _⟩ := N
   have S1 := abw r hlt
   have T1 := qz r hlt
   have sF := mr (t := true) h9 (by rw [decide_eq_false ne]; rfl)
   have hst := hstep _ hv ne
   have hfa := hfadd _ hv ne
   clear pa pb na nb' hr hr9 hstep hstop hfadd hv fa' fb' ga gb f7 f2
   obtain ⟨⟨_, _⟩, ⟨_, _⟩⟩ := p
   obtain ⟨⟨_, _⟩, ⟨_, _⟩⟩ := q
   obtain ⟨⟨_, _⟩, ⟨_, _⟩⟩ := r
   repeat' ((conv => whnf); first | with_reducible refine ag.data ?_ | refine cx.ia (ps := [(12, 5), (12, 6), (12, 7), (12, 8), (12, 9)]) rfl (by kernel_rfl) ?_ rfl | with_reducible refine Br.bt fun _ => ?_ | refine Cd.mk (ba xs _ (by omega)) ?_ | ((with_reducible show TkE (List.drop _ (List.flatMap Nd.cells _)) _ _ _); refine TkE.mk _ ((cg xs vs.length hlt).trans (congrArg Nd.cells hxx)) rfl ?_) | ((with_reducible show TkE (fa oc (a9 vs _)) (0 + Int.toNat a * _) _ _); refine TkE.mk _ L1 rfl ?_) | ((with_reducible show TkE (fa oc (a9 vs _)) (0 + Int.toNat b * _) _ _); refine TkE.mk _ L2 rfl ?_) | ((with_reducible show TkE (fa oc (a9 (vs ++ _) _)) _ _ _); refine TkE.mk _ T1 rfl ?_) | refine Cd.mk (sd hlt) ?_ | refine an.go _ _ ⟨.inl rfl, rfl, rfl, az _ _ _ _ _ _ rfl⟩ ?_ | refine aa.mk _ _ (sG) ?_ | refine aa.mk _ _ (sP) ?_ | refine aa.mk _ _ (sF) ?_ | refine rgE ?_ | refine Cd.mk rfl ?_ | refine Br.t ?_ | refine Br.f ?_ | refine ah.mk _ rfl ?_ | (refine TkE.fL ?_; (conv => whnf); fail_if_success (show ae _ _)) | refine b7.mk (by repeat first | exact True.intro | refine And.intro (by kernel_rfl) ?_) ?_ | ((with_reducible refine EqE.idW ?_); with_reducible refine EqE.mk _ (ax _ (by omega)) ?_) | ((with_reducible refine EqE.idS ?_); first | ((with_reducible show EqE (setAt (fa oc _) _ _) _); refine EqE.mk _ S1 ?_) | (refine EqE.fP ?_; (conv => whnf); fail_if_success (show ae _ _))) | refine Cd.ol ?_ | refine Cd.os ?_)
   exact ⟨_, ⟨vs.length + 1, vs ++ [_], rfl, by omega, by simp, hst, hfa, rfl, rfl⟩, by omega⟩
  ·obtain ⟨a0, a1⟩ := fa' (by omega)
   obtain ⟨b0, b1'⟩ := fb' (by omega)
   have L1 := m9 (n := xs.length) a0 (by omega) (by omega) (eh (vs := vs) (n := xs.length) (i := a.toNat) (by omega))
   have L2 := m9 (n := xs.length) b0 (by omega) (by omega) (eh (vs := vs) (n := xs.length) (i := b.toNat) (by omega))
   have pa := hp9 a.toNat (by omega)
   have pb := hp9 b.toNat (by omega)
   have na := hfit.nz a.toNat (by omega)
   have nb' := hfit.nz b.toNat (by omega)
   have hv : jn vs ⟨5, a, b, n', ⟨b1, l1, e1, c1, k1, f1⟩⟩ z = some (mw (vs.getD a.toNat (ai, ai)) (vs.getD b.toNat (ai, ai))) := rfl
   clear hpw hp9
   generalize vs.getD a.toNat (ai, ai) = p at *
   generalize vs.getD b.toNat (ai, ai) = q at *
   obtain ⟨r, hr⟩ : ∃ r, mw p q = r := ⟨_, rfl⟩
   rw [hr] at hv
   have h9 := hr9 _ hv
   have ne : r.2 ≠ (0, 0) := hr ▸ me na nb'
   have sP := adi pa pb hr
   have S1 := abw r hlt
   have T1 := qz r hlt
   have sF := mr (t := true) h9 (by rw [decide_eq_false ne]; rfl)
   have hst := hstep _ hv ne
   have hfa := hfadd _ hv ne
   clear pa pb na nb' hr hr9 hstep hstop hfadd hv fa' fb' ga gb f7 f2
   obtain ⟨⟨_, _⟩, ⟨_, _⟩⟩ := p
   obtain ⟨⟨_, _⟩, ⟨_, _⟩⟩ := q
   obtain ⟨⟨_, _⟩, ⟨_, _⟩⟩ := r
   repeat' ((conv => whnf); first | with_reducible refine ag.data ?_ | refine cx.ia (ps := [(12, 5), (12, 6), (12, 7), (12, 8), (12, 9)]) rfl (by kernel_rfl) ?_ rfl | with_reducible refine Br.bt fun _ => ?_ | refine Cd.mk (ba xs _ (by omega)) ?_ | ((with_reducible show TkE (List.drop _ (List.flatMap Nd.cells _)) _ _ _); refine TkE.mk _ ((cg xs vs.length hlt).trans (congrArg Nd.cells hxx)) rfl ?_) | ((with_reducible show TkE (fa oc (a9 vs _)) (0 + Int.toNat a * _) _ _); refine TkE.mk _ L1 rfl ?_) | ((with_reducible show TkE (fa oc (a9 vs _)) (0 + Int.toNat b * _) _ _); refine TkE.mk _ L2 rfl ?_) | ((with_reducible show TkE (fa oc (a9 (vs ++ _) _)) _ _ _); refine TkE.mk _ T1 rfl ?_) | refine Cd.mk (sd hlt) ?_ | refine an.go _ _ ⟨.inl rfl, rfl, rfl, az _ _ _ _ _ _ rfl⟩ ?_ | refine aa.mk _ _ (sP) ?_ | refine aa.mk _ _ (sF) ?_ | refine rgE ?_ | refine Cd.mk rfl ?_ | refine Br.t ?_ | refine Br.f ?_ | refine ah.mk _ rfl ?_ | (refine TkE.fL ?_; (conv => whnf); fail_if_success (show ae _ _)) | refine b7.mk (by repeat first | exact True.intro | refine And.intro (by kernel_rfl) ?_) ?_ | ((with_reducible refine EqE.idW ?_); with_reducible refine EqE.mk _ (ax _ (by omega)) ?_) | ((with_reducible refine EqE.idS ?_); first | ((with_reducible show EqE (setAt (fa oc _) _ _) _); refine EqE.mk _ S1 ?_) | (refine EqE.fP ?_; (conv => whnf); fail_if_success (show ae _ _))) | refine Cd.ol ?_ | refine Cd.os ?_)
   exact ⟨_, ⟨vs.length + 1, vs ++ [_], rfl, by omega, by simp, hst, hfa, rfl, rfl⟩, by omega⟩
  ·obtain ⟨a0, a1⟩ := fa' (by omega)
   obtain ⟨b0, b1'⟩ := fb' (by omega)
   have L1 := m9 (n := xs.length) a0 (by omega) (by omega) (eh (vs := vs) (n := xs.length) (i := a.toNat) (by omega))
   have L2 := m9 (n := xs.length) b0 (by omega) (by omega) (eh (vs := vs) (n := xs.length) (i := b.toNat) (by omega))
   have pa := hp9 a.toNat (by omega)
   have pb := hp9 b.toNat (by omega)
   have na := hfit.nz a.toNat (by omega)
   have nb' := hfit.nz b.toNat (by omega)
   have hv : jn vs ⟨6, a, b, n', ⟨b1, l1, e1, c1, k1, f1⟩⟩ z = some (mw (vs.getD a.toNat (ai, ai)) ((vs.getD b.toNat (ai, ai)).2, (vs.getD b.toNat (ai, ai)).1)) := rfl
   clear hpw hp9
   generalize vs.getD a.toNat (ai, ai) = p at *
   generalize vs.getD b.toNat (ai, ai) = q at *
   obtain ⟨r, hr⟩ : ∃ r, mw p (q.2, q.1) = r := ⟨_, rfl⟩
   rw [hr] at hv
   have h9 := hr9 _ hv
   have sP := adi pa (q := (q.2, q.1)) ⟨pb.2, pb.1⟩ hr
   have S1 := abw r hlt
   have T1 := qz r hlt
   by_cases ne : r.2 = (0, 0)
   ·have sF := mr (t := false) h9 (by rw [decide_eq_true ne]; rfl)
    have hno := hstop (show abr vs _ z = none by unfold abr; rw [hv]; show (if r.2 = (0, 0) then none else some r) = none; rw [if_pos ne])
    rw [hno]
    clear pa pb na nb' hr hr9 hstep hstop hfadd hv fa' fb' ga gb f7 f2
    obtain ⟨⟨_, _⟩, ⟨_, _⟩⟩ := p
    obtain ⟨⟨_, _⟩, ⟨_, _⟩⟩ := q
    obtain ⟨⟨_, _⟩, ⟨_, _⟩⟩ := r
    repeat' ((conv => whnf); first | with_reducible refine ag.data ?_ | refine cx.ia (ps := [(12, 5), (12, 6), (12, 7), (12, 8), (12, 9)]) rfl (by kernel_rfl) ?_ rfl | with_reducible refine Br.bt fun _ => ?_ | refine Cd.mk (ba xs _ (by omega)) ?_ | ((with_reducible show TkE (List.drop _ (List.flatMap Nd.cells _)) _ _ _); refine TkE.mk _ ((cg xs vs.length hlt).trans (congrArg Nd.cells hxx)) rfl ?_) | ((with_reducible show TkE (fa oc (a9 vs _)) (0 + Int.toNat a * _) _ _); refine TkE.mk _ L1 rfl ?_) | ((with_reducible show TkE (fa oc (a9 vs _)) (0 + Int.toNat b * _) _ _); refine TkE.mk _ L2 rfl ?_) | ((with_reducible show TkE (fa oc (a9 (vs ++ _) _)) _ _ _); refine TkE.mk _ T1 rfl ?_) | refine Cd.mk (sd hlt) ?_ | refine aa.mk _ _ (sP) ?_ | refine aa.mk _ _ (sF) ?_ | refine rgE ?_ | refine Cd.mk rfl ?_ | refine Br.t ?_ | refine Br.f ?_ | refine ah.mk _ rfl ?_ | (refine TkE.fL ?_; (conv => whnf); fail_if_success (show ae _ _)) | refine Res.mk ?_ | refine b7.mk (by repeat first | exact True.intro | refine And.intro (by kernel_rfl) ?_) ?_ | ((with_reducible refine EqE.idS ?_); first | ((with_reducible show EqE (setAt (fa oc _) _ _) _); refine EqE.mk _ S1 ?_) | (refine EqE.fP ?_; (conv => whnf); fail_if_success (show ae _ _))) | refine Cd.ol ?_ | refine Cd.os ?_)
    rw [← abb]; rfl
   ·have sF := mr (t := true) h9 (by rw [decide_eq_false ne]; rfl)
    have hst := hstep _ hv ne
    have hfa := hfadd _ hv ne
    clear pa pb na nb' hr hr9 hstep hstop hfadd hv fa' fb' ga gb f7 f2
    obtain ⟨⟨_, _⟩, ⟨_, _⟩⟩ := p
    obtain ⟨⟨_, _⟩, ⟨_, _⟩⟩ := q
    obtain ⟨⟨_, _⟩, ⟨_, _⟩⟩ := r
    repeat' ((conv => whnf); first | with_reducible refine ag.data ?_ | refine cx.ia (ps := [(12, 5), (12, 6), (12, 7), (12, 8), (12, 9)]) rfl (by kernel_rfl) ?_ rfl | with_reducible refine Br.bt fun _ => ?_ | refine Cd.mk (ba xs _ (by omega)) ?_ | ((with_reducible show TkE (List.drop _ (List.flatMap Nd.cells _)) _ _ _); refine TkE.mk _ ((cg xs vs.length hlt).trans (congrArg Nd.cells hxx)) rfl ?_) | ((with_reducible show TkE (fa oc (a9 vs _)) (0 + Int.toNat a * _) _ _); refine TkE.mk _ L1 rfl ?_) | ((with_reducible show TkE (fa oc (a9 vs _)) (0 + Int.toNat b * _) _ _); refine TkE.mk _ L2 rfl ?_) | ((with_reducible show TkE (fa oc (a9 (vs ++ _) _)) _ _ _); refine TkE.mk _ T1 rfl ?_) | refine Cd.mk (sd hlt) ?_ | refine an.go _ _ ⟨.inl rfl, rfl, rfl, az _ _ _ _ _ _ rfl⟩ ?_ | refine aa.mk _ _ (sP) ?_ | refine aa.mk _ _ (sF) ?_ | refine rgE ?_ | refine Cd.mk rfl ?_ | refine Br.t ?_ | refine Br.f ?_ | refine ah.mk _ rfl ?_ | (refine TkE.fL ?_; (conv => whnf); fail_if_success (show ae _ _)) | refine b7.mk (by repeat first | exact True.intro | refine And.intro (by kernel_rfl) ?_) ?_ | ((with_reducible refine EqE.idW ?_); with_reducible refine EqE.mk _ (ax _ (by omega)) ?_) | ((with_reducible refine EqE.idS ?_); first | ((with_reducible show EqE (setAt (fa oc _) _ _) _); refine EqE.mk _ S1 ?_) | (refine EqE.fP ?_; (conv => whnf); fail_if_success (show ae _ _))) | refine Cd.ol ?_ | refine Cd.os ?_)
    exact ⟨_, ⟨vs.length + 1, vs ++ [_], rfl, by omega, by simp, hst, hfa, rfl, rfl⟩, by omega⟩
  ·obtain ⟨a0, a1⟩ := fa' (by omega)
   have b0 := gb (by omega)
   subst b0
   obtain ⟨n0', n64⟩ := f7 rfl
   obtain ⟨N, rfl⟩ := Int.eq_ofNat_of_zero_le n0'
   have L1 := m9 (n := xs.length) a0 (by omega) (by omega) (eh (vs := vs) (n := xs.length) (i := a.toNat) (by omega))
   have L2 := m9 (n := xs.length) (a := 0) (by omega) (by rw [show (0 : Int).toNat = 0 from rfl]; omega) (by omega) (eh (vs := vs) (n := xs.length) (i := (0 : Int).toNat) (by rw [show (0 : Int).toNat = 0 from rfl]; omega))
   have pa := hp9 a.toNat (by omega)
   have na := hfit.nz a.toNat (by omega)
   have pw := hpw a a0 (by omega) rfl rfl
   rw [Int.toNat_natCast] at pw
   have hv : jn vs ⟨7, a, 0, (N : Int), ⟨b1, l1, e1, c1, k1, f1⟩⟩ z = some (rm (vs.getD a.toNat (ai, ai)) N) := rfl
   clear hpw hp9
   generalize vs.getD a.toNat (ai, ai) = p at *
   generalize vs.getD (0 : Int).toNat (ai, ai) = q at *
   have ne := ak8 na
   have hst := hstep _ hv (ne N)
   have hfa := hfadd _ hv (ne N)
   have S1 := abw (rm p 0) hlt
   have sF := fun j (hj : j ≤ N) => mr (t := true) (pw j hj) (by rw [decide_eq_false (ne j)]; rfl)
   have sT := fun j (hj : j ≤ N) => adi (pw j hj) pa (r := rm p (j + 1)) rfl
   clear hr9 hstep hstop hfadd hv fa' ga gb f7 f2 na
   obtain ⟨⟨p1, p2⟩, ⟨p3, p4⟩⟩ := p
   obtain ⟨⟨_, _⟩, ⟨_, _⟩⟩ := q
   repeat' ((conv => whnf); first | refine cx.ia (ps := [(12, 5), (12, 6), (12, 7), (12, 8), (12, 9)]) rfl (by kernel_rfl) ?_ rfl | with_reducible refine Br.bt fun _ => ?_ | refine Cd.mk (ba xs _ (by omega)) ?_ | ((with_reducible show TkE (List.drop _ (List.flatMap Nd.cells _)) _ _ _); refine TkE.mk _ ((cg xs vs.length hlt).trans (congrArg Nd.cells hxx)) rfl ?_) | ((with_reducible show TkE (fa oc (a9 vs _)) (0 + Int.toNat a * _) _ _); refine TkE.mk _ L1 rfl ?_) | ((with_reducible show TkE (fa oc (a9 vs _)) _ _ _); refine TkE.mk _ L2 rfl ?_) | refine Cd.mk (sd hlt) ?_ | refine rgE ?_ | refine Cd.mk rfl ?_ | refine Br.t ?_ | refine Br.f ?_ | refine ah.mk _ rfl ?_ | (refine TkE.fL ?_; (conv => whnf); fail_if_success (show ae _ _)) | refine b7.mk (by repeat first | exact True.intro | refine And.intro (by kernel_rfl) ?_) ?_ | ((with_reducible refine EqE.idS ?_); first | ((with_reducible show EqE (setAt (fa oc _) _ _) _); refine EqE.mk _ S1 ?_) | (refine EqE.fP ?_; (conv => whnf); fail_if_success (show ae _ _))) | refine Cd.ol ?_ | refine Cd.os ?_)
   refine ⟨[], [3, 4, 5, 7, 8, 9, 11, 23, 24, 25, 110, 111], [3, 4, 5, 7, 22, 11], fun m ys h => ∃ j : Nat, m = N - j ∧ j ≤ N ∧
     ys = [.ptr 3 0, .ptr 4 0, .ptr 5 0, .ptr 7 0, .own 22 0 xs.length 12, .d (.int .i64 vs.length), .ptr 11 0, .d (nsl xs), .d (.int .i64 xs.length), .d (.int .i64 vs.length), .d (.int .i64 N), .d (.int .i64 j)] ∧
     h = [(11, false, (oc (some ((p1, p2), (p3, p4)))).map A.d), (22, false, fa oc (a9 (vs ++ [rm ((p1, p2), (p3, p4)) j]) xs.length)), (7, false, dyC 1 ++ dyC 0), (5, false, zeA ++ zeA), (4, false, zeA ++ zeA), (3, false, [.d (.bool bz), .d (sl lz), .d (.int .i64 ez), .d (.bool cz'), .d (sl kz), .d (.int .i64 fz)])],
    ⟨_, _, _, ⟨.inl rfl, rfl, rfl, qq rfl (az _ _ _ _ _ _ rfl)⟩, 0, rfl, by omega, rfl, rfl⟩, ?_⟩
   rintro m ys h ⟨j, rfl, hj, rfl, rfl⟩
   by_cases hj2 : j < N
   ·have T1 := qz (rm ((p1, p2), (p3, p4)) j) hlt
    have T2 := qz (rm ((p1, p2), (p3, p4)) (j + 1)) hlt
    have S1 := a3r (rm ((p1, p2), (p3, p4)) (j + 1)) (rm ((p1, p2), (p3, p4)) j) hlt
    have sT' := sT j hj
    have sF' := sF (j + 1) hj2
    clear sT sF pw hst hfa ne pa
    obtain ⟨u, hu⟩ : ∃ u, rm ((p1, p2), (p3, p4)) j = u := ⟨_, rfl⟩
    obtain ⟨w, hw⟩ : ∃ w, rm ((p1, p2), (p3, p4)) (j + 1) = w := ⟨_, rfl⟩
    rw [hu] at T1 S1 sT' ⊢
    rw [hw] at T2 S1 sT' sF'
    obtain ⟨⟨_, _⟩, ⟨_, _⟩⟩ := u
    obtain ⟨⟨w1, w2⟩, ⟨w3, w4⟩⟩ := w
    repeat' ((conv => whnf); first | with_reducible refine ag.data ?_ | with_reducible refine Br.bt fun _ => ?_ | ((with_reducible show TkE (fa oc (a9 (vs ++ [((w1, w2), (w3, w4))]) _)) _ _ _); refine TkE.mk _ T2 rfl ?_) | ((with_reducible show TkE (fa oc (a9 (vs ++ _) _)) _ _ _); refine TkE.mk _ T1 rfl ?_) | refine Cd.mk (a3q _ hlt) ?_ | refine an.go _ _ ⟨.inl rfl, rfl, rfl, qq rfl (az _ _ _ _ _ _ rfl)⟩ ?_ | refine aa.mk _ _ (sT') ?_ | refine aa.mk _ _ (sF') ?_ | refine rgE ?_ | refine Cd.mk rfl ?_ | refine Br.f ?_ | (refine TkE.fL ?_; (conv => whnf); fail_if_success (show ae _ _)) | ((with_reducible refine EqE.idW ?_); with_reducible refine EqE.mk _ (ax _ (by omega)) ?_) | ((with_reducible refine EqE.idS ?_); ((with_reducible show EqE (setAt (fa oc _) _ _) _); refine EqE.mk _ S1 ?_)) | refine Cd.os ?_)
    exact ⟨_, ⟨j + 1, rfl, by omega, rfl, by rw [hw]; rfl⟩, by omega⟩
   ·obtain rfl : j = N := by omega
    have T1 := qz (rm ((p1, p2), (p3, p4)) j) hlt
    have sF' := sF j hj
    clear sT sF pw ne pa
    generalize rm ((p1, p2), (p3, p4)) j = u at *
    obtain ⟨⟨_, _⟩, ⟨_, _⟩⟩ := u
    repeat' ((conv => whnf); first | with_reducible refine ag.data ?_ | with_reducible refine Br.bf fun _ => ?_ | ((with_reducible show TkE (fa oc (a9 (vs ++ _) _)) _ _ _); refine TkE.mk _ T1 rfl ?_) | refine an.go _ _ ⟨.inl rfl, rfl, rfl, az _ _ _ _ _ _ rfl⟩ ?_ | refine aa.mk _ _ (sF') ?_ | refine rgE ?_ | refine Cd.mk rfl ?_ | refine Br.f ?_ | ((with_reducible refine EqE.idW ?_); with_reducible refine EqE.mk _ (ax _ (by omega)) ?_) | refine Cd.os ?_)
    exact ⟨_, ⟨vs.length + 1, vs ++ [_], rfl, by omega, by simp, hst, hfa, rfl, rfl⟩, by omega⟩
  ·obtain ⟨a0, a1⟩ := fa' (by omega)
   have b0 := gb (by omega)
   subst b0
   have L1 := m9 (n := xs.length) a0 (by omega) (by omega) (eh (vs := vs) (n := xs.length) (i := a.toNat) (by omega))
   have L2 := m9 (n := xs.length) (a := 0) (by omega) (by rw [show (0 : Int).toNat = 0 from rfl]; omega) (by omega) (eh (vs := vs) (n := xs.length) (i := (0 : Int).toNat) (by rw [show (0 : Int).toNat = 0 from rfl]; omega))
   have T1 := m9 (n := xs.length) (a := ((vs.length : Nat) : Int)) (o := none) (by omega) (by rw [Int.toNat_natCast]; omega) (by omega) (auo (by rw [Int.toNat_natCast]; exact Nat.le_refl _))
   have hv : jn vs ⟨k, a, 0, n', ⟨b1, l1, e1, c1, k1, f1⟩⟩ z = none := by
    unfold jn; dsimp only
    rw [if_neg (by omega), if_neg (by omega), if_neg (by omega), if_neg (by omega), if_neg (by omega), if_neg (by omega), if_neg (by omega)]
   have hno := hstop (show abr vs _ z = none by unfold abr; rw [hv]; rfl)
   rw [hno]
   clear hpw hp9 hr9 hstep hstop hfadd hv fa' fb' ga gb f7 f2
   generalize vs.getD a.toNat (ai, ai) = p at *
   generalize vs.getD (0 : Int).toNat (ai, ai) = q at *
   obtain ⟨⟨_, _⟩, ⟨_, _⟩⟩ := p
   obtain ⟨⟨_, _⟩, ⟨_, _⟩⟩ := q
   have kc : k = 8 ∨ k = 9 ∨ k = 10 := by omega
   clear kk1 kk10 k8
   rcases kc with rfl | rfl | rfl
   ·repeat' ((conv => whnf); first | with_reducible refine ag.data ?_ | refine cx.ia (ps := [(12, 5), (12, 6), (12, 7), (12, 8), (12, 9)]) rfl (by kernel_rfl) ?_ rfl | with_reducible refine Br.bt fun _ => ?_ | refine Cd.mk (ba xs _ (by omega)) ?_ | ((with_reducible show TkE (List.drop _ (List.flatMap Nd.cells _)) _ _ _); refine TkE.mk _ ((cg xs vs.length hlt).trans (congrArg Nd.cells hxx)) rfl ?_) | ((with_reducible show TkE (fa oc (a9 vs _)) (0 + Int.toNat a * _) _ _); refine TkE.mk _ L1 rfl ?_) | ((with_reducible show TkE (fa oc (a9 vs _)) (0 + Int.toNat (Nat.cast _) * _) _ _); refine TkE.mk _ T1 rfl ?_) | ((with_reducible show TkE (fa oc (a9 vs _)) _ _ _); refine TkE.mk _ L2 rfl ?_) | refine aa.mk _ _ (ag6) ?_ | refine rgE ?_ | refine Cd.mk rfl ?_ | refine Br.t ?_ | refine Br.f ?_ | refine ah.mk _ rfl ?_ | (refine TkE.fL ?_; (conv => whnf); fail_if_success (show ae _ _)) | refine Res.mk ?_ | refine b7.mk (by repeat first | exact True.intro | refine And.intro (by kernel_rfl) ?_) ?_ | ((with_reducible refine EqE.idS ?_); (refine EqE.fP ?_; (conv => whnf); fail_if_success (show ae _ _))) | refine Cd.ol ?_ | refine Cd.os ?_)
    rw [← abb]; rfl
   ·repeat' ((conv => whnf); first | with_reducible refine ag.data ?_ | refine cx.ia (ps := [(12, 5), (12, 6), (12, 7), (12, 8), (12, 9)]) rfl (by kernel_rfl) ?_ rfl | with_reducible refine Br.bt fun _ => ?_ | refine Cd.mk (ba xs _ (by omega)) ?_ | ((with_reducible show TkE (List.drop _ (List.flatMap Nd.cells _)) _ _ _); refine TkE.mk _ ((cg xs vs.length hlt).trans (congrArg Nd.cells hxx)) rfl ?_) | ((with_reducible show TkE (fa oc (a9 vs _)) (0 + Int.toNat a * _) _ _); refine TkE.mk _ L1 rfl ?_) | ((with_reducible show TkE (fa oc (a9 vs _)) (0 + Int.toNat (Nat.cast _) * _) _ _); refine TkE.mk _ T1 rfl ?_) | ((with_reducible show TkE (fa oc (a9 vs _)) _ _ _); refine TkE.mk _ L2 rfl ?_) | refine aa.mk _ _ (ag6) ?_ | refine rgE ?_ | refine Cd.mk rfl ?_ | refine Br.t ?_ | refine Br.f ?_ | refine ah.mk _ rfl ?_ | (refine TkE.fL ?_; (conv => whnf); fail_if_success (show ae _ _)) | refine Res.mk ?_ | refine b7.mk (by repeat first | exact True.intro | refine And.intro (by kernel_rfl) ?_) ?_ | ((with_reducible refine EqE.idS ?_); (refine EqE.fP ?_; (conv => whnf); fail_if_success (show ae _ _))) | refine Cd.ol ?_ | refine Cd.os ?_)
    rw [← abb]; rfl
   ·repeat' ((conv => whnf); first | with_reducible refine ag.data ?_ | refine cx.ia (ps := [(12, 5), (12, 6), (12, 7), (12, 8), (12, 9)]) rfl (by kernel_rfl) ?_ rfl | with_reducible refine Br.bt fun _ => ?_ | refine Cd.mk (ba xs _ (by omega)) ?_ | ((with_reducible show TkE (List.drop _ (List.flatMap Nd.cells _)) _ _ _); refine TkE.mk _ ((cg xs vs.length hlt).trans (congrArg Nd.cells hxx)) rfl ?_) | ((with_reducible show TkE (fa oc (a9 vs _)) (0 + Int.toNat a * _) _ _); refine TkE.mk _ L1 rfl ?_) | ((with_reducible show TkE (fa oc (a9 vs _)) (0 + Int.toNat (Nat.cast _) * _) _ _); refine TkE.mk _ T1 rfl ?_) | ((with_reducible show TkE (fa oc (a9 vs _)) _ _ _); refine TkE.mk _ L2 rfl ?_) | refine aa.mk _ _ (ag6) ?_ | refine rgE ?_ | refine Cd.mk rfl ?_ | refine Br.t ?_ | refine Br.f ?_ | refine ah.mk _ rfl ?_ | (refine TkE.fL ?_; (conv => whnf); fail_if_success (show ae _ _)) | refine Res.mk ?_ | refine b7.mk (by repeat first | exact True.intro | refine And.intro (by kernel_rfl) ?_) ?_ | ((with_reducible refine EqE.idS ?_); (refine EqE.fP ?_; (conv => whnf); fail_if_success (show ae _ _))) | refine Cd.ol ?_ | refine Cd.os ?_)
    rw [← abb]; rfl
 ·have hin : i = xs.length := by omega
  subst hin
  have T1 := m9 (n := xs.length) (vs := vs) (a := ((xs.length - 1 : Nat) : Int)) (o := some (vs.getD (xs.length - 1) (ai, ai))) (by omega) (by rw [Int.toNat_natCast]; omega) (by omega) (by rw [Int.toNat_natCast]; exact eh (by omega))
  rw [hex]
  have ek : exR (some vs) = D.tup [cxD (vs.getD (vs.length - 1) (ai, ai)).1, cxD (vs.getD (vs.length - 1) (ai, ai)).2, .bool true] := rfl
  rw [hvl] at ek
  rw [ek]
  clear ek
  generalize vs.getD (xs.length - 1) (ai, ai) = p at *
  obtain ⟨⟨_, _⟩, ⟨_, _⟩⟩ := p
  repeat' ((conv => whnf); first | refine cx.ia (ps := [(4, 2), (4, 3)]) rfl (by kernel_rfl) ?_ rfl | with_reducible refine Br.bf fun _ => ?_ | refine Cd.mk (show 0 ≤ (((xs.length - 1 : Nat) : Int)) ∧ (((xs.length - 1 : Nat) : Int)) < xs.length by omega) ?_ | ((with_reducible show TkE (fa oc (a9 vs _)) _ _ _); refine TkE.mk _ T1 rfl ?_) | refine rgE ?_ | refine Cd.mk rfl ?_ | (refine TkE.fL ?_; (conv => whnf); fail_if_success (show ae _ _)) | refine Res.mk ?_ | refine b7.mk (by repeat first | exact True.intro | refine And.intro (by kernel_rfl) ?_) ?_ | ((with_reducible refine EqE.idW ?_); refine EqE.mk ((xs.length - 1 : Nat) : Int) (by rw [aj (by omega) (by omega)]; omega) ?_) | ((with_reducible refine EqE.idS ?_); (refine EqE.fP ?_; (conv => whnf); fail_if_success (show ae _ _))) | refine Cd.ol ?_)
  rfl
end Go.Ev.Ar
