/- Contracts of the given functions, on data. Conditions stand in each theorem. -/
import Derived.Test.YtagjickjfjgfpaaGreatDoorGAvRectB
import Derived.Test.YtagjickjfjgfpaaGreatDoorGEvEc
set_option linter.unusedSimpArgs false
set_option linter.unusedVariables false
namespace Go.Ev.Ar
open Go Go.Ev Go.Proofs

theorem q_one : (1 : Dyadic).toRat = 1 := by rfl
theorem dof_rat (j : Nat) : (dof (j : Int) 0).toRat = ((j : Nat) : Rat) := by
  rw [dof_toRat, Rat.zpow_zero, Rat.mul_one]; rfl
theorem qhas_abs {z : Cq} {r : Rat} (h : qhas z r) : qhas (iabs z) (qab r) := by
  have ab : ∀ p : Dyadic, (dabs p).toRat = qab p.toRat := fun p => by
    rw [dabs_eq]; unfold qab
    by_cases g : p < 0
    · rw [if_pos g, q_neg, if_pos (by have := (Dyadic.toRat_lt_toRat_iff (x := p) (y := 0)).2 g; rwa [q_zero] at this)]
    · rw [if_neg g, if_neg (fun k => g (by rw [← q_zero] at k; exact Dyadic.toRat_lt_toRat_iff.1 k))]
  obtain ⟨h1, h2⟩ := h
  unfold iabs
  split
  · rename_i g
    have g1 := q_le.2 g.1
    have g2 := q_le.2 g.2
    refine ⟨?_, ?_⟩
    · show (0 : Dyadic).toRat ≤ _; rw [q_zero]; exact qab_ge r
    · show _ ≤ (mx (dabs z.1) (dabs z.2)).toRat
      rw [q_mx, ab, ab]; unfold qab qmx; grind
  · rename_i g
    refine ⟨?_, ?_⟩
    · show (mn (dabs z.1) (dabs z.2)).toRat ≤ _
      have g : ¬ (z.1.toRat ≤ 0 ∧ 0 ≤ z.2.toRat) := fun k => g ⟨by rw [← q_zero] at k; exact q_le.1 k.1, by rw [← q_zero] at k; exact q_le.1 k.2⟩
      rw [q_mn, ab, ab]; unfold qab qmn; grind
    · show _ ≤ (mx (dabs z.1) (dabs z.2)).toRat
      rw [q_mx, ab, ab]; unfold qab qmx; grind
theorem ipow_two (z : Cq) : ipow z 2 = ((iabs z).1 * (iabs z).1, (iabs z).2 * (iabs z).2) := by
  unfold ipow
  rw [show clampP 2 = 2 by decide, if_pos (by decide)]
  have e : ∀ p : Dyadic, p ^ 2 = p * p := fun p => by grind
  rw [e, e]
theorem qhas_sq {z : Cq} {r : Rat} (h : qhas z r) : qhas (ipow z 2) (r * r) := by
  rw [ipow_two]
  have k := qhas_abs h
  have k0 : 0 ≤ (iabs z).1.toRat := by rw [← q_zero]; exact q_le.2 (iabs_ge (qhas_ord h))
  obtain ⟨k1, k2⟩ := k
  have hs : r * r = qab r * qab r := by unfold qab; split <;> grind
  have a := qmul_le k0 k1 k0 k1
  have b := qmul_le (qab_ge r) k2 (qab_ge r) k2
  rw [hs]
  refine ⟨?_, ?_⟩ <;> dsimp only <;> rw [q_mul] <;> assumption
/-- A point with rational parts lies in a rectangle. -/
def qhas2 (z : Rq) (c : Cr) : Prop := qhas z.1 c.re ∧ qhas z.2 c.im
theorem qhas2_add {z w : Rq} {a b : Cr} (h : qhas2 z a) (k : qhas2 w b) : qhas2 (radd z w) (a + b) := ⟨qhas_add h.1 k.1, qhas_add h.2 k.2⟩
theorem qhas2_mul {z w : Rq} {a b : Cr} (h : qhas2 z a) (k : qhas2 w b) : qhas2 (rmul z w) (a * b) := ⟨qhas_sub (qhas_mul h.1 k.1) (qhas_mul h.2 k.2), by
  have := qhas_add (qhas_mul h.1 k.2) (qhas_mul h.2 k.1)
  exact this⟩
theorem qhas2_sq {z : Rq} {a : Cr} (h : qhas2 z a) : qhas2 (rsq z) (a * a) := ⟨qhas_sub (qhas_sq h.1) (qhas_sq h.2), by
  have := qhas_add (qhas_mul h.1 h.2) (qhas_mul h.1 h.2)
  rw [Cr.mul_im, show a.re * a.im + a.im * a.re = a.re * a.im + a.re * a.im by grind]; exact this⟩
theorem qhas2_round {z : Rq} {a : Cr} (p : Int) (h : qhas2 z a) : qhas2 (rround z p) a := ⟨qhas_in h.1 (iround_in _ _), qhas_in h.2 (iround_in _ _)⟩
/-- Divided by a number above nought. -/
def divn (z : Cq) (j : Nat) (wp : Int) : Cq := iround (imul z (iinv (dof j 0, dof j 0) wp)) wp
theorem dofn_pos {j : Nat} (hj : 0 < j) : (0 : Dyadic) < dof j 0 := dof_pos.2 (by omega)
theorem divn_eq (z : Cq) {j : Nat} (wp : Int) (hj : 0 < j) : idivE z (dof j 0, dof j 0) wp = (divn z j wp, 0) := by
  have := dofn_pos hj
  unfold idivE
  rw [if_neg (by unfold ihas; grind)]; rfl
theorem qhas_divn {z : Cq} {r : Rat} {j : Nat} (wp : Int) (hj : 0 < j) (h : qhas z r) : qhas (divn z j wp) (r * (1 / ((j : Nat) : Rat))) := by
  have hp := dofn_pos hj
  have i := (iinv_has (z := (dof j 0, dof j 0)) (b := dof j 0) wp ⟨by grind, by grind⟩ (by unfold ihas; grind)).1 hp
  have hr : (0 : Rat) < ((j : Nat) : Rat) := by exact_mod_cast hj
  refine qhas_in (qhas_mul h ⟨?_, ?_⟩) (iround_in _ _)
  · have k := q_le.2 i.1
    rw [q_mul, dof_rat, q_one] at k
    have h2 := Rat.mul_le_mul_of_nonneg_left k (show 0 ≤ 1 / ((j : Nat) : Rat) by rw [Rat.div_def]; exact qmul_nn (by decide) (qinv_nn hr))
    have h3 : 1 / ((j : Nat) : Rat) * ((j : Nat) : Rat) = 1 := by grind
    rw [← Rat.mul_assoc, h3] at h2
    grind
  · have k := q_le.2 i.2
    rw [q_mul, dof_rat, q_one] at k
    have h2 := Rat.mul_le_mul_of_nonneg_left k (show 0 ≤ 1 / ((j : Nat) : Rat) by rw [Rat.div_def]; exact qmul_nn (by decide) (qinv_nn hr))
    have h3 : 1 / ((j : Nat) : Rat) * ((j : Nat) : Rat) = 1 := by grind
    rw [← Rat.mul_assoc, h3] at h2
    grind
def unR : Rq := ((1, 1), (0, 0))
theorem qhas2_one : qhas2 unR 1 := ⟨by rw [Cr.one_re, ← q_one]; exact qhas_pt 1, by rw [Cr.one_im, ← q_zero]; exact qhas_pt 0⟩
/-- A step of the row, and all of them down to the first. -/
def hst (y out : Rq) (wp : Int) (j : Nat) : Rq := radd unR (divn (rmul y out).1 j wp, divn (rmul y out).2 j wp)
def hrn (y : Rq) (wp : Int) : Nat → Rq → Rq
  | 0, out => out
  | j + 1, out => hrn y wp j (hst y out wp (j + 1))
def hrc (w : Cr) : Nat → Cr → Cr
  | 0, c => c
  | j + 1, c => hrc w j (1 + w * c * iq (j + 1))
theorem iq_scale (c : Cr) (j : Nat) : c * iq j = ⟨c.re * (1 / ((j : Nat) : Rat)), c.im * (1 / ((j : Nat) : Rat))⟩ := Cr.ext (by rw [Cr.mul_re]; show c.re * (1 / ((j : Nat) : Rat)) - c.im * 0 = _; grind) (by rw [Cr.mul_im]; show c.re * 0 + c.im * (1 / ((j : Nat) : Rat)) = _; grind)
theorem hst_has {y out : Rq} {w c : Cr} (wp : Int) (hy : qhas2 y w) (ho : qhas2 out c) (j : Nat) (hj : 0 < j) : qhas2 (hst y out wp j) (1 + w * c * iq j) := by
  have h := qhas2_mul hy ho
  refine qhas2_add qhas2_one ?_
  rw [iq_scale]
  exact ⟨qhas_divn wp hj h.1, qhas_divn wp hj h.2⟩
theorem hrn_has {y : Rq} {w : Cr} (wp : Int) (hy : qhas2 y w) : ∀ (j : Nat) {out : Rq} {c : Cr}, qhas2 out c → qhas2 (hrn y wp j out) (hrc w j c)
  | 0, _, _, h => h
  | j + 1, _, _, h => hrn_has wp hy j (hst_has wp hy h (j + 1) (by omega))
theorem hrc_eq (w : Cr) : ∀ (j : Nat) (c : Cr), hrc w (j + 1) c = en j w + et w (j + 1) * c
  | 0, c => by
    rw [hrc, hrc, show en 0 w = 1 from rfl, et, et]; grind
  | j + 1, c => by
    rw [hrc, hrc_eq w j]
    rw [show en (j + 1) w = en j w + et w (j + 1) from rfl, show et w (j + 1 + 1) = w * et w (j + 1) * iq (j + 1 + 1) from rfl]; grind
theorem hrc_one (w : Cr) : ∀ j, hrc w j 1 = en j w
  | 0 => rfl
  | j + 1 => by rw [hrc_eq, show en (j + 1) w = en j w + et w (j + 1) from rfl]; grind
/-- With what may still come. -/
def addRest (o : Rq) (im : Bool) (r : Dyadic) : Rq := (iadd o.1 (-r, r), if im then iadd o.2 (-r, r) else o.2)
def sqn (wp : Int) : Nat → Rq → Rq
  | 0, z => z
  | k + 1, z => rround (rsq (sqn wp k z)) wp
theorem sqn_has {z : Rq} {c : Cr} (wp : Int) (h : qhas2 z c) : ∀ k, qhas2 (sqn wp k z) (sqr k c)
  | 0 => h
  | k + 1 => qhas2_round wp (qhas2_sq (sqn_has wp h k))
def trnT (wp : Int) : Nat := (wp / 10 + 2).toNat
def trnR (wp : Int) : Dyadic := dof 1 (1 - 10 * ((trnT wp : Int) + 1))
/-- The exponent of y, and of what is so often doubled. -/
def trn0 (y : Rq) (im : Bool) (wp : Int) : Rq := addRest (hrn y wp (trnT wp) unR) im (trnR wp)
def trn (y : Rq) (im : Bool) (wp : Int) : Rq := sqn wp 16 (trn0 y im wp)
end Go.Ev.Ar

namespace Go.Ev.Ar
open Go Go.Ev Go.Proofs

/- HOW WIDE -/
/-- Ends in order, no farther from 0 than m, no farther apart than w. -/
structure Bx (z : Cq) (m w : Rat) : Prop where
  lo : -m ≤ z.1.toRat
  hi : z.2.toRat ≤ m
  ord : z.1.toRat ≤ z.2.toRat
  wd : z.2.toRat - z.1.toRat ≤ w
theorem Bx.mono {z : Cq} {m w k v : Rat} (h : Bx z m w) (h1 : m ≤ k) (h2 : w ≤ v) : Bx z k v := by
  obtain ⟨a, b, c, d⟩ := h
  exact ⟨by grind, by grind, c, by grind⟩
theorem Bx.m0 {z : Cq} {m w : Rat} (h : Bx z m w) : 0 ≤ m ∧ 0 ≤ w := by
  obtain ⟨a, b, c, d⟩ := h
  exact ⟨by grind, by grind⟩
theorem Bx.add {z w : Cq} {m k a b : Rat} (h : Bx z m a) (g : Bx w k b) : Bx (iadd z w) (m + k) (a + b) := by
  obtain ⟨h1, h2, h3, h4⟩ := h
  obtain ⟨g1, g2, g3, g4⟩ := g
  refine ⟨?_, ?_, ?_, ?_⟩ <;> unfold iadd <;> dsimp only <;> (try rw [q_add]) <;> (try rw [q_add]) <;> grind
theorem Bx.neg {z : Cq} {m a : Rat} (h : Bx z m a) : Bx (ineg z) m a := by
  obtain ⟨h1, h2, h3, h4⟩ := h
  refine ⟨?_, ?_, ?_, ?_⟩ <;> unfold ineg <;> dsimp only <;> (try rw [q_neg]) <;> (try rw [q_neg]) <;> grind
theorem Bx.sub {z w : Cq} {m k a b : Rat} (h : Bx z m a) (g : Bx w k b) : Bx (isub z w) (m + k) (a + b) := h.add g.neg
theorem prod_btw {x x' y y' m k a b : Rat} (hx : qab x ≤ m) (hy : qab y' ≤ k) (h1 : qab (x - x') ≤ a) (h2 : qab (y - y') ≤ b) : x * y - x' * y' ≤ m * b + k * a := by
  have e : x * y - x' * y' = x * (y - y') + y' * (x - x') := by grind
  have h3 := qab_add (x * (y - y')) (y' * (x - x'))
  rw [qab_mul, qab_mul] at h3
  have h4 := qmul_le (qab_ge x) hx (qab_ge (y - y')) h2
  have h5 := qmul_le (qab_ge y') hy (qab_ge (x - x')) h1
  have h6 := (qab_le (r := x * (y - y') + y' * (x - x')) (s := qab (x * (y - y') + y' * (x - x')))).1 Rat.le_refl
  grind
theorem Bx.mul {z w : Cq} {m k a b : Rat} (h : Bx z m a) (g : Bx w k b) : Bx (imul z w) (m * k) (m * b + k * a) := by
  have m0 := h.m0
  have k0 := g.m0
  obtain ⟨h1, h2, h3, h4⟩ := h
  obtain ⟨g1, g2, g3, g4⟩ := g
  have x1 : qab z.1.toRat ≤ m := qab_le.2 ⟨by grind, by grind⟩
  have x2 : qab z.2.toRat ≤ m := qab_le.2 ⟨by grind, by grind⟩
  have y1 : qab w.1.toRat ≤ k := qab_le.2 ⟨by grind, by grind⟩
  have y2 : qab w.2.toRat ≤ k := qab_le.2 ⟨by grind, by grind⟩
  have dx : ∀ p q : Rat, (p = z.1.toRat ∨ p = z.2.toRat) → (q = z.1.toRat ∨ q = z.2.toRat) → qab (p - q) ≤ a := by
    intro p q hp hq; rw [qab_le]; rcases hp with rfl | rfl <;> rcases hq with rfl | rfl <;> grind
  have dy : ∀ p q : Rat, (p = w.1.toRat ∨ p = w.2.toRat) → (q = w.1.toRat ∨ q = w.2.toRat) → qab (p - q) ≤ b := by
    intro p q hp hq; rw [qab_le]; rcases hp with rfl | rfl <;> rcases hq with rfl | rfl <;> grind
  have mag : ∀ p q : Rat, qab p ≤ m → qab q ≤ k → -(m * k) ≤ p * q ∧ p * q ≤ m * k := by
    intro p q hp hq
    have := qmul_le (qab_ge p) hp (qab_ge q) hq
    rw [← qab_mul] at this
    exact qab_le.1 this
  have c1 := mag _ _ x1 y1
  have c2 := mag _ _ x1 y2
  have c3 := mag _ _ x2 y1
  have c4 := mag _ _ x2 y2
  have d12 := prod_btw x1 y2 (dx _ _ (.inl rfl) (.inl rfl)) (dy _ _ (.inl rfl) (.inr rfl))
  have d21 := prod_btw x1 y1 (dx _ _ (.inl rfl) (.inl rfl)) (dy _ _ (.inr rfl) (.inl rfl))
  have d13 := prod_btw x1 y1 (dx _ _ (.inl rfl) (.inr rfl)) (dy _ _ (.inl rfl) (.inl rfl))
  have d31 := prod_btw x2 y1 (dx _ _ (.inr rfl) (.inl rfl)) (dy _ _ (.inl rfl) (.inl rfl))
  have d14 := prod_btw x1 y2 (dx _ _ (.inl rfl) (.inr rfl)) (dy _ _ (.inl rfl) (.inr rfl))
  have d41 := prod_btw x2 y1 (dx _ _ (.inr rfl) (.inl rfl)) (dy _ _ (.inr rfl) (.inl rfl))
  have d23 := prod_btw x1 y1 (dx _ _ (.inl rfl) (.inr rfl)) (dy _ _ (.inr rfl) (.inl rfl))
  have d32 := prod_btw x2 y2 (dx _ _ (.inr rfl) (.inl rfl)) (dy _ _ (.inl rfl) (.inr rfl))
  have d24 := prod_btw x1 y2 (dx _ _ (.inl rfl) (.inr rfl)) (dy _ _ (.inr rfl) (.inr rfl))
  have d42 := prod_btw x2 y2 (dx _ _ (.inr rfl) (.inl rfl)) (dy _ _ (.inr rfl) (.inr rfl))
  have d34 := prod_btw x2 y2 (dx _ _ (.inr rfl) (.inr rfl)) (dy _ _ (.inl rfl) (.inr rfl))
  have d43 := prod_btw x2 y1 (dx _ _ (.inr rfl) (.inr rfl)) (dy _ _ (.inr rfl) (.inl rfl))
  have w0 : 0 ≤ m * b + k * a := by have := qmul_nn m0.1 k0.2; have := qmul_nn k0.1 m0.2; grind
  have e1 : (imul z w).1.toRat = qmn (qmn (z.1.toRat * w.1.toRat) (z.1.toRat * w.2.toRat)) (qmn (z.2.toRat * w.1.toRat) (z.2.toRat * w.2.toRat)) := by
    unfold imul; dsimp only; rw [q_mn, q_mn, q_mn, q_mul, q_mul, q_mul, q_mul]
  have e2 : (imul z w).2.toRat = qmx (qmx (z.1.toRat * w.1.toRat) (z.1.toRat * w.2.toRat)) (qmx (z.2.toRat * w.1.toRat) (z.2.toRat * w.2.toRat)) := by
    unfold imul; dsimp only; rw [q_mx, q_mx, q_mx, q_mul, q_mul, q_mul, q_mul]
  clear dx dy mag
  generalize z.1.toRat * w.1.toRat = p1 at *
  generalize z.1.toRat * w.2.toRat = p2 at *
  generalize z.2.toRat * w.1.toRat = p3 at *
  generalize z.2.toRat * w.2.toRat = p4 at *
  generalize m * b + k * a = W at *
  generalize m * k = M at *
  have lo_or : ∀ p q : Rat, qmn p q = p ∨ qmn p q = q := fun p q => by unfold qmn; split <;> simp
  have hi_or : ∀ p q : Rat, qmx p q = p ∨ qmx p q = q := fun p q => by unfold qmx; split <;> simp
  have L : qmn (qmn p1 p2) (qmn p3 p4) = p1 ∨ qmn (qmn p1 p2) (qmn p3 p4) = p2 ∨ qmn (qmn p1 p2) (qmn p3 p4) = p3 ∨ qmn (qmn p1 p2) (qmn p3 p4) = p4 := by
    have := lo_or p1 p2; have := lo_or p3 p4; have := lo_or (qmn p1 p2) (qmn p3 p4); grind
  have H : qmx (qmx p1 p2) (qmx p3 p4) = p1 ∨ qmx (qmx p1 p2) (qmx p3 p4) = p2 ∨ qmx (qmx p1 p2) (qmx p3 p4) = p3 ∨ qmx (qmx p1 p2) (qmx p3 p4) = p4 := by
    have := hi_or p1 p2; have := hi_or p3 p4; have := hi_or (qmx p1 p2) (qmx p3 p4); grind
  have o : qmn (qmn p1 p2) (qmn p3 p4) ≤ qmx (qmx p1 p2) (qmx p3 p4) := by unfold qmn qmx; grind
  rw [← e1] at L o
  rw [← e2] at H o
  exact ⟨by rcases L with e | e | e | e <;> rw [e] <;> grind, by rcases H with e | e | e | e <;> rw [e] <;> grind, o, by rcases L with e | e | e | e <;> rcases H with f | f | f | f <;> rw [e, f] <;> grind⟩
theorem Bx.sq {z : Cq} {m a : Rat} (h : Bx z m a) : Bx (ipow z 2) (m * m) (2 * m * a) := by
  have m0 := h.m0
  obtain ⟨h1, h2, h3, h4⟩ := h
  have ho : Ord z := q_le.1 h3
  rw [ipow_two, iabs_of ho]
  have fin : ∀ p q : Rat, 0 ≤ p → p ≤ q → q ≤ m → q - p ≤ a → -(m * m) ≤ p * p ∧ q * q ≤ m * m ∧ p * p ≤ q * q ∧ q * q - p * p ≤ 2 * m * a := by
    intro p q p0 pq qm d
    have s1 := qmul_nn p0 p0
    have s2 := qmul_le p0 pq p0 pq
    have s3 := qmul_le (show 0 ≤ q by grind) qm (show 0 ≤ q by grind) qm
    have s4 := qmul_le (show 0 ≤ q - p by grind) d (show 0 ≤ q + p by grind) (show q + p ≤ 2 * m by grind)
    grind
  split
  · rename_i g
    have g := q_le.2 g
    rw [q_zero] at g
    obtain ⟨f1, f2, f3, f4⟩ := fin _ _ g h3 h2 h4
    exact ⟨by dsimp only; rw [q_mul]; exact f1, by dsimp only; rw [q_mul]; exact f2, by dsimp only; rw [q_mul, q_mul]; exact f3, by dsimp only; rw [q_mul, q_mul]; exact f4⟩
  · split
    · rename_i g
      have g := q_le.2 g
      rw [q_zero] at g
      obtain ⟨f1, f2, f3, f4⟩ := fin (-z.2.toRat) (-z.1.toRat) (by grind) (by grind) (by grind) (by grind)
      exact ⟨by unfold ineg; dsimp only; rw [q_mul, q_neg]; exact f1, by unfold ineg; dsimp only; rw [q_mul, q_neg]; exact f2, by unfold ineg; dsimp only; rw [q_mul, q_mul, q_neg, q_neg]; exact f3, by unfold ineg; dsimp only; rw [q_mul, q_mul, q_neg, q_neg]; exact f4⟩
    · rename_i g k
      have g : ¬ 0 ≤ z.1.toRat := fun x => g (by rw [← q_zero] at x; exact q_le.1 x)
      have k : ¬ z.2.toRat ≤ 0 := fun x => k (by rw [← q_zero] at x; exact q_le.1 x)
      obtain ⟨f1, f2, f3, f4⟩ := fin 0 (qmx (-z.1.toRat) z.2.toRat) Rat.le_refl (by unfold qmx; grind) (by unfold qmx; grind) (by unfold qmx; grind)
      exact ⟨by dsimp only; rw [q_mul, q_zero]; exact f1, by dsimp only; rw [q_mul, q_mx, q_neg]; exact f2, by dsimp only; rw [q_mul, q_mul, q_mx, q_neg, q_zero]; exact f3, by dsimp only; rw [q_mul, q_mul, q_mx, q_neg, q_zero]; exact f4⟩
/-- The share that rounding to p bits may change. -/
def ep (p : Int) : Rat := (dof 1 (1 - min (max p 1) 4000)).toRat
theorem ep_pos (p : Int) : 0 < ep p := by
  have := dof1_pos (1 - min (max p 1) 4000)
  unfold ep; rw [← q_zero]; exact Dyadic.toRat_lt_toRat_iff.2 this
theorem ep_le (p : Int) : ep p ≤ 1 := by
  unfold ep
  rw [← q_one, show (1 : Dyadic) = dof 1 0 by decide]
  exact q_le.2 (dof1_le.2 (by omega))
theorem ab_rat (p : Dyadic) : (dabs p).toRat = qab p.toRat := by
  rw [dabs_eq]; unfold qab
  by_cases g : p < 0
  · rw [if_pos g, q_neg, if_pos (by have := (Dyadic.toRat_lt_toRat_iff (x := p) (y := 0)).2 g; rwa [q_zero] at this)]
  · rw [if_neg g, if_neg (fun k => g (by rw [← q_zero] at k; exact Dyadic.toRat_lt_toRat_iff.1 k))]
theorem q_sub (p q : Dyadic) : (p - q).toRat = p.toRat - q.toRat := by rw [show p - q = p + -q by grind, q_add, q_neg]; grind
theorem rto_err (q : Dyadic) (p : Int) : q.toRat - (rto q p 0).toRat ≤ qab q.toRat * ep p ∧ (rto q p 1).toRat - q.toRat ≤ qab q.toRat * ep p := by
  by_cases h0 : q = 0
  · subst h0
    unfold rto; rw [if_pos rfl, if_pos rfl, q_zero, qab_zero]; grind
  · obtain ⟨h1, h2, h3, h4, _⟩ := grd_facts q (unitE q p)
    have h5 := dof_one_le h0
    have e : dof 1 (unitE q p) = dof 1 (dtop q) * dof 1 (1 - min (max p 1) 4000) := by rw [dof1_mul]; congr 1; unfold unitE; omega
    have h6 := q_le.2 h5
    rw [ab_rat] at h6
    have h7 := Rat.mul_le_mul_of_nonneg_right h6 (Rat.le_of_lt (ep_pos p))
    have h8 : (dof 1 (unitE q p)).toRat ≤ qab q.toRat * ep p := by rw [e, q_mul]; exact h7
    unfold rto
    rw [if_neg h0, if_neg h0, ← q_sub, ← q_sub]
    have k1 := q_le.2 (show q - grd q (unitE q p) 0 ≤ dof 1 (unitE q p) by grind)
    have k2 := q_le.2 (show grd q (unitE q p) 1 - q ≤ dof 1 (unitE q p) by grind)
    grind
theorem Bx.round {z : Cq} {m a : Rat} (p : Int) (h : Bx z m a) : Bx (iround z p) (m + m * ep p) (a + 2 * (m * ep p)) := by
  have m0 := h.m0
  obtain ⟨h1, h2, h3, h4⟩ := h
  have e0 := ep_pos p
  have a1 := (rto_err z.1 p).1
  have a2 := (rto_err z.2 p).2
  have i := iround_in z p
  have i1 := q_le.2 i.1
  have i2 := q_le.2 i.2
  have b1 := Rat.mul_le_mul_of_nonneg_right (show qab z.1.toRat ≤ m from qab_le.2 ⟨by grind, by grind⟩) (Rat.le_of_lt e0)
  have b2 := Rat.mul_le_mul_of_nonneg_right (show qab z.2.toRat ≤ m from qab_le.2 ⟨by grind, by grind⟩) (Rat.le_of_lt e0)
  have e1 : (iround z p).1 = rto z.1 p 0 := rfl
  have e2 : (iround z p).2 = rto z.2 p 1 := rfl
  rw [e1] at i1
  rw [e2] at i2
  exact ⟨by rw [e1]; grind, by rw [e2]; grind, by rw [e1, e2]; grind, by rw [e1, e2]; grind⟩
theorem Bx.pt {q : Dyadic} {m : Rat} (h : qab q.toRat ≤ m) : Bx (q, q) m 0 := by
  have := qab_le.1 h
  exact ⟨this.1, this.2, Rat.le_refl, by dsimp only; grind⟩
theorem Bx.inv {j : Nat} (p : Int) (hj : 0 < j) : Bx (iinv (dof j 0, dof j 0) p) 2 (ep p) := by
  have hp := dofn_pos hj
  have one0 : (1 : Dyadic) ≠ 0 := by decide
  have q0 : qdiv 1 (dof j 0) p 0 = qpos 1 (dof j 0) p 0 := qdiv_pos p 0 one0 hp
  have q1 : qdiv 1 (dof j 0) p 1 = qpos 1 (dof j 0) p 1 := qdiv_pos p 1 one0 hp
  have s0 := (qdiv_sign (x := 1) (y := dof j 0) p 0 one_pos).1 hp
  have l0 := (qdiv_lo (x := 1) (y := dof j 0) p).1 hp
  have hd : qpos 1 (dof j 0) p 0 ≤ qpos 1 (dof j 0) p 1 ∧ qpos 1 (dof j 0) p 1 - qpos 1 (dof j 0) p 0 ≤ dof 1 (qexp 1 (dof j 0) p) := by
    have := dof1_pos (qexp 1 (dof j 0) p)
    unfold qpos
    rw [if_neg (fun h => absurd h.1 (by decide))]
    split
    · rw [dof_step]; grind
    · grind
  have ht := (qtop_spec (x := 1) (y := dof j 0) one0 (by grind)).1
  rw [show dabs (1 : Dyadic) = 1 by decide, show dabs (dof (j : Int) 0) = dof j 0 by rw [dabs_eq, if_neg (by grind)]] at ht
  have ht := q_le.2 ht
  rw [q_mul, dof_rat, q_one] at ht
  have j1 : (1 : Rat) ≤ ((j : Nat) : Rat) := by exact_mod_cast hj
  have t0 : 0 ≤ (dof 1 (qtop 1 (dof j 0))).toRat := by rw [← q_zero]; exact q_le.2 (by have := dof1_pos (qtop 1 (dof j 0)); grind)
  have t1 := Rat.mul_le_mul_of_nonneg_right j1 t0
  have e : dof 1 (qexp 1 (dof j 0) p) = dof 1 (qtop 1 (dof j 0)) * dof 1 (1 - min (max p 1) 4000) := by rw [dof1_mul]; congr 1; unfold qexp; omega
  have u : (dof 1 (qexp 1 (dof j 0) p)).toRat ≤ ep p := by
    rw [e, q_mul]
    have := Rat.mul_le_mul_of_nonneg_right (show (dof 1 (qtop 1 (dof j 0))).toRat ≤ 1 by grind) (Rat.le_of_lt (ep_pos p))
    show _ * ep p ≤ ep p
    grind
  have l1 := q_le.2 l0
  rw [q_mul, dof_rat, q_one] at l1
  have z0 : 0 ≤ (qdiv 1 (dof j 0) p 0).toRat := by rw [← q_zero]; exact q_le.2 (by grind)
  have l2 := Rat.mul_le_mul_of_nonneg_right j1 z0
  have d1 := q_le.2 hd.1
  have d2 := q_le.2 hd.2
  rw [q_sub] at d2
  have el := ep_le p
  rw [← q0, ← q1] at d1 d2
  have e1 : (iinv (dof j 0, dof j 0) p).1 = qdiv 1 (dof j 0) p 0 := rfl
  have e2 : (iinv (dof j 0, dof j 0) p).2 = qdiv 1 (dof j 0) p 1 := rfl
  exact ⟨by rw [e1]; grind, by rw [e2]; grind, by rw [e1, e2]; grind, by rw [e1, e2]; grind⟩
theorem Bx.divn {z : Cq} {m a : Rat} {j : Nat} (p : Int) (hj : 0 < j) (h : Bx z m a) : Bx (divn z j p) (4 * m) (2 * a + 5 * (m * ep p)) := by
  have m0 := h.m0
  have e0 := ep_pos p
  have e1 := ep_le p
  have k := (h.mul (Bx.inv p hj)).round p
  have k1 := Rat.mul_le_mul_of_nonneg_left e1 m0.1
  exact k.mono (by grind) (by grind)
end Go.Ev.Ar

namespace Go.Ev.Ar
open Go Go.Ev Go.Proofs

/- THE ROW's LOOP -/
theorem q_dof1 {e : Int} : 0 < (dof 1 e).toRat := by
  rw [← q_zero]; exact Dyadic.toRat_lt_toRat_iff.2 (dof1_pos e)
theorem unR_bx : Bx unR.1 2 0 ∧ Bx unR.2 2 0 := ⟨Bx.pt (by rw [q_one, qab_self (by decide)]; grind), Bx.pt (by rw [q_zero, qab_zero]; grind)⟩
theorem hst_bx {y out : Rq} {b c : Rat} (y1 : Bx y.1 (1 / 512) c) (y2 : Bx y.2 (1 / 512) c) (o1 : Bx out.1 2 b) (o2 : Bx out.2 2 b) (wp : Int) {j : Nat} (hj : 0 < j) (hc : c ≤ 1 / 512 * ep wp) (hb : b ≤ 1 / 4 * ep wp) :
    Bx (hst y out wp j).1 2 (1 / 4 * ep wp) ∧ Bx (hst y out wp j).2 2 (1 / 4 * ep wp) := by
  have e0 := ep_pos wp
  have e1 := ep_le wp
  have m1 := ((y1.mul o1).sub (y2.mul o2)).divn wp hj
  have m2 := ((y1.mul o2).add (y2.mul o1)).divn wp hj
  have p1 : Bx ((1, 1) : Cq) 1 0 := Bx.pt (by rw [q_one, qab_self (by decide)]; grind)
  have p2 : Bx ((0, 0) : Cq) 0 0 := Bx.pt (by rw [q_zero, qab_zero]; grind)
  exact ⟨(p1.add m1).mono (by grind) (by grind), (p2.add m2).mono (by grind) (by grind)⟩
theorem hrn_bx {y : Rq} {c : Rat} (wp : Int) (y1 : Bx y.1 (1 / 512) c) (y2 : Bx y.2 (1 / 512) c) (hc : c ≤ 1 / 512 * ep wp) : ∀ (j : Nat) {out : Rq}, Bx out.1 2 (1 / 4 * ep wp) → Bx out.2 2 (1 / 4 * ep wp) → Bx (hrn y wp j out).1 2 (1 / 4 * ep wp) ∧ Bx (hrn y wp j out).2 2 (1 / 4 * ep wp)
  | 0, _, o1, o2 => ⟨o1, o2⟩
  | j + 1, _, o1, o2 => by
    have h := hst_bx y1 y2 o1 o2 wp (j := j + 1) (by omega) hc Rat.le_refl
    exact hrn_bx wp y1 y2 hc j h.1 h.2
/-- A number rounded, so far small. -/
theorem y_bx {x : Dyadic} (wp : Int) (h : qab x.toRat ≤ 1 / 1024) : Bx (iround (x, x) wp) (1 / 512) (1 / 512 * ep wp) := by
  have e0 := ep_pos wp
  have e1 := ep_le wp
  exact ((Bx.pt h).round wp).mono (by grind) (by grind)
theorem zero_bx (m w : Rat) (hm : 0 ≤ m) (hw : 0 ≤ w) : Bx ((0, 0) : Cq) m w := (Bx.pt (m := 0) (by rw [q_zero, qab_zero]; grind)).mono hm hw
/-- The rectangle of y, or of y times i. -/
def yR (x : Dyadic) (im : Bool) (wp : Int) : Rq := if im then ((0, 0), iround (x, x) wp) else (iround (x, x) wp, (0, 0))
theorem yR_bx {x : Dyadic} (im : Bool) (wp : Int) (h : qab x.toRat ≤ 1 / 1024) : Bx (yR x im wp).1 (1 / 512) (1 / 512 * ep wp) ∧ Bx (yR x im wp).2 (1 / 512) (1 / 512 * ep wp) := by
  have e0 := ep_pos wp
  have k := y_bx wp h
  have z := zero_bx (1 / 512) (1 / 512 * ep wp) (by grind) (by grind)
  unfold yR; cases im
  · exact ⟨k, z⟩
  · exact ⟨z, k⟩
theorem trnR_le {wp : Int} (h1 : 1 ≤ wp) (h2 : wp ≤ 4000) : (trnR wp).toRat ≤ 1 / 8 * ep wp := by
  have e : trnR wp ≤ dof 1 (-3) * dof 1 (1 - min (max wp 1) 4000) := by
    rw [dof1_mul]; exact dof1_le.2 (by unfold trnT; omega)
  have := q_le.2 e
  rw [q_mul] at this
  rwa [show (dof 1 (-3)).toRat = 1 / 8 by rw [dof_toRat]; rfl] at this
theorem rest_bx {wp : Int} (h1 : 1 ≤ wp) (h2 : wp ≤ 4000) : Bx (-trnR wp, trnR wp) (1 / 8 * ep wp) (1 / 4 * ep wp) := by
  have h := trnR_le h1 h2
  have p : 0 < (trnR wp).toRat := q_dof1
  exact ⟨by dsimp only; rw [q_neg]; grind, by dsimp only; grind, by dsimp only; rw [q_neg]; grind, by dsimp only; rw [q_neg]; grind⟩
theorem trn0_bx {x : Dyadic} (im : Bool) {wp : Int} (h1 : 1 ≤ wp) (h2 : wp ≤ 4000) (h : qab x.toRat ≤ 1 / 1024) : Bx (trn0 (yR x im wp) im wp).1 3 (1 / 2 * ep wp) ∧ Bx (trn0 (yR x im wp) im wp).2 3 (1 / 2 * ep wp) := by
  have e0 := ep_pos wp
  have e1 := ep_le wp
  obtain ⟨y1, y2⟩ := yR_bx im wp h
  obtain ⟨u1, u2⟩ := unR_bx
  obtain ⟨o1, o2⟩ := hrn_bx wp y1 y2 Rat.le_refl (trnT wp) (u1.mono Rat.le_refl (by grind)) (u2.mono Rat.le_refl (by grind))
  have r := rest_bx h1 h2
  unfold trn0 addRest
  refine ⟨(o1.add r).mono (by grind) (by grind), ?_⟩
  cases im
  · exact o2.mono (by grind) (by grind)
  · exact (o2.add r).mono (by grind) (by grind)
/-- What the row comes to lies in it, for all that many terms. -/
theorem trn0_has {x : Dyadic} (im : Bool) {wp : Int} (h1 : 1 ≤ wp) (h2 : wp ≤ 4000) (h : qab x.toRat ≤ 1 / 1024) (n : Nat) (hn : trnT wp ≤ n) : qhas2 (trn0 (yR x im wp) im wp) (en n (if im then iy x.toRat else Cr.ofQ x.toRat)) := by
  have hy : qhas2 (yR x im wp) (if im then iy x.toRat else Cr.ofQ x.toRat) := by
    have a := qhas_in (qhas_pt x) (iround_in (x, x) wp)
    have b : qhas (0, 0) 0 := by rw [← q_zero]; exact qhas_pt 0
    unfold yR; cases im
    · exact ⟨a, b⟩
    · exact ⟨b, a⟩
  have ho := hrn_has wp hy (trnT wp) qhas2_one
  rw [hrc_one] at ho
  have hz : nrm (if im then iy x.toRat else Cr.ofQ x.toRat) = qab x.toRat := by cases im; exact nrm_q; exact nrm_iy _
  have hre : im = false → (en n (if im then iy x.toRat else Cr.ofQ x.toRat)).im = (en (trnT wp) (if im then iy x.toRat else Cr.ofQ x.toRat)).im := by
    rintro rfl; show (en n (Cr.ofQ x.toRat)).im = (en (trnT wp) (Cr.ofQ x.toRat)).im; rw [en_real, en_real]
  generalize (if im then iy x.toRat else Cr.ofQ x.toRat) = w at *
  have hr := en_rest (z := w) (d := 1 / 1024) (by rw [hz]; exact h) (by grind) (trnT wp) (n - trnT wp)
  rw [show trnT wp + (n - trnT wp) = n by omega] at hr
  have hp := pq_nn (show (0 : Rat) ≤ 1 / 1024 by grind) (n + 1)
  have er : (trnR wp).toRat = 2 * pq (1 / 1024) (trnT wp + 1) := by
    unfold trnR
    generalize trnT wp = t
    induction t with
    | zero => rw [show (1 - 10 * (((0 : Nat) : Int) + 1)) = -9 by decide, show (dof 1 (-9)).toRat = 1 / 512 by rw [dof_toRat]; rfl, pq, pq]; grind
    | succ t ih =>
      rw [show 1 - 10 * (((t + 1 : Nat) : Int) + 1) = (1 - 10 * ((t : Int) + 1)) + -10 by omega, ← dof1_mul, q_mul, ih, show (dof 1 (-10)).toRat = 1 / 1024 by rw [dof_toRat]; rfl, show pq (1 / 1024) (t + 1 + 1) = 1 / 1024 * pq (1 / 1024) (t + 1) from rfl]
      generalize pq (1 / 1024) (t + 1) = p at *
      clear hr hp ho hy hre h hz
      grind
  have hb : nrm (en n w - en (trnT wp) w) ≤ (trnR wp).toRat := by rw [er]; grind
  have r1 := qab_le.1 (Rat.le_trans (nrm_re _) hb)
  have r2 := qab_le.1 (Rat.le_trans (nrm_im _) hb)
  rw [Cr.sub_re] at r1
  rw [Cr.sub_im] at r2
  have g : ∀ s : Rat, -(trnR wp).toRat ≤ s → s ≤ (trnR wp).toRat → qhas (-trnR wp, trnR wp) s := fun s a b => ⟨by dsimp only; rw [q_neg]; exact a, b⟩
  refine ⟨?_, ?_⟩
  · have := qhas_add ho.1 (g _ r1.1 r1.2)
    rwa [show (en (trnT wp) w).re + ((en n w).re - (en (trnT wp) w).re) = (en n w).re by grind] at this
  · cases im
    · rw [hre rfl]; exact ho.2
    · have := qhas_add ho.2 (g _ r2.1 r2.2)
      rwa [show (en (trnT wp) w).im + ((en n w).im - (en (trnT wp) w).im) = (en n w).im by grind] at this
/- SQUARED -/
theorem bx_of {z : Cq} {r m w : Rat} (h : qhas z r) (hr : qab r ≤ m) (hw : z.2.toRat - z.1.toRat ≤ w) : Bx z (m + w) w := by
  have k := qab_le.1 hr
  obtain ⟨a, b⟩ := h
  exact ⟨by grind, by grind, by grind, hw⟩
/-- On the circle: how wide after k squarings. -/
theorem sqn_bx {z : Rq} {c : Cr} {wp : Int} (h : qhas2 z c) (w1 : z.1.2.toRat - z.1.1.toRat ≤ ep wp) (w2 : z.2.2.toRat - z.2.1.toRat ≤ ep wp) {K : Nat} (hK : pq 8 K * (3 * ep wp) ≤ 1 / 8) (hc : ∀ k, k ≤ K → qab (sqr k c).re ≤ 9 / 8 ∧ qab (sqr k c).im ≤ 9 / 8) :
    ∀ k, k ≤ K → (sqn wp k z).1.2.toRat - (sqn wp k z).1.1.toRat ≤ pq 8 k * (3 * ep wp) - 2 * ep wp ∧ (sqn wp k z).2.2.toRat - (sqn wp k z).2.1.toRat ≤ pq 8 k * (3 * ep wp) - 2 * ep wp
  | 0, _ => by rw [pq]; show z.1.2.toRat - z.1.1.toRat ≤ _ ∧ z.2.2.toRat - z.2.1.toRat ≤ _; grind
  | k + 1, hk => by
    have e0 := ep_pos wp
    obtain ⟨i1, i2⟩ := sqn_bx h w1 w2 hK hc k (by omega)
    have hh := sqn_has wp h k
    obtain ⟨c1, c2⟩ := hc k (by omega)
    have mono : pq 8 k * (3 * ep wp) ≤ 1 / 8 := by
      have : pq 8 k ≤ pq 8 K := by
        obtain ⟨d, rfl⟩ : ∃ d, K = k + d := ⟨K - k, by omega⟩
        rw [pq_add]
        have p0 := pq_nn (show (0 : Rat) ≤ 8 by decide) k
        have p1 : 1 ≤ pq 8 d := by
          clear hK hc hk
          induction d with
          | zero => exact Rat.le_refl
          | succ d ih => rw [pq]; grind
        have := Rat.mul_le_mul_of_nonneg_left p1 p0
        grind
      have := Rat.mul_le_mul_of_nonneg_right this (show 0 ≤ 3 * ep wp by grind)
      grind
    have b1 := bx_of hh.1 c1 i1
    have b2 := bx_of hh.2 c2 i2
    generalize hW : pq 8 k * (3 * ep wp) - 2 * ep wp = W at *
    have b1 := b1.mono (k := 5 / 4) (v := W) (by grind) Rat.le_refl
    have b2 := b2.mono (k := 5 / 4) (v := W) (by grind) Rat.le_refl
    have s1 := (b1.sq.sub b2.sq).round wp
    have m := b1.mul b2
    have s2 := (m.add m).round wp
    have f1 := s1.wd
    have f2 := s2.wd
    rw [show pq 8 (k + 1) = 8 * pq 8 k from rfl]
    have W0 : 0 ≤ W := b1.m0.2
    refine ⟨?_, ?_⟩
    · refine Rat.le_trans f1 ?_; grind
    · refine Rat.le_trans f2 ?_; grind
end Go.Ev.Ar

namespace Go.Ev.Ar
open Go Go.Ev Go.Proofs

/- HOW FINE -/
theorem dof_neg_rat (h : Nat) : (dof 1 (-(h : Int))).toRat = pq (1 / 2) h := by
  induction h with
  | zero => rw [show -(((0 : Nat) : Int)) = 0 by decide, show dof 1 0 = 1 by decide, q_one, pq]
  | succ h ih => rw [show -(((h + 1 : Nat) : Int)) = -1 + -(h : Int) by omega, ← dof1_mul, q_mul, ih, show (dof 1 (-1)).toRat = 1 / 2 by rw [dof_toRat]; rfl, pq]
/-- Nought, or not below 2^-m. -/
def Nz (m : Nat) (q : Dyadic) : Prop := q.toRat = 0 ∨ pq (1 / 2) m ≤ qab q.toRat
theorem half_mono {m n : Nat} (h : m ≤ n) : pq (1 / 2) n ≤ pq (1 / 2) m := by
  obtain ⟨d, rfl⟩ : ∃ d, n = m + d := ⟨n - m, by omega⟩
  rw [pq_add]
  have p0 := pq_nn (show (0 : Rat) ≤ 1 / 2 by grind) m
  have p1 : pq (1 / 2) d ≤ 1 := by
    have := half_le d
    have hk : (0 : Rat) ≤ ((d : Nat) : Rat) := by exact_mod_cast Nat.zero_le d
    have := qmul_nn hk (pq_nn (show (0 : Rat) ≤ 1 / 2 by grind) d)
    grind
  have := Rat.mul_le_mul_of_nonneg_left p1 p0
  grind
theorem Nz.mono {m n : Nat} {q : Dyadic} (h : Nz m q) (k : m ≤ n) : Nz n q := by
  rcases h with h | h
  · exact .inl h
  · exact .inr (Rat.le_trans (half_mono k) h)
theorem Nz.of_ht {h : Nat} {q : Dyadic} (hq : Ht h q) : Nz h q := by
  obtain ⟨n, _, rfl⟩ := hq
  have e : dof n (-(h : Int)) = dof n 0 * dof 1 (-(h : Int)) := by rw [dof_mul]; congr 1 <;> omega
  have e0 : (dof n 0).toRat = (n : Rat) := by rw [dof_toRat, Rat.zpow_zero, Rat.mul_one]
  have p0 := pq_nn (show (0 : Rat) ≤ 1 / 2 by grind) h
  unfold Nz
  rw [e, q_mul, dof_neg_rat, e0]
  by_cases hn : n = 0
  · left; subst hn; show ((0 : Int) : Rat) * _ = 0; grind
  · right
    rw [qab_mul, qab_self p0]
    have h1 : (1 : Rat) ≤ qab (n : Rat) := by
      rcases Int.lt_or_le n 0 with g | g
      · have : (1 : Rat) ≤ ((-n : Int) : Rat) := by exact_mod_cast (show (1 : Int) ≤ -n by omega)
        rw [Rat.intCast_neg] at this
        unfold qab; grind
      · have : (1 : Rat) ≤ ((n : Int) : Rat) := by exact_mod_cast (show (1 : Int) ≤ n by omega)
        unfold qab; grind
    have := Rat.mul_le_mul_of_nonneg_right h1 p0
    grind
theorem ht_grid {h : Nat} {k e : Int} (h1 : -(h : Int) ≤ e) (h2 : dabs (dof k e) < dof 1 (h : Int)) : Ht h (dof k e) := by
  have e1 : dof k e = dof (k * 2 ^ (e + h).toNat) (-(h : Int)) := by rw [dof_shl]; congr 1; omega
  rw [e1] at h2 ⊢
  refine ⟨_, ?_, rfl⟩
  have e2 : dof 1 (h : Int) = dof (1 * 2 ^ (2 * h)) (-(h : Int)) := by rw [dof_shl]; congr 1; omega
  rw [e2, dabs_dof, dof_lt, Int.one_mul] at h2
  rw [Zt.iff]
  exact_mod_cast h2
theorem sq_nn (r : Rat) : 0 ≤ r * r := by
  rcases Classical.em (0 ≤ r) with g | g
  · exact qmul_nn g g
  · have := qmul_nn (show 0 ≤ -r by grind) (show 0 ≤ -r by grind)
    grind
theorem sq_qab (r : Rat) : r * r = qab r * qab r := by unfold qab; split <;> grind
theorem rto_parts {q : Dyadic} {p : Int} (h0 : q ≠ 0) (mode : Int) (hm : mode = 0 ∨ mode = 1) : (∃ k, rto q p mode = dof k (unitE q p)) ∧ qab ((rto q p mode).toRat - q.toRat) ≤ qab q.toRat * ep p := by
  have e := rto_err q p
  have f := rto_facts (q := q) (p := p)
  have f1 := q_le.2 f.1
  have f2 := q_le.2 f.2
  have e0 := ep_pos p
  have m0 := qmul_nn (qab_ge q.toRat) (Rat.le_of_lt e0)
  refine ⟨?_, ?_⟩
  · unfold rto; rw [if_neg h0]; exact grd_on _ _ _
  · rw [qab_le]; rcases hm with rfl | rfl <;> grind
/-- Rounded it is no finer than its size tells. -/
theorem rto_htz {q : Dyadic} {p : Int} {m K P : Nat} (mode : Int) (hm : mode = 0 ∨ mode = 1) (hz : Nz m q) (hb : qab q.toRat ≤ (dof 1 (K : Int)).toRat) (hp : min (max p 1) 4000 ≤ (P : Int)) : Ht (m + P + K + 2) (rto q p mode) := by
  by_cases h0 : q = 0
  · subst h0; unfold rto; rw [if_pos rfl]; exact .zero _
  · obtain ⟨⟨k, hk⟩, he⟩ := rto_parts (p := p) h0 mode hm
    have hz : dof 1 (-(m : Int)) ≤ dabs q := by
      rcases hz with g | g
      · exact absurd (by rw [← q_zero] at g; exact Dyadic.toRat_inj.1 g) h0
      · rw [← dof_neg_rat, ← ab_rat] at g; exact q_le.1 g
    have t1 := lt_dof_one h0
    have t2 : -(m : Int) < dtop q + 1 := dof1_lt.1 (by grind)
    rw [hk] at he ⊢
    refine ht_grid (by unfold unitE; omega) ?_
    have el := ep_le p
    have a1 := Rat.mul_le_mul_of_nonneg_left el (qab_ge q.toRat)
    have a2 := qab_add ((dof k (unitE q p)).toRat - q.toRat) q.toRat
    rw [show (dof k (unitE q p)).toRat - q.toRat + q.toRat = (dof k (unitE q p)).toRat by grind, ← ab_rat (dof k (unitE q p))] at a2
    have a3 : (dof 1 ((K : Int) + 1)).toRat = 2 * (dof 1 (K : Int)).toRat := by rw [← dof1_mul, q_mul, show (dof 1 1).toRat = 2 by rw [show dof 1 1 = 1 + 1 by decide, q_add, q_one]; grind]; grind
    have a4 : (dabs (dof k (unitE q p))).toRat ≤ (dof 1 ((K : Int) + 1)).toRat := by rw [a3]; grind
    have a5 := q_le.1 a4
    have a6 : dof 1 ((K : Int) + 1) < dof 1 ((m + P + K + 2 : Nat) : Int) := dof1_lt.2 (by omega)
    grind
theorem rto_nz {q : Dyadic} {p : Int} {m : Nat} (mode : Int) (hm : mode = 0 ∨ mode = 1) (hz : Nz m q) (hp : ep p ≤ 1 / 2) : Nz (m + 1) (rto q p mode) := by
  by_cases h0 : q = 0
  · subst h0; unfold rto; rw [if_pos rfl]; exact .inl q_zero
  · obtain ⟨_, he⟩ := rto_parts (p := p) h0 mode hm
    have n0 : ¬ q.toRat = 0 := fun g => h0 (by rw [← q_zero] at g; exact Dyadic.toRat_inj.1 g)
    rcases hz with g | g
    · exact absurd g n0
    · right
      rw [pq]
      have a1 := Rat.mul_le_mul_of_nonneg_left hp (qab_ge q.toRat)
      have a2 := qab_add ((rto q p mode).toRat) (-((rto q p mode).toRat - q.toRat))
      rw [qab_neg, show (rto q p mode).toRat + -((rto q p mode).toRat - q.toRat) = q.toRat by grind] at a2
      grind
/-- A part's ends. -/
def Nz2 (m : Nat) (z : Cq) : Prop := Nz m z.1 ∧ Nz m z.2
theorem Nz2.of_hc {h : Nat} {z : Cq} (k : Hc h z) : Nz2 h z := ⟨.of_ht k.1, .of_ht k.2⟩
theorem Nz2.mono {m n : Nat} {z : Cq} (h : Nz2 m z) (k : m ≤ n) : Nz2 n z := ⟨h.1.mono k, h.2.mono k⟩
theorem mn_or4 (a b c d : Dyadic) : mn (mn a b) (mn c d) = a ∨ mn (mn a b) (mn c d) = b ∨ mn (mn a b) (mn c d) = c ∨ mn (mn a b) (mn c d) = d := by
  rcases mn_or (mn a b) (mn c d) with e | e <;> rw [e]
  · rcases mn_or a b with f | f <;> rw [f] <;> simp
  · rcases mn_or c d with f | f <;> rw [f] <;> simp
theorem mx_or4 (a b c d : Dyadic) : mx (mx a b) (mx c d) = a ∨ mx (mx a b) (mx c d) = b ∨ mx (mx a b) (mx c d) = c ∨ mx (mx a b) (mx c d) = d := by
  rcases mx_or (mx a b) (mx c d) with e | e <;> rw [e]
  · rcases mx_or a b with f | f <;> rw [f] <;> simp
  · rcases mx_or c d with f | f <;> rw [f] <;> simp
/-- Twice a product of what is not small and what is not too small. -/
theorem nz_prod {m : Nat} {p q : Dyadic} (hp : 1 / 2 ≤ qab p.toRat) (hq : Nz m q) : Nz m (p * q + p * q) := by
  unfold Nz at *
  rw [q_add, q_mul]
  rcases hq with g | g
  · left; rw [g]; grind
  · right
    rw [show p.toRat * q.toRat + p.toRat * q.toRat = 2 * (p.toRat * q.toRat) by grind, qab_mul, qab_mul, qab_self (show (0 : Rat) ≤ 2 by decide)]
    have := Rat.mul_le_mul_of_nonneg_right hp (qab_ge q.toRat)
    grind
theorem nz_twice {m : Nat} {z w : Cq} (h1 : 1 / 2 ≤ qab z.1.toRat) (h2 : 1 / 2 ≤ qab z.2.toRat) (hw : Nz2 m w) : Nz2 m (iadd (imul z w) (imul z w)) := by
  have a := nz_prod h1 hw.1
  have b := nz_prod h1 hw.2
  have c := nz_prod h2 hw.1
  have d := nz_prod h2 hw.2
  refine ⟨?_, ?_⟩
  · show Nz m ((imul z w).1 + (imul z w).1)
    unfold imul; dsimp only
    rcases mn_or4 (z.1 * w.1) (z.1 * w.2) (z.2 * w.1) (z.2 * w.2) with e | e | e | e <;> rw [e] <;> assumption
  · show Nz m ((imul z w).2 + (imul z w).2)
    unfold imul; dsimp only
    rcases mx_or4 (z.1 * w.1) (z.1 * w.2) (z.2 * w.1) (z.2 * w.2) with e | e | e | e <;> rw [e] <;> assumption
theorem nz_big {m : Nat} (hm : 1 ≤ m) {z : Cq} {r w : Rat} (h : qhas z r) (hw : z.2.toRat - z.1.toRat ≤ w) (hr : 1 / 2 + w ≤ qab r) : Nz2 m z ∧ 1 / 2 ≤ qab z.1.toRat ∧ 1 / 2 ≤ qab z.2.toRat := by
  have e : pq (1 / 2) m ≤ 1 / 2 := by have := half_mono hm; rw [show pq (1 / 2) 1 = 1 / 2 by rw [pq, pq]; grind] at this; exact this
  obtain ⟨a, b⟩ := h
  have k1 : 1 / 2 ≤ qab z.1.toRat := by unfold qab at *; grind
  have k2 : 1 / 2 ≤ qab z.2.toRat := by unfold qab at *; grind
  exact ⟨⟨.inr (by grind), .inr (by grind)⟩, k1, k2⟩
/-- Fine only if small. -/
def Fe (z : Rq) : Prop := (1 / 8 ≤ qab z.1.1.toRat → Ht 400 z.1.1) ∧ (1 / 8 ≤ qab z.1.2.toRat → Ht 400 z.1.2) ∧ (1 / 8 ≤ qab z.2.1.toRat → Ht 400 z.2.1) ∧ (1 / 8 ≤ qab z.2.2.toRat → Ht 400 z.2.2)
theorem sq_small {x t : Rat} (h : qab x ≤ t) : x * x ≤ t * t := by
  have hs : x * x = qab x * qab x := by unfold qab; split <;> grind
  rw [hs]; exact qmul_le (qab_ge x) h (qab_ge x) h
theorem sq_big {x t : Rat} (ht : 0 ≤ t) (h : t * t ≤ x * x) : t ≤ qab x := by
  have hs : x * x = qab x * qab x := by unfold qab; split <;> grind
  rw [hs] at h
  rcases Classical.em (t ≤ qab x) with g | g
  · exact g
  · have h1 := qab_ge x
    have h2 := Rat.mul_lt_mul_of_pos_left (show qab x < t by grind) (show 0 < t by grind)
    have h3 := Rat.mul_le_mul_of_nonneg_right (show qab x ≤ t by grind) h1
    grind
/-- The square's ends are nought or not too small, where the point lies near the circle. -/
theorem rsq_nz {z : Rq} {c : Cr} {m : Nat} (h : qhas2 z c) (w1 : z.1.2.toRat - z.1.1.toRat ≤ 1 / 1024) (w2 : z.2.2.toRat - z.2.1.toRat ≤ 1 / 1024) (n1 : 15 / 16 ≤ N2 c) (n2 : N2 c ≤ 17 / 16) (hm : 802 ≤ m) (z1 : Nz2 m z.1) (z2 : Nz2 m z.2) (hf : Fe z ∨ qab z.2.1.toRat ≤ 1 / 8) : Nz2 m (rsq z).1 ∧ Nz2 m (rsq z).2 := by
  have cr : qab c.re ≤ 17 / 16 := qsq_le (by grind) (by unfold N2 at n2; have := sq_nn c.im; grind)
  have ci : qab c.im ≤ 17 / 16 := qsq_le (by grind) (by unfold N2 at n2; have := sq_nn c.re; grind)
  have b1 := (bx_of h.1 cr w1).mono (k := 5 / 4) (v := 1 / 1024) (by grind) Rat.le_refl
  have b2 := (bx_of h.2 ci w2).mono (k := 5 / 4) (v := 1 / 1024) (by grind) Rat.le_refl
  have hq := qhas2_sq h
  have wq := (b1.sq.sub b2.sq).wd
  have e1 : (c * c).re = c.re * c.re - c.im * c.im := rfl
  -- one part small
  have small : ∀ {u v : Rat} {y : Cq}, qhas y v → y.2.toRat - y.1.toRat ≤ 1 / 1024 → (qab y.1.toRat ≤ 1 / 8 ∨ qab y.2.toRat ≤ 1 / 8) → 15 / 16 ≤ u * u + v * v → v * v ≤ 1 / 60 ∧ 3 / 4 ≤ qab u := by
    intro u v y hy wy hs hn
    have hv : qab v ≤ 129 / 1024 := by
      obtain ⟨a, b⟩ := hy
      rw [qab_le]
      rcases hs with g | g <;> (have := qab_le.1 g; grind)
    have v2 := sq_small hv
    exact ⟨by grind, sq_big (by grind) (by grind)⟩
  have caseA : ∀ q : Rat, ¬ (q ≤ 1 / 8) → 1 / 8 ≤ q := fun q g => by grind
  by_cases g2 : qab z.2.1.toRat ≤ 1 / 8 ∨ qab z.2.2.toRat ≤ 1 / 8
  · obtain ⟨s1, s2⟩ := small (u := c.re) h.2 w2 g2 (by unfold N2 at n1; exact n1)
    have big := nz_big (show 1 ≤ m by omega) h.1 w1 (by grind)
    have s3 : 3 / 4 * (3 / 4) ≤ c.re * c.re := by
      have := qmul_le (show (0 : Rat) ≤ 3 / 4 by grind) s2 (show (0 : Rat) ≤ 3 / 4 by grind) s2
      rw [sq_qab c.re]; exact this
    refine ⟨(nz_big (show 1 ≤ m by omega) hq.1 (w := 1 / 128) (Rat.le_trans wq (by grind)) ?_).1, nz_twice big.2.1 big.2.2 z2⟩
    rw [e1, qab_self (by grind)]; grind
  · by_cases g1 : qab z.1.1.toRat ≤ 1 / 8 ∨ qab z.1.2.toRat ≤ 1 / 8
    · obtain ⟨s1, s2⟩ := small (u := c.im) h.1 w1 g1 (by unfold N2 at n1; grind)
      have big := nz_big (show 1 ≤ m by omega) h.2 w2 (by grind)
      have s3 : 3 / 4 * (3 / 4) ≤ c.im * c.im := by
        have := qmul_le (show (0 : Rat) ≤ 3 / 4 by grind) s2 (show (0 : Rat) ≤ 3 / 4 by grind) s2
        rw [sq_qab c.im]; exact this
      refine ⟨(nz_big (show 1 ≤ m by omega) hq.1 (w := 1 / 128) (Rat.le_trans wq (by grind)) ?_).1, ?_⟩
      · rw [e1, show c.re * c.re - c.im * c.im = -(c.im * c.im - c.re * c.re) by grind, qab_neg, qab_self (by grind)]; grind
      · have t := nz_twice big.2.1 big.2.2 z1
        show Nz2 m (iadd (imul z.1 z.2) (imul z.1 z.2))
        rw [imul_comm]; exact t
    · have k : Hr 400 z := by
        rcases hf with f | f
        · obtain ⟨f1, f2, f3, f4⟩ := f
          exact ⟨⟨f1 (caseA _ fun x => g1 (.inl x)), f2 (caseA _ fun x => g1 (.inr x))⟩, ⟨f3 (caseA _ fun x => g2 (.inl x)), f4 (caseA _ fun x => g2 (.inr x))⟩⟩
        · exact absurd (.inl f) g2
      have kk := k.rsq (c := 802) (by decide)
      exact ⟨(Nz2.of_hc kk.1).mono hm, (Nz2.of_hc kk.2).mono hm⟩
/-- One squaring, rounded. -/
theorem sq_round_i {z : Cq} {m P : Nat} {wp : Int} (hz : Nz2 m z) (b1 : qab z.1.toRat ≤ 16) (b2 : qab z.2.toRat ≤ 16) (hp : min (max wp 1) 4000 ≤ (P : Int)) (he : ep wp ≤ 1 / 2) (hP : P ≤ 300) :
    Nz2 (m + 1) (iround z wp) ∧ Hc (m + P + 6) (iround z wp) ∧ (1 / 8 ≤ qab (iround z wp).1.toRat → Ht 400 (iround z wp).1) ∧ (1 / 8 ≤ qab (iround z wp).2.toRat → Ht 400 (iround z wp).2) := by
  have b4 : (dof 1 ((4 : Nat) : Int)).toRat = 16 := by
    rw [show dof 1 ((4 : Nat) : Int) = dof 1 0 * 16 by decide, q_mul, show dof 1 0 = 1 by decide, q_one, show ((16 : Dyadic)) = (4 : Dyadic) * 4 by decide, q_mul, show (4 : Dyadic) = 1 + 1 + 1 + 1 by decide, q_add, q_add, q_add, q_one]; grind
  have p4 : pq (1 / 2) 4 = 1 / 16 := by simp only [pq]; grind
  have fine : ∀ (q : Dyadic) (mode : Int), (mode = 0 ∨ mode = 1) → qab q.toRat ≤ 16 → 1 / 8 ≤ qab (rto q wp mode).toRat → Ht 400 (rto q wp mode) := by
    intro q mode hm hb h8
    by_cases h0 : q = 0
    · subst h0; unfold rto; rw [if_pos rfl]; exact .zero _
    · have e := (rto_parts (p := wp) h0 mode hm).2
      have a1 := Rat.mul_le_mul_of_nonneg_left (show ep wp ≤ 1 by grind) (qab_ge q.toRat)
      have a2 := qab_add ((rto q wp mode).toRat - q.toRat) q.toRat
      rw [show (rto q wp mode).toRat - q.toRat + q.toRat = (rto q wp mode).toRat by grind] at a2
      exact (rto_htz (m := 4) (K := 4) mode hm (.inr (by rw [p4]; grind)) (by rw [b4]; exact hb) hp).mono (by omega)
  exact ⟨⟨rto_nz 0 (.inl rfl) hz.1 he, rto_nz 1 (.inr rfl) hz.2 he⟩, ⟨(rto_htz (K := 4) 0 (.inl rfl) hz.1 (by rw [b4]; exact b1) hp).mono (by omega), (rto_htz (K := 4) 1 (.inr rfl) hz.2 (by rw [b4]; exact b2) hp).mono (by omega)⟩, fine _ _ (.inl rfl) b1, fine _ _ (.inr rfl) b2⟩
theorem Bx.qab {z : Cq} {m w : Rat} (h : Bx z m w) : Ev.qab z.1.toRat ≤ m ∧ Ev.qab z.2.toRat ≤ m := by
  obtain ⟨a, b, c, d⟩ := h
  exact ⟨qab_le.2 ⟨by grind, by grind⟩, qab_le.2 ⟨by grind, by grind⟩⟩
/-- All squarings of what lies on the circle stay moderately fine. -/
theorem sqn_ht {z : Rq} {c : Cr} {wp : Int} {P : Nat} (h : qhas2 z c) (w1 : z.1.2.toRat - z.1.1.toRat ≤ ep wp) (w2 : z.2.2.toRat - z.2.1.toRat ≤ ep wp) (hK : pq 8 16 * (3 * ep wp) ≤ 1 / 1024) (hc : ∀ k, k ≤ 16 → 15 / 16 ≤ N2 (sqr k c) ∧ N2 (sqr k c) ≤ 17 / 16)
    (hp : min (max wp 1) 4000 ≤ (P : Int)) (hP : P ≤ 300) (h0 : Hr 5000 z) (hs : Ev.qab z.2.1.toRat ≤ 1 / 8) :
    ∀ k, k ≤ 16 → Nz2 (5000 + k) (sqn wp k z).1 ∧ Nz2 (5000 + k) (sqn wp k z).2 ∧ Hr 5400 (sqn wp k z) ∧ (Fe (sqn wp k z) ∨ Ev.qab (sqn wp k z).2.1.toRat ≤ 1 / 8) := by
  have e0 := ep_pos wp
  have p16 : (1 : Rat) ≤ pq 8 16 := by
    have : ∀ d, (1 : Rat) ≤ pq 8 d := fun d => by
      induction d with
      | zero => exact Rat.le_refl
      | succ d ih => rw [pq]; grind
    exact this 16
  have es : 3 * ep wp ≤ 1 / 1024 := by have := Rat.mul_le_mul_of_nonneg_right p16 (show 0 ≤ 3 * ep wp by grind); grind
  have cc : ∀ k, k ≤ 16 → Ev.qab (sqr k c).re ≤ 9 / 8 ∧ Ev.qab (sqr k c).im ≤ 9 / 8 := fun k hk => by
    have n := (hc k hk).2
    unfold N2 at n
    have a := sq_nn (sqr k c).re
    have b := sq_nn (sqr k c).im
    exact ⟨qsq_le (by grind) (by grind), qsq_le (by grind) (by grind)⟩
  have wd := sqn_bx h w1 w2 (K := 16) (by grind) cc
  intro k
  induction k with
  | zero => intro _; exact ⟨(Nz2.of_hc h0.1).mono (by omega), (Nz2.of_hc h0.2).mono (by omega), h0.mono (by omega), .inr hs⟩
  | succ k ih =>
    intro hk
    obtain ⟨n1, n2, hh, hf⟩ := ih (by omega)
    obtain ⟨v1, v2⟩ := wd k (by omega)
    have mono : pq 8 k ≤ pq 8 16 := by
      obtain ⟨d, hd⟩ : ∃ d, 16 = k + d := ⟨16 - k, by omega⟩
      rw [hd, pq_add]
      have p0 := pq_nn (show (0 : Rat) ≤ 8 by decide) k
      have p1 : (1 : Rat) ≤ pq 8 d := by
        clear hd
        induction d with
        | zero => exact Rat.le_refl
        | succ d ih => rw [pq]; grind
      have := Rat.mul_le_mul_of_nonneg_left p1 p0
      grind
    have mono := Rat.mul_le_mul_of_nonneg_right mono (show 0 ≤ 3 * ep wp by grind)
    have v1 : (sqn wp k z).1.2.toRat - (sqn wp k z).1.1.toRat ≤ 1 / 1024 := by grind
    have v2 : (sqn wp k z).2.2.toRat - (sqn wp k z).2.1.toRat ≤ 1 / 1024 := by grind
    have hq := sqn_has wp h k
    have nn := rsq_nz hq v1 v2 (hc k (by omega)).1 (hc k (by omega)).2 (show 802 ≤ 5000 + k by omega) n1 n2 hf
    obtain ⟨c1, c2⟩ := cc k (by omega)
    have b1 := (bx_of hq.1 c1 v1).mono (k := 5 / 4) (v := 1 / 1024) (by grind) Rat.le_refl
    have b2 := (bx_of hq.2 c2 v2).mono (k := 5 / 4) (v := 1 / 1024) (by grind) Rat.le_refl
    have s1 := (b1.sq.sub b2.sq).qab
    have m := b1.mul b2
    have s2 := (m.add m).qab
    have r1 := sq_round_i (wp := wp) nn.1 (Rat.le_trans s1.1 (by grind)) (Rat.le_trans s1.2 (by grind)) hp (by grind) hP
    have r2 := sq_round_i (wp := wp) nn.2 (Rat.le_trans s2.1 (by grind)) (Rat.le_trans s2.2 (by grind)) hp (by grind) hP
    exact ⟨r1.1, r2.1, ⟨r1.2.1.mono (by omega), r2.2.1.mono (by omega)⟩, .inl ⟨r1.2.2.1, r1.2.2.2, r2.2.2.1, r2.2.2.2⟩⟩
end Go.Ev.Ar

namespace Go.Ev.Ar
open Go Go.Ev Go.Proofs

/- THE ROW's LOOP: HOW FINE -/
theorem nz_mul {m n : Nat} {p q : Dyadic} (hp : Nz m p) (hq : Nz n q) : Nz (m + n) (p * q) := by
  unfold Nz at *
  rw [q_mul]
  rcases hp with g | g
  · left; rw [g]; grind
  · rcases hq with k | k
    · left; rw [k]; grind
    · right
      rw [qab_mul, pq_add]
      exact qmul_le (pq_nn (by grind) m) g (pq_nn (by grind) n) k
theorem nz_imul {m n : Nat} {z w : Cq} (hz : Nz2 m z) (hw : Nz2 n w) : Nz2 (m + n) (imul z w) := by
  have a := nz_mul hz.1 hw.1
  have b := nz_mul hz.1 hw.2
  have c := nz_mul hz.2 hw.1
  have d := nz_mul hz.2 hw.2
  refine ⟨?_, ?_⟩
  · unfold imul; dsimp only
    rcases mn_or4 (z.1 * w.1) (z.1 * w.2) (z.2 * w.1) (z.2 * w.2) with e | e | e | e <;> rw [e] <;> assumption
  · unfold imul; dsimp only
    rcases mx_or4 (z.1 * w.1) (z.1 * w.2) (z.2 * w.1) (z.2 * w.2) with e | e | e | e <;> rw [e] <;> assumption
theorem nz_neg {m : Nat} {q : Dyadic} (h : Nz m q) : Nz m (-q) := by
  unfold Nz at *; rw [q_neg, qab_neg]
  rcases h with g | g
  · left; grind
  · exact .inr g
theorem nz_ineg {m : Nat} {z : Cq} (h : Nz2 m z) : Nz2 m (ineg z) := ⟨nz_neg h.2, nz_neg h.1⟩
theorem nz_inv {j : Nat} {wp : Int} (hj : 0 < j) (hj2 : j ≤ 40) (he : ep wp ≤ 1 / 256) : Nz2 6 (iinv (dof j 0, dof j 0) wp) := by
  have b := Bx.inv wp hj
  have hp := dofn_pos hj
  have h0 := (qdiv_hi (x := 1) (y := dof j 0) wp).1 hp
  have h0 := q_le.2 h0
  rw [q_mul, dof_rat, q_one] at h0
  have h1 : (qdiv 1 (dof j 0) wp 1) = (iinv (dof j 0, dof j 0) wp).2 := rfl
  rw [h1] at h0
  have j2 : ((j : Nat) : Rat) ≤ 40 := by exact_mod_cast hj2
  obtain ⟨b1, b2, b3, b4⟩ := b
  have p6 : pq (1 / 2) 6 = 1 / 64 := by simp only [pq]; grind
  have u : 1 / 40 ≤ (iinv (dof j 0, dof j 0) wp).2.toRat := by
    rcases Classical.em (1 / 40 ≤ (iinv (dof j 0, dof j 0) wp).2.toRat) with g | g
    · exact g
    · rcases Classical.em (0 ≤ (iinv (dof j 0, dof j 0) wp).2.toRat) with k | k
      · have := Rat.mul_le_mul_of_nonneg_right j2 k; grind
      · have j0 : (0 : Rat) ≤ ((j : Nat) : Rat) := by exact_mod_cast Nat.zero_le j
        have := qmul_nn j0 (show 0 ≤ -(iinv (dof j 0, dof j 0) wp).2.toRat by grind)
        grind
  exact ⟨.inr (by rw [p6]; unfold qab; grind), .inr (by rw [p6]; unfold qab; grind)⟩
theorem divn_nz {z : Cq} {m j P : Nat} {wp : Int} (hz : Nz2 m z) (hj : 0 < j) (hj2 : j ≤ 40) (he : ep wp ≤ 1 / 256) (hp : min (max wp 1) 4000 ≤ (P : Int)) (hP : P ≤ 300) {a : Rat} (hb : Bx z 4 a) : Nz2 (m + 7) (divn z j wp) ∧ Hc (m + P + 12) (divn z j wp) := by
  have n := nz_imul hz (nz_inv hj hj2 he)
  have b := (hb.mul (Bx.inv wp hj)).qab
  have r := sq_round_i (wp := wp) n (Rat.le_trans b.1 (by grind)) (Rat.le_trans b.2 (by grind)) hp (by grind) hP
  exact ⟨r.1.mono (by omega), r.2.1.mono (by omega)⟩
theorem imul_zero_l (w : Cq) : imul (0, 0) w = (0, 0) := by
  unfold imul; dsimp only
  have e : ∀ p : Dyadic, 0 * p = 0 := fun p => by grind
  rw [e, e, show mn 0 0 = (0 : Dyadic) by decide, show mx 0 0 = (0 : Dyadic) by decide]; rfl
theorem imul_zero_r (w : Cq) : imul w (0, 0) = (0, 0) := by rw [imul_comm, imul_zero_l]
theorem isub_zero (w : Cq) : isub w (0, 0) = w := by
  unfold isub iadd ineg; dsimp only
  have e : ∀ p : Dyadic, p + -0 = p := fun p => by grind
  rw [e, e]
theorem isub_zero_l (w : Cq) : isub (0, 0) w = ineg w := by
  unfold isub iadd; dsimp only
  have e : ∀ p : Dyadic, 0 + p = p := fun p => by grind
  rw [e, e]
theorem iadd_zero_l (w : Cq) : iadd (0, 0) w = w := by
  unfold iadd; dsimp only
  have e : ∀ p : Dyadic, 0 + p = p := fun p => by grind
  rw [e, e]
theorem iadd_zero_r (w : Cq) : iadd w (0, 0) = w := by
  unfold iadd; dsimp only
  have e : ∀ p : Dyadic, p + 0 = p := fun p => by grind
  rw [e, e]
theorem rto_zero (p mode : Int) : rto 0 p mode = 0 := by unfold rto; rw [if_pos rfl]
theorem iround_zero (p : Int) : iround (0, 0) p = (0, 0) := by unfold iround; dsimp only; rw [rto_zero, rto_zero]
theorem divn_zero (j : Nat) (p : Int) : divn (0, 0) j p = (0, 0) := by unfold divn; rw [imul_zero_l, iround_zero]
/-- What holds of the loop's rectangle at each step. -/
structure Hz (im : Bool) (out : Rq) (w : Rat) : Prop where
  c1 : 31 / 32 ≤ out.1.1.toRat
  c2 : out.1.2.toRat ≤ 33 / 32
  b1 : Bx out.1 2 w
  b2 : Bx out.2 (1 / 32) w
  h1 : Hc 2400 out.1
  n2 : Nz2 1030 out.2
  h2 : Hc 1400 out.2
  z2 : im = false → out.2 = (0, 0)
theorem Hz.one (im : Bool) {w : Rat} (hw : 0 ≤ w) : Hz im unR w := ⟨by show _ ≤ (1 : Dyadic).toRat; rw [q_one]; grind, by show (1 : Dyadic).toRat ≤ _; rw [q_one]; grind, unR_bx.1.mono Rat.le_refl hw, zero_bx _ _ (by grind) hw, ⟨Ht.one.mono (by decide), Ht.one.mono (by decide)⟩, ⟨.inl q_zero, .inl q_zero⟩, ⟨.zero _, .zero _⟩, fun _ => rfl⟩
theorem hst_hz {x : Dyadic} {im : Bool} {out : Rq} {wp : Int} {j P : Nat} (hx : qab x.toRat ≤ 1 / 1024) (hn : Nz 1017 x) (ho : Hz im out (1 / 4 * ep wp)) (hj : 0 < j) (hj2 : j ≤ 40) (he : ep wp ≤ 1 / 256) (hp : min (max wp 1) 4000 ≤ (P : Int)) (hP : P ≤ 300) : Hz im (hst (yR x im wp) out wp j) (1 / 4 * ep wp) := by
  have e0 := ep_pos wp
  obtain ⟨y1, y2⟩ := yR_bx im wp hx
  have b := hst_bx y1 y2 ho.b1 (ho.b2.mono (by grind) Rat.le_refl) wp hj Rat.le_refl Rat.le_refl
  have nY : Nz2 1018 (iround (x, x) wp) := ⟨rto_nz 0 (.inl rfl) hn (by grind), rto_nz 1 (.inr rfl) hn (by grind)⟩
  have yb := y_bx wp hx
  have nz0 : Nz2 0 ((0, 0) : Cq) := ⟨.inl q_zero, .inl q_zero⟩
  have n1 : Nz2 1 out.1 := by
    have p1 : pq (1 / 2) 1 = 1 / 2 := by simp only [pq]; grind
    have a := ho.c1
    have b := ho.b1.ord
    exact ⟨.inr (by rw [p1]; unfold qab; grind), .inr (by rw [p1]; unfold qab; grind)⟩
  have one : Hc 1 ((1, 1) : Cq) := ⟨Ht.one, Ht.one⟩
  have key : ∀ (d1 d2 : Cq) (a1 a2 : Rat), hst (yR x im wp) out wp j = (iadd (1, 1) (divn d1 j wp), iadd (0, 0) (divn d2 j wp)) → Nz2 2060 d1 → Nz2 1020 d2 → Bx d1 (1 / 128) a1 → Bx d2 (1 / 128) a2 → (im = false → d2 = (0, 0)) → Hz im (hst (yR x im wp) out wp j) (1 / 4 * ep wp) := by
    intro d1 d2 a1 a2 e m1 m2 k1 k2 hz
    obtain ⟨q1, q2⟩ := divn_nz m1 hj hj2 he hp hP (k1.mono (by grind) Rat.le_refl)
    obtain ⟨q3, q4⟩ := divn_nz m2 hj hj2 he hp hP (k2.mono (by grind) Rat.le_refl)
    have w1 := (k1.divn wp hj)
    have w2 := (k2.divn wp hj)
    rw [e] at b ⊢
    have g1 := w1.lo
    have g2 := w1.hi
    have g3 := w2.lo
    have g4 := w2.hi
    refine ⟨?_, ?_, b.1, ?_, one.iadd q2 (by omega), ?_, ?_, ?_⟩
    · show 31 / 32 ≤ (1 + (divn d1 j wp).1).toRat; rw [q_add, q_one]; grind
    · show (1 + (divn d1 j wp).2).toRat ≤ 33 / 32; rw [q_add, q_one]; grind
    · have o := b.2
      rw [iadd_zero_l] at o
      show Bx (iadd (0, 0) (divn d2 j wp)) _ _
      rw [iadd_zero_l]
      exact ⟨by grind, by grind, o.ord, o.wd⟩
    · show Nz2 1030 (iadd (0, 0) (divn d2 j wp)); rw [iadd_zero_l]; exact q3.mono (by omega)
    · show Hc 1400 (iadd (0, 0) (divn d2 j wp)); rw [iadd_zero_l]; exact q4.mono (by omega)
    · intro g; show iadd (0, 0) (divn d2 j wp) = _; rw [hz g, divn_zero, iadd_zero_l]
  have m1 := yb.mul ho.b1
  have m2 := yb.mul ho.b2
  cases im
  · have z2 := ho.z2 rfl
    refine key (imul (iround (x, x) wp) out.1) (0, 0) _ 0 ?_ ((nz_imul nY n1).mono (by omega)) (nz0.mono (by omega)) (m1.mono (by grind) Rat.le_refl) (zero_bx _ _ (by grind) (by grind)) (fun _ => rfl)
    show (iadd (1, 1) (divn (isub (imul (iround (x, x) wp) out.1) (imul (0, 0) out.2)) j wp), iadd (0, 0) (divn (iadd (imul (iround (x, x) wp) out.2) (imul (0, 0) out.1)) j wp)) = _
    rw [imul_zero_l, imul_zero_l, isub_zero, z2, imul_zero_r, iadd_zero_r]
  · refine key (ineg (imul (iround (x, x) wp) out.2)) (imul (iround (x, x) wp) out.1) _ _ ?_ ((nz_ineg (nz_imul nY ho.n2)).mono (by omega)) ((nz_imul nY n1).mono (by omega)) (m2.neg.mono (by grind) Rat.le_refl) (m1.mono (by grind) Rat.le_refl) (fun g => by cases g)
    show (iadd (1, 1) (divn (isub (imul (0, 0) out.1) (imul (iround (x, x) wp) out.2)) j wp), iadd (0, 0) (divn (iadd (imul (0, 0) out.2) (imul (iround (x, x) wp) out.1)) j wp)) = _
    rw [imul_zero_l, imul_zero_l, isub_zero_l]
    simp only [iadd_zero_l]
theorem hrn_hz {x : Dyadic} {im : Bool} {wp : Int} {P : Nat} (hx : qab x.toRat ≤ 1 / 1024) (hn : Nz 1017 x) (he : ep wp ≤ 1 / 256) (hp : min (max wp 1) 4000 ≤ (P : Int)) (hP : P ≤ 300) : ∀ (j : Nat) {out : Rq}, j ≤ 40 → Hz im out (1 / 4 * ep wp) → Hz im (hrn (yR x im wp) wp j out) (1 / 4 * ep wp)
  | 0, _, _, h => h
  | j + 1, _, hj, h => hrn_hz hx hn he hp hP j (by omega) (hst_hz hx hn h (by omega) hj he hp hP)
theorem trnT_le {wp : Int} (h2 : wp ≤ 300) : trnT wp ≤ 32 := by unfold trnT; omega
theorem trnT_pos {wp : Int} (h1 : 1 ≤ wp) : 0 < trnT wp := by unfold trnT; omega
theorem trnR_ht {wp : Int} (h1 : 1 ≤ wp) (h2 : wp ≤ 300) : Ht 400 (trnR wp) := (Ht.scl 340 (by unfold trnT; omega) (by unfold trnT; omega)).mono (by decide)
/-- Before it is squared. -/
theorem trn0_hz {x : Dyadic} {im : Bool} {wp : Int} (h1 : 40 ≤ wp) (h2 : wp ≤ 300) (hx : qab x.toRat ≤ 1 / 1024) (hn : Nz 1017 x) (he : ep wp ≤ 1 / 256) :
    Hr 2402 (trn0 (yR x im wp) im wp) ∧ 15 / 16 ≤ (trn0 (yR x im wp) im wp).1.1.toRat ∧ (trn0 (yR x im wp) im wp).1.2.toRat ≤ 17 / 16 ∧ Ev.qab (trn0 (yR x im wp) im wp).2.1.toRat ≤ 1 / 8 ∧ (im = false → (trn0 (yR x im wp) im wp).2 = (0, 0)) := by
  have e0 := ep_pos wp
  have o := hrn_hz (im := im) (P := 300) hx hn he (by omega) (by omega) (trnT wp) (by have := trnT_le h2; omega) (Hz.one im (by grind))
  have r := trnR_le (show 1 ≤ wp by omega) (show wp ≤ 4000 by omega)
  have rp : 0 < (trnR wp).toRat := q_dof1
  have rh := trnR_ht (show 1 ≤ wp by omega) h2
  have rr : Hc 400 (-trnR wp, trnR wp) := ⟨rh.neg, rh⟩
  have c1 := o.c1
  have c2 := o.c2
  have d := o.b2.qab.1
  unfold trn0 addRest
  refine ⟨⟨o.h1.iadd rr (by omega), ?_⟩, ?_, ?_, ?_, ?_⟩
  · cases im
    · exact o.h2.mono (by omega)
    · exact (o.h2.iadd rr (c := 1401) (by omega)).mono (by omega)
  · show _ ≤ ((hrn (yR x im wp) wp (trnT wp) unR).1.1 + -trnR wp).toRat; rw [q_add, q_neg]; grind
  · show ((hrn (yR x im wp) wp (trnT wp) unR).1.2 + trnR wp).toRat ≤ _; rw [q_add]; grind
  · cases im
    · exact Rat.le_trans d (by grind)
    · show Ev.qab ((hrn (yR x true wp) wp (trnT wp) unR).2.1 + -trnR wp).toRat ≤ _
      rw [q_add, q_neg]
      have := qab_le.1 d
      rw [qab_le]; grind
  · rintro rfl; exact o.z2 rfl
/- REAL: SQUARED -/
theorem ipow_zero2 : ipow (0, 0) 2 = (0, 0) := by decide
theorem sqn_real {z : Rq} {wp : Int} (h : z.2 = (0, 0)) : ∀ k, (sqn wp k z).2 = (0, 0) ∧ (sqn wp (k + 1) z).1 = iround (ipow (sqn wp k z).1 2) wp := by
  intro k
  induction k with
  | zero =>
    refine ⟨h, ?_⟩
    show iround (isub (ipow z.1 2) (ipow z.2 2)) wp = iround (ipow z.1 2) wp
    rw [h, ipow_zero2, isub_zero]
  | succ k ih =>
    have e : (sqn wp (k + 1) z).2 = (0, 0) := by
      show iround (iadd (imul (sqn wp k z).1 (sqn wp k z).2) (imul (sqn wp k z).1 (sqn wp k z).2)) wp = _
      rw [ih.1, imul_zero_r, iadd_zero_l, iround_zero]
    refine ⟨e, ?_⟩
    show iround (isub (ipow (sqn wp (k + 1) z).1 2) (ipow (sqn wp (k + 1) z).2 2)) wp = _
    rw [e, ipow_zero2, isub_zero]
theorem ipow_pos2 {z : Cq} (h0 : 0 < z.1.toRat) (ho : z.1.toRat ≤ z.2.toRat) : ipow z 2 = (z.1 * z.1, z.2 * z.2) := by
  rw [ipow_two, iabs_of (q_le.1 ho), if_pos (q_le.1 (by rw [q_zero]; grind))]
/-- One squaring of what lies above 0. -/
theorem sq_step {z : Cq} {wp : Int} {a b : Rat} (ha : 0 < a) (h1 : a ≤ z.1.toRat) (h2 : z.2.toRat ≤ b) (ho : z.1.toRat ≤ z.2.toRat) :
    a * a * (1 - ep wp) ≤ (iround (ipow z 2) wp).1.toRat ∧ (iround (ipow z 2) wp).2.toRat ≤ b * b * (1 + ep wp) ∧ (iround (ipow z 2) wp).1.toRat ≤ (iround (ipow z 2) wp).2.toRat := by
  have e0 := ep_pos wp
  have e1 := ep_le wp
  rw [ipow_pos2 (by grind) ho]
  have r1 := (rto_err (z.1 * z.1) wp).1
  have r2 := (rto_err (z.2 * z.2) wp).2
  have i := iround_in (z.1 * z.1, z.2 * z.2) wp
  have i1 := q_le.2 i.1
  have i2 := q_le.2 i.2
  rw [q_mul, qab_self (sq_nn _)] at r1 r2
  dsimp only at i1 i2
  rw [q_mul] at i1 i2
  have s1 := qmul_le (show 0 ≤ a by grind) h1 (show 0 ≤ a by grind) h1
  have s2 := qmul_le (show 0 ≤ z.2.toRat by grind) h2 (show 0 ≤ z.2.toRat by grind) h2
  have s3 := qmul_le (show 0 ≤ z.1.toRat by grind) ho (show 0 ≤ z.1.toRat by grind) ho
  have m1 := Rat.mul_le_mul_of_nonneg_right s1 (show 0 ≤ 1 - ep wp by grind)
  have m2 := Rat.mul_le_mul_of_nonneg_right s2 (show 0 ≤ 1 + ep wp by grind)
  have u1 : (iround (z.1 * z.1, z.2 * z.2) wp).1 = rto (z.1 * z.1) wp 0 := rfl
  have u2 : (iround (z.1 * z.1, z.2 * z.2) wp).2 = rto (z.2 * z.2) wp 1 := rfl
  rw [u1] at i1 ⊢
  rw [u2] at i2 ⊢
  exact ⟨by grind, by grind, by grind⟩
/-- Two to the power of 2^j, and one by it. -/
def tw : Nat → Rat
  | 0 => 2
  | j + 1 => tw j * tw j
def tv : Nat → Rat
  | 0 => 1 / 2
  | j + 1 => tv j * tv j
theorem tw_pos : ∀ j, 0 < tw j
  | 0 => by rw [tw]; decide
  | j + 1 => by rw [tw]; exact Rat.mul_pos (tw_pos j) (tw_pos j)
theorem tv_pos : ∀ j, 0 < tv j
  | 0 => by rw [tv]; grind
  | j + 1 => by rw [tv]; exact Rat.mul_pos (tv_pos j) (tv_pos j)
theorem sqn_size {z : Rq} {wp : Int} (hz : z.2 = (0, 0)) (h1 : 15 / 16 ≤ z.1.1.toRat) (h2 : z.1.2.toRat ≤ 17 / 16) (ho : z.1.1.toRat ≤ z.1.2.toRat) (he : ep wp ≤ 1 / 1024) :
    ∀ j, 17 / 16 * tv j ≤ (sqn wp (j + 3) z).1.1.toRat ∧ (sqn wp (j + 3) z).1.2.toRat ≤ 15 / 16 * tw j ∧ (sqn wp (j + 3) z).1.1.toRat ≤ (sqn wp (j + 3) z).1.2.toRat := by
  have e0 := ep_pos wp
  have st := fun k => (sqn_real (wp := wp) hz k).2
  intro j
  induction j with
  | zero =>
    have a1 := sq_step (wp := wp) (a := 15 / 16) (b := 17 / 16) (by grind) h1 h2 ho
    have s0 : (sqn wp 1 z).1 = iround (ipow z.1 2) wp := st 0
    rw [← s0] at a1
    have a2 := sq_step (wp := wp) (z := (sqn wp 1 z).1) (a := 7 / 8) (b := 9 / 8 + 1 / 128) (by grind) (by grind) (by grind) a1.2.2
    have s1 : (sqn wp 2 z).1 = iround (ipow (sqn wp 1 z).1 2) wp := st 1
    rw [← s1] at a2
    have a3 := sq_step (wp := wp) (z := (sqn wp 2 z).1) (a := 3 / 4) (b := 83 / 64) (by grind) (by grind) (by grind) a2.2.2
    have s2 : (sqn wp 3 z).1 = iround (ipow (sqn wp 2 z).1 2) wp := st 2
    rw [← s2] at a3
    rw [tw, tv]
    show _ ≤ (sqn wp 3 z).1.1.toRat ∧ (sqn wp 3 z).1.2.toRat ≤ _ ∧ (sqn wp 3 z).1.1.toRat ≤ (sqn wp 3 z).1.2.toRat
    grind
  | succ j ih =>
    obtain ⟨i1, i2, i3⟩ := ih
    have vp := tv_pos j
    have wq := tw_pos j
    have a := sq_step (wp := wp) (z := (sqn wp (j + 3) z).1) (a := 17 / 16 * tv j) (b := 15 / 16 * tw j) (by grind) i1 i2 i3
    have s := st (j + 3)
    rw [← s] at a
    have v2 := Rat.mul_pos vp vp
    have w2 := Rat.mul_pos wq wq
    have m1 := Rat.mul_le_mul_of_nonneg_left he (Rat.le_of_lt v2)
    have m2 := Rat.mul_le_mul_of_nonneg_left he (Rat.le_of_lt w2)
    rw [tw, tv, show j + 1 + 3 = j + 3 + 1 by omega]
    obtain ⟨a1, a2, a3⟩ := a
    refine ⟨Rat.le_trans ?_ a1, Rat.le_trans a2 ?_, a3⟩
    · have : 17 / 16 * tv j * (17 / 16 * tv j) * (1 - ep wp) = 289 / 256 * (tv j * tv j) - 289 / 256 * (tv j * tv j * ep wp) := by grind
      rw [this]; grind
    · have : 15 / 16 * tw j * (15 / 16 * tw j) * (1 + ep wp) = 225 / 256 * (tw j * tw j) + 225 / 256 * (tw j * tw j * ep wp) := by grind
      rw [this]; grind
end Go.Ev.Ar

namespace Go.Ev.Ar
open Go Go.Ev Go.Proofs

/- ALL BOUNDS OF THE LOOPS TOGETHER -/
theorem pq_eight : ∀ k, pq 8 k * pq (1 / 2) (3 * k) = 1
  | 0 => by show (1 : Rat) * 1 = 1; grind
  | k + 1 => by have := pq_eight k; rw [show 3 * (k + 1) = 3 * k + 1 + 1 + 1 by omega, pq, pq, pq, pq]; grind
theorem ep_half {wp : Int} {m : Nat} (h1 : (m : Int) + 1 ≤ wp) (h2 : wp ≤ 4000) : ep wp ≤ pq (1 / 2) m := by
  rw [← dof_neg_rat]; unfold ep; exact q_le.2 (dof1_le.2 (by omega))
theorem ep_many {wp : Int} (h1 : 80 ≤ wp) (h2 : wp ≤ 4000) : pq 8 16 * (3 * ep wp) ≤ 1 / 1024 ∧ ep wp ≤ 1 / 1024 := by
  have e := ep_half (m := 60) (show ((60 : Nat) : Int) + 1 ≤ wp by omega) h2
  have e8 := pq_eight 16
  rw [show pq (1 / 2) 60 = pq (1 / 2) (3 * 16) * pq (1 / 2) 12 by rw [← pq_add]] at e
  have p12 : pq (1 / 2) 12 = 1 / 4096 := by simp only [pq]; grind
  rw [p12] at e
  have p0 : 0 ≤ pq 8 16 := pq_nn (by decide) 16
  have m := Rat.mul_le_mul_of_nonneg_left e p0
  have q1 : pq (1 / 2) (3 * 16) ≤ 1 := by
    have := half_mono (m := 0) (n := 3 * 16) (by omega); exact this
  have q0 := pq_nn (show (0 : Rat) ≤ 1 / 2 by grind) (3 * 16)
  generalize pq (1 / 2) (3 * 16) = h at *
  generalize pq 8 16 = g at *
  exact ⟨by grind, by grind⟩
theorem near_all {r : Rat} (h : qab r ≤ 1 / 4) : ∀ K : Nat, ∃ T : Nat, ∀ n, T ≤ n → ∀ k, k ≤ K → 15 / 16 ≤ N2 (sqr k (en n (iy r))) ∧ N2 (sqr k (en n (iy r))) ≤ 17 / 16 := by
  have one : ∀ k, ∃ T : Nat, ∀ n, T ≤ n → 15 / 16 ≤ N2 (sqr k (en n (iy r))) ∧ N2 (sqr k (en n (iy r))) ≤ 17 / 16 := fun k => by
    obtain ⟨T, hT⟩ := N2_near h k (1 / 16) (by grind)
    exact ⟨T, fun n hn => by have := qab_le.1 (hT n hn); grind⟩
  intro K
  induction K with
  | zero =>
    obtain ⟨T, hT⟩ := one 0
    exact ⟨T, fun n hn k hk => by rw [show k = 0 by omega]; exact hT n hn⟩
  | succ K ih =>
    obtain ⟨T, hT⟩ := ih
    obtain ⟨T', hT'⟩ := one (K + 1)
    exact ⟨T + T', fun n hn k hk => by
      rcases Nat.lt_or_ge K k with g | g
      · rw [show k = K + 1 by omega]; exact hT' n (by omega)
      · exact hT n (by omega) k g⟩
theorem tw_dof : ∀ j : Nat, (dof 1 ((2 ^ j : Nat) : Int)).toRat = tw j
  | 0 => by rw [tw, show dof 1 ((2 ^ 0 : Nat) : Int) = 1 + 1 by decide, q_add, q_one]; grind
  | j + 1 => by rw [tw, ← tw_dof j, ← q_mul, dof1_mul]; congr 2; omega
theorem tv_half : ∀ j : Nat, pq (1 / 2) (2 ^ j) = tv j
  | 0 => by show pq (1 / 2) 1 = _; rw [tv, pq, pq]; grind
  | j + 1 => by rw [tv, ← tv_half j, ← pq_add]; congr 1; omega
theorem sq_htR {z : Cq} {wp : Int} {P j : Nat} (h0 : 0 < z.1.toRat) (ho : z.1.toRat ≤ z.2.toRat) (h1 : tv j ≤ z.1.toRat * z.1.toRat) (h2 : z.2.toRat * z.2.toRat ≤ tw j) (hp : min (max wp 1) 4000 ≤ (P : Int)) : Hc (2 ^ j + P + 2 ^ j + 2) (iround (ipow z 2) wp) := by
  rw [ipow_pos2 h0 ho]
  have s := qmul_le (Rat.le_of_lt h0) ho (Rat.le_of_lt h0) ho
  have n1 : Nz (2 ^ j) (z.1 * z.1) := .inr (by rw [tv_half, q_mul, qab_self (sq_nn _)]; exact h1)
  have n2 : Nz (2 ^ j) (z.2 * z.2) := .inr (by rw [tv_half, q_mul, qab_self (sq_nn _)]; exact Rat.le_trans h1 s)
  exact ⟨rto_htz 0 (.inl rfl) n1 (by rw [tw_dof, q_mul, qab_self (sq_nn _)]; exact Rat.le_trans s h2) hp, rto_htz 1 (.inr rfl) n2 (by rw [tw_dof, q_mul, qab_self (sq_nn _)]; exact h2) hp⟩
theorem sqn_htR {z : Rq} {wp : Int} (hz : z.2 = (0, 0)) (h1 : 15 / 16 ≤ z.1.1.toRat) (h2 : z.1.2.toRat ≤ 17 / 16) (ho : z.1.1.toRat ≤ z.1.2.toRat) (he : ep wp ≤ 1 / 1024) (hw : wp ≤ 300) (hh : Hr 2402 z) : ∀ k, k ≤ 16 → Hr (if k ≤ 15 then 8500 else 16700) (sqn wp k z) := by
  intro k hk
  have e0 := ep_pos wp
  have st := fun k => sqn_real (wp := wp) hz k
  have z2 : ∀ k, Hc 8500 (sqn wp k z).2 := fun k => by rw [(st k).1]; exact ⟨.zero _, .zero _⟩
  have z2' : ∀ k, Hc 16700 (sqn wp k z).2 := fun k => (z2 k).mono (by decide)
  have a1 := sq_step (wp := wp) (a := 15 / 16) (b := 17 / 16) (by grind) h1 h2 ho
  have st0 : (sqn wp 1 z).1 = iround (ipow z.1 2) wp := (st 0).2
  rw [← st0] at a1
  have a2 := sq_step (wp := wp) (z := (sqn wp 1 z).1) (a := 7 / 8) (b := 9 / 8 + 1 / 128) (by grind) (by grind) (by grind) a1.2.2
  rw [← (st 1).2] at a2
  have big : ∀ w : Cq, 1 / 2 < w.1.toRat → w.2.toRat ≤ 5 / 4 + 1 / 16 → w.1.toRat ≤ w.2.toRat → tv 1 ≤ w.1.toRat * w.1.toRat ∧ w.2.toRat * w.2.toRat ≤ tw 1 := fun w g1 g2 g3 => by
    have s1 := qmul_le (show (0 : Rat) ≤ 1 / 2 by grind) (Rat.le_of_lt g1) (show (0 : Rat) ≤ 1 / 2 by grind) (Rat.le_of_lt g1)
    have s2 := qmul_le (show 0 ≤ w.2.toRat by grind) g2 (show 0 ≤ w.2.toRat by grind) g2
    simp only [tv, tw]; grind
  match k, hk with
  | 0, _ => exact hh.mono (by decide)
  | 1, _ =>
    have b := big z.1 (by grind) (by grind) ho
    have := sq_htR (P := 300) (j := 1) (by grind) ho b.1 b.2 (by omega) (wp := wp)
    rw [← st0] at this
    exact ⟨this.mono (by decide), z2 1⟩
  | 2, _ =>
    have b := big (sqn wp 1 z).1 (by grind) (by grind) a1.2.2
    have := sq_htR (P := 300) (j := 1) (by grind) a1.2.2 b.1 b.2 (by omega) (wp := wp)
    rw [← (st 1).2] at this
    exact ⟨this.mono (by decide), z2 2⟩
  | 3, _ =>
    have b := big (sqn wp 2 z).1 (by grind) (by grind) a2.2.2
    have := sq_htR (P := 300) (j := 1) (by grind) a2.2.2 b.1 b.2 (by omega) (wp := wp)
    rw [← (st 2).2] at this
    exact ⟨this.mono (by decide), z2 3⟩
  | j + 4, hj =>
    obtain ⟨s1, s2, s3⟩ := sqn_size hz h1 h2 ho he j
    have vp := tv_pos j
    have wq := tw_pos j
    have m1 := qmul_le (show 0 ≤ tv j by grind) (show tv j ≤ (sqn wp (j + 3) z).1.1.toRat by grind) (show 0 ≤ tv j by grind) (show tv j ≤ (sqn wp (j + 3) z).1.1.toRat by grind)
    have m2 := qmul_le (show 0 ≤ (sqn wp (j + 3) z).1.2.toRat by grind) (show (sqn wp (j + 3) z).1.2.toRat ≤ tw j by grind) (show 0 ≤ (sqn wp (j + 3) z).1.2.toRat by grind) (show (sqn wp (j + 3) z).1.2.toRat ≤ tw j by grind)
    have := sq_htR (P := 300) (j := j + 1) (by grind) s3 (by rw [tv]; exact m1) (by rw [tw]; exact m2) (by omega) (wp := wp)
    rw [← (st (j + 3)).2] at this
    rcases Nat.lt_or_ge j 12 with g | g
    · rw [if_pos (by omega)]
      have p : 2 ^ (j + 1) ≤ 2 ^ 12 := Nat.pow_le_pow_right (by decide) (by omega)
      exact ⟨this.mono (by omega), z2 _⟩
    · rw [if_neg (by omega)]
      have p : 2 ^ (j + 1) ≤ 2 ^ 13 := Nat.pow_le_pow_right (by decide) (by omega)
      exact ⟨this.mono (by omega), z2' _⟩
/-- Before each squaring it is fine enough. -/
theorem trn_ht {x : Dyadic} (im : Bool) {wp : Int} (h1 : 80 ≤ wp) (h2 : wp ≤ 300) (hx : qab x.toRat ≤ 1 / 1024) (hn : Nz 1017 x) : ∀ k, k ≤ 16 → Hr (if k ≤ 15 then 8500 else 16700) (sqn wp k (trn0 (yR x im wp) im wp)) := by
  have he := ep_many h1 (show wp ≤ 4000 by omega)
  have z := trn0_hz (im := im) (show 40 ≤ wp by omega) h2 hx hn (by grind)
  have b := trn0_bx im (show 1 ≤ wp by omega) (show wp ≤ 4000 by omega) hx
  obtain ⟨a1, a2, a3, a4, a5⟩ := z
  cases im
  · exact sqn_htR (a5 rfl) a2 a3 b.1.ord he.2 h2 a1
  · intro k hk
    obtain ⟨T, hT⟩ := near_all (r := x.toRat) (by grind) 16
    have hh := trn0_has (x := x) true (show 1 ≤ wp by omega) (show wp ≤ 4000 by omega) hx (T + trnT wp) (by omega)
    have e0 := ep_pos wp
    have w1 := b.1.wd
    have w2 := b.2.wd
    have r := sqn_ht (P := 300) hh (by grind) (by grind) he.1 (hT _ (by omega)) (by omega) (by omega) (a1.mono (by decide)) a4 k hk
    exact r.2.2.1.mono (by split <;> decide)
end Go.Ev.Ar
