/- Contracts of the given functions, on data. Conditions stand in each theorem. -/
import Derived.Test.YtagjickjfjgfpaaGreatDoorGAvTu
import Derived.Test.YtagjickjfjgfpaaGreatDoorGEvEc
import Derived.Test.YtagjickjfjgfpaaGreatDoorGAvEl
import Derived.Test.YtagjickjfjgfpaaGreatDoorGEvZ
set_option linter.unusedSimpArgs false
set_option linter.unusedVariables false
namespace Go.Ev.Ar
open Go Go.Ev Go.Proofs

theorem mm_sq {f : Nat → Rat} {z : Cq} (h : Mm f z) (o : Ord z) {M : Rat} (bf : ∀ n, qab (f n) ≤ M) : Mm (fun n => f n * f n) (ipow z 2) := by
  have p : Mm (fun n => clampQ z (f n) * clampQ z (f n)) (ipow z 2) := Mm.of 0 fun n _ => qhas_sq (clampQ_has o _)
  have m0 : 0 ≤ M := by have := bf 0; have := qab_ge (f 0); grind
  have n0 : 0 ≤ qab z.1.toRat + qab z.2.toRat := by have := qab_ge z.1.toRat; have := qab_ge z.2.toRat; grind
  refine p.close (((clampQ_sm h o).mul (show 0 ≤ M + (qab z.1.toRat + qab z.2.toRat) by grind)).mono fun n => ?_)
  show qab (f n * f n - clampQ z (f n) * clampQ z (f n)) ≤ (M + (qab z.1.toRat + qab z.2.toRat)) * qab (f n - clampQ z (f n))
  have e : f n * f n - clampQ z (f n) * clampQ z (f n) = (f n + clampQ z (f n)) * (f n - clampQ z (f n)) := by grind
  rw [e, qab_mul]
  have h1 := qab_add (f n) (clampQ z (f n))
  have h2 := bf n
  have h3 := clampQ_bd o (f n)
  exact Rat.mul_le_mul_of_nonneg_right (by grind) (qab_ge _)
/-- Squares of cosine and sine are 1 together. -/
theorem circle_one2 {r : Rat} {c s : Cq} (h : qab r ≤ 1 / 4) (hc : Mm (fun n => (gx (iy r) n).re) c) (hs : Mm (fun n => (gx (iy r) n).im) s) (oc : Ord c) (os : Ord s) : ihas (iadd (ipow s 2) (ipow c 2)) 1 := by
  obtain ⟨M, _, b⟩ := gx_bd (z := iy r) (by rw [nrm_iy]; grind)
  have p := (mm_sq hs os (fun n => Rat.le_trans (nrm_im _) (b n))).add (mm_sq hc oc (fun n => Rat.le_trans (nrm_re _) (b n)))
  refine Mm.const (p.close ((N2_near h 16).mono fun n => ?_))
  show qab ((1 : Dyadic).toRat - ((gx (iy r) n).im * (gx (iy r) n).im + (gx (iy r) n).re * (gx (iy r) n).re)) ≤ qab (N2 (gx (iy r) n) - 1)
  rw [show (1 : Dyadic).toRat = 1 by rfl]
  unfold N2
  generalize (gx (iy r) n).im = a
  generalize (gx (iy r) n).re = b
  rw [show 1 - (a * a + b * b) = -(b * b + a * a - 1) by grind, qab_neg]; exact Rat.le_refl
end Go.Ev.Ar

namespace Go.Ev.Ar
open Go Go.Ev Go.Proofs

/-- What both's closure tells: widened by r, cut at -1 and 1, rounded. -/
def toldV (y : Cq) (r : Dyadic) (p : Int) : Cq := iround (imeet (iadd y (-r, r)) (-1, 1)).1 p
theorem mm_meets {f : Nat → Rat} {z w : Cq} (h : Mm f z) (k : Mm f w) : imeet z w = ((imeet z w).1, true) := by
  have a := h.meet h
  have b := k.meet k
  have c := h.meet k
  have d := k.meet h
  unfold imeet
  rw [if_pos (by unfold mx mn; grind)]
theorem toldV_has {f g : Nat → Rat} {y : Cq} {r : Dyadic} {c : Rat} (p : Int) (h : Mm g y) (k : Sm (fun n => qab (f n - g n) - c)) (hc : c ≤ r.toRat) (u : Mm f (-1, 1)) : Mm f (toldV y r p) :=
  ((h.wide k hc).imeet u (mm_meets (h.wide k hc) u)).in (iround_in _ _)
/-- The point on the circle lies in what turned tells of it, for all that many terms. -/
theorem trI_has {q : Dyadic} {P : Int} (h1 : 80 ≤ P) (h2 : P ≤ 300) (f1 : qab (q * dof 1 (-16)).toRat ≤ 1 / 1024) (n : Nat) (hn : trnT P ≤ n) : qhas2 (trn (yR (q * dof 1 (-16)) true P) true P) (gx (iy (q * dof 1 (-16)).toRat) n) := by
  have h := trn0_has (x := q * dof 1 (-16)) true (show 1 ≤ P by omega) (show P ≤ 4000 by omega) f1 n hn
  exact sqn_has P h 16
/-- Cosine and sine of a number no farther than r from the middle. -/
theorem both_has {q m r : Dyadic} {P : Int} (p : Int) (h1 : 80 ≤ P) (h2 : P ≤ 300) (hq : smallP q = true) (fm : qab (m * dof 1 (-16)).toRat ≤ 1 / 1024) (hr : dabs (q - m) ≤ r) :
    Mm (fun n => (gx (iy (q * dof 1 (-16)).toRat) n).re) (toldV (trn (yR (m * dof 1 (-16)) true P) true P).1 r p) ∧ Mm (fun n => (gx (iy (q * dof 1 (-16)).toRat) n).im) (toldV (trn (yR (m * dof 1 (-16)) true P) true P).2 r p) := by
  have fq := (small_facts hq).1
  have l := gx_lip (r := (q * dof 1 (-16)).toRat) (s := (m * dof 1 (-16)).toRat) (by grind) (by grind)
  have u := gx_unit (r := (q * dof 1 (-16)).toRat) (by grind)
  have t := fun n hn => trI_has h1 h2 fm n hn
  have e : 65536 * qab ((q * dof 1 (-16)).toRat - (m * dof 1 (-16)).toRat) ≤ r.toRat := by
    have c16 : (dof 1 (-16)).toRat = 1 / 65536 := by
      rw [show (-16 : Int) = -((16 : Nat) : Int) by decide, dof_neg_rat]; simp only [pq]; grind
    have k := q_le.2 hr
    rw [ab_rat, q_sub] at k
    rw [q_mul, q_mul, c16, show q.toRat * (1 / 65536) - m.toRat * (1 / 65536) = 1 / 65536 * (q.toRat - m.toRat) by grind, qab_mul, qab_self (show (0 : Rat) ≤ 1 / 65536 by grind)]
    grind
  exact ⟨toldV_has p (Mm.of (trnT P) fun n hn => (t n hn).1) l.1 e u.1, toldV_has p (Mm.of (trnT P) fun n hn => (t n hn).2) l.2 e u.2⟩
end Go.Ev.Ar

namespace Go.Ev.Ar
open Go Go.Ev Go.Proofs

/-- A number's cells as data. -/
def dyL (q : Dyadic) : List D := [.bool (zneg (dman q)), sl (ofN (dman q).natAbs), .int .i64 (dexp q)]
set_option maxRecDepth 10000 in
theorem told_sim {y w : Cq} {r : Dyadic} {p : Int} (hp : 0 ≤ p ∧ p ≤ 1000) (hy : Hc 17000 y) (oy : Ord y) (hr : Ht 17000 r) (h0 : 0 ≤ r) (hm : imeet (iadd y (-r, r)) (-1, 1) = (w, true)) (hw : Hc 20000 w) :
    Sim Tryz.prog G0 false 139 [cxD y, .ptrd (dyL r), .ptrd [.int .i64 p]] (cxD (iround w (p + 10))) := by
  have a1 := about_is (hr.mono (show 17000 ≤ 1048576 by decide))
  have rr : Hc 17000 (-r, r) := ⟨hr.neg, hr⟩
  have orr : Ord (-r, r) := by unfold Ord; dsimp only; grind
  have one : Sim Tryz.prog G0 false 128 [.int .i64 1] (dyD 1) := dofn_sim 1 (by decide) (by decide)
  have a2 := about_is (r := 1) (Ht.one.mono (by decide))
  have hS : Hc 17001 (iadd y (-r, r)) := hy.iadd rr (by decide)
  have a3 := rlAdd_is (.of (hy.mono (by decide))) (.of (rr.mono (by decide))) (hy.mono (by decide)) (rr.mono (by decide)) (by rw [rof_self oy, rof_self orr])
  have u : Hc 1 ((-1, 1) : Cq) := ⟨Ht.one.neg, Ht.one⟩
  have a4 := rlMeet_is (r := w) (t := true) (.of (hS.mono (by decide))) (.of (u.mono (by decide))) (hS.mono (by decide)) (u.mono (by decide)) (by rw [rof_self (iadd_ord oy orr), rof_self (z := ((-1, 1) : Cq)) (by show ((-1 : Dyadic)) ≤ 1; decide)]; exact hm)
  have ow : Ord w := (imeet_in hm).1
  have a5 := rlRound_is (p + 10) (.of (hw.mono (by decide))) (hw.mono (by decide)) rfl
  rw [rof_self ow] at a5
  generalize iround w (p + 10) = v at *
  generalize iadd y (-r, r) = s at *
  clear hm
  obtain ⟨_, _⟩ := y
  obtain ⟨_, _⟩ := w
  obtain ⟨_, _⟩ := v
  obtain ⟨_, _⟩ := s
  refine sim_mkP tab_ok Tryz.func139 rfl (by kernel_rfl) rfl ⟨Nat.le_of_ble_eq_true rfl, Nat.le_of_ble_eq_true rfl⟩ ?_
  repeat' ((conv => whnf); first
    | with_reducible refine CallX.data ?_
    | refine CallE.mk _ _ (a1) ?_
    | refine CallE.mk _ _ (one) ?_
    | refine CallE.mk _ _ (a2) ?_
    | refine CallE.mk _ _ (a3) ?_
    | refine CallE.mk _ _ (a4) ?_
    | refine CallE.mk _ _ (a5) ?_
    | refine RegE.early (Cd.mk (show regOk _ _ _ _ = true by kernel_rfl) ?_)
    | refine Cd.mk rfl ?_
    | refine NthE.mk _ rfl ?_
    | (refine TkE.fL ?_; (conv => whnf); fail_if_success (show forceL _ _))
    | refine Res.mk ?_
    | ((with_reducible refine EqE.idW ?_); refine EqE.mk (p + 10) (wrap_in (by omega) (by omega)) ?_)
    | ((with_reducible refine EqE.idS ?_); (refine EqE.fP ?_; (conv => whnf); fail_if_success (show forceL _ _)))
    | refine Cd.mk (Nat.le_of_ble_eq_true rfl) ?_)
  rfl
end Go.Ev.Ar

namespace Go.Ev.Ar
open Go Go.Ev Go.Proofs

/- THE MIDDLE -/
theorem grd_expM (q : Dyadic) (e mode : Int) : grd q e mode = 0 ∨ grd q e mode = q ∨ (dexp q ≤ e ∧ e ≤ dexp (grd q e mode)) := by
  by_cases h : e ≤ dexp q
  · rw [grd_ge h]; exact .inr (.inl rfl)
  · unfold grd; rw [if_neg h]; dsimp only
    by_cases h0 : (if upB (dman q / 2 ^ (e - dexp q).toNat) (dman q - dman q / 2 ^ (e - dexp q).toNat * 2 ^ (e - dexp q).toNat) (e - dexp q).toNat mode = true then dman q / 2 ^ (e - dexp q).toNat + 1 else dman q / 2 ^ (e - dexp q).toNat) = 0
    · left; rw [h0]; rfl
    · right; right; rw [(dof_parts e h0).2.2]; omega
theorem upB_zero {f : Int} {S : Nat} (mode : Int) : upB f 0 S mode = false := by
  have hp : (0 : Int) < 2 ^ S := Int.pow_pos (by decide)
  by_cases h0 : mode = 0
  · rw [h0, up0]
  by_cases h1 : mode = 1
  · rw [h1, up1]; rfl
  · rw [up2 f 0 S h0 h1, decide_eq_false (by omega), decide_eq_false (show ¬ (0 : Int) * 2 = 2 ^ S by omega)]; rfl
/-- What is rounded on a grid doesn't go past a point of it. -/
theorem grd_leN {q : Dyadic} {e N : Int} (mode : Int) (h : q ≤ dof N e) : grd q e mode ≤ dof N e := by
  rcases grd_cases q e with c | ⟨E, f, r, S, hS, he, hE, hq, hr0, hr1, hr2, c⟩
  · rw [c]; exact h
  · rw [c mode, dof_le]
    rw [dof_up N e he, hq, dof_le] at h
    have hp : (0 : Int) < 2 ^ S := Int.pow_pos (by decide)
    by_cases hz : r = 0
    · rw [hz, upB_zero, if_neg (by decide)]
      exact Int.le_of_mul_le_mul_right (show f * 2 ^ S ≤ N * 2 ^ S by omega) hp
    · have : f < N := Int.lt_of_mul_lt_mul_right (show f * 2 ^ S < N * 2 ^ S by omega) (by omega)
      split <;> omega
theorem grd_geN {q : Dyadic} {e N : Int} (mode : Int) (h : dof N e ≤ q) : dof N e ≤ grd q e mode := by
  rcases grd_cases q e with c | ⟨E, f, r, S, hS, he, hE, hq, hr0, hr1, hr2, c⟩
  · rw [c]; exact h
  · rw [c mode, dof_le]
    rw [dof_up N e he, hq, dof_le] at h
    have hp : (0 : Int) < 2 ^ S := Int.pow_pos (by decide)
    have : N < f + 1 := Int.lt_of_mul_lt_mul_right (show N * 2 ^ S < (f + 1) * 2 ^ S by rw [Int.add_mul]; omega) (by omega)
    split <;> omega
theorem dtop_small {q : Dyadic} (h0 : q ≠ 0) (h : dabs q ≤ dof 64 0) : dtop q ≤ 6 := by
  have a := dof_one_le h0
  rw [show dof 64 0 = dof 1 6 by decide] at h
  have : dof 1 (dtop q) ≤ dof 1 6 := by grind
  exact dof1_le.1 this
theorem dabs_le_iff {q r : Dyadic} : dabs q ≤ r ↔ -r ≤ q ∧ q ≤ r := by rw [dabs_eq]; split <;> grind
theorem rto_small {q : Dyadic} {P : Int} (mode : Int) (hP : 20 ≤ P) (hP2 : P ≤ 4000) (h : dabs q ≤ dof 64 0) : dabs (rto q P mode) ≤ dof 64 0 := by
  unfold rto
  split
  · decide
  · rename_i h0
    have t := dtop_small h0 h
    have e : dof 64 0 = dof (64 * 2 ^ (-unitE q P).toNat) (unitE q P) := by
      rw [dof_shl]; congr 1; unfold unitE; omega
    rw [dabs_le_iff] at h ⊢
    rw [e, dof_neg] at h ⊢
    exact ⟨grd_geN mode h.1, grd_leN mode h.2⟩
theorem rto_dexp {q : Dyadic} {P mode k : Int} (hk : k ≤ 0) (h : k ≤ dexp q) : k ≤ dexp (rto q P mode) := by
  unfold rto
  split
  · exact hk
  · rcases grd_expM q (unitE q P) mode with e | e | e
    · rw [e]; exact hk
    · rw [e]; exact h
    · omega
def midQ (z : Cq) (P : Int) : Dyadic := rto ((z.1 + z.2) * dof 1 (-1)) P 2
def radQ (z : Cq) (P : Int) : Dyadic := mx (z.2 - midQ z P) (midQ z P - z.1)
theorem dexp_sum {p q : Dyadic} {k : Int} (hk : k ≤ 0) (hp : k ≤ dexp p) (hq : k ≤ dexp q) : k ≤ dexp (p + q) := by
  rw [← dof_sum]
  obtain ⟨M, hM⟩ : ∃ M, dman p * 2 ^ (dexp p - min (dexp p) (dexp q)).toNat + dman q * 2 ^ (dexp q - min (dexp p) (dexp q)).toNat = M := ⟨_, rfl⟩
  rw [hM]
  by_cases h : M = 0
  · rw [h, dof_eq_zero.2 rfl]; exact hk
  · rw [(dof_parts _ h).2.2]; omega
theorem dexp_half {q : Dyadic} {k : Int} (hk : k ≤ 1) (h : k ≤ dexp q) : k - 1 ≤ dexp (q * dof 1 (-1)) := by
  by_cases h0 : q = 0
  · rw [h0, show (0 : Dyadic) * dof 1 (-1) = 0 by grind, dexp_zero]; omega
  · rw [dexp_mul h0 (by decide), show dexp (dof 1 (-1)) = -1 by decide]; omega
theorem half_rat : (dof 1 (-1)).toRat = 1 / 2 := by
  rw [show (-1 : Int) = -((1 : Nat) : Int) by decide, dof_neg_rat]; simp only [pq]; grind
/-- The middle is no finer than it may be, and its distance to both ends is told. -/
theorem mid_facts {z : Cq} {P : Int} (ho : Ord z) (hP : 20 ≤ P) (hP2 : P ≤ 4000) (h1 : smallP z.1 = true) (h2 : smallP z.2 = true) :
    qab (midQ z P * dof 1 (-16)).toRat ≤ 1 / 1024 ∧ Nz 1017 (midQ z P * dof 1 (-16)) ∧ Ht 1010 (midQ z P) ∧ 0 ≤ radQ z P ∧ ∀ q, ihas z q → dabs (q - midQ z P) ≤ radQ z P := by
  have s : ∀ {q : Dyadic}, smallP q = true → -1000 ≤ dexp q ∧ dabs q ≤ dof 64 0 := fun h => by
    unfold smallP at h; rw [Bool.and_eq_true] at h; exact ⟨of_decide_eq_true h.1, of_decide_eq_true h.2⟩
  obtain ⟨a1, a2⟩ := s h1
  obtain ⟨b1, b2⟩ := s h2
  have d : dabs ((z.1 + z.2) * dof 1 (-1)) ≤ dof 64 0 := by
    rw [dabs_le_iff] at a2 b2 ⊢
    have x1 := q_le.2 a2.1
    have x2 := q_le.2 a2.2
    have y1 := q_le.2 b2.1
    have y2 := q_le.2 b2.2
    rw [q_neg] at x1 y1
    refine ⟨q_le.1 ?_, q_le.1 ?_⟩
    · rw [q_neg, q_mul, q_add, half_rat]; grind
    · rw [q_mul, q_add, half_rat]; grind
  obtain ⟨f1, f2, f3⟩ := mod_facts (q := midQ z P) (rto_dexp (by decide) (by have := dexp_half (k := -1000) (by decide) (dexp_sum (by decide) a1 b1); omega)) (rto_small 2 hP hP2 d)
  refine ⟨f1, f2, f3, ?_, fun q hq => ?_⟩
  · have := le_mx_l (z.2 - midQ z P) (midQ z P - z.1)
    have := le_mx_r (z.2 - midQ z P) (midQ z P - z.1)
    unfold radQ Ord at *
    generalize midQ z P = m at *
    generalize mx (z.2 - m) (m - z.1) = r at *
    rcases Classical.em (m ≤ z.2) with g | g
    · grind
    · grind
  · have := le_mx_l (z.2 - midQ z P) (midQ z P - z.1)
    have := le_mx_r (z.2 - midQ z P) (midQ z P - z.1)
    obtain ⟨q1, q2⟩ := hq
    rw [dabs_le_iff]
    unfold radQ
    grind
end Go.Ev.Ar

namespace Go.Ev.Ar
open Go Go.Ev Go.Proofs

def trI (q : Dyadic) (P : Int) : Rq := trn (yR (q * dof 1 (-16)) true P) true P
theorem trI_ht {q : Dyadic} {P : Int} (h1 : 80 ≤ P) (h2 : P ≤ 300) (f1 : qab (q * dof 1 (-16)).toRat ≤ 1 / 1024) (f2 : Nz 1017 (q * dof 1 (-16))) : Hr 5400 (trI q P) ∧ Ord2 (trI q P) := by
  have b := trn0_bx true (show 1 ≤ P by omega) (show P ≤ 4000 by omega) f1
  have he := ep_many h1 (show P ≤ 4000 by omega)
  have z := trn0_hz (im := true) (show 40 ≤ P by omega) h2 f1 f2 (by grind)
  obtain ⟨a1, a2, a3, a4, a5⟩ := z
  obtain ⟨T, hT⟩ := near_all (r := (q * dof 1 (-16)).toRat) (by grind) 16
  have hh := trn0_has (x := q * dof 1 (-16)) true (show 1 ≤ P by omega) (show P ≤ 4000 by omega) f1 (T + trnT P) (by omega)
  have e0 := ep_pos P
  have w1 := b.1.wd
  have w2 := b.2.wd
  have r := sqn_ht (P := 300) hh (by grind) (by grind) he.1 (hT _ (by omega)) (by omega) (by omega) (a1.mono (by decide)) a4 16 (by omega)
  exact ⟨r.2.2.1, sqn_ord P ⟨q_le.1 b.1.ord, q_le.1 b.2.ord⟩ 16⟩
theorem trI_hasI {q : Dyadic} {P : Int} (h1 : 80 ≤ P) (h2 : P ≤ 300) (f1 : qab (q * dof 1 (-16)).toRat ≤ 1 / 1024) (n : Nat) (hn : trnT P ≤ n) : qhas2 (trI q P) (gx (iy (q * dof 1 (-16)).toRat) n) := trI_has h1 h2 f1 n hn
theorem trI_eq (q : Dyadic) (P : Int) : trn (yR (q * dof 1 (-16)) true P) true P = trI q P := rfl
attribute [irreducible] trI
/-- What is told of cosine and sine meets what they may be. -/
theorem both_mm {q m r : Dyadic} {P : Int} (h1 : 80 ≤ P) (h2 : P ≤ 300) (hq : smallP q = true) (fm : qab (m * dof 1 (-16)).toRat ≤ 1 / 1024) (hr : dabs (q - m) ≤ r) :
    (Mm (fun n => (gx (iy (q * dof 1 (-16)).toRat) n).re) (iadd (trI m P).1 (-r, r)) ∧ Mm (fun n => (gx (iy (q * dof 1 (-16)).toRat) n).re) (-1, 1)) ∧
    (Mm (fun n => (gx (iy (q * dof 1 (-16)).toRat) n).im) (iadd (trI m P).2 (-r, r)) ∧ Mm (fun n => (gx (iy (q * dof 1 (-16)).toRat) n).im) (-1, 1)) := by
  have fq := (small_facts hq).1
  have l := gx_lip (r := (q * dof 1 (-16)).toRat) (s := (m * dof 1 (-16)).toRat) (by grind) (by grind)
  have u := gx_unit (r := (q * dof 1 (-16)).toRat) (by grind)
  have t := fun n hn => trI_hasI h1 h2 fm n hn
  have e : 65536 * qab ((q * dof 1 (-16)).toRat - (m * dof 1 (-16)).toRat) ≤ r.toRat := by
    have c16 : (dof 1 (-16)).toRat = 1 / 65536 := by
      rw [show (-16 : Int) = -((16 : Nat) : Int) by decide, dof_neg_rat]; simp only [pq]; grind
    have k := q_le.2 hr
    rw [ab_rat, q_sub] at k
    rw [q_mul, q_mul, c16, show q.toRat * (1 / 65536) - m.toRat * (1 / 65536) = 1 / 65536 * (q.toRat - m.toRat) by grind, qab_mul, qab_self (show (0 : Rat) ≤ 1 / 65536 by grind)]
    grind
  have a : Mm (fun n => (gx (iy (m * dof 1 (-16)).toRat) n).re) (trI m P).1 := Mm.of (trnT P) fun n hn => (t n hn).1
  have b : Mm (fun n => (gx (iy (m * dof 1 (-16)).toRat) n).im) (trI m P).2 := Mm.of (trnT P) fun n hn => (t n hn).2
  exact ⟨⟨a.wide l.1 e, u.1⟩, ⟨b.wide l.2 e, u.2⟩⟩
/-- What both tells of an interval in order. -/
def bothV (z : Cq) (p : Int) : Rq :=
  (toldV (trI (midQ z (min (max p 2) 200 + 80)) (min (max p 2) 200 + 80)).1 (radQ z (min (max p 2) 200 + 80)) (min (max p 2) 200 + 10),
   toldV (trI (midQ z (min (max p 2) 200 + 80)) (min (max p 2) 200 + 80)).2 (radQ z (min (max p 2) 200 + 80)) (min (max p 2) 200 + 10))
/-- Cosine and sine of an interval's numbers lie in what is told. -/
theorem bothV_has {z : Cq} {q : Dyadic} (p : Int) (hq : ihas z q) (hs : smallP q = true) (h1 : smallP z.1 = true) (h2 : smallP z.2 = true) :
    Mm (fun n => (gx (iy (q * dof 1 (-16)).toRat) n).re) (bothV z p).1 ∧ Mm (fun n => (gx (iy (q * dof 1 (-16)).toRat) n).im) (bothV z p).2 := by
  have ho : Ord z := by have := hq.1; have := hq.2; unfold Ord; grind
  obtain ⟨f1, _, _, _, f5⟩ := mid_facts (P := min (max p 2) 200 + 80) ho (by omega) (by omega) h1 h2
  obtain ⟨⟨a1, a2⟩, b1, b2⟩ := both_mm (P := min (max p 2) 200 + 80) (by omega) (by omega) hs f1 (f5 q hq)
  exact ⟨(a1.imeet a2 (mm_meets a1 a2)).in (iround_in _ _), (b1.imeet b2 (mm_meets b1 b2)).in (iround_in _ _)⟩
theorem Ht.u1 : Hc 1 ((-1, 1) : Cq) := ⟨Ht.one.neg, Ht.one⟩
set_option maxRecDepth 10000 in
set_option maxHeartbeats 2000000 in
theorem both_is {x : D} {z : Cq} {V : Rq} {p : Int} (hx : CxR x z) (hz : Hc 100000 z) (h1 : smallP (rof z).1 = true) (h2 : smallP (rof z).2 = true) (hV : bothV (rof z) p = V) : Sim Tryz.prog G0 false 71 [x, .int .i64 p] (.tup [cxD V.1, cxD V.2]) := by
  have s2 := rlHull_is (r := rof z) hx hx (hz.mono (by decide)) (hz.mono (by decide)) (by
    unfold ihull
    have e : ∀ p : Dyadic, mn p p = p ∧ mx p p = p := fun p => by unfold mn mx; simp
    rw [(e _).1, (e _).2])
  have s3 := held_is p
  have ho := rof_ord z
  have hw1 := (small_facts h1).2.2
  have hw2 := (small_facts h2).2.2
  unfold bothV at hV
  obtain ⟨P, hP⟩ : ∃ P, min (max p 2) 200 = P := ⟨_, rfl⟩
  have P1 : 2 ≤ P ∧ P ≤ 200 := by omega
  rw [hP] at s3 hV
  obtain ⟨f1, f2, f3, f4, f5⟩ := mid_facts (P := P + 80) ho (by omega) (by omega) h1 h2
  obtain ⟨⟨a1, a2⟩, b1, b2⟩ := both_mm (P := P + 80) (q := (rof z).1) (m := midQ (rof z) (P + 80)) (r := radQ (rof z) (P + 80)) (by omega) (by omega) h1 f1 (f5 _ ⟨q_le.1 Rat.le_refl, ho⟩)
  have m1 := mm_meets a1 a2
  have m2 := mm_meets b1 b2
  have tt := trI_ht (P := P + 80) (by omega) (by omega) f1 f2
  have sT := turnedI_is (r := trI (midQ (rof z) (P + 80)) (P + 80)) (.of (f3.mono (by decide))) (f3.mono (by decide)) (show 80 ≤ P + 80 by omega) (by omega) rfl f1 f2 (trI_eq _ _)
  have em : rto (((rof z).1 + (rof z).2) * dof 1 (-1)) (P + 80) 2 = midQ (rof z) (P + 80) := rfl
  have er : mx ((rof z).2 - midQ (rof z) (P + 80)) (midQ (rof z) (P + 80) - (rof z).1) = radQ (rof z) (P + 80) := rfl
  clear a1 a2 b1 b2 f1 f2 f5 hP
  generalize rof z = w at *
  generalize midQ w (P + 80) = m at *
  generalize radQ w (P + 80) = r at *
  generalize trI m (P + 80) = T at *
  have hS : Ht 1011 (w.1 + w.2) := hw1.add hw2 (c := 1011) (by decide)
  have hH : Ht 1200 ((w.1 + w.2) * dof 1 (-1)) := hS.mul (Ht.cst (m := 1) (e := -1) (by decide)) (by decide)
  have sAdd := dadd_sim (DyR.of (hw1.mono (b := 1048576) (by decide))) (DyR.of (hw2.mono (b := 1048576) (by decide)))
  have sScl := dscale_sim (-1) (DyR.of (hS.mono (b := 1048576) (by decide)))
  rw [show min (max (-1) (-20000)) 20000 = -1 by decide] at sScl
  have sTo := roTo_sim (P + 80) 2 (DyR.of (hH.mono (b := 1048576) (by decide))) (hH.mono (by decide))
  rw [em] at sTo
  have hd1 : Ht 1011 (w.2 - m) := hw2.sub f3 (c := 1011) (by decide)
  have hd2 : Ht 1011 (m - w.1) := f3.sub hw1 (c := 1011) (by decide)
  have hr : Ht 1011 r := er ▸ hd1.mx hd2
  have sS1 := dsub_sim (DyR.of (hw2.mono (b := 1048576) (by decide))) (DyR.of (f3.mono (b := 1048576) (by decide)))
  have sS2 := dsub_sim (DyR.of (f3.mono (b := 1048576) (by decide))) (DyR.of (hw1.mono (b := 1048576) (by decide)))
  have sMx := dmax_sim (DyR.of (hd1.mono (b := 1048576) (by decide))) (DyR.of (hd2.mono (b := 1048576) (by decide))) ((hd1.sub hd2 (c := 1012) (by decide)).mono (by decide))
  rw [show (if m - w.1 ≤ w.2 - m then w.2 - m else m - w.1) = r from er] at sMx
  have hI : Hc 5401 (iadd T.1 (-r, r)) := Hc.iadd (b := 1011) tt.1.1 ⟨hr.neg, hr⟩ (by decide)
  have hJ : Hc 5401 (iadd T.2 (-r, r)) := Hc.iadd (b := 1011) tt.1.2 ⟨hr.neg, hr⟩ (by decide)
  have t1 := told_sim (p := P) (y := T.1) (r := r) (by omega) (tt.1.1.mono (by decide)) tt.2.1 (hr.mono (by decide)) f4 m1 ((hI.imeet (Ht.u1.mono (by decide))).mono (by decide))
  have t2 := told_sim (p := P) (y := T.2) (r := r) (by omega) (tt.1.2.mono (by decide)) tt.2.2 (hr.mono (by decide)) f4 m2 ((hJ.imeet (Ht.u1.mono (by decide))).mono (by decide))
  have e1 : iround (imeet (iadd T.1 (-r, r)) (-1, 1)).1 (P + 10) = V.1 := congrArg Prod.fst hV
  have e2 : iround (imeet (iadd T.2 (-r, r)) (-1, 1)).1 (P + 10) = V.2 := congrArg Prod.snd hV
  rw [e1] at t1
  rw [e2] at t2
  clear hV e1 e2 m1 m2 tt hI hJ hw1 hw2 h1 h2 ho em er f4 hz
  generalize w.1 + w.2 = u at *
  obtain ⟨⟨_, _⟩, ⟨_, _⟩⟩ := T
  obtain ⟨_, _⟩ := w
  obtain ⟨⟨_, _⟩, ⟨_, _⟩⟩ := V
  dsimp only at *
  obtain ⟨_, _⟩ := hx
  refine sim_mk tab_ok Tryz.func71 rfl (by kernel_rfl) rfl ⟨Nat.le_of_ble_eq_true rfl, Nat.le_of_ble_eq_true rfl⟩ ?_
  repeat' ((conv => whnf); first
    | with_reducible refine CallX.data ?_
    | refine CallE.mk _ _ (s2) ?_
    | refine CallE.mk _ _ (s3) ?_
    | refine CallE.mk _ _ (sAdd) ?_
    | refine CallE.mk _ _ (sScl) ?_
    | refine CallE.mk _ _ (sTo) ?_
    | refine CallE.mk _ _ (sS1) ?_
    | refine CallE.mk _ _ (sS2) ?_
    | refine CallE.mk _ _ (sMx) ?_
    | refine CallE.mk _ _ (sT) ?_
    | refine CallE.mk _ _ (t1) ?_
    | refine CallE.mk _ _ (t2) ?_
    | refine RegE.early (Cd.mk (show regOk _ _ _ _ = true by kernel_rfl) ?_)
    | refine Cd.mk rfl ?_
    | refine NthE.mk _ rfl ?_
    | (refine TkE.fL ?_; (conv => whnf); fail_if_success (show forceL _ _))
    | refine Res.mk ?_
    | ((with_reducible refine EqE.idW ?_); refine EqE.mk (P + 80) (wrap_in (by omega) (by omega)) ?_)
    | ((with_reducible refine EqE.idS ?_); (refine EqE.fP ?_; (conv => whnf); fail_if_success (show forceL _ _)))
    | refine Cd.mk (Nat.le_of_ble_eq_true rfl) ?_
    | refine DsE.mk [_] rfl ?_
    | refine DsE.mk [_, _, _] rfl ?_)
  rfl
end Go.Ev.Ar
