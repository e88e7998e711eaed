/- Contracts of the given functions, on data. Conditions stand in each theorem. -/
import Derived.Test.YtagjickjfjgfpaaGreatDoorGAvFa
set_option linter.unusedSimpArgs false
set_option linter.unusedVariables false
namespace Go.Ev.Ar
open Go Go.Ev Go.Proofs

theorem half_sum (X : Dyadic) : (X + X) * dof 1 (-1) = X := Dyadic.toRat_inj.1 (by rw [q_mul, q_add, half_rat]; grind)
theorem fits_nbW {g e : Int} {P : Nat} (hP : 1 ≤ P) (hg : g.natAbs ≤ 2 ^ P) (h0 : g ≠ 0) : nb (dman (dof g e)).natAbs ≤ P := by
  rw [nb_le, (dof_parts e h0).2.1]
  have h1 : g.natAbs / 2 ^ tzn g.natAbs ≤ g.natAbs := Nat.div_le_self _ _
  have h2 := dman_odd (q := dof g e) (fun h => h0 (dof_eq_zero.1 h))
  have h3 := (dof_parts e h0).2.1
  have h4 : 2 ^ P % 2 = 0 := by
    obtain ⟨t, rfl⟩ : ∃ t, P = t + 1 := ⟨P - 1, by omega⟩
    rw [Nat.pow_succ]; omega
  omega
theorem rto_heldW {p : Int} {g e : Int} (hg : g.natAbs ≤ 2 ^ (min (max p 1) 4000).toNat) (mode : Int) : rto (dof g e) p mode = dof g e := by
  unfold rto
  split
  · rename_i h; rw [h]
  · rename_i h
    have h0 : g ≠ 0 := fun h1 => h (dof_eq_zero.2 h1)
    refine grd_ge ?_
    have := fits_nbW (e := e) (P := (min (max p 1) 4000).toNat) (by omega) hg h0
    unfold unitE
    rw [dtop_ne h]; omega
/-- What isn't beyond a power of two isn't when it is rounded. -/
theorem rto_pow {q : Dyadic} {P K : Int} (mode : Int) (hP : 1 ≤ P) (hP2 : P ≤ 4000) (h : dabs q ≤ dof 1 K) : dabs (rto q P mode) ≤ dof 1 K := by
  unfold rto
  split
  · have := dof1_pos K
    rw [show dabs (0 : Dyadic) = 0 by decide]; grind
  · rename_i h0
    have t : dtop q ≤ K := dof1_le.1 (by have := dof_one_le h0; grind)
    have e : dof 1 K = dof (1 * 2 ^ (K - unitE q P).toNat) (unitE q P) := by
      rw [dof_shl]; congr 1; unfold unitE; omega
    rw [dabs_le_iff] at h ⊢
    rw [e, dof_neg] at h ⊢
    exact ⟨grd_geN mode h.1, grd_leN mode h.2⟩
/- A NUMBER OF SO MANY 4096THS, UP TO 8 -/
theorem pt_small {k : Int} (h : k.natAbs ≤ 32768) : smallP (dof k (-12)) = true ∧ qab (dof k (-12)).toRat ≤ 8 := by
  have e8 : dof 8 0 = dof 32768 (-12) := by decide
  have e64 : dof 64 0 = dof 262144 (-12) := by decide
  have a8 : dabs (dof k (-12)) ≤ dof 8 0 := by rw [dabs_le_iff, e8, dof_neg, dof_le, dof_le]; omega
  have a64 : dabs (dof k (-12)) ≤ dof 64 0 := by rw [dabs_le_iff, e64, dof_neg, dof_le, dof_le]; omega
  have d : -1000 ≤ dexp (dof k (-12)) := by
    by_cases h0 : k = 0
    · rw [h0]; decide
    · rw [(dof_parts _ h0).2.2]; omega
  refine ⟨by unfold smallP; rw [decide_eq_true d, decide_eq_true a64]; rfl, ?_⟩
  have := q_le.2 a8
  rw [ab_rat] at this
  have e : (dof 8 0).toRat = 8 := by decide +kernel
  rwa [e] at this
theorem mid_pt {k P : Int} (h : k.natAbs ≤ 32768) (hP : 80 ≤ P) (hP2 : P ≤ 300) : midQ (dof k (-12), dof k (-12)) P = dof k (-12) ∧ radQ (dof k (-12), dof k (-12)) P = 0 := by
  have m : midQ (dof k (-12), dof k (-12)) P = dof k (-12) := by
    unfold midQ; dsimp only
    rw [half_sum]
    refine rto_heldW (Nat.le_trans h ?_) 2
    have : (min (max P 1) 4000).toNat = 15 + (P.toNat - 15) := by omega
    rw [this, Nat.pow_add]
    have : 1 ≤ 2 ^ (P.toNat - 15) := Nat.one_le_two_pow
    omega
  refine ⟨m, ?_⟩
  unfold radQ; rw [m]; dsimp only
  unfold mx; split <;> grind
theorem ep_eq {p : Int} (h1 : 1 ≤ p) (h2 : p ≤ 4000) : ep p = (dof 1 (1 - p)).toRat := by unfold ep; rw [show min (max p 1) 4000 = p by omega]
theorem dof1_split (a b : Int) : (dof 1 (a + b)).toRat = (dof 1 a).toRat * (dof 1 b).toRat := by rw [← q_mul, dof1_mul]
theorem trI_wd {k P : Int} (h : k.natAbs ≤ 32768) (h1 : 80 ≤ P) (h2 : P ≤ 300) : (trI (dof k (-12)) P).1.2.toRat - (trI (dof k (-12)) P).1.1.toRat ≤ pq 8 16 * (3 * ep P) ∧ (trI (dof k (-12)) P).2.2.toRat - (trI (dof k (-12)) P).2.1.toRat ≤ pq 8 16 * (3 * ep P) := by
  have f1 := (small_facts (pt_small h).1).1
  have b := trn0_bx true (show 1 ≤ P by omega) (show P ≤ 4000 by omega) f1
  have he := ep_many h1 (show P ≤ 4000 by omega)
  obtain ⟨T, hT⟩ := near_all (r := (dof k (-12) * dof 1 (-16)).toRat) (by grind) 16
  have hh := trn0_has (x := dof k (-12) * dof 1 (-16)) true (show 1 ≤ P by omega) (show P ≤ 4000 by omega) f1 (T + trnT P) (by omega)
  have e0 := ep_pos P
  have w1 := b.1.wd
  have w2 := b.2.wd
  have hc : ∀ k', k' ≤ 16 → qab (sqr k' (en (T + trnT P) (if true = true then iy (dof k (-12) * dof 1 (-16)).toRat else Cr.ofQ (dof k (-12) * dof 1 (-16)).toRat))).re ≤ 9 / 8 ∧ qab (sqr k' (en (T + trnT P) (if true = true then iy (dof k (-12) * dof 1 (-16)).toRat else Cr.ofQ (dof k (-12) * dof 1 (-16)).toRat))).im ≤ 9 / 8 := fun k' hk => by
    have n := (hT (T + trnT P) (by omega) k' hk).2
    rw [if_pos rfl]
    unfold N2 at n
    generalize sqr k' (en (T + trnT P) (iy (dof k (-12) * dof 1 (-16)).toRat)) = c at *
    have s1 := sq_nn c.re
    have s2 := sq_nn c.im
    exact ⟨qsq_le (by grind) (by grind), qsq_le (by grind) (by grind)⟩
  have r := sqn_bx (wp := P) hh (by grind) (by grind) (K := 16) (by grind) hc 16 (Nat.le_refl _)
  have u : trI (dof k (-12)) P = sqn P 16 (trn0 (yR (dof k (-12) * dof 1 (-16)) true P) true P) := by rw [← trI_eq]; rfl
  rw [u]
  exact ⟨by grind, by grind⟩
theorem iadd_rad0 (y : Cq) : iadd y (-0, 0) = y := by
  unfold iadd; dsimp only
  have e : ∀ p : Dyadic, p + -0 = p ∧ p + 0 = p := fun p => by grind
  rw [(e _).1, (e _).2]
theorem cut_wd {y w : Cq} {p : Int} {W : Rat} (h1 : 16 ≤ p) (h2 : p ≤ 200) (hm : imeet y (-1, 1) = (w, true)) (hw : y.2.toRat - y.1.toRat ≤ W) :
    Ord (iround w (p + 10)) ∧ iin (iround w (p + 10)) (-1, 1) ∧ (iround w (p + 10)).2.toRat - (iround w (p + 10)).1.toRat ≤ W + 2 * ep (p + 10) := by
  obtain ⟨o, i1, i2⟩ := imeet_in hm
  have e0 := ep_pos (p + 10)
  have a1 := q_le.2 i2.1
  have a2 := q_le.2 i2.2
  have a3 := q_le.2 i1.1
  have a4 := q_le.2 i1.2
  have a5 := q_le.2 (show w.1 ≤ w.2 from o)
  dsimp only at a1 a2
  rw [q_neg, q_one] at a1
  rw [q_one] at a2
  have d1 : dabs w.1 ≤ dof 1 0 := by rw [dabs_le_iff]; exact ⟨q_le.1 (by rw [q_neg, show dof 1 0 = 1 by decide, q_one]; grind), q_le.1 (by rw [show dof 1 0 = 1 by decide, q_one]; grind)⟩
  have d2 : dabs w.2 ≤ dof 1 0 := by rw [dabs_le_iff]; exact ⟨q_le.1 (by rw [q_neg, show dof 1 0 = 1 by decide, q_one]; grind), q_le.1 (by rw [show dof 1 0 = 1 by decide, q_one]; grind)⟩
  have r1 := rto_pow (P := p + 10) 0 (by omega) (by omega) d1
  have r2 := rto_pow (P := p + 10) 1 (by omega) (by omega) d2
  have e1 := (rto_err w.1 (p + 10)).1
  have e2 := (rto_err w.2 (p + 10)).2
  have q1 : qab w.1.toRat ≤ 1 := by rw [qab_le]; grind
  have q2 : qab w.2.toRat ≤ 1 := by rw [qab_le]; grind
  have m1 := Rat.mul_le_mul_of_nonneg_right q1 (Rat.le_of_lt e0)
  have m2 := Rat.mul_le_mul_of_nonneg_right q2 (Rat.le_of_lt e0)
  rw [dabs_le_iff, show dof 1 0 = 1 by decide] at r1 r2
  refine ⟨iround_ord _ o, ⟨r1.1, r2.2⟩, ?_⟩
  show (rto w.2 (p + 10) 1).toRat - (rto w.1 (p + 10) 0).toRat ≤ _
  grind
theorem bothV_wide {k p : Int} (h : k.natAbs ≤ 32768) (h1 : 16 ≤ p) (h2 : p ≤ 200) :
    (Ord (bothV (dof k (-12), dof k (-12)) p).1 ∧ iin (bothV (dof k (-12), dof k (-12)) p).1 (-1, 1) ∧ (bothV (dof k (-12), dof k (-12)) p).1.2 - (bothV (dof k (-12), dof k (-12)) p).1.1 ≤ dof 1 (12 - p)) ∧
    (Ord (bothV (dof k (-12), dof k (-12)) p).2 ∧ iin (bothV (dof k (-12), dof k (-12)) p).2 (-1, 1) ∧ (bothV (dof k (-12), dof k (-12)) p).2.2 - (bothV (dof k (-12), dof k (-12)) p).2.1 ≤ dof 1 (12 - p)) := by
  obtain ⟨s, _⟩ := pt_small h
  obtain ⟨m, r⟩ := mid_pt (P := p + 80) h (by omega) (by omega)
  have f1 := (small_facts s).1
  have w := trI_wd (P := p + 80) h (by omega) (by omega)
  have mm := both_mm (q := dof k (-12)) (m := dof k (-12)) (r := 0) (P := p + 80) (by omega) (by omega) s f1 (by rw [show dof k (-12) - dof k (-12) = 0 by grind]; decide)
  have n1 := mm_meets mm.1.1 mm.1.2
  have n2 := mm_meets mm.2.1 mm.2.2
  rw [iadd_rad0] at n1 n2
  have c1 := cut_wd h1 h2 n1 w.1
  have c2 := cut_wd h1 h2 n2 w.2
  have e1 : ep (p + 80) = (dof 1 (12 - p)).toRat * (dof 1 (-91)).toRat := by rw [ep_eq (by omega) (by omega), ← dof1_split]; congr 2; omega
  have e2 : ep (p + 10) = (dof 1 (12 - p)).toRat * (dof 1 (-21)).toRat := by rw [ep_eq (by omega) (by omega), ← dof1_split]; congr 2; omega
  have u : 0 < (dof 1 (12 - p)).toRat := q_dof1
  have num : pq 8 16 * (3 * (dof 1 (-91)).toRat) + 2 * (dof 1 (-21)).toRat ≤ 1 := by decide +kernel
  have num := Rat.mul_le_mul_of_nonneg_left num (Rat.le_of_lt u)
  have V : bothV (dof k (-12), dof k (-12)) p = (iround (imeet (trI (dof k (-12)) (p + 80)).1 (-1, 1)).1 (p + 10), iround (imeet (trI (dof k (-12)) (p + 80)).2 (-1, 1)).1 (p + 10)) := by
    unfold bothV toldV
    rw [show min (max p 2) 200 = p by omega, m, r, iadd_rad0, iadd_rad0]
  rw [V]; dsimp only
  rw [e1, e2] at c1 c2
  generalize (dof 1 (-91)).toRat = x at *
  generalize (dof 1 (-21)).toRat = y at *
  generalize pq 8 16 = g at *
  have ee : (dof 1 (12 - p)).toRat * (g * (3 * x) + 2 * y) = g * (3 * ((dof 1 (12 - p)).toRat * x)) + 2 * ((dof 1 (12 - p)).toRat * y) := by grind
  exact ⟨⟨c1.1, c1.2.1, q_le.1 (by rw [q_sub]; grind)⟩, ⟨c2.1, c2.2.1, q_le.1 (by rw [q_sub]; grind)⟩⟩
theorem expV_wide {k p : Int} (h : k.natAbs ≤ 32768) (h1 : 16 ≤ p) (h2 : p ≤ 200) :
    Ord (expV (dof k (-12), dof k (-12)) p) ∧ (expV (dof k (-12), dof k (-12)) p).2 - (expV (dof k (-12), dof k (-12)) p).1 ≤ dof 1 (24 - p) := by
  obtain ⟨s, s8⟩ := pt_small h
  obtain ⟨l1, l2, l3, l4⟩ := trR_wz (P := p + 80) (by omega) (by omega) s s8
  have my : mayP (dof k (-12), dof k (-12)) = true := mayP_iff.2 ⟨s, s⟩
  refine ⟨expV_ord p (show Ord (dof k (-12), dof k (-12)) from q_le.1 Rat.le_refl) my, q_le.1 ?_⟩
  unfold expV; dsimp only
  rw [show min (max p 2) 200 = p by omega]
  generalize trR (dof k (-12)) (p + 80) = T at *
  have e1 : ep (p + 80) = (dof 1 (24 - p)).toRat * (dof 1 (-103)).toRat := by rw [ep_eq (by omega) (by omega), ← dof1_split]; congr 2; omega
  have e2 : ep (p + 10) = (dof 1 (24 - p)).toRat * (dof 1 (-33)).toRat := by rw [ep_eq (by omega) (by omega), ← dof1_split]; congr 2; omega
  have u : 0 < (dof 1 (24 - p)).toRat := q_dof1
  have num : 2304835085549 * (dof 1 (-103)).toRat + 2 * ((890348600095278538467 / 100000000000000) * (dof 1 (-33)).toRat) ≤ 1 := by decide +kernel
  have num := Rat.mul_le_mul_of_nonneg_left num (Rat.le_of_lt u)
  have r1 := (rto_err T.1.1 (p + 10)).1
  have r2 := (rto_err T.1.2 (p + 10)).2
  have e0 := ep_pos (p + 10)
  have q1 : qab T.1.1.toRat ≤ (890348600095278538467 / 100000000000000) := by rw [qab_self (by grind)]; grind
  have q2 : qab T.1.2.toRat ≤ (890348600095278538467 / 100000000000000) := by rw [qab_self (by grind)]; grind
  have m1 := Rat.mul_le_mul_of_nonneg_right q1 (Rat.le_of_lt e0)
  have m2 := Rat.mul_le_mul_of_nonneg_right q2 (Rat.le_of_lt e0)
  rw [q_sub]
  show (rto T.1.2 (p + 10) 1).toRat - (rto T.1.1 (p + 10) 0).toRat ≤ _
  rw [e1] at l4
  rw [e2] at r1 r2 m1 m2
  generalize (dof 1 (-103)).toRat = x at *
  generalize (dof 1 (-33)).toRat = y at *
  generalize (dof 1 (24 - p)).toRat = v at *
  grind
theorem mkq_is {q : Dyadic} {e : Int} (hq : Zt 100000 (dman q)) (h1 : -20000 ≤ e) (h2 : e ≤ 20000) : Sim Tryz.prog G0 false 19 [.agg [.bool (zneg (dman q)), sl (ofN (dman q).natAbs)], .int .i64 e] (dyD (dof (dman q) e)) := by
  have h := rmake_sim (x := zD (dman q)) e (.of (hq.mono (by decide))) hq
  rwa [show min (max e (-20000)) 20000 = e by omega] at h
theorem slim_sim {z : Cq} {e : Int} (hz : Hc 18000 z) (ho : Ord z) (hw : z.2 - z.1 ≤ dof 1 e) (h1 : -1000 ≤ e) (h2 : e ≤ 1000) : Sim Tryz.prog G0 true 21 [cxD z, .int .i64 e] (.bool true) := by
  have k1 : Sim Tryz.prog G0 false 20 [.int .i64 1] (dyD 1) := rofd_sim 1 (by decide) (by decide)
  have k2 := mkq_is (q := 1) (e := e) (Zt.small (by decide) (by decide)) (by omega) (by omega)
  rw [show dman 1 = 1 by decide] at k2
  have hE : Ht 2000 (dof 1 e) := (Ht.scl 1000 (by omega) (by omega)).mono (by decide)
  have c1 := rdcmp_sim (hz.1.mono (show 18000 ≤ 49000 by decide)) (hz.2.mono (show 18000 ≤ 49000 by decide)) ((hz.1.sub hz.2 (c := 18001) (by decide)).mono (by decide))
  have s := rdsub_sim (hz.2.mono (show 18000 ≤ 49000 by decide)) (hz.1.mono (show 18000 ≤ 49000 by decide))
  have hd : Ht 18001 (z.2 - z.1) := hz.2.sub hz.1 (by decide)
  have c2 := rdcmp_sim (hd.mono (show 18001 ≤ 49000 by decide)) (hE.mono (show 2000 ≤ 49000 by decide)) ((hd.sub (hE.mono (show 2000 ≤ 18001 by decide)) (c := 18002) (by decide)).mono (by decide))
  have f1 : dsg (z.1 - z.2) ≤ 0 := dsg_le.2 (by unfold Ord at ho; grind)
  have f2 : dsg (z.2 - z.1 - dof 1 e) ≤ 0 := dsg_le.2 (by grind)
  clear hd hE hz ho hw
  generalize z.2 - z.1 = d at *
  generalize dof 1 e = E at *
  obtain ⟨a, b⟩ := z
  dsimp only at *
  refine sim_mk tab_ok Tryz.func21 rfl (by kernel_rfl) rfl ⟨Nat.le_of_ble_eq_true rfl, Nat.le_of_ble_eq_true rfl⟩ ?_
  repeat' ((conv => whnf); first
    | with_reducible refine CallX.data ?_
    | with_reducible refine Br.dec (fun _ => ?_) (fun h => absurd (by omega) h)
    | refine CallE.mk _ _ (k1) ?_
    | refine CallE.mk _ _ (k2) ?_
    | refine CallE.mk _ _ (c1) ?_
    | refine CallE.mk _ _ (s) ?_
    | refine CallE.mk _ _ (c2) ?_
    | refine RegE.early (Cd.mk (show regOk _ _ _ _ = true by kernel_rfl) ?_)
    | refine Cd.mk rfl ?_
    | refine Br.t ?_
    | (refine TkE.fL ?_; (conv => whnf); fail_if_success (show forceL _ _))
    | refine Res.mk ?_)
  all_goals (try dsimp only at *)
  all_goals first | rfl | exact congrArg D.bool (decide_eq_true (by omega)).symm | (exfalso; omega)
theorem n_rem180 (n : Nat) : (n : Int).tmod 180 = ((n % 180 : Nat) : Int) := n_rem n 180
set_option maxRecDepth 10000 in
set_option maxHeartbeats 8000000 in
theorem elemwide_sim (k : Int) (m : Nat) (hk1 : -32768 ≤ k) (hk2 : k ≤ 32767) (hm : m < 256) : Sim Tryz.prog G0 true 4 [.int .i16 k, .int .u8 m] (.bool true) := by
  obtain ⟨p, hp⟩ : ∃ p, ((m % 180 : Nat) : Int) + 16 = p := ⟨_, rfl⟩
  have hp1 : 16 ≤ p ∧ p ≤ 195 := by omega
  have hk : k.natAbs ≤ 32768 := by omega
  obtain ⟨s, _⟩ := pt_small hk
  have my : mayP (dof k (-12), dof k (-12)) = true := mayP_iff.2 ⟨s, s⟩
  obtain ⟨B1, B2⟩ := bothV_wide (p := p) hk (by omega) (by omega)
  obtain ⟨E1, E2⟩ := expV_wide (p := p) hk (by omega) (by omega)
  have Ep := expV_pos (z := (dof k (-12), dof k (-12))) p s
  have hc := may_ht my
  have oc : Ord (dof k (-12), dof k (-12)) := q_le.1 Rat.le_refl
  have rc : rof (dof k (-12), dof k (-12)) = (dof k (-12), dof k (-12)) := rof_self oc
  have cs := CxS.of (hc.mono (show 1010 ≤ 10000 by decide))
  have sE := eExp_ok (p := p) cs (hc.mono (by decide)) my (by rw [rc])
  have sS := eSin_ok (p := p) cs (hc.mono (by decide)) my (by rw [rc])
  have sC := eCos_ok (p := p) cs (hc.mono (by decide)) my (by rw [rc])
  have he := expV_hc p my
  have hv := bothV_hc p oc my
  have g1 := slim_sim (hv.1.mono (by decide)) B1.1 B1.2.2 (by omega) (by omega)
  have g2 := slim_sim (hv.2.mono (by decide)) B2.1 B2.2.2 (by omega) (by omega)
  have g3 := slim_sim (he.mono (by decide)) E1 E2 (by omega) (by omega)
  have i1 := rIn_is (w := (-1, 1)) (hv.1.mono (by decide)) (Ht.u1.mono (by decide)) (decide_eq_true B1.2.1)
  have i2 := rIn_is (w := (-1, 1)) (hv.2.mono (by decide)) (Ht.u1.mono (by decide)) (decide_eq_true B2.2.1)
  have g5 := rdsign_sim (he.1.mono (show 17200 ≤ 50000 by decide))
  rw [show dsg (expV (dof k (-12), dof k (-12)) p).1 = 1 by
    rcases dsg_cases (expV (dof k (-12), dof k (-12)) p).1 with ⟨c, _⟩ | ⟨c, _⟩ | ⟨_, c⟩
    · have := q_le.2 (show (expV (dof k (-12), dof k (-12)) p).1 ≤ 0 by grind); rw [q_zero] at this; grind
    · rw [c, q_zero] at Ep; grind
    · exact c] at g5
  have k1 : Sim Tryz.prog G0 false 20 [.int .i64 1] (dyD 1) := rofd_sim 1 (by decide) (by decide)
  have k2 : Sim Tryz.prog G0 false 20 [.int .i64 (-1)] (dyD (-1)) := rofd_sim (-1) (by decide) (by decide)
  have o := rofd_sim k (by omega) (by omega)
  have hd : Ht 64 (dof k 0) := Ht.i64 (by omega) (by omega)
  obtain ⟨d1, d2, d3⟩ := hd.parts
  have mk := mkq_is (q := dof k 0) (e := dexp (dof k 0) - 12) (d1.mono (by decide)) (by omega) (by omega)
  rw [show dof (dman (dof k 0)) (dexp (dof k 0) - 12) = dof k (-12) by
    have a : dof (dman (dof k 0)) (dexp (dof k 0) - 12) = dof (dman (dof k 0)) (dexp (dof k 0)) * dof 1 (-12) := by rw [dof_mul, Int.mul_one]; rfl
    rw [a, dof_self, dof_mul, Int.mul_one]; rfl] at mk
  clear B1 B2 E1 E2 Ep hc oc rc cs he hv my s hd d1
  generalize dof k (-12) = X at *
  generalize dof k 0 = Y at *
  generalize expV (X, X) p = e at *
  generalize bothV (X, X) p = V at *
  obtain ⟨_, _⟩ := e
  obtain ⟨⟨_, _⟩, ⟨_, _⟩⟩ := V
  refine sim_mk tab_ok Tryz.func4 rfl (by kernel_rfl) rfl ⟨Nat.le_of_ble_eq_true rfl, Nat.le_of_ble_eq_true rfl⟩ ?_
  repeat' ((conv => whnf); first
    | with_reducible refine CallX.data ?_
    | refine CallE.mk _ _ (known23_sim) ?_
    | refine CallE.mk _ _ (o) ?_
    | refine CallE.mk _ _ (mk) ?_
    | refine CallE.mk _ _ (sE) ?_
    | refine CallE.mk _ _ (sC) ?_
    | refine CallE.mk _ _ (sS) ?_
    | refine CallE.mk _ _ (g1) ?_
    | refine CallE.mk _ _ (g2) ?_
    | refine CallE.mk _ _ (g3) ?_
    | refine CallE.mk _ _ (i1) ?_
    | refine CallE.mk _ _ (i2) ?_
    | refine CallE.mk _ _ (g5) ?_
    | refine CallE.mk _ _ (k1) ?_
    | refine CallE.mk _ _ (k2) ?_
    | refine RegE.early (Cd.mk (show regOk _ _ _ _ = true by kernel_rfl) ?_)
    | refine Cd.mk rfl ?_
    | refine Br.t ?_
    | refine Br.f ?_
    | refine NthE.mk _ rfl ?_
    | (refine TkE.fL ?_; (conv => whnf); fail_if_success (show forceL _ _))
    | refine Res.mk ?_
    | ((with_reducible refine EqE.idW ?_); first | refine EqE.mk p ((wrap_in (by omega) (by omega)).trans hp) ?_ | refine EqE.mk k (wrap_in (by omega) (by omega)) ?_ | refine EqE.mk (dexp Y - 12) (wrap_in (by omega) (by omega)) ?_ | refine EqE.mk (12 - p) (wrap_in (by omega) (by omega)) ?_ | refine EqE.mk (24 - p) (wrap_in (by omega) (by omega)) ?_ | with_reducible refine EqE.mk _ (n_i64 _ (by omega)) ?_)
    | ((with_reducible refine EqE.idM ?_); refine EqE.mk _ (n_rem180 _) ?_)
    | ((with_reducible refine EqE.idS ?_); (refine EqE.fP ?_; (conv => whnf); fail_if_success (show forceL _ _)))
    | refine Cd.mk (Nat.le_of_ble_eq_true rfl) ?_
    | refine Cd.mk (by first | omega | (simp only [length_limbs, length_la]; omega)) ?_)
  rfl
theorem elemwide_at (k m : Int) (h1 : -32768 ≤ k) (h2 : k ≤ 32767) (h3 : 0 ≤ m) (h4 : m ≤ 255) : Sim Tryz.prog G0 true 4 [.int .i16 k, .int .u8 m] (.bool true) := by
  obtain ⟨m, rfl⟩ := Int.eq_ofNat_of_zero_le h3
  exact elemwide_sim k m h1 h2 (by omega)
end Go.Ev.Ar
