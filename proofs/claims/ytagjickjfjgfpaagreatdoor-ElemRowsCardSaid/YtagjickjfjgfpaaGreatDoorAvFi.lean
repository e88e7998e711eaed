/- Contracts of the given functions, on data. Conditions stand in each theorem. -/
import Derived.Test.YtagjickjfjgfpaaGreatDoorAvFg
import Derived.Test.YtagjickjfjgfpaaGreatDoorAvFh
import Derived.Test.YtagjickjfjgfpaaGreatDoorAvFk
set_option linter.unusedSimpArgs false
set_option linter.unusedVariables false
namespace Go.Ev.Ar
open Go Go.Ev Go.Proofs

theorem n_rem2049 (k : Int) : k.tmod 2049 = k.tmod 2049 := rfl
theorem near_sim {z : Cq} {t : Dyadic} (hz : Hc 18000 z) (ht : Ht 4000 t) (h1 : z.1 * dof 479001600 0 ≤ t + 1) (h2 : t - 1 ≤ z.2 * dof 479001600 0) : Sim Tryz.prog G0 true 18 [cxD z, dyD t] (.bool true) := by
  have k1 : Sim Tryz.prog G0 false 20 [.int .i64 1] (dyD 1) := rofd_sim 1 (by decide) (by decide)
  have k2 := rofd_sim 479001600 (by decide) (by decide)
  have hF : Ht 64 (dof 479001600 0) := Ht.i64 (by decide) (by decide)
  have m1 := rdmul_sim (hz.1.mono (show 18000 ≤ 25000 by decide)) (hF.mono (show 64 ≤ 25000 by decide))
  have m2 := rdmul_sim (hz.2.mono (show 18000 ≤ 25000 by decide)) (hF.mono (show 64 ≤ 25000 by decide))
  have g1 : Ht 18064 (z.1 * dof 479001600 0) := hz.1.mul hF (by decide)
  have g2 : Ht 18064 (z.2 * dof 479001600 0) := hz.2.mul hF (by decide)
  have sa := rdadd_sim (ht.mono (show 4000 ≤ 49000 by decide)) (Ht.one.mono (show 1 ≤ 49000 by decide))
  have ss := rdsub_sim (ht.mono (show 4000 ≤ 49000 by decide)) (Ht.one.mono (show 1 ≤ 49000 by decide))
  have ha : Ht 18064 (t + 1) := (ht.add (Ht.one.mono (show 1 ≤ 4000 by decide)) (c := 4001) (by decide)).mono (by decide)
  have hs : Ht 18064 (t - 1) := (ht.sub (Ht.one.mono (show 1 ≤ 4000 by decide)) (c := 4001) (by decide)).mono (by decide)
  have c1 := rdcmp_sim (g1.mono (show 18064 ≤ 49000 by decide)) (ha.mono (show 18064 ≤ 49000 by decide)) ((g1.sub ha (c := 18065) (by decide)).mono (by decide))
  have c2 := rdcmp_sim (g2.mono (show 18064 ≤ 49000 by decide)) (hs.mono (show 18064 ≤ 49000 by decide)) ((g2.sub hs (c := 18065) (by decide)).mono (by decide))
  have f1 : dsg (z.1 * dof 479001600 0 - (t + 1)) ≤ 0 := dsg_le.2 (by grind)
  have f2 : 0 ≤ dsg (z.2 * dof 479001600 0 - (t - 1)) := dsg_ge.2 (by grind)
  clear h1 h2 g1 g2 ha hs hF hz ht
  generalize z.1 * dof 479001600 0 = p at *
  generalize z.2 * dof 479001600 0 = q at *
  generalize dof 479001600 0 = F at *
  generalize t + 1 = u at *
  generalize t - 1 = v at *
  obtain ⟨a, b⟩ := z
  dsimp only at *
  refine sim_mk tab_ok Tryz.func18 rfl (by kernel_rfl) rfl ⟨Nat.le_of_ble_eq_true rfl, Nat.le_of_ble_eq_true rfl⟩ ?_
  repeat' ((conv => whnf); first
    | with_reducible refine CallX.data ?_
    | with_reducible refine Br.dec (fun _ => ?_) (fun h => absurd (by omega) h)
    | refine CallE.mk _ _ (k1) ?_
    | refine CallE.mk _ _ (k2) ?_
    | refine CallE.mk _ _ (m1) ?_
    | refine CallE.mk _ _ (m2) ?_
    | refine CallE.mk _ _ (sa) ?_
    | refine CallE.mk _ _ (ss) ?_
    | refine CallE.mk _ _ (c1) ?_
    | refine CallE.mk _ _ (c2) ?_
    | refine RegE.early (Cd.mk (show regOk _ _ _ _ = true by kernel_rfl) ?_)
    | refine Cd.mk rfl ?_
    | refine Br.t ?_
    | (refine TkE.fL ?_; (conv => whnf); fail_if_success (show forceL _ _))
    | refine Res.mk ?_
    | ((with_reducible refine EqE.idS ?_); (refine EqE.fP ?_; (conv => whnf); fail_if_success (show forceL _ _)))
    | refine Cd.mk (Nat.le_of_ble_eq_true rfl) ?_)
  all_goals (try dsimp only at *)
  all_goals first | rfl | exact congrArg D.bool (decide_eq_true (by omega)).symm | (exfalso; omega)
theorem scl_rat (X : Dyadic) : (X * dof 1 (-16)).toRat = X.toRat * (1 / 65536) := by
  have c16 : (dof 1 (-16)).toRat = 1 / 65536 := by
    rw [show (-16 : Int) = -((16 : Nat) : Int) by decide, dof_neg_rat]; simp only [pq]; grind
  rw [q_mul, c16]
theorem mul_fac {a t : Dyadic} {r : Rat} (ht : t.toRat = 479001600 * r) : (a.toRat ≤ r + 1 / 479001600 → a * dof 479001600 0 ≤ t + 1) ∧ (r - 1 / 479001600 ≤ a.toRat → t - 1 ≤ a * dof 479001600 0) := by
  have F : (dof 479001600 0).toRat = 479001600 := by decide +kernel
  exact ⟨fun h => q_le.1 (by rw [q_mul, q_add, q_one, F, ht]; grind), fun h => q_le.1 (by rw [q_mul, q_sub, q_one, F, ht]; grind)⟩
theorem rows_near {X : Dyadic} (p : Int) (hs : smallP X = true) (h1 : qab X.toRat ≤ 1) :
    ((expV (X, X) p).1 * dof 479001600 0 ≤ (tmS X 13).1 + 1 ∧ (tmS X 13).1 - 1 ≤ (expV (X, X) p).2 * dof 479001600 0) ∧
    ((bothV (X, X) p).1.1 * dof 479001600 0 ≤ (tmS X 13).2.1 + 1 ∧ (tmS X 13).2.1 - 1 ≤ (bothV (X, X) p).1.2 * dof 479001600 0) ∧
    ((bothV (X, X) p).2.1 * dof 479001600 0 ≤ (tmS X 13).2.2.1 + 1 ∧ (tmS X 13).2.2.1 - 1 ≤ (bothV (X, X) p).2.2 * dof 479001600 0) := by
  have o : Ord (X, X) := q_le.1 Rat.le_refl
  have m := expV_mm (z := (X, X)) (q := X) p ⟨q_le.1 Rat.le_refl, q_le.1 Rat.le_refl⟩ hs (mayP_iff.2 ⟨hs, hs⟩)
  obtain ⟨c, s⟩ := bothV_has (z := (X, X)) (q := X) p ⟨q_le.1 Rat.le_refl, q_le.1 Rat.le_refl⟩ hs hs hs
  rw [scl_rat] at m c s
  have m' : Mm (fun n => (gx (sc 16 (Cr.ofQ X.toRat)) n).re) (expV (X, X) p) := by rw [sc_real]; exact m
  rw [← sc_im] at c s
  have r1 := row_re (z := Cr.ofQ X.toRat) (by rw [nrm_q]; exact h1) m'
  have r2 := row_re (z := iy X.toRat) (by rw [nrm_iy]; exact h1) c
  have r3 := row_im (z := iy X.toRat) (by rw [nrm_iy]; exact h1) s
  obtain ⟨t1, t2, t3⟩ := tm_val X
  exact ⟨⟨(mul_fac t1).1 r1.1, (mul_fac t1).2 r1.2⟩, ⟨(mul_fac t2).1 r2.1, (mul_fac t2).2 r2.2⟩, ⟨(mul_fac t3).1 r3.1, (mul_fac t3).2 r3.2⟩⟩
set_option maxRecDepth 10000 in
set_option maxHeartbeats 8000000 in
theorem elemrows_sim (n p : Int) (h1 : -32768 ≤ n) (h2 : n ≤ 32767) : Sim Tryz.prog G0 true 3 [.int .i16 n, .int .i64 p] (.bool true) := by
  have sP := part_sim n h1 h2
  obtain ⟨k, hk⟩ : ∃ k, n.tmod 2049 = k := ⟨_, rfl⟩
  have hk2 : -2048 ≤ k ∧ k ≤ 2048 := by
    have a := Int.tmod_lt_of_pos n (b := 2049) (by decide)
    have b := Int.lt_tmod_of_pos n (b := 2049) (by decide)
    omega
  rw [hk] at sP
  obtain ⟨s, u, hX⟩ := unit_pt hk2.1 hk2.2
  generalize dof k (-11) = X at *
  have my : mayP (X, X) = true := mayP_iff.2 ⟨s, s⟩
  have hc := may_ht my
  have oc : Ord (X, X) := q_le.1 Rat.le_refl
  have rc : rof (X, X) = (X, X) := rof_self oc
  have cs := CxS.of (hc.mono (show 1010 ≤ 10000 by decide))
  have sE := eExp_ok (p := p) cs (hc.mono (by decide)) my (by rw [rc])
  have sS := eSin_ok (p := p) cs (hc.mono (by decide)) my (by rw [rc])
  have sC := eCos_ok (p := p) cs (hc.mono (by decide)) my (by rw [rc])
  have sT := terms_sim hX
  have he := expV_hc p my
  have hv := bothV_hc p oc my
  obtain ⟨⟨a1, a2⟩, ⟨b1, b2⟩, ⟨c1, c2⟩⟩ := rows_near p s u
  obtain ⟨_, t1, t2, t3⟩ := tmS_ht hX 13
  have g1 := near_sim (he.mono (by decide)) (t1.mono (by decide)) a1 a2
  have g2 := near_sim (hv.1.mono (by decide)) (t2.mono (by decide)) b1 b2
  have g3 := near_sim (hv.2.mono (by decide)) (t3.mono (by decide)) c1 c2
  clear a1 a2 b1 b2 c1 c2 t1 t2 t3 he hv hc oc rc cs my s u hX
  generalize (tmS X 13).1 = t1 at *
  generalize (tmS X 13).2.1 = t2 at *
  generalize (tmS X 13).2.2.1 = t3 at *
  generalize expV (X, X) p = e at *
  generalize bothV (X, X) p = V at *
  obtain ⟨_, _⟩ := e
  obtain ⟨⟨_, _⟩, ⟨_, _⟩⟩ := V
  refine sim_mk tab_ok Tryz.func3 rfl (by kernel_rfl) rfl ⟨Nat.le_of_ble_eq_true rfl, Nat.le_of_ble_eq_true rfl⟩ ?_
  repeat' ((conv => whnf); first
    | with_reducible refine CallX.data ?_
    | refine CallE.mk _ _ (known23_sim) ?_
    | refine CallE.mk _ _ (sP) ?_
    | refine CallE.mk _ _ (sT) ?_
    | refine CallE.mk _ _ (sE) ?_
    | refine CallE.mk _ _ (sC) ?_
    | refine CallE.mk _ _ (sS) ?_
    | refine CallE.mk _ _ (g1) ?_
    | refine CallE.mk _ _ (g2) ?_
    | refine CallE.mk _ _ (g3) ?_
    | refine RegE.early (Cd.mk (show regOk _ _ _ _ = true by kernel_rfl) ?_)
    | refine Cd.mk rfl ?_
    | refine Br.t ?_
    | refine Br.f ?_
    | refine NthE.mk _ rfl ?_
    | (refine TkE.fL ?_; (conv => whnf); fail_if_success (show forceL _ _))
    | refine Res.mk ?_
    | ((with_reducible refine EqE.idS ?_); (refine EqE.fP ?_; (conv => whnf); fail_if_success (show forceL _ _)))
    | refine Cd.mk (Nat.le_of_ble_eq_true rfl) ?_
    | refine Cd.mk (by first | omega | (simp only [length_limbs, length_la]; omega)) ?_)
  rfl
theorem elemrows_at (n p : Int) (h1 : -32768 ≤ n) (h2 : n ≤ 32767) : Sim Tryz.prog G0 true 3 [.int .i16 n, .int .i64 p] (.bool true) := elemrows_sim n p h1 h2
end Go.Ev.Ar
