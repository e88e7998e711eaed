/- Contracts of the given functions, on data. Conditions stand in each theorem. -/
import Derived.Test.YtagjickjfjgfpaaGreatDoorGAvEp
set_option linter.unusedSimpArgs false
set_option linter.unusedVariables false
namespace Go.Ev.Ar
open Go Go.Ev Go.Proofs

theorem DyS.of {q : Dyadic} (h : Ht 10000 q) : DyS (dyD q) q := by
  obtain ⟨h1, h2, h3⟩ := h.parts
  have r := DyR.of (h.mono (b := 1048576) (by decide))
  have e : dof (zv (zneg (dman q)) (ofN (dman q).natAbs)) (dexp q) = q := by rw [zv_self, dof_self]
  have k : DyS (.agg [.bool (zneg (dman q)), sl (ofN (dman q).natAbs), .int .i64 (dexp q)]) (dof (zv (zneg (dman q)) (ofN (dman q).natAbs)) (dexp q)) :=
    .mk (h1.len (by decide)) (by omega) (by omega) (by rw [e]; exact r)
  rw [e] at k; exact k
theorem CxS.of {z : Cq} (h : Hc 10000 z) : CxS (cxD z) z := .mk (DyS.of h.1) (DyS.of h.2)
def mayP (z : Cq) : Bool := smallP z.1 && smallP z.2
theorem mayP_iff {z : Cq} : mayP z = true ↔ smallP z.1 = true ∧ smallP z.2 = true := by unfold mayP; rw [Bool.and_eq_true]
theorem may_ht {z : Cq} (h : mayP z = true) : Hc 1010 z := by
  rw [mayP_iff] at h
  exact ⟨(small_facts h.1).2.2, (small_facts h.2).2.2⟩
theorem expV_ord {z : Cq} (p : Int) (ho : Ord z) (ht : mayP z = true) : Ord (expV z p) := by
  rw [mayP_iff] at ht
  exact iround_ord _ (exp_ends (P := min (max p 2) 200 + 80) (by omega) (by omega) ht.1 ht.2 ho)
theorem expV_hc {z : Cq} (p : Int) (ht : mayP z = true) : Hc 17200 (expV z p) := by
  rw [mayP_iff] at ht
  have a := trR_ht (P := min (max p 2) 200 + 80) (by omega) (by omega) ht.1
  have b := trR_ht (P := min (max p 2) 200 + 80) (by omega) (by omega) ht.2
  exact (Hc.iround (K := 210) (show Hc 16700 ((trR z.1 (min (max p 2) 200 + 80)).1.1, (trR z.2 (min (max p 2) 200 + 80)).1.2) from ⟨a.1.1, b.1.2⟩) (by omega)).mono (by decide)
theorem bothV_ord {z : Cq} (p : Int) (ho : Ord z) (ht : mayP z = true) : Ord2 (bothV z p) := by
  rw [mayP_iff] at ht
  obtain ⟨f1, f2, f3, f4, f5⟩ := mid_facts (P := min (max p 2) 200 + 80) ho (by omega) (by omega) ht.1 ht.2
  obtain ⟨⟨a1, a2⟩, b1, b2⟩ := both_mm (P := min (max p 2) 200 + 80) (by omega) (by omega) ht.1 f1 (f5 _ ⟨q_le.1 Rat.le_refl, ho⟩)
  exact ⟨iround_ord _ (imeet_in (mm_meets a1 a2)).1, iround_ord _ (imeet_in (mm_meets b1 b2)).1⟩
theorem bothV_hc {z : Cq} (p : Int) (ho : Ord z) (ht : mayP z = true) : Hr 6000 (bothV z p) := by
  rw [mayP_iff] at ht
  obtain ⟨f1, f2, f3, f4, f5⟩ := mid_facts (P := min (max p 2) 200 + 80) ho (by omega) (by omega) ht.1 ht.2
  have tt := trI_ht (P := min (max p 2) 200 + 80) (by omega) (by omega) f1 f2
  have h1 := (small_facts ht.1).2.2
  have h2 := (small_facts ht.2).2.2
  have hr : Ht 1011 (radQ z (min (max p 2) 200 + 80)) := (h2.sub f3 (c := 1011) (by decide)).mx (f3.sub h1 (c := 1011) (by decide))
  have hI : Hc 5401 (iadd (trI (midQ z (min (max p 2) 200 + 80)) (min (max p 2) 200 + 80)).1 (-radQ z (min (max p 2) 200 + 80), radQ z (min (max p 2) 200 + 80))) := Hc.iadd (b := 1011) tt.1.1 ⟨hr.neg, hr⟩ (by decide)
  have hJ : Hc 5401 (iadd (trI (midQ z (min (max p 2) 200 + 80)) (min (max p 2) 200 + 80)).2 (-radQ z (min (max p 2) 200 + 80), radQ z (min (max p 2) 200 + 80))) := Hc.iadd (b := 1011) tt.1.2 ⟨hr.neg, hr⟩ (by decide)
  exact ⟨(Hc.iround (K := 210) (hI.imeet (Ht.u1.mono (by decide))) (by omega)).mono (by decide), (Hc.iround (K := 210) (hJ.imeet (Ht.u1.mono (by decide))) (by omega)).mono (by decide)⟩
theorem mayP_rof {z : Cq} (h : mayP z = true) : mayP (rof z) = true := by
  have := rof_small h
  rw [mayP_iff]; exact this
attribute [local irreducible] expV bothV
theorem emay_iss {x : D} {z : Cq} {t : Bool} (hx : CxS x z) (hz : Hc 100000 z) (ht : mayP z = t) : Sim Tryz.prog G0 true 66 [x] (.bool t) := emay_is hx hz ht
theorem eExp_ok {x : D} {z r : Cq} {p : Int} (hx : CxS x z) (hz : Hc 100000 z) (ht : mayP z = true) (hr : expV (rof z) p = r) : Sim Tryz.prog G0 false 15 [x, .int .i64 p] (.tup [cxD r, .int .i64 0]) := by
  have k := rof_small ht
  exact eExp_is hx hz ht (exp_ends (P := min (max p 2) 200 + 80) (by omega) (by omega) k.1 k.2 (rof_ord z)) hr
theorem eSin_ok {x : D} {z : Cq} {V : Rq} {p : Int} (hx : CxS x z) (hz : Hc 100000 z) (ht : mayP z = true) (hV : bothV (rof z) p = V) : Sim Tryz.prog G0 false 17 [x, .int .i64 p] (.tup [cxD V.2, .int .i64 0]) := by
  have k := rof_small ht
  have s1 := emay_iss hx hz ht
  have s2 := both_is hx.r hz k.1 k.2 hV
  have kr := hx.r
  clear hx hV k
  obtain ⟨⟨_, _⟩, ⟨_, _⟩⟩ := V
  obtain ⟨_, _⟩ := kr
  refine sim_mk tab_ok Tryz.func17 rfl (by kernel_rfl) rfl ⟨Nat.le_of_ble_eq_true rfl, Nat.le_of_ble_eq_true rfl⟩ ?_
  repeat' ((conv => whnf); first
    | with_reducible refine CallX.data ?_
    | refine CallE.mk _ _ (s1) ?_
    | refine CallE.mk _ _ (s2) ?_
    | refine RegE.early (Cd.mk (show regOk _ _ _ _ = true by kernel_rfl) ?_)
    | refine Cd.mk rfl ?_
    | refine Br.f ?_
    | refine NthE.mk _ rfl ?_
    | (refine TkE.fL ?_; (conv => whnf); fail_if_success (show forceL _ _))
    | refine Res.mk ?_
    | ((with_reducible refine EqE.idS ?_); (refine EqE.fP ?_; (conv => whnf); fail_if_success (show forceL _ _)))
    | refine Cd.mk (Nat.le_of_ble_eq_true rfl) ?_)
  rfl
theorem eCos_ok {x : D} {z : Cq} {V : Rq} {p : Int} (hx : CxS x z) (hz : Hc 100000 z) (ht : mayP z = true) (hV : bothV (rof z) p = V) : Sim Tryz.prog G0 false 16 [x, .int .i64 p] (.tup [cxD V.1, .int .i64 0]) := by
  have k := rof_small ht
  have s1 := emay_iss hx hz ht
  have s2 := both_is hx.r hz k.1 k.2 hV
  have kr := hx.r
  clear hx hV k
  obtain ⟨⟨_, _⟩, ⟨_, _⟩⟩ := V
  obtain ⟨_, _⟩ := kr
  refine sim_mk tab_ok Tryz.func16 rfl (by kernel_rfl) rfl ⟨Nat.le_of_ble_eq_true rfl, Nat.le_of_ble_eq_true rfl⟩ ?_
  repeat' ((conv => whnf); first
    | with_reducible refine CallX.data ?_
    | refine CallE.mk _ _ (s1) ?_
    | refine CallE.mk _ _ (s2) ?_
    | refine RegE.early (Cd.mk (show regOk _ _ _ _ = true by kernel_rfl) ?_)
    | refine Cd.mk rfl ?_
    | refine Br.f ?_
    | refine NthE.mk _ rfl ?_
    | (refine TkE.fL ?_; (conv => whnf); fail_if_success (show forceL _ _))
    | refine Res.mk ?_
    | ((with_reducible refine EqE.idS ?_); (refine EqE.fP ?_; (conv => whnf); fail_if_success (show forceL _ _)))
    | refine Cd.mk (Nat.le_of_ble_eq_true rfl) ?_)
  rfl
theorem eSin_no {x : D} {z : Cq} (p : Int) (hx : CxS x z) (hz : Hc 100000 z) (ht : mayP z = false) : Sim Tryz.prog G0 false 17 [x, .int .i64 p] (.tup [cxD (0, 0), .int .i64 13]) := by
  have s1 := emay_iss hx hz ht
  have kr := hx.r
  clear hx ht hz
  obtain ⟨_, _⟩ := kr
  refine sim_mk tab_ok Tryz.func17 rfl (by kernel_rfl) rfl ⟨Nat.le_of_ble_eq_true rfl, Nat.le_of_ble_eq_true rfl⟩ ?_
  repeat' ((conv => whnf); first
    | with_reducible refine CallX.data ?_
    | refine CallE.mk _ _ (s1) ?_
    | refine RegE.early (Cd.mk (show regOk _ _ _ _ = true by kernel_rfl) ?_)
    | refine Cd.mk rfl ?_
    | refine Br.t ?_
    | (refine TkE.fL ?_; (conv => whnf); fail_if_success (show forceL _ _))
    | refine Res.mk ?_
    | ((with_reducible refine EqE.idS ?_); (refine EqE.fP ?_; (conv => whnf); fail_if_success (show forceL _ _)))
    | refine Cd.mk (Nat.le_of_ble_eq_true rfl) ?_)
  show _ = D.tup [D.agg [.bool false, sl [], .int .i64 0, .bool false, sl [], .int .i64 0], _]
  rw [cxD_zero]; rfl
theorem eCos_no {x : D} {z : Cq} (p : Int) (hx : CxS x z) (hz : Hc 100000 z) (ht : mayP z = false) : Sim Tryz.prog G0 false 16 [x, .int .i64 p] (.tup [cxD (0, 0), .int .i64 13]) := by
  have s1 := emay_iss hx hz ht
  have kr := hx.r
  clear hx ht hz
  obtain ⟨_, _⟩ := kr
  refine sim_mk tab_ok Tryz.func16 rfl (by kernel_rfl) rfl ⟨Nat.le_of_ble_eq_true rfl, Nat.le_of_ble_eq_true rfl⟩ ?_
  repeat' ((conv => whnf); first
    | with_reducible refine CallX.data ?_
    | refine CallE.mk _ _ (s1) ?_
    | refine RegE.early (Cd.mk (show regOk _ _ _ _ = true by kernel_rfl) ?_)
    | refine Cd.mk rfl ?_
    | refine Br.t ?_
    | (refine TkE.fL ?_; (conv => whnf); fail_if_success (show forceL _ _))
    | refine Res.mk ?_
    | ((with_reducible refine EqE.idS ?_); (refine EqE.fP ?_; (conv => whnf); fail_if_success (show forceL _ _)))
    | refine Cd.mk (Nat.le_of_ble_eq_true rfl) ?_)
  show _ = D.tup [D.agg [.bool false, sl [], .int .i64 0, .bool false, sl [], .int .i64 0], _]
  rw [cxD_zero]; rfl
/-- Points whose parts may be asked. -/
def cexpV (z : Rq) (p : Int) : Rq := (imul (expV (rof z.1) p) (bothV (rof z.2) p).1, imul (expV (rof z.1) p) (bothV (rof z.2) p).2)
theorem eCExp_ok {z R : Rq} {p : Int} (h1 : mayP z.1 = true) (h2 : mayP z.2 = true) (hR : cexpV z p = R) : Sim Tryz.prog G0 false 35 [rqD z, .int .i64 p] (.tup [rqD R, .int .i64 0]) := by
  have k1 := may_ht h1
  have k2 := may_ht h2
  have c1 := CxS.of (k1.mono (show 1010 ≤ 10000 by decide))
  have c2 := CxS.of (k2.mono (show 1010 ≤ 10000 by decide))
  have s1 := emay_iss c1 (k1.mono (by decide)) h1
  have s2 := emay_iss c2 (k2.mono (by decide)) h2
  have s3 := eExp_ok (p := p) c1 (k1.mono (by decide)) h1 rfl
  have r2 := rof_small h2
  have s4 := both_is (p := p) c2.r (k2.mono (by decide)) r2.1 r2.2 rfl
  have he := expV_hc p (mayP_rof h1)
  have hb := bothV_hc p (rof_ord z.2) (mayP_rof h2)
  unfold cexpV at hR
  generalize expV (rof z.1) p = e at *
  generalize bothV (rof z.2) p = V at *
  have m1 := rlMul_is (r := R.1) (CxR.of (he.mono (by decide))) (CxR.of (hb.1.mono (by decide))) (he.mono (by decide)) (hb.1.mono (by decide)) (congrArg Prod.fst hR)
  have m2 := rlMul_is (r := R.2) (CxR.of (he.mono (by decide))) (CxR.of (hb.2.mono (by decide))) (he.mono (by decide)) (hb.2.mono (by decide)) (congrArg Prod.snd hR)
  clear hR he hb r2 c1 c2 k1 k2 h1 h2
  obtain ⟨⟨_, _⟩, ⟨_, _⟩⟩ := z
  obtain ⟨⟨_, _⟩, ⟨_, _⟩⟩ := V
  obtain ⟨⟨_, _⟩, ⟨_, _⟩⟩ := R
  obtain ⟨_, _⟩ := e
  refine sim_mk tab_ok Tryz.func35 rfl (by kernel_rfl) rfl ⟨Nat.le_of_ble_eq_true rfl, Nat.le_of_ble_eq_true rfl⟩ ?_
  repeat' ((conv => whnf); first
    | with_reducible refine CallX.data ?_
    | refine CallE.mk _ _ (s1) ?_
    | refine CallE.mk _ _ (s2) ?_
    | refine CallE.mk _ _ (s3) ?_
    | refine CallE.mk _ _ (s4) ?_
    | refine CallE.mk _ _ (m1) ?_
    | refine CallE.mk _ _ (m2) ?_
    | refine RegE.early (Cd.mk (show regOk _ _ _ _ = true by kernel_rfl) ?_)
    | refine Cd.mk rfl ?_
    | refine Br.f ?_
    | refine NthE.mk _ rfl ?_
    | (refine TkE.fL ?_; (conv => whnf); fail_if_success (show forceL _ _))
    | refine Res.mk ?_
    | ((with_reducible refine EqE.idS ?_); (refine EqE.fP ?_; (conv => whnf); fail_if_success (show forceL _ _)))
    | refine Cd.mk (Nat.le_of_ble_eq_true rfl) ?_)
  rfl
/-- Where the real part may not be asked. -/
theorem eCExp_no {z : Rq} {p : Int} (hz : Hc 9000 z.1) (h1 : mayP z.1 = false) : Sim Tryz.prog G0 false 35 [rqD z, .int .i64 p] (.tup [rqD ((0, 0), (0, 0)), .int .i64 13]) := by
  have c1 := CxS.of (hz.mono (show 9000 ≤ 10000 by decide))
  have s1 := emay_iss c1 (hz.mono (by decide)) h1
  clear hz h1 c1
  obtain ⟨⟨_, _⟩, ⟨_, _⟩⟩ := z
  refine sim_mk tab_ok Tryz.func35 rfl (by kernel_rfl) rfl ⟨Nat.le_of_ble_eq_true rfl, Nat.le_of_ble_eq_true rfl⟩ ?_
  repeat' ((conv => whnf); first
    | with_reducible refine CallX.data ?_
    | refine CallE.mk _ _ (s1) ?_
    | refine RegE.early (Cd.mk (show regOk _ _ _ _ = true by kernel_rfl) ?_)
    | refine Cd.mk rfl ?_
    | refine Br.t ?_
    | (refine TkE.fL ?_; (conv => whnf); fail_if_success (show forceL _ _))
    | refine Res.mk ?_
    | ((with_reducible refine EqE.idS ?_); (refine EqE.fP ?_; (conv => whnf); fail_if_success (show forceL _ _)))
    | refine Cd.mk (Nat.le_of_ble_eq_true rfl) ?_)
  have e : D.agg [.bool false, sl [], .int .i64 0, .bool false, sl [], .int .i64 0, .bool false, sl [], .int .i64 0, .bool false, sl [], .int .i64 0] = rqD ((0, 0), (0, 0)) := by rw [← ofN_zero]; rfl
  show _ = D.tup [D.agg [.bool false, sl [], .int .i64 0, .bool false, sl [], .int .i64 0, .bool false, sl [], .int .i64 0, .bool false, sl [], .int .i64 0], _]
  rw [e]; rfl
def hypV (z : Cq) (p : Int) : Rq := (imul (dof 1 (-1), dof 1 (-1)) (iadd (expV z p) (expV (ineg z) p)), imul (dof 1 (-1), dof 1 (-1)) (isub (expV z p) (expV (ineg z) p)))
theorem smallP_neg (q : Dyadic) : smallP (-q) = smallP q := by
  unfold smallP
  rw [dexp_neg, show dabs (-q) = dabs q by rw [dabs_eq, dabs_eq]; split <;> split <;> grind]
theorem mayP_neg {z : Cq} (h : mayP z = true) : mayP (ineg z) = true := by
  rw [mayP_iff] at h ⊢
  exact ⟨by show smallP (-z.2) = true; rw [smallP_neg]; exact h.2, by show smallP (-z.1) = true; rw [smallP_neg]; exact h.1⟩
theorem half_is : Sim Tryz.prog G0 false 126 [dyD 1, .int .i64 (-1)] (dyD (dof 1 (-1))) := by
  have h := dscale_sim (-1) (DyR.of (Ht.one.mono (show 1 ≤ 1048576 by decide)))
  rwa [show (1 : Dyadic) * dof 1 (min (max (-1) (-20000)) 20000) = dof 1 (-1) by decide] at h
theorem hyper_ok {z : Cq} {R : Rq} {p : Int} (h : mayP z = true) (hR : hypV (rof z) p = R) : Sim Tryz.prog G0 false 85 [cxD z, .int .i64 p] (.tup [cxD R.1, cxD R.2]) := by
  have k := may_ht h
  have hn := mayP_neg (mayP_rof h)
  have kn := may_ht hn
  have c1 := CxS.of (k.mono (show 1010 ≤ 10000 by decide))
  have c2 := CxS.of (kn.mono (show 1010 ≤ 10000 by decide))
  have s1 := eExp_ok (p := p) c1 (k.mono (by decide)) h rfl
  have s2 := rlNeg_is c1.r (k.mono (by decide)) rfl
  have on := ineg_ord (rof_ord z)
  have s3 := eExp_ok (p := p) c2 (kn.mono (by decide)) hn rfl
  rw [rof_self on] at s3
  have one : Sim Tryz.prog G0 false 128 [.int .i64 1] (dyD 1) := dofn_sim 1 (by decide) (by decide)
  have hh : Ht 200 (dof 1 (-1)) := (Ht.cst (m := 1) (e := -1) (by decide)).mono (by decide)
  have s4 := rlOf_is (.of (hh.mono (b := 1048576) (by decide))) (hh.mono (by decide))
  have ea := expV_hc p (mayP_rof h)
  have eb := expV_hc p hn
  have oa := expV_ord p (rof_ord z) (mayP_rof h)
  have ob := expV_ord p on hn
  unfold hypV at hR
  clear c1 c2 kn k
  generalize rof z = w at *
  generalize expV w p = a at *
  generalize expV (ineg w) p = b at *
  have s5 := rlAdd_is (.of (ea.mono (by decide))) (.of (eb.mono (by decide))) (ea.mono (by decide)) (eb.mono (by decide)) (r := iadd a b) (by rw [rof_self oa, rof_self ob])
  have s6 := rlSub_is (.of (ea.mono (by decide))) (.of (eb.mono (by decide))) (ea.mono (by decide)) (eb.mono (by decide)) (r := isub a b) (by rw [rof_self oa, rof_self ob])
  have hs : Hc 40001 (iadd a b) := ea.iadd eb (by decide)
  have hd : Hc 40001 (isub a b) := ea.isub eb (by decide)
  have s7 := rlMul_is (r := R.1) (CxR.of (z := (dof 1 (-1), dof 1 (-1))) ⟨hh.mono (by decide), hh.mono (by decide)⟩) (CxR.of (hs.mono (by decide))) ⟨hh.mono (by decide), hh.mono (by decide)⟩ (hs.mono (by decide)) (congrArg Prod.fst hR)
  have s8 := rlMul_is (r := R.2) (CxR.of (z := (dof 1 (-1), dof 1 (-1))) ⟨hh.mono (by decide), hh.mono (by decide)⟩) (CxR.of (hd.mono (by decide))) ⟨hh.mono (by decide), hh.mono (by decide)⟩ (hd.mono (by decide)) (congrArg Prod.snd hR)
  clear hR ea eb oa ob hs hd hh on hn h
  generalize iadd a b = s at *
  generalize isub a b = t at *
  have hf := half_is
  generalize dof 1 (-1) = f at *
  generalize ineg w = w at *
  obtain ⟨_, _⟩ := z
  obtain ⟨_, _⟩ := w
  obtain ⟨_, _⟩ := a
  obtain ⟨_, _⟩ := b
  obtain ⟨_, _⟩ := s
  obtain ⟨_, _⟩ := t
  obtain ⟨⟨_, _⟩, ⟨_, _⟩⟩ := R
  refine sim_mk tab_ok Tryz.func85 rfl (by kernel_rfl) rfl ⟨Nat.le_of_ble_eq_true rfl, Nat.le_of_ble_eq_true rfl⟩ ?_
  repeat' ((conv => whnf); first
    | with_reducible refine CallX.data ?_
    | refine CallE.mk _ _ (s1) ?_
    | refine CallE.mk _ _ (s2) ?_
    | refine CallE.mk _ _ (s3) ?_
    | refine CallE.mk _ _ (one) ?_
    | refine CallE.mk _ _ (hf) ?_
    | refine CallE.mk _ _ (s4) ?_
    | refine CallE.mk _ _ (s5) ?_
    | refine CallE.mk _ _ (s6) ?_
    | refine CallE.mk _ _ (s7) ?_
    | refine CallE.mk _ _ (s8) ?_
    | refine RegE.early (Cd.mk (show regOk _ _ _ _ = true by kernel_rfl) ?_)
    | refine Cd.mk rfl ?_
    | refine NthE.mk _ rfl ?_
    | (refine TkE.fL ?_; (conv => whnf); fail_if_success (show forceL _ _))
    | refine Res.mk ?_
    | ((with_reducible refine EqE.idS ?_); (refine EqE.fP ?_; (conv => whnf); fail_if_success (show forceL _ _)))
    | refine Cd.mk (Nat.le_of_ble_eq_true rfl) ?_)
  rfl
theorem hypV_hc {z : Cq} (p : Int) (ht : mayP z = true) : Hr 50000 (hypV z p) := by
  have ea := expV_hc p ht
  have eb := expV_hc p (mayP_neg ht)
  have hs : Hc 40001 (iadd (expV z p) (expV (ineg z) p)) := ea.iadd eb (by decide)
  have hd : Hc 40001 (isub (expV z p) (expV (ineg z) p)) := ea.isub eb (by decide)
  have hh : Ht 200 (dof 1 (-1)) := (Ht.cst (m := 1) (e := -1) (by decide)).mono (by decide)
  exact ⟨Hc.imul (a := 200) (z := (dof 1 (-1), dof 1 (-1))) ⟨hh, hh⟩ hs (by decide), Hc.imul (a := 200) (z := (dof 1 (-1), dof 1 (-1))) ⟨hh, hh⟩ hd (by decide)⟩
attribute [irreducible] hypV
def csinV (z : Rq) (p : Int) : Rq := (imul (bothV (rof z.1) p).2 (hypV (rof z.2) p).1, imul (bothV (rof z.1) p).1 (hypV (rof z.2) p).2)
def ccosV (z : Rq) (p : Int) : Rq := (imul (bothV (rof z.1) p).1 (hypV (rof z.2) p).1, ineg (imul (bothV (rof z.1) p).2 (hypV (rof z.2) p).2))
theorem eCSin_ok {z R : Rq} {p : Int} (h1 : mayP z.1 = true) (h2 : mayP z.2 = true) (hR : csinV z p = R) : Sim Tryz.prog G0 false 36 [rqD z, .int .i64 p] (.tup [rqD R, .int .i64 0]) := by
  have k1 := may_ht h1
  have k2 := may_ht h2
  have c1 := CxS.of (k1.mono (show 1010 ≤ 10000 by decide))
  have c2 := CxS.of (k2.mono (show 1010 ≤ 10000 by decide))
  have s1 := emay_iss c1 (k1.mono (by decide)) h1
  have s2 := emay_iss c2 (k2.mono (by decide)) h2
  have r1 := rof_small h1
  have s3 := both_is (p := p) c1.r (k1.mono (by decide)) r1.1 r1.2 rfl
  have s4 := hyper_ok (p := p) h2 rfl
  have hb := bothV_hc p (rof_ord z.1) (mayP_rof h1)
  have hh := hypV_hc p (mayP_rof h2)
  unfold csinV at hR
  generalize bothV (rof z.1) p = V at *
  generalize hypV (rof z.2) p = W at *
  have m1 := rlMul_is (r := R.1) (CxR.of (hb.2.mono (by decide))) (CxR.of (hh.1.mono (by decide))) (hb.2.mono (by decide)) (hh.1.mono (by decide)) (congrArg Prod.fst hR)
  have m2 := rlMul_is (r := R.2) (CxR.of (hb.1.mono (by decide))) (CxR.of (hh.2.mono (by decide))) (hb.1.mono (by decide)) (hh.2.mono (by decide)) (congrArg Prod.snd hR)
  clear hR hb hh r1 c1 c2 k1 k2 h1 h2
  obtain ⟨⟨_, _⟩, ⟨_, _⟩⟩ := z
  obtain ⟨⟨_, _⟩, ⟨_, _⟩⟩ := V
  obtain ⟨⟨_, _⟩, ⟨_, _⟩⟩ := W
  obtain ⟨⟨_, _⟩, ⟨_, _⟩⟩ := R
  refine sim_mk tab_ok Tryz.func36 rfl (by kernel_rfl) rfl ⟨Nat.le_of_ble_eq_true rfl, Nat.le_of_ble_eq_true rfl⟩ ?_
  repeat' ((conv => whnf); first
    | with_reducible refine CallX.data ?_
    | refine CallE.mk _ _ (s1) ?_
    | refine CallE.mk _ _ (s2) ?_
    | refine CallE.mk _ _ (s3) ?_
    | refine CallE.mk _ _ (s4) ?_
    | refine CallE.mk _ _ (m1) ?_
    | refine CallE.mk _ _ (m2) ?_
    | refine RegE.early (Cd.mk (show regOk _ _ _ _ = true by kernel_rfl) ?_)
    | refine Cd.mk rfl ?_
    | refine Br.f ?_
    | refine NthE.mk _ rfl ?_
    | (refine TkE.fL ?_; (conv => whnf); fail_if_success (show forceL _ _))
    | refine Res.mk ?_
    | ((with_reducible refine EqE.idS ?_); (refine EqE.fP ?_; (conv => whnf); fail_if_success (show forceL _ _)))
    | refine Cd.mk (Nat.le_of_ble_eq_true rfl) ?_)
  rfl
theorem eCCos_ok {z R : Rq} {p : Int} (h1 : mayP z.1 = true) (h2 : mayP z.2 = true) (hR : ccosV z p = R) : Sim Tryz.prog G0 false 37 [rqD z, .int .i64 p] (.tup [rqD R, .int .i64 0]) := by
  have k1 := may_ht h1
  have k2 := may_ht h2
  have c1 := CxS.of (k1.mono (show 1010 ≤ 10000 by decide))
  have c2 := CxS.of (k2.mono (show 1010 ≤ 10000 by decide))
  have s1 := emay_iss c1 (k1.mono (by decide)) h1
  have s2 := emay_iss c2 (k2.mono (by decide)) h2
  have r1 := rof_small h1
  have s3 := both_is (p := p) c1.r (k1.mono (by decide)) r1.1 r1.2 rfl
  have s4 := hyper_ok (p := p) h2 rfl
  have hb := bothV_hc p (rof_ord z.1) (mayP_rof h1)
  have hh := hypV_hc p (mayP_rof h2)
  unfold ccosV at hR
  generalize bothV (rof z.1) p = V at *
  generalize hypV (rof z.2) p = W at *
  have m1 := rlMul_is (r := R.1) (CxR.of (hb.1.mono (by decide))) (CxR.of (hh.1.mono (by decide))) (hb.1.mono (by decide)) (hh.1.mono (by decide)) (congrArg Prod.fst hR)
  have m2 := rlMul_is (CxR.of (hb.2.mono (by decide))) (CxR.of (hh.2.mono (by decide))) (hb.2.mono (by decide)) (hh.2.mono (by decide)) rfl
  have hM : Hc 90000 (imul V.2 W.2) := hb.2.imul hh.2 (by decide)
  have m3 := rlNeg_is (r := R.2) (CxR.of (hM.mono (by decide))) (hM.mono (by decide)) (by rw [rof_self (imul_ord _ _)]; exact congrArg Prod.snd hR)
  clear hR hb hh r1 c1 c2 k1 k2 h1 h2 hM
  generalize imul V.2 W.2 = M at *
  obtain ⟨⟨_, _⟩, ⟨_, _⟩⟩ := z
  obtain ⟨⟨_, _⟩, ⟨_, _⟩⟩ := V
  obtain ⟨⟨_, _⟩, ⟨_, _⟩⟩ := W
  obtain ⟨⟨_, _⟩, ⟨_, _⟩⟩ := R
  obtain ⟨_, _⟩ := M
  refine sim_mk tab_ok Tryz.func37 rfl (by kernel_rfl) rfl ⟨Nat.le_of_ble_eq_true rfl, Nat.le_of_ble_eq_true rfl⟩ ?_
  repeat' ((conv => whnf); first
    | with_reducible refine CallX.data ?_
    | refine CallE.mk _ _ (s1) ?_
    | refine CallE.mk _ _ (s2) ?_
    | refine CallE.mk _ _ (s3) ?_
    | refine CallE.mk _ _ (s4) ?_
    | refine CallE.mk _ _ (m1) ?_
    | refine CallE.mk _ _ (m2) ?_
    | refine CallE.mk _ _ (m3) ?_
    | refine RegE.early (Cd.mk (show regOk _ _ _ _ = true by kernel_rfl) ?_)
    | refine Cd.mk rfl ?_
    | refine Br.f ?_
    | refine NthE.mk _ rfl ?_
    | (refine TkE.fL ?_; (conv => whnf); fail_if_success (show forceL _ _))
    | refine Res.mk ?_
    | ((with_reducible refine EqE.idS ?_); (refine EqE.fP ?_; (conv => whnf); fail_if_success (show forceL _ _)))
    | refine Cd.mk (Nat.le_of_ble_eq_true rfl) ?_)
  rfl
end Go.Ev.Ar

namespace Go.Ev.Ar
open Go Go.Ev Go.Proofs

/-- Bounds of an interval above nought; its width in units of ep. -/
structure Wz (wp : Int) (z : Cq) (a b w : Rat) : Prop where
  lo : a ≤ z.1.toRat
  hi : z.2.toRat ≤ b
  ord : z.1.toRat ≤ z.2.toRat
  wd : z.2.toRat - z.1.toRat ≤ w * ep wp
theorem Wz.step {wp : Int} {z : Cq} {a b w : Rat} (h : Wz wp z a b w) (he : ep wp ≤ 1 / 1000000000000000) (ha : 0 < a) (hw : 0 ≤ w) (a' b' w' : Rat) (h1 : a' ≤ a * a * (1 - 1 / 1000000000000000)) (h2 : b * b * (1 + 1 / 1000000000000000) ≤ b') (h3 : 2 * b * w + 2 * (b * b) ≤ w') :
    Wz wp (iround (ipow z 2) wp) a' b' w' := by
  have e0 := ep_pos wp
  obtain ⟨l1, l2, l3, l4⟩ := h
  have s := sq_step (wp := wp) ha l1 l2 l3
  have i := iround_in (z.1 * z.1, z.2 * z.2) wp
  have r1 := (rto_err (z.1 * z.1) wp).1
  have r2 := (rto_err (z.2 * z.2) wp).2
  have u1 : (iround (z.1 * z.1, z.2 * z.2) wp).1 = rto (z.1 * z.1) wp 0 := rfl
  have u2 : (iround (z.1 * z.1, z.2 * z.2) wp).2 = rto (z.2 * z.2) wp 1 := rfl
  rw [q_mul, qab_self (sq_nn _)] at r1 r2
  have q1 := qmul_le (show 0 ≤ z.1.toRat by grind) (show z.1.toRat ≤ b by grind) (show 0 ≤ z.1.toRat by grind) (show z.1.toRat ≤ b by grind)
  have q2 := qmul_le (show 0 ≤ z.2.toRat by grind) l2 (show 0 ≤ z.2.toRat by grind) l2
  have m1 := Rat.mul_le_mul_of_nonneg_right q1 (Rat.le_of_lt e0)
  have m2 := Rat.mul_le_mul_of_nonneg_right q2 (Rat.le_of_lt e0)
  have m3 := qmul_le (show 0 ≤ z.2.toRat - z.1.toRat by grind) l4 (show 0 ≤ z.2.toRat + z.1.toRat by grind) (show z.2.toRat + z.1.toRat ≤ 2 * b by grind)
  have m4 := Rat.mul_le_mul_of_nonneg_right h3 (Rat.le_of_lt e0)
  have a2 : 0 ≤ a * a := sq_nn a
  have b2 : 0 ≤ b * b := sq_nn b
  have m5 := Rat.mul_le_mul_of_nonneg_left he a2
  have m6 := Rat.mul_le_mul_of_nonneg_left he b2
  obtain ⟨s1, s2, s3⟩ := s
  refine ⟨by grind, by grind, s3, ?_⟩
  rw [ipow_pos2 (by grind) l3, u1, u2]
  grind
/-- The first, ahead of all squarings. -/
theorem trn0_wz {x : Dyadic} {wp : Int} (h1 : 80 ≤ wp) (h2 : wp ≤ 300) (h : qab x.toRat ≤ 1 / 8192) (he : ep wp ≤ 1 / 1000000000000000) : Wz wp (trn0 (yR x false wp) false wp).1 (4094 / 4095) (4096 / 4095) 1 := by
  have h' : qab x.toRat ≤ 1 / 1024 := by grind
  have b := trn0_bx false (show 1 ≤ wp by omega) (show wp ≤ 4000 by omega) h'
  have q := (trn0_has (x := x) false (show 1 ≤ wp by omega) (show wp ≤ 4000 by omega) h' (trnT wp) (Nat.le_refl _)).1
  have g := er_ge (d := 1 / 8192) h (by grind) (trnT wp)
  have e0 := ep_pos wp
  have w := b.1.wd
  obtain ⟨q1, q2⟩ := q
  have ee : (en (trnT wp) (if false = true then iy x.toRat else Cr.ofQ x.toRat)).re = er (trnT wp) x.toRat := rfl
  rw [ee] at q1 q2
  exact ⟨by grind, by grind, b.1.ord, by grind⟩
theorem ep_tiny {wp : Int} (h1 : 80 ≤ wp) (h2 : wp ≤ 4000) : ep wp ≤ 1 / 1000000000000000 := by
  have e := ep_half (m := 60) (show ((60 : Nat) : Int) + 1 ≤ wp by omega) h2
  have p : pq (1 / 2) 60 ≤ 1 / 1000000000000000 := by decide +kernel
  exact Rat.le_trans e p
/-- All sixteen squarings of what is close to 1. -/
theorem sqn_wz {z : Rq} {wp : Int} (hz : z.2 = (0, 0)) (he : ep wp ≤ 1 / 1000000000000000) (h : Wz wp z.1 (4094 / 4095) (4096 / 4095) 1) : Wz wp (sqn wp 16 z).1 (5593873 / 50000000000000) (890348600095278538467 / 100000000000000) 2304835085549 := by
  have st := fun k => (sqn_real (wp := wp) hz k).2
  have w0 : Wz wp (sqn wp 0 z).1 (4094 / 4095) (4096 / 4095) 1 := h
  have w1 := w0.step he (by decide +kernel) (by decide +kernel) (19990233182907 / 20000000000000) (100048846012217 / 100000000000000) 5 (by decide +kernel) (by decide +kernel) (by decide +kernel)
  rw [← st 0] at w1
  have w2 := w1.step he (by decide +kernel) (by decide +kernel) (24975588919187 / 25000000000000) (25024428970941 / 25000000000000) 13 (by decide +kernel) (by decide +kernel) (by decide +kernel)
  rw [← st 1] at w2
  have w3 := w2.step he (by decide +kernel) (by decide +kernel) (49902403348817 / 50000000000000) (25048881812867 / 25000000000000) 29 (by decide +kernel) (by decide +kernel) (by decide +kernel)
  rw [← st 2] at w3
  have w4 := w3.step he (by decide +kernel) (by decide +kernel) (622562464997 / 625000000000) (100391436811997 / 100000000000000) 61 (by decide +kernel) (by decide +kernel) (by decide +kernel)
  rw [← st 3] at w4
  have w5 := w4.step he (by decide +kernel) (by decide +kernel) (99221509842723 / 100000000000000) (25196101462943 / 25000000000000) 125 (by decide +kernel) (by decide +kernel) (by decide +kernel)
  rw [← st 4] at w5
  have w6 := w5.step he (by decide +kernel) (by decide +kernel) (19689816030939 / 20000000000000) (25393741157237 / 25000000000000) 254 (by decide +kernel) (by decide +kernel) (by decide +kernel)
  rw [← st 5] at w6
  have w7 := w6.step he (by decide +kernel) (by decide +kernel) (19384442766611 / 20000000000000) (103174734393721 / 100000000000000) 519 (by decide +kernel) (by decide +kernel) (by decide +kernel)
  rw [← st 6] at w7
  have w8 := w7.step he (by decide +kernel) (by decide +kernel) (23484788835751 / 25000000000000) (106450258172149 / 100000000000000) 1074 (by decide +kernel) (by decide +kernel) (by decide +kernel)
  rw [← st 7] at w8
  have w9 := w8.step he (by decide +kernel) (by decide +kernel) (8824564906557 / 10000000000000) (28329143662293 / 25000000000000) 2289 (by decide +kernel) (by decide +kernel) (by decide +kernel)
  rw [← st 8] at w9
  have w10 := w9.step he (by decide +kernel) (by decide +kernel) (77872945790037 / 100000000000000) (64203230451107 / 50000000000000) 5191 (by decide +kernel) (by decide +kernel) (by decide +kernel)
  rw [← st 9] at w10
  have w11 := w10.step he (by decide +kernel) (by decide +kernel) (3032097843009 / 5000000000000) (164882192014319 / 100000000000000) 13335 (by decide +kernel) (by decide +kernel) (by decide +kernel)
  rw [← st 10] at w11
  have w12 := w11.step he (by decide +kernel) (by decide +kernel) (36774469318319 / 100000000000000) (67965343108617 / 25000000000000) 43980 (by decide +kernel) (by decide +kernel) (by decide +kernel)
  rw [← st 11] at w12
  have w13 := w12.step he (by decide +kernel) (by decide +kernel) (13523615936439 / 100000000000000) (369543029109763 / 50000000000000) 239145 (by decide +kernel) (by decide +kernel) (by decide +kernel)
  rw [← st 12] at w13
  have w14 := w13.step he (by decide +kernel) (by decide +kernel) (1828881879963 / 100000000000000) (1365620503636193 / 25000000000000) 3535084 (by decide +kernel) (by decide +kernel) (by decide +kernel)
  rw [← st 13] at w14
  have w15 := w14.step he (by decide +kernel) (by decide +kernel) (8362022327 / 25000000000000) (149193548796125703 / 50000000000000) 386212624 (by decide +kernel) (by decide +kernel) (by decide +kernel)
  rw [← st 14] at w15
  have w16 := w15.step he (by decide +kernel) (by decide +kernel) (5593873 / 50000000000000) (890348600095278538467 / 100000000000000) 2304835085549 (by decide +kernel) (by decide +kernel) (by decide +kernel)
  rw [← st 15] at w16
  exact w16
theorem trR_wz {q : Dyadic} {P : Int} (h1 : 80 ≤ P) (h2 : P ≤ 300) (hs : smallP q = true) (h8 : qab q.toRat ≤ 8) : Wz P (trR q P).1 (5593873 / 50000000000000) (890348600095278538467 / 100000000000000) 2304835085549 := by
  obtain ⟨f1, f2, f3⟩ := small_facts hs
  have he := ep_tiny h1 (show P ≤ 4000 by omega)
  have c16 : (dof 1 (-16)).toRat = 1 / 65536 := by
    rw [show (-16 : Int) = -((16 : Nat) : Int) by decide, dof_neg_rat]; simp only [pq]; grind
  have h : qab (q * dof 1 (-16)).toRat ≤ 1 / 8192 := by
    rw [q_mul, qab_mul, c16, qab_self (show (0 : Rat) ≤ 1 / 65536 by grind)]; grind
  have z := trn0_hz (im := false) (show 40 ≤ P by omega) h2 f1 f2 (by grind)
  have k := sqn_wz (z := trn0 (yR (q * dof 1 (-16)) false P) false P) (z.2.2.2.2 rfl) he (trn0_wz h1 h2 h he)
  unfold trR trn
  exact k
/-- Exponents lie above nought. -/
theorem trR_pos {q : Dyadic} {P : Int} (h1 : 80 ≤ P) (h2 : P ≤ 300) (hs : smallP q = true) : 0 < (trR q P).1.1.toRat := by
  obtain ⟨f1, f2, f3⟩ := small_facts hs
  have he := ep_many h1 (show P ≤ 4000 by omega)
  obtain ⟨a1, a2, a3, a4, a5⟩ := trn0_hz (im := false) (show 40 ≤ P by omega) h2 f1 f2 (by grind)
  have b := trn0_bx false (show 1 ≤ P by omega) (show P ≤ 4000 by omega) f1
  have s := (sqn_size (wp := P) (a5 rfl) a2 a3 b.1.ord he.2 13).1
  have t := tv_pos 13
  have u : (trR q P).1.1 = (sqn P (13 + 3) (trn0 (yR (q * dof 1 (-16)) false P) false P)).1.1 := by unfold trR trn; rfl
  rw [u]; grind
theorem ep_le_half {p : Int} (h1 : 2 ≤ p) : ep p ≤ 1 / 2 := by
  have : (dof 1 (1 - min (max p 1) 4000)).toRat ≤ (dof 1 (-1)).toRat := q_le.2 (dof1_le.2 (by omega))
  rw [half_rat] at this
  exact this
theorem rto_pos {q : Dyadic} {p : Int} (h1 : 2 ≤ p) (h : 0 < q.toRat) : 0 < (rto q p 0).toRat := by
  have r := (rto_err q p).1
  have e := ep_le_half h1
  rw [qab_self (Rat.le_of_lt h)] at r
  have := Rat.mul_le_mul_of_nonneg_left e (Rat.le_of_lt h)
  grind
theorem expV_pos {z : Cq} (p : Int) (h : smallP z.1 = true) : 0 < (expV z p).1.toRat :=
  rto_pos (by omega) (trR_pos (P := min (max p 2) 200 + 80) (by omega) (by omega) h)
end Go.Ev.Ar
