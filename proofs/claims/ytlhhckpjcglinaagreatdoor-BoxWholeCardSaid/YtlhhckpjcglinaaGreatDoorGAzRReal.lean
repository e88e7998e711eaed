/- Contracts of the given functions, on data. Conditions stand in each theorem. -/
import Derived.Test.YtlhhckpjcglinaaGreatDoorGAzReal
import Derived.Test.YtlhhckpjcglinaaGreatDoorGAzWind
import Derived.Test.YtlhhckpjcglinaaGreatDoorGAzRealB
set_option linter.unusedSimpArgs false
set_option linter.unusedVariables false
namespace Go.Ev.Ar
open Go Go.Ev Go.Proofs

theorem rMin_is {p q r : Dyadic} (hp : Ht 48000 p) (hq : Ht 48000 q) (h : mn p q = r) : Sim Tryz.prog G0 false 81 [dyD p, dyD q] (dyD r) := by
  subst h
  have hd := hp.sub hq (c := 50000) (by decide)
  refine sim_mk tab_ok Tryz.func81 rfl (by kernel_rfl) rfl ⟨Nat.le_of_ble_eq_true rfl, Nat.le_of_ble_eq_true rfl⟩ ?_
  repeat' ((conv => whnf); first
    | with_reducible refine CallX.data ?_
    | refine CallE.mk _ _ (rdcmp_sim (p := p) (q := q) (hp.mono (by decide)) (hq.mono (by decide)) hd) ?_
    | refine RegE.early (Cd.mk (show regOk _ _ _ _ = true by kernel_rfl) ?_)
    | refine Cd.mk rfl ?_
    | with_reducible refine Br.dec (fun _ => ?_) (fun _ => ?_)
    | (refine TkE.fL ?_; (conv => whnf); fail_if_success (show forceL _ _))
    | refine Res.mk ?_
    | ((with_reducible refine EqE.idS ?_); (refine EqE.fP ?_; (conv => whnf); fail_if_success (show forceL _ _)))
    | refine Cd.mk (Nat.le_of_ble_eq_true rfl) ?_)
  · rename_i h
    unfold mn; rw [if_pos (dsg_sub_le.1 h)]; rfl
  · rename_i h
    unfold mn; rw [if_neg (fun g => h (dsg_sub_le.2 g))]; rfl
theorem rMax_is {p q r : Dyadic} (hp : Ht 48000 p) (hq : Ht 48000 q) (h : mx p q = r) : Sim Tryz.prog G0 false 82 [dyD p, dyD q] (dyD r) := by
  subst h
  have hd := hp.sub hq (c := 50000) (by decide)
  refine sim_mk tab_ok Tryz.func82 rfl (by kernel_rfl) rfl ⟨Nat.le_of_ble_eq_true rfl, Nat.le_of_ble_eq_true rfl⟩ ?_
  repeat' ((conv => whnf); first
    | with_reducible refine CallX.data ?_
    | refine CallE.mk _ _ (rdcmp_sim (p := p) (q := q) (hp.mono (by decide)) (hq.mono (by decide)) hd) ?_
    | refine RegE.early (Cd.mk (show regOk _ _ _ _ = true by kernel_rfl) ?_)
    | refine Cd.mk rfl ?_
    | with_reducible refine Br.dec (fun _ => ?_) (fun _ => ?_)
    | (refine TkE.fL ?_; (conv => whnf); fail_if_success (show forceL _ _))
    | refine Res.mk ?_
    | ((with_reducible refine EqE.idS ?_); (refine EqE.fP ?_; (conv => whnf); fail_if_success (show forceL _ _)))
    | refine Cd.mk (Nat.le_of_ble_eq_true rfl) ?_)
  · rename_i h
    unfold mx; rw [if_pos (dsg_sub_ge.1 h)]; rfl
  · rename_i h
    unfold mx; rw [if_neg (fun g => h (dsg_sub_ge.2 g))]; rfl
theorem rReal_is {x : D} {z r : Cq} (hx : CxF x z) (hz : Hc 48000 z) (h : rof z = r) : Sim Tryz.prog G0 false 45 [x] (cxD r) := by
  subst h
  have hd := hz.1.sub hz.2 (c := 50000) (by decide)
  obtain ⟨hp, hq⟩ := hx
  rename_i p q
  have hp' := hz.1.mono (show 48000 ≤ 49000 by decide)
  have hq' := hz.2.mono (show 48000 ≤ 49000 by decide)
  dsimp only at hp' hq'
  refine sim_mk tab_ok Tryz.func45 rfl (by kernel_rfl) rfl ⟨Nat.le_of_ble_eq_true rfl, Nat.le_of_ble_eq_true rfl⟩ ?_
  repeat' ((conv => whnf); first
    | with_reducible refine CallX.data ?_
    | refine CallE.mk _ _ (rExact_sim hp) ?_
    | refine CallE.mk _ _ (rExact_sim hq) ?_
    | refine CallE.mk _ _ (rdcmp_sim (p := p) (q := q) hp' hq' hd) ?_
    | refine RegE.early (Cd.mk (show regOk _ _ _ _ = true by kernel_rfl) ?_)
    | refine Cd.mk rfl ?_
    | with_reducible refine Br.dec (fun _ => ?_) (fun _ => ?_)
    | (refine TkE.fL ?_; (conv => whnf); fail_if_success (show forceL _ _))
    | refine Res.mk ?_
    | ((with_reducible refine EqE.idS ?_); (refine EqE.fP ?_; (conv => whnf); fail_if_success (show forceL _ _)))
    | refine Cd.mk (Nat.le_of_ble_eq_true rfl) ?_)
  · rename_i h
    unfold rof mn mx; dsimp only
    have h1 := dsg_gt.1 h
    rw [if_neg (fun g => by rw [← dsg_sub_le] at g; omega), if_pos (by grind)]; rfl
  · rename_i h
    have h1 : p ≤ q := dsg_sub_le.1 (by omega)
    rw [show rof (p, q) = (p, q) from rof_self h1]; rfl
theorem rEq_is {p q : Dyadic} {t : Bool} (hp : Ht 50000 p) (hq : Ht 50000 q) (h : decide (p = q) = t) : Sim Tryz.prog G0 true 100 [dyD p, dyD q] (.bool t) := h ▸ requal_sim hp hq
theorem rEqReal_is {z w : Cq} {t : Bool} (hz : Hc 50000 z) (hw : Hc 50000 w) (h : decide (z = w) = t) : Sim Tryz.prog G0 true 54 [cxD z, cxD w] (.bool t) := by
  subst h
  obtain ⟨p, q⟩ := z
  obtain ⟨p', q'⟩ := w
  refine sim_mk tab_ok Tryz.func54 rfl (by kernel_rfl) rfl ⟨Nat.le_of_ble_eq_true rfl, Nat.le_of_ble_eq_true rfl⟩ ?_
  repeat' ((conv => whnf); first
    | with_reducible refine CallX.data ?_
    | refine CallE.mk _ _ (rEq_is (p := p) (q := p') hz.1 hw.1 rfl) ?_
    | refine CallE.mk _ _ (rEq_is (p := q) (q := q') hz.2 hw.2 rfl) ?_
    | refine RegE.early (Cd.mk (show regOk _ _ _ _ = true by kernel_rfl) ?_)
    | refine Cd.mk rfl ?_
    | refine Br.t ?_
    | refine Br.f ?_
    | with_reducible refine Br.dec (fun _ => ?_) (fun _ => ?_)
    | (refine TkE.fL ?_; (conv => whnf); fail_if_success (show forceL _ _))
    | refine Res.mk ?_)
  · rename_i h
    refine congrArg D.bool (decide_eq_decide.2 ?_)
    rw [Prod.mk.injEq]; exact ⟨fun g => g.2, fun g => ⟨h, g⟩⟩
  · rename_i h
    refine congrArg D.bool (decide_eq_false fun g => h ?_)
    rw [Prod.mk.injEq] at g; exact g.1
theorem rHas_is {z : Cq} {d : Dyadic} {t : Bool} (hz : Hc 48000 z) (hd : Ht 48000 d) (h : decide (ihas z d) = t) : Sim Tryz.prog G0 true 51 [cxD z, dyD d] (.bool t) := by
  subst h
  obtain ⟨p, q⟩ := z
  have h1 := hz.1.sub hd (c := 50000) (by decide)
  have h2 := hd.sub hz.2 (c := 50000) (by decide)
  refine sim_mk tab_ok Tryz.func51 rfl (by kernel_rfl) rfl ⟨Nat.le_of_ble_eq_true rfl, Nat.le_of_ble_eq_true rfl⟩ ?_
  repeat' ((conv => whnf); first
    | with_reducible refine CallX.data ?_
    | refine CallE.mk _ _ (rdcmp_sim (p := p) (q := d) (hz.1.mono (by decide)) (hd.mono (by decide)) h1) ?_
    | refine CallE.mk _ _ (rdcmp_sim (p := d) (q := q) (hd.mono (by decide)) (hz.2.mono (by decide)) h2) ?_
    | refine RegE.early (Cd.mk (show regOk _ _ _ _ = true by kernel_rfl) ?_)
    | refine Cd.mk rfl ?_
    | refine Br.t ?_
    | refine Br.f ?_
    | with_reducible refine Br.dec (fun _ => ?_) (fun _ => ?_)
    | (refine TkE.fL ?_; (conv => whnf); fail_if_success (show forceL _ _))
    | refine Res.mk ?_)
  · rename_i h
    refine congrArg D.bool (decide_eq_decide.2 ?_)
    rw [dsg_sub_le] at h ⊢
    exact ⟨fun g => g.2, fun g => ⟨h, g⟩⟩
  · rename_i h
    rw [dsg_sub_le] at h
    exact congrArg D.bool (decide_eq_false fun g => h g.1)
theorem rIn_is {z w : Cq} {t : Bool} (hz : Hc 48000 z) (hw : Hc 48000 w) (h : decide (iin z w) = t) : Sim Tryz.prog G0 true 53 [cxD z, cxD w] (.bool t) := by
  subst h
  obtain ⟨p, q⟩ := z
  obtain ⟨p', q'⟩ := w
  have h1 := hw.1.sub hz.1 (c := 50000) (by decide)
  have h2 := hz.2.sub hw.2 (c := 50000) (by decide)
  refine sim_mk tab_ok Tryz.func53 rfl (by kernel_rfl) rfl ⟨Nat.le_of_ble_eq_true rfl, Nat.le_of_ble_eq_true rfl⟩ ?_
  repeat' ((conv => whnf); first
    | with_reducible refine CallX.data ?_
    | refine CallE.mk _ _ (rdcmp_sim (p := p') (q := p) (hw.1.mono (by decide)) (hz.1.mono (by decide)) h1) ?_
    | refine CallE.mk _ _ (rdcmp_sim (p := q) (q := q') (hz.2.mono (by decide)) (hw.2.mono (by decide)) h2) ?_
    | refine RegE.early (Cd.mk (show regOk _ _ _ _ = true by kernel_rfl) ?_)
    | refine Cd.mk rfl ?_
    | refine Br.t ?_
    | refine Br.f ?_
    | with_reducible refine Br.dec (fun _ => ?_) (fun _ => ?_)
    | (refine TkE.fL ?_; (conv => whnf); fail_if_success (show forceL _ _))
    | refine Res.mk ?_)
  · rename_i h
    refine congrArg D.bool (decide_eq_decide.2 ?_)
    rw [dsg_sub_le] at h ⊢
    exact ⟨fun g => g.2, fun g => ⟨h, g⟩⟩
  · rename_i h
    rw [dsg_sub_le] at h
    exact congrArg D.bool (decide_eq_false fun g => h g.1)
theorem rAddReal_is {z w r : Cq} (hz : Hc 48000 z) (hw : Hc 48000 w) (h : iadd z w = r) : Sim Tryz.prog G0 false 56 [cxD z, cxD w] (cxD r) := by
  subst h
  obtain ⟨p, q⟩ := z
  obtain ⟨p', q'⟩ := w
  refine sim_mk tab_ok Tryz.func56 rfl (by kernel_rfl) rfl ⟨Nat.le_of_ble_eq_true rfl, Nat.le_of_ble_eq_true rfl⟩ ?_
  repeat' ((conv => whnf); first
    | refine CallE.mk _ _ (rdadd_sim (p := p) (q := p') (hz.1.mono (by decide)) (hw.1.mono (by decide))) ?_
    | refine CallE.mk _ _ (rdadd_sim (p := q) (q := q') (hz.2.mono (by decide)) (hw.2.mono (by decide))) ?_
    | refine RegE.early (Cd.mk (show regOk _ _ _ _ = true by kernel_rfl) ?_)
    | refine Cd.mk rfl ?_
    | (refine TkE.fL ?_; (conv => whnf); fail_if_success (show forceL _ _))
    | refine Res.mk ?_
    | ((with_reducible refine EqE.idS ?_); (refine EqE.fP ?_; (conv => whnf); fail_if_success (show forceL _ _)))
    | refine Cd.mk (Nat.le_of_ble_eq_true rfl) ?_)
  rfl
theorem rNegReal_is {z r : Cq} (hz : Hc 50000 z) (h : ineg z = r) : Sim Tryz.prog G0 false 62 [cxD z] (cxD r) := by
  subst h
  obtain ⟨p, q⟩ := z
  refine sim_mk tab_ok Tryz.func62 rfl (by kernel_rfl) rfl ⟨Nat.le_of_ble_eq_true rfl, Nat.le_of_ble_eq_true rfl⟩ ?_
  repeat' ((conv => whnf); first
    | refine CallE.mk _ _ (rdneg_sim (p := p) hz.1) ?_
    | refine CallE.mk _ _ (rdneg_sim (p := q) hz.2) ?_
    | refine RegE.early (Cd.mk (show regOk _ _ _ _ = true by kernel_rfl) ?_)
    | refine Cd.mk rfl ?_
    | (refine TkE.fL ?_; (conv => whnf); fail_if_success (show forceL _ _))
    | refine Res.mk ?_
    | ((with_reducible refine EqE.idS ?_); (refine EqE.fP ?_; (conv => whnf); fail_if_success (show forceL _ _)))
    | refine Cd.mk (Nat.le_of_ble_eq_true rfl) ?_)
  rfl
theorem rSubReal_is {z w r : Cq} (hz : Hc 48000 z) (hw : Hc 48000 w) (h : isub z w = r) : Sim Tryz.prog G0 false 58 [cxD z, cxD w] (cxD r) := by
  subst h
  have s := rNegReal_is (hw.mono (show 48000 ≤ 50000 by decide)) rfl
  have hn := hw.ineg
  unfold isub
  generalize ineg w = n at *
  have a := rAddReal_is hz hn rfl
  generalize iadd z n = r at *
  obtain ⟨p, q⟩ := z
  obtain ⟨p', q'⟩ := w
  obtain ⟨p'', q''⟩ := n
  refine sim_mk tab_ok Tryz.func58 rfl (by kernel_rfl) rfl ⟨Nat.le_of_ble_eq_true rfl, Nat.le_of_ble_eq_true rfl⟩ ?_
  repeat' ((conv => whnf); first
    | refine CallE.mk _ _ (s) ?_
    | refine CallE.mk _ _ (a) ?_
    | refine RegE.early (Cd.mk (show regOk _ _ _ _ = true by kernel_rfl) ?_)
    | refine Cd.mk rfl ?_
    | (refine TkE.fL ?_; (conv => whnf); fail_if_success (show forceL _ _))
    | refine Res.mk ?_
    | ((with_reducible refine EqE.idS ?_); (refine EqE.fP ?_; (conv => whnf); fail_if_success (show forceL _ _)))
    | refine Cd.mk (Nat.le_of_ble_eq_true rfl) ?_)
  rfl
theorem rMulReal_is {z w r : Cq} (hz : Hc 20000 z) (hw : Hc 20000 w) (h : imul z w = r) : Sim Tryz.prog G0 false 60 [cxD z, cxD w] (cxD r) := by
  subst h
  obtain ⟨p, q⟩ := z
  obtain ⟨p', q'⟩ := w
  have m1 : Ht 40000 (p * p') := hz.1.mul hw.1 (by decide)
  have m2 : Ht 40000 (p * q') := hz.1.mul hw.2 (by decide)
  have m3 : Ht 40000 (q * p') := hz.2.mul hw.1 (by decide)
  have m4 : Ht 40000 (q * q') := hz.2.mul hw.2 (by decide)
  have z1 := hz.1.mono (show 20000 ≤ 25000 by decide)
  have z2 := hz.2.mono (show 20000 ≤ 25000 by decide)
  have w1 := hw.1.mono (show 20000 ≤ 25000 by decide)
  have w2 := hw.2.mono (show 20000 ≤ 25000 by decide)
  unfold imul
  dsimp only at z1 z2 w1 w2 ⊢
  obtain ⟨A, hA⟩ : ∃ A, mn (p * p') (p * q') = A := ⟨_, rfl⟩
  obtain ⟨B, hB⟩ : ∃ A, mn (q * p') (q * q') = A := ⟨_, rfl⟩
  obtain ⟨C, hC⟩ : ∃ A, mx (p * p') (p * q') = A := ⟨_, rfl⟩
  obtain ⟨E, hE⟩ : ∃ A, mx (q * p') (q * q') = A := ⟨_, rfl⟩
  have nA : Ht 40000 A := hA ▸ m1.mn m2
  have nB : Ht 40000 B := hB ▸ m3.mn m4
  have nC : Ht 40000 C := hC ▸ m1.mx m2
  have nE : Ht 40000 E := hE ▸ m3.mx m4
  rw [hA, hB, hC, hE]
  refine sim_mk tab_ok Tryz.func60 rfl (by kernel_rfl) rfl ⟨Nat.le_of_ble_eq_true rfl, Nat.le_of_ble_eq_true rfl⟩ ?_
  repeat' ((conv => whnf); first
    | refine CallE.mk _ _ (rdmul_sim (p := p) (q := p') z1 w1) ?_
    | refine CallE.mk _ _ (rdmul_sim (p := p) (q := q') z1 w2) ?_
    | refine CallE.mk _ _ (rdmul_sim (p := q) (q := p') z2 w1) ?_
    | refine CallE.mk _ _ (rdmul_sim (p := q) (q := q') z2 w2) ?_
    | refine CallE.mk _ _ (rMin_is (p := p * p') (q := p * q') (m1.mono (by decide)) (m2.mono (by decide)) hA) ?_
    | refine CallE.mk _ _ (rMin_is (p := q * p') (q := q * q') (m3.mono (by decide)) (m4.mono (by decide)) hB) ?_
    | refine CallE.mk _ _ (rMax_is (p := p * p') (q := p * q') (m1.mono (by decide)) (m2.mono (by decide)) hC) ?_
    | refine CallE.mk _ _ (rMax_is (p := q * p') (q := q * q') (m3.mono (by decide)) (m4.mono (by decide)) hE) ?_
    | refine CallE.mk _ _ (rMin_is (p := A) (q := B) (nA.mono (by decide)) (nB.mono (by decide)) rfl) ?_
    | refine CallE.mk _ _ (rMax_is (p := C) (q := E) (nC.mono (by decide)) (nE.mono (by decide)) rfl) ?_
    | refine RegE.early (Cd.mk (show regOk _ _ _ _ = true by kernel_rfl) ?_)
    | refine Cd.mk rfl ?_
    | (refine TkE.fL ?_; (conv => whnf); fail_if_success (show forceL _ _))
    | refine Res.mk ?_
    | ((with_reducible refine EqE.idS ?_); (refine EqE.fP ?_; (conv => whnf); fail_if_success (show forceL _ _)))
    | refine Cd.mk (Nat.le_of_ble_eq_true rfl) ?_)
  rfl
theorem rAbsReal_is {z r : Cq} (hz : Hc 48000 z) (h : iabs z = r) : Sim Tryz.prog G0 false 67 [cxD z] (cxD r) := by
  subst h
  obtain ⟨p, q⟩ := z
  have p1 := hz.1.mono (show 48000 ≤ 50000 by decide)
  have q1 := hz.2.mono (show 48000 ≤ 50000 by decide)
  have p2 := hz.1.abs
  have q2 := hz.2.abs
  unfold iabs
  dsimp only at p1 q1 p2 q2 ⊢
  refine sim_mk tab_ok Tryz.func67 rfl (by kernel_rfl) rfl ⟨Nat.le_of_ble_eq_true rfl, Nat.le_of_ble_eq_true rfl⟩ ?_
  repeat' ((conv => whnf); first
    | with_reducible refine CallX.data ?_
    | refine CallE.mk _ _ (rdabs_sim (p := p) p1) ?_
    | refine CallE.mk _ _ (rdabs_sim (p := q) q1) ?_
    | refine CallE.mk _ _ (rdsign_sim (p := p) p1) ?_
    | refine CallE.mk _ _ (rdsign_sim (p := q) q1) ?_
    | refine CallE.mk _ _ (rMin_is (p := dabs p) (q := dabs q) p2 q2 rfl) ?_
    | refine CallE.mk _ _ (rMax_is (p := dabs p) (q := dabs q) p2 q2 rfl) ?_
    | refine RegE.early (Cd.mk (show regOk _ _ _ _ = true by kernel_rfl) ?_)
    | refine Cd.mk rfl ?_
    | refine Br.t ?_
    | refine Br.f ?_
    | with_reducible refine Br.dec (fun _ => ?_) (fun _ => ?_)
    | (refine TkE.fL ?_; (conv => whnf); fail_if_success (show forceL _ _))
    | refine Res.mk ?_
    | ((with_reducible refine EqE.idS ?_); (refine EqE.fP ?_; (conv => whnf); fail_if_success (show forceL _ _)))
    | refine Cd.mk (Nat.le_of_ble_eq_true rfl) ?_)
  · rename_i h h2
    rw [if_pos ⟨dsg_le.1 h, dsg_ge.1 h2⟩]
    show _ = D.agg [.bool _, sl [], .int .i64 _, _, _, _]
    rw [← ofN_zero]; rfl
  · rename_i h h2
    rw [if_neg (fun g => h2 (dsg_ge.2 g.2))]; rfl
  · rename_i h
    rw [if_neg (fun g => h (dsg_le.2 g.1))]; rfl
theorem rPowReal_is {z r : Cq} {H K : Nat} (n : Int) (hz : Hc H z) (hK : clampP n ≤ K) (hb : H * K + 1 + H ≤ 48000) (h : ipow z n = r) : Sim Tryz.prog G0 false 64 [cxD z, .int .i64 n] (cxD r) := by
  subst h
  have ab := rAbsReal_is (hz.mono (show H ≤ 48000 by omega)) rfl
  have ha := hz.iabs
  have hn : (min (max n 0) 64).toNat = clampP n := rfl
  have hn2 : max 0 (min n 64) = min (max n 0) 64 := by omega
  have hc : min (max (min (max n 0) 64) 0) 64 = min (max n 0) 64 := by omega
  have ht : (min (max n 0) 64).tmod 2 = ((clampP n % 2 : Nat) : Int) := by
    rw [Int.tmod_eq_emod_of_nonneg (by omega)]; unfold clampP; omega
  unfold ipow
  generalize iabs z = a at *
  obtain ⟨p, q⟩ := z
  obtain ⟨p', q'⟩ := a
  have hK' : (min (max (min (max n 0) 64) 0) 64).toNat ≤ K := by rw [hc, hn]; exact hK
  have hb' : H * K + 1 + H ≤ 50000 := by omega
  have d1 := rdpow_simK (p := p) (min (max n 0) 64) hz.1 hK' hb'
  have d2 := rdpow_simK (p := q) (min (max n 0) 64) hz.2 hK' hb'
  have d3 := rdpow_simK (p := p') (min (max n 0) 64) ha.1 hK' hb'
  have d4 := rdpow_simK (p := q') (min (max n 0) 64) ha.2 hK' hb'
  rw [hc, hn] at d1 d2 d3 d4
  refine sim_mk tab_ok Tryz.func64 rfl (by kernel_rfl) rfl ⟨Nat.le_of_ble_eq_true rfl, Nat.le_of_ble_eq_true rfl⟩ ?_
  by_cases hp : clampP n % 2 = 0
  · rw [if_pos hp]
    rw [hp] at ht
    repeat' ((conv => whnf); first
      | with_reducible refine CallX.data ?_
      | refine CallE.mk _ _ (ab) ?_
      | refine CallE.mk _ _ (d3) ?_
      | refine CallE.mk _ _ (d4) ?_
      | refine RegE.early (Cd.mk (show regOk _ _ _ _ = true by kernel_rfl) ?_)
      | refine Cd.mk rfl ?_
      | refine Br.t ?_
      | (refine TkE.fL ?_; (conv => whnf); fail_if_success (show forceL _ _))
      | refine Res.mk ?_
      | ((with_reducible refine EqE.idM ?_); refine EqE.mk _ ht ?_)
      | ((with_reducible refine EqE.idI ?_); first | refine EqE.mk _ ((max_eq _ _).trans hn2) ?_ | refine EqE.mk _ (min_eq _ _) ?_)
      | ((with_reducible refine EqE.idS ?_); (refine EqE.fP ?_; (conv => whnf); fail_if_success (show forceL _ _)))
      | refine Cd.mk (Nat.le_of_ble_eq_true rfl) ?_
      | refine Cd.mk (by first | omega | (simp only [length_limbs, length_la]; omega)) ?_)
    rfl
  · rw [if_neg hp]
    have hp1 : clampP n % 2 = 1 := by omega
    rw [hp1] at ht
    repeat' ((conv => whnf); first
      | refine CallE.mk _ _ (d1) ?_
      | refine CallE.mk _ _ (d2) ?_
      | refine RegE.early (Cd.mk (show regOk _ _ _ _ = true by kernel_rfl) ?_)
      | refine Cd.mk rfl ?_
      | refine Br.f ?_
      | (refine TkE.fL ?_; (conv => whnf); fail_if_success (show forceL _ _))
      | refine Res.mk ?_
      | ((with_reducible refine EqE.idM ?_); refine EqE.mk _ ht ?_)
      | ((with_reducible refine EqE.idI ?_); first | refine EqE.mk _ ((max_eq _ _).trans hn2) ?_ | refine EqE.mk _ (min_eq _ _) ?_)
      | ((with_reducible refine EqE.idS ?_); (refine EqE.fP ?_; (conv => whnf); fail_if_success (show forceL _ _)))
      | refine Cd.mk (Nat.le_of_ble_eq_true rfl) ?_
      | refine Cd.mk (by first | omega | (simp only [length_limbs, length_la]; omega)) ?_)
    rfl
theorem rHull_is {z w r : Cq} (hz : Hc 48000 z) (hw : Hc 48000 w) (h : ihull z w = r) : Sim Tryz.prog G0 false 69 [cxD z, cxD w] (cxD r) := by
  subst h
  obtain ⟨p, q⟩ := z
  obtain ⟨p', q'⟩ := w
  refine sim_mk tab_ok Tryz.func69 rfl (by kernel_rfl) rfl ⟨Nat.le_of_ble_eq_true rfl, Nat.le_of_ble_eq_true rfl⟩ ?_
  repeat' ((conv => whnf); first
    | refine CallE.mk _ _ (rMin_is (p := p) (q := p') hz.1 hw.1 rfl) ?_
    | refine CallE.mk _ _ (rMax_is (p := q) (q := q') hz.2 hw.2 rfl) ?_
    | refine RegE.early (Cd.mk (show regOk _ _ _ _ = true by kernel_rfl) ?_)
    | refine Cd.mk rfl ?_
    | (refine TkE.fL ?_; (conv => whnf); fail_if_success (show forceL _ _))
    | refine Res.mk ?_
    | ((with_reducible refine EqE.idS ?_); (refine EqE.fP ?_; (conv => whnf); fail_if_success (show forceL _ _)))
    | refine Cd.mk (Nat.le_of_ble_eq_true rfl) ?_)
  rfl
theorem rMeet_is {z w r : Cq} {t : Bool} (hz : Hc 48000 z) (hw : Hc 48000 w) (h : imeet z w = (r, t)) : Sim Tryz.prog G0 false 47 [cxD z, cxD w] (.tup [cxD r, .bool t]) := by
  obtain ⟨p, q⟩ := z
  obtain ⟨p', q'⟩ := w
  have m1 := hz.1.mx hw.1
  have m2 := hz.2.mn hw.2
  have hd := m1.sub m2 (c := 50000) (by decide)
  unfold imeet at h
  dsimp only at h m1 m2 hd
  refine sim_mk tab_ok Tryz.func47 rfl (by kernel_rfl) rfl ⟨Nat.le_of_ble_eq_true rfl, Nat.le_of_ble_eq_true rfl⟩ ?_
  repeat' ((conv => whnf); first
    | with_reducible refine CallX.data ?_
    | refine CallE.mk _ _ (rMax_is (p := p) (q := p') hz.1 hw.1 rfl) ?_
    | refine CallE.mk _ _ (rMin_is (p := q) (q := q') hz.2 hw.2 rfl) ?_
    | refine CallE.mk _ _ (rdcmp_sim (p := mx p p') (q := mn q q') (m1.mono (by decide)) (m2.mono (by decide)) hd) ?_
    | refine RegE.early (Cd.mk (show regOk _ _ _ _ = true by kernel_rfl) ?_)
    | refine Cd.mk rfl ?_
    | with_reducible refine Br.dec (fun _ => ?_) (fun _ => ?_)
    | (refine TkE.fL ?_; (conv => whnf); fail_if_success (show forceL _ _))
    | refine Res.mk ?_
    | ((with_reducible refine EqE.idS ?_); (refine EqE.fP ?_; (conv => whnf); fail_if_success (show forceL _ _)))
    | refine Cd.mk (Nat.le_of_ble_eq_true rfl) ?_)
  · rename_i g
    rw [if_neg (fun k => by rw [← dsg_sub_le] at k; omega)] at h; cases h
    show _ = D.tup [D.agg [.bool _, sl [], .int .i64 _, .bool _, sl [], .int .i64 _], _]
    rw [← ofN_zero]; rfl
  · rename_i g
    rw [if_pos (dsg_sub_le.1 (by omega))] at h; cases h; rfl
end Go.Ev.Ar

namespace Go.Ev.Ar
open Go Go.Ev Go.Proofs

theorem few7_sim (b : Bool) (l : List UInt32) (e : Int) : Sim Tryz.prog G0 true 44 [.agg [.bool b, sl l, .int .i64 e]] (.bool (fewD 10 1000 l e)) := by
  refine sim_mk tab_ok Tryz.func44 rfl (by kernel_rfl) rfl ⟨Nat.le_of_ble_eq_true rfl, Nat.le_of_ble_eq_true rfl⟩ ?_
  repeat' ((conv => whnf); first
    | refine RegE.early (Cd.mk (show regOk _ _ _ _ = true by kernel_rfl) ?_)
    | refine Cd.mk rfl ?_
    | refine Br.t ?_
    | refine Br.f ?_
    | with_reducible refine Br.dec (fun _ => ?_) (fun _ => ?_)
    | refine NthE.mk _ rfl ?_
    | refine Res.mk ?_)
  · rename_i h1 h2
    show D.bool _ = D.bool _
    congr 1
    unfold fewD
    rw [decide_eq_true (show l.length ≤ 10 by omega), decide_eq_true (show -1000 ≤ e by omega)]; rfl
  · rename_i h1 h2
    show D.bool _ = D.bool _
    rw [fewD_false (by omega)]
  · rename_i h1
    show D.bool _ = D.bool _
    rw [fewD_false (by omega)]
theorem fewreal7_sim (r : RC) : Sim Tryz.prog G0 true 43 [.agg r.cells] (.bool (r.few 10 1000)) := by
  obtain ⟨b, l, e, c, k, f⟩ := r
  refine sim_mk tab_ok Tryz.func43 rfl (by kernel_rfl) rfl ⟨Nat.le_of_ble_eq_true rfl, Nat.le_of_ble_eq_true rfl⟩ ?_
  repeat' ((conv => whnf); first
    | with_reducible refine CallX.data ?_
    | refine CallE.mk _ _ (few7_sim _ _ _) ?_
    | refine RegE.early (Cd.mk (show regOk _ _ _ _ = true by kernel_rfl) ?_)
    | refine Cd.mk rfl ?_
    | refine Br.t ?_
    | refine Br.f ?_
    | refine Br.mk (fun _ => ?_) (fun _ => ?_)
    | (refine TkE.fL ?_; (conv => whnf); fail_if_success (show forceL _ _))
    | refine Res.mk ?_)
  all_goals
    rename_i h
    show D.bool (_ && _) = D.bool _
    rw [h]; rfl
theorem of7_is (m n : Int) (h1 : m.natAbs ≤ 8) (h2 : n.natAbs ≤ 8) : Sim Tryz.prog G0 false 146 [.int .i64 m, .int .i64 n] (cxD (dof m 0, dof n 0)) := by
  refine sim_mk tab_ok Tryz.func146 rfl (by kernel_rfl) rfl ⟨Nat.le_of_ble_eq_true rfl, Nat.le_of_ble_eq_true rfl⟩ ?_
  repeat' ((conv => whnf); first
    | with_reducible refine CallX.data ?_
    | refine CallE.mk _ _ (rofd_sim m (by omega) (by omega)) ?_
    | refine CallE.mk _ _ (rofd_sim n (by omega) (by omega)) ?_
    | refine RegE.early (Cd.mk (show regOk _ _ _ _ = true by kernel_rfl) ?_)
    | refine Cd.mk rfl ?_
    | (refine TkE.fL ?_; (conv => whnf); fail_if_success (show forceL _ _))
    | refine Res.mk ?_
    | ((with_reducible refine EqE.idS ?_); (refine EqE.fP ?_; (conv => whnf); fail_if_success (show forceL _ _)))
    | refine Cd.mk (Nat.le_of_ble_eq_true rfl) ?_)
  rfl
/-- A small interval. -/
def kr (m n : Int) : Cq := (dof m 0, dof n 0)
theorem hkr {m n : Int} (h : m.natAbs ≤ 8 := by decide) (h2 : n.natAbs ≤ 8 := by decide) : Hc 100 (kr m n) := hc_kz h h2
theorem xkr {m n : Int} (h : m.natAbs ≤ 8 := by decide) (h2 : n.natAbs ≤ 8 := by decide) : CxR (cxD (kr m n)) (kr m n) := kx h h2
theorem k7_i1 : Sim Tryz.prog G0 false 71 [cxD (kr (-1) 2), .int .i64 10] (.tup [cxD (0, 0), .int .i64 11]) := rlInv_is 10 xkr (Hc.mono hkr (by decide)) (by decide)
theorem k7_q : iinvE (rof (kr 2 4)) 10 = ((dof 1 (-2), dof 1 (-1)), 0) := by decide +kernel
theorem k7_i2 : Sim Tryz.prog G0 false 71 [cxD (kr 2 4), .int .i64 10] (.tup [cxD (dof 1 (-2), dof 1 (-1)), .int .i64 0]) := rlInv_is 10 xkr (Hc.mono hkr (by decide)) k7_q
theorem k7_m1 : Sim Tryz.prog G0 false 46 [cxD (kr (-1) 2), cxD (kr 1 5)] (.tup [cxD (kr 1 2), .bool true]) := rlMeet_is xkr xkr (Hc.mono hkr (by decide)) (Hc.mono hkr (by decide)) (by decide)
theorem k7_m2 : Sim Tryz.prog G0 false 46 [cxD (kr (-1) 2), cxD (kr 3 5)] (.tup [cxD (0, 0), .bool false]) := rlMeet_is xkr xkr (Hc.mono hkr (by decide)) (Hc.mono hkr (by decide)) (by decide)
theorem k7_is1 : Sim Tryz.prog G0 true 48 [cxD (kr (-1) 2)] (.bool true) := rlIs_is xkr (Hc.mono hkr (by decide)) (by decide)
theorem k7_is2 : Sim Tryz.prog G0 true 48 [cxD (kr 1 0)] (.bool false) := rlIs_is xkr (Hc.mono hkr (by decide)) (by decide)
theorem k7_sq : Sim Tryz.prog G0 false 63 [cxD (kr (-1) 2)] (cxD (kr 0 4)) := rlSquare_is xkr (Hc.mono hkr (by decide)) (by decide)
theorem k7_e1 : Sim Tryz.prog G0 true 54 [cxD (kr 0 4), cxD (kr 0 4)] (.bool true) := rEqReal_is (Hc.mono hkr (by decide)) (Hc.mono hkr (by decide)) (by decide)
theorem k7_sc : Sim Tryz.prog G0 false 18 [dyD (dof 1 0), .int .i64 (-2)] (dyD (dof 1 (-2))) := by
  have h := rdscale_sim (-2) ((ht_one 1 (by decide)).mono (show 100 ≤ 50000 by decide))
  rwa [show dof 1 0 * dof 1 (min (max (-2) (-20000)) 20000) = dof 1 (-2) by decide] at h
theorem k7_e2 : Sim Tryz.prog G0 true 100 [dyD (dof 1 (-2)), dyD (dof 1 (-2))] (.bool true) := rEq_is ((Ht.cst (by decide)).mono (by decide)) ((Ht.cst (by decide)).mono (by decide)) (by decide)
theorem k7_e3 : Sim Tryz.prog G0 true 54 [cxD (kr 1 2), cxD (kr 1 2)] (.bool true) := rEqReal_is (Hc.mono hkr (by decide)) (Hc.mono hkr (by decide)) (by decide)
theorem k7_has : Sim Tryz.prog G0 true 50 [cxD (kr (-1) 2), dyD (dof 2 0)] (.bool true) := rlHas_is xkr (.of ((ht_one 2 (by decide)).mono (by decide))) (Hc.mono hkr (by decide)) ((ht_one 2 (by decide)).mono (by decide)) (by decide)
theorem k7_in : Sim Tryz.prog G0 true 52 [cxD (kr 0 1), cxD (kr (-1) 2)] (.bool true) := rlIn_is xkr xkr (Hc.mono hkr (by decide)) (Hc.mono hkr (by decide)) (by decide)
theorem k7_abs : Sim Tryz.prog G0 false 66 [cxD (kr (-1) 2)] (cxD (kr 0 2)) := rlAbs_is xkr (Hc.mono hkr (by decide)) (by decide)
theorem k7_e4 : Sim Tryz.prog G0 true 54 [cxD (kr 0 2), cxD (kr 0 2)] (.bool true) := rEqReal_is (Hc.mono hkr (by decide)) (Hc.mono hkr (by decide)) (by decide)
theorem k7_same : Sim Tryz.prog G0 true 70 [cxD (kr (-1) 2), cxD (kr (-1) 2)] (.bool true) := rlSame_is xkr xkr (Hc.mono hkr (by decide)) (Hc.mono hkr (by decide)) (by decide)
theorem of7_at (m n : Int) (h1 : m.natAbs ≤ 8 := by decide) (h2 : n.natAbs ≤ 8 := by decide) : Sim Tryz.prog G0 false 146 [.int .i64 m, .int .i64 n] (cxD (kr m n)) := of7_is m n h1 h2
set_option maxHeartbeats 4000000 in
theorem known7_sim : Sim Tryz.prog G0 true 42 [] (.bool true) := by
  refine sim_mk tab_ok Tryz.func42 rfl (by kernel_rfl) rfl ⟨Nat.le_of_ble_eq_true rfl, Nat.le_of_ble_eq_true rfl⟩ ?_
  repeat' ((conv => whnf); first
    | with_reducible refine CallX.data ?_
    | refine CallE.mk _ _ (of7_at (-1) 2) ?_
    | refine CallE.mk _ _ (k7_i1) ?_
    | refine CallE.mk _ _ (of7_at 2 4) ?_
    | refine CallE.mk _ _ (k7_i2) ?_
    | refine CallE.mk _ _ (of7_at 1 5) ?_
    | refine CallE.mk _ _ (k7_m1) ?_
    | refine CallE.mk _ _ (of7_at 3 5) ?_
    | refine CallE.mk _ _ (k7_m2) ?_
    | refine CallE.mk _ _ (k7_is1) ?_
    | refine CallE.mk _ _ (of7_at 1 0) ?_
    | refine CallE.mk _ _ (k7_is2) ?_
    | refine CallE.mk _ _ (k7_sq) ?_
    | refine CallE.mk _ _ (of7_at 0 4) ?_
    | refine CallE.mk _ _ (k7_e1) ?_
    | refine CallE.mk _ _ (rofd_sim 1 (by decide) (by decide)) ?_
    | refine CallE.mk _ _ (k7_sc) ?_
    | refine CallE.mk _ _ (k7_e2) ?_
    | refine CallE.mk _ _ (of7_at 1 2) ?_
    | refine CallE.mk _ _ (k7_e3) ?_
    | refine CallE.mk _ _ (rofd_sim 2 (by decide) (by decide)) ?_
    | refine CallE.mk _ _ (k7_has) ?_
    | refine CallE.mk _ _ (of7_at 0 1) ?_
    | refine CallE.mk _ _ (k7_in) ?_
    | refine CallE.mk _ _ (k7_abs) ?_
    | refine CallE.mk _ _ (of7_at 0 2) ?_
    | refine CallE.mk _ _ (k7_e4) ?_
    | refine CallE.mk _ _ (k7_same) ?_
    | refine RegE.early (Cd.mk (show regOk _ _ _ _ = true by kernel_rfl) ?_)
    | refine Cd.mk rfl ?_
    | refine Br.t ?_
    | refine NthE.mk _ rfl ?_
    | (refine TkE.fL ?_; (conv => whnf); fail_if_success (show forceL _ _))
    | refine Res.mk ?_
    | ((with_reducible refine EqE.idS ?_); (refine EqE.fP ?_; (conv => whnf); fail_if_success (show forceL _ _)))
    | refine Cd.mk (Nat.le_of_ble_eq_true rfl) ?_)
  rfl
end Go.Ev.Ar

namespace Go.Ev.Ar
open Go Go.Ev Go.Proofs

theorem n_rem8 (n : Nat) : (n : Int).tmod 8 = ((n % 8 : Nat) : Int) := n_rem n 8
theorem n_rem60 (n : Nat) : (n : Int).tmod 60 = ((n % 60 : Nat) : Int) := n_rem n 60
theorem n_rem6 (n : Nat) : (n : Int).tmod 6 = ((n % 6 : Nat) : Int) := n_rem n 6
theorem n_rem5 (n : Nat) : (n : Int).tmod 5 = ((n % 5 : Nat) : Int) := n_rem n 5
theorem n_rem2 (n : Nat) : (n : Int).tmod 2 = ((n % 2 : Nat) : Int) := n_rem n 2
theorem imul_one_has {I : Cq} {a : Dyadic} (h : (I.1 * a ≤ 1 ∧ 1 ≤ I.2 * a) ∨ (I.2 * a ≤ 1 ∧ 1 ≤ I.1 * a)) : ihas (imul I (a, a)) 1 := by
  unfold ihas imul mn mx; dsimp only
  grind
end Go.Ev.Ar

namespace Go.Ev.Ar
open Go Go.Ev Go.Proofs

theorem cxz : CxR (.agg [.bool false, sl [], .int .i64 0, .bool false, sl [], .int .i64 0]) (0, 0) := .mk dy0 dy0
theorem rlIn_o {z w : Cq} (hz : Hc 1000000 z) (hw : Hc 1000000 w) (oz : Ord z) (ow : Ord w) (h : iin z w) : Sim Tryz.prog G0 true 52 [cxD z, cxD w] (.bool true) :=
  rlIn_is (.of (hz.mono (by decide))) (.of (hw.mono (by decide))) hz hw (by rw [rof_self oz, rof_self ow]; exact decide_eq_true h)
end Go.Ev.Ar
