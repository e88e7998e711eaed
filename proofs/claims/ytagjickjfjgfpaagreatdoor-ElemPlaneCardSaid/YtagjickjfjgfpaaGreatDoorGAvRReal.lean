/- Contracts of the given functions, on data. Conditions stand in each theorem. -/
import Derived.Test.YtagjickjfjgfpaaGreatDoorGAvReal
import Derived.Test.YtagjickjfjgfpaaGreatDoorGAvWind
import Derived.Test.YtagjickjfjgfpaaGreatDoorGAvDyL
import Derived.Test.YtagjickjfjgfpaaGreatDoorGEvZ
import Derived.Test.YtagjickjfjgfpaaGreatDoorGAvRealB
set_option linter.unusedSimpArgs false
set_option linter.unusedVariables false
namespace Go.Ev.Ar
open Go Go.Ev Go.Proofs

theorem rMin_is {p q r : Dyadic} (hp : Ht 48000 p) (hq : Ht 48000 q) (h : mn p q = r) : Sim Tryz.prog G0 false 80 [dyD p, dyD q] (dyD r) := by
  subst h
  have hd := hp.sub hq (c := 50000) (by decide)
  refine sim_mk tab_ok Tryz.func80 rfl (by kernel_rfl) rfl ⟨Nat.le_of_ble_eq_true rfl, Nat.le_of_ble_eq_true rfl⟩ ?_
  repeat' ((conv => whnf); first
    | with_reducible refine CallX.data ?_
    | refine CallE.mk _ _ (rdcmp_sim (p := p) (q := q) (hp.mono (by decide)) (hq.mono (by decide)) hd) ?_
    | refine RegE.early (Cd.mk (show regOk _ _ _ _ = true by kernel_rfl) ?_)
    | refine Cd.mk rfl ?_
    | with_reducible refine Br.dec (fun _ => ?_) (fun _ => ?_)
    | (refine TkE.fL ?_; (conv => whnf); fail_if_success (show forceL _ _))
    | refine Res.mk ?_
    | ((with_reducible refine EqE.idS ?_); (refine EqE.fP ?_; (conv => whnf); fail_if_success (show forceL _ _)))
    | refine Cd.mk (Nat.le_of_ble_eq_true rfl) ?_)
  · rename_i h
    unfold mn; rw [if_pos (dsg_sub_le.1 h)]; rfl
  · rename_i h
    unfold mn; rw [if_neg (fun g => h (dsg_sub_le.2 g))]; rfl
theorem rMax_is {p q r : Dyadic} (hp : Ht 48000 p) (hq : Ht 48000 q) (h : mx p q = r) : Sim Tryz.prog G0 false 81 [dyD p, dyD q] (dyD r) := by
  subst h
  have hd := hp.sub hq (c := 50000) (by decide)
  refine sim_mk tab_ok Tryz.func81 rfl (by kernel_rfl) rfl ⟨Nat.le_of_ble_eq_true rfl, Nat.le_of_ble_eq_true rfl⟩ ?_
  repeat' ((conv => whnf); first
    | with_reducible refine CallX.data ?_
    | refine CallE.mk _ _ (rdcmp_sim (p := p) (q := q) (hp.mono (by decide)) (hq.mono (by decide)) hd) ?_
    | refine RegE.early (Cd.mk (show regOk _ _ _ _ = true by kernel_rfl) ?_)
    | refine Cd.mk rfl ?_
    | with_reducible refine Br.dec (fun _ => ?_) (fun _ => ?_)
    | (refine TkE.fL ?_; (conv => whnf); fail_if_success (show forceL _ _))
    | refine Res.mk ?_
    | ((with_reducible refine EqE.idS ?_); (refine EqE.fP ?_; (conv => whnf); fail_if_success (show forceL _ _)))
    | refine Cd.mk (Nat.le_of_ble_eq_true rfl) ?_)
  · rename_i h
    unfold mx; rw [if_pos (dsg_sub_ge.1 h)]; rfl
  · rename_i h
    unfold mx; rw [if_neg (fun g => h (dsg_sub_ge.2 g))]; rfl
theorem rReal_is {x : D} {z r : Cq} (hx : CxF x z) (hz : Hc 48000 z) (h : rof z = r) : Sim Tryz.prog G0 false 25 [x] (cxD r) := by
  subst h
  have hd := hz.1.sub hz.2 (c := 50000) (by decide)
  obtain ⟨hp, hq⟩ := hx
  rename_i p q
  have hp' := hz.1.mono (show 48000 ≤ 49000 by decide)
  have hq' := hz.2.mono (show 48000 ≤ 49000 by decide)
  dsimp only at hp' hq'
  refine sim_mk tab_ok Tryz.func25 rfl (by kernel_rfl) rfl ⟨Nat.le_of_ble_eq_true rfl, Nat.le_of_ble_eq_true rfl⟩ ?_
  repeat' ((conv => whnf); first
    | with_reducible refine CallX.data ?_
    | refine CallE.mk _ _ (rExact_sim hp) ?_
    | refine CallE.mk _ _ (rExact_sim hq) ?_
    | refine CallE.mk _ _ (rdcmp_sim (p := p) (q := q) hp' hq' hd) ?_
    | refine RegE.early (Cd.mk (show regOk _ _ _ _ = true by kernel_rfl) ?_)
    | refine Cd.mk rfl ?_
    | with_reducible refine Br.dec (fun _ => ?_) (fun _ => ?_)
    | (refine TkE.fL ?_; (conv => whnf); fail_if_success (show forceL _ _))
    | refine Res.mk ?_
    | ((with_reducible refine EqE.idS ?_); (refine EqE.fP ?_; (conv => whnf); fail_if_success (show forceL _ _)))
    | refine Cd.mk (Nat.le_of_ble_eq_true rfl) ?_)
  · rename_i h
    unfold rof mn mx; dsimp only
    have h1 := dsg_gt.1 h
    rw [if_neg (fun g => by rw [← dsg_sub_le] at g; omega), if_pos (by grind)]; rfl
  · rename_i h
    have h1 : p ≤ q := dsg_sub_le.1 (by omega)
    rw [show rof (p, q) = (p, q) from rof_self h1]; rfl
theorem rEq_is {p q : Dyadic} {t : Bool} (hp : Ht 50000 p) (hq : Ht 50000 q) (h : decide (p = q) = t) : Sim Tryz.prog G0 true 100 [dyD p, dyD q] (.bool t) := h ▸ requal_sim hp hq
theorem rHas_is {z : Cq} {d : Dyadic} {t : Bool} (hz : Hc 48000 z) (hd : Ht 48000 d) (h : decide (ihas z d) = t) : Sim Tryz.prog G0 true 28 [cxD z, dyD d] (.bool t) := by
  subst h
  obtain ⟨p, q⟩ := z
  have h1 := hz.1.sub hd (c := 50000) (by decide)
  have h2 := hd.sub hz.2 (c := 50000) (by decide)
  refine sim_mk tab_ok Tryz.func28 rfl (by kernel_rfl) rfl ⟨Nat.le_of_ble_eq_true rfl, Nat.le_of_ble_eq_true rfl⟩ ?_
  repeat' ((conv => whnf); first
    | with_reducible refine CallX.data ?_
    | refine CallE.mk _ _ (rdcmp_sim (p := p) (q := d) (hz.1.mono (by decide)) (hd.mono (by decide)) h1) ?_
    | refine CallE.mk _ _ (rdcmp_sim (p := d) (q := q) (hd.mono (by decide)) (hz.2.mono (by decide)) h2) ?_
    | refine RegE.early (Cd.mk (show regOk _ _ _ _ = true by kernel_rfl) ?_)
    | refine Cd.mk rfl ?_
    | refine Br.t ?_
    | refine Br.f ?_
    | with_reducible refine Br.dec (fun _ => ?_) (fun _ => ?_)
    | (refine TkE.fL ?_; (conv => whnf); fail_if_success (show forceL _ _))
    | refine Res.mk ?_)
  · rename_i h
    refine congrArg D.bool (decide_eq_decide.2 ?_)
    rw [dsg_sub_le] at h ⊢
    exact ⟨fun g => g.2, fun g => ⟨h, g⟩⟩
  · rename_i h
    rw [dsg_sub_le] at h
    exact congrArg D.bool (decide_eq_false fun g => h g.1)
theorem rIn_is {z w : Cq} {t : Bool} (hz : Hc 48000 z) (hw : Hc 48000 w) (h : decide (iin z w) = t) : Sim Tryz.prog G0 true 22 [cxD z, cxD w] (.bool t) := by
  subst h
  obtain ⟨p, q⟩ := z
  obtain ⟨p', q'⟩ := w
  have h1 := hw.1.sub hz.1 (c := 50000) (by decide)
  have h2 := hz.2.sub hw.2 (c := 50000) (by decide)
  refine sim_mk tab_ok Tryz.func22 rfl (by kernel_rfl) rfl ⟨Nat.le_of_ble_eq_true rfl, Nat.le_of_ble_eq_true rfl⟩ ?_
  repeat' ((conv => whnf); first
    | with_reducible refine CallX.data ?_
    | refine CallE.mk _ _ (rdcmp_sim (p := p') (q := p) (hw.1.mono (by decide)) (hz.1.mono (by decide)) h1) ?_
    | refine CallE.mk _ _ (rdcmp_sim (p := q) (q := q') (hz.2.mono (by decide)) (hw.2.mono (by decide)) h2) ?_
    | refine RegE.early (Cd.mk (show regOk _ _ _ _ = true by kernel_rfl) ?_)
    | refine Cd.mk rfl ?_
    | refine Br.t ?_
    | refine Br.f ?_
    | with_reducible refine Br.dec (fun _ => ?_) (fun _ => ?_)
    | (refine TkE.fL ?_; (conv => whnf); fail_if_success (show forceL _ _))
    | refine Res.mk ?_)
  · rename_i h
    refine congrArg D.bool (decide_eq_decide.2 ?_)
    rw [dsg_sub_le] at h ⊢
    exact ⟨fun g => g.2, fun g => ⟨h, g⟩⟩
  · rename_i h
    rw [dsg_sub_le] at h
    exact congrArg D.bool (decide_eq_false fun g => h g.1)
theorem rAddReal_is {z w r : Cq} (hz : Hc 48000 z) (hw : Hc 48000 w) (h : iadd z w = r) : Sim Tryz.prog G0 false 30 [cxD z, cxD w] (cxD r) := by
  subst h
  obtain ⟨p, q⟩ := z
  obtain ⟨p', q'⟩ := w
  refine sim_mk tab_ok Tryz.func30 rfl (by kernel_rfl) rfl ⟨Nat.le_of_ble_eq_true rfl, Nat.le_of_ble_eq_true rfl⟩ ?_
  repeat' ((conv => whnf); first
    | refine CallE.mk _ _ (rdadd_sim (p := p) (q := p') (hz.1.mono (by decide)) (hw.1.mono (by decide))) ?_
    | refine CallE.mk _ _ (rdadd_sim (p := q) (q := q') (hz.2.mono (by decide)) (hw.2.mono (by decide))) ?_
    | refine RegE.early (Cd.mk (show regOk _ _ _ _ = true by kernel_rfl) ?_)
    | refine Cd.mk rfl ?_
    | (refine TkE.fL ?_; (conv => whnf); fail_if_success (show forceL _ _))
    | refine Res.mk ?_
    | ((with_reducible refine EqE.idS ?_); (refine EqE.fP ?_; (conv => whnf); fail_if_success (show forceL _ _)))
    | refine Cd.mk (Nat.le_of_ble_eq_true rfl) ?_)
  rfl
theorem rNegReal_is {z r : Cq} (hz : Hc 50000 z) (h : ineg z = r) : Sim Tryz.prog G0 false 26 [cxD z] (cxD r) := by
  subst h
  obtain ⟨p, q⟩ := z
  refine sim_mk tab_ok Tryz.func26 rfl (by kernel_rfl) rfl ⟨Nat.le_of_ble_eq_true rfl, Nat.le_of_ble_eq_true rfl⟩ ?_
  repeat' ((conv => whnf); first
    | refine CallE.mk _ _ (rdneg_sim (p := p) hz.1) ?_
    | refine CallE.mk _ _ (rdneg_sim (p := q) hz.2) ?_
    | refine RegE.early (Cd.mk (show regOk _ _ _ _ = true by kernel_rfl) ?_)
    | refine Cd.mk rfl ?_
    | (refine TkE.fL ?_; (conv => whnf); fail_if_success (show forceL _ _))
    | refine Res.mk ?_
    | ((with_reducible refine EqE.idS ?_); (refine EqE.fP ?_; (conv => whnf); fail_if_success (show forceL _ _)))
    | refine Cd.mk (Nat.le_of_ble_eq_true rfl) ?_)
  rfl
theorem rSubReal_is {z w r : Cq} (hz : Hc 48000 z) (hw : Hc 48000 w) (h : isub z w = r) : Sim Tryz.prog G0 false 87 [cxD z, cxD w] (cxD r) := by
  subst h
  have s := rNegReal_is (hw.mono (show 48000 ≤ 50000 by decide)) rfl
  have hn := hw.ineg
  unfold isub
  generalize ineg w = n at *
  have a := rAddReal_is hz hn rfl
  generalize iadd z n = r at *
  obtain ⟨p, q⟩ := z
  obtain ⟨p', q'⟩ := w
  obtain ⟨p'', q''⟩ := n
  refine sim_mk tab_ok Tryz.func87 rfl (by kernel_rfl) rfl ⟨Nat.le_of_ble_eq_true rfl, Nat.le_of_ble_eq_true rfl⟩ ?_
  repeat' ((conv => whnf); first
    | refine CallE.mk _ _ (s) ?_
    | refine CallE.mk _ _ (a) ?_
    | refine RegE.early (Cd.mk (show regOk _ _ _ _ = true by kernel_rfl) ?_)
    | refine Cd.mk rfl ?_
    | (refine TkE.fL ?_; (conv => whnf); fail_if_success (show forceL _ _))
    | refine Res.mk ?_
    | ((with_reducible refine EqE.idS ?_); (refine EqE.fP ?_; (conv => whnf); fail_if_success (show forceL _ _)))
    | refine Cd.mk (Nat.le_of_ble_eq_true rfl) ?_)
  rfl
theorem rMulReal_is {z w r : Cq} (hz : Hc 20000 z) (hw : Hc 20000 w) (h : imul z w = r) : Sim Tryz.prog G0 false 29 [cxD z, cxD w] (cxD r) := by
  subst h
  obtain ⟨p, q⟩ := z
  obtain ⟨p', q'⟩ := w
  have m1 : Ht 40000 (p * p') := hz.1.mul hw.1 (by decide)
  have m2 : Ht 40000 (p * q') := hz.1.mul hw.2 (by decide)
  have m3 : Ht 40000 (q * p') := hz.2.mul hw.1 (by decide)
  have m4 : Ht 40000 (q * q') := hz.2.mul hw.2 (by decide)
  have z1 := hz.1.mono (show 20000 ≤ 25000 by decide)
  have z2 := hz.2.mono (show 20000 ≤ 25000 by decide)
  have w1 := hw.1.mono (show 20000 ≤ 25000 by decide)
  have w2 := hw.2.mono (show 20000 ≤ 25000 by decide)
  unfold imul
  dsimp only at z1 z2 w1 w2 ⊢
  obtain ⟨A, hA⟩ : ∃ A, mn (p * p') (p * q') = A := ⟨_, rfl⟩
  obtain ⟨B, hB⟩ : ∃ A, mn (q * p') (q * q') = A := ⟨_, rfl⟩
  obtain ⟨C, hC⟩ : ∃ A, mx (p * p') (p * q') = A := ⟨_, rfl⟩
  obtain ⟨E, hE⟩ : ∃ A, mx (q * p') (q * q') = A := ⟨_, rfl⟩
  have nA : Ht 40000 A := hA ▸ m1.mn m2
  have nB : Ht 40000 B := hB ▸ m3.mn m4
  have nC : Ht 40000 C := hC ▸ m1.mx m2
  have nE : Ht 40000 E := hE ▸ m3.mx m4
  rw [hA, hB, hC, hE]
  refine sim_mk tab_ok Tryz.func29 rfl (by kernel_rfl) rfl ⟨Nat.le_of_ble_eq_true rfl, Nat.le_of_ble_eq_true rfl⟩ ?_
  repeat' ((conv => whnf); first
    | refine CallE.mk _ _ (rdmul_sim (p := p) (q := p') z1 w1) ?_
    | refine CallE.mk _ _ (rdmul_sim (p := p) (q := q') z1 w2) ?_
    | refine CallE.mk _ _ (rdmul_sim (p := q) (q := p') z2 w1) ?_
    | refine CallE.mk _ _ (rdmul_sim (p := q) (q := q') z2 w2) ?_
    | refine CallE.mk _ _ (rMin_is (p := p * p') (q := p * q') (m1.mono (by decide)) (m2.mono (by decide)) hA) ?_
    | refine CallE.mk _ _ (rMin_is (p := q * p') (q := q * q') (m3.mono (by decide)) (m4.mono (by decide)) hB) ?_
    | refine CallE.mk _ _ (rMax_is (p := p * p') (q := p * q') (m1.mono (by decide)) (m2.mono (by decide)) hC) ?_
    | refine CallE.mk _ _ (rMax_is (p := q * p') (q := q * q') (m3.mono (by decide)) (m4.mono (by decide)) hE) ?_
    | refine CallE.mk _ _ (rMin_is (p := A) (q := B) (nA.mono (by decide)) (nB.mono (by decide)) rfl) ?_
    | refine CallE.mk _ _ (rMax_is (p := C) (q := E) (nC.mono (by decide)) (nE.mono (by decide)) rfl) ?_
    | refine RegE.early (Cd.mk (show regOk _ _ _ _ = true by kernel_rfl) ?_)
    | refine Cd.mk rfl ?_
    | (refine TkE.fL ?_; (conv => whnf); fail_if_success (show forceL _ _))
    | refine Res.mk ?_
    | ((with_reducible refine EqE.idS ?_); (refine EqE.fP ?_; (conv => whnf); fail_if_success (show forceL _ _)))
    | refine Cd.mk (Nat.le_of_ble_eq_true rfl) ?_)
  rfl
theorem rAbsReal_is {z r : Cq} (hz : Hc 48000 z) (h : iabs z = r) : Sim Tryz.prog G0 false 82 [cxD z] (cxD r) := by
  subst h
  obtain ⟨p, q⟩ := z
  have p1 := hz.1.mono (show 48000 ≤ 50000 by decide)
  have q1 := hz.2.mono (show 48000 ≤ 50000 by decide)
  have p2 := hz.1.abs
  have q2 := hz.2.abs
  unfold iabs
  dsimp only at p1 q1 p2 q2 ⊢
  refine sim_mk tab_ok Tryz.func82 rfl (by kernel_rfl) rfl ⟨Nat.le_of_ble_eq_true rfl, Nat.le_of_ble_eq_true rfl⟩ ?_
  repeat' ((conv => whnf); first
    | with_reducible refine CallX.data ?_
    | refine CallE.mk _ _ (rdabs_sim (p := p) p1) ?_
    | refine CallE.mk _ _ (rdabs_sim (p := q) q1) ?_
    | refine CallE.mk _ _ (rdsign_sim (p := p) p1) ?_
    | refine CallE.mk _ _ (rdsign_sim (p := q) q1) ?_
    | refine CallE.mk _ _ (rMin_is (p := dabs p) (q := dabs q) p2 q2 rfl) ?_
    | refine CallE.mk _ _ (rMax_is (p := dabs p) (q := dabs q) p2 q2 rfl) ?_
    | refine RegE.early (Cd.mk (show regOk _ _ _ _ = true by kernel_rfl) ?_)
    | refine Cd.mk rfl ?_
    | refine Br.t ?_
    | refine Br.f ?_
    | with_reducible refine Br.dec (fun _ => ?_) (fun _ => ?_)
    | (refine TkE.fL ?_; (conv => whnf); fail_if_success (show forceL _ _))
    | refine Res.mk ?_
    | ((with_reducible refine EqE.idS ?_); (refine EqE.fP ?_; (conv => whnf); fail_if_success (show forceL _ _)))
    | refine Cd.mk (Nat.le_of_ble_eq_true rfl) ?_)
  · rename_i h h2
    rw [if_pos ⟨dsg_le.1 h, dsg_ge.1 h2⟩]
    show _ = D.agg [.bool _, sl [], .int .i64 _, _, _, _]
    rw [← ofN_zero]; rfl
  · rename_i h h2
    rw [if_neg (fun g => h2 (dsg_ge.2 g.2))]; rfl
  · rename_i h
    rw [if_neg (fun g => h (dsg_le.2 g.1))]; rfl
theorem rPowReal_is {z r : Cq} {H K : Nat} (n : Int) (hz : Hc H z) (hK : clampP n ≤ K) (hb : H * K + 1 + H ≤ 48000) (h : ipow z n = r) : Sim Tryz.prog G0 false 31 [cxD z, .int .i64 n] (cxD r) := by
  subst h
  have ab := rAbsReal_is (hz.mono (show H ≤ 48000 by omega)) rfl
  have ha := hz.iabs
  have hn : (min (max n 0) 64).toNat = clampP n := rfl
  have hn2 : max 0 (min n 64) = min (max n 0) 64 := by omega
  have hc : min (max (min (max n 0) 64) 0) 64 = min (max n 0) 64 := by omega
  have ht : (min (max n 0) 64).tmod 2 = ((clampP n % 2 : Nat) : Int) := by
    rw [Int.tmod_eq_emod_of_nonneg (by omega)]; unfold clampP; omega
  unfold ipow
  generalize iabs z = a at *
  obtain ⟨p, q⟩ := z
  obtain ⟨p', q'⟩ := a
  have hK' : (min (max (min (max n 0) 64) 0) 64).toNat ≤ K := by rw [hc, hn]; exact hK
  have hb' : H * K + 1 + H ≤ 50000 := by omega
  have d1 := rdpow_simK (p := p) (min (max n 0) 64) hz.1 hK' hb'
  have d2 := rdpow_simK (p := q) (min (max n 0) 64) hz.2 hK' hb'
  have d3 := rdpow_simK (p := p') (min (max n 0) 64) ha.1 hK' hb'
  have d4 := rdpow_simK (p := q') (min (max n 0) 64) ha.2 hK' hb'
  rw [hc, hn] at d1 d2 d3 d4
  refine sim_mk tab_ok Tryz.func31 rfl (by kernel_rfl) rfl ⟨Nat.le_of_ble_eq_true rfl, Nat.le_of_ble_eq_true rfl⟩ ?_
  by_cases hp : clampP n % 2 = 0
  · rw [if_pos hp]
    rw [hp] at ht
    repeat' ((conv => whnf); first
      | with_reducible refine CallX.data ?_
      | refine CallE.mk _ _ (ab) ?_
      | refine CallE.mk _ _ (d3) ?_
      | refine CallE.mk _ _ (d4) ?_
      | refine RegE.early (Cd.mk (show regOk _ _ _ _ = true by kernel_rfl) ?_)
      | refine Cd.mk rfl ?_
      | refine Br.t ?_
      | (refine TkE.fL ?_; (conv => whnf); fail_if_success (show forceL _ _))
      | refine Res.mk ?_
      | ((with_reducible refine EqE.idM ?_); refine EqE.mk _ ht ?_)
      | ((with_reducible refine EqE.idI ?_); first | refine EqE.mk _ ((max_eq _ _).trans hn2) ?_ | refine EqE.mk _ (min_eq _ _) ?_)
      | ((with_reducible refine EqE.idS ?_); (refine EqE.fP ?_; (conv => whnf); fail_if_success (show forceL _ _)))
      | refine Cd.mk (Nat.le_of_ble_eq_true rfl) ?_
      | refine Cd.mk (by first | omega | (simp only [length_limbs, length_la]; omega)) ?_)
    rfl
  · rw [if_neg hp]
    have hp1 : clampP n % 2 = 1 := by omega
    rw [hp1] at ht
    repeat' ((conv => whnf); first
      | refine CallE.mk _ _ (d1) ?_
      | refine CallE.mk _ _ (d2) ?_
      | refine RegE.early (Cd.mk (show regOk _ _ _ _ = true by kernel_rfl) ?_)
      | refine Cd.mk rfl ?_
      | refine Br.f ?_
      | (refine TkE.fL ?_; (conv => whnf); fail_if_success (show forceL _ _))
      | refine Res.mk ?_
      | ((with_reducible refine EqE.idM ?_); refine EqE.mk _ ht ?_)
      | ((with_reducible refine EqE.idI ?_); first | refine EqE.mk _ ((max_eq _ _).trans hn2) ?_ | refine EqE.mk _ (min_eq _ _) ?_)
      | ((with_reducible refine EqE.idS ?_); (refine EqE.fP ?_; (conv => whnf); fail_if_success (show forceL _ _)))
      | refine Cd.mk (Nat.le_of_ble_eq_true rfl) ?_
      | refine Cd.mk (by first | omega | (simp only [length_limbs, length_la]; omega)) ?_)
    rfl
theorem rMeet_is {z w r : Cq} {t : Bool} (hz : Hc 48000 z) (hw : Hc 48000 w) (h : imeet z w = (r, t)) : Sim Tryz.prog G0 false 32 [cxD z, cxD w] (.tup [cxD r, .bool t]) := by
  obtain ⟨p, q⟩ := z
  obtain ⟨p', q'⟩ := w
  have m1 := hz.1.mx hw.1
  have m2 := hz.2.mn hw.2
  have hd := m1.sub m2 (c := 50000) (by decide)
  unfold imeet at h
  dsimp only at h m1 m2 hd
  refine sim_mk tab_ok Tryz.func32 rfl (by kernel_rfl) rfl ⟨Nat.le_of_ble_eq_true rfl, Nat.le_of_ble_eq_true rfl⟩ ?_
  repeat' ((conv => whnf); first
    | with_reducible refine CallX.data ?_
    | refine CallE.mk _ _ (rMax_is (p := p) (q := p') hz.1 hw.1 rfl) ?_
    | refine CallE.mk _ _ (rMin_is (p := q) (q := q') hz.2 hw.2 rfl) ?_
    | refine CallE.mk _ _ (rdcmp_sim (p := mx p p') (q := mn q q') (m1.mono (by decide)) (m2.mono (by decide)) hd) ?_
    | refine RegE.early (Cd.mk (show regOk _ _ _ _ = true by kernel_rfl) ?_)
    | refine Cd.mk rfl ?_
    | with_reducible refine Br.dec (fun _ => ?_) (fun _ => ?_)
    | (refine TkE.fL ?_; (conv => whnf); fail_if_success (show forceL _ _))
    | refine Res.mk ?_
    | ((with_reducible refine EqE.idS ?_); (refine EqE.fP ?_; (conv => whnf); fail_if_success (show forceL _ _)))
    | refine Cd.mk (Nat.le_of_ble_eq_true rfl) ?_)
  · rename_i g
    rw [if_neg (fun k => by rw [← dsg_sub_le] at k; omega)] at h; cases h
    show _ = D.tup [D.agg [.bool _, sl [], .int .i64 _, .bool _, sl [], .int .i64 _], _]
    rw [← ofN_zero]; rfl
  · rename_i g
    rw [if_pos (dsg_sub_le.1 (by omega))] at h; cases h; rfl
end Go.Ev.Ar

namespace Go.Ev.Ar
open Go Go.Ev Go.Proofs

theorem grd_ht {h k : Nat} {q : Dyadic} (hq : Ht h q) (e mode : Int) (h1 : -(k : Int) ≤ e) (h2 : e ≤ k) : Ht (2 * h + 64 + k + 1) (grd q e mode) := by
  unfold grd
  split
  · exact hq.mono (by omega)
  · refine Ht.dof (a := 2 * h + 64 + 1) (b := k) ?_ h1 h2 (by omega)
    have hz := zt_floor hq.parts.1 (e - dexp q).toNat
    show Zt _ (if upB _ _ _ _ = true then _ else _)
    split
    · exact (hz.mono (show 2 * h ≤ 2 * h + 64 by omega)).add (Zt.small (n := 1) (h := 64) (by decide) (by decide)) (by omega)
    · exact hz.mono (by omega)
end Go.Ev.Ar

namespace Go.Ev.Ar
open Go Go.Ev Go.Proofs

theorem stD_ne {x y : Dyadic} {n : Nat} (hx : x ≠ 0) (hy : 0 < y) : stD x y n ≠ 0 := by
  intro e
  have h := stD_le (n := n) hx hy 0 (E := dexp x - dexp y - n) (Int.le_refl _)
  rw [e, dof_zero, Dyadic.mul_zero] at h
  obtain ⟨h1, h2⟩ := h
  have a1 := h1.1 (by grind)
  have a2 := h2.1 (by grind)
  exact hx (by grind)
theorem qexp_neg (x y : Dyadic) (p : Int) : qexp (-x) (-y) p = qexp x y p := by unfold qexp; rw [qtop_neg]
theorem stD_rto {x y : Dyadic} {n : Nat} {p k : Int} (mode : Int) (hx : x ≠ 0) (hy : y ≠ 0) (hk : min (max k 1) 4000 = min (max p 1) 4000) (hn : dexp x - dexp y - n ≤ qexp x y p) : rto (stD x y n) k (if mode = 1 then 1 else 0) = qdiv x y p mode := by
  have main : ∀ x y : Dyadic, x ≠ 0 → 0 < y → dexp x - dexp y - n ≤ qexp x y p → rto (stD x y n) k (if mode = 1 then 1 else 0) = qpos x y p mode := fun x y hx hy hn => by
    unfold rto
    rw [if_neg (stD_ne hx hy)]
    have e : unitE (stD x y n) k = qexp x y p := by
      unfold unitE qexp
      rw [stD_top hx hy (by unfold qexp at hn; omega), hk]
    rw [e]
    exact stD_grd mode hx hy hn
  rcases Classical.em (0 < y) with h | h
  · rw [qdiv_pos p mode hx h]; exact main x y hx h hn
  · have h2 : y < 0 := by grind
    rw [qdiv_neg p mode hx h2, ← (stD_neg (n := n) hx hy).2]
    exact main (-x) (-y) (fun e => hx (by grind)) (by grind) (by rw [qexp_neg, dexp_neg, dexp_neg]; exact hn)
theorem ht_dof_top {m e : Int} {h : Nat} (h1 : -(h : Int) ≤ e) (h2 : dabs (dof m e) < dof 1 h) : Ht h (dof m e) := by
  obtain ⟨M, hM⟩ : ∃ M, M = m * 2 ^ (e + h).toNat := ⟨_, rfl⟩
  have e2 : dof m e = dof M (-h) := by rw [hM, dof_shl]; congr 1; omega
  refine ⟨M, ?_, e2⟩
  have e3 : dof 1 (h : Int) = dof (2 ^ (2 * h)) (-(h : Int)) := by
    have := dof_shl 1 (-(h : Int)) (2 * h)
    rw [Int.one_mul] at this
    rw [this]; congr 1; omega
  rw [e2, dabs_dof, e3, dof_lt] at h2
  rw [Zt.iff]
  have h3 : ((M.natAbs : Nat) : Int) < ((2 ^ (2 * h) : Nat) : Int) := by rw [Int.natCast_pow]; exact h2
  exact_mod_cast h3
theorem stD_ht {x y : Dyadic} {n h : Nat} (hx0 : x ≠ 0) (hy0 : y ≠ 0) (hn : dexp x - dexp y - n ≤ qtop x y) (h1 : -(h : Int) ≤ dexp x - dexp y - n - 1) (h2 : qtop x y + 1 ≤ h) : Ht h (stD x y n) := by
  have main : ∀ x y : Dyadic, x ≠ 0 → 0 < y → dexp x - dexp y - n ≤ qtop x y → -(h : Int) ≤ dexp x - dexp y - n - 1 → qtop x y + 1 ≤ h → Ht h (stD x y n) := fun x y hx0 hy0 hn h1 h2 => by
    have ht := stD_top hx0 hy0 hn
    have l := lt_dof_one (stD_ne (n := n) hx0 hy0)
    rw [ht] at l
    have l2 : dof 1 (qtop x y + 1) ≤ dof 1 (h : Int) := dof1_le.2 (by omega)
    unfold stD at l ⊢
    exact ht_dof_top (by omega) (by grind)
  rcases Classical.em (0 < y) with h | h
  · exact main x y hx0 h hn h1 h2
  · have e := (stD_neg (n := n) hx0 hy0).2
    rw [← e]
    exact main (-x) (-y) (fun e => hx0 (by grind)) (by grind) (by rw [qtop_neg, dexp_neg, dexp_neg]; exact hn) (by rw [dexp_neg, dexp_neg]; exact h1) (by rw [qtop_neg]; exact h2)
theorem rshl_at {k j : Nat} (n : Int) (hl : (ofN k).length < 2^30) (hn : n ≤ 100000) (h : k * 2 ^ n.toNat = j) : Sim Tryz.prog G0 false 171 [sl (ofN k), .int .i64 n] (sl (ofN j)) := by
  have s := rshl_sim (ofN k) n hl hn
  rwa [nv_ofN, h] at s
theorem radd_at {k j : Nat} (hk : (ofN k).length < 2^30) (h : k + 1 = j) : Sim Tryz.prog G0 false 169 [sl (ofN k), sl [1]] (sl (ofN j)) := by
  have s := radd_sim (ofN k) [1] hk (by simp)
  rwa [nv_ofN, show nv [1] = 1 from rfl, h] at s
end Go.Ev.Ar
