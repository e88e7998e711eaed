/- Contracts of the given functions, on data. Conditions stand in each theorem. -/
import Derived.Test.YtlhhckpjcglinaaGreatDoorGAzRReal
import Derived.Test.YtlhhckpjcglinaaGreatDoorGAzRRo
import Derived.Test.YtlhhckpjcglinaaGreatDoorGEvU
set_option linter.unusedSimpArgs false
set_option linter.unusedVariables false
namespace Go.Ev.Ar
open Go Go.Ev Go.Proofs

/-- What is known of a number of few limbs. -/
theorem few7_dy {b : Bool} {l : List UInt32} {e : Int} (h : fewD 10 1000 l e = true) : DyR (.agg [.bool b, sl l, .int .i64 e]) (dof (zv b l) e) ∧ DyF (.agg [.bool b, sl l, .int .i64 e]) (dof (zv b l) e) ∧ Ht 1320 (dof (zv b l) e) ∧ Sim Tryz.prog G0 false 27 [.agg [.bool b, sl l], .int .i64 e] (dyD (dof (zv b l) e)) := by
  obtain ⟨h1, h2, h3⟩ := fewD_iff.1 h
  refine ⟨dyR_few (n := 10) (b := 1000) (by decide) (by decide) ⟨h1, h2, h3⟩, .mk _ _ _ (by omega) (by omega) (by omega), (ht_few (n := 10) (b := 1000) ⟨h1, h2, h3⟩).mono (by decide), ?_⟩
  exact rmake_at (.mk _ _ (by omega)) ((Zt.of_len (k := 10) h1 (by decide)).mono (show 320 ≤ 100000 by decide)) (by rw [clamp_id (by omega) (by omega)])
set_option maxRecDepth 10000 in
set_option maxHeartbeats 8000000 in
theorem realtells_sim (r s : RC) (b : Bool) (l : List UInt32) (e : Int) (n : Int) : Sim Tryz.prog G0 true 5 [.agg r.cells, .agg s.cells, .agg [.bool b, sl l, .int .i64 e], .int .i64 n] (.bool true) := by
  have sf := fewreal7_sim r
  have sg := fewreal7_sim s
  have sd := few7_sim b l e
  have fr := few_cx (r := r)
  have fs := few_cx (r := s)
  have fd := few7_dy (b := b) (l := l) (e := e)
  obtain ⟨b1, l1, e1, c1, k1, f1⟩ := r
  obtain ⟨b2, l2, e2, c2, k2, f2⟩ := s
  cases h1 : RC.few 10 1000 ⟨b1, l1, e1, c1, k1, f1⟩
  · rw [h1] at sf
    refine sim_mk tab_ok Tryz.func5 rfl (by kernel_rfl) rfl ⟨Nat.le_of_ble_eq_true rfl, Nat.le_of_ble_eq_true rfl⟩ ?_
    repeat' ((conv => whnf); first
      | with_reducible refine CallX.data ?_
      | refine CallE.mk _ _ (known7_sim) ?_
      | refine CallE.mk _ _ (sf) ?_
      | refine RegE.early (Cd.mk (show regOk _ _ _ _ = true by kernel_rfl) ?_)
      | refine Cd.mk rfl ?_
      | refine Br.t ?_
      | refine Br.f ?_
      | (refine TkE.fL ?_; (conv => whnf); fail_if_success (show forceL _ _))
      | refine Res.mk ?_)
    rfl
  rw [h1] at sf
  cases h2 : RC.few 10 1000 ⟨b2, l2, e2, c2, k2, f2⟩
  · rw [h2] at sg
    refine sim_mk tab_ok Tryz.func5 rfl (by kernel_rfl) rfl ⟨Nat.le_of_ble_eq_true rfl, Nat.le_of_ble_eq_true rfl⟩ ?_
    repeat' ((conv => whnf); first
      | with_reducible refine CallX.data ?_
      | refine CallE.mk _ _ (known7_sim) ?_
      | refine CallE.mk _ _ (sf) ?_
      | refine CallE.mk _ _ (sg) ?_
      | refine RegE.early (Cd.mk (show regOk _ _ _ _ = true by kernel_rfl) ?_)
      | refine Cd.mk rfl ?_
      | refine Br.t ?_
      | refine Br.f ?_
      | (refine TkE.fL ?_; (conv => whnf); fail_if_success (show forceL _ _))
      | refine Res.mk ?_)
    rfl
  rw [h2] at sg
  cases h3 : fewD 10 1000 l e
  · rw [h3] at sd
    refine sim_mk tab_ok Tryz.func5 rfl (by kernel_rfl) rfl ⟨Nat.le_of_ble_eq_true rfl, Nat.le_of_ble_eq_true rfl⟩ ?_
    repeat' ((conv => whnf); first
      | with_reducible refine CallX.data ?_
      | refine CallE.mk _ _ (known7_sim) ?_
      | refine CallE.mk _ _ (sf) ?_
      | refine CallE.mk _ _ (sg) ?_
      | refine CallE.mk _ _ (sd) ?_
      | refine RegE.early (Cd.mk (show regOk _ _ _ _ = true by kernel_rfl) ?_)
      | refine Cd.mk rfl ?_
      | refine Br.t ?_
      | refine Br.f ?_
      | (refine TkE.fL ?_; (conv => whnf); fail_if_success (show forceL _ _))
      | refine Res.mk ?_)
    rfl
  rw [h3] at sd
  obtain ⟨xr, xf, xh⟩ := fr h1
  obtain ⟨yr, yf, yh⟩ := fs h2
  obtain ⟨dr, df, dh, dm⟩ := fd h3
  obtain ⟨_, _, _, xm1⟩ := few7_dy (b := b1) (RC.few_iff.1 h1 |>.1 |> fewD_iff.2)
  obtain ⟨_, _, _, xm2⟩ := few7_dy (b := c1) (RC.few_iff.1 h1 |>.2 |> fewD_iff.2)
  change CxR (.agg [.bool b1, sl l1, .int .i64 e1, .bool c1, sl k1, .int .i64 f1]) (dof (zv b1 l1) e1, dof (zv c1 k1) f1) at xr
  change CxF (.agg [.bool b1, sl l1, .int .i64 e1, .bool c1, sl k1, .int .i64 f1]) (dof (zv b1 l1) e1, dof (zv c1 k1) f1) at xf
  change Hc 1320 (dof (zv b1 l1) e1, dof (zv c1 k1) f1) at xh
  generalize dof (zv b1 l1) e1 = x1 at *
  generalize dof (zv c1 k1) f1 = x2 at *
  generalize RC.val ⟨b2, l2, e2, c2, k2, f2⟩ = y at yr yf yh
  generalize dof (zv b l) e = d at *
  have ox := rof_ord (x1, x2)
  have oy := rof_ord y
  have hx := xh.rof
  have hy := yh.rof
  obtain ⟨k, hk⟩ : ∃ k, min n 8 = k := ⟨_, rfl⟩
  have K8 : clampP k ≤ 8 := by unfold clampP; omega
  have A := rReal_is xf (xh.mono (by decide)) rfl
  have B := rReal_is yf (yh.mono (by decide)) rfl
  obtain ⟨⟨w, t⟩, hm⟩ : ∃ m, imeet (rof (x1, x2)) (rof y) = m := ⟨_, rfl⟩
  have hw : Hc 1320 w := by have := hx.imeet hy; rw [hm] at this; exact this
  have a1 := rlMeet_is xr yr (xh.mono (by decide)) (yh.mono (by decide)) hm
  have a2 := rMeet_is (hx.mono (by decide)) (hy.mono (by decide)) hm
  have b1' := rlIs_is (t := decide (dsg (x1 - x2) ≤ 0)) xr (xh.mono (by decide)) (decide_eq_decide.2 dsg_sub_le.symm)
  have b2' := rdcmp_sim (p := x1) (q := x2) (xh.1.mono (by decide)) (xh.2.mono (by decide)) ((xh.1.sub xh.2 (c := 1321) (by decide)).mono (by decide))
  have c1' := rlHas_is xr dr (xh.mono (by decide)) (dh.mono (by decide)) rfl
  have c2' := rHas_is (hx.mono (by decide)) (dh.mono (by decide)) rfl
  have d1 := rlIn_is xr yr (xh.mono (by decide)) (yh.mono (by decide)) rfl
  have d2 := rIn_is (hx.mono (by decide)) (hy.mono (by decide)) rfl
  have e1' := rlAdd_is xr yr (xh.mono (by decide)) (yh.mono (by decide)) rfl
  have e2' := rAddReal_is (hx.mono (by decide)) (hy.mono (by decide)) rfl
  have g1 := rlSub_is xr yr (xh.mono (by decide)) (yh.mono (by decide)) rfl
  have g2 := rSubReal_is (hx.mono (by decide)) (hy.mono (by decide)) rfl
  have i1 := rlMul_is (r := imul (rof (x1, x2)) (rof y)) xr yr (xh.mono (by decide)) (yh.mono (by decide)) (by rw [imul_rof, imul_rof2])
  have i2 := rMulReal_is (hx.mono (by decide)) (hy.mono (by decide)) rfl
  have j1 := rlNeg_is xr (xh.mono (by decide)) rfl
  have j2 := rNegReal_is (hx.mono (by decide)) rfl
  have m1 := rlSquare_is xr (xh.mono (by decide)) rfl
  have m2 := rPowReal_is (K := 2) 2 hx (by decide) (by decide) rfl
  have n1 := rlPow_is k xr (xh.mono (by decide)) rfl
  have n2 := rPowReal_is (K := 8) k hx K8 (by decide) rfl
  have o1 := rlAbs_is xr (xh.mono (by decide)) rfl
  have o2 := rAbsReal_is (hx.mono (by decide)) rfl
  have p1 := rlHull_is xr yr (xh.mono (by decide)) (yh.mono (by decide)) rfl
  have p2 := rHull_is (hx.mono (by decide)) (hy.mono (by decide)) rfl
  have q1 := rlSame_is xr yr (xh.mono (by decide)) (yh.mono (by decide)) rfl
  have q2 := rEqReal_is (hx.mono (show 1320 ≤ 50000 by decide)) (hy.mono (show 1320 ≤ 50000 by decide)) rfl
  have Eq : ∀ z : Cq, Hc 50000 z → Sim Tryz.prog G0 true 54 [cxD z, cxD z] (.bool true) := fun z hz => rEqReal_is hz hz (decide_eq_true rfl)
  have r1 := Eq _ ((hx.iadd hy (c := 1321) (by decide)).mono (by decide))
  have r2 := Eq _ ((hx.isub hy (c := 1321) (by decide)).mono (by decide))
  have r3 := Eq _ ((hx.imul hy (c := 2640) (by decide)).mono (by decide))
  have r4 := Eq _ (hx.ineg.mono (by decide))
  have r5 := Eq _ ((hx.ipow 2 (k := 2) (c := 2641) (by decide) (by decide)).mono (by decide))
  have r6 := Eq _ ((hx.ipow k K8 (c := 10561) (by decide)).mono (by decide))
  have r7 := Eq _ (hx.iabs.mono (by decide))
  have r8 := Eq _ ((hx.ihull hy).mono (by decide))
  have r9 := Eq _ (hw.mono (by decide))
  generalize iadd (rof (x1, x2)) (rof y) = Z1 at *
  generalize isub (rof (x1, x2)) (rof y) = Z2 at *
  generalize imul (rof (x1, x2)) (rof y) = Z3 at *
  generalize ineg (rof (x1, x2)) = Z4 at *
  generalize ipow (rof (x1, x2)) 2 = Z5 at *
  generalize ipow (rof (x1, x2)) k = Z6 at *
  generalize iabs (rof (x1, x2)) = Z7 at *
  generalize ihull (rof (x1, x2)) (rof y) = Z8 at *
  generalize decide (ihas (rof (x1, x2)) d) = t1 at *
  generalize decide (iin (rof (x1, x2)) (rof y)) = t2 at *
  generalize decide (rof (x1, x2) = rof y) = t3 at *
  generalize rof (x1, x2) = X at *
  generalize rof y = Y at *
  obtain ⟨_, _⟩ := X
  obtain ⟨_, _⟩ := Y
  obtain ⟨_, _⟩ := w
  obtain ⟨_, _⟩ := Z1
  obtain ⟨_, _⟩ := Z2
  obtain ⟨_, _⟩ := Z3
  obtain ⟨_, _⟩ := Z4
  obtain ⟨_, _⟩ := Z5
  obtain ⟨_, _⟩ := Z6
  obtain ⟨_, _⟩ := Z7
  obtain ⟨_, _⟩ := Z8
  refine sim_mk tab_ok Tryz.func5 rfl (by kernel_rfl) rfl ⟨Nat.le_of_ble_eq_true rfl, Nat.le_of_ble_eq_true rfl⟩ ?_
  repeat' ((conv => whnf); first
    | with_reducible refine CallX.data ?_
    | refine RegE.lateS (ps := [(6, 3)]) rfl (by kernel_rfl) ?_ rfl
    | refine CallE.mk _ _ (known7_sim) ?_
    | refine CallE.mk _ _ (sf) ?_
    | refine CallE.mk _ _ (sg) ?_
    | refine CallE.mk _ _ (sd) ?_
    | refine CallE.mk _ _ (A) ?_
    | refine CallE.mk _ _ (B) ?_
    | refine CallE.mk _ _ (a1) ?_
    | refine CallE.mk _ _ (a2) ?_
    | refine CallE.mk _ _ (b1') ?_
    | refine CallE.mk _ _ (xm1) ?_
    | refine CallE.mk _ _ (xm2) ?_
    | refine CallE.mk _ _ (b2') ?_
    | refine CallE.mk _ _ (c1') ?_
    | refine CallE.mk _ _ (dm) ?_
    | refine CallE.mk _ _ (c2') ?_
    | refine CallE.mk _ _ (d1) ?_
    | refine CallE.mk _ _ (d2) ?_
    | refine CallE.mk _ _ (e1') ?_
    | refine CallE.mk _ _ (e2') ?_
    | refine CallE.mk _ _ (r1) ?_
    | refine CallE.mk _ _ (g1) ?_
    | refine CallE.mk _ _ (g2) ?_
    | refine CallE.mk _ _ (r2) ?_
    | refine CallE.mk _ _ (i1) ?_
    | refine CallE.mk _ _ (i2) ?_
    | refine CallE.mk _ _ (r3) ?_
    | refine CallE.mk _ _ (j1) ?_
    | refine CallE.mk _ _ (j2) ?_
    | refine CallE.mk _ _ (r4) ?_
    | refine CallE.mk _ _ (m1) ?_
    | refine CallE.mk _ _ (m2) ?_
    | refine CallE.mk _ _ (r5) ?_
    | refine CallE.mk _ _ (n1) ?_
    | refine CallE.mk _ _ (n2) ?_
    | refine CallE.mk _ _ (r6) ?_
    | refine CallE.mk _ _ (o1) ?_
    | refine CallE.mk _ _ (o2) ?_
    | refine CallE.mk _ _ (r7) ?_
    | refine CallE.mk _ _ (p1) ?_
    | refine CallE.mk _ _ (p2) ?_
    | refine CallE.mk _ _ (r8) ?_
    | refine CallE.mk _ _ (r9) ?_
    | refine CallE.mk _ _ (q1) ?_
    | refine CallE.mk _ _ (q2) ?_
    | refine RegE.early (Cd.mk (show regOk _ _ _ _ = true by kernel_rfl) ?_)
    | refine Cd.mk rfl ?_
    | refine Br.t ?_
    | refine Br.f ?_
    | with_reducible refine Br.eqb ?_
    | refine NthE.mk _ rfl ?_
    | (refine TkE.fL ?_; (conv => whnf); fail_if_success (show forceL _ _))
    | refine Res.mk ?_
    | refine LateE.mk (by repeat first | exact True.intro | refine And.intro (by kernel_rfl) ?_) ?_
    | ((with_reducible refine EqE.idI ?_); refine EqE.mk k ((min_eq _ _).trans hk) ?_)
    | ((with_reducible refine EqE.idS ?_); (refine EqE.fP ?_; (conv => whnf); fail_if_success (show forceL _ _)))
    | refine Cd.mk (Nat.le_of_ble_eq_true rfl) ?_)
  exact congrArg D.bool (beq_self_eq_true t3).symm
end Go.Ev.Ar

namespace Go.Ev.Ar
open Go Go.Ev Go.Proofs

set_option maxRecDepth 10000 in
set_option maxHeartbeats 8000000 in
theorem realrounds_sim (r s : RC) (p : Int) : Sim Tryz.prog G0 true 6 [.agg r.cells, .agg s.cells, .int .i64 p] (.bool true) := by
  have sf := fewreal7_sim r
  have sg := fewreal7_sim s
  have fr := few_cx (r := r)
  have fs := few_cx (r := s)
  obtain ⟨b1, l1, e1, c1, k1, f1⟩ := r
  obtain ⟨b2, l2, e2, c2, k2, f2⟩ := s
  cases h1 : RC.few 10 1000 ⟨b1, l1, e1, c1, k1, f1⟩
  · rw [h1] at sf
    refine sim_mk tab_ok Tryz.func6 rfl (by kernel_rfl) rfl ⟨Nat.le_of_ble_eq_true rfl, Nat.le_of_ble_eq_true rfl⟩ ?_
    repeat' ((conv => whnf); first
      | with_reducible refine CallX.data ?_
      | refine CallE.mk _ _ (known7_sim) ?_
      | refine CallE.mk _ _ (sf) ?_
      | refine RegE.early (Cd.mk (show regOk _ _ _ _ = true by kernel_rfl) ?_)
      | refine Cd.mk rfl ?_
      | refine Br.t ?_
      | refine Br.f ?_
      | (refine TkE.fL ?_; (conv => whnf); fail_if_success (show forceL _ _))
      | refine Res.mk ?_)
    rfl
  rw [h1] at sf
  cases h2 : RC.few 10 1000 ⟨b2, l2, e2, c2, k2, f2⟩
  · rw [h2] at sg
    refine sim_mk tab_ok Tryz.func6 rfl (by kernel_rfl) rfl ⟨Nat.le_of_ble_eq_true rfl, Nat.le_of_ble_eq_true rfl⟩ ?_
    repeat' ((conv => whnf); first
      | with_reducible refine CallX.data ?_
      | refine CallE.mk _ _ (known7_sim) ?_
      | refine CallE.mk _ _ (sf) ?_
      | refine CallE.mk _ _ (sg) ?_
      | refine RegE.early (Cd.mk (show regOk _ _ _ _ = true by kernel_rfl) ?_)
      | refine Cd.mk rfl ?_
      | refine Br.t ?_
      | refine Br.f ?_
      | (refine TkE.fL ?_; (conv => whnf); fail_if_success (show forceL _ _))
      | refine Res.mk ?_)
    rfl
  rw [h2] at sg
  by_cases hp : p > 300 ∧ p ≤ 4000
  · obtain ⟨hp1, hp2⟩ := hp
    refine sim_mk tab_ok Tryz.func6 rfl (by kernel_rfl) rfl ⟨Nat.le_of_ble_eq_true rfl, Nat.le_of_ble_eq_true rfl⟩ ?_
    repeat' ((conv => whnf); first
      | with_reducible refine CallX.data ?_
      | with_reducible refine Br.dec (fun _ => ?_) (fun h => absurd (by omega) h)
      | refine CallE.mk _ _ (known7_sim) ?_
      | refine CallE.mk _ _ (sf) ?_
      | refine CallE.mk _ _ (sg) ?_
      | refine RegE.early (Cd.mk (show regOk _ _ _ _ = true by kernel_rfl) ?_)
      | refine Cd.mk rfl ?_
      | refine Br.t ?_
      | refine Br.f ?_
      | (refine TkE.fL ?_; (conv => whnf); fail_if_success (show forceL _ _))
      | refine Res.mk ?_)
    rfl
  obtain ⟨xr, xf, xh⟩ := fr h1
  obtain ⟨yr, yf, yh⟩ := fs h2
  generalize RC.val ⟨b1, l1, e1, c1, k1, f1⟩ = x at xr xf xh
  generalize RC.val ⟨b2, l2, e2, c2, k2, f2⟩ = y at yr yf yh
  have ox := rof_ord x
  have oy := rof_ord y
  have hx := xh.rof
  have hy := yh.rof
  obtain ⟨k, hk⟩ : ∃ k, min p 300 = k := ⟨_, rfl⟩
  have k3 : k ≤ 300 := by omega
  have A := rReal_is xf (xh.mono (by decide)) rfl
  have B := rReal_is yf (yh.mono (by decide)) rfl
  obtain ⟨⟨I, i⟩, hI⟩ : ∃ m, iinvE (rof y) k = m := ⟨_, rfl⟩
  obtain ⟨⟨Q, q⟩, hQ⟩ : ∃ m, idivE (rof x) (rof y) k = m := ⟨_, rfl⟩
  have a1 := rlInv_is k yr (yh.mono (by decide)) hI
  have a2 := rInv_is k oy (hy.mono (by decide)) k3 hI
  have b1' := rlDiv_is k xr yr (xh.mono (by decide)) (yh.mono (by decide)) hQ
  have b2' := rDivReal_is k oy (hx.mono (by decide)) (hy.mono (by decide)) k3 hQ
  have c1' := rlRound_is k xr (xh.mono (by decide)) rfl
  have c2' := rRoundReal_is k (hx.mono (by decide)) rfl
  have hIt : Hc 2000 I := by
    have h := hy.iinvE (p := k) (K := 300) (by omega)
    rw [hI] at h; exact h.mono (by decide)
  have hQt : Hc 4000 Q := by
    have h := hx.idivE hy (p := k) (K := 300) (by omega)
    rw [hQ] at h; exact h.mono (by decide)
  have hRt : Hc 2000 (iround (rof x) k) := (hx.iround (K := 300) (by omega)).mono (by decide)
  have Eq : ∀ z : Cq, Hc 50000 z → Sim Tryz.prog G0 true 54 [cxD z, cxD z] (.bool true) := fun z hz => rEqReal_is hz hz (decide_eq_true rfl)
  have r1 := Eq _ (hIt.mono (by decide))
  have r2 := Eq _ (hQt.mono (by decide))
  have r3 := Eq _ (hRt.mono (by decide))
  generalize iround (rof x) k = R at *
  generalize rof x = X at *
  generalize rof y = Y at *
  obtain ⟨_, _⟩ := X
  obtain ⟨_, _⟩ := Y
  obtain ⟨_, _⟩ := I
  obtain ⟨_, _⟩ := Q
  obtain ⟨_, _⟩ := R
  by_cases hp1 : p > 300
  · refine sim_mk tab_ok Tryz.func6 rfl (by kernel_rfl) rfl ⟨Nat.le_of_ble_eq_true rfl, Nat.le_of_ble_eq_true rfl⟩ ?_
    repeat' ((conv => whnf); first
      | with_reducible refine CallX.data ?_
      | refine RegE.lateS (ps := [(6, 3)]) rfl (by kernel_rfl) ?_ rfl
      | with_reducible refine Br.dec (fun _ => ?_) (fun h => absurd (by omega) h)
      | with_reducible refine Br.dec (fun h => absurd h (by omega)) (fun _ => ?_)
      | refine CallE.mk _ _ (known7_sim) ?_
      | refine CallE.mk _ _ (sf) ?_
      | refine CallE.mk _ _ (sg) ?_
      | refine CallE.mk _ _ (A) ?_
      | refine CallE.mk _ _ (B) ?_
      | refine CallE.mk _ _ (a1) ?_
      | refine CallE.mk _ _ (a2) ?_
      | refine CallE.mk _ _ (b1') ?_
      | refine CallE.mk _ _ (b2') ?_
      | refine CallE.mk _ _ (c1') ?_
      | refine CallE.mk _ _ (c2') ?_
      | refine CallE.mk _ _ (r1) ?_
      | refine CallE.mk _ _ (r2) ?_
      | refine CallE.mk _ _ (r3) ?_
      | refine RegE.early (Cd.mk (show regOk _ _ _ _ = true by kernel_rfl) ?_)
      | refine Cd.mk rfl ?_
      | refine Br.t ?_
      | refine Br.f ?_
      | refine NthE.mk _ rfl ?_
      | (refine TkE.fL ?_; (conv => whnf); fail_if_success (show forceL _ _))
      | refine Res.mk ?_
      | refine LateE.mk (by repeat first | exact True.intro | refine And.intro (by kernel_rfl) ?_) ?_
      | ((with_reducible refine EqE.idI ?_); refine EqE.mk k ((min_eq _ _).trans hk) ?_)
      | ((with_reducible refine EqE.idS ?_); (refine EqE.fP ?_; (conv => whnf); fail_if_success (show forceL _ _)))
      | refine Cd.mk (Nat.le_of_ble_eq_true rfl) ?_)
    exact congrArg D.bool (decide_eq_true rfl).symm
  · refine sim_mk tab_ok Tryz.func6 rfl (by kernel_rfl) rfl ⟨Nat.le_of_ble_eq_true rfl, Nat.le_of_ble_eq_true rfl⟩ ?_
    repeat' ((conv => whnf); first
      | with_reducible refine CallX.data ?_
      | refine RegE.lateS (ps := [(6, 3)]) rfl (by kernel_rfl) ?_ rfl
      | with_reducible refine Br.dec (fun _ => ?_) (fun h => absurd (by omega) h)
      | with_reducible refine Br.dec (fun h => absurd h (by omega)) (fun _ => ?_)
      | refine CallE.mk _ _ (known7_sim) ?_
      | refine CallE.mk _ _ (sf) ?_
      | refine CallE.mk _ _ (sg) ?_
      | refine CallE.mk _ _ (A) ?_
      | refine CallE.mk _ _ (B) ?_
      | refine CallE.mk _ _ (a1) ?_
      | refine CallE.mk _ _ (a2) ?_
      | refine CallE.mk _ _ (b1') ?_
      | refine CallE.mk _ _ (b2') ?_
      | refine CallE.mk _ _ (c1') ?_
      | refine CallE.mk _ _ (c2') ?_
      | refine CallE.mk _ _ (r1) ?_
      | refine CallE.mk _ _ (r2) ?_
      | refine CallE.mk _ _ (r3) ?_
      | refine RegE.early (Cd.mk (show regOk _ _ _ _ = true by kernel_rfl) ?_)
      | refine Cd.mk rfl ?_
      | refine Br.t ?_
      | refine Br.f ?_
      | refine NthE.mk _ rfl ?_
      | (refine TkE.fL ?_; (conv => whnf); fail_if_success (show forceL _ _))
      | refine Res.mk ?_
      | refine LateE.mk (by repeat first | exact True.intro | refine And.intro (by kernel_rfl) ?_) ?_
      | ((with_reducible refine EqE.idI ?_); refine EqE.mk k ((min_eq _ _).trans hk) ?_)
      | ((with_reducible refine EqE.idS ?_); (refine EqE.fP ?_; (conv => whnf); fail_if_success (show forceL _ _)))
      | refine Cd.mk (Nat.le_of_ble_eq_true rfl) ?_)
    exact congrArg D.bool (decide_eq_true rfl).symm
end Go.Ev.Ar

namespace Go.Ev.Ar
open Go Go.Ev Go.Proofs

theorem n_rem100 (n : Nat) : (n : Int).tmod 100 = ((n % 100 : Nat) : Int) := n_rem n 100
theorem n_rem7 (n : Nat) : (n : Int).tmod 7 = ((n % 7 : Nat) : Int) := n_rem n 7
theorem rlHas_o {z : Cq} {d : Dyadic} (hz : Hc 1000000 z) (hd : Ht 1000000 d) (oz : Ord z) (h : ihas z d) : Sim Tryz.prog G0 true 50 [cxD z, dyD d] (.bool true) :=
  rlHas_is (.of (hz.mono (by decide))) (.of (hd.mono (by decide))) hz hd (by rw [rof_self oz]; exact decide_eq_true h)
theorem rdpow_atK {p r : Dyadic} {H K : Nat} (n : Int) (hp : Ht H p) (hK : clampP n ≤ K) (hb : H * K + 1 + H ≤ 50000) (h : p ^ clampP n = r) : Sim Tryz.prog G0 false 79 [dyD p, .int .i64 n] (dyD r) := h ▸ rdpow_simK n hp hK hb
/-- Between the lesser and the greater one. -/
theorem between {l h a : Dyadic} (k : (l ≤ a ∧ a ≤ h) ∨ (h ≤ a ∧ a ≤ l)) : ihas (mn l h, mx l h) a := by
  unfold ihas mn mx; dsimp only; grind
set_option maxRecDepth 10000 in
set_option maxHeartbeats 8000000 in
theorem realholds_sim (r s : RC) (b : Bool) (l : List UInt32) (e : Int) (c : Bool) (k : List UInt32) (f : Int) (m n : Nat) (hm : m < 256) (hn : n < 256) : Sim Tryz.prog G0 true 7 [.agg r.cells, .agg s.cells, .agg [.bool b, sl l, .int .i64 e], .agg [.bool c, sl k, .int .i64 f], .int .u8 m, .int .u8 n] (.bool true) := by
  have sf := fewreal7_sim r
  have sg := fewreal7_sim s
  have sd := few7_sim b l e
  have se := few7_sim c k f
  have fr := few_cx (r := r)
  have fs := few_cx (r := s)
  have fd := few7_dy (b := b) (l := l) (e := e)
  have fe := few7_dy (b := c) (l := k) (e := f)
  obtain ⟨b1, l1, e1, c1, k1, f1⟩ := r
  obtain ⟨b2, l2, e2, c2, k2, f2⟩ := s
  cases h1 : RC.few 10 1000 ⟨b1, l1, e1, c1, k1, f1⟩
  · rw [h1] at sf
    refine sim_mk tab_ok Tryz.func7 rfl (by kernel_rfl) rfl ⟨Nat.le_of_ble_eq_true rfl, Nat.le_of_ble_eq_true rfl⟩ ?_
    repeat' ((conv => whnf); first
      | with_reducible refine CallX.data ?_
      | refine CallE.mk _ _ (known7_sim) ?_
      | refine CallE.mk _ _ (sf) ?_
      | refine RegE.early (Cd.mk (show regOk _ _ _ _ = true by kernel_rfl) ?_)
      | refine Cd.mk rfl ?_
      | refine Br.t ?_
      | refine Br.f ?_
      | (refine TkE.fL ?_; (conv => whnf); fail_if_success (show forceL _ _))
      | refine Res.mk ?_)
    rfl
  rw [h1] at sf
  cases h2 : RC.few 10 1000 ⟨b2, l2, e2, c2, k2, f2⟩
  · rw [h2] at sg
    refine sim_mk tab_ok Tryz.func7 rfl (by kernel_rfl) rfl ⟨Nat.le_of_ble_eq_true rfl, Nat.le_of_ble_eq_true rfl⟩ ?_
    repeat' ((conv => whnf); first
      | with_reducible refine CallX.data ?_
      | refine CallE.mk _ _ (known7_sim) ?_
      | refine CallE.mk _ _ (sf) ?_
      | refine CallE.mk _ _ (sg) ?_
      | refine RegE.early (Cd.mk (show regOk _ _ _ _ = true by kernel_rfl) ?_)
      | refine Cd.mk rfl ?_
      | refine Br.t ?_
      | refine Br.f ?_
      | (refine TkE.fL ?_; (conv => whnf); fail_if_success (show forceL _ _))
      | refine Res.mk ?_)
    rfl
  rw [h2] at sg
  cases h3 : fewD 10 1000 l e
  · rw [h3] at sd
    refine sim_mk tab_ok Tryz.func7 rfl (by kernel_rfl) rfl ⟨Nat.le_of_ble_eq_true rfl, Nat.le_of_ble_eq_true rfl⟩ ?_
    repeat' ((conv => whnf); first
      | with_reducible refine CallX.data ?_
      | refine CallE.mk _ _ (known7_sim) ?_
      | refine CallE.mk _ _ (sf) ?_
      | refine CallE.mk _ _ (sg) ?_
      | refine CallE.mk _ _ (sd) ?_
      | refine RegE.early (Cd.mk (show regOk _ _ _ _ = true by kernel_rfl) ?_)
      | refine Cd.mk rfl ?_
      | refine Br.t ?_
      | refine Br.f ?_
      | (refine TkE.fL ?_; (conv => whnf); fail_if_success (show forceL _ _))
      | refine Res.mk ?_)
    rfl
  rw [h3] at sd
  cases h4 : fewD 10 1000 k f
  · rw [h4] at se
    refine sim_mk tab_ok Tryz.func7 rfl (by kernel_rfl) rfl ⟨Nat.le_of_ble_eq_true rfl, Nat.le_of_ble_eq_true rfl⟩ ?_
    repeat' ((conv => whnf); first
      | with_reducible refine CallX.data ?_
      | refine CallE.mk _ _ (known7_sim) ?_
      | refine CallE.mk _ _ (sf) ?_
      | refine CallE.mk _ _ (sg) ?_
      | refine CallE.mk _ _ (sd) ?_
      | refine CallE.mk _ _ (se) ?_
      | refine RegE.early (Cd.mk (show regOk _ _ _ _ = true by kernel_rfl) ?_)
      | refine Cd.mk rfl ?_
      | refine Br.t ?_
      | refine Br.f ?_
      | (refine TkE.fL ?_; (conv => whnf); fail_if_success (show forceL _ _))
      | refine Res.mk ?_)
    rfl
  rw [h4] at se
  obtain ⟨xr, xf, xh⟩ := fr h1
  obtain ⟨yr, yf, yh⟩ := fs h2
  obtain ⟨dr, df, dh, dm⟩ := fd h3
  obtain ⟨er, ef, eh, em⟩ := fe h4
  generalize RC.val ⟨b1, l1, e1, c1, k1, f1⟩ = x at xr xf xh
  generalize RC.val ⟨b2, l2, e2, c2, k2, f2⟩ = y at yr yf yh
  generalize dof (zv b l) e = u at *
  generalize dof (zv c k) f = v at *
  have ox := rof_ord x
  have oy := rof_ord y
  have hx := xh.rof
  have hy := yh.rof
  cases g1 : decide (ihas (rof x) u)
  · have a1 := rlHas_is xr dr (xh.mono (by decide)) (dh.mono (by decide)) g1
    refine sim_mk tab_ok Tryz.func7 rfl (by kernel_rfl) rfl ⟨Nat.le_of_ble_eq_true rfl, Nat.le_of_ble_eq_true rfl⟩ ?_
    repeat' ((conv => whnf); first
      | with_reducible refine CallX.data ?_
      | refine CallE.mk _ _ (known7_sim) ?_
      | refine CallE.mk _ _ (sf) ?_
      | refine CallE.mk _ _ (sg) ?_
      | refine CallE.mk _ _ (sd) ?_
      | refine CallE.mk _ _ (se) ?_
      | refine CallE.mk _ _ (a1) ?_
      | refine RegE.early (Cd.mk (show regOk _ _ _ _ = true by kernel_rfl) ?_)
      | refine Cd.mk rfl ?_
      | refine Br.t ?_
      | refine Br.f ?_
      | (refine TkE.fL ?_; (conv => whnf); fail_if_success (show forceL _ _))
      | refine Res.mk ?_)
    rfl
  have a1 := rlHas_is xr dr (xh.mono (by decide)) (dh.mono (by decide)) g1
  cases g2 : decide (ihas (rof y) v)
  · have a2 := rlHas_is yr er (yh.mono (by decide)) (eh.mono (by decide)) g2
    refine sim_mk tab_ok Tryz.func7 rfl (by kernel_rfl) rfl ⟨Nat.le_of_ble_eq_true rfl, Nat.le_of_ble_eq_true rfl⟩ ?_
    repeat' ((conv => whnf); first
      | with_reducible refine CallX.data ?_
      | refine CallE.mk _ _ (known7_sim) ?_
      | refine CallE.mk _ _ (sf) ?_
      | refine CallE.mk _ _ (sg) ?_
      | refine CallE.mk _ _ (sd) ?_
      | refine CallE.mk _ _ (se) ?_
      | refine CallE.mk _ _ (a1) ?_
      | refine CallE.mk _ _ (a2) ?_
      | refine RegE.early (Cd.mk (show regOk _ _ _ _ = true by kernel_rfl) ?_)
      | refine Cd.mk rfl ?_
      | refine Br.t ?_
      | refine Br.f ?_
      | (refine TkE.fL ?_; (conv => whnf); fail_if_success (show forceL _ _))
      | refine Res.mk ?_)
    rfl
  have a2 := rlHas_is yr er (yh.mono (by decide)) (eh.mono (by decide)) g2
  have g1 := of_decide_eq_true g1
  have g2 := of_decide_eq_true g2
  obtain ⟨P, hP⟩ : ∃ P : Int, P = ((m % 100 : Nat) : Int) + 1 := ⟨_, rfl⟩
  obtain ⟨K, hK⟩ : ∃ K : Int, K = ((n % 7 : Nat) : Int) := ⟨_, rfl⟩
  have K6 : clampP K ≤ 6 := by rw [hK]; unfold clampP; omega
  have P1 : min (max P 1) 4000 ≤ 100 := by omega
  obtain ⟨⟨Q, q⟩, hQ⟩ : ∃ m, idivE (rof x) (rof y) P = m := ⟨_, rfl⟩
  have b1' := rlAdd_is xr yr (xh.mono (by decide)) (yh.mono (by decide)) rfl
  have b2' := rdadd_sim (p := u) (q := v) (dh.mono (by decide)) (eh.mono (by decide))
  have b3' := rlHas_o ((hx.iadd hy (c := 1321) (by decide)).mono (by decide)) ((dh.add eh (c := 1321) (by decide)).mono (by decide)) (iadd_ord ox oy) (ihas_add g1 g2)
  have c1' := rlSub_is xr yr (xh.mono (by decide)) (yh.mono (by decide)) rfl
  have c2' := rdsub_sim (p := u) (q := v) (dh.mono (by decide)) (eh.mono (by decide))
  have c3' := rlHas_o ((hx.isub hy (c := 1321) (by decide)).mono (by decide)) ((dh.sub eh (c := 1321) (by decide)).mono (by decide)) (isub_ord ox oy) (ihas_sub g1 g2)
  have d1 := rlMul_is (r := imul (rof x) (rof y)) xr yr (xh.mono (by decide)) (yh.mono (by decide)) (by rw [imul_rof, imul_rof2])
  have d2 := rdmul_sim (p := u) (q := v) (dh.mono (by decide)) (eh.mono (by decide))
  have d3 := rlHas_o ((hx.imul hy (c := 2640) (by decide)).mono (by decide)) ((dh.mul eh (c := 2640) (by decide)).mono (by decide)) (imul_ord _ _) (ihas_mul g1 g2)
  have i1 := rlPow_is K xr (xh.mono (by decide)) rfl
  have i2 := rdpow_atK K dh K6 (by decide) rfl
  have i3 := rlHas_o ((hx.ipow K K6 (c := 7921) (by decide)).mono (by decide)) (((dh.pow (clampP K)).mono (show 1320 * clampP K + 1 ≤ 7921 by omega)).mono (by decide)) (ipow_ord K ox) (ihas_pow K g1)
  have j1 := rlAbs_is xr (xh.mono (by decide)) rfl
  have j2 := rdabs_sim (dh.mono (show 1320 ≤ 50000 by decide))
  have j3 := rlHas_o (hx.iabs.mono (by decide)) (dh.abs.mono (by decide)) (iabs_ord ox) (ihas_abs g1)
  have m1 := rlRound_is P xr (xh.mono (by decide)) rfl
  have m3 := rlHas_o ((hx.iround P1).mono (by decide)) (dh.mono (by decide)) (iround_ord P ox) (iin_has (iround_in _ P) g1)
  have n1 := rlHull_is xr yr (xh.mono (by decide)) (yh.mono (by decide)) rfl
  have n3 := rlHas_o ((hx.ihull hy).mono (by decide)) (eh.mono (by decide)) (ihull_ord ox oy) (ihas_hull_r _ g2)
  have p1 := rlDiv_is P xr yr (xh.mono (by decide)) (yh.mono (by decide)) hQ
  have hQt : Hc 4000 Q := by
    have h := hx.idivE hy P1
    rw [hQ] at h; exact h.mono (by decide)
  unfold idivE at hQ
  generalize iadd (rof x) (rof y) = Z1 at *
  generalize isub (rof x) (rof y) = Z2 at *
  generalize imul (rof x) (rof y) = Z3 at *
  generalize ipow (rof x) K = Z4 at *
  generalize iabs (rof x) = Z5 at *
  generalize ihull (rof x) (rof y) = Z7 at *
  generalize u ^ clampP K = w4 at *
  obtain ⟨_, _⟩ := Z1
  obtain ⟨_, _⟩ := Z2
  obtain ⟨_, _⟩ := Z3
  obtain ⟨_, _⟩ := Z4
  obtain ⟨_, _⟩ := Z5
  obtain ⟨_, _⟩ := Z7
  by_cases g0 : ihas (rof y) 0
  · rw [if_pos g0] at hQ; cases hQ
    have p2 := rlHas_is yr dy0 (yh.mono (by decide)) (Ht.zero _) (decide_eq_true g0)
    generalize iround (rof x) P = Z6 at *
    obtain ⟨_, _⟩ := Z6
    refine sim_mk tab_ok Tryz.func7 rfl (by kernel_rfl) rfl ⟨Nat.le_of_ble_eq_true rfl, Nat.le_of_ble_eq_true rfl⟩ ?_
    repeat' ((conv => whnf); first
      | with_reducible refine CallX.data ?_
      | refine RegE.lateS (ps := [(12, 5), (12, 6), (12, 7), (12, 8), (12, 9)]) rfl (by kernel_rfl) ?_ rfl
      | refine CallE.mk _ _ (known7_sim) ?_
      | refine CallE.mk _ _ (sf) ?_
      | refine CallE.mk _ _ (sg) ?_
      | refine CallE.mk _ _ (sd) ?_
      | refine CallE.mk _ _ (se) ?_
      | refine CallE.mk _ _ (a1) ?_
      | refine CallE.mk _ _ (a2) ?_
      | refine CallE.mk _ _ (dm) ?_
      | refine CallE.mk _ _ (em) ?_
      | refine CallE.mk _ _ (b1') ?_
      | refine CallE.mk _ _ (b2') ?_
      | refine CallE.mk _ _ (b3') ?_
      | refine CallE.mk _ _ (c1') ?_
      | refine CallE.mk _ _ (c2') ?_
      | refine CallE.mk _ _ (c3') ?_
      | refine CallE.mk _ _ (d1) ?_
      | refine CallE.mk _ _ (d2) ?_
      | refine CallE.mk _ _ (d3) ?_
      | refine CallE.mk _ _ (i1) ?_
      | refine CallE.mk _ _ (i2) ?_
      | refine CallE.mk _ _ (i3) ?_
      | refine CallE.mk _ _ (j1) ?_
      | refine CallE.mk _ _ (j2) ?_
      | refine CallE.mk _ _ (j3) ?_
      | refine CallE.mk _ _ (m1) ?_
      | refine CallE.mk _ _ (m3) ?_
      | refine CallE.mk _ _ (n1) ?_
      | refine CallE.mk _ _ (n3) ?_
      | refine CallE.mk _ _ (p1) ?_
      | refine CallE.mk _ _ (p2) ?_
      | refine RegE.early (Cd.mk (show regOk _ _ _ _ = true by kernel_rfl) ?_)
      | refine Cd.mk rfl ?_
      | refine Br.t ?_
      | refine Br.f ?_
      | refine NthE.mk _ rfl ?_
      | (refine TkE.fL ?_; (conv => whnf); fail_if_success (show forceL _ _))
      | refine Res.mk ?_
      | refine LateE.mk (by repeat first | exact True.intro | refine And.intro (by kernel_rfl) ?_) ?_
      | ((with_reducible refine EqE.idW ?_); first | refine EqE.mk P (by rw [wrap_in (by omega) (by omega)]; exact hP.symm) ?_ | refine EqE.mk K (by rw [wrap_in (by omega) (by omega)]; exact hK.symm) ?_ | with_reducible refine EqE.mk _ (n_i64 _ (by omega)) ?_)
      | ((with_reducible refine EqE.idM ?_); first | refine EqE.mk _ (n_rem100 _) ?_ | refine EqE.mk _ (n_rem7 _) ?_)
      | ((with_reducible refine EqE.idS ?_); (refine EqE.fP ?_; (conv => whnf); fail_if_success (show forceL _ _)))
      | refine Cd.mk (Nat.le_of_ble_eq_true rfl) ?_
      | refine Cd.mk (by first | omega | (simp only [length_limbs, length_la]; omega)) ?_)
    rfl
  · rw [if_neg g0] at hQ; cases hQ
    have hv := iinv_has P g2 g0
    have hf := idiv_has (w := rof y) (m := iround (imul (rof x) (iinv (rof y) P)) P) g1 (iinv_ord P oy g0) (iround_in _ P) hv
    have hv0 : v ≠ 0 := fun e => g0 (e ▸ g2)
    generalize iround (imul (rof x) (iinv (rof y) P)) P = R at *
    have w1 := rdmul_sim (p := R.1) (q := v) (hQt.1.mono (by decide)) (eh.mono (by decide))
    have w2 := rdmul_sim (p := R.2) (q := v) (hQt.2.mono (by decide)) (eh.mono (by decide))
    have t1 : Ht 5320 (R.1 * v) := hQt.1.mul eh (by decide)
    have t2 : Ht 5320 (R.2 * v) := hQt.2.mul eh (by decide)
    have w3 := rMin_is (t1.mono (show 5320 ≤ 48000 by decide)) (t2.mono (by decide)) rfl
    have w4' := rMax_is (t1.mono (show 5320 ≤ 48000 by decide)) (t2.mono (by decide)) rfl
    have hb : ihas (mn (R.1 * v) (R.2 * v), mx (R.1 * v) (R.2 * v)) u := by
      refine between ?_
      rcases Classical.em (0 < v) with g | g
      · exact .inl (hf.1 g)
      · exact .inr (hf.2 (by grind))
    have w5 := rlHas_o (z := (mn (R.1 * v) (R.2 * v), mx (R.1 * v) (R.2 * v))) ⟨(t1.mn t2).mono (by decide), (t1.mx t2).mono (by decide)⟩ (dh.mono (by decide)) (ihas_ord hb) hb
    generalize mn (R.1 * v) (R.2 * v) = L1 at *
    generalize mx (R.1 * v) (R.2 * v) = L2 at *
    obtain ⟨R1, R2⟩ := R
    dsimp only at w1 w2 w3 w4'
    generalize R1 * v = V1 at *
    generalize R2 * v = V2 at *
    generalize iround (rof x) P = Z6 at *
    obtain ⟨_, _⟩ := Z6
    refine sim_mk tab_ok Tryz.func7 rfl (by kernel_rfl) rfl ⟨Nat.le_of_ble_eq_true rfl, Nat.le_of_ble_eq_true rfl⟩ ?_
    repeat' ((conv => whnf); first
      | with_reducible refine CallX.data ?_
      | refine RegE.lateS (ps := [(12, 5), (12, 6), (12, 7), (12, 8), (12, 9)]) rfl (by kernel_rfl) ?_ rfl
      | refine RegE.lateS (ps := [(10, 4), (10, 5), (10, 6), (10, 7)]) rfl (by kernel_rfl) ?_ rfl
      | refine CallE.mk _ _ (known7_sim) ?_
      | refine CallE.mk _ _ (sf) ?_
      | refine CallE.mk _ _ (sg) ?_
      | refine CallE.mk _ _ (sd) ?_
      | refine CallE.mk _ _ (se) ?_
      | refine CallE.mk _ _ (a1) ?_
      | refine CallE.mk _ _ (a2) ?_
      | refine CallE.mk _ _ (dm) ?_
      | refine CallE.mk _ _ (em) ?_
      | refine CallE.mk _ _ (b1') ?_
      | refine CallE.mk _ _ (b2') ?_
      | refine CallE.mk _ _ (b3') ?_
      | refine CallE.mk _ _ (c1') ?_
      | refine CallE.mk _ _ (c2') ?_
      | refine CallE.mk _ _ (c3') ?_
      | refine CallE.mk _ _ (d1) ?_
      | refine CallE.mk _ _ (d2) ?_
      | refine CallE.mk _ _ (d3) ?_
      | refine CallE.mk _ _ (i1) ?_
      | refine CallE.mk _ _ (i2) ?_
      | refine CallE.mk _ _ (i3) ?_
      | refine CallE.mk _ _ (j1) ?_
      | refine CallE.mk _ _ (j2) ?_
      | refine CallE.mk _ _ (j3) ?_
      | refine CallE.mk _ _ (m1) ?_
      | refine CallE.mk _ _ (m3) ?_
      | refine CallE.mk _ _ (n1) ?_
      | refine CallE.mk _ _ (n3) ?_
      | refine CallE.mk _ _ (p1) ?_
      | refine CallE.mk _ _ (w1) ?_
      | refine CallE.mk _ _ (w2) ?_
      | refine CallE.mk _ _ (w3) ?_
      | refine CallE.mk _ _ (w4') ?_
      | refine CallE.mk _ _ (w5) ?_
      | refine RegE.early (Cd.mk (show regOk _ _ _ _ = true by kernel_rfl) ?_)
      | refine Cd.mk rfl ?_
      | refine Br.f ?_
      | refine NthE.mk _ rfl ?_
      | (refine TkE.fL ?_; (conv => whnf); fail_if_success (show forceL _ _))
      | refine Res.mk ?_
      | refine LateE.mk (by repeat first | exact True.intro | refine And.intro (by kernel_rfl) ?_) ?_
      | ((with_reducible refine EqE.idW ?_); first | refine EqE.mk P (by rw [wrap_in (by omega) (by omega)]; exact hP.symm) ?_ | refine EqE.mk K (by rw [wrap_in (by omega) (by omega)]; exact hK.symm) ?_ | with_reducible refine EqE.mk _ (n_i64 _ (by omega)) ?_)
      | ((with_reducible refine EqE.idM ?_); first | refine EqE.mk _ (n_rem100 _) ?_ | refine EqE.mk _ (n_rem7 _) ?_)
      | ((with_reducible refine EqE.idS ?_); (refine EqE.fP ?_; (conv => whnf); fail_if_success (show forceL _ _)))
      | refine Cd.mk (Nat.le_of_ble_eq_true rfl) ?_
      | refine Cd.mk (by first | omega | (simp only [length_limbs, length_la]; omega)) ?_)
    rfl
theorem realholds_at (r s : RC) (b : Bool) (l : List UInt32) (e : Int) (c : Bool) (k : List UInt32) (f : Int) (m n : Int) (h0 : 0 ≤ m) (h1 : m ≤ 255) (h2 : 0 ≤ n) (h3 : n ≤ 255) : Sim Tryz.prog G0 true 7 [.agg r.cells, .agg s.cells, .agg [.bool b, sl l, .int .i64 e], .agg [.bool c, sl k, .int .i64 f], .int .u8 m, .int .u8 n] (.bool true) := by
  obtain ⟨m, rfl⟩ := Int.eq_ofNat_of_zero_le h0
  obtain ⟨n, rfl⟩ := Int.eq_ofNat_of_zero_le h2
  exact realholds_sim r s b l e c k f m n (by omega) (by omega)
end Go.Ev.Ar
