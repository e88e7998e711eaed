/- Contracts of the given functions, on data. Conditions stand in each theorem. -/
import Derived.Test.YtlhhckpjcglinaaGreatDoorAzRRect
import Derived.Test.YtlhhckpjcglinaaGreatDoorGAzL7D
import Derived.Test.YtlhhckpjcglinaaGreatDoorGEvU
import Derived.Test.YtlhhckpjcglinaaGreatDoorGAzRectB
import Derived.Test.YtlhhckpjcglinaaGreatDoorGEvZ
set_option linter.unusedSimpArgs false
set_option linter.unusedVariables false
namespace Go.Ev.Ar
open Go Go.Ev Go.Proofs

theorem few9_sim (b : Bool) (l : List UInt32) (e : Int) : Sim Tryz.prog G0 true 161 [.agg [.bool b, sl l, .int .i64 e]] (.bool (fewD 10 1000 l e)) := by
  refine sim_mk tab_ok Tryz.func161 rfl (by kernel_rfl) rfl ⟨Nat.le_of_ble_eq_true rfl, Nat.le_of_ble_eq_true rfl⟩ ?_
  repeat' ((conv => whnf); first
    | refine RegE.early (Cd.mk (show regOk _ _ _ _ = true by kernel_rfl) ?_)
    | refine Cd.mk rfl ?_
    | refine Br.t ?_
    | refine Br.f ?_
    | with_reducible refine Br.dec (fun _ => ?_) (fun _ => ?_)
    | refine NthE.mk _ rfl ?_
    | refine Res.mk ?_)
  · rename_i h1 h2
    show D.bool _ = D.bool _
    congr 1
    unfold fewD
    rw [decide_eq_true (show l.length ≤ 10 by omega), decide_eq_true (show -1000 ≤ e by omega)]; rfl
  · rename_i h1 h2
    show D.bool _ = D.bool _
    rw [fewD_false (by omega)]
  · rename_i h1
    show D.bool _ = D.bool _
    rw [fewD_false (by omega)]
theorem fewreal9_sim (r : RC) : Sim Tryz.prog G0 true 160 [.agg r.cells] (.bool (r.few 10 1000)) := by
  obtain ⟨b, l, e, c, k, f⟩ := r
  refine sim_mk tab_ok Tryz.func160 rfl (by kernel_rfl) rfl ⟨Nat.le_of_ble_eq_true rfl, Nat.le_of_ble_eq_true rfl⟩ ?_
  repeat' ((conv => whnf); first
    | with_reducible refine CallX.data ?_
    | refine CallE.mk _ _ (few9_sim _ _ _) ?_
    | refine RegE.early (Cd.mk (show regOk _ _ _ _ = true by kernel_rfl) ?_)
    | refine Cd.mk rfl ?_
    | refine Br.t ?_
    | refine Br.f ?_
    | refine Br.mk (fun _ => ?_) (fun _ => ?_)
    | (refine TkE.fL ?_; (conv => whnf); fail_if_success (show forceL _ _))
    | refine Res.mk ?_)
  all_goals
    rename_i h
    show D.bool (_ && _) = D.bool _
    rw [h]; rfl
theorem fewcplx9_sim (r : RC) : Sim Tryz.prog G0 true 92 [.agg r.cells] (.bool (r.few 10 1000)) := by
  obtain ⟨b, l, e, c, k, f⟩ := r
  refine sim_mk tab_ok Tryz.func92 rfl (by kernel_rfl) rfl ⟨Nat.le_of_ble_eq_true rfl, Nat.le_of_ble_eq_true rfl⟩ ?_
  repeat' ((conv => whnf); first
    | with_reducible refine CallX.data ?_
    | refine CallE.mk _ _ (few9_sim _ _ _) ?_
    | refine RegE.early (Cd.mk (show regOk _ _ _ _ = true by kernel_rfl) ?_)
    | refine Cd.mk rfl ?_
    | refine Br.t ?_
    | refine Br.f ?_
    | refine Br.mk (fun _ => ?_) (fun _ => ?_)
    | (refine TkE.fL ?_; (conv => whnf); fail_if_success (show forceL _ _))
    | refine Res.mk ?_)
  all_goals
    rename_i h
    show D.bool (_ && _) = D.bool _
    rw [h]; rfl
/-- A rectangle that is given. -/
def rqcell (r s : RC) : D := .agg (r.cells ++ s.cells)
def few2 (r s : RC) : Bool := r.few 10 1000 && s.few 10 1000
theorem fewrect9_sim (r s : RC) : Sim Tryz.prog G0 true 84 [rqcell r s] (.bool (few2 r s)) := by
  have s1 := fewreal9_sim r
  have s2 := fewreal9_sim s
  obtain ⟨b, l, e, c, k, f⟩ := r
  obtain ⟨b', l', e', c', k', f'⟩ := s
  refine sim_mk tab_ok Tryz.func84 rfl (by kernel_rfl) rfl ⟨Nat.le_of_ble_eq_true rfl, Nat.le_of_ble_eq_true rfl⟩ ?_
  repeat' ((conv => whnf); first
    | with_reducible refine CallX.data ?_
    | refine CallE.mk _ _ (s1) ?_
    | refine CallE.mk _ _ (s2) ?_
    | refine RegE.early (Cd.mk (show regOk _ _ _ _ = true by kernel_rfl) ?_)
    | refine Cd.mk rfl ?_
    | refine Br.t ?_
    | refine Br.f ?_
    | refine Br.mk (fun _ => ?_) (fun _ => ?_)
    | (refine TkE.fL ?_; (conv => whnf); fail_if_success (show forceL _ _))
    | refine Res.mk ?_)
  all_goals
    rename_i h
    show D.bool (_ && _) = D.bool _
    rw [h]; rfl
theorem few_rq {r s : RC} (h : few2 r s = true) : RcR (rqcell r s) r.val s.val ∧ RcF (rqcell r s) r.val s.val ∧ Hr 1320 (r.val, s.val) := by
  unfold few2 at h
  rw [Bool.and_eq_true] at h
  have fr := few_cx h.1
  have fs := few_cx h.2
  obtain ⟨b, l, e, c, k, f⟩ := r
  obtain ⟨b', l', e', c', k', f'⟩ := s
  exact ⟨.mk fr.1 fs.1, .mk fr.2.1 fs.2.1, fr.2.2, fs.2.2⟩
def k9 (a b : Int) : Rq := (kr a a, kr b b)
theorem hk9 {a b : Int} (h : a.natAbs ≤ 8 := by decide) (h2 : b.natAbs ≤ 8 := by decide) : Hr 100 (k9 a b) := ⟨hkr h h, hkr h2 h2⟩
theorem xk9 {a b : Int} (h : a.natAbs ≤ 8 := by decide) (h2 : b.natAbs ≤ 8 := by decide) : RcR (rqD (k9 a b)) (k9 a b).1 (k9 a b).2 := RqR.of ((hk9 h h2).mono (by decide))
theorem pt9 (a b : Int) : Sim Tryz.prog G0 false 96 [cxD (dof a 0, dof b 0)] (rqD (k9 a b)) := rPoint_is (dof a 0, dof b 0)
theorem pt9_0 : Sim Tryz.prog G0 false 96 [.agg [.bool false, sl [], .int .i64 0, .bool false, sl [], .int .i64 0]] (rqD (k9 0 0)) := by
  rw [cxD_zero]; exact rPoint_is (0, 0)
theorem of9 (a b : Int) (h : a.natAbs ≤ 8 := by decide) (h2 : b.natAbs ≤ 8 := by decide) : Sim Tryz.prog G0 false 124 [.int .i64 a, .int .i64 b] (cxD (dof a 0, dof b 0)) := rof_sim a b (by omega) (by omega) (by omega) (by omega)
theorem k9_q1 : rinvE (rof2 (k9 0 0)) 10 = (((0, 0), (0, 0)), 11) := by decide +kernel
theorem k9_q2 : rinvE (rof2 (k9 0 1)) 10 = (k9 0 (-1), 0) := by decide +kernel
theorem k9_i1 : Sim Tryz.prog G0 false 86 [rqD (k9 0 0), .int .i64 10] (.tup [rqD ((0, 0), (0, 0)), .int .i64 11]) := rtInv_is 10 xk9 (Hr.mono hk9 (by decide)) k9_q1
theorem k9_i2 : Sim Tryz.prog G0 false 86 [rqD (k9 0 1), .int .i64 10] (.tup [rqD (k9 0 (-1)), .int .i64 0]) := rtInv_is 10 xk9 (Hr.mono hk9 (by decide)) k9_q2
theorem k9_m : Sim Tryz.prog G0 false 103 [rqD (k9 0 1), rqD (k9 0 (-1))] (.tup [rqD ((0, 0), (0, 0)), .bool false]) := rtMeet_is xk9 xk9 (Hc.mono hkr (by decide)) (Hc.mono hkr (by decide)) (Hc.mono hkr (by decide)) (Hc.mono hkr (by decide)) (by decide)
theorem k9_has : Sim Tryz.prog G0 true 99 [rqD (k9 0 (-1)), cxD (dof 0 0, dof (-1) 0)] (.bool true) := rtHas_is xk9 (kx (by decide) (by decide)) (Hc.mono hkr (by decide)) (Hc.mono hkr (by decide)) ((hc_kz (by decide) (by decide)).mono (by decide)) (by decide)
theorem k9_is : Sim Tryz.prog G0 true 159 [rqD (k9 0 1)] (.bool true) := rtIs_is xk9 (Hr.mono hk9 (by decide)) (by decide)
theorem k9_sq : Sim Tryz.prog G0 false 107 [rqD (k9 0 1)] (rqD (k9 (-1) 0)) := rtSquare_is xk9 (Hr.mono hk9 (by decide)) (by decide)
theorem k9_e1 : Sim Tryz.prog G0 true 31 [rqD (k9 (-1) 0), rqD (k9 (-1) 0)] (.bool true) := rEqRect_is (Hr.mono hk9 (by decide)) (Hr.mono hk9 (by decide)) (decide_eq_true rfl)
theorem k9_mid : Sim Tryz.prog G0 false 109 [rqD (k9 0 1)] (cxD (dof 0 0, dof 1 0)) := rtMiddle_is xk9 (Hr.mono hk9 (by decide)) (by decide)
theorem k9_e2 : Sim Tryz.prog G0 true 116 [cxD (dof 0 0, dof 1 0), cxD (dof 0 0, dof 1 0)] (.bool true) := rEq8_is ((hc_kz (by decide) (by decide)).mono (by decide)) ((hc_kz (by decide) (by decide)).mono (by decide)) (decide_eq_true rfl)
theorem k9_n : Sim Tryz.prog G0 false 101 [rqD (k9 0 1)] (cxD (dof 1 0, dof 1 0)) := rtNorm_is xk9 (Hr.mono hk9 (by decide)) (by decide)
theorem k9_e3 : Sim Tryz.prog G0 true 54 [cxD (dof 1 0, dof 1 0), cxD (dof 1 0, dof 1 0)] (.bool true) := rEqReal_is ((hc_kz (by decide) (by decide)).mono (by decide)) ((hc_kz (by decide) (by decide)).mono (by decide)) (decide_eq_true rfl)
theorem k9_s : Sim Tryz.prog G0 true 105 [rqD (k9 0 1), rqD (k9 0 1)] (.bool true) := rtSame_is xk9 xk9 (Hr.mono hk9 (by decide)) (Hr.mono hk9 (by decide)) (decide_eq_true rfl)
set_option maxHeartbeats 4000000 in
theorem known9_sim : Sim Tryz.prog G0 true 83 [] (.bool true) := by
  refine sim_mk tab_ok Tryz.func83 rfl (by kernel_rfl) rfl ⟨Nat.le_of_ble_eq_true rfl, Nat.le_of_ble_eq_true rfl⟩ ?_
  repeat' ((conv => whnf); first
    | with_reducible refine CallX.data ?_
    | refine CallE.mk _ _ (of9 0 1) ?_
    | refine CallE.mk _ _ (pt9 0 1) ?_
    | refine CallE.mk _ _ (pt9_0) ?_
    | refine CallE.mk _ _ (k9_i1) ?_
    | refine CallE.mk _ _ (k9_i2) ?_
    | refine CallE.mk _ _ (k9_m) ?_
    | refine CallE.mk _ _ (of9 0 (-1)) ?_
    | refine CallE.mk _ _ (k9_has) ?_
    | refine CallE.mk _ _ (k9_is) ?_
    | refine CallE.mk _ _ (k9_sq) ?_
    | refine CallE.mk _ _ (of9 (-1) 0) ?_
    | refine CallE.mk _ _ (pt9 (-1) 0) ?_
    | refine CallE.mk _ _ (k9_e1) ?_
    | refine CallE.mk _ _ (k9_mid) ?_
    | refine CallE.mk _ _ (k9_e2) ?_
    | refine CallE.mk _ _ (k9_n) ?_
    | refine CallE.mk _ _ (rofd_sim 1 (by decide) (by decide)) ?_
    | refine CallE.mk _ _ (k9_e3) ?_
    | refine CallE.mk _ _ (k9_s) ?_
    | refine RegE.early (Cd.mk (show regOk _ _ _ _ = true by kernel_rfl) ?_)
    | refine Cd.mk rfl ?_
    | refine Br.t ?_
    | refine NthE.mk _ rfl ?_
    | (refine TkE.fL ?_; (conv => whnf); fail_if_success (show forceL _ _))
    | refine Res.mk ?_
    | ((with_reducible refine EqE.idS ?_); (refine EqE.fP ?_; (conv => whnf); fail_if_success (show forceL _ _)))
    | refine Cd.mk (Nat.le_of_ble_eq_true rfl) ?_)
  rfl
end Go.Ev.Ar

namespace Go.Ev.Ar
open Go Go.Ev Go.Proofs

theorem rmid_rof (z : Rq) : rmid (rof2 z) = rmid z := by
  have e : ∀ p q : Dyadic, mn p q + mx p q = p + q := fun p q => by unfold mn mx; grind
  unfold rmid rof2 rof; dsimp only
  rw [e, e]
theorem eq9_0 {z : Rq} (h : z = ((0, 0), (0, 0))) : Sim Tryz.prog G0 true 31 [rqD z, .agg [.bool false, sl [], .int .i64 0, .bool false, sl [], .int .i64 0, .bool false, sl [], .int .i64 0, .bool false, sl [], .int .i64 0]] (.bool true) := by
  rw [rqD_zero, h]; exact rEqRect_is (Hr.zero _) (Hr.zero _) (decide_eq_true rfl)
set_option maxRecDepth 10000 in
set_option maxHeartbeats 8000000 in
theorem recttells_sim (r1 r2 s1 s2 c : RC) (n : Int) : Sim Tryz.prog G0 true 11 [rqcell r1 r2, rqcell s1 s2, .agg c.cells, .int .i64 n] (.bool true) := by
  have sf := fewrect9_sim r1 r2
  have sg := fewrect9_sim s1 s2
  have sh := fewcplx9_sim c
  have fr := few_rq (r := r1) (s := r2)
  have fs := few_rq (r := s1) (s := s2)
  have fc := few_cx (r := c)
  obtain ⟨b1, l1, e1, c1, k1, f1⟩ := r1
  obtain ⟨b2, l2, e2, c2, k2, f2⟩ := r2
  obtain ⟨b3, l3, e3, c3, k3, f3⟩ := s1
  obtain ⟨b4, l4, e4, c4, k4, f4⟩ := s2
  obtain ⟨b5, l5, e5, c5, k5, f5⟩ := c
  cases h1 : few2 ⟨b1, l1, e1, c1, k1, f1⟩ ⟨b2, l2, e2, c2, k2, f2⟩
  · rw [h1] at sf
    refine sim_mk tab_ok Tryz.func11 rfl (by kernel_rfl) rfl ⟨Nat.le_of_ble_eq_true rfl, Nat.le_of_ble_eq_true rfl⟩ ?_
    repeat' ((conv => whnf); first
      | with_reducible refine CallX.data ?_
      | refine CallE.mk _ _ (known9_sim) ?_
      | refine CallE.mk _ _ (sf) ?_
      | refine RegE.early (Cd.mk (show regOk _ _ _ _ = true by kernel_rfl) ?_)
      | refine Cd.mk rfl ?_
      | refine Br.t ?_
      | refine Br.f ?_
      | (refine TkE.fL ?_; (conv => whnf); fail_if_success (show forceL _ _))
      | refine Res.mk ?_)
    rfl
  rw [h1] at sf
  cases h2 : few2 ⟨b3, l3, e3, c3, k3, f3⟩ ⟨b4, l4, e4, c4, k4, f4⟩
  · rw [h2] at sg
    refine sim_mk tab_ok Tryz.func11 rfl (by kernel_rfl) rfl ⟨Nat.le_of_ble_eq_true rfl, Nat.le_of_ble_eq_true rfl⟩ ?_
    repeat' ((conv => whnf); first
      | with_reducible refine CallX.data ?_
      | refine CallE.mk _ _ (known9_sim) ?_
      | refine CallE.mk _ _ (sf) ?_
      | refine CallE.mk _ _ (sg) ?_
      | refine RegE.early (Cd.mk (show regOk _ _ _ _ = true by kernel_rfl) ?_)
      | refine Cd.mk rfl ?_
      | refine Br.t ?_
      | refine Br.f ?_
      | (refine TkE.fL ?_; (conv => whnf); fail_if_success (show forceL _ _))
      | refine Res.mk ?_)
    rfl
  rw [h2] at sg
  cases h3 : RC.few 10 1000 ⟨b5, l5, e5, c5, k5, f5⟩
  · rw [h3] at sh
    refine sim_mk tab_ok Tryz.func11 rfl (by kernel_rfl) rfl ⟨Nat.le_of_ble_eq_true rfl, Nat.le_of_ble_eq_true rfl⟩ ?_
    repeat' ((conv => whnf); first
      | with_reducible refine CallX.data ?_
      | refine CallE.mk _ _ (known9_sim) ?_
      | refine CallE.mk _ _ (sf) ?_
      | refine CallE.mk _ _ (sg) ?_
      | refine CallE.mk _ _ (sh) ?_
      | refine RegE.early (Cd.mk (show regOk _ _ _ _ = true by kernel_rfl) ?_)
      | refine Cd.mk rfl ?_
      | refine Br.t ?_
      | refine Br.f ?_
      | (refine TkE.fL ?_; (conv => whnf); fail_if_success (show forceL _ _))
      | refine Res.mk ?_)
    rfl
  rw [h3] at sh
  obtain ⟨xr, xf, xh⟩ := fr h1
  obtain ⟨yr, yf, yh⟩ := fs h2
  obtain ⟨cr, cf, ch⟩ := fc h3
  generalize RC.val ⟨b1, l1, e1, c1, k1, f1⟩ = x1 at xr xf xh
  generalize RC.val ⟨b2, l2, e2, c2, k2, f2⟩ = x2 at xr xf xh
  generalize RC.val ⟨b3, l3, e3, c3, k3, f3⟩ = y1 at yr yf yh
  generalize RC.val ⟨b4, l4, e4, c4, k4, f4⟩ = y2 at yr yf yh
  generalize RC.val ⟨b5, l5, e5, c5, k5, f5⟩ = w at cr cf ch
  have xr : RcR _ (x1, x2).1 (x1, x2).2 := xr
  have yr : RcR _ (y1, y2).1 (y1, y2).2 := yr
  have xf : RcF _ (x1, x2).1 (x1, x2).2 := xf
  have yf : RcF _ (y1, y2).1 (y1, y2).2 := yf
  generalize (x1, x2) = x at xr xf xh
  generalize (y1, y2) = y at yr yf yh
  have ox := rof2_ord x
  have oy := rof2_ord y
  have hx := xh.rof2
  have hy := yh.rof2
  obtain ⟨k, hk⟩ : ∃ k, min n 5 = k := ⟨_, rfl⟩
  have K5 : clampP k ≤ 5 := by unfold clampP; omega
  have A := rRect_is xf (xh.mono (by decide)) rfl
  have B := rRect_is yf (yh.mono (by decide)) rfl
  have W := rcplx_sim cf
  obtain ⟨⟨u1, v1⟩, hm1⟩ : ∃ m, imeet (rof2 x).1 (rof2 y).1 = m := ⟨_, rfl⟩
  obtain ⟨⟨u2, v2⟩, hm2⟩ : ∃ m, imeet (rof2 x).2 (rof2 y).2 = m := ⟨_, rfl⟩
  have hu1 : Hc 1320 u1 := by have := hx.1.imeet hy.1; rw [hm1] at this; exact this
  have hu2 : Hc 1320 u2 := by have := hx.2.imeet hy.2; rw [hm2] at this; exact this
  obtain ⟨⟨m1, m2, mt⟩, hm⟩ : ∃ m, rmeet (rof2 x).1 (rof2 x).2 (rof2 y).1 (rof2 y).2 = m := ⟨_, rfl⟩
  obtain ⟨T1, hT1⟩ : ∃ t, decide (ihas (rof2 x).1 w.1 ∧ ihas (rof2 x).2 w.2) = t := ⟨_, rfl⟩
  obtain ⟨T2, hT2⟩ : ∃ t, decide (iin (rof2 x).1 (rof2 y).1 ∧ iin (rof2 x).2 (rof2 y).2) = t := ⟨_, rfl⟩
  obtain ⟨T3, hT3⟩ : ∃ t, decide (rof2 x = rof2 y) = t := ⟨_, rfl⟩
  have a1 := rtMeet_is xr yr (xh.1.mono (by decide)) (xh.2.mono (by decide)) (yh.1.mono (by decide)) (yh.2.mono (by decide)) hm
  have a2 := rMeet_is (hx.1.mono (by decide)) (hy.1.mono (by decide)) hm1
  have a3 := rMeet_is (hx.2.mono (by decide)) (hy.2.mono (by decide)) hm2
  have b1' := rtHas_is xr cr (xh.1.mono (by decide)) (xh.2.mono (by decide)) (ch.mono (by decide)) hT1
  have b2' := rHas8_is (hx.mono (by decide)) (ch.mono (by decide)) hT1
  have c1' := rtIn_is xr yr (xh.1.mono (by decide)) (xh.2.mono (by decide)) (yh.1.mono (by decide)) (yh.2.mono (by decide)) hT2
  have c2' := rRectIn_is (hx.mono (by decide)) (hy.mono (by decide)) hT2
  have d1 := rtAdd_is xr yr (xh.mono (by decide)) (yh.mono (by decide)) rfl
  have d2 := rAddRect_is (hx.mono (by decide)) (hy.mono (by decide)) rfl
  have g1 := rtSub_is xr yr (xh.mono (by decide)) (yh.mono (by decide)) rfl
  have g2 := rNegReal_is (hy.1.mono (show 1320 ≤ 50000 by decide)) rfl
  have g3 := rNegReal_is (hy.2.mono (show 1320 ≤ 50000 by decide)) rfl
  have g4 := rAddRect_is (w := (ineg (rof2 y).1, ineg (rof2 y).2)) (r := rsub (rof2 x) (rof2 y)) (hx.mono (by decide)) (hy.rneg.mono (by decide)) rfl
  have i1 := rtMul_is xr yr (xh.mono (by decide)) (yh.mono (by decide)) rfl
  have i2 := rMulRect_is (r := rmul x y) (hx.mono (by decide)) (hy.mono (by decide)) (rmul_rof _ _)
  have j1 := rtSquare_is xr (xh.mono (by decide)) rfl
  have j2 := rSquareRect_is (hx.mono (by decide)) rfl
  have n1 := rtPow_is k xr (xh.mono (by decide)) rfl
  have n2 := rPowRect_is (r := rpw x (clampP k)) k hx K5 (by decide) (by decide) (rpw_rof _ _)
  have o1 := rtNorm_is xr (xh.mono (by decide)) rfl
  have o2 := rNormRect_is (hx.mono (by decide)) rfl
  have p1 := rtHull_is (r := (ihull (rof2 x).1 (rof2 y).1, ihull (rof2 x).2 (rof2 y).2)) xr yr (xh.mono (by decide)) (yh.mono (by decide)) rfl
  have p2 := rHull_is (hx.1.mono (by decide)) (hy.1.mono (by decide)) rfl
  have p3 := rHull_is (hx.2.mono (by decide)) (hy.2.mono (by decide)) rfl
  have q1 := rtMiddle_is xr (xh.mono (by decide)) rfl
  have q2 := rMiddle8_is (r := rmid x) (hx.mono (by decide)) (rmid_rof _)
  have t1 := rtSame_is xr yr (xh.mono (by decide)) (yh.mono (by decide)) hT3
  have t2 := rEqRect_is (hx.mono (show 1320 ≤ 50000 by decide)) (hy.mono (show 1320 ≤ 50000 by decide)) hT3
  have w1 := rtOf_is cr (ch.mono (by decide))
  have w2 := rPoint_is w
  have Eq : ∀ z : Rq, Hr 50000 z → Sim Tryz.prog G0 true 31 [rqD z, rqD z] (.bool true) := fun z hz => rEqRect_is hz hz (decide_eq_true rfl)
  have r1 := Eq _ ((hx.radd hy (c := 1321) (by decide)).mono (by decide))
  have r2 := Eq _ ((hx.rsub hy (c := 1321) (by decide)).mono (by decide))
  have r3 := Eq _ ((xh.rmul yh (c := 2641) (by decide)).mono (by decide))
  have r4 := Eq _ ((hx.rsq (c := 2642) (by decide)).mono (by decide))
  have r5 := Eq _ ((xh.rpw (clampP k)).mono (show 1321 * clampP k + 1 ≤ 50000 by omega))
  have r6 := rEqReal_is (t := true) ((hx.rnorm (c := 2642) (by decide)).mono (by decide)) ((hx.rnorm (c := 2642) (by decide)).mono (by decide)) (decide_eq_true rfl)
  have r7 := Eq (ihull (rof2 x).1 (rof2 y).1, ihull (rof2 x).2 (rof2 y).2) ((hx.rhull hy).mono (by decide))
  have r8 := rEq8_is (t := true) (xh.rmid.mono (by decide)) (xh.rmid.mono (by decide)) (decide_eq_true rfl)
  have r9 := Eq ((w.1, w.1), (w.2, w.2)) ⟨⟨ch.1.mono (by decide), ch.1.mono (by decide)⟩, ⟨ch.2.mono (by decide), ch.2.mono (by decide)⟩⟩
  have r10 := Eq (u1, u2) ⟨hu1.mono (by decide), hu2.mono (by decide)⟩
  have r11 := eq9_0 rfl
  unfold rmeet at hm
  rw [hm1, hm2] at hm
  clear hm1 hm2
  generalize radd (rof2 x) (rof2 y) = Z1 at *
  generalize rsub (rof2 x) (rof2 y) = Z2 at *
  generalize rmul x y = Z3 at *
  generalize rsq (rof2 x) = Z4 at *
  generalize rpw x (clampP k) = Z5 at *
  generalize rnorm (rof2 x) = Z6 at *
  generalize rmid x = Z8 at *
  clear hT1 hT2 hT3
  generalize ihull (rof2 x).1 (rof2 y).1 = H1 at *
  generalize ihull (rof2 x).2 (rof2 y).2 = H2 at *
  generalize ineg (rof2 y).1 = N1 at *
  generalize ineg (rof2 y).2 = N2 at *
  generalize rof2 x = X at *
  generalize rof2 y = Y at *
  obtain ⟨⟨_, _⟩, ⟨_, _⟩⟩ := X
  obtain ⟨⟨_, _⟩, ⟨_, _⟩⟩ := Y
  obtain ⟨⟨_, _⟩, ⟨_, _⟩⟩ := Z1
  obtain ⟨⟨_, _⟩, ⟨_, _⟩⟩ := Z2
  obtain ⟨⟨_, _⟩, ⟨_, _⟩⟩ := Z3
  obtain ⟨⟨_, _⟩, ⟨_, _⟩⟩ := Z4
  obtain ⟨⟨_, _⟩, ⟨_, _⟩⟩ := Z5
  obtain ⟨_, _⟩ := Z6
  obtain ⟨_, _⟩ := Z8
  obtain ⟨_, _⟩ := H1
  obtain ⟨_, _⟩ := H2
  obtain ⟨_, _⟩ := N1
  obtain ⟨_, _⟩ := N2
  obtain ⟨_, _⟩ := u1
  obtain ⟨_, _⟩ := u2
  obtain ⟨_, _⟩ := w
  cases v1 <;> cases v2 <;> cases hm
  · refine sim_mk tab_ok Tryz.func11 rfl (by kernel_rfl) rfl ⟨Nat.le_of_ble_eq_true rfl, Nat.le_of_ble_eq_true rfl⟩ ?_
    repeat' ((conv => whnf); first
      | with_reducible refine CallX.data ?_
      | refine RegE.lateS (ps := [(6, 3)]) rfl (by kernel_rfl) ?_ rfl
      | refine CallE.mk _ _ (known9_sim) ?_
      | refine CallE.mk _ _ (sf) ?_
      | refine CallE.mk _ _ (sg) ?_
      | refine CallE.mk _ _ (sh) ?_
      | refine CallE.mk _ _ (A) ?_
      | refine CallE.mk _ _ (B) ?_
      | refine CallE.mk _ _ (W) ?_
      | refine CallE.mk _ _ (a1) ?_
      | refine CallE.mk _ _ (a2) ?_
      | refine CallE.mk _ _ (a3) ?_
      | refine CallE.mk _ _ (b1') ?_
      | refine CallE.mk _ _ (b2') ?_
      | refine CallE.mk _ _ (c1') ?_
      | refine CallE.mk _ _ (c2') ?_
      | refine CallE.mk _ _ (d1) ?_
      | refine CallE.mk _ _ (d2) ?_
      | refine CallE.mk _ _ (r1) ?_
      | refine CallE.mk _ _ (g1) ?_
      | refine CallE.mk _ _ (g2) ?_
      | refine CallE.mk _ _ (g3) ?_
      | refine CallE.mk _ _ (g4) ?_
      | refine CallE.mk _ _ (r2) ?_
      | refine CallE.mk _ _ (i1) ?_
      | refine CallE.mk _ _ (i2) ?_
      | refine CallE.mk _ _ (r3) ?_
      | refine CallE.mk _ _ (j1) ?_
      | refine CallE.mk _ _ (j2) ?_
      | refine CallE.mk _ _ (r4) ?_
      | refine CallE.mk _ _ (n1) ?_
      | refine CallE.mk _ _ (n2) ?_
      | refine CallE.mk _ _ (r5) ?_
      | refine CallE.mk _ _ (o1) ?_
      | refine CallE.mk _ _ (o2) ?_
      | refine CallE.mk _ _ (r6) ?_
      | refine CallE.mk _ _ (p1) ?_
      | refine CallE.mk _ _ (p2) ?_
      | refine CallE.mk _ _ (p3) ?_
      | refine CallE.mk _ _ (r7) ?_
      | refine CallE.mk _ _ (r11) ?_
      | refine CallE.mk _ _ (q1) ?_
      | refine CallE.mk _ _ (q2) ?_
      | refine CallE.mk _ _ (r8) ?_
      | refine CallE.mk _ _ (t1) ?_
      | refine CallE.mk _ _ (t2) ?_
      | refine CallE.mk _ _ (w1) ?_
      | refine CallE.mk _ _ (w2) ?_
      | refine CallE.mk _ _ (r9) ?_
      | refine RegE.early (Cd.mk (show regOk _ _ _ _ = true by kernel_rfl) ?_)
      | refine Cd.mk rfl ?_
      | refine Br.t ?_
      | refine Br.f ?_
      | with_reducible refine Br.eqb ?_
      | refine NthE.mk _ rfl ?_
      | (refine TkE.fL ?_; (conv => whnf); fail_if_success (show forceL _ _))
      | refine Res.mk ?_
      | refine LateE.mk (by repeat first | exact True.intro | refine And.intro (by kernel_rfl) ?_) ?_
      | ((with_reducible refine EqE.idI ?_); refine EqE.mk k ((min_eq _ _).trans hk) ?_)
      | ((with_reducible refine EqE.idS ?_); (refine EqE.fP ?_; (conv => whnf); fail_if_success (show forceL _ _)))
      | refine Cd.mk (Nat.le_of_ble_eq_true rfl) ?_)
    rfl
  · refine sim_mk tab_ok Tryz.func11 rfl (by kernel_rfl) rfl ⟨Nat.le_of_ble_eq_true rfl, Nat.le_of_ble_eq_true rfl⟩ ?_
    repeat' ((conv => whnf); first
      | with_reducible refine CallX.data ?_
      | refine RegE.lateS (ps := [(6, 3)]) rfl (by kernel_rfl) ?_ rfl
      | refine CallE.mk _ _ (known9_sim) ?_
      | refine CallE.mk _ _ (sf) ?_
      | refine CallE.mk _ _ (sg) ?_
      | refine CallE.mk _ _ (sh) ?_
      | refine CallE.mk _ _ (A) ?_
      | refine CallE.mk _ _ (B) ?_
      | refine CallE.mk _ _ (W) ?_
      | refine CallE.mk _ _ (a1) ?_
      | refine CallE.mk _ _ (a2) ?_
      | refine CallE.mk _ _ (a3) ?_
      | refine CallE.mk _ _ (b1') ?_
      | refine CallE.mk _ _ (b2') ?_
      | refine CallE.mk _ _ (c1') ?_
      | refine CallE.mk _ _ (c2') ?_
      | refine CallE.mk _ _ (d1) ?_
      | refine CallE.mk _ _ (d2) ?_
      | refine CallE.mk _ _ (r1) ?_
      | refine CallE.mk _ _ (g1) ?_
      | refine CallE.mk _ _ (g2) ?_
      | refine CallE.mk _ _ (g3) ?_
      | refine CallE.mk _ _ (g4) ?_
      | refine CallE.mk _ _ (r2) ?_
      | refine CallE.mk _ _ (i1) ?_
      | refine CallE.mk _ _ (i2) ?_
      | refine CallE.mk _ _ (r3) ?_
      | refine CallE.mk _ _ (j1) ?_
      | refine CallE.mk _ _ (j2) ?_
      | refine CallE.mk _ _ (r4) ?_
      | refine CallE.mk _ _ (n1) ?_
      | refine CallE.mk _ _ (n2) ?_
      | refine CallE.mk _ _ (r5) ?_
      | refine CallE.mk _ _ (o1) ?_
      | refine CallE.mk _ _ (o2) ?_
      | refine CallE.mk _ _ (r6) ?_
      | refine CallE.mk _ _ (p1) ?_
      | refine CallE.mk _ _ (p2) ?_
      | refine CallE.mk _ _ (p3) ?_
      | refine CallE.mk _ _ (r7) ?_
      | refine CallE.mk _ _ (r11) ?_
      | refine CallE.mk _ _ (q1) ?_
      | refine CallE.mk _ _ (q2) ?_
      | refine CallE.mk _ _ (r8) ?_
      | refine CallE.mk _ _ (t1) ?_
      | refine CallE.mk _ _ (t2) ?_
      | refine CallE.mk _ _ (w1) ?_
      | refine CallE.mk _ _ (w2) ?_
      | refine CallE.mk _ _ (r9) ?_
      | refine RegE.early (Cd.mk (show regOk _ _ _ _ = true by kernel_rfl) ?_)
      | refine Cd.mk rfl ?_
      | refine Br.t ?_
      | refine Br.f ?_
      | with_reducible refine Br.eqb ?_
      | refine NthE.mk _ rfl ?_
      | (refine TkE.fL ?_; (conv => whnf); fail_if_success (show forceL _ _))
      | refine Res.mk ?_
      | refine LateE.mk (by repeat first | exact True.intro | refine And.intro (by kernel_rfl) ?_) ?_
      | ((with_reducible refine EqE.idI ?_); refine EqE.mk k ((min_eq _ _).trans hk) ?_)
      | ((with_reducible refine EqE.idS ?_); (refine EqE.fP ?_; (conv => whnf); fail_if_success (show forceL _ _)))
      | refine Cd.mk (Nat.le_of_ble_eq_true rfl) ?_)
    rfl
  · refine sim_mk tab_ok Tryz.func11 rfl (by kernel_rfl) rfl ⟨Nat.le_of_ble_eq_true rfl, Nat.le_of_ble_eq_true rfl⟩ ?_
    repeat' ((conv => whnf); first
      | with_reducible refine CallX.data ?_
      | refine RegE.lateS (ps := [(6, 3)]) rfl (by kernel_rfl) ?_ rfl
      | refine CallE.mk _ _ (known9_sim) ?_
      | refine CallE.mk _ _ (sf) ?_
      | refine CallE.mk _ _ (sg) ?_
      | refine CallE.mk _ _ (sh) ?_
      | refine CallE.mk _ _ (A) ?_
      | refine CallE.mk _ _ (B) ?_
      | refine CallE.mk _ _ (W) ?_
      | refine CallE.mk _ _ (a1) ?_
      | refine CallE.mk _ _ (a2) ?_
      | refine CallE.mk _ _ (a3) ?_
      | refine CallE.mk _ _ (b1') ?_
      | refine CallE.mk _ _ (b2') ?_
      | refine CallE.mk _ _ (c1') ?_
      | refine CallE.mk _ _ (c2') ?_
      | refine CallE.mk _ _ (d1) ?_
      | refine CallE.mk _ _ (d2) ?_
      | refine CallE.mk _ _ (r1) ?_
      | refine CallE.mk _ _ (g1) ?_
      | refine CallE.mk _ _ (g2) ?_
      | refine CallE.mk _ _ (g3) ?_
      | refine CallE.mk _ _ (g4) ?_
      | refine CallE.mk _ _ (r2) ?_
      | refine CallE.mk _ _ (i1) ?_
      | refine CallE.mk _ _ (i2) ?_
      | refine CallE.mk _ _ (r3) ?_
      | refine CallE.mk _ _ (j1) ?_
      | refine CallE.mk _ _ (j2) ?_
      | refine CallE.mk _ _ (r4) ?_
      | refine CallE.mk _ _ (n1) ?_
      | refine CallE.mk _ _ (n2) ?_
      | refine CallE.mk _ _ (r5) ?_
      | refine CallE.mk _ _ (o1) ?_
      | refine CallE.mk _ _ (o2) ?_
      | refine CallE.mk _ _ (r6) ?_
      | refine CallE.mk _ _ (p1) ?_
      | refine CallE.mk _ _ (p2) ?_
      | refine CallE.mk _ _ (p3) ?_
      | refine CallE.mk _ _ (r7) ?_
      | refine CallE.mk _ _ (r11) ?_
      | refine CallE.mk _ _ (q1) ?_
      | refine CallE.mk _ _ (q2) ?_
      | refine CallE.mk _ _ (r8) ?_
      | refine CallE.mk _ _ (t1) ?_
      | refine CallE.mk _ _ (t2) ?_
      | refine CallE.mk _ _ (w1) ?_
      | refine CallE.mk _ _ (w2) ?_
      | refine CallE.mk _ _ (r9) ?_
      | refine RegE.early (Cd.mk (show regOk _ _ _ _ = true by kernel_rfl) ?_)
      | refine Cd.mk rfl ?_
      | refine Br.t ?_
      | refine Br.f ?_
      | with_reducible refine Br.eqb ?_
      | refine NthE.mk _ rfl ?_
      | (refine TkE.fL ?_; (conv => whnf); fail_if_success (show forceL _ _))
      | refine Res.mk ?_
      | refine LateE.mk (by repeat first | exact True.intro | refine And.intro (by kernel_rfl) ?_) ?_
      | ((with_reducible refine EqE.idI ?_); refine EqE.mk k ((min_eq _ _).trans hk) ?_)
      | ((with_reducible refine EqE.idS ?_); (refine EqE.fP ?_; (conv => whnf); fail_if_success (show forceL _ _)))
      | refine Cd.mk (Nat.le_of_ble_eq_true rfl) ?_)
    rfl
  · refine sim_mk tab_ok Tryz.func11 rfl (by kernel_rfl) rfl ⟨Nat.le_of_ble_eq_true rfl, Nat.le_of_ble_eq_true rfl⟩ ?_
    repeat' ((conv => whnf); first
      | with_reducible refine CallX.data ?_
      | refine RegE.lateS (ps := [(6, 3)]) rfl (by kernel_rfl) ?_ rfl
      | refine CallE.mk _ _ (known9_sim) ?_
      | refine CallE.mk _ _ (sf) ?_
      | refine CallE.mk _ _ (sg) ?_
      | refine CallE.mk _ _ (sh) ?_
      | refine CallE.mk _ _ (A) ?_
      | refine CallE.mk _ _ (B) ?_
      | refine CallE.mk _ _ (W) ?_
      | refine CallE.mk _ _ (a1) ?_
      | refine CallE.mk _ _ (a2) ?_
      | refine CallE.mk _ _ (a3) ?_
      | refine CallE.mk _ _ (b1') ?_
      | refine CallE.mk _ _ (b2') ?_
      | refine CallE.mk _ _ (c1') ?_
      | refine CallE.mk _ _ (c2') ?_
      | refine CallE.mk _ _ (d1) ?_
      | refine CallE.mk _ _ (d2) ?_
      | refine CallE.mk _ _ (r1) ?_
      | refine CallE.mk _ _ (g1) ?_
      | refine CallE.mk _ _ (g2) ?_
      | refine CallE.mk _ _ (g3) ?_
      | refine CallE.mk _ _ (g4) ?_
      | refine CallE.mk _ _ (r2) ?_
      | refine CallE.mk _ _ (i1) ?_
      | refine CallE.mk _ _ (i2) ?_
      | refine CallE.mk _ _ (r3) ?_
      | refine CallE.mk _ _ (j1) ?_
      | refine CallE.mk _ _ (j2) ?_
      | refine CallE.mk _ _ (r4) ?_
      | refine CallE.mk _ _ (n1) ?_
      | refine CallE.mk _ _ (n2) ?_
      | refine CallE.mk _ _ (r5) ?_
      | refine CallE.mk _ _ (o1) ?_
      | refine CallE.mk _ _ (o2) ?_
      | refine CallE.mk _ _ (r6) ?_
      | refine CallE.mk _ _ (p1) ?_
      | refine CallE.mk _ _ (p2) ?_
      | refine CallE.mk _ _ (p3) ?_
      | refine CallE.mk _ _ (r7) ?_
      | refine CallE.mk _ _ (r10) ?_
      | refine CallE.mk _ _ (q1) ?_
      | refine CallE.mk _ _ (q2) ?_
      | refine CallE.mk _ _ (r8) ?_
      | refine CallE.mk _ _ (t1) ?_
      | refine CallE.mk _ _ (t2) ?_
      | refine CallE.mk _ _ (w1) ?_
      | refine CallE.mk _ _ (w2) ?_
      | refine CallE.mk _ _ (r9) ?_
      | refine RegE.early (Cd.mk (show regOk _ _ _ _ = true by kernel_rfl) ?_)
      | refine Cd.mk rfl ?_
      | refine Br.t ?_
      | refine Br.f ?_
      | with_reducible refine Br.eqb ?_
      | refine NthE.mk _ rfl ?_
      | (refine TkE.fL ?_; (conv => whnf); fail_if_success (show forceL _ _))
      | refine Res.mk ?_
      | refine LateE.mk (by repeat first | exact True.intro | refine And.intro (by kernel_rfl) ?_) ?_
      | ((with_reducible refine EqE.idI ?_); refine EqE.mk k ((min_eq _ _).trans hk) ?_)
      | ((with_reducible refine EqE.idS ?_); (refine EqE.fP ?_; (conv => whnf); fail_if_success (show forceL _ _)))
      | refine Cd.mk (Nat.le_of_ble_eq_true rfl) ?_)
    rfl
end Go.Ev.Ar

namespace Go.Ev.Ar
open Go Go.Ev Go.Proofs

set_option maxRecDepth 10000 in
set_option maxHeartbeats 8000000 in
theorem rectrounds_sim (r1 r2 s1 s2 : RC) (p : Int) : Sim Tryz.prog G0 true 8 [rqcell r1 r2, rqcell s1 s2, .int .i64 p] (.bool true) := by
  have sF0 := fewrect9_sim r1 r2
  have fF0 := few_rq (r := r1) (s := r2)
  have sF1 := fewrect9_sim s1 s2
  have fF1 := few_rq (r := s1) (s := s2)
  obtain ⟨b1, l1, e1, c1, k1, q1⟩ := r1
  obtain ⟨b2, l2, e2, c2, k2, q2⟩ := r2
  obtain ⟨b3, l3, e3, c3, k3, q3⟩ := s1
  obtain ⟨b4, l4, e4, c4, k4, q4⟩ := s2
  cases h0 : few2 ⟨b1, l1, e1, c1, k1, q1⟩ ⟨b2, l2, e2, c2, k2, q2⟩
  · rw [h0] at sF0
    refine sim_mk tab_ok Tryz.func8 rfl (by kernel_rfl) rfl ⟨Nat.le_of_ble_eq_true rfl, Nat.le_of_ble_eq_true rfl⟩ ?_
    repeat' ((conv => whnf); first
      | with_reducible refine CallX.data ?_
      | refine CallE.mk _ _ (known9_sim) ?_
      | refine CallE.mk _ _ (sF0) ?_
      | refine RegE.early (Cd.mk (show regOk _ _ _ _ = true by kernel_rfl) ?_)
      | refine Cd.mk rfl ?_
      | refine Br.t ?_
      | refine Br.f ?_
      | (refine TkE.fL ?_; (conv => whnf); fail_if_success (show forceL _ _))
      | refine Res.mk ?_)
    rfl
  rw [h0] at sF0
  cases h1 : few2 ⟨b3, l3, e3, c3, k3, q3⟩ ⟨b4, l4, e4, c4, k4, q4⟩
  · rw [h1] at sF1
    refine sim_mk tab_ok Tryz.func8 rfl (by kernel_rfl) rfl ⟨Nat.le_of_ble_eq_true rfl, Nat.le_of_ble_eq_true rfl⟩ ?_
    repeat' ((conv => whnf); first
      | with_reducible refine CallX.data ?_
      | refine CallE.mk _ _ (known9_sim) ?_
      | refine CallE.mk _ _ (sF0) ?_
      | refine CallE.mk _ _ (sF1) ?_
      | refine RegE.early (Cd.mk (show regOk _ _ _ _ = true by kernel_rfl) ?_)
      | refine Cd.mk rfl ?_
      | refine Br.t ?_
      | refine Br.f ?_
      | (refine TkE.fL ?_; (conv => whnf); fail_if_success (show forceL _ _))
      | refine Res.mk ?_)
    rfl
  rw [h1] at sF1
  obtain ⟨xr, xf, xh⟩ := fF0 h0
  generalize RC.val ⟨b1, l1, e1, c1, k1, q1⟩ = x1 at xr xf xh
  generalize RC.val ⟨b2, l2, e2, c2, k2, q2⟩ = x2 at xr xf xh
  have xr : RcR _ (x1, x2).1 (x1, x2).2 := xr
  have xf : RcF _ (x1, x2).1 (x1, x2).2 := xf
  generalize (x1, x2) = x at xr xf xh
  have ox := rof2_ord x
  have hx := xh.rof2
  obtain ⟨yr, yf, yh⟩ := fF1 h1
  generalize RC.val ⟨b3, l3, e3, c3, k3, q3⟩ = y1 at yr yf yh
  generalize RC.val ⟨b4, l4, e4, c4, k4, q4⟩ = y2 at yr yf yh
  have yr : RcR _ (y1, y2).1 (y1, y2).2 := yr
  have yf : RcF _ (y1, y2).1 (y1, y2).2 := yf
  generalize (y1, y2) = y at yr yf yh
  have oy := rof2_ord y
  have hy := yh.rof2
  by_cases hp : p > 200 ∧ p ≤ 4000
  · obtain ⟨hp1, hp2⟩ := hp
    refine sim_mk tab_ok Tryz.func8 rfl (by kernel_rfl) rfl ⟨Nat.le_of_ble_eq_true rfl, Nat.le_of_ble_eq_true rfl⟩ ?_
    repeat' ((conv => whnf); first
      | with_reducible refine CallX.data ?_
      | with_reducible refine Br.dec (fun _ => ?_) (fun h => absurd (by omega) h)
      | refine CallE.mk _ _ (known9_sim) ?_
      | refine CallE.mk _ _ (sF0) ?_
      | refine CallE.mk _ _ (sF1) ?_
      | refine RegE.early (Cd.mk (show regOk _ _ _ _ = true by kernel_rfl) ?_)
      | refine Cd.mk rfl ?_
      | refine Br.t ?_
      | refine Br.f ?_
      | (refine TkE.fL ?_; (conv => whnf); fail_if_success (show forceL _ _))
      | refine Res.mk ?_)
    rfl
  obtain ⟨k, hk⟩ : ∃ k, min p 200 = k := ⟨_, rfl⟩
  have k3 : k ≤ 300 := by omega
  have kc : min (max k 1) 4000 ≤ 200 := by omega
  have A := rRect_is xf (xh.mono (by decide)) rfl
  have B := rRect_is yf (yh.mono (by decide)) rfl
  obtain ⟨⟨I, i⟩, hI⟩ : ∃ m, rinvE (rof2 y) k = m := ⟨_, rfl⟩
  obtain ⟨⟨Q, q⟩, hQ⟩ : ∃ m, rdivE (rof2 x) (rof2 y) k = m := ⟨_, rfl⟩
  have a1 := rtInv_is k yr (yh.mono (by decide)) hI
  have a2 := rInvRect_is k oy (hy.mono (by decide)) k3 hI
  have b1' := rtDiv_is k xr yr (xh.mono (by decide)) (yh.mono (by decide)) hQ
  have b2' := rDivRect_is k oy (hx.mono (by decide)) (hy.mono (by decide)) k3 hQ
  have c1' := rtRound_is k xr (xh.mono (by decide)) rfl
  have c2' := rRoundRect_is k (hx.mono (by decide)) rfl
  have hIt : Hr 6000 I := by
    have h := hy.rinvE kc
    rw [hI] at h; exact h.mono (by decide)
  have hQt : Hr 9000 Q := by
    have h := hx.rdivE hy kc
    rw [hQ] at h; exact h.mono (by decide)
  have hRt : Hr 2000 (rround (rof2 x) k) := (hx.rround kc).mono (by decide)
  have Eq : ∀ z : Rq, Hr 50000 z → Sim Tryz.prog G0 true 31 [rqD z, rqD z] (.bool true) := fun z hz => rEqRect_is hz hz (decide_eq_true rfl)
  have r1 := Eq _ (hIt.mono (by decide))
  have r2 := Eq _ (hQt.mono (by decide))
  have r3 := Eq _ (hRt.mono (by decide))
  clear hI hQ
  generalize rround (rof2 x) k = R at *
  generalize rof2 x = X at *
  generalize rof2 y = Y at *
  obtain ⟨⟨_, _⟩, ⟨_, _⟩⟩ := X
  obtain ⟨⟨_, _⟩, ⟨_, _⟩⟩ := Y
  obtain ⟨⟨_, _⟩, ⟨_, _⟩⟩ := I
  obtain ⟨⟨_, _⟩, ⟨_, _⟩⟩ := Q
  obtain ⟨⟨_, _⟩, ⟨_, _⟩⟩ := R
  by_cases hp1 : p > 200
  · refine sim_mk tab_ok Tryz.func8 rfl (by kernel_rfl) rfl ⟨Nat.le_of_ble_eq_true rfl, Nat.le_of_ble_eq_true rfl⟩ ?_
    repeat' ((conv => whnf); first
      | with_reducible refine CallX.data ?_
      | refine RegE.lateS (ps := [(6, 3)]) rfl (by kernel_rfl) ?_ rfl
      | with_reducible refine Br.dec (fun _ => ?_) (fun h => absurd (by omega) h)
      | with_reducible refine Br.dec (fun h => absurd h (by omega)) (fun _ => ?_)
      | refine CallE.mk _ _ (known9_sim) ?_
      | refine CallE.mk _ _ (sF0) ?_
      | refine CallE.mk _ _ (sF1) ?_
      | refine CallE.mk _ _ (A) ?_
      | refine CallE.mk _ _ (B) ?_
      | refine CallE.mk _ _ (a1) ?_
      | refine CallE.mk _ _ (a2) ?_
      | refine CallE.mk _ _ (b1') ?_
      | refine CallE.mk _ _ (b2') ?_
      | refine CallE.mk _ _ (c1') ?_
      | refine CallE.mk _ _ (c2') ?_
      | refine CallE.mk _ _ (r1) ?_
      | refine CallE.mk _ _ (r2) ?_
      | refine CallE.mk _ _ (r3) ?_
      | refine RegE.early (Cd.mk (show regOk _ _ _ _ = true by kernel_rfl) ?_)
      | refine Cd.mk rfl ?_
      | refine Br.t ?_
      | refine Br.f ?_
      | refine NthE.mk _ rfl ?_
      | (refine TkE.fL ?_; (conv => whnf); fail_if_success (show forceL _ _))
      | refine Res.mk ?_
      | refine LateE.mk (by repeat first | exact True.intro | refine And.intro (by kernel_rfl) ?_) ?_
      | ((with_reducible refine EqE.idI ?_); refine EqE.mk k ((min_eq _ _).trans hk) ?_)
      | ((with_reducible refine EqE.idS ?_); (refine EqE.fP ?_; (conv => whnf); fail_if_success (show forceL _ _)))
      | refine Cd.mk (Nat.le_of_ble_eq_true rfl) ?_)
    exact congrArg D.bool (decide_eq_true rfl).symm
  · refine sim_mk tab_ok Tryz.func8 rfl (by kernel_rfl) rfl ⟨Nat.le_of_ble_eq_true rfl, Nat.le_of_ble_eq_true rfl⟩ ?_
    repeat' ((conv => whnf); first
      | with_reducible refine CallX.data ?_
      | refine RegE.lateS (ps := [(6, 3)]) rfl (by kernel_rfl) ?_ rfl
      | with_reducible refine Br.dec (fun _ => ?_) (fun h => absurd (by omega) h)
      | with_reducible refine Br.dec (fun h => absurd h (by omega)) (fun _ => ?_)
      | refine CallE.mk _ _ (known9_sim) ?_
      | refine CallE.mk _ _ (sF0) ?_
      | refine CallE.mk _ _ (sF1) ?_
      | refine CallE.mk _ _ (A) ?_
      | refine CallE.mk _ _ (B) ?_
      | refine CallE.mk _ _ (a1) ?_
      | refine CallE.mk _ _ (a2) ?_
      | refine CallE.mk _ _ (b1') ?_
      | refine CallE.mk _ _ (b2') ?_
      | refine CallE.mk _ _ (c1') ?_
      | refine CallE.mk _ _ (c2') ?_
      | refine CallE.mk _ _ (r1) ?_
      | refine CallE.mk _ _ (r2) ?_
      | refine CallE.mk _ _ (r3) ?_
      | refine RegE.early (Cd.mk (show regOk _ _ _ _ = true by kernel_rfl) ?_)
      | refine Cd.mk rfl ?_
      | refine Br.t ?_
      | refine Br.f ?_
      | refine NthE.mk _ rfl ?_
      | (refine TkE.fL ?_; (conv => whnf); fail_if_success (show forceL _ _))
      | refine Res.mk ?_
      | refine LateE.mk (by repeat first | exact True.intro | refine And.intro (by kernel_rfl) ?_) ?_
      | ((with_reducible refine EqE.idI ?_); refine EqE.mk k ((min_eq _ _).trans hk) ?_)
      | ((with_reducible refine EqE.idS ?_); (refine EqE.fP ?_; (conv => whnf); fail_if_success (show forceL _ _)))
      | refine Cd.mk (Nat.le_of_ble_eq_true rfl) ?_)
    exact congrArg D.bool (decide_eq_true rfl).symm
theorem n_rem4 (n : Nat) : (n : Int).tmod 4 = ((n % 4 : Nat) : Int) := n_rem n 4
theorem rtIn_o {z w : Rq} (hz : Hr 1000000 z) (hw : Hr 1000000 w) (oz : Ord2 z) (ow : Ord2 w) (h : rin z w) : Sim Tryz.prog G0 true 104 [rqD z, rqD w] (.bool true) :=
  rtIn_is (RqR.of (hz.mono (by decide))) (RqR.of (hw.mono (by decide))) hz.1 hz.2 hw.1 hw.2 (by rw [rof_self oz.1, rof_self oz.2, rof_self ow.1, rof_self ow.2]; exact decide_eq_true h)
theorem rtHas_o {z : Rq} {c : Cq} (hz : Hr 1000000 z) (hc : Hc 1000000 c) (oz : Ord2 z) (h : rhas z c) : Sim Tryz.prog G0 true 99 [rqD z, cxD c] (.bool true) :=
  rtHas_is (RqR.of (hz.mono (by decide))) (.of (hc.mono (by decide))) hz.1 hz.2 hc (by rw [rof_self oz.1, rof_self oz.2]; exact decide_eq_true h)
theorem rqz : RcR (.agg [.bool false, sl [], .int .i64 0, .bool false, sl [], .int .i64 0, .bool false, sl [], .int .i64 0, .bool false, sl [], .int .i64 0]) (0, 0) (0, 0) := .mk cxz cxz
theorem rmeet_in {x y : Rq} {r s : Cq} (h : rmeet x.1 x.2 y.1 y.2 = (r, s, true)) : Ord2 (r, s) ∧ rin (r, s) x ∧ rin (r, s) y := by
  unfold rmeet at h
  obtain ⟨⟨u1, v1⟩, h1⟩ : ∃ m, imeet x.1 y.1 = m := ⟨_, rfl⟩
  obtain ⟨⟨u2, v2⟩, h2⟩ : ∃ m, imeet x.2 y.2 = m := ⟨_, rfl⟩
  rw [h1, h2] at h
  cases v1 <;> cases v2 <;> cases h
  have a := imeet_in h1
  have b := imeet_in h2
  exact ⟨⟨a.1, b.1⟩, ⟨a.2.1, b.2.1⟩, ⟨a.2.2, b.2.2⟩⟩
theorem rmeet_no {x y : Rq} {r s : Cq} (hx : Ord2 x) (h : rmeet x.1 x.2 y.1 y.2 = (r, s, false)) : (r, s) = ((0, 0), (0, 0)) ∧ ¬ rin x y := by
  unfold rmeet at h
  obtain ⟨⟨u1, v1⟩, h1⟩ : ∃ m, imeet x.1 y.1 = m := ⟨_, rfl⟩
  obtain ⟨⟨u2, v2⟩, h2⟩ : ∃ m, imeet x.2 y.2 = m := ⟨_, rfl⟩
  rw [h1, h2] at h
  cases v1
  · have a := imeet_no hx.1 h1
    cases v2 <;> cases h <;> exact ⟨rfl, fun g => a.2 g.1⟩
  · cases v2 <;> cases h
    have b := imeet_no hx.2 h2
    exact ⟨rfl, fun g => b.2 g.2⟩
set_option maxRecDepth 10000 in
set_option maxHeartbeats 8000000 in
theorem rectless_sim (r1 r2 s1 s2 t1 t2 : RC) (n : Nat) (hn : n < 256) : Sim Tryz.prog G0 true 10 [rqcell r1 r2, rqcell s1 s2, rqcell t1 t2, .int .u8 n] (.bool true) := by
  have sF0 := fewrect9_sim r1 r2
  have fF0 := few_rq (r := r1) (s := r2)
  have sF1 := fewrect9_sim s1 s2
  have fF1 := few_rq (r := s1) (s := s2)
  have sF2 := fewrect9_sim t1 t2
  have fF2 := few_rq (r := t1) (s := t2)
  obtain ⟨b1, l1, e1, c1, k1, q1⟩ := r1
  obtain ⟨b2, l2, e2, c2, k2, q2⟩ := r2
  obtain ⟨b3, l3, e3, c3, k3, q3⟩ := s1
  obtain ⟨b4, l4, e4, c4, k4, q4⟩ := s2
  obtain ⟨b5, l5, e5, c5, k5, q5⟩ := t1
  obtain ⟨b6, l6, e6, c6, k6, q6⟩ := t2
  cases h0 : few2 ⟨b1, l1, e1, c1, k1, q1⟩ ⟨b2, l2, e2, c2, k2, q2⟩
  · rw [h0] at sF0
    refine sim_mk tab_ok Tryz.func10 rfl (by kernel_rfl) rfl ⟨Nat.le_of_ble_eq_true rfl, Nat.le_of_ble_eq_true rfl⟩ ?_
    repeat' ((conv => whnf); first
      | with_reducible refine CallX.data ?_
      | refine CallE.mk _ _ (known9_sim) ?_
      | refine CallE.mk _ _ (sF0) ?_
      | refine RegE.early (Cd.mk (show regOk _ _ _ _ = true by kernel_rfl) ?_)
      | refine Cd.mk rfl ?_
      | refine Br.t ?_
      | refine Br.f ?_
      | (refine TkE.fL ?_; (conv => whnf); fail_if_success (show forceL _ _))
      | refine Res.mk ?_)
    rfl
  rw [h0] at sF0
  cases h1 : few2 ⟨b3, l3, e3, c3, k3, q3⟩ ⟨b4, l4, e4, c4, k4, q4⟩
  · rw [h1] at sF1
    refine sim_mk tab_ok Tryz.func10 rfl (by kernel_rfl) rfl ⟨Nat.le_of_ble_eq_true rfl, Nat.le_of_ble_eq_true rfl⟩ ?_
    repeat' ((conv => whnf); first
      | with_reducible refine CallX.data ?_
      | refine CallE.mk _ _ (known9_sim) ?_
      | refine CallE.mk _ _ (sF0) ?_
      | refine CallE.mk _ _ (sF1) ?_
      | refine RegE.early (Cd.mk (show regOk _ _ _ _ = true by kernel_rfl) ?_)
      | refine Cd.mk rfl ?_
      | refine Br.t ?_
      | refine Br.f ?_
      | (refine TkE.fL ?_; (conv => whnf); fail_if_success (show forceL _ _))
      | refine Res.mk ?_)
    rfl
  rw [h1] at sF1
  cases h2 : few2 ⟨b5, l5, e5, c5, k5, q5⟩ ⟨b6, l6, e6, c6, k6, q6⟩
  · rw [h2] at sF2
    refine sim_mk tab_ok Tryz.func10 rfl (by kernel_rfl) rfl ⟨Nat.le_of_ble_eq_true rfl, Nat.le_of_ble_eq_true rfl⟩ ?_
    repeat' ((conv => whnf); first
      | with_reducible refine CallX.data ?_
      | refine CallE.mk _ _ (known9_sim) ?_
      | refine CallE.mk _ _ (sF0) ?_
      | refine CallE.mk _ _ (sF1) ?_
      | refine CallE.mk _ _ (sF2) ?_
      | refine RegE.early (Cd.mk (show regOk _ _ _ _ = true by kernel_rfl) ?_)
      | refine Cd.mk rfl ?_
      | refine Br.t ?_
      | refine Br.f ?_
      | (refine TkE.fL ?_; (conv => whnf); fail_if_success (show forceL _ _))
      | refine Res.mk ?_)
    rfl
  rw [h2] at sF2
  obtain ⟨xr, xf, xh⟩ := fF0 h0
  generalize RC.val ⟨b1, l1, e1, c1, k1, q1⟩ = x1 at xr xf xh
  generalize RC.val ⟨b2, l2, e2, c2, k2, q2⟩ = x2 at xr xf xh
  have xr : RcR _ (x1, x2).1 (x1, x2).2 := xr
  have xf : RcF _ (x1, x2).1 (x1, x2).2 := xf
  generalize (x1, x2) = x at xr xf xh
  have ox := rof2_ord x
  have hx := xh.rof2
  obtain ⟨yr, yf, yh⟩ := fF1 h1
  generalize RC.val ⟨b3, l3, e3, c3, k3, q3⟩ = y1 at yr yf yh
  generalize RC.val ⟨b4, l4, e4, c4, k4, q4⟩ = y2 at yr yf yh
  have yr : RcR _ (y1, y2).1 (y1, y2).2 := yr
  have yf : RcF _ (y1, y2).1 (y1, y2).2 := yf
  generalize (y1, y2) = y at yr yf yh
  have oy := rof2_ord y
  have hy := yh.rof2
  obtain ⟨zr, zf, zh⟩ := fF2 h2
  generalize RC.val ⟨b5, l5, e5, c5, k5, q5⟩ = z1 at zr zf zh
  generalize RC.val ⟨b6, l6, e6, c6, k6, q6⟩ = z2 at zr zf zh
  have zr : RcR _ (z1, z2).1 (z1, z2).2 := zr
  have zf : RcF _ (z1, z2).1 (z1, z2).2 := zf
  generalize (z1, z2) = z at zr zf zh
  have oz := rof2_ord z
  have hz := zh.rof2
  obtain ⟨⟨w1, w2, t⟩, hm⟩ : ∃ m, rmeet (rof2 x).1 (rof2 x).2 (rof2 y).1 (rof2 y).2 = m := ⟨_, rfl⟩
  have m1 := rtMeet_is xr yr (xh.1.mono (by decide)) (xh.2.mono (by decide)) (yh.1.mono (by decide)) (yh.2.mono (by decide)) hm
  have hw : Hr 1320 (w1, w2) := by
    have a := hx.1.imeet hy.1
    have b := hx.2.imeet hy.2
    unfold rmeet at hm
    split at hm
    · cases hm; exact ⟨a, b⟩
    · cases hm; exact Hr.zero _
  have m1 : Sim Tryz.prog G0 false 103 _ (.tup [rqD (w1, w2), .bool t]) := m1
  cases t
  · obtain ⟨e, hno⟩ := rmeet_no ox hm
    have i1 := rtIn_is (t := false) xr yr (xh.1.mono (by decide)) (xh.2.mono (by decide)) (yh.1.mono (by decide)) (yh.2.mono (by decide)) (decide_eq_false hno)
    rw [e] at m1
    have i2 := rtSame_is (z := ((0, 0), (0, 0))) (w := ((0, 0), (0, 0))) (t := true) (RqR.of (Hr.zero _)) rqz (Hr.zero _) (Hr.zero _) (by decide)
    refine sim_mk tab_ok Tryz.func10 rfl (by kernel_rfl) rfl ⟨Nat.le_of_ble_eq_true rfl, Nat.le_of_ble_eq_true rfl⟩ ?_
    repeat' ((conv => whnf); first
      | with_reducible refine CallX.data ?_
      | refine CallE.mk _ _ (known9_sim) ?_
      | refine CallE.mk _ _ (sF0) ?_
      | refine CallE.mk _ _ (sF1) ?_
      | refine CallE.mk _ _ (sF2) ?_
      | refine CallE.mk _ _ (m1) ?_
      | refine CallE.mk _ _ (i1) ?_
      | refine CallE.mk _ _ (i2) ?_
      | refine RegE.early (Cd.mk (show regOk _ _ _ _ = true by kernel_rfl) ?_)
      | refine Cd.mk rfl ?_
      | refine Br.t ?_
      | refine Br.f ?_
      | refine NthE.mk _ rfl ?_
      | (refine TkE.fL ?_; (conv => whnf); fail_if_success (show forceL _ _))
      | refine Res.mk ?_
      | ((with_reducible refine EqE.idS ?_); (refine EqE.fP ?_; (conv => whnf); fail_if_success (show forceL _ _)))
      | refine Cd.mk (Nat.le_of_ble_eq_true rfl) ?_)
    rfl
  obtain ⟨ow, wx, wy⟩ := rmeet_in hm
  generalize (w1, w2) = w at *
  have wr := RqR.of (hw.mono (show 1320 ≤ 1048576 by decide))
  have ew := rof2_self ow
  have K4 : clampP ((n % 4 : Nat) : Int) ≤ 3 := by unfold clampP; omega
  have i1 := rtIn_is (t := true) wr xr (hw.1.mono (by decide)) (hw.2.mono (by decide)) (xh.1.mono (by decide)) (xh.2.mono (by decide)) (by rw [rof_self ow.1, rof_self ow.2]; exact decide_eq_true wx)
  have i2 := rtIn_is (t := true) wr yr (hw.1.mono (by decide)) (hw.2.mono (by decide)) (yh.1.mono (by decide)) (yh.2.mono (by decide)) (by rw [rof_self ow.1, rof_self ow.2]; exact decide_eq_true wy)
  have a1 := rtAdd_is (r := radd w (rof2 z)) wr zr (hw.mono (by decide)) (zh.mono (by decide)) (by rw [ew])
  have a2 := rtAdd_is xr zr (xh.mono (by decide)) (zh.mono (by decide)) rfl
  have i3 := rtIn_o ((hw.radd hz (c := 1321) (by decide)).mono (by decide)) ((hx.radd hz (c := 1321) (by decide)).mono (by decide)) (radd_ord ow oz) (radd_ord ox oz) (rin_add _ wx)
  have d1 := rtMul_is (r := rmul w (rof2 z)) wr zr (hw.mono (by decide)) (zh.mono (by decide)) (rmul_rof_r _ _).symm
  have d2 := rtMul_is (r := rmul (rof2 x) (rof2 z)) xr zr (xh.mono (by decide)) (zh.mono (by decide)) (rmul_rof _ _).symm
  have i4 := rtIn_o ((hw.rmul hz (c := 2641) (by decide)).mono (by decide)) ((hx.rmul hz (c := 2641) (by decide)).mono (by decide)) (rmul_ord _ _) (rmul_ord _ _) (rin_mul ow oz wx (rin_refl _))
  have p1 := rtPow_is (r := rpw w (clampP ((n % 4 : Nat) : Int))) ((n % 4 : Nat) : Int) wr (hw.mono (by decide)) rfl
  have p2 := rtPow_is (r := rpw (rof2 x) (clampP ((n % 4 : Nat) : Int))) ((n % 4 : Nat) : Int) xr (xh.mono (by decide)) (rpw_rof _ _).symm
  have i5 := rtIn_o ((hw.rpw _).mono (show 1321 * clampP ((n % 4 : Nat) : Int) + 1 ≤ 1000000 by omega)) ((hx.rpw _).mono (show 1321 * clampP ((n % 4 : Nat) : Int) + 1 ≤ 1000000 by omega)) (rpw_ord _ _) (rpw_ord _ _) (rin_pw ow wx (clampP ((n % 4 : Nat) : Int)))
  have g1 := rtSquare_is (r := rsq w) wr (hw.mono (by decide)) (by rw [ew])
  have g2 := rtSquare_is xr (xh.mono (by decide)) rfl
  have i6 := rtIn_o ((hw.rsq (c := 2642) (by decide)).mono (by decide)) ((hx.rsq (c := 2642) (by decide)).mono (by decide)) (rsq_ord ow) (rsq_ord ox) (rin_sq ow wx)
  have u1 := rtHull_is (r := rhull w (rof2 z)) wr zr (hw.mono (by decide)) (zh.mono (by decide)) (by rw [ew])
  have u2 := rtHull_is xr zr (xh.mono (by decide)) (zh.mono (by decide)) rfl
  have i7 := rtIn_o ((hw.rhull hz).mono (by decide)) ((hx.rhull hz).mono (by decide)) (rhull_ord ow oz) (rhull_ord ox oz) (rin_hull _ wx)
  have v1 := rtMiddle_is wr (hw.mono (by decide)) rfl
  have i8 := rtHas_o (hw.mono (by decide)) (hw.rmid.mono (by decide)) ow (rmid_has ow)
  generalize radd w (rof2 z) = A1 at *
  generalize radd (rof2 x) (rof2 z) = A2 at *
  generalize rmul w (rof2 z) = B1 at *
  generalize rmul (rof2 x) (rof2 z) = B2 at *
  generalize rpw w (clampP ((n % 4 : Nat) : Int)) = P1 at *
  generalize rpw (rof2 x) (clampP ((n % 4 : Nat) : Int)) = P2 at *
  generalize rsq w = G1 at *
  generalize rsq (rof2 x) = G2 at *
  generalize rhull w (rof2 z) = U1 at *
  generalize rhull (rof2 x) (rof2 z) = U2 at *
  generalize rmid w = V1 at *
  clear hm ew wx wy ow
  obtain ⟨⟨_, _⟩, ⟨_, _⟩⟩ := w
  obtain ⟨⟨_, _⟩, ⟨_, _⟩⟩ := A1
  obtain ⟨⟨_, _⟩, ⟨_, _⟩⟩ := A2
  obtain ⟨⟨_, _⟩, ⟨_, _⟩⟩ := B1
  obtain ⟨⟨_, _⟩, ⟨_, _⟩⟩ := B2
  obtain ⟨⟨_, _⟩, ⟨_, _⟩⟩ := P1
  obtain ⟨⟨_, _⟩, ⟨_, _⟩⟩ := P2
  obtain ⟨⟨_, _⟩, ⟨_, _⟩⟩ := G1
  obtain ⟨⟨_, _⟩, ⟨_, _⟩⟩ := G2
  obtain ⟨⟨_, _⟩, ⟨_, _⟩⟩ := U1
  obtain ⟨⟨_, _⟩, ⟨_, _⟩⟩ := U2
  obtain ⟨_, _⟩ := V1
  refine sim_mk tab_ok Tryz.func10 rfl (by kernel_rfl) rfl ⟨Nat.le_of_ble_eq_true rfl, Nat.le_of_ble_eq_true rfl⟩ ?_
  repeat' ((conv => whnf); first
    | with_reducible refine CallX.data ?_
    | refine CallE.mk _ _ (known9_sim) ?_
    | refine CallE.mk _ _ (sF0) ?_
    | refine CallE.mk _ _ (sF1) ?_
    | refine CallE.mk _ _ (sF2) ?_
    | refine CallE.mk _ _ (m1) ?_
    | refine CallE.mk _ _ (i1) ?_
    | refine CallE.mk _ _ (i2) ?_
    | refine CallE.mk _ _ (a1) ?_
    | refine CallE.mk _ _ (a2) ?_
    | refine CallE.mk _ _ (i3) ?_
    | refine CallE.mk _ _ (d1) ?_
    | refine CallE.mk _ _ (d2) ?_
    | refine CallE.mk _ _ (i4) ?_
    | refine CallE.mk _ _ (p1) ?_
    | refine CallE.mk _ _ (p2) ?_
    | refine CallE.mk _ _ (i5) ?_
    | refine CallE.mk _ _ (g1) ?_
    | refine CallE.mk _ _ (g2) ?_
    | refine CallE.mk _ _ (i6) ?_
    | refine CallE.mk _ _ (u1) ?_
    | refine CallE.mk _ _ (u2) ?_
    | refine CallE.mk _ _ (i7) ?_
    | refine CallE.mk _ _ (v1) ?_
    | refine CallE.mk _ _ (i8) ?_
    | refine RegE.early (Cd.mk (show regOk _ _ _ _ = true by kernel_rfl) ?_)
    | refine Cd.mk rfl ?_
    | refine Br.t ?_
    | refine Br.f ?_
    | refine NthE.mk _ rfl ?_
    | (refine TkE.fL ?_; (conv => whnf); fail_if_success (show forceL _ _))
    | refine Res.mk ?_
    | ((with_reducible refine EqE.idW ?_); refine EqE.mk _ (wrap_in (by omega) (by omega)) ?_)
    | ((with_reducible refine EqE.idM ?_); refine EqE.mk _ (n_rem4 _) ?_)
    | ((with_reducible refine EqE.idS ?_); (refine EqE.fP ?_; (conv => whnf); fail_if_success (show forceL _ _)))
    | refine Cd.mk (Nat.le_of_ble_eq_true rfl) ?_
    | refine Cd.mk (by first | omega | (simp only [length_limbs, length_la]; omega)) ?_)
  rfl
theorem rectless_at (r1 r2 s1 s2 t1 t2 : RC) (n : Int) (h0 : 0 ≤ n) (h1 : n ≤ 255) : Sim Tryz.prog G0 true 10 [rqcell r1 r2, rqcell s1 s2, rqcell t1 t2, .int .u8 n] (.bool true) := by
  obtain ⟨n, rfl⟩ := Int.eq_ofNat_of_zero_le h0
  exact rectless_sim r1 r2 s1 s2 t1 t2 n (by omega)
end Go.Ev.Ar

namespace Go.Ev.Ar
open Go Go.Ev Go.Proofs

/- THE REFERENCE's POINTS -/
theorem rcadd8 {a b w : Cq} (ha : Hc 40000 a) (hb : Hc 40000 b) (h : (a.1 + b.1, a.2 + b.2) = w) : Sim Tryz.prog G0 false 22 [cxD a, cxD b] (cxD w) := by
  subst h
  have s1 := rdadd_sim (ha.1.mono (show 40000 ≤ 49000 by decide)) (hb.1.mono (by decide))
  have s2 := rdadd_sim (ha.2.mono (show 40000 ≤ 49000 by decide)) (hb.2.mono (by decide))
  obtain ⟨_, _⟩ := a
  obtain ⟨_, _⟩ := b
  refine sim_mk tab_ok Tryz.func22 rfl (by kernel_rfl) rfl ⟨Nat.le_of_ble_eq_true rfl, Nat.le_of_ble_eq_true rfl⟩ ?_
  repeat' ((conv => whnf); first
    | refine CallE.mk _ _ (s1) ?_
    | refine CallE.mk _ _ (s2) ?_
    | refine RegE.early (Cd.mk (show regOk _ _ _ _ = true by kernel_rfl) ?_)
    | refine Cd.mk rfl ?_
    | (refine TkE.fL ?_; (conv => whnf); fail_if_success (show forceL _ _))
    | refine Res.mk ?_
    | ((with_reducible refine EqE.idS ?_); (refine EqE.fP ?_; (conv => whnf); fail_if_success (show forceL _ _)))
    | refine Cd.mk (Nat.le_of_ble_eq_true rfl) ?_)
  rfl
theorem rcsub8 {a b w : Cq} (ha : Hc 40000 a) (hb : Hc 40000 b) (h : (a.1 - b.1, a.2 - b.2) = w) : Sim Tryz.prog G0 false 118 [cxD a, cxD b] (cxD w) := by
  subst h
  have s1 := rcneg_sim (hb.mono (show 40000 ≤ 50000 by decide)) rfl
  have s2 := rcadd8 (a := a) (b := (-b.1, -b.2)) (w := (a.1 - b.1, a.2 - b.2)) ha ⟨hb.1.neg, hb.2.neg⟩ (by dsimp only; congr 1 <;> grind)
  generalize a.1 - b.1 = p at *
  generalize a.2 - b.2 = q at *
  obtain ⟨_, _⟩ := a
  obtain ⟨_, _⟩ := b
  refine sim_mk tab_ok Tryz.func118 rfl (by kernel_rfl) rfl ⟨Nat.le_of_ble_eq_true rfl, Nat.le_of_ble_eq_true rfl⟩ ?_
  repeat' ((conv => whnf); first
    | refine CallE.mk _ _ (s1) ?_
    | refine CallE.mk _ _ (s2) ?_
    | refine RegE.early (Cd.mk (show regOk _ _ _ _ = true by kernel_rfl) ?_)
    | refine Cd.mk rfl ?_
    | (refine TkE.fL ?_; (conv => whnf); fail_if_success (show forceL _ _))
    | refine Res.mk ?_
    | ((with_reducible refine EqE.idS ?_); (refine EqE.fP ?_; (conv => whnf); fail_if_success (show forceL _ _)))
    | refine Cd.mk (Nat.le_of_ble_eq_true rfl) ?_)
  rfl
theorem rcmul8 {a b w : Cq} (ha : Hc 4000 a) (hb : Hc 4000 b) (h : cmulP a b = w) : Sim Tryz.prog G0 false 97 [cxD a, cxD b] (cxD w) := rcmul_sim ha hb h
theorem rcnorm8 {a : Cq} {d : Dyadic} (ha : Hc 20000 a) (h : normP a = d) : Sim Tryz.prog G0 false 102 [cxD a] (dyD d) := by
  subst h
  have m1 := rdmul_sim (ha.1.mono (show 20000 ≤ 25000 by decide)) (ha.1.mono (show 20000 ≤ 25000 by decide))
  have m2 := rdmul_sim (ha.2.mono (show 20000 ≤ 25000 by decide)) (ha.2.mono (show 20000 ≤ 25000 by decide))
  have s := rdadd_sim ((ha.1.mul ha.1 (c := 40000) (by decide)).mono (show 40000 ≤ 49000 by decide)) ((ha.2.mul ha.2 (c := 40000) (by decide)).mono (show 40000 ≤ 49000 by decide))
  unfold normP
  generalize a.1 * a.1 + a.2 * a.2 = n at *
  generalize a.1 * a.1 = p at *
  generalize a.2 * a.2 = q at *
  obtain ⟨_, _⟩ := a
  refine sim_mk tab_ok Tryz.func102 rfl (by kernel_rfl) rfl ⟨Nat.le_of_ble_eq_true rfl, Nat.le_of_ble_eq_true rfl⟩ ?_
  repeat' ((conv => whnf); first
    | refine CallE.mk _ _ (m1) ?_
    | refine CallE.mk _ _ (m2) ?_
    | refine CallE.mk _ _ (s) ?_
    | refine RegE.early (Cd.mk (show regOk _ _ _ _ = true by kernel_rfl) ?_)
    | refine Cd.mk rfl ?_
    | (refine TkE.fL ?_; (conv => whnf); fail_if_success (show forceL _ _))
    | refine Res.mk ?_
    | ((with_reducible refine EqE.idS ?_); (refine EqE.fP ?_; (conv => whnf); fail_if_success (show forceL _ _)))
    | refine Cd.mk (Nat.le_of_ble_eq_true rfl) ?_)
  rfl
theorem Hc.cmulP {a b c : Nat} {z w : Cq} (h : Hc a z) (k : Hc b w) (hc : a + b < c) : Hc c (cmulP z w) :=
  ⟨(h.1.mul k.1 (Nat.le_refl _)).sub (h.2.mul k.2 (Nat.le_refl _)) (by omega), (h.1.mul k.2 (Nat.le_refl _)).add (h.2.mul k.1 (Nat.le_refl _)) (by omega)⟩
theorem hc_cpw {a : Nat} {z : Cq} (h : Hc a z) : ∀ n, Hc ((a + 1) * n + 1) (cpw z n)
  | 0 => ⟨Ht.one.mono (by omega), .zero _⟩
  | n + 1 => Hc.cmulP (hc_cpw h n) h (by rw [Nat.mul_add]; omega)
def cxC (z : Cq) : List A := dyC z.1 ++ dyC z.2
theorem rcpow8 {z r : Cq} (n : Int) (hz : Hc 1320 z) (hK : clampP n ≤ 4) (h : cpw z (clampP n) = r) : Sim Tryz.prog G0 false 119 [cxD z, .int .i64 n] (cxD r) := by
  have hn : (min (max n 0) 64).toNat = clampP n := rfl
  have one := rof_sim 1 0 (by decide) (by decide) (by decide) (by decide)
  have mS : ∀ i, i < 4 → Sim Tryz.prog G0 false 97 [cxD (cpw z i), cxD z] (cxD (cpw z (i + 1))) := fun i hi => rcmul8 ((hc_cpw hz i).mono (by omega)) (hz.mono (by decide)) rfl
  obtain ⟨a, b⟩ := z
  refine sim_mk tab_ok Tryz.func119 rfl (by kernel_rfl) rfl ⟨Nat.le_of_ble_eq_true rfl, Nat.le_of_ble_eq_true rfl⟩ ?_
  repeat' ((conv => whnf); first
    | with_reducible refine CallX.data ?_
    | refine CallE.mk _ _ (one) ?_
    | refine RegE.early (Cd.mk (show regOk _ _ _ _ = true by kernel_rfl) ?_)
    | refine Cd.mk rfl ?_
    | ((with_reducible refine EqE.idS ?_); (refine EqE.fP ?_; (conv => whnf); fail_if_success (show forceL _ _)))
    | refine Cd.mk (Nat.le_of_ble_eq_true rfl) ?_)
  refine ⟨[], [1, 2, 4, 5, 6], [2, 4, 5], fun m ys h => ∃ (i : Nat), m = (min (max n 0) 64).toNat - i ∧ i ≤ (min (max n 0) 64).toNat ∧ ys = [.d (.int .i64 n), .ptr 2 0, .ptr 4 0, .ptr 5 0, .d (.int .i64 i)] ∧
    h = [(5, false, cxC (cpw (a, b) i)), (4, false, zeA ++ zeA), (2, false, cxC (a, b))],
    ⟨_, _, _, ⟨.inl rfl, rfl, rfl, by first | rfl | (repeat first | exact all_nil _ | refine all_la _ _ _ _ _ ?_)⟩, 0, rfl, by omega, rfl, rfl⟩, ?_⟩
  rintro m ys h ⟨i, rfl, hi, rfl, rfl⟩
  by_cases hlt : i < (min (max n 0) 64).toNat
  · have mi := mS i (by omega)
    repeat' ((conv => whnf); first
      | with_reducible refine CallX.data ?_
      | with_reducible refine Br.dec (fun _ => ?_) (fun h => absurd (by omega) h)
      | refine CallE.mk _ _ (mi) ?_
      | refine RegE.early (Cd.mk (show regOk _ _ _ _ = true by kernel_rfl) ?_)
      | refine Cd.mk rfl ?_
      | (refine TkE.fL ?_; (conv => whnf); fail_if_success (show forceL _ _))
      | refine LoopEnd.go _ _ ⟨.inl rfl, rfl, rfl, by first | rfl | (repeat first | exact all_nil _ | refine all_la _ _ _ _ _ ?_)⟩ ?_
      | ((with_reducible refine EqE.idW ?_); with_reducible refine EqE.mk _ (n_succ _ (by omega)) ?_)
      | ((with_reducible refine EqE.idI ?_); refine EqE.mk _ (min_eq _ _) ?_)
      | ((with_reducible refine EqE.idS ?_); (refine EqE.fP ?_; (conv => whnf); fail_if_success (show forceL _ _)))
      | refine Cd.mk (Nat.le_of_ble_eq_true rfl) ?_)
    exact ⟨_, ⟨i + 1, rfl, by omega, rfl, rfl⟩, by omega⟩
  · have e : i = clampP n := by rw [← hn]; omega
    rw [← e] at h
    repeat' ((conv => whnf); first
      | with_reducible refine Br.dec (fun h => absurd h (by omega)) (fun _ => ?_)
      | refine RegE.early (Cd.mk (show regOk _ _ _ _ = true by kernel_rfl) ?_)
      | refine Cd.mk rfl ?_
      | (refine TkE.fL ?_; (conv => whnf); fail_if_success (show forceL _ _))
      | refine Res.mk ?_
      | ((with_reducible refine EqE.idI ?_); refine EqE.mk _ (min_eq _ _) ?_)
      | ((with_reducible refine EqE.idS ?_); (refine EqE.fP ?_; (conv => whnf); fail_if_success (show forceL _ _)))
      | refine Cd.mk (Nat.le_of_ble_eq_true rfl) ?_)
    rw [← h]; rfl
theorem between9 {v n : Dyadic} {y : Cq} (hv : Ht 20000 v) (hn : Ht 10000 n) (hy : Hc 10000 y) (h : ihas (scl n y) v) : Sim Tryz.prog G0 true 122 [dyD v, dyD n, cxD y] (.bool true) := by
  have m1 := rdmul_sim (hy.1.mono (show 10000 ≤ 25000 by decide)) (hn.mono (show 10000 ≤ 25000 by decide))
  have m2 := rdmul_sim (hy.2.mono (show 10000 ≤ 25000 by decide)) (hn.mono (show 10000 ≤ 25000 by decide))
  have k1 : Ht 20000 (y.1 * n) := hy.1.mul hn (by decide)
  have k2 : Ht 20000 (y.2 * n) := hy.2.mul hn (by decide)
  have c1 := rdcmp_sim (p := y.1 * n) (q := v) (k1.mono (by decide)) (hv.mono (by decide)) ((k1.sub hv (c := 20001) (by decide)).mono (by decide))
  have c2 := rdcmp_sim (p := v) (q := y.2 * n) (hv.mono (by decide)) (k2.mono (by decide)) ((hv.sub k2 (c := 20001) (by decide)).mono (by decide))
  have d1 : dsg (y.1 * n - v) ≤ 0 := dsg_sub_le.2 h.1
  have d2 : dsg (v - y.2 * n) ≤ 0 := dsg_sub_le.2 h.2
  generalize y.1 * n = p at *
  generalize y.2 * n = q at *
  obtain ⟨_, _⟩ := y
  refine sim_mk tab_ok Tryz.func122 rfl (by kernel_rfl) rfl ⟨Nat.le_of_ble_eq_true rfl, Nat.le_of_ble_eq_true rfl⟩ ?_
  repeat' ((conv => whnf); first
    | with_reducible refine Br.dec (fun _ => ?_) (fun h => absurd (by omega) h)
    | refine CallE.mk _ _ (m1) ?_
    | refine CallE.mk _ _ (m2) ?_
    | refine CallE.mk _ _ (c1) ?_
    | refine CallE.mk _ _ (c2) ?_
    | refine RegE.early (Cd.mk (show regOk _ _ _ _ = true by kernel_rfl) ?_)
    | refine Cd.mk rfl ?_
    | refine Br.t ?_
    | (refine TkE.fL ?_; (conv => whnf); fail_if_success (show forceL _ _))
    | refine Res.mk ?_)
  exact congrArg D.bool (decide_eq_true d2).symm
theorem n_rem80 (n : Nat) : (n : Int).tmod 80 = ((n % 80 : Nat) : Int) := n_rem n 80
set_option maxRecDepth 10000 in
set_option maxHeartbeats 8000000 in
theorem rectholds_sim (r1 r2 s1 s2 t1 t2 : RC) (m n : Nat) (hm : m < 256) (hn : n < 256) : Sim Tryz.prog G0 true 12 [rqcell r1 r2, rqcell s1 s2, .agg t1.cells, .agg t2.cells, .int .u8 m, .int .u8 n] (.bool true) := by
  have sF0 := fewrect9_sim r1 r2
  have fF0 := few_rq (r := r1) (s := r2)
  have sF1 := fewrect9_sim s1 s2
  have fF1 := few_rq (r := s1) (s := s2)
  have sF2 := fewcplx9_sim t1
  have fF2 := few_cx (r := t1)
  have sF3 := fewcplx9_sim t2
  have fF3 := few_cx (r := t2)
  obtain ⟨b1, l1, e1, c1, k1, q1⟩ := r1
  obtain ⟨b2, l2, e2, c2, k2, q2⟩ := r2
  obtain ⟨b3, l3, e3, c3, k3, q3⟩ := s1
  obtain ⟨b4, l4, e4, c4, k4, q4⟩ := s2
  obtain ⟨b5, l5, e5, c5, k5, q5⟩ := t1
  obtain ⟨b6, l6, e6, c6, k6, q6⟩ := t2
  cases h0 : few2 ⟨b1, l1, e1, c1, k1, q1⟩ ⟨b2, l2, e2, c2, k2, q2⟩
  · rw [h0] at sF0
    refine sim_mk tab_ok Tryz.func12 rfl (by kernel_rfl) rfl ⟨Nat.le_of_ble_eq_true rfl, Nat.le_of_ble_eq_true rfl⟩ ?_
    repeat' ((conv => whnf); first
      | with_reducible refine CallX.data ?_
      | refine CallE.mk _ _ (known9_sim) ?_
      | refine CallE.mk _ _ (sF0) ?_
      | refine RegE.early (Cd.mk (show regOk _ _ _ _ = true by kernel_rfl) ?_)
      | refine Cd.mk rfl ?_
      | refine Br.t ?_
      | refine Br.f ?_
      | (refine TkE.fL ?_; (conv => whnf); fail_if_success (show forceL _ _))
      | refine Res.mk ?_)
    rfl
  rw [h0] at sF0
  cases h1 : few2 ⟨b3, l3, e3, c3, k3, q3⟩ ⟨b4, l4, e4, c4, k4, q4⟩
  · rw [h1] at sF1
    refine sim_mk tab_ok Tryz.func12 rfl (by kernel_rfl) rfl ⟨Nat.le_of_ble_eq_true rfl, Nat.le_of_ble_eq_true rfl⟩ ?_
    repeat' ((conv => whnf); first
      | with_reducible refine CallX.data ?_
      | refine CallE.mk _ _ (known9_sim) ?_
      | refine CallE.mk _ _ (sF0) ?_
      | refine CallE.mk _ _ (sF1) ?_
      | refine RegE.early (Cd.mk (show regOk _ _ _ _ = true by kernel_rfl) ?_)
      | refine Cd.mk rfl ?_
      | refine Br.t ?_
      | refine Br.f ?_
      | (refine TkE.fL ?_; (conv => whnf); fail_if_success (show forceL _ _))
      | refine Res.mk ?_)
    rfl
  rw [h1] at sF1
  cases h2 : RC.few 10 1000 ⟨b5, l5, e5, c5, k5, q5⟩
  · rw [h2] at sF2
    refine sim_mk tab_ok Tryz.func12 rfl (by kernel_rfl) rfl ⟨Nat.le_of_ble_eq_true rfl, Nat.le_of_ble_eq_true rfl⟩ ?_
    repeat' ((conv => whnf); first
      | with_reducible refine CallX.data ?_
      | refine CallE.mk _ _ (known9_sim) ?_
      | refine CallE.mk _ _ (sF0) ?_
      | refine CallE.mk _ _ (sF1) ?_
      | refine CallE.mk _ _ (sF2) ?_
      | refine RegE.early (Cd.mk (show regOk _ _ _ _ = true by kernel_rfl) ?_)
      | refine Cd.mk rfl ?_
      | refine Br.t ?_
      | refine Br.f ?_
      | (refine TkE.fL ?_; (conv => whnf); fail_if_success (show forceL _ _))
      | refine Res.mk ?_)
    rfl
  rw [h2] at sF2
  cases h3 : RC.few 10 1000 ⟨b6, l6, e6, c6, k6, q6⟩
  · rw [h3] at sF3
    refine sim_mk tab_ok Tryz.func12 rfl (by kernel_rfl) rfl ⟨Nat.le_of_ble_eq_true rfl, Nat.le_of_ble_eq_true rfl⟩ ?_
    repeat' ((conv => whnf); first
      | with_reducible refine CallX.data ?_
      | refine CallE.mk _ _ (known9_sim) ?_
      | refine CallE.mk _ _ (sF0) ?_
      | refine CallE.mk _ _ (sF1) ?_
      | refine CallE.mk _ _ (sF2) ?_
      | refine CallE.mk _ _ (sF3) ?_
      | refine RegE.early (Cd.mk (show regOk _ _ _ _ = true by kernel_rfl) ?_)
      | refine Cd.mk rfl ?_
      | refine Br.t ?_
      | refine Br.f ?_
      | (refine TkE.fL ?_; (conv => whnf); fail_if_success (show forceL _ _))
      | refine Res.mk ?_)
    rfl
  rw [h3] at sF3
  obtain ⟨xr, xf, xh⟩ := fF0 h0
  generalize RC.val ⟨b1, l1, e1, c1, k1, q1⟩ = x1 at xr xf xh
  generalize RC.val ⟨b2, l2, e2, c2, k2, q2⟩ = x2 at xr xf xh
  have xr : RcR _ (x1, x2).1 (x1, x2).2 := xr
  have xf : RcF _ (x1, x2).1 (x1, x2).2 := xf
  generalize (x1, x2) = x at xr xf xh
  have ox := rof2_ord x
  have hx := xh.rof2
  obtain ⟨yr, yf, yh⟩ := fF1 h1
  generalize RC.val ⟨b3, l3, e3, c3, k3, q3⟩ = y1 at yr yf yh
  generalize RC.val ⟨b4, l4, e4, c4, k4, q4⟩ = y2 at yr yf yh
  have yr : RcR _ (y1, y2).1 (y1, y2).2 := yr
  have yf : RcF _ (y1, y2).1 (y1, y2).2 := yf
  generalize (y1, y2) = y at yr yf yh
  have oy := rof2_ord y
  have hy := yh.rof2
  obtain ⟨zr, zf, zh⟩ := fF2 h2
  generalize RC.val ⟨b5, l5, e5, c5, k5, q5⟩ = z at zr zf zh
  obtain ⟨ur, uf, uh⟩ := fF3 h3
  generalize RC.val ⟨b6, l6, e6, c6, k6, q6⟩ = u at ur uf uh
  cases g1 : decide (ihas (rof2 x).1 z.1 ∧ ihas (rof2 x).2 z.2)
  · have a1 := rtHas_is xr zr (xh.1.mono (by decide)) (xh.2.mono (by decide)) (zh.mono (by decide)) g1
    refine sim_mk tab_ok Tryz.func12 rfl (by kernel_rfl) rfl ⟨Nat.le_of_ble_eq_true rfl, Nat.le_of_ble_eq_true rfl⟩ ?_
    repeat' ((conv => whnf); first
      | with_reducible refine CallX.data ?_
      | refine CallE.mk _ _ (known9_sim) ?_
      | refine CallE.mk _ _ (sF0) ?_
      | refine CallE.mk _ _ (sF1) ?_
      | refine CallE.mk _ _ (sF2) ?_
      | refine CallE.mk _ _ (sF3) ?_
      | refine CallE.mk _ _ (a1) ?_
      | refine RegE.early (Cd.mk (show regOk _ _ _ _ = true by kernel_rfl) ?_)
      | refine Cd.mk rfl ?_
      | refine Br.t ?_
      | refine Br.f ?_
      | (refine TkE.fL ?_; (conv => whnf); fail_if_success (show forceL _ _))
      | refine Res.mk ?_)
    rfl
  have a1 := rtHas_is xr zr (xh.1.mono (by decide)) (xh.2.mono (by decide)) (zh.mono (by decide)) g1
  cases g2 : decide (ihas (rof2 y).1 u.1 ∧ ihas (rof2 y).2 u.2)
  · have a2 := rtHas_is yr ur (yh.1.mono (by decide)) (yh.2.mono (by decide)) (uh.mono (by decide)) g2
    refine sim_mk tab_ok Tryz.func12 rfl (by kernel_rfl) rfl ⟨Nat.le_of_ble_eq_true rfl, Nat.le_of_ble_eq_true rfl⟩ ?_
    repeat' ((conv => whnf); first
      | with_reducible refine CallX.data ?_
      | refine CallE.mk _ _ (known9_sim) ?_
      | refine CallE.mk _ _ (sF0) ?_
      | refine CallE.mk _ _ (sF1) ?_
      | refine CallE.mk _ _ (sF2) ?_
      | refine CallE.mk _ _ (sF3) ?_
      | refine CallE.mk _ _ (a1) ?_
      | refine CallE.mk _ _ (a2) ?_
      | refine RegE.early (Cd.mk (show regOk _ _ _ _ = true by kernel_rfl) ?_)
      | refine Cd.mk rfl ?_
      | refine Br.t ?_
      | refine Br.f ?_
      | (refine TkE.fL ?_; (conv => whnf); fail_if_success (show forceL _ _))
      | refine Res.mk ?_)
    rfl
  have a2 := rtHas_is yr ur (yh.1.mono (by decide)) (yh.2.mono (by decide)) (uh.mono (by decide)) g2
  have g1 := of_decide_eq_true g1
  have g2 := of_decide_eq_true g2
  have g1 : rhas (rof2 x) z := g1
  have g2 : rhas (rof2 y) u := g2
  obtain ⟨P, hP⟩ : ∃ P : Int, P = ((m % 100 : Nat) : Int) + 1 := ⟨_, rfl⟩
  obtain ⟨K, hK⟩ : ∃ K : Int, K = ((n % 5 : Nat) : Int) := ⟨_, rfl⟩
  have K4 : clampP K ≤ 4 := by rw [hK]; unfold clampP; omega
  have P1 : min (max P 1) 4000 ≤ 100 := by omega
  obtain ⟨⟨Q, q⟩, hQ⟩ : ∃ m, rdivE (rof2 x) (rof2 y) P = m := ⟨_, rfl⟩
  have A := rcplx_sim zf
  have B := rcplx_sim uf
  have b1' := rtAdd_is xr yr (xh.mono (by decide)) (yh.mono (by decide)) rfl
  have b2' := rcadd8 (zh.mono (by decide)) (uh.mono (by decide)) rfl
  have b3' := rtHas_o ((hx.radd hy (c := 1321) (by decide)).mono (by decide)) ⟨(zh.1.add uh.1 (c := 1321) (by decide)).mono (by decide), (zh.2.add uh.2 (c := 1321) (by decide)).mono (by decide)⟩ (radd_ord ox oy) (rhas_add g1 g2)
  have c1' := rtSub_is xr yr (xh.mono (by decide)) (yh.mono (by decide)) rfl
  have c2' := rcsub8 (zh.mono (by decide)) (uh.mono (by decide)) rfl
  have c3' := rtHas_o ((hx.rsub hy (c := 1321) (by decide)).mono (by decide)) ⟨(zh.1.sub uh.1 (c := 1321) (by decide)).mono (by decide), (zh.2.sub uh.2 (c := 1321) (by decide)).mono (by decide)⟩ (rsub_ord ox oy) (rhas_sub g1 g2)
  have d1 := rtMul_is (r := rmul (rof2 x) (rof2 y)) xr yr (xh.mono (by decide)) (yh.mono (by decide)) (rmul_rof _ _).symm
  have d2 := rcmul8 (zh.mono (by decide)) (uh.mono (by decide)) rfl
  have d3 := rtHas_o ((hx.rmul hy (c := 2641) (by decide)).mono (by decide)) ((Hc.cmulP zh uh (c := 2641) (by decide)).mono (by decide)) (rmul_ord _ _) (rhas_mul g1 g2)
  have i1 := rtSquare_is xr (xh.mono (by decide)) rfl
  have i2 := rcmul8 (zh.mono (by decide)) (zh.mono (by decide)) rfl
  have i3 := rtHas_o ((hx.rsq (c := 2642) (by decide)).mono (by decide)) ((Hc.cmulP zh zh (c := 2641) (by decide)).mono (by decide)) (rsq_ord ox) (rhas_sq g1)
  have j1 := rtPow_is (r := rpw (rof2 x) (clampP K)) K xr (xh.mono (by decide)) (rpw_rof _ _).symm
  have j2 := rcpow8 K zh K4 rfl
  have j3 := rtHas_o ((hx.rpw (clampP K)).mono (show 1321 * clampP K + 1 ≤ 1000000 by omega)) ((hc_cpw zh (clampP K)).mono (show 1321 * clampP K + 1 ≤ 1000000 by omega)) (rpw_ord _ _) (rhas_pw g1 _)
  have m1 := rtNeg_is xr (xh.mono (by decide)) rfl
  have m2 := rcneg_sim (zh.mono (show 1320 ≤ 50000 by decide)) rfl
  have m3 := rtHas_o (hx.rneg.mono (by decide)) ⟨zh.1.neg.mono (by decide), zh.2.neg.mono (by decide)⟩ (rneg_ord ox) (rhas_neg g1)
  have n1 := rtNorm_is xr (xh.mono (by decide)) rfl
  have n2 := rcnorm8 (zh.mono (by decide)) rfl
  have n3 := rHas_is (d := normP z) (t := true) ((hx.rnorm (c := 2642) (by decide)).mono (by decide)) (((zh.1.mul zh.1 (c := 2640) (by decide)).add (zh.2.mul zh.2 (c := 2640) (by decide)) (c := 2641) (by decide)).mono (by decide)) (decide_eq_true (rhas_norm g1))
  have p1 := rtDiv_is P xr yr (xh.mono (by decide)) (yh.mono (by decide)) hQ
  have hQt : Hr 9000 Q := by
    have h := hx.rdivE hy P1
    rw [hQ] at h; exact h.mono (by decide)
  have hD : rdivE (rof2 x) (rof2 y) P = (Q, q) := hQ
  unfold rdivE at hQ
  generalize radd (rof2 x) (rof2 y) = Z1 at *
  generalize rsub (rof2 x) (rof2 y) = Z2 at *
  generalize rmul (rof2 x) (rof2 y) = Z3 at *
  generalize rsq (rof2 x) = Z4 at *
  generalize rpw (rof2 x) (clampP K) = Z5 at *
  generalize rneg (rof2 x) = Z6 at *
  generalize rnorm (rof2 x) = Z7 at *
  generalize cmulP z z = C1 at *
  generalize cpw z (clampP K) = C2 at *
  generalize normP z = N1 at *
  obtain ⟨⟨_, _⟩, ⟨_, _⟩⟩ := Z1
  obtain ⟨⟨_, _⟩, ⟨_, _⟩⟩ := Z2
  obtain ⟨⟨_, _⟩, ⟨_, _⟩⟩ := Z3
  obtain ⟨⟨_, _⟩, ⟨_, _⟩⟩ := Z4
  obtain ⟨⟨_, _⟩, ⟨_, _⟩⟩ := Z5
  obtain ⟨⟨_, _⟩, ⟨_, _⟩⟩ := Z6
  obtain ⟨_, _⟩ := Z7
  obtain ⟨_, _⟩ := C1
  obtain ⟨_, _⟩ := C2
  by_cases g0 : ihas (rnorm (rof2 y)) 0
  · rw [if_pos g0] at hQ; cases hQ
    generalize cmulP z u = C3 at *
    obtain ⟨_, _⟩ := C3
    clear hD g1 g2
    obtain ⟨_, _⟩ := z
    obtain ⟨_, _⟩ := u
    refine sim_mk tab_ok Tryz.func12 rfl (by kernel_rfl) rfl ⟨Nat.le_of_ble_eq_true rfl, Nat.le_of_ble_eq_true rfl⟩ ?_
    repeat' ((conv => whnf); first
      | with_reducible refine CallX.data ?_
      | refine RegE.lateS (ps := [(6, 3)]) rfl (by kernel_rfl) ?_ rfl
      | refine CallE.mk _ _ (known9_sim) ?_
      | refine CallE.mk _ _ (sF0) ?_
      | refine CallE.mk _ _ (sF1) ?_
      | refine CallE.mk _ _ (sF2) ?_
      | refine CallE.mk _ _ (sF3) ?_
      | refine CallE.mk _ _ (a1) ?_
      | refine CallE.mk _ _ (a2) ?_
      | refine CallE.mk _ _ (A) ?_
      | refine CallE.mk _ _ (B) ?_
      | refine CallE.mk _ _ (b1') ?_
      | refine CallE.mk _ _ (b2') ?_
      | refine CallE.mk _ _ (b3') ?_
      | refine CallE.mk _ _ (c1') ?_
      | refine CallE.mk _ _ (c2') ?_
      | refine CallE.mk _ _ (c3') ?_
      | refine CallE.mk _ _ (d1) ?_
      | refine CallE.mk _ _ (d2) ?_
      | refine CallE.mk _ _ (d3) ?_
      | refine CallE.mk _ _ (i1) ?_
      | refine CallE.mk _ _ (i2) ?_
      | refine CallE.mk _ _ (i3) ?_
      | refine CallE.mk _ _ (j1) ?_
      | refine CallE.mk _ _ (j2) ?_
      | refine CallE.mk _ _ (j3) ?_
      | refine CallE.mk _ _ (m1) ?_
      | refine CallE.mk _ _ (m2) ?_
      | refine CallE.mk _ _ (m3) ?_
      | refine CallE.mk _ _ (n1) ?_
      | refine CallE.mk _ _ (n2) ?_
      | refine CallE.mk _ _ (n3) ?_
      | refine CallE.mk _ _ (p1) ?_
      | refine RegE.early (Cd.mk (show regOk _ _ _ _ = true by kernel_rfl) ?_)
      | refine Cd.mk rfl ?_
      | refine Br.t ?_
      | refine Br.f ?_
      | refine NthE.mk _ rfl ?_
      | (refine TkE.fL ?_; (conv => whnf); fail_if_success (show forceL _ _))
      | refine Res.mk ?_
      | refine LateE.mk (by repeat first | exact True.intro | refine And.intro (by kernel_rfl) ?_) ?_
      | ((with_reducible refine EqE.idW ?_); first | refine EqE.mk P (by rw [wrap_in (by omega) (by omega)]; exact hP.symm) ?_ | refine EqE.mk K (by rw [wrap_in (by omega) (by omega)]; exact hK.symm) ?_ | with_reducible refine EqE.mk _ (n_i64 _ (by omega)) ?_)
      | ((with_reducible refine EqE.idM ?_); first | refine EqE.mk _ (n_rem100 _) ?_ | refine EqE.mk _ (n_rem5 _) ?_)
      | ((with_reducible refine EqE.idS ?_); (refine EqE.fP ?_; (conv => whnf); fail_if_success (show forceL _ _)))
      | refine Cd.mk (Nat.le_of_ble_eq_true rfl) ?_
      | refine Cd.mk (by first | omega | (simp only [length_limbs, length_la]; omega)) ?_)
    rfl
  · rw [if_neg g0] at hQ
    have hq : q = 0 := by cases hQ; rfl
    subst hq
    have key := rdiv_has P g1 g2 g0
    rw [hD] at key
    dsimp only at key
    clear hQ
    have hub : Hc 1320 (u.1, -u.2) := ⟨uh.1, uh.2.neg⟩
    have e1 := rdneg_sim (uh.2.mono (show 1320 ≤ 50000 by decide))
    have e2 := rcmul8 (a := z) (b := (u.1, -u.2)) (zh.mono (by decide)) (hub.mono (by decide)) rfl
    have hC : Hc 2641 (cmulP z (u.1, -u.2)) := Hc.cmulP zh hub (by decide)
    have e3 := rcnorm8 (uh.mono (by decide)) rfl
    have hN : Ht 2641 (normP u) := (uh.1.mul uh.1 (c := 2640) (by decide)).add (uh.2.mul uh.2 (c := 2640) (by decide)) (by decide)
    have e4 := between9 (hC.1.mono (by decide)) (hN.mono (by decide)) (hQt.1.mono (by decide)) key.1
    have e5 := between9 (hC.2.mono (by decide)) (hN.mono (by decide)) (hQt.2.mono (by decide)) key.2
    clear key hD g1 g2
    generalize cmulP z (u.1, -u.2) = C4 at *
    generalize cmulP z u = C3 at *
    generalize normP u = N2 at *
    obtain ⟨_, _⟩ := C3
    obtain ⟨_, _⟩ := C4
    obtain ⟨⟨_, _⟩, ⟨_, _⟩⟩ := Q
    obtain ⟨_, _⟩ := z
    obtain ⟨_, _⟩ := u
    refine sim_mk tab_ok Tryz.func12 rfl (by kernel_rfl) rfl ⟨Nat.le_of_ble_eq_true rfl, Nat.le_of_ble_eq_true rfl⟩ ?_
    repeat' ((conv => whnf); first
      | with_reducible refine CallX.data ?_
      | refine RegE.lateS (ps := [(6, 3)]) rfl (by kernel_rfl) ?_ rfl
      | refine CallE.mk _ _ (known9_sim) ?_
      | refine CallE.mk _ _ (sF0) ?_
      | refine CallE.mk _ _ (sF1) ?_
      | refine CallE.mk _ _ (sF2) ?_
      | refine CallE.mk _ _ (sF3) ?_
      | refine CallE.mk _ _ (a1) ?_
      | refine CallE.mk _ _ (a2) ?_
      | refine CallE.mk _ _ (A) ?_
      | refine CallE.mk _ _ (B) ?_
      | refine CallE.mk _ _ (b1') ?_
      | refine CallE.mk _ _ (b2') ?_
      | refine CallE.mk _ _ (b3') ?_
      | refine CallE.mk _ _ (c1') ?_
      | refine CallE.mk _ _ (c2') ?_
      | refine CallE.mk _ _ (c3') ?_
      | refine CallE.mk _ _ (d1) ?_
      | refine CallE.mk _ _ (d2) ?_
      | refine CallE.mk _ _ (d3) ?_
      | refine CallE.mk _ _ (i1) ?_
      | refine CallE.mk _ _ (i2) ?_
      | refine CallE.mk _ _ (i3) ?_
      | refine CallE.mk _ _ (j1) ?_
      | refine CallE.mk _ _ (j2) ?_
      | refine CallE.mk _ _ (j3) ?_
      | refine CallE.mk _ _ (m1) ?_
      | refine CallE.mk _ _ (m2) ?_
      | refine CallE.mk _ _ (m3) ?_
      | refine CallE.mk _ _ (n1) ?_
      | refine CallE.mk _ _ (n2) ?_
      | refine CallE.mk _ _ (n3) ?_
      | refine CallE.mk _ _ (p1) ?_
      | refine CallE.mk _ _ (e1) ?_
      | refine CallE.mk _ _ (e2) ?_
      | refine CallE.mk _ _ (e3) ?_
      | refine CallE.mk _ _ (e4) ?_
      | refine CallE.mk _ _ (e5) ?_
      | refine RegE.early (Cd.mk (show regOk _ _ _ _ = true by kernel_rfl) ?_)
      | refine Cd.mk rfl ?_
      | refine Br.t ?_
      | refine Br.f ?_
      | refine NthE.mk _ rfl ?_
      | (refine TkE.fL ?_; (conv => whnf); fail_if_success (show forceL _ _))
      | refine Res.mk ?_
      | refine LateE.mk (by repeat first | exact True.intro | refine And.intro (by kernel_rfl) ?_) ?_
      | ((with_reducible refine EqE.idW ?_); first | refine EqE.mk P (by rw [wrap_in (by omega) (by omega)]; exact hP.symm) ?_ | refine EqE.mk K (by rw [wrap_in (by omega) (by omega)]; exact hK.symm) ?_ | with_reducible refine EqE.mk _ (n_i64 _ (by omega)) ?_)
      | ((with_reducible refine EqE.idM ?_); first | refine EqE.mk _ (n_rem100 _) ?_ | refine EqE.mk _ (n_rem5 _) ?_)
      | ((with_reducible refine EqE.idS ?_); (refine EqE.fP ?_; (conv => whnf); fail_if_success (show forceL _ _)))
      | refine Cd.mk (Nat.le_of_ble_eq_true rfl) ?_
      | refine Cd.mk (by first | omega | (simp only [length_limbs, length_la]; omega)) ?_)
    rfl
theorem rectholds_at (r1 r2 s1 s2 t1 t2 : RC) (m n : Int) (h0 : 0 ≤ m) (h1 : m ≤ 255) (h2 : 0 ≤ n) (h3 : n ≤ 255) : Sim Tryz.prog G0 true 12 [rqcell r1 r2, rqcell s1 s2, .agg t1.cells, .agg t2.cells, .int .u8 m, .int .u8 n] (.bool true) := by
  obtain ⟨m, rfl⟩ := Int.eq_ofNat_of_zero_le h0
  obtain ⟨n, rfl⟩ := Int.eq_ofNat_of_zero_le h2
  exact rectholds_sim r1 r2 s1 s2 t1 t2 m n (by omega) (by omega)
end Go.Ev.Ar

namespace Go.Ev.Ar
open Go Go.Ev Go.Proofs

set_option maxRecDepth 10000 in
set_option maxHeartbeats 8000000 in
theorem rectpoints_sim (r1 s1 : RC) (m : Nat) (hm : m < 256) : Sim Tryz.prog G0 true 9 [.agg r1.cells, .agg s1.cells, .int .u8 m] (.bool true) := by
  have sF0 := fewcplx9_sim r1
  have fF0 := few_cx (r := r1)
  have sF1 := fewcplx9_sim s1
  have fF1 := few_cx (r := s1)
  obtain ⟨b1, l1, e1, c1, k1, q1⟩ := r1
  obtain ⟨b2, l2, e2, c2, k2, q2⟩ := s1
  cases h0 : RC.few 10 1000 ⟨b1, l1, e1, c1, k1, q1⟩
  · rw [h0] at sF0
    refine sim_mk tab_ok Tryz.func9 rfl (by kernel_rfl) rfl ⟨Nat.le_of_ble_eq_true rfl, Nat.le_of_ble_eq_true rfl⟩ ?_
    repeat' ((conv => whnf); first
      | with_reducible refine CallX.data ?_
      | refine CallE.mk _ _ (known9_sim) ?_
      | refine CallE.mk _ _ (sF0) ?_
      | refine RegE.early (Cd.mk (show regOk _ _ _ _ = true by kernel_rfl) ?_)
      | refine Cd.mk rfl ?_
      | refine Br.t ?_
      | refine Br.f ?_
      | (refine TkE.fL ?_; (conv => whnf); fail_if_success (show forceL _ _))
      | refine Res.mk ?_)
    rfl
  rw [h0] at sF0
  cases h1 : RC.few 10 1000 ⟨b2, l2, e2, c2, k2, q2⟩
  · rw [h1] at sF1
    refine sim_mk tab_ok Tryz.func9 rfl (by kernel_rfl) rfl ⟨Nat.le_of_ble_eq_true rfl, Nat.le_of_ble_eq_true rfl⟩ ?_
    repeat' ((conv => whnf); first
      | with_reducible refine CallX.data ?_
      | refine CallE.mk _ _ (known9_sim) ?_
      | refine CallE.mk _ _ (sF0) ?_
      | refine CallE.mk _ _ (sF1) ?_
      | refine RegE.early (Cd.mk (show regOk _ _ _ _ = true by kernel_rfl) ?_)
      | refine Cd.mk rfl ?_
      | refine Br.t ?_
      | refine Br.f ?_
      | (refine TkE.fL ?_; (conv => whnf); fail_if_success (show forceL _ _))
      | refine Res.mk ?_)
    rfl
  rw [h1] at sF1
  obtain ⟨xr, xf, xh⟩ := fF0 h0
  generalize RC.val ⟨b1, l1, e1, c1, k1, q1⟩ = x at xr xf xh
  obtain ⟨yr, yf, yh⟩ := fF1 h1
  generalize RC.val ⟨b2, l2, e2, c2, k2, q2⟩ = y at yr yf yh
  have hxp : Hr 1320 (ptR x) := ⟨⟨xh.1, xh.1⟩, ⟨xh.2, xh.2⟩⟩
  have hyp : Hr 1320 (ptR y) := ⟨⟨yh.1, yh.1⟩, ⟨yh.2, yh.2⟩⟩
  have ex := rof2_self (ptR_ord x)
  have ey := rof2_self (ptR_ord y)
  have px := RqR.of (hxp.mono (show 1320 ≤ 1048576 by decide))
  have py := RqR.of (hyp.mono (show 1320 ≤ 1048576 by decide))
  obtain ⟨P, hP⟩ : ∃ P : Int, P = ((m % 80 : Nat) : Int) + 4 := ⟨_, rfl⟩
  have P1 : min (max P 1) 4000 ≤ 100 := by omega
  obtain ⟨⟨Q, q⟩, hQ⟩ : ∃ m, rdivE (ptR x) (ptR y) P = m := ⟨_, rfl⟩
  have hQt : Hr 9000 Q := by
    have h := hxp.rdivE hyp P1
    rw [hQ] at h; exact h.mono (by decide)
  have A := rcplx_sim xf
  have B := rcplx_sim yf
  have a1 : Sim Tryz.prog G0 false 93 _ (rqD (ptR x)) := rtOf_is xr (xh.mono (by decide))
  have a2 : Sim Tryz.prog G0 false 93 _ (rqD (ptR y)) := rtOf_is yr (yh.mono (by decide))
  have d1 := rtDiv_is (r := Q) (c := q) P px py (hxp.mono (by decide)) (hyp.mono (by decide)) (by rw [ex, ey]; exact hQ)
  obtain ⟨t, ht⟩ : ∃ t, decide (y = (0, 0)) = t := ⟨_, rfl⟩
  have z1 := rczero_sim (yh.mono (show 1320 ≤ 50000 by decide)) ht
  have b1' := rtMul_is px py (hxp.mono (by decide)) (hyp.mono (by decide)) (rmul_pt x y)
  have b2' := rcmul8 (xh.mono (by decide)) (yh.mono (by decide)) rfl
  have b3' : Sim Tryz.prog G0 false 96 _ (rqD (ptR (cmulP x y))) := rPoint_is (cmulP x y)
  have hM : Hc 2641 (cmulP x y) := Hc.cmulP xh yh (by decide)
  have Eq : ∀ c : Cq, Hc 50000 c → Sim Tryz.prog G0 true 31 [rqD (ptR c), rqD (ptR c)] (.bool true) := fun c hc => rEqRect_is ⟨⟨hc.1, hc.1⟩, ⟨hc.2, hc.2⟩⟩ ⟨⟨hc.1, hc.1⟩, ⟨hc.2, hc.2⟩⟩ (decide_eq_true rfl)
  have b4' := Eq _ (hM.mono (by decide))
  have hS : Hc 1321 (x.1 + y.1, x.2 + y.2) := ⟨xh.1.add yh.1 (by decide), xh.2.add yh.2 (by decide)⟩
  have c1' := rtAdd_is (r := ptR (x.1 + y.1, x.2 + y.2)) px py (hxp.mono (by decide)) (hyp.mono (by decide)) (by rw [ex, ey]; exact radd_pt _ _)
  have c2' := rcadd8 (xh.mono (by decide)) (yh.mono (by decide)) rfl
  have c3' : Sim Tryz.prog G0 false 96 _ (rqD (ptR (x.1 + y.1, x.2 + y.2))) := rPoint_is (x.1 + y.1, x.2 + y.2)
  have c4' := Eq _ (hS.mono (by decide))
  have n1 := rtNorm_is (r := (normP x, normP x)) px (hxp.mono (by decide)) (by rw [ex]; exact rnorm_pt x)
  have n2 := rcnorm8 (xh.mono (by decide)) rfl
  have hN : Ht 2641 (normP x) := (xh.1.mul xh.1 (c := 2640) (by decide)).add (xh.2.mul xh.2 (c := 2640) (by decide)) (by decide)
  have n3 := rEq_is (t := true) (hN.mono (show 2641 ≤ 50000 by decide)) (hN.mono (by decide)) (decide_eq_true rfl)
  have m1 := rtMul_is (RqR.of (hQt.mono (by decide))) py (hQt.mono (by decide)) (hyp.mono (by decide)) rfl
  have hR : Hr 10321 (rmul Q (ptR y)) := hQt.rmul hyp (by decide)
  have hb : ¬ y = (0, 0) → rhas (rmul Q (ptR y)) x := fun h => by
    have := div_back (a := x) P h
    rwa [hQ] at this
  have m2 := fun h => rtHas_o (hR.mono (by decide)) (xh.mono (by decide)) (rmul_ord _ _) (hb h)
  have hc := rinvE_c (ptR y) P
  have hq : q = if y = (0, 0) then 11 else 0 := by
    unfold rdivE at hQ
    by_cases g : y = (0, 0)
    · rw [if_pos (norm_has.2 g)] at hQ; cases hQ; rw [if_pos g]
    · rw [if_neg (fun h => g (norm_has.1 h))] at hQ; cases hQ; rw [if_neg g]
  clear hQ hb ex ey hc
  generalize rmul Q (ptR y) = R at *
  generalize cmulP x y = M at *
  generalize normP x = N at *
  obtain ⟨⟨_, _⟩, ⟨_, _⟩⟩ := R
  obtain ⟨⟨_, _⟩, ⟨_, _⟩⟩ := Q
  obtain ⟨_, _⟩ := M
  cases t
  · have ht := of_decide_eq_false ht
    rw [if_neg ht] at hq
    subst hq
    have m3 := m2 ht
    clear m2
    obtain ⟨_, _⟩ := x
    obtain ⟨_, _⟩ := y
    refine sim_mk tab_ok Tryz.func9 rfl (by kernel_rfl) rfl ⟨Nat.le_of_ble_eq_true rfl, Nat.le_of_ble_eq_true rfl⟩ ?_
    repeat' ((conv => whnf); first
      | with_reducible refine CallX.data ?_
      | refine RegE.lateS (ps := [(6, 3)]) rfl (by kernel_rfl) ?_ rfl
      | refine CallE.mk _ _ (known9_sim) ?_
      | refine CallE.mk _ _ (sF0) ?_
      | refine CallE.mk _ _ (sF1) ?_
      | refine CallE.mk _ _ (A) ?_
      | refine CallE.mk _ _ (B) ?_
      | refine CallE.mk _ _ (a1) ?_
      | refine CallE.mk _ _ (a2) ?_
      | refine CallE.mk _ _ (d1) ?_
      | refine CallE.mk _ _ (z1) ?_
      | refine CallE.mk _ _ (b1') ?_
      | refine CallE.mk _ _ (b2') ?_
      | refine CallE.mk _ _ (b3') ?_
      | refine CallE.mk _ _ (b4') ?_
      | refine CallE.mk _ _ (c1') ?_
      | refine CallE.mk _ _ (c2') ?_
      | refine CallE.mk _ _ (c3') ?_
      | refine CallE.mk _ _ (c4') ?_
      | refine CallE.mk _ _ (m1) ?_
      | refine CallE.mk _ _ (m3) ?_
      | refine CallE.mk _ _ (n1) ?_
      | refine CallE.mk _ _ (n2) ?_
      | refine CallE.mk _ _ (n3) ?_
      | refine RegE.early (Cd.mk (show regOk _ _ _ _ = true by kernel_rfl) ?_)
      | refine Cd.mk rfl ?_
      | refine Br.t ?_
      | refine Br.f ?_
      | refine NthE.mk _ rfl ?_
      | (refine TkE.fL ?_; (conv => whnf); fail_if_success (show forceL _ _))
      | refine Res.mk ?_
      | refine LateE.mk (by repeat first | exact True.intro | refine And.intro (by kernel_rfl) ?_) ?_
      | ((with_reducible refine EqE.idW ?_); first | refine EqE.mk P (by rw [wrap_in (by omega) (by omega)]; exact hP.symm) ?_ | with_reducible refine EqE.mk _ (n_i64 _ (by omega)) ?_)
      | ((with_reducible refine EqE.idM ?_); refine EqE.mk _ (n_rem80 _) ?_)
      | ((with_reducible refine EqE.idS ?_); (refine EqE.fP ?_; (conv => whnf); fail_if_success (show forceL _ _)))
      | refine Cd.mk (Nat.le_of_ble_eq_true rfl) ?_
      | refine Cd.mk (by first | omega | (simp only [length_limbs, length_la]; omega)) ?_)
    rfl
  · have ht := of_decide_eq_true ht
    rw [if_pos ht] at hq
    subst hq
    clear ht m2
    obtain ⟨_, _⟩ := x
    obtain ⟨_, _⟩ := y
    refine sim_mk tab_ok Tryz.func9 rfl (by kernel_rfl) rfl ⟨Nat.le_of_ble_eq_true rfl, Nat.le_of_ble_eq_true rfl⟩ ?_
    repeat' ((conv => whnf); first
      | with_reducible refine CallX.data ?_
      | refine RegE.lateS (ps := [(6, 3)]) rfl (by kernel_rfl) ?_ rfl
      | refine CallE.mk _ _ (known9_sim) ?_
      | refine CallE.mk _ _ (sF0) ?_
      | refine CallE.mk _ _ (sF1) ?_
      | refine CallE.mk _ _ (A) ?_
      | refine CallE.mk _ _ (B) ?_
      | refine CallE.mk _ _ (a1) ?_
      | refine CallE.mk _ _ (a2) ?_
      | refine CallE.mk _ _ (d1) ?_
      | refine CallE.mk _ _ (z1) ?_
      | refine CallE.mk _ _ (b1') ?_
      | refine CallE.mk _ _ (b2') ?_
      | refine CallE.mk _ _ (b3') ?_
      | refine CallE.mk _ _ (b4') ?_
      | refine CallE.mk _ _ (c1') ?_
      | refine CallE.mk _ _ (c2') ?_
      | refine CallE.mk _ _ (c3') ?_
      | refine CallE.mk _ _ (c4') ?_
      | refine CallE.mk _ _ (n1) ?_
      | refine CallE.mk _ _ (n2) ?_
      | refine CallE.mk _ _ (n3) ?_
      | refine RegE.early (Cd.mk (show regOk _ _ _ _ = true by kernel_rfl) ?_)
      | refine Cd.mk rfl ?_
      | refine Br.t ?_
      | refine Br.f ?_
      | refine NthE.mk _ rfl ?_
      | (refine TkE.fL ?_; (conv => whnf); fail_if_success (show forceL _ _))
      | refine Res.mk ?_
      | refine LateE.mk (by repeat first | exact True.intro | refine And.intro (by kernel_rfl) ?_) ?_
      | ((with_reducible refine EqE.idW ?_); first | refine EqE.mk P (by rw [wrap_in (by omega) (by omega)]; exact hP.symm) ?_ | with_reducible refine EqE.mk _ (n_i64 _ (by omega)) ?_)
      | ((with_reducible refine EqE.idM ?_); refine EqE.mk _ (n_rem80 _) ?_)
      | ((with_reducible refine EqE.idS ?_); (refine EqE.fP ?_; (conv => whnf); fail_if_success (show forceL _ _)))
      | refine Cd.mk (Nat.le_of_ble_eq_true rfl) ?_
      | refine Cd.mk (by first | omega | (simp only [length_limbs, length_la]; omega)) ?_)
    rfl
theorem rectpoints_at (r1 s1 : RC) (m : Int) (h0 : 0 ≤ m) (h1 : m ≤ 255) : Sim Tryz.prog G0 true 9 [.agg r1.cells, .agg s1.cells, .int .u8 m] (.bool true) := by
  obtain ⟨m, rfl⟩ := Int.eq_ofNat_of_zero_le h0
  exact rectpoints_sim r1 s1 m (by omega)
end Go.Ev.Ar

namespace Go.Ev
open Go
abbrev shRect : Sh := .struct [shCx, shCx]
theorem has_rt {ds : List D} (h : shRect.has ds) : ∃ (r s : RC), ds = r.cells ++ s.cells := by
  simp only [Sh.has, Sh.hasAll] at h
  obtain ⟨_, _, rfl, h1, _, _, rfl, h2, rfl⟩ := h
  obtain ⟨r, rfl⟩ := has_cx (by simp only [Sh.has, Sh.hasAll]; exact h1)
  obtain ⟨s, rfl⟩ := has_cx (by simp only [Sh.has, Sh.hasAll]; exact h2)
  exact ⟨r, s, by simp⟩
theorem arg_rt {x : D} (h : ArgOk shRect x) : ∃ (r s : RC), x = Ar.rqcell r s := by
  obtain ⟨ds, h1, rfl⟩ := h
  obtain ⟨r, s, rfl⟩ := has_rt h1
  exact ⟨r, s, rfl⟩
end Go.Ev
